/- Proved: the law WireDecodes of layer 12: the message that any bytes are is the document's; for every input, without a condition. -/
import Derived.Test.YtanmfddlncdncabMWireDecodesc
import Derived.SizedLaws
import Derived.ChangeSlices
import Derived.Test.YtanmfddlncdncabRows
import Derived.WalkKit
import Derived.ProofKit
import Derived.OpenShut
import Derived.ShutString
import Derived.ChangeOld
import Derived.Below
section
namespace Go.Proofs.Ytanmfddlncdncab.F
open Go.RowKit Go.Proofs.YtanmfddlncdncabW.PrintWords Go.Proofs.YtanmfddlncdncabW.PrintLast Go.Proofs.YtanmfddlncdncabW.PrintMore
attribute [local go_sem] max2_int min2_int max_two min_two max_three min_three max_four min_four
set_option linter.unusedVariables false
set_option linter.unusedSimpArgs false
mutual
def windbreakref01_Read.j1 : Nat → List Int → Int → Option (List Int × Int)
 | 0, _, _ => none
 | k + 1, x0, x4 => if (wrap64 ((x0.length : Int) - x4)) > 512 then (some (([] : List Int), 4)) else (windbreakref01_Read.l1 k x0 x4 ([] : List Int) (wrap64 ((x0.length : Int) - 1)))
def windbreakref01_Read.l1 : Nat → List Int → Int → List Int → Int → Option (List Int × Int)
 | 0, _, _, _, _ => none
 | k + 1, x0, x4, x5, x6 => if x6 ≥ x4 then (if 0 ≤ x6 then (if x6 < (x0.length : Int) then (if (wrap64 (x6 - 1)) ≥ x4 then (if 0 ≤ (wrap64 (x6 - 1)) then (if (wrap64 (x6 - 1)) < (x0.length : Int) then (if x5.length < 17592186044416 then (windbreakref01_Read.l1 k x0 x4 (x5 ++ [IntKind.u64.wrap ((IntKind.u64.wrap (rd x0 x6)) + (IntKind.u64.wrap (256 * (IntKind.u64.wrap (rd x0 (wrap64 (x6 - 1)))))))]) (wrap64 (x6 - 2))) else (none)) else (none)) else (none)) else (if x5.length < 17592186044416 then (windbreakref01_Read.l1 k x0 x4 (x5 ++ [IntKind.u64.wrap (rd x0 x6)]) (wrap64 (x6 - 2))) else (none))) else (none)) else (none)) else ((windbreakref01_cut.f k x5).bind fun t312 => ((windbreakref01_told.f k t312).bind fun bt315 => (some (bt315.1, bt315.2))))
def windbreakref01_Read.l0 : Nat → List Int → Int → Option (List Int × Int)
 | 0, _, _ => none
 | k + 1, x0, x4 => if x4 < (x0.length : Int) then (if 0 ≤ x4 then (if (rd x0 x4) = 0 then (windbreakref01_Read.l0 k x0 (wrap64 (x4 + 1))) else (windbreakref01_Read.j1 k x0 x4)) else (none)) else (windbreakref01_Read.j1 k x0 x4)
end
def windbreakref01_Read.f (k : Nat) (l0 : List Int) : Option (List Int × Int) := windbreakref01_Read.l0 k l0 0
set_option maxHeartbeats 8000000 in
set_option maxRecDepth 100000 in
theorem windbreakref01_Read.calls (k : Nat) (A0 : Option Addr) (c0 : Nat) (l0 : List Int) (r1 : List Int) (r2 : Int) (w : World) (hr0 : Kd.C (Kd.int .u8) w A0 l0.length l0) (hc0 : l0.length ≤ c0) (h : windbreakref01_Read.f k l0 = some (r1, r2)) :
  Calls Try.prog 34 #[.slice A0 l0.length c0] w fun e w' => ∃ v0_ : Value, e = .returned (.tuple #[v0_, .int .i64 r2]) ∧ Kd.R (Kd.int .u64) 37 w' w.heap.size (fun _ => True) v0_ r1 ∧ Below w.heap.size w w' := by
 have HR0 := Aside0.mk hr0; have HC0 := Aside0.mk hc0; clear hr0 hc0
 have HB := Aside0.mk (Below.refl w.heap.size w)
 have H : (windbreakref01_Read.l0 k l0 0) = some (r1, r2) := h
 clear h; have HC2 := Aside0.mk H; clear H
 go_enter Try.func34, Try.ntmps34
 go_upto_block 0 with (fail)
 go_cut [4] (fun v4 wc => ∃ (kq : Nat) (x4_1 : Int), v4 = .int .i64 x4_1 ∧ Aside0 (windbreakref01_Read.j1 kq l0 x4_1 = some (r1, r2)) ∧ Aside0 (kq ≤ k) ∧ Aside0 (Below w.heap.size w wc))
 case first =>
  have H := HC2.out
  clear HC2
  have H' := Aside0.mk H
  clear H
  go_wp2
  go_loopg [4] k (fun kq v4 w' => ∃ (x4_1 : Int), v4 = .int .i64 x4_1 ∧ Aside0 (windbreakref01_Read.l0 kq l0 x4_1 = some (r1, r2)) ∧ Aside0 (kq ≤ k) ∧ Aside0 (Below w.heap.size w w'))
  case atStart => exact ⟨(0), uG, H', ⟨Nat.le_refl _⟩, ⟨uB⟩⟩
  case round =>
   clear H'
   (try clear p2)
   obtain ⟨x4_1, rfl, HA, HK1, HB⟩ := hrel
   cases gk with
   | zero => exact absurd HA.out (by simp [windbreakref01_Read.l0])
   | succ k1 =>
    have H := HA.out
    clear HA
    simp only [windbreakref01_Read.l0] at H
    by_cases c3 : x4_1 < (l0.length : Int)
    ·
     rw [if_pos c3] at H
     have c3b0 : decide (x4_1 < (l0.length : Int)) = true := decide_eq_true c3
     clear c3
     (first | rw [c3b0] | (simp only [i64_w, i32_w]; rw [c3b0]) | skip)
     replace H := uT H; obtain ⟨c4, H⟩ := H
     have c4b0 : decide (0 ≤ x4_1) = true := decide_eq_true c4
     clear c4
     by_cases c5 : (rd l0 x4_1) = 0
     ·
      rw [if_pos c5] at H
      have c5b0 : ((rd l0 x4_1) == 0) = true := beq_iff_eq.mpr c5
      have c5b1 : ((rd l0 x4_1) != 0) = false := bne_eq_false_iff_eq.mpr c5
      clear c5
      have H' := Aside0.mk H
      clear H
      have p303 : 0 ≤ (x4_1 : Int) := uO
      have q303 : x4_1 < (l0.length : Int) := uO
      obtain ⟨ad303, e303, hx303_0⟩ := Kd.at_int HR0.out x4_1 p303 q303
      cases e303
      replace hx303_0 := (HB.out.cell (World.block_lt_of_cell? w _ hx303_0)).trans hx303_0
      replace p303 := eq_true p303
      replace q303 := eq_true q303
      go_wp2
      go_roundg k1
      case measure => have := HK1.out; omega
      case rel => exact ⟨(wrap64 (x4_1 + 1)), uG, H', ⟨by have := HK1.out; omega⟩, ⟨uB⟩⟩
     rw [if_neg c5] at H
     have c5b0 : ((rd l0 x4_1) == 0) = false := beq_eq_false_iff_ne.mpr c5
     have c5b1 : ((rd l0 x4_1) != 0) = true := bne_iff_ne.mpr c5
     have H' := Aside0.mk H
     clear H
     have p303 : 0 ≤ (x4_1 : Int) := uO
     have q303 : x4_1 < (l0.length : Int) := uO
     obtain ⟨ad303, e303, hx303_0⟩ := Kd.at_int HR0.out x4_1 p303 q303
     cases e303
     replace hx303_0 := (HB.out.cell (World.block_lt_of_cell? w _ hx303_0)).trans hx303_0
     replace p303 := eq_true p303
     replace q303 := eq_true q303
     go_wp2
     go_meet
     case rel => exact ⟨_, (x4_1), uG, H', ⟨by have := HK1.out; first | omega | exact Nat.le_refl _⟩, ⟨uB⟩⟩
    rw [if_neg c3] at H
    have c3b0 : decide (x4_1 < (l0.length : Int)) = false := decide_eq_false c3
    clear c3
    (first | rw [c3b0] | (simp only [i64_w, i32_w]; rw [c3b0]) | skip)
    have H' := Aside0.mk H
    clear H
    go_wp2
    go_meet
    case rel => exact ⟨_, (x4_1), uG, H', ⟨by have := HK1.out; first | omega | exact Nat.le_refl _⟩, ⟨uB⟩⟩
 case rest =>
  clear HC2; (try clear p2 p2); (try clear c3); (try clear c3b0); (try clear p3); (try clear q3); (try clear hx3); (try clear c4); (try clear c4b0); (try clear c5); (try clear c5b0); (try clear c5b1); (try clear hx303_0); (try clear p303); (try clear q303)
  obtain ⟨kq, x4_1, rfl, HA, HJ1, HB⟩ := hcut
  cases kq with
  | zero => exact absurd HA.out (by simp [windbreakref01_Read.j1])
  | succ kj1 =>
   have H := HA.out
   clear HA
   simp only [windbreakref01_Read.j1] at H
   by_cases c6 : (wrap64 ((l0.length : Int) - x4_1)) > 512
   ·
    rw [if_pos c6] at H
    have c6b0 : decide (512 < (wrap64 ((l0.length : Int) - x4_1))) = true := decide_eq_true c6
    clear c6
    simp only [Option.some.injEq, Prod.mk.injEq] at H
    obtain ⟨rfl, rfl⟩ := H
    go_wp2
    go_ret2
    exact ⟨_, by first | rfl | (simp [errW_none, errW_some] <;> rfl) | (simp [*, errW_none, errW_some] <;> rfl), by first | exact Kd.R_nil _ _ _ _ _ | exact Kd.N_nil _ _ _ _ _ | exact Kd.V_nil _ _ _ _ _ | exact Kd.Q_nil _ _ _ _ _ | exact Kd.S_nil _ _ _ _ _, uB⟩
   rw [if_neg c6] at H
   have c6b0 : decide (512 < (wrap64 ((l0.length : Int) - x4_1))) = false := decide_eq_false c6
   clear c6
   have H' := Aside0.mk H
   clear H
   go_wp2
   go_loopg [5, 6] kj1 (fun kq v5 v6 w' => ∃ (x5_2 : List Int) (x6_2 : Int), v6 = .int .i64 x6_2 ∧ Aside0 (windbreakref01_Read.l1 kq l0 x4_1 x5_2 x6_2 = some (r1, r2)) ∧ Aside0 (kq ≤ kj1) ∧ Aside0 (Kd.R (Kd.int .u64) 37 w' w.heap.size (fun _ => True) v5 x5_2) ∧ Aside0 (Below w.heap.size w w'))
   case atStart => exact ⟨(([] : List Int)), (wrap64 ((l0.length : Int) - 1)), uG, H', ⟨Nat.le_refl _⟩, ⟨by first | exact Kd.R_nil _ _ _ _ _ | exact Kd.N_nil _ _ _ _ _ | exact Kd.V_nil _ _ _ _ _ | exact Kd.Q_nil _ _ _ _ _ | exact Kd.S_nil _ _ _ _ _⟩, ⟨uB⟩⟩
   case round =>
    clear H'
    (try clear p2 p2); (try clear c3); (try clear c3b0); (try clear p3 p3); (try clear q3 q3); (try clear hx3); (try clear c4); (try clear c4b0); (try clear c5); (try clear c5b0); (try clear c5b1); (try clear c6); (try clear c6b0); (try clear p6); (try clear hx303_0); (try clear p303); (try clear q303)
    obtain ⟨x5_2, x6_2, rfl, HA, HK2, HO_5, HB⟩ := hrel
    cases gk with
    | zero => exact absurd HA.out (by simp [windbreakref01_Read.l1])
    | succ k2 =>
     have H := HA.out
     clear HA
     simp only [windbreakref01_Read.l1] at H
     by_cases c7 : x6_2 ≥ x4_1
     ·
      rw [if_pos c7] at H
      have c7b0 : decide (x4_1 ≤ x6_2) = true := decide_eq_true c7
      clear c7
      replace H := uT H; obtain ⟨c8, H⟩ := H
      have c8b0 : decide (0 ≤ x6_2) = true := decide_eq_true c8
      clear c8
      replace H := uT H; obtain ⟨c9, H⟩ := H
      have c9b0 : decide (x6_2 < (l0.length : Int)) = true := decide_eq_true c9
      clear c9
      by_cases c10 : (wrap64 (x6_2 - 1)) ≥ x4_1
      ·
       rw [if_pos c10] at H
       have c10b0 : decide (x4_1 ≤ (wrap64 (x6_2 - 1))) = true := decide_eq_true c10
       clear c10
       obtain ⟨ji11, hji11⟩ : ∃ j_ : Int, (wrap64 (x6_2 - 1)) = j_ := ⟨_, rfl⟩
       first | rw [hji11] at H | simp only [hji11] at H
       (try rw [hji11] at c10b0)
       have hji11w : (IntKind.i64.wrap (x6_2 - 1)) = ji11 := (i64_w _).trans hji11
       replace H := uT H; obtain ⟨c12, H⟩ := H
       have c12b0 : decide (0 ≤ (ji11)) = true := decide_eq_true c12
       clear c12
       replace H := uT H; obtain ⟨c13, H⟩ := H
       have c13b0 : decide ((ji11) < (l0.length : Int)) = true := decide_eq_true c13
       clear c13
       replace H := uT H; obtain ⟨c14, H⟩ := H
       have LMc14 := Aside0.mk c14; clear c14
       obtain ⟨y306, hy306⟩ : ∃ y_ : List Int, y_ = (x5_2 ++ [IntKind.u64.wrap ((IntKind.u64.wrap (rd l0 x6_2)) + (IntKind.u64.wrap (256 * (IntKind.u64.wrap (rd l0 (ji11))))))]) := ⟨_, rfl⟩
       replace H : (windbreakref01_Read.l1 k2 l0 x4_1 y306 (wrap64 (x6_2 - 2))) = some (r1, r2) := by first | (rw [hy306]; with_reducible exact H) | (have H2_ := (Option.bind_some _ _).symm.trans H; rw [hy306]; with_reducible exact H2_) | (have H2_ := (Option.bind_some _ _).symm.trans H; with_reducible exact H2_) | with_reducible exact H | (rw [hy306]; exact H) | exact H
       have Ny306 := Aside0.mk hy306; clear hy306
       have H' := Aside0.mk H
       clear H
       have p304 : 0 ≤ (x6_2 : Int) := uO
       have q304 : x6_2 < (l0.length : Int) := uO
       obtain ⟨ad304, e304, hx304_0⟩ := Kd.at_int HR0.out x6_2 p304 q304
       cases e304
       replace hx304_0 := (HB.out.cell (World.block_lt_of_cell? w _ hx304_0)).trans hx304_0
       replace p304 := eq_true p304
       replace q304 := eq_true q304
       have p305 : 0 ≤ ((ji11) : Int) := uO
       have q305 : (ji11) < (l0.length : Int) := uO
       obtain ⟨ad305, e305, hx305_0⟩ := Kd.at_int HR0.out (ji11) p305 q305
       obtain rfl : ad304 = ad305 := (by injection e305)
       replace hx305_0 := (HB.out.cell (World.block_lt_of_cell? w _ hx305_0)).trans hx305_0
       replace p305 := eq_true p305
       replace q305 := eq_true q305
       go_wp2_with (first | ((with_reducible refine gate_builtin (b := .append) (xs := #[.tmp 52, .tmp 54]) rfl ?_); at_builtin; refine Kd.R_append (Kd.int .u64) (w0 := w) w.heap.size rfl (.tmp 52) (.tmp 54) 80 37 (.int .u64 0) 8 rfl Try.underlying80 info37 rfl (by decide) (by omega) u5 x5_2 (IntKind.u64.wrap ((IntKind.u64.wrap (rd l0 x6_2)) + (IntKind.u64.wrap (256 * (IntKind.u64.wrap (rd l0 (ji11))))))) [.int .u64 (IntKind.u64.wrap ((IntKind.u64.wrap (rd l0 x6_2)) + (IntKind.u64.wrap (256 * (IntKind.u64.wrap (rd l0 (ji11)))))))] (fun _ => True) (fun _ => False) rfl rfl ?aP (fun _ hk => hk.elim) ?aF ?aO ?aB ?aS ?aL ?_; (case aP => exact rfl); (case aB => exact uB); (case aF => exact (fun _ _ => trivial)); (case aO => exact (uR HO_5.out)); (case aS => exact (below_size uB)); (case aL => have := LMc14.out; omega); intro v307 w15 ho hb hg hat; rw [← Ny306.out] at ho; replace HB := Aside0.mk (hb); have HO308 := Aside0.mk (ho); clear HO_5; clear ho hb hg hat))
       first | go_roundg k2 | ((try simp only [← hji11] at H'); simp only [← hji11]; go_roundg k2)
       case measure => have := HJ1.out; have := HK2.out; omega
       case rel => first | exact ⟨(y306), (wrap64 (x6_2 - 2)), uG, H', ⟨by have := HJ1.out; have := HK2.out; omega⟩, ⟨uR HO308.out⟩, ⟨uB⟩⟩ | (simp only [← hji11] at H'; exact ⟨(y306), (wrap64 (x6_2 - 2)), uG, H', ⟨by have := HJ1.out; have := HK2.out; omega⟩, ⟨uR HO308.out⟩, ⟨uB⟩⟩)
      rw [if_neg c10] at H
      have c10b0 : decide (x4_1 ≤ (wrap64 (x6_2 - 1))) = false := decide_eq_false c10
      clear c10
      replace H := uT H; obtain ⟨c16, H⟩ := H
      have LMc16 := Aside0.mk c16; clear c16
      obtain ⟨y309, hy309⟩ : ∃ y_ : List Int, y_ = (x5_2 ++ [IntKind.u64.wrap (rd l0 x6_2)]) := ⟨_, rfl⟩
      replace H : (windbreakref01_Read.l1 k2 l0 x4_1 y309 (wrap64 (x6_2 - 2))) = some (r1, r2) := by first | (rw [hy309]; with_reducible exact H) | (have H2_ := (Option.bind_some _ _).symm.trans H; rw [hy309]; with_reducible exact H2_) | (have H2_ := (Option.bind_some _ _).symm.trans H; with_reducible exact H2_) | with_reducible exact H | (rw [hy309]; exact H) | exact H
      have Ny309 := Aside0.mk hy309; clear hy309
      have H' := Aside0.mk H
      clear H
      have p304 : 0 ≤ (x6_2 : Int) := uO
      have q304 : x6_2 < (l0.length : Int) := uO
      obtain ⟨ad304, e304, hx304_0⟩ := Kd.at_int HR0.out x6_2 p304 q304
      cases e304
      replace hx304_0 := (HB.out.cell (World.block_lt_of_cell? w _ hx304_0)).trans hx304_0
      replace p304 := eq_true p304
      replace q304 := eq_true q304
      go_wp2_with (first | ((with_reducible refine gate_builtin (b := .append) (xs := #[.tmp 52, .tmp 54]) rfl ?_); at_builtin; refine Kd.R_append (Kd.int .u64) (w0 := w) w.heap.size rfl (.tmp 52) (.tmp 54) 80 37 (.int .u64 0) 8 rfl Try.underlying80 info37 rfl (by decide) (by omega) u5 x5_2 (IntKind.u64.wrap (rd l0 x6_2)) [.int .u64 (IntKind.u64.wrap (rd l0 x6_2))] (fun _ => True) (fun _ => False) rfl rfl ?aP (fun _ hk => hk.elim) ?aF ?aO ?aB ?aS ?aL ?_; (case aP => exact rfl); (case aB => exact uB); (case aF => exact (fun _ _ => trivial)); (case aO => exact (uR HO_5.out)); (case aS => exact (below_size uB)); (case aL => have := LMc16.out; omega); intro v310 w17 ho hb hg hat; rw [← Ny309.out] at ho; replace HB := Aside0.mk (hb); have HO311 := Aside0.mk (ho); clear HO_5; clear ho hb hg hat))
      first | go_roundg k2 | ((try simp only [← hji11] at H'); simp only [← hji11]; go_roundg k2)
      case measure => have := HJ1.out; have := HK2.out; omega
      case rel => first | exact ⟨(y309), (wrap64 (x6_2 - 2)), uG, H', ⟨by have := HJ1.out; have := HK2.out; omega⟩, ⟨uR HO311.out⟩, ⟨uB⟩⟩ | (simp only [← hji11] at H'; exact ⟨(y309), (wrap64 (x6_2 - 2)), uG, H', ⟨by have := HJ1.out; have := HK2.out; omega⟩, ⟨uR HO311.out⟩, ⟨uB⟩⟩)
     rw [if_neg c7] at H
     have c7b0 : decide (x4_1 ≤ x6_2) = false := decide_eq_false c7
     clear c7
     replace H := ub H; obtain ⟨t312, A18, H⟩ := H
     replace H := ub H; obtain ⟨⟨t315, t316⟩, A19, H⟩ := H
     (try dsimp only at H)
     simp only [Option.some.injEq, Prod.mk.injEq] at H
     obtain ⟨rfl, rfl⟩ := H
     obtain ⟨Ao20, co20, eo20⟩ := Kd.R_slice HO_5.out
     subst eo20
     go_wp2_with (first | ((with_reducible refine gate_callee (f := 54) rfl ?_); refine goesL_ (some 57) rfl rfl Try.func54 (by kernel_rfl) rfl #[.slice Ao20 x5_2.length co20] rfl uM ?_; (with_reducible refine (windbreakref01_cut.calls k2 (fun k_ => some k_ = (.slice Ao20 x5_2.length co20 : Value).ownBlock) (.slice Ao20 x5_2.length co20) x5_2 t312 w _ ?side1 ?side2 A18.out).mono ?_); (case side1 => repeat (first | (with_reducible first | exact HB.out | apply below_alloc | apply pw_below_drewN | apply below_drew1) | exact HB.out)); (case side2 => exact Kd.R_tight rfl HO_5.out); rintro e w21 ⟨v313, rfl, ho0, hb, hkp⟩; refine ⟨_, rfl, ?_⟩; have HO314 := Aside0.mk (Kd.R_mono (ok' := fun k_ => True) ho0 (fun k_ hk_ => trivial)); replace HB := Aside0.mk (hb); clear HO_5; (try clear hb); (try clear hkp); (try clear ho0); obtain ⟨Ao22, co22, eo22⟩ := Kd.R_slice HO314.out; subst eo22) | ((with_reducible refine gate_callee (f := 53) rfl ?_); refine goesL_ (some 58) rfl rfl Try.func53 (by kernel_rfl) rfl #[.slice Ao22 t312.length co22] rfl uM ?_; (with_reducible refine (windbreakref01_told.calls k2 _ _ t312 t315 t316 _ ?side1 ?side2 A19.out).mono ?_); (case side1 => exact uC (Kd.R_reads' HO314.out).2.2); (case side2 => exact (Kd.R_reads' HO314.out).2.1); rintro e w23 ⟨v317, rfl, ho0, hb⟩; refine ⟨_, rfl, ?_⟩; have HO318 := Aside0.mk (Kd.R_lower (Kd.R_new' ho0 (Kd.R_lt (uR HO314.out))) (below_size uB)); replace HO314 := ueR HO314 ho0 hb; replace HB := uy hb; (try clear hb ho0)))
     go_ret2
     exact ⟨_, uF, by (with_reducible repeat (first | apply Kd.R_alloc | apply Kd.R_drewN | apply Kd.R_drew)); exact Kd.R_mono HO318.out (fun _ hk => trivial), uB⟩
end Go.Proofs.Ytanmfddlncdncab.F
end
section
namespace Go.Proofs.Ytanmfddlncdncab.Z
open Go.RowKit Go.Proofs.Ytanmfddlncdncab.F Go.Proofs.YtanmfddlncdncabW.PrintWords
set_option linter.unusedSimpArgs false
set_option linter.unusedVariables false
def dg (x : Int) : List Int := [x % 65536, x / 65536 % 65536, x / 65536 / 65536 % 65536, x / 65536 / 65536 / 65536 % 65536]
theorem wdiv {x : Int} (h0 : 0 ≤ x) (h1 : x < 18446744073709551616) (c : Int) (hc : 0 < c) : IntKind.u64.wrap (Int.tdiv x c) = x / c := by
  rw [Int.tdiv_eq_ediv_of_nonneg h0]
  have h2 := Int.ediv_nonneg h0 (Int.le_of_lt hc)
  have h3 := Int.ediv_le_self c h0
  exact wu64_of h2 (by omega)
theorem in_step (a d : List Int) (i : Nat) (x : Int) (hx : 0 ≤ x ∧ x < 18446744073709551616) (hd : d.length ≤ 1000000) (hi : i ≤ 1000000) {r : List Int}
    (h : Evt (fun k => windbreakref01_In.l0 k a (d ++ dg x) ((i + 1 : Nat) : Int)) r) : Evt (fun k => windbreakref01_In.l1 k a d (i : Int) x 0) r := by
  refine Evt.succ ?_
  simp only [windbreakref01_In.l1]
  refine Evt.ite_pos (by omega) (Evt.ite_pos (by omega) ?_)
  rw [Int.tmod_eq_emod_of_nonneg hx.1, wdiv hx.1 hx.2 65536 (by omega), w64 (by omega) (by omega)]
  refine Evt.succ ?_
  simp only [windbreakref01_In.l1]
  refine Evt.ite_pos (by omega) (Evt.ite_pos (by simp; omega) ?_)
  rw [Int.tmod_eq_emod_of_nonneg (show 0 ≤ x / 65536 by omega), wdiv (show 0 ≤ x / 65536 by omega) (by omega) 65536 (by omega), w64 (by omega) (by omega)]
  refine Evt.succ ?_
  simp only [windbreakref01_In.l1]
  refine Evt.ite_pos (by omega) (Evt.ite_pos (by simp; omega) ?_)
  rw [Int.tmod_eq_emod_of_nonneg (show 0 ≤ x / 65536 / 65536 by omega), wdiv (show 0 ≤ x / 65536 / 65536 by omega) (by omega) 65536 (by omega), w64 (by omega) (by omega)]
  refine Evt.succ ?_
  simp only [windbreakref01_In.l1]
  refine Evt.ite_pos (by omega) (Evt.ite_pos (by simp; omega) ?_)
  rw [Int.tmod_eq_emod_of_nonneg (show 0 ≤ x / 65536 / 65536 / 65536 by omega), wdiv (show 0 ≤ x / 65536 / 65536 / 65536 by omega) (by omega) 65536 (by omega), w64 (by omega) (by omega)]
  refine Evt.succ ?_
  simp only [windbreakref01_In.l1]
  refine Evt.ite_neg (by omega) ?_
  rw [w64 (by omega) (by omega)]
  refine h.congr (fun k => ?_) rfl
  simp [dg]
theorem in_loop (a : List Int) (ha : a.length ≤ 1000) (hd : Dig (b64 : Int) a) (n : Nat) : ∀ i : Nat, i ≤ a.length → a.length - i = n → Evt (fun k => windbreakref01_In.l0 k a ((a.take i).flatMap dg) (i : Int)) (strip (a.flatMap dg)) := by
  have hlen : ∀ l : List Int, (l.flatMap dg).length = 4 * l.length := by
    intro l
    induction l with
    | nil => rfl
    | cons x l ih => simp only [List.flatMap_cons, List.length_append, ih, dg, List.length_cons, List.length_nil]; omega
  induction n with
  | zero =>
    intro i hi hn
    refine Evt.succ ?_
    simp only [windbreakref01_In.l0]
    refine Evt.ite_neg (by omega) ?_
    rw [List.take_of_length_le (by omega)]
    refine Evt.bind (windbreakref01_cut_ev _ (by rw [hlen]; simp [maxLen]; omega)) (h := fun t _ => some t) (Evt.pure _)
  | succ n ih =>
    intro i hi hn
    have hlt : i < a.length := by omega
    refine Evt.succ ?_
    simp only [windbreakref01_In.l0]
    refine Evt.ite_pos (by omega) (Evt.ite_pos (by omega) ?_)
    have hx : rd a (i : Int) = a[i] := by simp [rd_nat, hlt]
    have hr := hd a[i] (List.getElem_mem hlt)
    rw [hx]
    refine in_step a _ i _ hr (by rw [hlen, List.length_take]; omega) (by omega) ?_
    have := ih (i + 1) (by omega) (by omega)
    rw [List.take_succ_eq_append_getElem hlt, List.flatMap_append] at this
    refine this.congr (fun k => ?_) rfl
    simp
theorem ref_In_ev (a : List Int) (ha : a.length ≤ 1000) (hd : Dig (b64 : Int) a) : Evt (fun k => windbreakref01_In.f k a) (digs (num a)) := by
  have h := in_loop a ha hd a.length 0 (Nat.zero_le _) (by omega)
  obtain ⟨m, hm, _, hv, he⟩ := val_base a hd
  refine h.congr (fun k => rfl) ?_
  have e2 : a.flatMap dg = m := he.symm
  rw [e2, strip_digs hm]
  unfold num16 num
  rw [hv]
theorem byts_step {u x : Nat} (hx : x < 65536) (h : 0 < u) : (byts (u * 65536 + x)).reverse = (byts u).reverse ++ [((x / 256 : Nat) : Int)] ++ [((x % 256 : Nat) : Int)] := by
  rw [show byts (u * 65536 + x) = (((u * 65536 + x) % b8 : Nat) : Int) :: toD b8 ((u * 65536 + x) / b8) from toD_pos b8_two (by omega)]
  rw [toD_pos b8_two (v := (u * 65536 + x) / b8) (by simp only [b8]; omega)]
  rw [show (u * 65536 + x) % b8 = x % 256 from by simp only [b8]; omega, show (u * 65536 + x) / b8 % b8 = x / 256 from by simp only [b8]; omega, show (u * 65536 + x) / b8 / b8 = u from by simp only [b8]; omega]
  simp
theorem byts_two {x : Nat} (hx : x < 65536) (h : 255 < x) : (byts x).reverse = [((x / 256 : Nat) : Int)] ++ [((x % 256 : Nat) : Int)] := by
  rw [show byts x = ((x % b8 : Nat) : Int) :: toD b8 (x / b8) from toD_pos b8_two (by omega)]
  rw [toD_pos b8_two (v := x / b8) (by simp only [b8]; omega)]
  rw [show x / b8 / b8 = 0 from by simp only [b8]; omega, toD_zero, show x / b8 % b8 = x / 256 from by simp only [b8]; omega]
  simp [b8]
theorem byts_one {x : Nat} (h0 : 0 < x) (h : x ≤ 255) : (byts x).reverse = [((x % 256 : Nat) : Int)] := by
  rw [show byts x = ((x % b8 : Nat) : Int) :: toD b8 (x / b8) from toD_pos b8_two h0]
  rw [show x / b8 = 0 from by simp only [b8]; omega, toD_zero]
  simp [b8]
theorem ref_Bytes_loop (v : Nat) (hv : v < lim) : ∀ i : Nat, i ≤ (digs v).length →
    Evt (fun k => windbreakref01_Bytes.l0 k (digs v) (byts (v / b16 ^ i)).reverse ((i : Int) - 1)) (byts v).reverse := by
  have hd := digs_len hv
  intro i
  induction i with
  | zero =>
    intro _
    refine Evt.succ ?_
    simp only [windbreakref01_Bytes.l0]
    refine Evt.ite_neg (by omega) ?_
    simp only [Nat.pow_zero, Nat.div_one]
    exact Evt.pure _
  | succ i ih =>
    intro hi
    have hs := ih (by omega)
    refine Evt.succ ?_
    simp only [windbreakref01_Bytes.l0]
    rw [show ((i + 1 : Nat) : Int) - 1 = (i : Int) from by omega, rd_nat, toD_getD b16_two, w64 (by omega) (by omega)]
    have hx : v / b16 ^ i % b16 < 65536 := Nat.mod_lt _ (by decide)
    have hu : v / b16 ^ i = v / b16 ^ (i + 1) * 65536 + v / b16 ^ i % b16 := by
      rw [Nat.pow_succ, ← Nat.div_div_eq_div_mul]
      have := Nat.div_add_mod (v / b16 ^ i) b16
      simp only [b16] at this ⊢
      omega
    obtain ⟨N, hN⟩ : ∃ N : Nat, N = 8000 := ⟨_, rfl⟩
    have hlen : (byts (v / b16 ^ (i + 1))).length ≤ N := by
      refine toD_len_le b8_two ?_
      have h1 : v / b16 ^ (i + 1) ≤ v := Nat.div_le_self _ _
      have h2 : v < b16 ^ (digs v).length := toD_lt_pow b16_two v
      have h3 : b16 ^ (digs v).length ≤ b8 ^ N := by
        rw [show b16 = b8 ^ 2 from by decide, ← Nat.pow_mul]
        exact Nat.pow_le_pow_right (by decide) (by omega)
      exact Nat.lt_of_le_of_lt h1 (Nat.lt_of_lt_of_le h2 h3)
    have ht : i + 1 = (digs v).length → 0 < v / b16 ^ i % b16 := by
      intro he
      have e0 : (toD b16 v).length = i + 1 := he.symm
      have h1 := can_last (toD_can b16_two v) (show (toD b16 v).length ≠ 0 by omega)
      rw [show (toD b16 v).length - 1 = i from by omega, toD_getD b16_two] at h1
      omega
    have hz : v / b16 ^ (i + 1) = 0 → i + 1 = (digs v).length := by
      intro he
      have h1 : v < b16 ^ (i + 1) := (Nat.div_eq_zero_iff_lt (Nat.pow_pos (by decide))).1 he
      have h2 := toD_len_le b16_two h1
      have h3 : (digs v).length = (toD b16 v).length := rfl
      omega
    rw [hu] at hs
    generalize v / b16 ^ i % b16 = x at *
    generalize v / b16 ^ (i + 1) = u at *
    have ed : IntKind.u64.wrap (Int.tdiv (x : Int) 256) % 256 = ((x / 256 : Nat) : Int) := by
      rw [show (256 : Int) = ((256 : Nat) : Int) from rfl, tdiv_nat, wu64_of (by omega) (by omega)]
      omega
    have em : Int.tmod (x : Int) 256 % 256 = ((x % 256 : Nat) : Int) := by
      rw [show (256 : Int) = ((256 : Nat) : Int) from rfl, tmod_nat]
      omega
    rw [ed, em]
    refine Evt.ite_pos (by omega) ?_
    by_cases h0 : u = 0
    · subst h0
      have hx0 := ht (hz rfl)
      rw [show byts 0 = [] from toD_zero b8]
      refine Evt.ite_neg (by simp) (Evt.ite_pos (by omega) (Evt.ite_pos (by omega) ?_))
      rw [Nat.zero_mul, Nat.zero_add] at hs
      by_cases h1 : (x : Int) > 255
      · refine Evt.ite_pos h1 (Evt.ite_pos (by simp) ?_)
        rw [byts_two hx (by omega)] at hs
        refine Evt.bind (Evt.pure _) (Evt.ite_pos (by simp) ?_)
        exact hs
      · refine Evt.ite_neg h1 (Evt.ite_pos (by simp) ?_)
        rw [byts_one hx0 (by omega)] at hs
        exact hs
    · have hp : 0 < (byts u).length := by
        refine List.length_pos_iff.2 (fun e => h0 ((toD_eq_nil b8_two).1 e))
      refine Evt.ite_pos (by simp; omega) (Evt.ite_pos (by omega) (Evt.ite_pos (by omega) (Evt.ite_pos (by simp; omega) ?_)))
      rw [byts_step hx (by omega)] at hs
      refine Evt.bind (Evt.pure _) (Evt.ite_pos (by simp; omega) ?_)
      exact hs
theorem ref_Bytes_ev (a : List Int) (ha : a.length ≤ maxLen) (da : Dig (b64 : Int) a) : Evt (fun k => windbreakref01_Bytes.f k a) (bytesV a) := by
  unfold windbreakref01_Bytes.f bytesV
  rw [windbreakref01_Right_eq ha]
  simp only [Option.bind_some]
  cases hA : rightB a with
  | true =>
    obtain ⟨h1, c1⟩ := (rightB_iff a).1 hA
    rw [if_pos rfl]
    refine Evt.ite_pos rfl ?_
    refine Evt.bind (ref_In_ev a (by omega) da) ?_
    have hv := num_lt_lim da (by omega)
    have hd := digs_len hv
    have hl := ref_Bytes_loop (num a) hv (digs (num a)).length (Nat.le_refl _)
    rw [(Nat.div_eq_zero_iff_lt (Nat.pow_pos (by decide))).2 (toD_lt_pow b16_two (num a)), show byts 0 = [] from toD_zero b8] at hl
    rw [w64 (by omega) (by omega)]
    exact hl
  | false =>
    rw [if_neg (by simp)]
    exact Evt.ite_neg (by simp) (Evt.pure _)
theorem drop_getD {l : List Int} {i : Nat} (h : i < l.length) : l.drop i = l.getD i 0 :: l.drop (i + 1) := by
  rw [List.drop_eq_getElem_cons h, List.getD_eq_getElem?_getD, List.getElem?_eq_getElem h]
  rfl
theorem ref_list_loop (l : List Int) (hb : l.length ≤ 100000) (h : ∀ x ∈ l, 0 ≤ x ∧ x ≤ 1073741824) (d : Nat) : ∀ (i : Nat) (xs : List Int), i ≤ l.length → l.length - i = d → xs.length + 10 * d < 100000000 → Evt (fun k => windbreakref12_list.l0 k l xs (i : Int)) (xs ++ encL (l.drop i)) := by
  induction d with
  | zero =>
    intro i xs hi hd hl
    refine Evt.succ ?_
    simp only [windbreakref12_list.l0]
    refine Evt.ite_neg (by omega) ((Evt.pure _).congr (fun k => rfl) ?_)
    rw [List.drop_of_length_le (by omega), encL_nil, List.append_nil]
  | succ d ih =>
    intro i xs hi hd hl
    have hlt : i < l.length := by omega
    refine Evt.succ ?_
    simp only [windbreakref12_list.l0]
    refine Evt.ite_pos (by omega) (Evt.ite_pos (by omega) ?_)
    have hx : 0 ≤ l.getD i 0 ∧ l.getD i 0 ≤ 1073741824 := by
      rw [List.getD_eq_getElem?_getD, List.getElem?_eq_getElem hlt]
      exact h _ (List.getElem_mem hlt)
    rw [rd_nat, drop_getD hlt, encL_cons]
    obtain ⟨m, hm⟩ := Int.eq_ofNat_of_zero_le hx.1
    rw [hm] at hx ⊢
    rw [wu64_of (by omega) (by omega), w64 (by omega) (by omega), Int.toNat_natCast]
    refine Evt.bind (ref_Number_ev m (by omega)) ?_
    have h2 := encN_ten (n := m) (by omega)
    refine Evt.ite_pos (by omega) ?_
    have h3 := ih (i + 1) (xs ++ encN m) (by omega) (by omega) (by simp; omega)
    rw [List.append_assoc] at h3
    exact h3
theorem ref_list_ev (l : List Int) (hb : l.length ≤ 16384) (h : ∀ x ∈ l, 0 ≤ x ∧ x ≤ 1073741824) : Evt (fun k => windbreakref12_list.f k l) (encN l.length ++ encL l) := by
  unfold windbreakref12_list.f
  rw [wu64_of (by omega) (by omega)]
  refine Evt.bind (ref_Number_ev l.length (by omega)) ?_
  have h2 := encN_ten (n := l.length) (by omega)
  exact ref_list_loop l (by omega) h l.length 0 _ (by omega) (by omega) (by omega)
theorem drop_getD2 {l : List (List Int)} {i : Nat} (h : i < l.length) : l.drop i = l.getD i [] :: l.drop (i + 1) := by
  rw [List.drop_eq_getElem_cons h, List.getD_eq_getElem?_getD, List.getElem?_eq_getElem h]
  rfl
theorem ref_Enc_l1 (a0 a1 a2 a3 : Int) (l4 l5 : List Int) (l : List (List Int)) (hb : l.length ≤ 100000) (h : ∀ a ∈ l, a.length ≤ maxLen ∧ Dig (b64 : Int) a ∧ rightB a = true ∧ a.length ≤ 4) (d : Nat) : ∀ (i : Nat) (xs : List Int), i ≤ l.length → l.length - i = d → xs.length + 42 * d < 100000000 →
    Evt (fun k => windbreakref12_Encode.l1 k xs (i : Int) a0 a1 a2 a3 l4 l5 l) (if (xs ++ encB (l.drop i)).length > 1048576 then ([], 16) else (xs ++ encB (l.drop i), 0)) := by
  induction d with
  | zero =>
    intro i xs hi hd hl
    refine Evt.succ ?_
    simp only [windbreakref12_Encode.l1]
    refine Evt.ite_neg (by omega) ?_
    rw [List.drop_of_length_le (by omega), show encB [] = [] from rfl, List.append_nil]
    by_cases hg : xs.length > 1048576
    · rw [if_pos hg]
      exact Evt.ite_pos (by omega) (Evt.pure _)
    · rw [if_neg hg]
      exact Evt.ite_neg (by omega) (Evt.pure _)
  | succ d ih =>
    intro i xs hi hd hl
    have hlt : i < l.length := by omega
    refine Evt.succ ?_
    simp only [windbreakref12_Encode.l1]
    refine Evt.ite_pos (by omega) (Evt.ite_pos (by omega) ?_)
    have hx : l.getD i [] ∈ l := by
      rw [List.getD_eq_getElem?_getD, List.getElem?_eq_getElem hlt]
      exact List.getElem_mem hlt
    rw [show rd_L3 l (i : Int) = l.getD i [] from rfl, drop_getD2 hlt, encB_cons]
    obtain ⟨h0, h1, h2, h3⟩ := h _ hx
    generalize l.getD i [] = a at h0 h1 h2 h3 ⊢
    have h4 := bytesV_len h1 h2 h3
    have h5 := encN_ten (n := (bytesV a).length) (by omega)
    have h6 : (encY (bytesV a)).length ≤ 42 := by unfold encY; simp; omega
    rw [w64 (by omega) (by omega)]
    refine Evt.bind (ref_Bytes_ev a h0 h1) (Evt.bind (ref_Bytes9_ev _ (by omega)) (Evt.ite_pos (by omega) ?_))
    have h7 := ih (i + 1) (xs ++ encY (bytesV a)) (by omega) (by omega) (by simp; omega)
    rw [List.append_assoc] at h7
    exact h7
theorem ref_Enc_l0 (a0 a1 a2 a3 : Int) (l4 l5 : List Int) (l6 : List (List Int)) (r : List Int × Int) (L : List Int) (hL : L.length = 4) (h : ∀ x ∈ L, 0 ≤ x ∧ x ≤ 1073741824) (fin : ∀ j : Nat, Evt (fun k => windbreakref12_Encode.l0 k (encL L) L 4 a0 a1 a2 a3 l4 l5 l6) r) (d : Nat) : ∀ (i : Nat) (xs : List Int), i ≤ 4 → 4 - i = d → xs ++ encL (L.drop i) = encL L → xs.length ≤ 40 → Evt (fun k => windbreakref12_Encode.l0 k xs L (i : Int) a0 a1 a2 a3 l4 l5 l6) r := by
  induction d with
  | zero =>
    intro i xs hi hd hx hl
    obtain rfl : i = 4 := by omega
    rw [List.drop_of_length_le (by omega), encL_nil, List.append_nil] at hx
    subst hx
    exact fin 0
  | succ d ih =>
    intro i xs hi hd hx hl
    have hlt : i < L.length := by omega
    refine Evt.succ ?_
    simp only [windbreakref12_Encode.l0]
    refine Evt.ite_pos (by omega) (Evt.ite_pos (by omega) (Evt.ite_pos (by omega) ?_))
    rw [drop_getD hlt, encL_cons] at hx
    have hm : 0 ≤ L.getD i 0 ∧ L.getD i 0 ≤ 1073741824 := by
      rw [List.getD_eq_getElem?_getD, List.getElem?_eq_getElem hlt]
      exact h _ (List.getElem_mem hlt)
    rw [rd_nat]
    generalize L.getD i 0 = x at hx hm ⊢
    obtain ⟨m, rfl⟩ := Int.eq_ofNat_of_zero_le hm.1
    rw [Int.toNat_natCast] at hx
    rw [wu64_of (by omega) (by omega), w64 (by omega) (by omega)]
    refine Evt.bind (ref_Number_ev m (by omega)) ?_
    have h2 := encN_ten (n := m) (by omega)
    refine Evt.ite_pos (by omega) ?_
    have hlen := congrArg List.length hx
    have b0 := encL_len h
    rw [hL] at b0
    refine ih (i + 1) (xs ++ encN m) (by omega) (by omega) (by rw [List.append_assoc]; exact hx) ?_
    simp at hlen ⊢
    omega
theorem ref_Encode_ev (a0 a1 a2 a3 : Int) (l4 l5 : List Int) (l6 : List (List Int)) (h : ∀ a ∈ l6, a.length ≤ maxLen ∧ Dig (b64 : Int) a) : Evt (fun k => windbreakref12_Encode.f k a0 a1 a2 a3 l4 l5 l6) (encodeV a0 a1 a2 a3 l4 l5 l6) := by
  unfold windbreakref12_Encode.f encodeV windbreakref12_Right.f
  rw [wire_Right_eq _ _ _ _ _ _ _ (fun a ha => (h a ha).1)]
  simp only [Option.bind_some]
  cases hR : rightV a0 a1 a2 a3 l4 l5 l6 with
  | false => rw [if_neg (by decide)]; exact Evt.ite_neg (by decide) (Evt.pure _)
  | true =>
    rw [if_pos rfl]
    obtain ⟨o0, o1, o2, o3, n4, n5, n6, h4, h5, h6⟩ := right_parts hR
    have b4 := encL_len h4
    have b5 := encL_len h5
    have hm : ∀ x ∈ [a0, a1, a2, a3], 0 ≤ x ∧ x ≤ 1073741824 := by intro x hx; simp at hx; rcases hx with rfl | rfl | rfl | rfl <;> assumption
    have b0 := encL_len hm
    have t4 := encN_ten (n := l4.length) (by omega)
    have t5 := encN_ten (n := l5.length) (by omega)
    have t6 := encN_ten (n := l6.length) (by omega)
    simp only [List.length_cons, List.length_nil] at b0
    refine Evt.ite_pos rfl ?_
    refine ref_Enc_l0 a0 a1 a2 a3 l4 l5 l6 _ [a0, a1, a2, a3] rfl hm (fun _ => ?_) 4 0 [] (by omega) (by omega) (by simp) (by simp)
    refine Evt.succ ?_
    simp only [windbreakref12_Encode.l0]
    refine Evt.ite_neg (by omega) ?_
    refine Evt.bind (ref_list_ev l4 n4 h4) (Evt.ite_pos (by simp; omega) ?_)
    refine Evt.bind (Evt.pure _) (Evt.bind (ref_list_ev l5 n5 h5) (Evt.ite_pos (by simp; omega) ?_))
    refine Evt.bind (Evt.pure _) ?_
    rw [wu64_of (by omega) (by omega)]
    refine Evt.bind (ref_Number_ev l6.length (by omega)) (Evt.ite_pos (by simp; omega) ?_)
    exact ref_Enc_l1 a0 a1 a2 a3 l4 l5 l6 (by omega) (fun a ha => ⟨(h a ha).1, (h a ha).2, h6 a ha⟩) l6.length 0 _ (by omega) (by omega) (by simp; omega)
theorem strip_split (l : List Int) : ∃ n, l = strip l ++ List.replicate n 0 := by
  induction l with
  | nil => exact ⟨0, rfl⟩
  | cons d l ih =>
    obtain ⟨n, hn⟩ := ih
    simp only [strip]
    by_cases h : strip l = []
    · rw [if_pos h]
      rw [h, List.nil_append] at hn
      by_cases h0 : d = 0
      · rw [if_pos h0]
        refine ⟨n + 1, ?_⟩
        rw [h0, List.replicate_succ, List.nil_append, ← hn]
      · rw [if_neg h0]
        refine ⟨n, ?_⟩
        rw [List.singleton_append, ← hn]
    · rw [if_neg h]
      refine ⟨n, ?_⟩
      rw [List.cons_append, ← hn]
theorem can_of_val {B : Nat} (hB : 2 ≤ B) {l : List Int} (h : Dig (B : Int) l) (hv : l ≠ [] → (B : Int) ^ (l.length - 1) ≤ val (B : Int) l) : Can l := by
  by_cases e : l = []
  · subst e; exact Can.nil
  · have h1 := hv e
    obtain ⟨n, hn⟩ := strip_split l
    have h2 := val_lt (show (0 : Int) < (B : Int) by omega) (strip_dig h)
    rw [strip_val] at h2
    have h3 : l.length = (strip l).length + n := by
      have := congrArg List.length hn
      simpa using this
    have h4 : n = 0 := by
      by_cases hn0 : n = 0
      · exact hn0
      · have := pow_mono (show (0 : Int) < (B : Int) by omega) (show (strip l).length ≤ l.length - 1 by omega)
        omega
    subst h4
    rw [List.replicate_zero, List.append_nil] at hn
    rw [hn]
    exact strip_can l
def grp (d : List Int) : Int := d.getD 0 0 + 65536 * (d.getD 1 0 + 65536 * (d.getD 2 0 + 65536 * d.getD 3 0))
def outN : Nat → List Int → List Int
  | 0, _ => []
  | n + 1, d => grp d :: outN n (d.drop 4)
theorem grp_range {d : List Int} (h : Dig (b16 : Int) d) : 0 ≤ grp d ∧ grp d < (b64 : Int) := by
  have h0 := h.getD b16_pos 0
  have h1 := h.getD b16_pos 1
  have h2 := h.getD b16_pos 2
  have h3 := h.getD b16_pos 3
  unfold grp
  simp only [b16, b64] at *
  omega
theorem val_four (d : List Int) : val (b16 : Int) d = grp d + (b64 : Int) * val (b16 : Int) (d.drop 4) := by
  unfold grp
  simp only [b16, b64]
  match d with
  | [] => simp [val]
  | [a] => simp [val]
  | [a, b] => simp [val]
  | [a, b, c] => simp [val]
  | a :: b :: c :: e :: d => simp [val]; omega
theorem outN_facts (n : Nat) : ∀ d : List Int, Dig (b16 : Int) d → d.length ≤ 4 * n → Dig (b64 : Int) (outN n d) ∧ val (b64 : Int) (outN n d) = val (b16 : Int) d ∧ (outN n d).length = n := by
  induction n with
  | zero =>
    intro d _ h
    have : d = [] := List.length_eq_zero_iff.1 (by omega)
    subst this
    exact ⟨Dig.nil, rfl, rfl⟩
  | succ n ih =>
    intro d hd h
    obtain ⟨i1, i2, i3⟩ := ih (d.drop 4) (hd.drop 4) (by simp; omega)
    refine ⟨Dig.cons.2 ⟨grp_range hd, i1⟩, ?_, by simp [outN, i3]⟩
    rw [val_four d]
    simp only [outN, val, i2]
theorem out_limbs (v : Nat) : outN (((digs v).length + 3) / 4) (digs v) = limbs v := by
  obtain ⟨f1, f2, f3⟩ := outN_facts (((digs v).length + 3) / 4) (digs v) (toD_dig b16_two v) (by omega)
  rw [val_toD b16_two] at f2
  have hc : Can (outN (((digs v).length + 3) / 4) (digs v)) := by
    refine can_of_val b64_two f1 (fun hne => ?_)
    rw [f2, f3, b64_pow, pow_cast, ← Nat.pow_mul]
    have hl : 0 < ((digs v).length + 3) / 4 := by rw [← f3]; exact List.length_pos_iff.2 hne
    have hd : digs v ≠ [] := by intro e; rw [e] at hl; simp at hl
    have h1 := val_pos b16_pos (toD_dig b16_two v) (toD_can b16_two v) hd
    rw [val_toD b16_two, pow_cast] at h1
    have h2 : b16 ^ (4 * (((digs v).length + 3) / 4 - 1)) ≤ b16 ^ ((digs v).length - 1) := Nat.pow_le_pow_right (by decide) (by omega)
    exact Int.le_trans (Int.ofNat_le.2 h2) h1
  have := limbs_num f1 hc
  rw [← this]
  unfold num
  rw [f2]
  rfl
theorem out_inner (d acc : List Int) (i : Nat) (hd : Dig (b16 : Int) d) (hacc : acc.length ≤ 1000000) (hi : i ≤ 4000000) {r : List Int × Bool}
    (h : Evt (fun k => windbreakref01_Out.l0 k d (acc ++ [grp (d.drop i)]) ((i + 4 : Nat) : Int)) r) : Evt (fun k => windbreakref01_Out.l1 k d acc (i : Int) 0 3) r := by
  have step : ∀ (x : Int) (j : Nat), j ≤ 3 → 0 ≤ x → x * 65536 + 65535 < 18446744073709551616 →
      Evt (fun k => windbreakref01_Out.l1 k d acc (i : Int) (x * 65536 + (d.drop i).getD j 0) ((j : Int) - 1)) r →
      Evt (fun k => windbreakref01_Out.l1 k d acc (i : Int) x (j : Int)) r := by
    intro x j hj hx hx2 hs
    have hdig := (hd.drop i).getD b16_pos j
    simp only [b16] at hdig
    refine Evt.succ ?_
    simp only [windbreakref01_Out.l1]
    refine Evt.ite_pos (by omega) ?_
    rw [w64 (show -9223372036854775808 ≤ (i : Int) + (j : Int) by omega) (by omega), w64 (show -9223372036854775808 ≤ (j : Int) - 1 by omega) (by omega), wu64_of (show 0 ≤ x * 65536 by omega) (by omega)]
    by_cases hlt : i + j < d.length
    · refine Evt.ite_pos (by omega) (Evt.ite_pos (by omega) ?_)
      have e : rd d ((i : Int) + (j : Int)) = (d.drop i).getD j 0 := by
        rw [rd_getD, show ((i : Int) + (j : Int)).toNat = i + j from by omega]
        simp [List.getD_eq_getElem?_getD]
      rw [e, wu64_of (by omega) (by omega)]
      exact hs
    · refine Evt.ite_neg (by omega) ?_
      have e : (d.drop i).getD j 0 = 0 := by
        simp [List.getD_eq_getElem?_getD, List.getElem?_eq_none (by omega : d.length ≤ i + j)]
      rw [e, Int.add_zero] at hs
      exact hs
  have h0 := (hd.drop i).getD b16_pos 0
  have h1 := (hd.drop i).getD b16_pos 1
  have h2 := (hd.drop i).getD b16_pos 2
  have h3 := (hd.drop i).getD b16_pos 3
  simp only [b16] at h0 h1 h2 h3
  refine step 0 3 (by omega) (by omega) (by omega) ?_
  refine (step (0 * 65536 + (d.drop i).getD 3 0) 2 (by omega) (by omega) (by omega) ?_).congr (fun k => rfl) rfl
  refine (step ((0 * 65536 + (d.drop i).getD 3 0) * 65536 + (d.drop i).getD 2 0) 1 (by omega) (by omega) (by omega) ?_).congr (fun k => rfl) rfl
  refine (step (((0 * 65536 + (d.drop i).getD 3 0) * 65536 + (d.drop i).getD 2 0) * 65536 + (d.drop i).getD 1 0) 0 (by omega) (by omega) (by omega) ?_).congr (fun k => rfl) rfl
  refine Evt.succ ?_
  simp only [windbreakref01_Out.l1]
  refine Evt.ite_neg (by omega) (Evt.ite_pos (by omega) ?_)
  rw [w64 (by omega) (by omega)]
  refine h.congr (fun k => ?_) rfl
  have e : (((0 * 65536 + (d.drop i).getD 3 0) * 65536 + (d.drop i).getD 2 0) * 65536 + (d.drop i).getD 1 0) * 65536 + (d.drop i).getD 0 0 = grp (d.drop i) := by
    unfold grp; omega
  rw [e, show (i : Int) + 4 = ((i + 4 : Nat) : Int) from by omega]
theorem out_loop (d : List Int) (hd : Dig (b16 : Int) d) (hlen : d.length ≤ 1000000) (n : Nat) : ∀ (i : Nat) (acc : List Int), acc.length ≤ i → i ≤ d.length + 3 → (d.length - i + 3) / 4 = n →
    Evt (fun k => windbreakref01_Out.l0 k d acc (i : Int)) (acc ++ outN n (d.drop i), decide ((acc ++ outN n (d.drop i)).length ≤ 64)) := by
  induction n with
  | zero =>
    intro i acc hacc hi hn
    refine Evt.succ ?_
    simp only [windbreakref01_Out.l0]
    refine Evt.ite_neg (by omega) ?_
    simp only [outN, List.append_nil]
    refine (Evt.pure _).congr (fun k => rfl) ?_
    congr 1
    simp only [decide_eq_decide]
    omega
  | succ n ih =>
    intro i acc hacc hi hn
    refine Evt.succ ?_
    simp only [windbreakref01_Out.l0]
    refine Evt.ite_pos (by omega) ?_
    refine out_inner d acc i hd (by omega) (by omega) ?_
    refine (ih (i + 4) (acc ++ [grp (d.drop i)]) (by simp; omega) (by omega) (by omega)).congr (fun k => rfl) ?_
    simp [outN, List.drop_drop]
theorem ref_Out_ev (v : Nat) (hv : v < lim) : Evt (fun k => windbreakref01_Out.f k (digs v)) (limbs v, decide (v < b64 ^ 64)) := by
  have hlen : (digs v).length ≤ 1000000 := Nat.le_trans (digs_len hv) (by omega)
  have h := out_loop (digs v) (toD_dig b16_two v) hlen (((digs v).length + 3) / 4) 0 [] (Nat.le_refl _) (by omega) (by omega)
  refine h.congr (fun k => rfl) ?_
  rw [List.nil_append, List.drop_zero, out_limbs]
  have := limbs_long v
  simp only [this]
theorem ref_told_ev (v : Nat) (hv : v < lim) : Evt (fun k => windbreakref01_told.f k (digs v)) (toldV v) := by
  unfold windbreakref01_told.f toldV
  refine Evt.bind (ref_Out_ev v hv) ?_
  by_cases h : v < b64 ^ 64
  · simp only [h, decide_true, if_true]
    exact Evt.pure _
  · simp only [h, decide_false, if_false]
    exact Evt.ite_neg (by simp) (Evt.pure _)
theorem pow_b16_b8 (p : Nat) : (b16 : Int) ^ p = (b8 : Int) ^ (2 * p) := by
  rw [pow_cast, pow_cast]
  congr 1
  rw [show b16 = b8 ^ 2 from by decide, ← Nat.pow_mul]
theorem rev_at {b : List Int} {k q : Nat} (hq : q < (b.drop k).reverse.length) : (b.drop k).reverse[q] = b.getD (b.length - 1 - q) 0 := by
  have hq' : q < b.length - k := by simpa using hq
  rw [List.getElem_reverse, List.getElem_drop, List.getD_eq_getElem?_getD, List.getElem?_eq_getElem (show b.length - 1 - q < b.length by omega)]
  simp only [Option.getD_some, List.length_drop]
  congr 1
  omega
theorem ref_Read_l1 (b : List Int) (k : Nat) (hk : k ≤ b.length) (hb : b.length ≤ 9223372036854775807) (db : Dig (b8 : Int) b) (h5 : (b.drop k).length ≤ 512) (n : Nat) : ∀ (d : List Int), Dig (b16 : Int) d → d.length ≤ 256 → (b.length - k + 1) / 2 - d.length = n →
    val (b16 : Int) d = val (b8 : Int) ((b.drop k).reverse.take (2 * d.length)) →
    Evt (fun m => windbreakref01_Read.l1 m b (k : Int) d ((b.length : Int) - 1 - 2 * (d.length : Int))) (limbs (val (b8 : Int) (b.drop k).reverse).toNat, 0) := by
  have h5' : b.length - k ≤ 512 := by simpa using h5
  induction n with
  | zero =>
    intro d dd hd hn hv
    refine Evt.succ ?_
    simp only [windbreakref01_Read.l1]
    refine Evt.ite_neg (by omega) ?_
    rw [List.take_of_length_le (by simp; omega)] at hv
    refine Evt.bind (windbreakref01_cut_ev d (by simp [maxLen]; omega)) ?_
    have hlt := val_b8_lt (db.drop k) h5
    have hnum : num16 d = (val (b8 : Int) (b.drop k).reverse).toNat := by unfold num16; rw [hv]
    rw [strip_digs dd, hnum]
    have hlim : (val (b8 : Int) (b.drop k).reverse).toNat < lim := Nat.lt_of_lt_of_le hlt (lim_pow (by omega))
    have ht := ref_told_ev _ hlim
    unfold toldV at ht
    rw [if_pos hlt] at ht
    exact Evt.bind ht (h := fun t _ => some (t.1, t.2)) (Evt.pure _)
  | succ n ih =>
    intro d dd hd hn hv
    refine Evt.succ ?_
    simp only [windbreakref01_Read.l1]
    have hx := db.getD b8_pos (b.length - 1 - 2 * d.length)
    have hy := db.getD b8_pos (b.length - 1 - (2 * d.length + 1))
    have r0 := rev_at (b := b) (k := k) (q := 2 * d.length) (by simp; omega)
    rw [w64 (show -9223372036854775808 ≤ (b.length : Int) - 1 - 2 * (d.length : Int) - 1 by omega) (by omega), w64 (show -9223372036854775808 ≤ (b.length : Int) - 1 - 2 * (d.length : Int) - 2 by omega) (by omega)]
    refine Evt.ite_pos (by omega) (Evt.ite_pos (by omega) (Evt.ite_pos (by omega) ?_))
    rw [rd_getD b ((b.length : Int) - 1 - 2 * (d.length : Int)), show ((b.length : Int) - 1 - 2 * (d.length : Int)).toNat = b.length - 1 - 2 * d.length from by omega]
    by_cases h2 : (b.length : Int) - 1 - 2 * (d.length : Int) - 1 ≥ (k : Int)
    · have r1 := rev_at (b := b) (k := k) (q := 2 * d.length + 1) (by simp; omega)
      refine Evt.ite_pos h2 (Evt.ite_pos (by omega) (Evt.ite_pos (by omega) (Evt.ite_pos (by omega) ?_)))
      rw [rd_getD b ((b.length : Int) - 1 - 2 * (d.length : Int) - 1), show ((b.length : Int) - 1 - 2 * (d.length : Int) - 1).toNat = b.length - 1 - (2 * d.length + 1) from by omega]
      generalize b.getD (b.length - 1 - 2 * d.length) 0 = x at *
      generalize b.getD (b.length - 1 - (2 * d.length + 1)) 0 = y at *
      simp only [b8] at hx hy
      rw [wu64_of (x := x) (by omega) (by omega), wu64_of (x := y) (by omega) (by omega), wu64_of (x := 256 * y) (by omega) (by omega), wu64_of (x := x + 256 * y) (by omega) (by omega)]
      have h := ih (d ++ [x + 256 * y]) (Dig.append.2 ⟨dd, fun z hz => by simp at hz; subst hz; simp only [b16]; omega⟩) (by simp; omega) (by simp; omega) ?_
      · refine h.congr (fun m => ?_) rfl
        congr 1
        simp
        omega
      · rw [val_append, hv, pow_b16_b8, List.length_append, List.length_singleton, show 2 * (d.length + 1) = 2 * d.length + 1 + 1 from by omega, val_take_step _ _ _ (by simp; omega), val_take_step _ _ _ (by simp; omega), r0, r1, Int.pow_succ]
        simp only [val]
        rw [show ((b8 : Nat) : Int) = 256 from rfl]
        generalize (256 : Int) ^ (2 * d.length) = P
        generalize val 256 _ = V
        grind
    · refine Evt.ite_neg h2 (Evt.ite_pos (by omega) ?_)
      generalize b.getD (b.length - 1 - 2 * d.length) 0 = x at *
      simp only [b8] at hx
      rw [wu64_of (x := x) (by omega) (by omega)]
      have h := ih (d ++ [x]) (Dig.append.2 ⟨dd, fun z hz => by simp at hz; subst hz; simp only [b16]; omega⟩) (by simp; omega) (by simp; omega) ?_
      · refine h.congr (fun m => ?_) rfl
        congr 1
        simp
        omega
      · rw [val_append, hv, pow_b16_b8, List.length_append, List.length_singleton, show 2 * (d.length + 1) = 2 * d.length + 1 + 1 from by omega]
        rw [List.take_of_length_le (i := 2 * d.length + 1 + 1) (by simp; omega), ← List.take_of_length_le (i := 2 * d.length + 1) (l := (b.drop k).reverse) (by simp; omega), val_take_step _ _ _ (by simp; omega), r0]
        rw [List.take_take, Nat.min_eq_left (by omega)]
        simp [val]
theorem ref_Read_ev (b : List Int) (hb : b.length ≤ maxLen) (db : Dig (b8 : Int) b) (k : Nat) (hk : k ≤ b.length) (hz : ∀ j, j < k → b.getD j 0 = 0) (hn : k < b.length → b.getD k 0 ≠ 0) : Evt (fun m => windbreakref01_Read.f m b) (readV (b.drop k)) := by
  have hbl : b.length ≤ 9223372036854775807 := by simp only [maxLen] at hb; omega
  have hj : Evt (fun m => windbreakref01_Read.j1 m b (k : Int)) (readV (b.drop k)) := by
    refine Evt.succ ?_
    simp only [windbreakref01_Read.j1]
    unfold readV
    rw [w64 (show -9223372036854775808 ≤ (b.length : Int) - (k : Int) by omega) (by omega), w64 (show -9223372036854775808 ≤ (b.length : Int) - 1 by omega) (by omega)]
    by_cases hc : (b.drop k).length > 512
    · have hc' : b.length - k > 512 := by simpa using hc
      rw [if_pos hc]
      exact Evt.ite_pos (by omega) (Evt.pure _)
    · have hc' : ¬ b.length - k > 512 := by simpa using hc
      rw [if_neg hc]
      refine Evt.ite_neg (by omega) ?_
      have h := ref_Read_l1 b k hk hbl db (by omega) ((b.length - k + 1) / 2) [] Dig.nil (by simp) (by simp) rfl
      refine h.congr (fun m => ?_) rfl
      simp
  have hl : ∀ (n i : Nat), k - i = n → i ≤ k → Evt (fun m => windbreakref01_Read.l0 m b (i : Int)) (readV (b.drop k)) := by
    intro n
    induction n with
    | zero =>
      intro i h1 h2
      obtain rfl : i = k := by omega
      refine Evt.succ ?_
      simp only [windbreakref01_Read.l0]
      by_cases h : i < b.length
      · refine Evt.ite_pos (by omega) (Evt.ite_pos (by omega) ?_)
        rw [rd_nat]
        exact Evt.ite_neg (hn h) hj
      · exact Evt.ite_neg (by omega) hj
    | succ n ih =>
      intro i h1 h2
      refine Evt.succ ?_
      simp only [windbreakref01_Read.l0]
      refine Evt.ite_pos (by omega) (Evt.ite_pos (by omega) ?_)
      rw [rd_nat, w64 (by omega) (by omega)]
      exact Evt.ite_pos (hz i (by omega)) (ih (i + 1) (by omega) (by omega))
  exact (hl k 0 (by omega) (Nat.zero_le _)).congr (fun m => rfl) rfl
theorem refRdW_ev (b : List Int) (d : Dig 256 b) (h : b.length ≤ 32) : ∃ k, windbreakref01_Read.f k b = some (rdW b) := by
  obtain ⟨k, h1, h2, h3, h4⟩ := leadW_ex b
  refine Evt.get ((ref_Read_ev b (by simp only [maxLen]; omega) d k h1 h2 h3).congr (fun k => rfl) ?_)
  unfold readV rdW bvW
  rw [if_neg (by rw [List.length_drop]; omega), h4]
def readBs : Nat → List Int → Option (List (List Int) × List Int)
  | 0, l => some ([], l)
  | n + 1, l => if (bytV 32 l).2.1 = 0 then (readBs n (bytV 32 l).2.2).map fun r => ((rdW (bytV 32 l).1).1 :: r.1, r.2) else none
def zero16 : Msg × Int := ((0, 0, 0, 0, [], [], []), 16)
def refT (b : List Int) (a0 a1 a2 a3 : Int) (l : List Int) : Msg × Int :=
  if (readI l).2.1 = true then (if (readI (readI l).2.2).2.1 = true then (if (numV 16384 (readI (readI l).2.2).2.2).2.1 = 0 then (match readBs (numV 16384 (readI (readI l).2.2).2.2).1 (numV 16384 (readI (readI l).2.2).2.2).2.2 with | some s => if encodeV a0 a1 a2 a3 (readI l).1 (readI (readI l).2.2).1 s.1 = (b, 0) then ((a0, a1, a2, a3, (readI l).1, (readI (readI l).2.2).1, s.1), 0) else zero16 | none => zero16) else zero16) else zero16) else zero16
def refDecV (b : List Int) : Msg × Int := if 1048576 < b.length then zero16 else match readN 4 b with | some r => refT b (r.1.getD 0 0) (r.1.getD 1 0) (r.1.getD 2 0) (r.1.getD 3 0) r.2 | none => zero16
theorem readBs_dig : ∀ (n : Nat) (l : List Int) (r : List (List Int) × List Int), Dig 256 l → readBs n l = some r → ∀ a ∈ r.1, Dig (b64 : Int) a ∧ a.length ≤ 64 := by
  intro n
  induction n with
  | zero => intro l r hd h; simp only [readBs, Option.some.injEq] at h; subst h; exact fun a ha => absurd ha (by simp)
  | succ n ih =>
    intro l r hd h
    rw [readBs] at h
    by_cases c : (bytV 32 l).2.1 = 0
    · rw [if_pos c] at h
      obtain ⟨q, hq, rfl⟩ := Option.map_eq_some_iff.mp h
      obtain ⟨d1, d2, _⟩ := bytV_dig (most := 32) hd
      have hs := bytV_short (most := 32) (l := l)
      intro a ha
      rcases List.mem_cons.1 ha with rfl | ha
      · refine ⟨toD_dig b64_two _, (limbs_long _).2 ?_⟩
        exact val_b8_lt d2 (by omega)
      · exact ih _ q d1 hq a ha
    · rw [if_neg c] at h; simp at h
theorem readBs_enc : ∀ (l : List (List Int)) (x : List Int), (∀ a ∈ l, NatM a) → readBs l.length (encB l ++ x) = some (l, x) := by
  intro l
  induction l with
  | nil => intro x _; rfl
  | cons a l ih =>
    intro x h
    obtain ⟨h0, h1, h2⟩ := h a (by simp)
    have hb := bytesV_len h0 h1 h2
    rw [List.length_cons, readBs, encB_cons, List.append_assoc, bytV_enc (most := 32) hb (by omega)]
    simp only [if_true]
    rw [ih x (fun b hb => h b (by simp [hb]))]
    have e : (rdW (bytesV a)).1 = a := by
      unfold rdW bytesV
      rw [if_pos h1]
      show limbs (bvW (byts (num a)).reverse) = a
      rw [bvW_bytes, limbs_num h0 ((rightB_iff a).1 h1).2]
    simp only [Option.map_some, e]
theorem encode_iff {a0 a1 a2 a3 : Int} {l4 l5 : List Int} {l6 : List (List Int)} {b : List Int} (h : encodeV a0 a1 a2 a3 l4 l5 l6 = (b, 0)) : rightV a0 a1 a2 a3 l4 l5 l6 = true ∧ b = encM a0 a1 a2 a3 l4 l5 l6 ∧ b.length ≤ 1048576 := by
  unfold encodeV at h
  by_cases c : rightV a0 a1 a2 a3 l4 l5 l6 = true
  · rw [if_pos c] at h
    by_cases d : (encM a0 a1 a2 a3 l4 l5 l6).length > 1048576
    · rw [if_pos d] at h; simp at h
    · rw [if_neg d] at h
      simp only [Prod.mk.injEq, and_true] at h
      exact ⟨c, h.symm, by rw [← h]; omega⟩
  · rw [if_neg c] at h; simp at h
theorem refDec_enc {a0 a1 a2 a3 : Int} {l4 l5 : List Int} {l6 : List (List Int)} (h : rightV a0 a1 a2 a3 l4 l5 l6 = true) (hd : ∀ a ∈ l6, Dig (b64 : Int) a) (hl : (encM a0 a1 a2 a3 l4 l5 l6).length ≤ 1048576) : refDecV (encM a0 a1 a2 a3 l4 l5 l6) = ((a0, a1, a2, a3, l4, l5, l6), 0) := by
  obtain ⟨o0, o1, o2, o3, n4, n5, n6, h4, h5, h6⟩ := right_parts h
  have he : encodeV a0 a1 a2 a3 l4 l5 l6 = (encM a0 a1 a2 a3 l4 l5 l6, 0) := by
    unfold encodeV
    rw [if_pos h, if_neg (by omega)]
  have e : encM a0 a1 a2 a3 l4 l5 l6 = encL [a0, a1, a2, a3] ++ (encN l4.length ++ (encL l4 ++ (encN l5.length ++ (encL l5 ++ (encN l6.length ++ (encB l6 ++ [])))))) := by
    unfold encM
    simp only [List.append_assoc, List.append_nil]
  unfold refDecV
  rw [if_neg (by omega)]
  have hr : readN 4 (encM a0 a1 a2 a3 l4 l5 l6) = some ([a0, a1, a2, a3], encN l4.length ++ (encL l4 ++ (encN l5.length ++ (encL l5 ++ (encN l6.length ++ (encB l6 ++ [])))))) := by
    rw [e, show (4 : Nat) = [a0, a1, a2, a3].length from rfl, readN_enc _ _ (by intro x hx; simp at hx; rcases hx with rfl | rfl | rfl | rfl <;> assumption)]
  rw [hr]
  show refT _ a0 a1 a2 a3 _ = _
  unfold refT
  rw [readI_enc n4 h4]
  simp only [if_true]
  rw [readI_enc n5 h5]
  simp only [if_true]
  rw [numV_enc n6 (by omega)]
  simp only [if_true]
  rw [readBs_enc l6 [] (fun a ha => ⟨hd a ha, h6 a ha⟩)]
  exact if_pos he
theorem refDec_eq {b : List Int} (hd : Dig 256 b) : refDecV b = decodeV b := by
  rcases decode_ok hd with h | ⟨a0, a1, a2, a3, l4, l5, l6, h, e, hr, hn, hl⟩
  · rw [h]
    have key : ∀ a0 a1 a2 a3 l4 l5 l6, encodeV a0 a1 a2 a3 l4 l5 l6 = (b, 0) → (∀ a ∈ l6, Dig (b64 : Int) a) → False := by
      intro a0 a1 a2 a3 l4 l5 l6 he hdl
      obtain ⟨k1, k2, k3⟩ := encode_iff he
      have := decode_enc k1 hdl (by rw [← k2]; exact k3)
      rw [← k2, h] at this
      simp at this
    unfold refDecV
    by_cases c0 : 1048576 < b.length
    · rw [if_pos c0]; rfl
    · rw [if_neg c0]
      rcases hr : readN 4 b with _ | r
      · rfl
      · obtain ⟨e, e3, e4, e5⟩ := readN_ok _ _ _ hd hr
        show refT b _ _ _ _ r.2 = _
        unfold refT
        have R1 := @readI_ok r.2 e5
        generalize readI r.2 = p at R1 ⊢
        have R2 := @readI_ok p.2.2
        generalize readI p.2.2 = q at R2 ⊢
        by_cases c1 : p.2.1 = true
        · rw [if_pos c1]
          by_cases c2 : q.2.1 = true
          · rw [if_pos c2]
            obtain ⟨_, dq⟩ := R2 (R1 c1).2 c2
            by_cases c3 : (numV 16384 q.2.2).2.1 = 0
            · rw [if_pos c3]
              rcases hs : readBs (numV 16384 q.2.2).1 (numV 16384 q.2.2).2.2 with _ | s
              · rfl
              · have ds := readBs_dig _ _ s (numV_dig dq) hs
                exact if_neg (fun he => key _ _ _ _ _ _ _ he (fun a ha => (ds a ha).1))
            · rw [if_neg c3]; rfl
          · rw [if_neg c2]; rfl
        · rw [if_neg c1]; rfl
  · rw [h]
    have hd6 : ∀ a ∈ l6, Dig (b64 : Int) a := fun a ha => (hn a ha).1
    rw [e] at hl ⊢
    exact refDec_enc hr hd6 hl
end Go.Proofs.Ytanmfddlncdncab.Z
end
section
namespace Go.Proofs.Ytanmfddlncdncab.F
open Go.RowKit Go.Proofs.YtanmfddlncdncabW.PrintWords Go.Proofs.YtanmfddlncdncabW.PrintLast Go.Proofs.YtanmfddlncdncabW.PrintMore
open Go.Proofs.Ytanmfddlncdncab.Z (nxt encN Dig readN rdW Msg readBs refT refDecV zero16)
set_option linter.unusedVariables false
set_option linter.unusedSimpArgs false
def headCells (ys : List Int) : Array Value := (ys.map (Value.int .i64)).toArray
theorem headCells_set {ys : List Int} {i : Nat} (hi : i < ys.length) (x : Int) : (headCells ys).setIfInBounds i (.int .i64 x) = headCells (ys.set i x) := by
  unfold headCells
  rw [List.setIfInBounds_toArray, List.map_set]
theorem headCells_get {ys : List Int} {i : Nat} (hi : i < ys.length) : (headCells ys)[i]? = some (.int .i64 (ys.getD i 0)) := by
  unfold headCells
  rw [List.getElem?_toArray, List.getElem?_map, List.getD_eq_getElem?_getD, List.getElem?_eq_getElem hi]
  rfl
theorem below_grown {w W W1 : World} {row : Option Nat} (h : Below w.heap.size w W) (hg : W.grownBy W1 row) (hr : ∀ k, row = some k → w.heap.size ≤ k) : Below w.heap.size w W1 := ⟨hg.os.trans h.os, hg.tape.trans h.tape, hg.output.trans h.output, Nat.le_trans h.size hg.size, fun k hk => (hg.block k (Nat.lt_of_lt_of_le hk h.size) (fun e => by have := hr k e.symm; omega)).trans (h.block k hk)⟩
set_option maxHeartbeats 16000000 in
set_option maxRecDepth 100000 in
theorem ref_Decode.calls (A0 : Option Addr) (c0 : Nat) (l0 : List Int) (w : World) (hr0 : Kd.C (Kd.int .u8) w A0 l0.length l0) (hc0 : l0.length ≤ c0) (hl : l0.length < 140737488355328) (hd : Dig 256 l0) :
    Calls Try.prog 10 #[.slice A0 l0.length c0] w fun e w' => ∃ v : Value, e = .returned (.tuple #[v, .int .i64 (refDecV l0).2]) ∧ MsgAt w' v (refDecV l0).1 ∧ Below w.heap.size w w' := by
  have HR0 := Aside0.mk hr0
  have HC0 := Aside0.mk hc0
  have HL := Aside0.mk hl
  have HD := Aside0.mk hd
  have HB := Aside0.mk (Below.refl w.heap.size w)
  obtain ⟨rv, hrv⟩ : ∃ rv, refDecV l0 = rv := ⟨_, rfl⟩
  rw [hrv]
  unfold refDecV at hrv
  clear hr0 hc0 hl hd
  by_cases hbig : 1048576 < l0.length
  · rw [if_pos hbig] at hrv
    obtain rfl : ((0, 0, 0, 0, [], [], []), 16) = rv := hrv
    have hbz : decide (1048576 < (l0.length : Int)) = true := decide_eq_true (by omega)
    go_enter Try.func10, Try.ntmps10
    go_wp2_with (first
      | ((with_reducible refine gate_dst (N := 2) rfl ?_); refine box_event ?hg (N := 2) ?hd (cs := (msgCells [0, 0, 0, 0] nilS nilS nilS)) (t := 25) ?hr ?_; (case hd => rfl); (case hg => rfl); (case hr => first | (go_simp; done) | (go_simp; rfl)); intro g2 hg w1 hbox hb; have BZ1 := Aside0.mk hbox; have HB1 := Aside0.mk (below_step HB.out hb); have HG2 := Aside0.mk (show w.heap.size ≤ g2 from hg ▸ below_size HB.out); clear HB hb hbox hg)
      | ((with_reducible refine gate_store (t := 25) (p := 2) rfl ?_); refine wpList_store_row rfl 25 (.tmp 2) (.tmp 26) rfl g2 (msgCells [0, 0, 0, 0] nilS nilS nilS) rfl rfl 25 (msgCells [0, 0, 0, 0] nilS nilS nilS) BZ1.out (by kernel_rfl) (by kernel_rfl) (by kernel_rfl) ?_; have BE := Aside0.mk (setRow_heap _ g2 _ (msgCells [0, 0, 0, 0] nilS nilS nilS) _ _ BZ1.out); have HE := Aside0.mk (below_setRow HB1.out HG2.out (msgCells [0, 0, 0, 0] nilS nilS nilS))))
    (try rw [Exit.noGoto_ret])
    exact bodyPost_ret (results_row_tmp rfl _ _ g2 25 (msgCells [0, 0, 0, 0] nilS nilS nilS) (0, 0) _ rfl BE.out Try.underlying25 rfl (by kernel_rfl) (.int .i64 16) rfl) rfl ⟨_, rfl, MsgAt.zero _, HE.out⟩
  · rw [if_neg hbig] at hrv
    have hbz : decide (1048576 < (l0.length : Int)) = false := decide_eq_false (by omega)
    have HRV := Aside0.mk hrv
    have HBIG := Aside0.mk (show l0.length ≤ 1048576 by omega)
    clear hrv hbig
    go_enter Try.func10, Try.ntmps10
    go_wp2_with (first
      | ((with_reducible refine gate_dst (N := 2) rfl ?_); refine box_event ?hg (N := 2) ?hd (cs := (msgCells [0, 0, 0, 0] nilS nilS nilS)) (t := 25) ?hr ?_; (case hd => rfl); (case hg => rfl); (case hr => first | (go_simp; done) | (go_simp; rfl)); intro g2 hg w1 hbox hb; have BZ1 := Aside0.mk hbox; have HB1 := Aside0.mk (below_step HB.out hb); have HG2 := Aside0.mk (show w.heap.size ≤ g2 from hg ▸ below_size HB.out); clear HB hb hbox hg)
      | ((with_reducible refine gate_dst (N := 29) rfl ?_); refine box_event ?hg (N := 29) ?hd (cs := #[.slice A0 l0.length c0, .int .i64 0]) (t := 64) ?hr ?_; (case hd => rfl); (case hg => rfl); (case hr => first | (go_simp; done) | (go_simp; rfl)); intro g hg w2 hbox hb; have HR2 := Aside0.mk (show RdQ w w2 g l0 0 from ⟨A0, c0, hbox, ⟨hg ▸ below_size HB1.out, HC0.out⟩, HR0.out⟩); have HGG := Aside0.mk (show g2 < g from hg ▸ blk_lt BZ1.out); have BZ2 := Aside0.mk (blk_below BZ1.out hb); have HB2 := Aside0.mk (below_step HB1.out hb); clear BZ1 HB1 hb hbox hg)
      | ((with_reducible refine gate_dst (N := 5) rfl ?_); refine box_event ?hg (N := 5) ?hd (cs := headCells [0, 0, 0, 0]) (t := 65) ?hr ?_; (case hd => rfl); (case hg => rfl); (case hr => first | (go_simp; done) | (go_simp; rfl)); intro g5 hg w3 hbox hb; have BH3 := Aside0.mk hbox; have HG5 := Aside0.mk (show g < g5 from hg ▸ HR2.out.lt); have HR3 := Aside0.mk (show RdQ w w3 g l0 0 from HR2.out.below hb); have BZ3 := Aside0.mk (blk_below BZ2.out hb); have HB3 := Aside0.mk (below_step HB2.out hb); clear HR2 BZ2 HB2 hb hbox hg))
    go_loopg [6] 4 (fun gg v6 wr => ∃ (i p : Nat) (ys : List Int), v6 = .int .i64 (i : Int) ∧ i ≤ 4 ∧ 4 - i ≤ gg ∧ ys.length = 4 ∧ p ≤ l0.length ∧ Aside0 ((readN (4 - i) (l0.drop p)).map (fun r => (ys.take i ++ r.1, r.2)) = readN 4 l0) ∧ Aside0 (RdQ w wr g l0 p) ∧ Aside0 (wr.heap[g2]? = some (.cells (msgCells [0, 0, 0, 0] nilS nilS nilS) 25 (0, 0))) ∧ Aside0 (wr.heap[g5]? = some (.cells (headCells ys) 65 (0, 0))) ∧ Aside0 (Below w.heap.size w wr))
    case atStart => exact ⟨0, 0, [0, 0, 0, 0], rfl, by omega, by omega, rfl, Nat.zero_le _, ⟨by rw [Nat.sub_zero, List.drop_zero]; cases readN 4 l0 <;> rfl⟩, HR3, BZ3, BH3, HB3⟩
    case round =>
      clear HR3 BZ3 BH3 HB3
      obtain ⟨i, p, ys, rfl, hi, hgg, hyl, hpl, HT, HRi, BZi, BHi, HBi⟩ := hrel
      by_cases hlt : i < 4
      · have hltz : (i : Int) < 4 := by omega
        have h0z : (0 : Int) ≤ (i : Int) := by omega
        obtain ⟨m, hm⟩ : ∃ m, 4 - i = m + 1 := ⟨4 - i - 1, by omega⟩
        have hT := HT.out
        rw [hm, readN] at hT
        obtain ⟨p2, hp2, hq2, hE⟩ := Z.ref09_Number_ev l0 p 1073741824 HL.out HD.out hpl
        obtain ⟨kn, hn⟩ := hE.get
        have hlx := numV_le (most := 1073741824) (l := l0.drop p)
        generalize numV 1073741824 (l0.drop p) = u at hT hq2 hn hlx
        obtain ⟨x, ex, l2⟩ := u
        simp only at hT hq2 hn hlx
        have HN := Aside0.mk (show windbreakref09_Reader_Number.f kn l0 (p : Int) 1073741824 = some ((x : Int), ex, (p2 : Int)) from hn)
        clear hn hE HT
        by_cases hex : ex = 0
        · subst hex
          rw [if_pos rfl] at hT
          have HT := Aside0.mk hT
          clear hT
          go_wp2_with (first | (go_at_call 31; ((with_reducible refine (windbreakref09_Reader_Number.calls kn g l0 (p : Int) 1073741824 (x : Int) _ (p2 : Int) w _ HRi.out HBi.out HN.out).mono ?_); rintro e w7 ⟨rfl, hr, hb, hk⟩; have HR7 := Aside0.mk hr; have HB7 := Aside0.mk hb; have BZ7 := Aside0.mk ((hk.2 g2 (blk_lt BZi.out) (by have := HGG.out; omega) (by simp)).trans BZi.out); have BH7 := Aside0.mk ((hk.2 g5 (blk_lt BHi.out) (by have := HG5.out; omega) (by simp)).trans BHi.out); have hcm := (blk_cell BH7.out i).trans (headCells_get (by rw [hyl]; exact hlt)); have hfm := blk_frozen BH7.out i; clear HRi HBi BZi BHi hr hb hk)))
          have BH8 := Aside0.mk (blk_put BH7.out i _ (headCells_set (by rw [hyl]; exact hlt) (x : Int)))
          have BZ8 := Aside0.mk (blk_far BZ7.out (p := ⟨g5, i, none⟩) (by have := HG5.out; have := HGG.out; show g2 ≠ g5; omega) (.int .i64 (x : Int)))
          have HR8 := Aside0.mk (show RdQ w _ g l0 p2 from HR7.out.far (p := ⟨g5, i, none⟩) (by have := HG5.out; show g ≠ g5; omega) (.int .i64 (x : Int)))
          have HB8 := Aside0.mk (below_set (g := g5) (j := i) (v := .int .i64 (x : Int)) HB7.out (by have := HG2.out; have := HGG.out; have := HG5.out; omega))
          go_roundg (4 - (i + 1))
          case measure => omega
          case rel =>
            refine ⟨i + 1, p2, ys.set i (x : Int), by go_num, by omega, by omega, by rw [List.length_set]; exact hyl, hp2, ⟨?_⟩, HR8, BZ8, BH8, HB8⟩
            rw [show 4 - (i + 1) = m from by omega, ← HT.out, hq2, List.take_succ_eq_append_getElem (by rw [List.length_set]; omega), List.take_set_of_le (Nat.le_refl _), List.getElem_set_self]
            cases readN m l2 <;> simp
        · rw [if_neg hex] at hT
          have hrv : ((0, 0, 0, 0, [], [], []), 16) = rv := by
            rw [← HRV.out, ← hT]
            rfl
          subst hrv
          have hexz : (ex != 0) = true := bne_iff_ne.mpr hex
          clear hT
          go_wp2_with (first
            | (go_at_call 31; ((with_reducible refine (windbreakref09_Reader_Number.calls kn g l0 (p : Int) 1073741824 (x : Int) _ (p2 : Int) w _ HRi.out HBi.out HN.out).mono ?_); rintro e w7 ⟨rfl, hr, hb, hk⟩; have HR7 := Aside0.mk hr; have HB7 := Aside0.mk hb; have BZ7 := Aside0.mk ((hk.2 g2 (blk_lt BZi.out) (by have := HGG.out; omega) (by simp)).trans BZi.out); have BH7 := Aside0.mk ((hk.2 g5 (blk_lt BHi.out) (by have := HG5.out; omega) (by simp)).trans BHi.out);  clear HRi HBi BZi BHi hr hb hk))
            | ((with_reducible refine gate_store (t := 25) (p := 2) rfl ?_); refine wpList_store_row rfl 25 (.tmp 2) (.tmp 41) rfl g2 (msgCells [0, 0, 0, 0] nilS nilS nilS) rfl rfl 25 (msgCells [0, 0, 0, 0] nilS nilS nilS) BZ7.out (by kernel_rfl) (by kernel_rfl) (by kernel_rfl) ?_; have BE := Aside0.mk (setRow_heap _ g2 _ (msgCells [0, 0, 0, 0] nilS nilS nilS) _ _ BZ7.out); have HE := Aside0.mk (below_setRow HB7.out HG2.out (msgCells [0, 0, 0, 0] nilS nilS nilS))))
          (try rw [Exit.noGoto_ret])
          exact bodyPost_ret (results_row_tmp rfl _ _ g2 25 (msgCells [0, 0, 0, 0] nilS nilS nilS) (0, 0) _ rfl BE.out Try.underlying25 rfl (by kernel_rfl) (.int .i64 16) rfl) rfl ⟨_, rfl, MsgAt.zero _, HE.out⟩
      · obtain rfl : i = 4 := by omega
        have hT := HT.out
        rw [show 4 - 4 = 0 from rfl, readN, Option.map_some, List.append_nil, List.take_of_length_le (by omega)] at hT
        have hrv := HRV.out
        rw [← hT] at hrv
        simp only at hrv
        obtain ⟨a0, a1, a2, a3, rfl⟩ : ∃ a0 a1 a2 a3, ys = [a0, a1, a2, a3] := by
          match ys, hyl with
          | [a0, a1, a2, a3], _ => exact ⟨_, _, _, _, rfl⟩
        change refT l0 a0 a1 a2 a3 (l0.drop p) = rv at hrv
        unfold refT at hrv
        have hltz : ¬ ((4 : Nat) : Int) < 4 := by omega
        obtain ⟨p1, hp1, hq1, hE1⟩ := Z.ref12_list_ev l0 p HL.out HD.out hpl
        obtain ⟨k1, hn1⟩ := hE1.get
        obtain ⟨p2, hp2, hq2, hE2⟩ := Z.ref12_list_ev l0 p1 HL.out HD.out hp1
        obtain ⟨k2, hn2⟩ := hE2.get
        obtain ⟨p3, hp3, hq3, hE3⟩ := Z.ref09_Number_ev l0 p2 16384 HL.out HD.out hp2
        obtain ⟨k3, hn3⟩ := hE3.get
        have hle3 := numV_le (most := 16384) (l := l0.drop p2)
        have hcase : rv = ((0, 0, 0, 0, [], [], []), 16) ∧ ((readI (l0.drop p)).2.1 = false ∨ (readI (l0.drop p)).2.1 = true ∧ ((readI (l0.drop p1)).2.1 = false ∨ (readI (l0.drop p1)).2.1 = true ∧ (numV 16384 (l0.drop p2)).2.1 ≠ 0)) ∨ (readI (l0.drop p)).2.1 = true ∧ (readI (l0.drop p1)).2.1 = true ∧ (numV 16384 (l0.drop p2)).2.1 = 0 ∧ (match readBs (numV 16384 (l0.drop p2)).1 (l0.drop p3) with | some s => if Z.encodeV a0 a1 a2 a3 (readI (l0.drop p)).1 (readI (l0.drop p1)).1 s.1 = (l0, 0) then ((a0, a1, a2, a3, (readI (l0.drop p)).1, (readI (l0.drop p1)).1, s.1), 0) else zero16 | none => zero16) = rv := by
          cases hb1 : (readI (l0.drop p)).2.1 with
          | false =>
            rw [if_neg (by rw [hb1]; decide)] at hrv
            exact .inl ⟨hrv.symm, .inl rfl⟩
          | true =>
            rw [if_pos hb1, ← hq1 hb1] at hrv
            cases hb2 : (readI (l0.drop p1)).2.1 with
            | false =>
              rw [if_neg (by rw [hb2]; decide)] at hrv
              exact .inl ⟨hrv.symm, .inr ⟨rfl, .inl rfl⟩⟩
            | true =>
              rw [if_pos hb2, ← hq2 hb2] at hrv
              by_cases hb3 : (numV 16384 (l0.drop p2)).2.1 = 0
              · rw [if_pos hb3, ← hq3] at hrv
                exact .inr ⟨rfl, rfl, hb3, hrv⟩
              · rw [if_neg hb3] at hrv
                exact .inl ⟨hrv.symm, .inr ⟨rfl, .inr ⟨rfl, hb3⟩⟩⟩
        clear hrv hE1 hE2 hE3 hT HT HRV hq1 hq2 hq3
        generalize readI (l0.drop p) = u at hn1 hcase
        obtain ⟨u1, ub, u2⟩ := u
        generalize readI (l0.drop p1) = q at hn2 hcase
        obtain ⟨q1, qb, q2⟩ := q
        generalize numV 16384 (l0.drop p2) = nm at hn3 hcase hle3
        obtain ⟨nn, en, l3⟩ := nm
        simp only at hn1 hn2 hn3 hcase hle3
        have HN1 := Aside0.mk (show windbreakref12_readList.f k1 l0 (p : Int) = some (u1, ub, (p1 : Int)) from hn1)
        have HN2 := Aside0.mk (show windbreakref12_readList.f k2 l0 (p1 : Int) = some (q1, qb, (p2 : Int)) from hn2)
        have HN3 := Aside0.mk (show windbreakref09_Reader_Number.f k3 l0 (p2 : Int) 16384 = some ((nn : Int), en, (p3 : Int)) from hn3)
        clear hn1 hn2 hn3
        have hz0 : wr.cell? ⟨g5, 0, none⟩ = some (.int .i64 a0) := (blk_cell BHi.out 0).trans rfl
        have hz1 : wr.cell? ⟨g5, 1, none⟩ = some (.int .i64 a1) := (blk_cell BHi.out 1).trans rfl
        have hz2 : wr.cell? ⟨g5, 2, none⟩ = some (.int .i64 a2) := (blk_cell BHi.out 2).trans rfl
        have hz3 : wr.cell? ⟨g5, 3, none⟩ = some (.int .i64 a3) := (blk_cell BHi.out 3).trans rfl
        rcases hcase with ⟨rfl, hc⟩ | ⟨rfl, rfl, rfl, hrv⟩
        · rcases hc with rfl | ⟨rfl, rfl | ⟨rfl, hen⟩⟩
          all_goals (try have henz := bne_iff_ne.mpr hen)
          all_goals (try clear hen)
          all_goals
            go_wp2_with (first
              | ((with_reducible refine gate_dst (N := 9) rfl ?_); refine box_event ?hg (N := 9) ?hd (cs := (msgCells [0, 0, 0, 0] nilS nilS nilS)) (t := 25) ?hr ?_; (case hd => rfl); (case hg => rfl); (case hr => first | (go_simp; done) | (go_simp; rfl)); intro gm hg w9 hbox hb; have BM9 := Aside0.mk hbox; have HGM := Aside0.mk (show g < gm ∧ g2 < gm from ⟨hg ▸ HRi.out.lt, hg ▸ blk_lt BZi.out⟩); have HR9 := Aside0.mk (show RdQ w w9 g l0 p from HRi.out.below hb); have BZ9 := Aside0.mk (blk_below BZi.out hb); have HB9 := Aside0.mk (below_step HBi.out hb); clear HRi BZi HBi BHi hb hbox hg hz0 hz1 hz2 hz3)
              | ((with_reducible refine gate_store (t := 25) (p := 9) rfl ?_); refine wpList_store_row rfl 25 (.tmp 9) (.tmp 54) rfl gm (msgCells [a0, a1, a2, a3] nilS nilS nilS) rfl rfl 25 (msgCells [0, 0, 0, 0] nilS nilS nilS) BM9.out msg_info rfl (msg_one _ _ _ _ _ _ _ rfl rfl rfl) ?_; have BM10 := Aside0.mk (setRow_heap w9 gm _ (msgCells [a0, a1, a2, a3] nilS nilS nilS) _ _ BM9.out); have HB10 := Aside0.mk (below_setRow (g := gm) HB9.out (by have := HGM.out; have := HG2.out; omega) (msgCells [a0, a1, a2, a3] nilS nilS nilS)); have BZ10 := Aside0.mk ((setRow_other w9 gm g2 (msgCells [a0, a1, a2, a3] nilS nilS nilS) (by have := HGM.out; omega)).trans BZ9.out); have HR10 := Aside0.mk (show RdQ w (w9.setRow gm (msgCells [a0, a1, a2, a3] nilS nilS nilS)) g l0 p from by obtain ⟨A, c, h1, h2, h3⟩ := HR9.out; exact ⟨A, c, (setRow_other w9 gm g (msgCells [a0, a1, a2, a3] nilS nilS nilS) (by have := HGM.out; omega)).trans h1, h2, h3⟩); generalize w9.setRow gm (msgCells [a0, a1, a2, a3] nilS nilS nilS) = w10 at BM10 HB10 BZ10 HR10 ⊢; obtain ⟨Nx, hNx⟩ : ∃ Nx, Nx = w10.heap.size := ⟨_, rfl⟩; have HN10 := Aside0.mk (Nat.le_of_eq hNx); have HNG := Aside0.mk (show gm < Nx from hNx ▸ blk_lt BM10.out); clear BM9 BZ9 HB9 HR9 hNx)
              | (go_at_call 32; ((with_reducible refine (windbreakref12_readList.calls k1 g l0 (p : Int) u1 _ (p1 : Int) w _ HR10.out HB10.out HN1.out).mono ?_); rintro e w11 ⟨vu, rfl, ho, hr, hb, hk⟩; obtain ⟨Au, du, eu⟩ := Kd.R_slice ho; subst eu; have HFu := Aside0.mk (Kd.R_V (base' := 0) (Kd.R_mono (Kd.R_bound ho) (fun k hk => (Nat.le_trans HN10.out hk.2.1 : Nx ≤ k)))); have HR11 := Aside0.mk hr; have HB11 := Aside0.mk hb; have BZ11 := Aside0.mk ((hk.2 g2 (blk_lt BZ10.out) (by have := HGG.out; omega) (by simp)).trans BZ10.out); have BM11 := Aside0.mk ((hk.2 gm (blk_lt BM10.out) (by have := HGM.out; omega) (by simp)).trans BM10.out); have HN11 := Aside0.mk (Nat.le_trans HN10.out hk.1); clear HR10 HB10 BZ10 BM10 HN10 ho hr hb hk))
              | (go_at_call 32; ((with_reducible refine (windbreakref12_readList.calls k2 g l0 (p1 : Int) q1 _ (p2 : Int) w _ HR11.out HB11.out HN2.out).mono ?_); rintro e w12 ⟨vq, rfl, ho, hr, hb, hk⟩; obtain ⟨Aq, dq, eq⟩ := Kd.R_slice ho; subst eq; have HFq := Aside0.mk (Kd.R_V (base' := 0) (Kd.R_mono (Kd.R_bound ho) (fun k hk => (Nat.le_trans HN11.out hk.2.1 : Nx ≤ k)))); have HFu2 := Aside0.mk (Kd.V_keep HFu.out hk (fun k hk1 e => by have := HNG.out; have := HGM.out; omega)); have HR12 := Aside0.mk hr; have HB12 := Aside0.mk hb; have BZ12 := Aside0.mk ((hk.2 g2 (blk_lt BZ11.out) (by have := HGG.out; omega) (by simp)).trans BZ11.out); have BM12 := Aside0.mk ((hk.2 gm (blk_lt BM11.out) (by have := HGM.out; omega) (by simp)).trans BM11.out); have HN12 := Aside0.mk (Nat.le_trans HN11.out hk.1); clear HR11 HB11 BZ11 BM11 HN11 ho hr hb hk HFu))
              | (go_at_call 31; ((with_reducible refine (windbreakref09_Reader_Number.calls k3 g l0 (p2 : Int) 16384 (nn : Int) _ (p3 : Int) w _ HR12.out HB12.out HN3.out).mono ?_); rintro e w13 ⟨rfl, hr, hb, hk⟩; have HFq3 := Aside0.mk (Kd.V_bound (Kd.V_keep HFq.out hk (fun k hk1 e => by have := HNG.out; have := HGM.out; omega))); have HFu3 := Aside0.mk (Kd.V_bound (Kd.V_keep HFu2.out hk (fun k hk1 e => by have := HNG.out; have := HGM.out; omega))); have HR13 := Aside0.mk hr; have HB13 := Aside0.mk hb; have BZ13 := Aside0.mk ((hk.2 g2 (blk_lt BZ12.out) (by have := HGG.out; omega) (by simp)).trans BZ12.out); have BM13 := Aside0.mk ((hk.2 gm (blk_lt BM12.out) (by have := HGM.out; omega) (by simp)).trans BM12.out); have HN13 := Aside0.mk (Nat.le_trans HN12.out hk.1); clear HR12 HB12 BZ12 BM12 HN12 hr hb hk HFu2 HFq))
              | ((with_reducible refine gate_store (t := 25) (p := 2) rfl ?_); refine wpList_store_row rfl 25 (.tmp 2) (.tmp 80) rfl g2 (msgCells [0, 0, 0, 0] nilS nilS nilS) rfl rfl 25 (msgCells [0, 0, 0, 0] nilS nilS nilS) BZ13.out (by kernel_rfl) (by kernel_rfl) (by kernel_rfl) ?_; have BE := Aside0.mk (setRow_heap _ g2 _ (msgCells [0, 0, 0, 0] nilS nilS nilS) _ _ BZ13.out); have HE := Aside0.mk (below_setRow HB13.out HG2.out (msgCells [0, 0, 0, 0] nilS nilS nilS))))
          all_goals (try rw [Exit.noGoto_ret])
          all_goals exact bodyPost_ret (results_row_tmp rfl _ _ g2 25 (msgCells [0, 0, 0, 0] nilS nilS nilS) (0, 0) _ rfl BE.out Try.underlying25 rfl (by kernel_rfl) (.int .i64 16) rfl) rfl ⟨_, rfl, MsgAt.zero _, HE.out⟩
        · have HRV := Aside0.mk hrv
          clear hrv
          go_wp2_with (first
            | ((with_reducible refine gate_dst (N := 9) rfl ?_); refine box_event ?hg (N := 9) ?hd (cs := (msgCells [0, 0, 0, 0] nilS nilS nilS)) (t := 25) ?hr ?_; (case hd => rfl); (case hg => rfl); (case hr => first | (go_simp; done) | (go_simp; rfl)); intro gm hg w9 hbox hb; have BM9 := Aside0.mk hbox; have HGM := Aside0.mk (show g < gm ∧ g2 < gm from ⟨hg ▸ HRi.out.lt, hg ▸ blk_lt BZi.out⟩); have HR9 := Aside0.mk (show RdQ w w9 g l0 p from HRi.out.below hb); have BZ9 := Aside0.mk (blk_below BZi.out hb); have HB9 := Aside0.mk (below_step HBi.out hb); clear HRi BZi HBi BHi hb hbox hg hz0 hz1 hz2 hz3)
            | ((with_reducible refine gate_store (t := 25) (p := 9) rfl ?_); refine wpList_store_row rfl 25 (.tmp 9) (.tmp 54) rfl gm (msgCells [a0, a1, a2, a3] nilS nilS nilS) rfl rfl 25 (msgCells [0, 0, 0, 0] nilS nilS nilS) BM9.out msg_info rfl (msg_one _ _ _ _ _ _ _ rfl rfl rfl) ?_; have BM10 := Aside0.mk (setRow_heap w9 gm _ (msgCells [a0, a1, a2, a3] nilS nilS nilS) _ _ BM9.out); have HB10 := Aside0.mk (below_setRow (g := gm) HB9.out (by have := HGM.out; have := HG2.out; omega) (msgCells [a0, a1, a2, a3] nilS nilS nilS)); have BZ10 := Aside0.mk ((setRow_other w9 gm g2 (msgCells [a0, a1, a2, a3] nilS nilS nilS) (by have := HGM.out; omega)).trans BZ9.out); have HR10 := Aside0.mk (show RdQ w (w9.setRow gm (msgCells [a0, a1, a2, a3] nilS nilS nilS)) g l0 p from by obtain ⟨A, c, h1, h2, h3⟩ := HR9.out; exact ⟨A, c, (setRow_other w9 gm g (msgCells [a0, a1, a2, a3] nilS nilS nilS) (by have := HGM.out; omega)).trans h1, h2, h3⟩); generalize w9.setRow gm (msgCells [a0, a1, a2, a3] nilS nilS nilS) = w10 at BM10 HB10 BZ10 HR10 ⊢; obtain ⟨Nx, hNx⟩ : ∃ Nx, Nx = w10.heap.size := ⟨_, rfl⟩; have HN10 := Aside0.mk (Nat.le_of_eq hNx); have HNG := Aside0.mk (show gm < Nx from hNx ▸ blk_lt BM10.out); clear BM9 BZ9 HB9 HR9 hNx)
            | (go_at_call 32; ((with_reducible refine (windbreakref12_readList.calls k1 g l0 (p : Int) u1 _ (p1 : Int) w _ HR10.out HB10.out HN1.out).mono ?_); rintro e w11 ⟨vu, rfl, ho, hr, hb, hk⟩; obtain ⟨Au, du, eu⟩ := Kd.R_slice ho; subst eu; have HFu := Aside0.mk (Kd.R_V (base' := 0) (Kd.R_mono (Kd.R_bound ho) (fun k hk => (Nat.le_trans HN10.out hk.2.1 : Nx ≤ k)))); have HR11 := Aside0.mk hr; have HB11 := Aside0.mk hb; have BZ11 := Aside0.mk ((hk.2 g2 (blk_lt BZ10.out) (by have := HGG.out; omega) (by simp)).trans BZ10.out); have BM11 := Aside0.mk ((hk.2 gm (blk_lt BM10.out) (by have := HGM.out; omega) (by simp)).trans BM10.out); have HN11 := Aside0.mk (Nat.le_trans HN10.out hk.1); clear HR10 HB10 BZ10 BM10 HN10 ho hr hb hk))
            | (go_at_call 32; ((with_reducible refine (windbreakref12_readList.calls k2 g l0 (p1 : Int) q1 _ (p2 : Int) w _ HR11.out HB11.out HN2.out).mono ?_); rintro e w12 ⟨vq, rfl, ho, hr, hb, hk⟩; obtain ⟨Aq, dq, eq⟩ := Kd.R_slice ho; subst eq; have HFq := Aside0.mk (Kd.R_V (base' := 0) (Kd.R_mono (Kd.R_bound ho) (fun k hk => (Nat.le_trans HN11.out hk.2.1 : Nx ≤ k)))); have HFu2 := Aside0.mk (Kd.V_keep HFu.out hk (fun k hk1 e => by have := HNG.out; have := HGM.out; omega)); have HR12 := Aside0.mk hr; have HB12 := Aside0.mk hb; have BZ12 := Aside0.mk ((hk.2 g2 (blk_lt BZ11.out) (by have := HGG.out; omega) (by simp)).trans BZ11.out); have BM12 := Aside0.mk ((hk.2 gm (blk_lt BM11.out) (by have := HGM.out; omega) (by simp)).trans BM11.out); have HN12 := Aside0.mk (Nat.le_trans HN11.out hk.1); clear HR11 HB11 BZ11 BM11 HN11 ho hr hb hk HFu))
            | (go_at_call 31; ((with_reducible refine (windbreakref09_Reader_Number.calls k3 g l0 (p2 : Int) 16384 (nn : Int) _ (p3 : Int) w _ HR12.out HB12.out HN3.out).mono ?_); rintro e w13 ⟨rfl, hr, hb, hk⟩; have HFq3 := Aside0.mk (Kd.V_bound (Kd.V_keep HFq.out hk (fun k hk1 e => by have := HNG.out; have := HGM.out; omega))); have HFu3 := Aside0.mk (Kd.V_bound (Kd.V_keep HFu2.out hk (fun k hk1 e => by have := HNG.out; have := HGM.out; omega))); have HR13 := Aside0.mk hr; have HB13 := Aside0.mk hb; have BZ13 := Aside0.mk ((hk.2 g2 (blk_lt BZ12.out) (by have := HGG.out; omega) (by simp)).trans BZ12.out); have BM13 := Aside0.mk ((hk.2 gm (blk_lt BM12.out) (by have := HGM.out; omega) (by simp)).trans BM12.out); have HN13 := Aside0.mk (Nat.le_trans HN12.out hk.1); obtain ⟨N0, hN0⟩ : ∃ N0, N0 = w13.heap.size := ⟨_, rfl⟩; rw [← hN0] at HFq3 HFu3; replace HN13 := Aside0.mk hN0; have HNN := Aside0.mk (show Nx ≤ N0 by rw [hN0]; exact Nat.le_trans HN12.out hk.1); clear HR12 HB12 BZ12 BM12 HN12 hr hb hk HFu2 HFq))
            | ((with_reducible refine gate_store (t := 22) (p := 82) rfl ?_); refine store_event (t := 22) (p := 82) (v := .tmp 81) (w1 := w13.setCell ⟨gm, 4, none⟩ (.slice Au u1.length du)) ?hg ?ho ?hn ?hr ?_; (case ho => rfl); (case hg => rfl); (case hn => rfl); (case hr => (have hy_ := (blk_cell BM13.out 4).trans rfl; have hz_ := blk_frozen BM13.out 4; first | (go_simp; done) | (go_simp; rfl))); intro w14 hw; have BM14 := Aside0.mk (show w14.heap[gm]? = some (.cells (msgCells [a0, a1, a2, a3] (.slice Au u1.length du) nilS nilS) 25 (0, 0)) by rw [hw]; exact blk_put BM13.out 4 _ rfl); have BZ14 := Aside0.mk (show w14.heap[g2]? = some (.cells (msgCells [0, 0, 0, 0] nilS nilS nilS) 25 (0, 0)) by rw [hw]; exact blk_far BZ13.out (by have := HGM.out; show g2 ≠ gm; omega) _); have HR14 := Aside0.mk (show RdQ w w14 g l0 p3 by rw [hw]; exact HR13.out.far (by have := HGM.out; show g ≠ gm; omega) _); have HB14 := Aside0.mk (show Below w.heap.size w w14 by rw [hw]; exact below_set HB13.out (by have := HG2.out; have := HGM.out; omega)); have HFu14 := Aside0.mk (show Kd.V (Kd.int .i64) 0 w14 0 _ (.slice Au u1.length du) u1 by rw [hw]; exact Kd.V_far HFu3.out (fun k hk1 => by have := HNG.out; show k ≠ gm; omega) _); have HFq14 := Aside0.mk (show Kd.V (Kd.int .i64) 0 w14 0 _ (.slice Aq q1.length dq) q1 by rw [hw]; exact Kd.V_far HFq3.out (fun k hk1 => by have := HNG.out; show k ≠ gm; omega) _); have HN14 := Aside0.mk (show N0 = w14.heap.size by rw [hw]; simpa [World.setCell] using HN13.out); clear BM13 BZ13 HR13 HB13 HFu3 HFq3 HN13 hw; )
            | ((with_reducible refine gate_store (t := 22) (p := 84) rfl ?_); refine store_event (t := 22) (p := 84) (v := .tmp 83) (w1 := w14.setCell ⟨gm, 5, none⟩ (.slice Aq q1.length dq)) ?hg ?ho ?hn ?hr ?_; (case ho => rfl); (case hg => rfl); (case hn => rfl); (case hr => (have hy_ := (blk_cell BM14.out 5).trans rfl; have hz_ := blk_frozen BM14.out 5; first | (go_simp; done) | (go_simp; rfl))); intro w15 hw; have BM15 := Aside0.mk (show w15.heap[gm]? = some (.cells (msgCells [a0, a1, a2, a3] (.slice Au u1.length du) (.slice Aq q1.length dq) nilS) 25 (0, 0)) by rw [hw]; exact blk_put BM14.out 5 _ rfl); have BZ15 := Aside0.mk (show w15.heap[g2]? = some (.cells (msgCells [0, 0, 0, 0] nilS nilS nilS) 25 (0, 0)) by rw [hw]; exact blk_far BZ14.out (by have := HGM.out; show g2 ≠ gm; omega) _); have HR15 := Aside0.mk (show RdQ w w15 g l0 p3 by rw [hw]; exact HR14.out.far (by have := HGM.out; show g ≠ gm; omega) _); have HB15 := Aside0.mk (show Below w.heap.size w w15 by rw [hw]; exact below_set HB14.out (by have := HG2.out; have := HGM.out; omega)); have HFu15 := Aside0.mk (show Kd.V (Kd.int .i64) 0 w15 0 _ (.slice Au u1.length du) u1 by rw [hw]; exact Kd.V_far HFu14.out (fun k hk1 => by have := HNG.out; show k ≠ gm; omega) _); have HFq15 := Aside0.mk (show Kd.V (Kd.int .i64) 0 w15 0 _ (.slice Aq q1.length dq) q1 by rw [hw]; exact Kd.V_far HFq14.out (fun k hk1 => by have := HNG.out; show k ≠ gm; omega) _); have HN15 := Aside0.mk (show N0 = w15.heap.size by rw [hw]; simpa [World.setCell] using HN14.out); clear BM14 BZ14 HR14 HB14 HFu14 HFq14 HN14 hw; ))
          go_loopg [16] nn (fun gg v16 wi => ∃ (i p : Nat) (ys : List (List Int)) (v6 : Value), v16 = .int .u64 (i : Int) ∧ i ≤ nn ∧ nn - i ≤ gg ∧ p ≤ l0.length ∧ Aside0 ((match (readBs (nn - i) (l0.drop p)).map (fun r => (ys ++ r.1, r.2)) with | some s => if Z.encodeV a0 a1 a2 a3 u1 q1 s.1 = (l0, 0) then ((a0, a1, a2, a3, u1, q1, s.1), 0) else zero16 | none => zero16) = rv) ∧ Aside0 (Kd.R (Kd.slice 37 (Kd.int .u64)) 41 wi N0 (fun _ => True) v6 ys) ∧ Aside0 (RdQ w wi g l0 p) ∧ Aside0 (wi.heap[g2]? = some (.cells (msgCells [0, 0, 0, 0] nilS nilS nilS) 25 (0, 0))) ∧ Aside0 (wi.heap[gm]? = some (.cells (msgCells [a0, a1, a2, a3] (.slice Au u1.length du) (.slice Aq q1.length dq) v6) 25 (0, 0))) ∧ Aside0 (Below w.heap.size w wi) ∧ Aside0 (Kd.V (Kd.int .i64) 0 wi 0 (fun k => Nx ≤ k ∧ k < N0) (.slice Au u1.length du) u1) ∧ Aside0 (Kd.V (Kd.int .i64) 0 wi 0 (fun k => Nx ≤ k ∧ k < N0) (.slice Aq q1.length dq) q1) ∧ Aside0 (N0 ≤ wi.heap.size) ∧ Aside0 (ys.length = i) ∧ Aside0 (∀ a ∈ ys, a.length ≤ 64 ∧ Dig (Z.b64 : Int) a))
          case atStart => exact ⟨0, p3, [], nilS, rfl, by omega, by omega, hp3, ⟨by rw [← HRV.out, Nat.sub_zero]; cases readBs nn (l0.drop p3) <;> rfl⟩, ⟨Kd.R_nil _ _ _ _ _⟩, HR15, BZ15, BM15, HB15, HFu15, HFq15, ⟨Nat.le_of_eq HN15.out⟩, ⟨rfl⟩, ⟨fun a ha => absurd ha (by simp)⟩⟩
          case round =>
            clear HR15 BZ15 BM15 HB15 HFu15 HFq15 HN15 HRV HN1 HN2 HN3
            obtain ⟨i, p, ys, v6, rfl, hi, hgg, hpl, HT, HOi, HRi, BZi, BMi, HBi, HFui, HFqi, HNi, HL6, HD6⟩ := hrel
            by_cases hin : i < nn
            · have hinz : (i : Int) < (nn : Int) := by omega
              obtain ⟨m, hm⟩ : ∃ m, nn - i = m + 1 := ⟨nn - i - 1, by omega⟩
              have hT := HT.out
              rw [hm, readBs] at hT
              have hby := fun w' h1 h2 => ref_readB.calls g p l0 w w' h1 h2 hpl HL.out HD.out
              have hdx := bytV_dig (most := 32) (HD.out.drop p)
              have hsx := bytV_short (most := 32) (l := l0.drop p)
              generalize bytV 32 (l0.drop p) = bv at hT hby hdx hsx
              obtain ⟨c, ex, l2⟩ := bv
              simp only at hT hby hdx hsx
              have HBY := Aside0.mk hby
              obtain ⟨kr, hkr⟩ := Z.refRdW_ev c hdx.2.1 hsx
              have hdl : (rdW c).1.length ≤ 64 ∧ Dig (Z.b64 : Int) (rdW c).1 := ⟨(Z.limbs_long _).2 (Z.val_b8_lt hdx.2.1 (by omega)), Z.toD_dig Z.b64_two _⟩
              generalize rdW c = rx at hT hkr hdl
              obtain ⟨x, ex2⟩ := rx
              simp only at hT hdl
              have HRD := Aside0.mk hkr
              have HDL := Aside0.mk hdl
              clear hby hkr HT hdx hdl
              by_cases hex : ex = 0
              · subst hex
                rw [if_pos rfl] at hT
                have HT := Aside0.mk hT
                clear hT
                go_wp2_with (first
                  | (go_at_call 33; ((with_reducible refine (HBY.out _ HRi.out HBi.out).mono ?_); rintro e w17 ⟨vc, p5, rfl, hoc, hr, hp5, hq5, hb, hk⟩; obtain ⟨Ac, dc, ec⟩ := Kd.R_slice hoc; subst ec; have HC17 := Aside0.mk hoc; have HP5 := Aside0.mk hp5; have HQ5 := Aside0.mk hq5; have HR17 := Aside0.mk hr; have HB17 := Aside0.mk hb; have BZ17 := Aside0.mk ((hk.2 g2 (blk_lt BZi.out) (by have := HGG.out; omega) (by simp)).trans BZi.out); have BM17 := Aside0.mk ((hk.2 gm (blk_lt BMi.out) (by have := HGM.out; omega) (by simp)).trans BMi.out); have HN17 := Aside0.mk (Nat.le_trans HNi.out hk.1); have HO17 := Aside0.mk (show Kd.R (Kd.slice 37 (Kd.int .u64)) 41 w17 N0 (fun _ => True) v6 ys from Kd.R_mono (Kd.R_keep (Kd.R_bound HOi.out) hk (fun k hk1 e => by have := HNG.out; have := HGM.out; have := HNN.out; have := hk1.2.1; omega)) (fun _ _ => trivial)); have HFu17 := Aside0.mk (Kd.V_keep HFui.out hk (fun k hk1 e => by have := HNG.out; have := HGM.out; have := hk1.1; omega)); have HFq17 := Aside0.mk (Kd.V_keep HFqi.out hk (fun k hk1 e => by have := HNG.out; have := HGM.out; have := hk1.1; omega)); clear HRi HBi BZi BMi HNi HOi HFui HFqi hoc hr hb hk hp5 hq5))
                  | (go_at_call 34; ((with_reducible refine (windbreakref01_Read.calls kr _ _ c _ _ _ (Kd.R_reads' HC17.out).2.2 (Kd.R_reads' HC17.out).2.1 HRD.out).mono ?_); rintro e w18 ⟨vx, rfl, hox, hb⟩; obtain ⟨Ax, dx, ex'⟩ := Kd.R_slice hox; subst ex'; have HX18 := Aside0.mk (Kd.R_mono (Kd.R_lower (Kd.R_new' hox (Kd.R_lt HO17.out)) HN17.out) (fun k hk => hk.2)); have HR18 := Aside0.mk (show RdQ w w18 g l0 p5 from HR17.out.below hb); have HB18 := Aside0.mk (below_step HB17.out hb); have BZ18 := Aside0.mk (blk_below BZ17.out hb); have BM18 := Aside0.mk (blk_below BM17.out hb); have HN18 := Aside0.mk (Nat.le_trans HN17.out hb.size); have HO18 := Aside0.mk (Kd.R_below HO17.out hb); have HFu18 := Aside0.mk (Kd.V_below HFu17.out hb); have HFq18 := Aside0.mk (Kd.V_below HFq17.out hb); have hm6 : w18.cell? ⟨gm, 6, none⟩ = some v6 := (blk_cell BM18.out 6).trans rfl; clear HR17 HB17 BZ17 BM17 HN17 HO17 HFu17 HFq17 HC17 hox hb))
                  | ((with_reducible refine gate_builtin (b := .append) (xs := #[.tmp 104, .tmp 106]) rfl ?_); at_builtin; refine Kd.R_append (Kd.slice 37 (Kd.int .u64)) N0 rfl (.tmp 104) (.tmp 106) 23 41 (.slice none 0 0) 24 rfl Try.underlying23 (by kernel_rfl) rfl (by decide) (by omega) v6 ys x [.slice Ax x.length dx] (fun _ => True) (fun k => some k ≠ (v6 : Value).ownBlock) rfl rfl ?aP (fun _ hk => ⟨trivial, hk⟩) ?aF ?aO (Below.refl _ _) ?aS ?aL ?_; (case aP => exact ⟨_, rfl, HX18.out⟩); (case aF => exact (fun _ _ => trivial)); (case aO => exact (uR HO18.out)); (case aS => exact HN18.out); (case aL => have := HL6.out; omega); intro v7 w19 ho hb hg3 hat; obtain ⟨A7, n7, d7, e7⟩ : ∃ A n d, v7 = .slice A n d := (by obtain ⟨A, d, h⟩ := Kd.R_slice ho; exact ⟨A, _, d, h⟩); subst e7; have HO19 := Aside0.mk ho; have HG3 := Aside0.mk hg3; clear ho hb hat hm6; have HBS := Aside0.mk (fun (k : Nat) (e : v6.ownBlock = some k) => Kd.R_base HO18.out k e); have HR19 := Aside0.mk (show RdQ w w19 g l0 p5 from HR18.out.grown HG3.out (fun e => by have := HBS.out g e.symm; have := HGM.out; have := HNG.out; have := HNN.out; omega)); have BM19 := Aside0.mk (blk_grown BM18.out HG3.out (fun e => by have := HBS.out gm e.symm; have := HNG.out; have := HNN.out; omega)); have BZ19 := Aside0.mk (blk_grown BZ18.out HG3.out (fun e => by have := HBS.out g2 e.symm; have := HGM.out; have := HNG.out; have := HNN.out; omega)); have HB19 := Aside0.mk (below_grown HB18.out HG3.out (fun k e => by have := HBS.out k e; have := HG2.out; have := HGM.out; have := HNG.out; have := HNN.out; omega)); have HFu19 := Aside0.mk (Kd.V_grown HFu18.out HG3.out (fun k hk e => by have := HBS.out k e.symm; have := hk.2; omega)); have HFq19 := Aside0.mk (Kd.V_grown HFq18.out HG3.out (fun k hk e => by have := HBS.out k e.symm; have := hk.2; omega)); have HN19 := Aside0.mk (Nat.le_trans HN18.out HG3.out.size); have hfm := blk_frozen BM19.out 6; have hcm : w19.cell? ⟨gm, 6, none⟩ = some v6 := (blk_cell BM19.out 6).trans rfl; clear HR18 BM18 BZ18 HB18 HFu18 HFq18 HN18 HO18 HX18 HG3 HBS))
                have BM20 := Aside0.mk (blk_put (cs' := (msgCells [a0, a1, a2, a3] (.slice Au u1.length du) (.slice Aq q1.length dq) (.slice A7 n7 d7))) BM19.out 6 (.slice A7 n7 d7) rfl)
                have BZ20 := Aside0.mk (blk_far BZ19.out (p := ⟨gm, 6, none⟩) (by have := HGM.out; show g2 ≠ gm; omega) (.slice A7 n7 d7))
                have HR20 := Aside0.mk (show RdQ w _ g l0 p5 from HR19.out.far (p := ⟨gm, 6, none⟩) (by have := HGM.out; show g ≠ gm; omega) (.slice A7 n7 d7))
                have HB20 := Aside0.mk (below_set (g := gm) (j := 6) (v := (.slice A7 n7 d7)) HB19.out (by have := HG2.out; have := HGM.out; omega))
                have HFu20 := Aside0.mk (Kd.V_far (p := ⟨gm, 6, none⟩) HFu19.out (fun k hk => by have := hk.1; have := HNG.out; show k ≠ gm; omega) (.slice A7 n7 d7))
                have HFq20 := Aside0.mk (Kd.V_far (p := ⟨gm, 6, none⟩) HFq19.out (fun k hk => by have := hk.1; have := HNG.out; show k ≠ gm; omega) (.slice A7 n7 d7))
                have HO20 := Aside0.mk (show Kd.R (Kd.slice 37 (Kd.int .u64)) 41 (w19.setCell ⟨gm, 6, none⟩ (.slice A7 n7 d7)) N0 (fun _ => True) (.slice A7 n7 d7) (ys ++ [x]) from Kd.R_mono (Kd.R_far (p := ⟨gm, 6, none⟩) (Kd.R_bound HO19.out) (fun k hk => by have := hk.2.1; have := HNG.out; have := HNN.out; show k ≠ gm; omega) (.slice A7 n7 d7)) (fun _ _ => trivial))
                go_roundg (nn - (i + 1))
                case measure => omega
                case rel =>
                  refine ⟨i + 1, p5, ys ++ [x], (.slice A7 n7 d7), by go_num, by omega, by omega, HP5.out, ⟨?_⟩, HO20, HR20, BZ20, BM20, HB20, HFu20, HFq20, ⟨by simpa [World.setCell] using HN19.out⟩, ⟨by rw [List.length_append, HL6.out]; rfl⟩, ⟨fun a ha => ?_⟩⟩
                  · rw [show nn - (i + 1) = m from by omega, HQ5.out, ← HT.out]
                    cases readBs m l2 <;> simp
                  · rcases List.mem_append.1 ha with ha | ha
                    · exact HD6.out a ha
                    · obtain rfl := List.mem_singleton.1 ha
                      exact HDL.out
              · rw [if_neg hex] at hT
                have hrv : ((0, 0, 0, 0, [], [], []), 16) = rv := hT
                subst hrv
                have hexz : (ex != 0) = true := bne_iff_ne.mpr hex
                clear hT
                go_wp2_with (first
                  | (go_at_call 33; ((with_reducible refine (HBY.out _ HRi.out HBi.out).mono ?_); rintro e w17 ⟨vc, p5, rfl, hoc, hr, hp5, hq5, hb, hk⟩; obtain ⟨Ac, dc, ec⟩ := Kd.R_slice hoc; subst ec; have HB17 := Aside0.mk hb; have BZ17 := Aside0.mk ((hk.2 g2 (blk_lt BZi.out) (by have := HGG.out; omega) (by simp)).trans BZi.out); clear HRi HBi BZi BMi HNi HOi HFui HFqi hoc hr hb hk hp5 hq5))
                  | ((with_reducible refine gate_store (t := 25) (p := 2) rfl ?_); refine wpList_store_row rfl 25 (.tmp 2) (.tmp 97) rfl g2 (msgCells [0, 0, 0, 0] nilS nilS nilS) rfl rfl 25 (msgCells [0, 0, 0, 0] nilS nilS nilS) BZ17.out (by kernel_rfl) (by kernel_rfl) (by kernel_rfl) ?_; have BE := Aside0.mk (setRow_heap _ g2 _ (msgCells [0, 0, 0, 0] nilS nilS nilS) _ _ BZ17.out); have HE := Aside0.mk (below_setRow HB17.out HG2.out (msgCells [0, 0, 0, 0] nilS nilS nilS))))
                (try rw [Exit.noGoto_ret])
                exact bodyPost_ret (results_row_tmp rfl _ _ g2 25 (msgCells [0, 0, 0, 0] nilS nilS nilS) (0, 0) _ rfl BE.out Try.underlying25 rfl (by kernel_rfl) (.int .i64 16) rfl) rfl ⟨_, rfl, MsgAt.zero _, HE.out⟩
            · have hinz : ¬ (i : Int) < (nn : Int) := by omega
              have hT := HT.out
              rw [show nn - i = 0 from by omega, readBs, Option.map_some, List.append_nil] at hT
              simp only at hT
              obtain ⟨A6, d6, e6⟩ := Kd.R_slice HOi.out
              subst e6
              obtain ⟨ke, hke⟩ := (Z.ref_Encode_ev a0 a1 a2 a3 u1 q1 ys (fun a ha => ⟨by have := (HD6.out a ha).1; simp only [maxLen]; omega, (HD6.out a ha).2⟩)).get
              have hdig : Dig 256 (Z.encodeV a0 a1 a2 a3 u1 q1 ys).1 := by
                unfold Z.encodeV
                split
                · split
                  · exact Z.Dig.nil
                  · exact Z.encM_dig
                · exact Z.Dig.nil
              generalize Z.encodeV a0 a1 a2 a3 u1 q1 ys = en at hT hke hdig
              obtain ⟨r1, r2⟩ := en
              simp only at hdig
              have hstr := Z.str_inj hdig HD.out
              have HE := Aside0.mk hke
              have hcase : rv = ((0, 0, 0, 0, [], [], []), 16) ∧ (r2 ≠ 0 ∨ r2 = 0 ∧ ((strOfNums r1).toList == (strOfNums l0).toList) = false) ∨ rv = ((a0, a1, a2, a3, u1, q1, ys), 0) ∧ r2 = 0 ∧ ((strOfNums r1).toList == (strOfNums l0).toList) = true := by
                by_cases k1 : r2 = 0
                · by_cases k2 : r1 = l0
                  · rw [if_pos (by rw [k1, k2])] at hT
                    refine .inr ⟨hT.symm, k1, ?_⟩
                    rw [hstr, decide_eq_true k2]
                  · rw [if_neg (fun h => k2 (congrArg Prod.fst h))] at hT
                    refine .inl ⟨hT.symm, .inr ⟨k1, ?_⟩⟩
                    rw [hstr, decide_eq_false k2]
                · rw [if_neg (fun h => k1 (congrArg Prod.snd h))] at hT
                  exact .inl ⟨hT.symm, .inl k1⟩
              have hm0 : _ = some (Value.int .i64 a0) := (blk_cell BMi.out 0).trans rfl
              have hm1 : _ = some (Value.int .i64 a1) := (blk_cell BMi.out 1).trans rfl
              have hm2 : _ = some (Value.int .i64 a2) := (blk_cell BMi.out 2).trans rfl
              have hm3 : _ = some (Value.int .i64 a3) := (blk_cell BMi.out 3).trans rfl
              have hm4 : _ = some (Value.slice Au u1.length du) := (blk_cell BMi.out 4).trans rfl
              have hm5 : _ = some (Value.slice Aq q1.length dq) := (blk_cell BMi.out 5).trans rfl
              have hm6 : _ = some (Value.slice A6 ys.length d6) := (blk_cell BMi.out 6).trans rfl
              have C4 := Aside0.mk (Kd.V_reads' HFui.out).2.2
              have C4c := Aside0.mk (Kd.V_reads' HFui.out).2.1
              have C5 := Aside0.mk (Kd.V_reads' HFqi.out).2.2
              have C5c := Aside0.mk (Kd.V_reads' HFqi.out).2.1
              have C6 := Aside0.mk (Kd.R_reads' HOi.out).2.2
              have C6c := Aside0.mk (Kd.R_reads' HOi.out).2.1
              have henc := fun w' h4 h5 h6 => windbreakref12_Encode.calls ke a0 a1 a2 a3 Au du u1 Aq dq q1 A6 d6 ys r1 r2 w' h4 C4c.out h5 C5c.out h6 C6c.out hke
              have HEN := Aside0.mk henc
              clear hT HT hke hdig hstr henc HE
              rcases hcase with ⟨rfl, hc⟩ | ⟨rfl, rfl, hs⟩
              · rcases hc with hz | ⟨rfl, hs⟩
                all_goals (try have hez := bne_iff_ne.mpr hz)
                all_goals (try clear hz)
                all_goals (try have hs2 : ((strOfNums r1).toList != (strOfNums l0).toList) = true := by rw [bne, hs]; rfl)
                all_goals
                  go_wp2_with (first
                    | (go_at_call 8; ((with_reducible refine (HEN.out _ C4.out C5.out C6.out).mono ?_); rintro e w21 ⟨ve, rfl, ho, hb⟩; obtain ⟨Ae, de, ee⟩ := Kd.R_slice ho; subst ee; have hcv1 := Kd.C_string (P := Try.prog) (c := de) Try.underlying27 Try.underlying5 Try.underlying9 (Kd.R_reads' ho).2.2; have hcv2 := Kd.C_string (P := Try.prog) (c := c0) Try.underlying27 Try.underlying5 Try.underlying9 (Kd.C_below HR0.out (below_step HBi.out hb)); have BZ21 := Aside0.mk (blk_below BZi.out hb); have BM21 := Aside0.mk (blk_below BMi.out hb); have HB21 := Aside0.mk (below_step HBi.out hb); have HFu21 := Aside0.mk (Kd.V_below HFui.out hb); have HFq21 := Aside0.mk (Kd.V_below HFqi.out hb); have HO21 := Aside0.mk (Kd.R_below HOi.out hb); clear hm0 hm1 hm2 hm3 hm4 hm5 hm6; have hm0 : w21.cell? ⟨gm, 0, none⟩ = some (.int .i64 a0) := (blk_cell BM21.out 0).trans rfl; have hm1 : w21.cell? ⟨gm, 1, none⟩ = some (.int .i64 a1) := (blk_cell BM21.out 1).trans rfl; have hm2 : w21.cell? ⟨gm, 2, none⟩ = some (.int .i64 a2) := (blk_cell BM21.out 2).trans rfl; have hm3 : w21.cell? ⟨gm, 3, none⟩ = some (.int .i64 a3) := (blk_cell BM21.out 3).trans rfl; have hm4 : w21.cell? ⟨gm, 4, none⟩ = some (.slice Au u1.length du) := (blk_cell BM21.out 4).trans rfl; have hm5 : w21.cell? ⟨gm, 5, none⟩ = some (.slice Aq q1.length dq) := (blk_cell BM21.out 5).trans rfl; have hm6 : w21.cell? ⟨gm, 6, none⟩ = some (.slice A6 ys.length d6) := (blk_cell BM21.out 6).trans rfl; clear HRi HBi BZi BMi HNi HOi HFui HFqi ho hb))
                    | ((with_reducible refine gate_store (t := 25) (p := 2) rfl ?_); refine wpList_store_row rfl 25 (.tmp 2) (.tmp 123) rfl g2 (msgCells [0, 0, 0, 0] nilS nilS nilS) rfl rfl 25 (msgCells [0, 0, 0, 0] nilS nilS nilS) BZ21.out (by kernel_rfl) (by kernel_rfl) (by kernel_rfl) ?_; have BE := Aside0.mk (setRow_heap _ g2 _ (msgCells [0, 0, 0, 0] nilS nilS nilS) _ _ BZ21.out); have HE := Aside0.mk (below_setRow HB21.out HG2.out (msgCells [0, 0, 0, 0] nilS nilS nilS))))
                all_goals (try rw [Exit.noGoto_ret])
                all_goals exact bodyPost_ret (results_row_tmp rfl _ _ g2 25 (msgCells [0, 0, 0, 0] nilS nilS nilS) (0, 0) _ rfl BE.out Try.underlying25 rfl (by kernel_rfl) (.int .i64 16) rfl) rfl ⟨_, rfl, MsgAt.zero _, HE.out⟩
              · have hs2 : ((strOfNums r1).toList != (strOfNums l0).toList) = false := by rw [bne, hs]; rfl
                go_wp2_with (first
                  | (go_at_call 8; ((with_reducible refine (HEN.out _ C4.out C5.out C6.out).mono ?_); rintro e w21 ⟨ve, rfl, ho, hb⟩; obtain ⟨Ae, de, ee⟩ := Kd.R_slice ho; subst ee; have hcv1 := Kd.C_string (P := Try.prog) (c := de) Try.underlying27 Try.underlying5 Try.underlying9 (Kd.R_reads' ho).2.2; have hcv2 := Kd.C_string (P := Try.prog) (c := c0) Try.underlying27 Try.underlying5 Try.underlying9 (Kd.C_below HR0.out (below_step HBi.out hb)); have BZ21 := Aside0.mk (blk_below BZi.out hb); have BM21 := Aside0.mk (blk_below BMi.out hb); have HB21 := Aside0.mk (below_step HBi.out hb); have HFu21 := Aside0.mk (Kd.V_below HFui.out hb); have HFq21 := Aside0.mk (Kd.V_below HFqi.out hb); have HO21 := Aside0.mk (Kd.R_below HOi.out hb); clear hm0 hm1 hm2 hm3 hm4 hm5 hm6; have hm0 : w21.cell? ⟨gm, 0, none⟩ = some (.int .i64 a0) := (blk_cell BM21.out 0).trans rfl; have hm1 : w21.cell? ⟨gm, 1, none⟩ = some (.int .i64 a1) := (blk_cell BM21.out 1).trans rfl; have hm2 : w21.cell? ⟨gm, 2, none⟩ = some (.int .i64 a2) := (blk_cell BM21.out 2).trans rfl; have hm3 : w21.cell? ⟨gm, 3, none⟩ = some (.int .i64 a3) := (blk_cell BM21.out 3).trans rfl; have hm4 : w21.cell? ⟨gm, 4, none⟩ = some (.slice Au u1.length du) := (blk_cell BM21.out 4).trans rfl; have hm5 : w21.cell? ⟨gm, 5, none⟩ = some (.slice Aq q1.length dq) := (blk_cell BM21.out 5).trans rfl; have hm6 : w21.cell? ⟨gm, 6, none⟩ = some (.slice A6 ys.length d6) := (blk_cell BM21.out 6).trans rfl; clear HRi HBi BZi BMi HNi HOi HFui HFqi ho hb))
                  | ((with_reducible refine gate_store (t := 25) (p := 2) rfl ?_); refine wpList_store_row rfl 25 (.tmp 2) (.tmp 124) rfl g2 (msgCells [a0, a1, a2, a3] (.slice Au u1.length du) (.slice Aq q1.length dq) (.slice A6 ys.length d6)) rfl rfl 25 (msgCells [0, 0, 0, 0] nilS nilS nilS) BZ21.out msg_info rfl (msg_one _ _ _ _ _ _ _ rfl rfl rfl) ?_; have BE := Aside0.mk (setRow_heap _ g2 _ (msgCells [a0, a1, a2, a3] (.slice Au u1.length du) (.slice Aq q1.length dq) (.slice A6 ys.length d6)) _ _ BZ21.out); have HE2 := Aside0.mk (below_setRow HB21.out HG2.out (msgCells [a0, a1, a2, a3] (.slice Au u1.length du) (.slice Aq q1.length dq) (.slice A6 ys.length d6)))))
                (try rw [Exit.noGoto_ret])
                have HS := fun (w9 : World) (k : Nat) (hk : Nx ≤ k) => setRow_other w9 g2 k (msgCells [a0, a1, a2, a3] (.slice Au u1.length du) (.slice Aq q1.length dq) (.slice A6 ys.length d6)) (by have := HNG.out; have := HGM.out; omega)
                exact bodyPost_ret (results_row_tmp rfl _ _ g2 25 (msgCells [a0, a1, a2, a3] (.slice Au u1.length du) (.slice Aq q1.length dq) (.slice A6 ys.length d6)) (0, 0) _ rfl BE.out Try.underlying25 rfl msg_info (.int .i64 0) rfl) rfl ⟨_, rfl, ⟨Au, du, Aq, dq, A6, d6, rfl, rd1_mk (Kd.V_reads' (Kd.V_step HFu21.out (fun k hk _ => HS _ k hk.1))).2.2 (Kd.V_reads' HFu21.out).2.1, rd1_mk (Kd.V_reads' (Kd.V_step HFq21.out (fun k hk _ => HS _ k hk.1))).2.2 (Kd.V_reads' HFq21.out).2.1, (Kd.R_reads' (Kd.R_step (Kd.R_bound HO21.out) (fun k hk _ => HS _ k (Nat.le_trans HNN.out hk.2.1)))).2.2, (Kd.R_reads' HO21.out).2.1⟩, HE2.out⟩
end Go.Proofs.Ytanmfddlncdncab.F
end
section
namespace Go.Proofs.Ytanmfddlncdncab.F
open Go.RowKit Go.Proofs.YtanmfddlncdncabW.PrintWords Go.Proofs.YtanmfddlncdncabW.PrintLast Go.Proofs.YtanmfddlncdncabW.PrintMore
open Go.Proofs.Ytanmfddlncdncab.Z (Dig decodeV refDecV)
set_option linter.unusedVariables false
set_option linter.unusedSimpArgs false
def windbreaklaw12_WireDecodes.f (k : Nat) (l0 : List Int) : Option Bool := if l0.length < 140737488355328 ∧ ∀ x ∈ l0, 0 ≤ x ∧ x < 256 then (windbreaklaw12_awake.f k).bind fun u => (windbreakref12_Same.f k (decodeV l0).1.1 (decodeV l0).1.2.1 (decodeV l0).1.2.2.1 (decodeV l0).1.2.2.2.1 (decodeV l0).1.2.2.2.2.1 (decodeV l0).1.2.2.2.2.2.1 (decodeV l0).1.2.2.2.2.2.2 (decodeV l0).1.1 (decodeV l0).1.2.1 (decodeV l0).1.2.2.1 (decodeV l0).1.2.2.2.1 (decodeV l0).1.2.2.2.2.1 (decodeV l0).1.2.2.2.2.2.1 (decodeV l0).1.2.2.2.2.2.2).bind fun s => if u = true ∧ s = true then some true else none else none
set_option maxHeartbeats 8000000 in
set_option maxRecDepth 100000 in
theorem windbreaklaw12_WireDecodes.calls (k : Nat) (A0 : Option Addr) (c0 : Nat) (l0 : List Int) (r : Bool) (w : World) (hr0 : Kd.C (Kd.int .u8) w A0 l0.length l0) (hc0 : l0.length ≤ c0) (h : windbreaklaw12_WireDecodes.f k l0 = some r) :
    Calls Try.prog 4 #[.slice A0 l0.length c0] w fun e w' => e = .returned (.bool r) ∧ Below w.heap.size w w' := by
  unfold windbreaklaw12_WireDecodes.f at h
  obtain ⟨⟨hl, hd⟩, h⟩ := uT h
  obtain ⟨u, hA, h⟩ := ub h
  obtain ⟨s, hS, h⟩ := ub h
  obtain ⟨⟨rfl, rfl⟩, h⟩ := uT h
  obtain rfl := Option.some.inj h
  clear h
  have hdec := fun A c w' h1 h2 => wire_Decode.calls A c l0 w' h1 h2 hl hd
  have href := fun A c w' h1 h2 => ref_Decode.calls A c l0 w' h1 h2 hl hd
  rw [Z.refDec_eq hd] at href
  generalize decodeV l0 = dv at hdec href hS
  obtain ⟨⟨b0, b1, b2, b3, m4, m5, m6⟩, er⟩ := dv
  have HA := hA
  have HS := Aside0.mk hS.out
  have HDC := Aside0.mk hdec
  have HRF := Aside0.mk href
  have HR0 := Aside0.mk hr0
  have HC0 := Aside0.mk hc0
  have HB := Aside0.mk (Below.refl w.heap.size w)
  clear hdec href hA hS hr0 hc0 hd hl
  go_enter Try.func4, Try.ntmps4
  go_wp2_with (first
    | (go_at_call 6; (with_reducible refine (windbreaklaw12_awake.calls k true _ HA.out).mono ?_); rintro e w1 ⟨rfl, hb⟩; have HB1 := Aside0.mk (below_step HB.out hb); clear HB hb)
    | (go_at_call 9; ((with_reducible refine (HDC.out A0 c0 _ (Kd.C_below HR0.out HB1.out) HC0.out).mono ?_); rintro e w2 ⟨v2, rfl, ⟨A4, a4, A5, a5, A6, a6, ev, ho4, ho5, ho6, ho7⟩, hb⟩; subst ev; have AR4 := Aside0.mk ho4; have AR5 := Aside0.mk ho5; have AR6 := Aside0.mk ho6; have AR7 := Aside0.mk ho7; have HB2 := Aside0.mk (below_step HB1.out hb); clear HB1 ho4 ho5 ho6 ho7 hb))
    | ((with_reducible refine gate_dst (N := 4) rfl ?_); refine box_event ?hg (N := 4) ?hd (cs := (msgCells [0, 0, 0, 0] nilS nilS nilS)) (t := 25) ?hr ?_; (case hd => rfl); (case hg => rfl); (case hr => first | (go_simp; done) | (go_simp; rfl)); intro gx hg w3 hbox hb; have Bx := Aside0.mk hbox; have HGX := Aside0.mk (show w.heap.size ≤ gx from hg ▸ below_size HB2.out); have HB3 := Aside0.mk (below_step HB2.out hb); have HQ := Aside0.mk hb; have HGQ := Aside0.mk (show w2.heap.size ≤ gx from Nat.le_of_eq hg.symm); clear HB2 hb hbox hg)
    | ((with_reducible refine gate_store (t := 25) (p := 4) rfl ?_); refine wpList_store_row rfl 25 (.tmp 4) (.tmp 13) rfl gx #[.int .i64 b0, .int .i64 b1, .int .i64 b2, .int .i64 b3, .slice A4 m4.length a4, .slice A5 m5.length a5, .slice A6 m6.length a6] rfl rfl 25 (msgCells [0, 0, 0, 0] nilS nilS nilS) Bx.out msg_info rfl (msg_one b0 b1 b2 b3 _ _ _ rfl rfl rfl) ?_; have Bx2 := Aside0.mk (setRow_heap w3 gx _ #[.int .i64 b0, .int .i64 b1, .int .i64 b2, .int .i64 b3, .slice A4 m4.length a4, .slice A5 m5.length a5, .slice A6 m6.length a6] _ _ Bx.out); have HB4 := Aside0.mk (below_setRow (g := gx) HB3.out HGX.out #[.int .i64 b0, .int .i64 b1, .int .i64 b2, .int .i64 b3, .slice A4 m4.length a4, .slice A5 m5.length a5, .slice A6 m6.length a6]); have HQ2 := Aside0.mk (below_setRow (g := gx) HQ.out HGQ.out #[.int .i64 b0, .int .i64 b1, .int .i64 b2, .int .i64 b3, .slice A4 m4.length a4, .slice A5 m5.length a5, .slice A6 m6.length a6]); replace AR4 := Aside0.mk (AR4.out.below HQ2.out); replace AR5 := Aside0.mk (AR5.out.below HQ2.out); replace AR6 := Aside0.mk (Kd.C_below AR6.out HQ2.out); generalize w3.setRow gx #[.int .i64 b0, .int .i64 b1, .int .i64 b2, .int .i64 b3, .slice A4 m4.length a4, .slice A5 m5.length a5, .slice A6 m6.length a6] = w4 at Bx2 HB4 AR4 AR5 AR6 HQ2 ⊢; replace Bx := Bx2; clear Bx2 HB3 HQ HQ2)
    | (go_at_call 10; ((with_reducible refine (HRF.out A0 c0 _ (Kd.C_below HR0.out HB4.out) HC0.out).mono ?_); rintro e w5 ⟨v5, rfl, ⟨B4, b4, B5, b5, B6, b6, ev, ho4, ho5, ho6, ho7⟩, hb⟩; subst ev; have BR4 := Aside0.mk ho4; have BR5 := Aside0.mk ho5; have BR6 := Aside0.mk ho6; have BR7 := Aside0.mk ho7; have HB5 := Aside0.mk (below_step HB4.out hb); replace AR4 := Aside0.mk (AR4.out.below hb); replace AR5 := Aside0.mk (AR5.out.below hb); replace AR6 := Aside0.mk (Kd.C_below AR6.out hb); have Bx2 := Aside0.mk (blk_below Bx.out hb); replace Bx := Bx2; clear Bx2 HB4 ho4 ho5 ho6 ho7 hb))
    | ((with_reducible refine gate_dst (N := 6) rfl ?_); refine box_event ?hg (N := 6) ?hd (cs := (msgCells [0, 0, 0, 0] nilS nilS nilS)) (t := 25) ?hr ?_; (case hd => rfl); (case hg => rfl); (case hr => first | (go_simp; done) | (go_simp; rfl)); intro gy hg w6 hbox hb; have By := Aside0.mk hbox; have HGY := Aside0.mk (show w.heap.size ≤ gy from hg ▸ below_size HB5.out); have HXY := Aside0.mk (show gx ≠ gy from by rw [hg]; exact Nat.ne_of_lt (blk_lt Bx.out)); have Bx2 := Aside0.mk (blk_below Bx.out hb); replace Bx := Bx2; clear Bx2; have HB6 := Aside0.mk (below_step HB5.out hb); have HQ := Aside0.mk hb; have HGQ := Aside0.mk (show w5.heap.size ≤ gy from Nat.le_of_eq hg.symm); clear HB5 hb hbox hg)
    | ((with_reducible refine gate_store (t := 25) (p := 6) rfl ?_); refine wpList_store_row rfl 25 (.tmp 6) (.tmp 18) rfl gy #[.int .i64 b0, .int .i64 b1, .int .i64 b2, .int .i64 b3, .slice B4 m4.length b4, .slice B5 m5.length b5, .slice B6 m6.length b6] rfl rfl 25 (msgCells [0, 0, 0, 0] nilS nilS nilS) By.out msg_info rfl (msg_one b0 b1 b2 b3 _ _ _ rfl rfl rfl) ?_; have By2 := Aside0.mk (setRow_heap w6 gy _ #[.int .i64 b0, .int .i64 b1, .int .i64 b2, .int .i64 b3, .slice B4 m4.length b4, .slice B5 m5.length b5, .slice B6 m6.length b6] _ _ By.out); have Bx2 := Aside0.mk ((setRow_other w6 gy gx #[.int .i64 b0, .int .i64 b1, .int .i64 b2, .int .i64 b3, .slice B4 m4.length b4, .slice B5 m5.length b5, .slice B6 m6.length b6] HXY.out).trans Bx.out); have HB7 := Aside0.mk (below_setRow (g := gy) HB6.out HGY.out #[.int .i64 b0, .int .i64 b1, .int .i64 b2, .int .i64 b3, .slice B4 m4.length b4, .slice B5 m5.length b5, .slice B6 m6.length b6]); have HQ2 := Aside0.mk (below_setRow (g := gy) HQ.out HGQ.out #[.int .i64 b0, .int .i64 b1, .int .i64 b2, .int .i64 b3, .slice B4 m4.length b4, .slice B5 m5.length b5, .slice B6 m6.length b6]); replace AR4 := Aside0.mk (AR4.out.below HQ2.out); replace AR5 := Aside0.mk (AR5.out.below HQ2.out); replace AR6 := Aside0.mk (Kd.C_below AR6.out HQ2.out); replace BR4 := Aside0.mk (BR4.out.below HQ2.out); replace BR5 := Aside0.mk (BR5.out.below HQ2.out); replace BR6 := Aside0.mk (Kd.C_below BR6.out HQ2.out); generalize w6.setRow gy #[.int .i64 b0, .int .i64 b1, .int .i64 b2, .int .i64 b3, .slice B4 m4.length b4, .slice B5 m5.length b5, .slice B6 m6.length b6] = w7 at Bx2 By2 HB7 AR4 AR5 AR6 BR4 BR5 BR6 HQ2 ⊢; replace Bx := Bx2; replace By := By2; have hx0 : w7.cell? ⟨gx, 0, none⟩ = some (.int .i64 b0) := (blk_cell Bx.out 0).trans rfl; have hx1 : w7.cell? ⟨gx, 1, none⟩ = some (.int .i64 b1) := (blk_cell Bx.out 1).trans rfl; have hx2 : w7.cell? ⟨gx, 2, none⟩ = some (.int .i64 b2) := (blk_cell Bx.out 2).trans rfl; have hx3 : w7.cell? ⟨gx, 3, none⟩ = some (.int .i64 b3) := (blk_cell Bx.out 3).trans rfl; have hx4 : w7.cell? ⟨gx, 4, none⟩ = some (.slice A4 m4.length a4) := (blk_cell Bx.out 4).trans rfl; have hx5 : w7.cell? ⟨gx, 5, none⟩ = some (.slice A5 m5.length a5) := (blk_cell Bx.out 5).trans rfl; have hx6 : w7.cell? ⟨gx, 6, none⟩ = some (.slice A6 m6.length a6) := (blk_cell Bx.out 6).trans rfl; have hy0 : w7.cell? ⟨gy, 0, none⟩ = some (.int .i64 b0) := (blk_cell By.out 0).trans rfl; have hy1 : w7.cell? ⟨gy, 1, none⟩ = some (.int .i64 b1) := (blk_cell By.out 1).trans rfl; have hy2 : w7.cell? ⟨gy, 2, none⟩ = some (.int .i64 b2) := (blk_cell By.out 2).trans rfl; have hy3 : w7.cell? ⟨gy, 3, none⟩ = some (.int .i64 b3) := (blk_cell By.out 3).trans rfl; have hy4 : w7.cell? ⟨gy, 4, none⟩ = some (.slice B4 m4.length b4) := (blk_cell By.out 4).trans rfl; have hy5 : w7.cell? ⟨gy, 5, none⟩ = some (.slice B5 m5.length b5) := (blk_cell By.out 5).trans rfl; have hy6 : w7.cell? ⟨gy, 6, none⟩ = some (.slice B6 m6.length b6) := (blk_cell By.out 6).trans rfl; clear Bx2 By2 HB6 HQ HQ2)
    | (go_at_call 11; ((with_reducible refine (windbreakref12_Same.calls k b0 b1 b2 b3 A4 a4 m4 A5 a5 m5 A6 a6 m6 b0 b1 b2 b3 B4 b4 m4 B5 b5 m5 B6 b6 m6 true _ AR4.out.C AR4.out.le AR5.out.C AR5.out.le AR6.out AR7.out BR4.out.C BR4.out.le BR5.out.C BR5.out.le BR6.out BR7.out HS.out).mono ?_); rintro e w8 ⟨rfl, hb⟩; have HB8 := Aside0.mk (below_step HB7.out hb); clear HB7 hb)))
  (try rw [Exit.noGoto_ret])
  go_ret
  exact ⟨by simp, HB8.out⟩
end Go.Proofs.Ytanmfddlncdncab.F
end
section
namespace Go.Proofs.Ytanmfddlncdncab.F
open Go.RowKit Go.Proofs.YtanmfddlncdncabW.PrintWords Go.Proofs.YtanmfddlncdncabW.PrintLast Go.Proofs.YtanmfddlncdncabW.PrintMore
attribute [local go_sem] max2_int min2_int max_two min_two max_three min_three max_four min_four
set_option linter.unusedVariables false
set_option linter.unusedSimpArgs false
def windbreaklaw12_WireDecodes.Pure : Prop := ∀ (l0 : List Int), l0.length ≤ maxLen → l0.length * 1 ≤ 140737488351232 → (∀ x ∈ l0, (Lit.int .u8 x).wf = true) → ∃ k, windbreaklaw12_WireDecodes.f k l0 = some true
theorem windbreaklaw12_WireDecodes.walk (P : windbreaklaw12_WireDecodes.Pure) (a0 : Option Addr) (len0 cap0 : Nat) (z0 : List Int) (w : World) (w0 : (a0 = none ∧ len0 = 0 ∧ cap0 = 0 ∧ z0 = []) ∨ ∃ x, a0 = some x ∧ len0 ≤ cap0 ∧ cap0 ≤ maxLen ∧ z0.length = cap0 ∧ (∀ i, i < z0.length → w.cell? (x.add i) = some (.int .u8 (z0.getD i 0))) ∧ ∀ n ∈ z0, (Lit.int .u8 n).wf = true) (y0 : len0 * 1 ≤ 140737488351232) :
  Calls Try.prog 4 #[.slice a0 len0 cap0] w fun e w' => e = .returned (.bool true) ∧ Below w.heap.size w w' := by
 obtain ⟨l0, rfl, hr0, hm0, hw0, hc0⟩ := ReadsInt.ofRowC w0
 obtain ⟨k, h⟩ := P l0 hm0 y0 hw0
 refine (windbreaklaw12_WireDecodes.calls k _ _ l0 true w (Kd.C_of_reads (d := (0 : Int)) (h1 := fun _ => rfl) hr0) hc0 h).mono ?_
 rintro e w' ⟨rfl, hd⟩
 exact ⟨rfl, hd⟩
end Go.Proofs.Ytanmfddlncdncab.F
end
section
namespace Go.Proofs.Ytanmfddlncdncab.Pure
open Go.RowKit Go.Proofs.Ytanmfddlncdncab.F Go.Proofs.Ytanmfddlncdncab.Z
set_option linter.unusedSimpArgs false
set_option linter.unusedVariables false
theorem wf_u8w {x : Int} (h : (Lit.int .u8 x).wf = true) : 0 ≤ x ∧ x < 256 := by
  simp [Lit.wf, IntKind.min, IntKind.max, IntKind.bits, IntKind.signed] at h
  omega
theorem same_self {a0 a1 a2 a3 : Int} {l4 l5 : List Int} {l6 : List (List Int)} (h4 : l4.length ≤ maxLen) (h5 : l5.length ≤ maxLen) (h6 : l6.length ≤ maxLen) (hn : ∀ a ∈ l6, a.length ≤ maxLen) : Evt (fun k => windbreakref12_Same.f k a0 a1 a2 a3 l4 l5 l6 a0 a1 a2 a3 l4 l5 l6) true :=
  (Same_ev a0 a1 a2 a3 l4 l5 l6 a0 a1 a2 a3 l4 l5 l6 h4 h5 h6 hn).congr (fun k => rfl) (by simp)
theorem WireDecodes : windbreaklaw12_WireDecodes.Pure := by
  intro l0 _ hl hx
  apply Evt.get
  have hd : ∀ x ∈ l0, 0 ≤ x ∧ x < 256 := fun x hm => wf_u8w (hx x hm)
  have hdd : Dig 256 l0 := hd
  unfold windbreaklaw12_WireDecodes.f
  refine Evt.ite_pos ⟨by omega, hd⟩ (Evt.bind awake12_ev ?_)
  have hS : Evt (fun k => windbreakref12_Same.f k (decodeV l0).1.1 (decodeV l0).1.2.1 (decodeV l0).1.2.2.1 (decodeV l0).1.2.2.2.1 (decodeV l0).1.2.2.2.2.1 (decodeV l0).1.2.2.2.2.2.1 (decodeV l0).1.2.2.2.2.2.2 (decodeV l0).1.1 (decodeV l0).1.2.1 (decodeV l0).1.2.2.1 (decodeV l0).1.2.2.2.1 (decodeV l0).1.2.2.2.2.1 (decodeV l0).1.2.2.2.2.2.1 (decodeV l0).1.2.2.2.2.2.2) true := by
    rcases decode_ok hdd with h | ⟨a0, a1, a2, a3, l4, l5, l6, h, e, hr, hn, hl2⟩
    · rw [h]
      exact same_self (Nat.zero_le _) (Nat.zero_le _) (Nat.zero_le _) (fun a ha => absurd ha (by simp))
    · rw [h]
      obtain ⟨_, _, _, _, n4, n5, n6, _, _, h6⟩ := right_parts hr
      exact same_self (by simp only [maxLen]; omega) (by simp only [maxLen]; omega) (by simp only [maxLen]; omega) (fun a ha => by have := (h6 a ha).2; simp only [maxLen]; omega)
  exact Evt.bind hS (Evt.ite_pos ⟨rfl, rfl⟩ (Evt.pure _))
end Go.Proofs.Ytanmfddlncdncab.Pure
end
section
namespace Go.Proofs.YtanmfddlncdncabW.PrintWords
open Go.ChangeShapes Go.WideShapes
theorem sized_ints {H : Type} {enc : TypeId × Value → H} {P : Program} {W : World} {base : Nat} {spare : Nat → Bool} {held : Bool} {t e : TypeId} {k : IntKind} {a : Option Addr} {len cap : Nat} {d : DataW H} {ps : List MemPlace} {ts : List TypeId} {ds : List (DataW H)} {j : Nat}
    (hsz : (DataW.weightsEach P ts ds).all (· ≤ reachBytes) = true) (ht : ts[j]? = some t) (hd : ds[j]? = some d) (hu : P.underlying t = some (.slice e)) (he : P.underlying e = some (.int k)) (hc : P.cellsOf e = 1) {B : Nat} (hB : P.bytesOf e = B)
    (h : DataW.Trod enc P W base spare held t (.slice a len cap) d ps) : len * B ≤ 140737488351232 := by
  obtain ⟨fuel, hf⟩ := h
  rcases open_ints hu he hc hf with ⟨hcs, _⟩ | ⟨x, l, c, zs, hcs, _, hl, _, hz, hx, _, _⟩
  · simp [Value.cells] at hcs
    obtain ⟨rfl, rfl, rfl⟩ := hcs
    simp
  · simp [Value.cells] at hcs
    obtain ⟨rfl, rfl, rfl⟩ := hcs
    obtain ⟨hx, _⟩ := Prod.mk.inj hx
    subst hx
    have z := sized_slice hsz ht hd hu
    rw [hB] at z
    have hl2 : len ≤ zs.length := by
      rw [hz]
      split
      · exact hl
      · exact Nat.le_refl _
    have h1 : (lits (H := H) k (zs.take len)).length + (lits (H := H) k (zs.drop len)).length = zs.length := by
      simp [lits]
      omega
    rw [h1] at z
    exact Nat.le_trans (Nat.mul_le_mul_right _ hl2) z
end Go.Proofs.YtanmfddlncdncabW.PrintWords
end
section
namespace Go.Proofs.Ytanmfddlncdncab.wireDecodes
open Go.ChangeShapes Go.WideShapes Go.ChangeAt Go.RowKit
open Go.ChangeMaps (open_string shut_string)
set_option linter.unusedVariables false
theorem own : ownKnob Try.prog.godebug = none := by kernel_rfl
theorem laidOut : laidOutB Try.prog = true := by kernel_rfl
def IsRow (k : IntKind) (w : World) (a : Option Addr) (len cap : Nat) (zs : List Int) : Prop :=
  (a = none ∧ len = 0 ∧ cap = 0 ∧ zs = []) ∨
  ∃ x, a = some x ∧ len ≤ cap ∧ cap ≤ maxLen ∧ zs.length = cap ∧ (∀ i, i < zs.length → w.cell? (x.add i) = some (.int k (zs.getD i 0))) ∧ ∀ n ∈ zs, (Lit.int k n).wf = true
set_option maxRecDepth 100000 in
theorem lifted (os : Os) (started : os.Started) (H : Type) (enc : TypeId × Value → H) :
    ReturnsInHanded {} Try.checked os 4 .any (Rows.wireDecodesSpec.pre6 enc Try.prog Try.f4 Rows.wireDecodesRow.domain false) (Rows.wireDecodesSpec.post enc Try.prog Try.f4 false true false false) := by
  refine returnsInHanded_of_change_sized (C := Try.checked) own started (by kernel_rfl) Try.func4
    (ChangeSpec.witness6 (enc := enc) (C := Try.checked) false ⟨#[], #[.slice none 0 0], []⟩ 8 (by kernel_rfl) (by kernel_rfl) (by kernel_rfl) (by kernel_rfl)) ?_
  intro W base args ds gs before hval0 hW hcnd hsz0 _
  have hsz : (DataW.weightsEach Try.prog (Try.f4.params.toList ++ Rows.wireDecodesSpec.plain.varTypes Try.prog) (ds ++ gs)).all (· ≤ reachBytes) = true := hsz0
  have hval : ∀ (j : Nat) t v, Try.f4.params[j]? = some t → args[j]? = some v → Value.okWide Try.prog W .any base t v := hval0
  have hW' := hW
  obtain ⟨p, q, hA0, hV, rfl, hfz, hnd⟩ := hW
  have hA : DataW.TrodAll enc Try.prog W 0 (fun _ => true) true Try.f4.params.toList args.toList ds p := hA0
  rw [Try.params4] at hA hval hsz
  obtain ⟨v0, vs0, d0, ds0, p0, q0, hargs, rfl, rfl, h0, r0⟩ := trodAll_cons hA
  obtain ⟨rfl, rfl, rfl⟩ := trodAll_nil r0
  obtain rfl : args = #[v0] := by cases args; simp_all
  obtain ⟨rfl, rfl⟩ := trodVars_none hV
  obtain ⟨a0, len0, cap0, rfl⟩ := okWide_slice Try.underlying27 (hval 0 27 v0 rfl rfl)
  have k0 := h0
  have lt0 : ∀ x ∈ p0, x.block < W.heap.size := by obtain ⟨m, hm⟩ := k0; exact DataW.trod_lt m _ _ _ hm
  obtain ⟨z0, w0⟩ : ∃ zs, IsRow .u8 W a0 len0 cap0 zs := by
    obtain ⟨fuel, hf⟩ := h0
    rcases open_ints Try.underlying27 Try.underlying5 (by kernel_rfl) hf with ⟨hcs, _⟩ | ⟨x, l, c, zs, hcs, _, hl, hm, hz, _, hcell, hwz⟩
    · simp [Value.cells] at hcs
      obtain ⟨rfl, rfl, rfl⟩ := hcs
      exact ⟨[], .inl ⟨rfl, rfl, rfl, rfl⟩⟩
    · simp [Value.cells] at hcs
      obtain ⟨rfl, rfl, rfl⟩ := hcs
      exact ⟨zs, .inr ⟨_, rfl, hl, hm, by simpa using hz, hcell, hwz⟩⟩
  have y0 : len0 * 1 ≤ 140737488351232 := Go.Proofs.YtanmfddlncdncabW.PrintWords.sized_ints hsz (j := 0) (t := 27) rfl rfl Try.underlying27 Try.underlying5 (by kernel_rfl) (by kernel_rfl) h0
  clear hA0 hval0 hsz0 hsz
  refine (F.windbreaklaw12_WireDecodes.walk Pure.WireDecodes a0 len0 cap0 z0 W w0 y0).mono fun e W' ⟨he, bel⟩ => ?_
  subst he
  exact ⟨_, rfl, _, _, _, [], _, [], hW', trodAll_mk1 (shut_bool Try.underlying4 _), (trodAll_cons_mk (Below.trod laidOut (by kernel_rfl) (of_decide_eq_true (by kernel_rfl)) k0 bel lt0) trodAll_mk0), rfl, bel.frame _, fun h => by cases h⟩
theorem over : Rows.wireDecodesRow.holds Try.pinned (OpenSpec.ofChange Rows.wireDecodesSpec) :=
  OpenClaim.holds_of_wide 4 Try.f4 rfl rfl rfl rfl rfl rfl rfl ⟨rfl, rfl, rfl, rfl, rfl⟩ rfl rfl rfl rfl rfl (by kernel_rfl) Try.func4 (by kernel_rfl)
    (of_decide_eq_true (by kernel_rfl)) (by unfold Func.isWrapper; first | (rw [if_pos (by decide +kernel)]; kernel_rfl) | (rw [if_neg (by decide +kernel)]; exact ⟨rfl, rfl⟩))
    (fun os started H enc _ => lifted os started H enc)
theorem proved : Rows.WireDecodesSaid := over
#print axioms proved
end Go.Proofs.Ytanmfddlncdncab.wireDecodes
namespace Go.Proofs.Ytanmfddlncdncab
theorem wireDecodes_holds : Rows.WireDecodesSaid := wireDecodes.proved
end Go.Proofs.Ytanmfddlncdncab
end
