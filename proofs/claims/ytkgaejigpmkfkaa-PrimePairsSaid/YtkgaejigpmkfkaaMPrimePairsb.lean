/- Proved: the law PrimePairs of layer 5: any key drawn from any tape is the document's, and has as many bits as asked for; for every input, without a condition. -/
import Derived.Test.YtkgaejigpmkfkaaMPrimePairsa
import Derived.Deep.RegionLaw
import Derived.StillTailTactics
import Derived.RangeFuncFrom
import Derived.RangeFuncLeaves
import Derived.Shelf.Abstract
import Derived.WalkKit
import Derived.OwnWalkIn
import Derived.TacticsInMore
import Derived.LoopNIn
import Derived.LoopIn
section
namespace Go.Proofs.Ytkgaejigpmkfkaa.F
open Go.RowKit Go.Proofs.YtkgaejigpmkfkaaW.PrintWords Go.Proofs.YtkgaejigpmkfkaaW.PrintLast Go.Proofs.YtkgaejigpmkfkaaW.PrintMore
attribute [local go_sem] max2_int min2_int max_two min_two max_three min_three max_four min_four
set_option linter.unusedVariables false
set_option linter.unusedSimpArgs false
def nat_up.l0 : Nat → Int → List Int → List Int → Int → Int → Option (List Int)
 | 0, _, _, _, _, _ => none
 | k + 1, x1, x5, x12, x13, x14 => if x14 < x13 then (if 0 ≤ x14 then (if x14 < (x12.length : Int) then (if x14 < (x5.length : Int) then (if 0 ≤ x1 then ((some (x5.set (x14 : Int).toNat (Go.bits .or .u64 (rd x5 x14) (shl .u64 (rd x12 x14) x1)) : List Int)).bind fun y207 => (if x1 > 0 then (if 0 ≤ (IntKind.u64.wrap (64 - x1)) then (if 0 ≤ (wrap64 (x14 + 1)) then (if (wrap64 (x14 + 1)) < (x5.length : Int) then (nat_up.l0 k x1 (y207.set ((wrap64 (x14 + 1)) : Int).toNat (shr .u64 (rd x12 x14) (IntKind.u64.wrap (64 - x1)))) x12 x13 (wrap64 (x14 + 1))) else (none)) else (none)) else (none)) else (nat_up.l0 k x1 y207 x12 x13 (wrap64 (x14 + 1))))) else (none)) else (none)) else (none)) else (none)) else (some x5)
def nat_up.f (k : Nat) (l0 : List Int) (a1 : Int) : Option (List Int) := if 0 ≤ (wrap64 ((l0.length : Int) + 1)) then (if (wrap64 ((l0.length : Int) + 1) : Int).toNat ≤ 35184372088832 then (nat_up.l0 k a1 (List.replicate (wrap64 ((l0.length : Int) + 1) : Int).toNat 0) l0 (l0.length : Int) 0) else (none)) else (none)
set_option maxHeartbeats 8000000 in
set_option maxRecDepth 100000 in
theorem nat_up.calls (k : Nat) (A0 : Option Addr) (c0 : Nat) (l0 : List Int) (a1 : Int) (r : List Int) (w : World) (hr0 : Kd.C (Kd.int .u64) w A0 l0.length l0) (hc0 : l0.length ≤ c0) (h : nat_up.f k l0 a1 = some r) :
  Calls Try.prog 90 #[.slice A0 l0.length c0, .int .u64 a1] w fun e w' => ∃ v0_ : Value, e = .returned (v0_) ∧ Kd.R (Kd.int .u64) 30 w' w.heap.size (fun _ => True) v0_ r ∧ Below w.heap.size w w' := by
 have HR0 := Aside0.mk hr0; have HC0 := Aside0.mk hc0; clear hr0 hc0
 have HB := Aside0.mk (Below.refl w.heap.size w)
 have H : (if 0 ≤ (wrap64 ((l0.length : Int) + 1)) then (if (wrap64 ((l0.length : Int) + 1) : Int).toNat ≤ 35184372088832 then (nat_up.l0 k a1 (List.replicate (wrap64 ((l0.length : Int) + 1) : Int).toNat 0) l0 (l0.length : Int) 0) else (none)) else (none)) = some r := h
 clear h
 obtain ⟨ji3, hji3⟩ : ∃ j_ : Int, (wrap64 ((l0.length : Int) + 1)) = j_ := ⟨_, rfl⟩
 first | rw [hji3] at H | simp only [hji3] at H
 have hji3w : (IntKind.i64.wrap ((l0.length : Int) + 1)) = ji3 := (i64_w _).trans hji3
 replace H := uT H; obtain ⟨c4, H⟩ := H
 have c4b0 := eq_true c4
 have c4b1 : decide (0 ≤ (ji3)) = true := decide_eq_true c4
 clear c4
 replace H := uT H; obtain ⟨c5, H⟩ := H
 have c5b0 := eq_true c5
 have c5b1 : decide ((ji3 : Int).toNat ≤ 35184372088832) = true := decide_eq_true c5
 clear c5
 obtain ⟨y202, hy202⟩ : ∃ y_ : List Int, y_ = (List.replicate (ji3 : Int).toNat 0) := ⟨_, rfl⟩
 replace H : (nat_up.l0 k a1 y202 l0 (l0.length : Int) 0) = some r := by first | (rw [hy202]; with_reducible exact H) | (have H2_ := (Option.bind_some _ _).symm.trans H; rw [hy202]; with_reducible exact H2_) | (have H2_ := (Option.bind_some _ _).symm.trans H; with_reducible exact H2_) | with_reducible exact H | (rw [hy202]; exact H) | exact H
 have Ny202 := Aside0.mk hy202; clear hy202
 have H' := Aside0.mk H
 clear H
 go_enter Try.func90, Try.ntmps90
 go_wp2_with (first | ((with_reducible refine gate_dst (N := 11) rfl ?_); refine Kd.R_make (Kd.int .u64) _ 30 rfl (N := 11) rfl 40 _ _ rfl ji3 rfl rfl Try.underlying40 (.int .u64 0) 8 info30 rfl (by decide) (by omega) 0 (ok := fun _ => True) (okp := fun _ => True) rfl (fun _ hk => hk) trivial uO (Nat.le_trans (Nat.mul_le_mul_right _ (uO : ji3.toNat ≤ 35184372088832)) (by omega)) (Below.refl _ _) (Nat.le_refl _) ?_; intro v203 w6 ho7 hb hg_ hnew_; clear hg_ hnew_; (first | rw [← Ny202.out] at ho7 | (simp only [Int.reduceToNat] at ho7; rw [← Ny202.out] at ho7)); have HO204 := Aside0.mk (Kd.R_lower ho7 (below_size uB)); replace HB := uy hb; clear hb ho7))
 go_loopg [14] k (fun kq v14 w' => ∃ (x5_1 : List Int) (x14_1 : Int), v14 = .int .i64 x14_1 ∧ Aside0 (nat_up.l0 kq a1 x5_1 l0 (l0.length : Int) x14_1 = some r) ∧ Aside0 (kq ≤ k) ∧ Aside0 (Kd.R (Kd.int .u64) 30 w' w.heap.size (fun _ => True) v203 x5_1) ∧ Aside0 (Below w.heap.size w w'))
 case atStart => exact ⟨(y202), (0), uG, H', ⟨Nat.le_refl _⟩, ⟨uR HO204.out⟩, ⟨uB⟩⟩
 case round =>
  clear H'
  (try clear p2); (try clear c4); (try clear c4b0); (try clear c4b1); (try clear c5); (try clear c5b0); (try clear c5b1); (try clear p6)
  obtain ⟨x5_1, x14_1, rfl, HA, HK1, HO_5, HB⟩ := hrel
  cases gk with
  | zero => exact absurd HA.out (by simp [nat_up.l0])
  | succ k1 =>
   have H := HA.out
   clear HA
   simp only [nat_up.l0] at H
   by_cases c8 : x14_1 < (l0.length : Int)
   ·
    rw [if_pos c8] at H
    have c8b0 : decide (x14_1 < (l0.length : Int)) = true := decide_eq_true c8
    clear c8
    replace H := uT H; obtain ⟨c9, H⟩ := H
    have c9b0 : decide (0 ≤ x14_1) = true := decide_eq_true c9
    clear c9
    replace H := uT H; obtain ⟨c10, H⟩ := H
    have c10b0 : decide (x14_1 < (l0.length : Int)) = true := decide_eq_true c10
    clear c10
    replace H := uT H; obtain ⟨c11, H⟩ := H
    have c11b0 : decide (x14_1 < (x5_1.length : Int)) = true := decide_eq_true c11
    clear c11
    replace H := uT H; obtain ⟨c12, H⟩ := H
    have c12b0 := eq_true c12
    have c12b1 : decide (0 ≤ a1) = true := decide_eq_true c12
    clear c12
    obtain ⟨ji13, hji13⟩ : ∃ j_ : Int, (shl .u64 (rd l0 x14_1) a1) = j_ := ⟨_, rfl⟩
    first | rw [hji13] at H | simp only [hji13] at H
    have hji13_ : (IntKind.u64.wrap ((rd l0 x14_1) * 2 ^ min a1.toNat 64)) = ji13 := hji13
    have hji13z : a1 ≤ 64 → (IntKind.u64.wrap ((rd l0 x14_1) * 2 ^ a1.toNat)) = ji13 := shl_small hji13
    obtain ⟨y207, hy207⟩ : ∃ y_ : List Int, y_ = (x5_1.set (x14_1 : Int).toNat (Go.bits .or .u64 (rd x5_1 x14_1) (ji13))) := ⟨_, rfl⟩
    replace H : (if a1 > 0 then (if 0 ≤ (IntKind.u64.wrap (64 - a1)) then (if 0 ≤ (wrap64 (x14_1 + 1)) then (if (wrap64 (x14_1 + 1)) < (x5_1.length : Int) then (nat_up.l0 k1 a1 (y207.set ((wrap64 (x14_1 + 1)) : Int).toNat (shr .u64 (rd l0 x14_1) (IntKind.u64.wrap (64 - a1)))) l0 (l0.length : Int) (wrap64 (x14_1 + 1))) else (none)) else (none)) else (none)) else (nat_up.l0 k1 a1 y207 l0 (l0.length : Int) (wrap64 (x14_1 + 1)))) = some r := by first | (rw [hy207]; with_reducible exact H) | (have H2_ := (Option.bind_some _ _).symm.trans H; rw [hy207]; with_reducible exact H2_) | (have H2_ := (Option.bind_some _ _).symm.trans H; with_reducible exact H2_) | with_reducible exact H | (rw [hy207]; exact H) | exact H
    have Ny207 := Aside0.mk hy207; clear hy207
    by_cases c15 : a1 > 0
    ·
     rw [if_pos c15] at H
     have c15b0 : decide (0 < a1) = true := decide_eq_true c15
     clear c15
     obtain ⟨ji16, hji16⟩ : ∃ j_ : Int, (IntKind.u64.wrap (64 - a1)) = j_ := ⟨_, rfl⟩
     first | rw [hji16] at H | simp only [hji16] at H
     replace H := uT H; obtain ⟨c17, H⟩ := H
     have c17b0 := eq_true c17
     have c17b1 : decide (0 ≤ (ji16)) = true := decide_eq_true c17
     clear c17
     obtain ⟨ji18, hji18⟩ : ∃ j_ : Int, (shr .u64 (rd l0 x14_1) (ji16)) = j_ := ⟨_, rfl⟩
     first | rw [hji18] at H | simp only [hji18] at H
     have hji18_ : ((rd l0 x14_1) / 2 ^ min (ji16).toNat 64) = ji18 := hji18
     have hji18z : (ji16) ≤ 64 → ((rd l0 x14_1) / 2 ^ (ji16).toNat) = ji18 := shr_small hji18
     obtain ⟨ji19, hji19⟩ : ∃ j_ : Int, (wrap64 (x14_1 + 1)) = j_ := ⟨_, rfl⟩
     first | rw [hji19] at H | simp only [hji19] at H
     have hji19w : (IntKind.i64.wrap (x14_1 + 1)) = ji19 := (i64_w _).trans hji19
     replace H := uT H; obtain ⟨c20, H⟩ := H
     have c20b0 : decide (0 ≤ (ji19)) = true := decide_eq_true c20
     clear c20
     replace H := uT H; obtain ⟨c21, H⟩ := H
     have c21b0 : decide ((ji19) < (x5_1.length : Int)) = true := decide_eq_true c21
     clear c21
     obtain ⟨y208, hy208⟩ : ∃ y_ : List Int, y_ = (y207.set ((ji19) : Int).toNat (ji18)) := ⟨_, rfl⟩
     replace H : (nat_up.l0 k1 a1 y208 l0 (l0.length : Int) ji19) = some r := by first | (rw [hy208]; with_reducible exact H) | (have H2_ := (Option.bind_some _ _).symm.trans H; rw [hy208]; with_reducible exact H2_) | (have H2_ := (Option.bind_some _ _).symm.trans H; with_reducible exact H2_) | with_reducible exact H | (rw [hy208]; exact H) | exact H
     have Ny208 := Aside0.mk hy208; clear hy208
     have H' := Aside0.mk H
     clear H
     have p205 : 0 ≤ (x14_1 : Int) := uO
     have q205 : x14_1 < (l0.length : Int) := uO
     obtain ⟨ad205, e205, hx205_0⟩ := Kd.at_int HR0.out x14_1 p205 q205
     cases e205
     replace hx205_0 := (HB.out.cell (World.block_lt_of_cell? w _ hx205_0)).trans hx205_0
     replace p205 := eq_true p205
     replace q205 := eq_true q205
     obtain ⟨Ao23, co23, eo23⟩ := Kd.R_slice HO_5.out
     subst eo23
     have p206 : 0 ≤ (x14_1 : Int) := uO
     have q206 : x14_1 < (x5_1.length : Int) := uO
     obtain ⟨ad206, e206, hx206_0⟩ := Kd.at_int (Kd.R_reads' HO_5.out).2.2 x14_1 p206 q206
     cases e206
     replace p206 := eq_true p206
     replace q206 := eq_true q206
     have p14 : 0 ≤ (x14_1 : Int) := uO
     have q14 : (x14_1 : Int) < ((x5_1.length : Int) : Int) := uO
     obtain ⟨go14, co14, eo14, gb14, gl14, cl14, HG14⟩ := Kd.R_form HO_5.out (by omega)
     (first | cases eo14 | (injection eo14 with ea_ en_ ec_; (first | subst ea_ | (injection ea_ with ea_; subst ea_)); subst ec_; clear en_))
     have GB14 := Aside0.mk gb14; have GG14 := Aside0.mk HG14; clear gb14 gl14 HG14
     (first | simp only [add_plain] at hx206_0 | skip)
     obtain ⟨hx14_0, hf14_0⟩ := Kd.R_celln 0 HO_5.out (x14_1 : Int) p14 q14
     replace p14 := eq_true p14
     replace q14 := eq_true q14
     have HP24 := Kd.R_putg HO_5.out (x14_1 : Int) (Go.bits .or .u64 (rd x5_1 x14_1) (ji13))
     go_wp2_with (first | ((with_reducible refine gate_store (t := 30) (p := 27) rfl ?_); refine store_event (t := 30) (p := 27) (v := ?vo_w25) (w1 := (wr.setCell ⟨go14, (x14_1 : Int).toNat, none⟩ (.int .u64 (Go.bits .or .u64 (rd x5_1 x14_1) (ji13))))) ?hg ?ho ?hn ?hr ?_; (case ho => rfl); (case hg => rfl); (case hn => rfl); (case hr => first | (go_simp; done) | (go_simp; rfl) | (obtain ⟨hy_, hz_⟩ := Kd.R_celln 0 HO_5.out (x14_1 : Int) uO uO; (try simp only [Go.IntWalk.toNatUp] at hy_ hz_); (try simp only [Int.reduceToNat, Int.toNat_zero, Int.toNat_ofNat] at hy_ hz_); first | (go_simp; done) | (go_simp; rfl))); intro w25 hw; have hg : wr.grownBy w25 (some go14) := (by rw [hw]; exact HP24.2); have hp_ : Kd.R (Kd.int .u64) 30 w25 w.heap.size (fun _ => True) (.slice (some ⟨go14, 0, none⟩) x5_1.length co23) y207 := (by rw [hw, Ny207.out]; exact HP24.1); clear HP24; replace HO_5 := Aside0.mk (hp_); replace HB := Aside0.mk ((by rw [hw]; exact below_set (HB.out) GB14.out : Below w.heap.size w w25)); clear hg hw hp_; have p22 : 0 ≤ ((ji19) : Int) := uO; have q22 : ((ji19) : Int) < ((x5_1.length : Int) : Int) := uO; obtain ⟨hx22_0, hf22_0⟩ := Kd.R_celln 0 HO_5.out ((ji19) : Int) p22 q22; replace p22 := eq_true p22; replace q22 := eq_true q22; obtain ⟨hy26_, hz26_⟩ := Kd.R_celln 0 HO_5.out ((ji19) : Int) uO uO; have HP26 := Kd.R_putg HO_5.out ((ji19) : Int) ji18) | ((with_reducible refine gate_store (t := 30) (p := 37) rfl ?_); refine store_event (t := 30) (p := 37) (v := ?vo_w27) (w1 := (w25.setCell ⟨go14, ((ji19) : Int).toNat, none⟩ (.int .u64 ji18))) ?hg ?ho ?hn ?hr ?_; (case ho => rfl); (case hg => rfl); (case hn => rfl); (case hr => first | (go_simp; done) | (go_simp; rfl) | (obtain ⟨hy_, hz_⟩ := Kd.R_celln 0 HO_5.out ((ji19) : Int) uO uO; (try simp only [Go.IntWalk.toNatUp] at hy_ hz_); (try simp only [Int.reduceToNat, Int.toNat_zero, Int.toNat_ofNat] at hy_ hz_); first | (go_simp; done) | (go_simp; rfl))); intro w27 hw; have hg : w25.grownBy w27 (some go14) := (by rw [hw]; exact HP26.2); have hp_ : Kd.R (Kd.int .u64) 30 w27 w.heap.size (fun _ => True) (.slice (some ⟨go14, 0, none⟩) x5_1.length co23) y208 := (by rw [hw, Ny208.out]; exact HP26.1); clear HP26; replace HO_5 := Aside0.mk (hp_); replace HB := Aside0.mk ((by rw [hw]; exact below_set (HB.out) GB14.out : Below w.heap.size w w27)); clear hg hw hp_))
     first | go_roundg k1 | ((try simp only [← hji19] at H'); simp only [← hji19]; go_roundg k1) | ((try simp only [← hji18] at H'); simp only [← hji18]; go_roundg k1) | ((try simp only [← hji16] at H'); simp only [← hji16]; go_roundg k1) | ((try simp only [← hji13] at H'); simp only [← hji13]; go_roundg k1) | ((try simp only [← hji3] at H'); simp only [← hji3]; go_roundg k1)
     case measure => have := HK1.out; omega
     case rel => first | exact ⟨(y208), (ji19), (by first | rfl | (simp; done) | (simp only [← hji19] <;> (first | rfl | simp)) | (simp [*]; done)), H', ⟨by have := HK1.out; omega⟩, ⟨uR HO_5.out⟩, ⟨uB⟩⟩ | (simp only [← hji19] at H'; exact ⟨(y208), (ji19), (by first | rfl | (simp; done) | (simp only [← hji19] <;> (first | rfl | simp)) | (simp [*]; done)), H', ⟨by have := HK1.out; omega⟩, ⟨uR HO_5.out⟩, ⟨uB⟩⟩) | (simp only [← hji18] at H'; exact ⟨(y208), (ji19), (by first | rfl | (simp; done) | (simp only [← hji19] <;> (first | rfl | simp)) | (simp [*]; done)), H', ⟨by have := HK1.out; omega⟩, ⟨uR HO_5.out⟩, ⟨uB⟩⟩) | (simp only [← hji16] at H'; exact ⟨(y208), (ji19), (by first | rfl | (simp; done) | (simp only [← hji19] <;> (first | rfl | simp)) | (simp [*]; done)), H', ⟨by have := HK1.out; omega⟩, ⟨uR HO_5.out⟩, ⟨uB⟩⟩) | (simp only [← hji13] at H'; exact ⟨(y208), (ji19), (by first | rfl | (simp; done) | (simp only [← hji19] <;> (first | rfl | simp)) | (simp [*]; done)), H', ⟨by have := HK1.out; omega⟩, ⟨uR HO_5.out⟩, ⟨uB⟩⟩) | (simp only [← hji3] at H'; exact ⟨(y208), (ji19), (by first | rfl | (simp; done) | (simp only [← hji19] <;> (first | rfl | simp)) | (simp [*]; done)), H', ⟨by have := HK1.out; omega⟩, ⟨uR HO_5.out⟩, ⟨uB⟩⟩)
    rw [if_neg c15] at H
    have c15b0 : decide (0 < a1) = false := decide_eq_false c15
    clear c15
    have H' := Aside0.mk H
    clear H
    have p205 : 0 ≤ (x14_1 : Int) := uO
    have q205 : x14_1 < (l0.length : Int) := uO
    obtain ⟨ad205, e205, hx205_0⟩ := Kd.at_int HR0.out x14_1 p205 q205
    cases e205
    replace hx205_0 := (HB.out.cell (World.block_lt_of_cell? w _ hx205_0)).trans hx205_0
    replace p205 := eq_true p205
    replace q205 := eq_true q205
    obtain ⟨Ao28, co28, eo28⟩ := Kd.R_slice HO_5.out
    subst eo28
    have p206 : 0 ≤ (x14_1 : Int) := uO
    have q206 : x14_1 < (x5_1.length : Int) := uO
    obtain ⟨ad206, e206, hx206_0⟩ := Kd.at_int (Kd.R_reads' HO_5.out).2.2 x14_1 p206 q206
    cases e206
    replace p206 := eq_true p206
    replace q206 := eq_true q206
    have p14 : 0 ≤ (x14_1 : Int) := uO
    have q14 : (x14_1 : Int) < ((x5_1.length : Int) : Int) := uO
    obtain ⟨go14, co14, eo14, gb14, gl14, cl14, HG14⟩ := Kd.R_form HO_5.out (by omega)
    (first | cases eo14 | (injection eo14 with ea_ en_ ec_; (first | subst ea_ | (injection ea_ with ea_; subst ea_)); subst ec_; clear en_))
    have GB14 := Aside0.mk gb14; have GG14 := Aside0.mk HG14; clear gb14 gl14 HG14
    (first | simp only [add_plain] at hx206_0 | skip)
    obtain ⟨hx14_0, hf14_0⟩ := Kd.R_celln 0 HO_5.out (x14_1 : Int) p14 q14
    replace p14 := eq_true p14
    replace q14 := eq_true q14
    have HP29 := Kd.R_putg HO_5.out (x14_1 : Int) (Go.bits .or .u64 (rd x5_1 x14_1) (ji13))
    go_wp2_with (first | ((with_reducible refine gate_store (t := 30) (p := 27) rfl ?_); refine store_event (t := 30) (p := 27) (v := ?vo_w30) (w1 := (wr.setCell ⟨go14, (x14_1 : Int).toNat, none⟩ (.int .u64 (Go.bits .or .u64 (rd x5_1 x14_1) (ji13))))) ?hg ?ho ?hn ?hr ?_; (case ho => rfl); (case hg => rfl); (case hn => rfl); (case hr => first | (go_simp; done) | (go_simp; rfl) | (obtain ⟨hy_, hz_⟩ := Kd.R_celln 0 HO_5.out (x14_1 : Int) uO uO; (try simp only [Go.IntWalk.toNatUp] at hy_ hz_); (try simp only [Int.reduceToNat, Int.toNat_zero, Int.toNat_ofNat] at hy_ hz_); first | (go_simp; done) | (go_simp; rfl))); intro w30 hw; have hg : wr.grownBy w30 (some go14) := (by rw [hw]; exact HP29.2); have hp_ : Kd.R (Kd.int .u64) 30 w30 w.heap.size (fun _ => True) (.slice (some ⟨go14, 0, none⟩) x5_1.length co28) y207 := (by rw [hw, Ny207.out]; exact HP29.1); clear HP29; replace HO_5 := Aside0.mk (hp_); replace HB := Aside0.mk ((by rw [hw]; exact below_set (HB.out) GB14.out : Below w.heap.size w w30)); clear hg hw hp_))
    first | go_roundg k1 | ((try simp only [← hji19] at H'); simp only [← hji19]; go_roundg k1) | ((try simp only [← hji18] at H'); simp only [← hji18]; go_roundg k1) | ((try simp only [← hji16] at H'); simp only [← hji16]; go_roundg k1) | ((try simp only [← hji13] at H'); simp only [← hji13]; go_roundg k1) | ((try simp only [← hji3] at H'); simp only [← hji3]; go_roundg k1)
    case measure => have := HK1.out; omega
    case rel => first | exact ⟨(y207), (wrap64 (x14_1 + 1)), uG, H', ⟨by have := HK1.out; omega⟩, ⟨uR HO_5.out⟩, ⟨uB⟩⟩ | (simp only [← hji19] at H'; exact ⟨(y207), (wrap64 (x14_1 + 1)), uG, H', ⟨by have := HK1.out; omega⟩, ⟨uR HO_5.out⟩, ⟨uB⟩⟩) | (simp only [← hji18] at H'; exact ⟨(y207), (wrap64 (x14_1 + 1)), uG, H', ⟨by have := HK1.out; omega⟩, ⟨uR HO_5.out⟩, ⟨uB⟩⟩) | (simp only [← hji16] at H'; exact ⟨(y207), (wrap64 (x14_1 + 1)), uG, H', ⟨by have := HK1.out; omega⟩, ⟨uR HO_5.out⟩, ⟨uB⟩⟩) | (simp only [← hji13] at H'; exact ⟨(y207), (wrap64 (x14_1 + 1)), uG, H', ⟨by have := HK1.out; omega⟩, ⟨uR HO_5.out⟩, ⟨uB⟩⟩) | (simp only [← hji3] at H'; exact ⟨(y207), (wrap64 (x14_1 + 1)), uG, H', ⟨by have := HK1.out; omega⟩, ⟨uR HO_5.out⟩, ⟨uB⟩⟩)
   rw [if_neg c8] at H
   have c8b0 : decide (x14_1 < (l0.length : Int)) = false := decide_eq_false c8
   clear c8
   obtain rfl := Option.some.inj H
   go_wp2
   go_ret
   exact ⟨_, by first | rfl | (simp [errW_none, errW_some] <;> rfl) | (simp only [← hji3]; first | rfl | (simp [errW_none, errW_some] <;> rfl)) | (simp [*, errW_none, errW_some] <;> rfl), uR HO_5.out, uB⟩
def windbreakref01_Same.l0 : Nat → List Int → List Int → Int → Option (Bool)
 | 0, _, _, _ => none
 | k + 1, x0, x1, x5 => if x5 < (x0.length : Int) then (if 0 ≤ x5 then (if x5 < (x1.length : Int) then (if (rd x0 x5) = (rd x1 x5) then (windbreakref01_Same.l0 k x0 x1 (wrap64 (x5 + 1))) else (some false)) else (none)) else (none)) else (some true)
def windbreakref01_Same.f (k : Nat) (l0 : List Int) (l1 : List Int) : Option (Bool) := if (l0.length : Int) = (l1.length : Int) then (windbreakref01_Same.l0 k l0 l1 0) else (some false)
end Go.Proofs.Ytkgaejigpmkfkaa.F
end
section
namespace Go.Proofs.Ytkgaejigpmkfkaa.F
open Go.RowKit Go.Proofs.YtkgaejigpmkfkaaW.PrintWords Go.Proofs.YtkgaejigpmkfkaaW.PrintLast Go.Proofs.YtkgaejigpmkfkaaW.PrintMore
set_option linter.unusedVariables false
set_option linter.unusedSimpArgs false
theorem heap_new (w : World) (o : Obj) : (w.alloc o).heap[w.heap.size]? = some o := by
  show (w.heap.push o)[w.heap.size]? = _
  simp
def Tp (w : World) (g : Nat) (ok : Nat → Prop) (l : List Int) : Prop := ∃ A c, w.heap[g]? = some (.cells #[.slice A l.length c] 97 (0, 0)) ∧ l.length ≤ c ∧ Kd.F (Kd.int .u8) w ok A l.length l
def Tp2 (w : World) (g : Nat) (ok : Nat → Prop) (l : List Int) (u : Int) : Prop := ∃ A c, w.heap[g]? = some (.cells #[.slice A l.length c, .int .i64 u] 99 (0, 0)) ∧ l.length ≤ c ∧ Kd.F (Kd.int .u8) w ok A l.length l
def TapeAt (w : World) (base : Nat) (p : Option Addr) (l : List Int) : Prop := ∃ g, p = some ⟨g, 0, none⟩ ∧ base ≤ g ∧ Tp w g (fun k => base ≤ k ∧ k < g) l
set_option maxHeartbeats 8000000 in
set_option maxRecDepth 100000 in
theorem tape_New.calls (A0 : Option Addr) (c0 : Nat) (l0 : List Int) (w : World) (hr0 : Kd.C (Kd.int .u8) w A0 l0.length l0) (hc0 : l0.length ≤ c0) :
    Calls Try.prog 10 #[.slice A0 l0.length c0] w fun e w' => ∃ p : Option Addr, e = .returned (.tuple #[.pointer p, .int .i64 (if (l0.length : Int) > 65536 then 1 else 0)]) ∧ (if (l0.length : Int) > 65536 then p = none else TapeAt w' w.heap.size p l0) ∧ Below w.heap.size w w' := by
  have HR0 := Aside0.mk hr0
  have HC0 := Aside0.mk hc0
  clear hr0 hc0
  by_cases c2 : (l0.length : Int) > 65536
  · rw [if_pos c2]
    have c2b0 : decide (65536 < (l0.length : Int)) = true := decide_eq_true c2
    go_enter Try.func10, Try.ntmps10
    go_wp2
    go_ret2
    exact ⟨none, rfl, by first | rfl | rw [if_pos c2], Below.refl _ _⟩
  · rw [if_neg c2]
    have c2b0 : decide (65536 < (l0.length : Int)) = false := decide_eq_false c2
    have A3 := Aside0.mk (show slices_Clone_byte_byte.f l0 = some l0 from by
      unfold slices_Clone_byte_byte.f
      simp only [Option.bind_some, List.length_nil, List.nil_append]
      rw [if_pos (by omega)])
    go_enter Try.func10, Try.ntmps10
    go_wp2_with (go_at_call 47; (with_reducible refine (slices_Clone_byte_byte.calls _ _ l0 l0 _ HR0.out HC0.out A3.out).mono ?_); rintro e w1 ⟨v1, rfl, ho1, hb1⟩; obtain ⟨A1_, c1_, rfl⟩ := Kd.R_slice ho1; have HO := Aside0.mk ho1; have HB := Aside0.mk hb1; clear ho1 hb1)
    go_ret2
    refine ⟨some ⟨w1.heap.size, 0, none⟩, rfl, ?_, below_alloc HB.out _⟩
    refine ⟨w1.heap.size, rfl, below_size HB.out, A1_, c1_, heap_new w1 _, (Kd.R_reads' HO.out).2.1, ?_⟩
    exact Kd.F_alloc (Kd.V_at (base := w.heap.size) (Kd.R_V (Kd.R_mono (Kd.R_bound HO.out) (fun k hk => ⟨hk.2.1, hk.2.2.1⟩)))).2.2 _
def TapeAt2 (w : World) (base : Nat) (p : Option Addr) (l : List Int) (u : Int) : Prop := ∃ g, p = some ⟨g, 0, none⟩ ∧ base ≤ g ∧ Tp2 w g (fun k => base ≤ k ∧ k < g) l u
set_option maxHeartbeats 8000000 in
set_option maxRecDepth 100000 in
theorem tape_New2.calls (A0 : Option Addr) (c0 : Nat) (l0 : List Int) (w : World) (hr0 : Kd.C (Kd.int .u8) w A0 l0.length l0) (hc0 : l0.length ≤ c0) :
    Calls Try.prog 11 #[.slice A0 l0.length c0] w fun e w' => ∃ p : Option Addr, e = .returned (.tuple #[.pointer p, .int .i64 (if (l0.length : Int) > 65536 then 1 else 0)]) ∧ (if (l0.length : Int) > 65536 then p = none else TapeAt2 w' w.heap.size p l0 0) ∧ Below w.heap.size w w' := by
  have HR0 := Aside0.mk hr0
  have HC0 := Aside0.mk hc0
  clear hr0 hc0
  have HB := Aside0.mk (Below.refl w.heap.size w)
  by_cases c2 : (l0.length : Int) > 65536
  · rw [if_pos c2]
    have c2b0 : decide (65536 < (l0.length : Int)) = true := decide_eq_true c2
    go_enter Try.func11, Try.ntmps11
    go_wp2
    go_ret2
    exact ⟨none, rfl, by first | rfl | rw [if_pos c2], Below.refl _ _⟩
  · rw [if_neg c2]
    have c2b0 : decide (65536 < (l0.length : Int)) = false := decide_eq_false c2
    have LM := Aside0.mk (show l0.length ≤ 65536 by omega)
    go_enter Try.func11, Try.ntmps11
    go_wp2_with (first | ((with_reducible refine gate_dst (N := 7) rfl ?_); refine Kd.R_lit (Kd.int .u8) _ 5 ?hg (N := 7) ?hd (xs := ([] : List Int)) (inner := []) (ok := fun _ => True) (okp := fun _ => True) ?hr ?hp (fun _ hk => hk) trivial (Below.refl _ _) (Nat.le_refl _) (by simp) ?_; (case hd => rfl); (case hg => rfl); (case hr => first | (go_simp; done) | (go_simp; rfl)); (case hp => exact (Reps.none _ _)); intro v110 w4 ho5 hb hg_ hnew_; clear hg_ hnew_; have n0_ := Aside0.mk (Kd.R_lower ho5 (below_size (by repeat (first | (with_reducible first | exact HB.out | apply below_alloc | apply pw_below_drewN | apply below_drew1) | exact HB.out)))); have n1_ := Aside0.mk (below_step (by repeat (first | (with_reducible first | exact HB.out | apply below_alloc | apply pw_below_drewN | apply below_drew1) | exact HB.out)) hb); clear HB; have HO111 := n0_; have HB := n1_; clear n0_ n1_; clear hb ho5) | ((with_reducible refine gate_builtin (b := .append) (xs := #[.tmp 7, .tmp 8]) rfl ?_); at_builtin; refine Kd.R_append_rows (Kd.int .u8) (w0 := w) w.heap.size rfl (.tmp 7) (.tmp 8) 22 5 (.int .u8 0) 1 rfl Try.underlying22 info5 rfl (by decide) (by omega) v110 [] l0 _ _ _ (fun _ => True) (fun _ => False) rfl rfl ?aO ?aR (fun _ _ h => h) (fun _ h => h.elim) ?aF ?aB ?aS ?aL ?_; (case aR => repeat (first | exact (Kd.C_below HR0.out HB.out) | (with_reducible refine Kd.C_alloc ?_ _) | (with_reducible refine Kd.C_drewN ?_ _) | (with_reducible refine Kd.C_drew ?_))); (case aB => exact (by repeat (first | (with_reducible first | exact HB.out | apply below_alloc | apply pw_below_drewN | apply below_drew1) | exact HB.out))); (case aF => exact (fun _ _ => trivial)); (case aO => exact (by (with_reducible repeat (first | apply Kd.R_alloc | apply Kd.R_drewN | apply Kd.R_drew)); exact HO111.out)); (case aS => exact (below_size (by repeat (first | (with_reducible first | exact HB.out | apply below_alloc | apply pw_below_drewN | apply below_drew1) | exact HB.out)))); (case aL => have := LM.out; simp only [List.length_nil]; omega); intro v113 w6 ho hb hg hat; rw [List.nil_append] at ho; obtain ⟨A1_, c1_, rfl⟩ := Kd.R_slice ho; have n0_ := Aside0.mk (hb); have n1_ := Aside0.mk (ho); clear HB; clear HO111; have HB := n0_; have HO114 := n1_; clear n0_ n1_; clear ho hb hg hat))
    go_ret2
    refine ⟨some ⟨w6.heap.size, 0, none⟩, rfl, ?_, below_alloc HB.out _⟩
    refine ⟨w6.heap.size, rfl, below_size HB.out, A1_, c1_, heap_new w6 _, (Kd.R_reads' HO114.out).2.1, ?_⟩
    exact Kd.F_alloc (Kd.V_at (base := w.heap.size) (Kd.R_V (Kd.R_mono (Kd.R_bound HO114.out) (fun k hk => ⟨hk.2.1, hk.2.2.1⟩)))).2.2 _
theorem Tp.below {w w1 : World} {g : Nat} {ok : Nat → Prop} {l : List Int} (h : Tp w g ok l) (hb : Below w.heap.size w w1) : Tp w1 g ok l := by
  obtain ⟨A, c, h1, h2, h3⟩ := h
  exact ⟨A, c, (hb.block g (blk_lt h1)).trans h1, h2, Kd.F_below h3 hb⟩
theorem Tp2.below {w w1 : World} {g : Nat} {ok : Nat → Prop} {l : List Int} {u : Int} (h : Tp2 w g ok l u) (hb : Below w.heap.size w w1) : Tp2 w1 g ok l u := by
  obtain ⟨A, c, h1, h2, h3⟩ := h
  exact ⟨A, c, (hb.block g (blk_lt h1)).trans h1, h2, Kd.F_below h3 hb⟩
theorem TapeAt.below {w w1 : World} {base : Nat} {p : Option Addr} {l : List Int} (h : TapeAt w base p l) (hb : Below w.heap.size w w1) : TapeAt w1 base p l := by
  obtain ⟨g, hp, hg, hc⟩ := h
  exact ⟨g, hp, hg, hc.below hb⟩
theorem TapeAt2.below {w w1 : World} {base : Nat} {p : Option Addr} {l : List Int} {u : Int} (h : TapeAt2 w base p l u) (hb : Below w.heap.size w w1) : TapeAt2 w1 base p l u := by
  obtain ⟨g, hp, hg, hc⟩ := h
  exact ⟨g, hp, hg, hc.below hb⟩
set_option maxHeartbeats 8000000 in
set_option maxRecDepth 100000 in
theorem tape_Left.calls (g : Nat) (A : Option Addr) (n c : Nat) (w : World) (h : w.cell? ⟨g, 0, none⟩ = some (.slice A n c)) :
    Calls Try.prog 14 #[.pointer (some ⟨g, 0, none⟩)] w fun e w' => e = .returned (.int .i64 (n : Int)) ∧ Drawn0 w w' := by
  go_enter Try.func14, Try.ntmps14
  go_wp2
  go_ret
  exact ⟨rfl, Drawn0.refl _⟩
set_option maxHeartbeats 8000000 in
set_option maxRecDepth 100000 in
theorem tape_Left2.calls (g : Nat) (A : Option Addr) (n c : Nat) (u : Int) (w : World) (h : w.cell? ⟨g, 0, none⟩ = some (.slice A n c)) (h2 : w.cell? ⟨g, 1, none⟩ = some (.int .i64 u)) :
    Calls Try.prog 15 #[.pointer (some ⟨g, 0, none⟩)] w fun e w' => e = .returned (.int .i64 (wrap64 ((n : Int) - u))) ∧ Drawn0 w w' := by
  go_enter Try.func15, Try.ntmps15
  go_wp2
  repeat (go_quiet (fail); try go_wp2)
  go_ret
  exact ⟨rfl, by first | exact Drawn0.refl _ | exact ⟨_, rfl⟩⟩
set_option maxHeartbeats 8000000 in
set_option maxRecDepth 100000 in
theorem tape_Take.calls (g : Nat) (l : List Int) (n : Int) (ok : Nat → Prop) (w : World) (hT : Tp w g ok l) (hg : ¬ ok g) (h0 : 0 ≤ n) (h1 : n ≤ 65536) (h2 : n ≤ (l.length : Int)) :
    Calls Try.prog 103 #[.pointer (some ⟨g, 0, none⟩), .int .i64 n] w fun e w' => ∃ v : Value, e = .returned (.tuple #[v, .int .i64 0]) ∧ Kd.R (Kd.int .u8) 5 w' w.heap.size (fun _ => True) v (l.take n.toNat) ∧ Tp w' g ok (l.drop n.toNat) ∧ KeepBut w w' g none ∧ w'.os = w.os ∧ w'.tape = w.tape ∧ w'.output = w.output := by
  obtain ⟨A, c, hb, hlc, hF⟩ := hT
  have HF := Aside0.mk hF
  have HBX := Aside0.mk hb
  have hcell := (blk_cell hb 0).trans rfl
  have hfz := blk_frozen hb 0
  obtain ⟨i0, hi0, _, hsz, _⟩ := info_parts info5
  have hcut1 := cut_to (P := Try.prog) 22 5 .i64 Try.underlying22 hi0 A l.length c n h0 h2 hlc
  obtain ⟨A2, hA2, hcut2⟩ : ∃ A2 : Option Addr, (∀ W : World, Kd.C (Kd.int .u8) W A l.length l → Kd.C (Kd.int .u8) W A2 (l.drop n.toNat).length (l.drop n.toNat)) ∧ ∀ W : World, (Instr.slice 22 (.slice A l.length c) (some (.int .i64 n)) none none).run Try.prog W = .ok (.slice A2 (l.length - n.toNat) (c - n.toNat)) W :=
    ⟨_, fun W h => Kd.C_drop h (by omega) hlc, fun W => cut_from (P := Try.prog) 22 5 .i64 Try.underlying22 hi0 1 hsz A l.length c n h0 h2 W⟩
  have hC1 : Kd.C (Kd.int .u8) w A (l.take n.toNat).length (l.take n.toNat) := Kd.C_take (Kd.F_now hF) (by omega)
  have hlt : (l.take n.toNat).length = n.toNat := by rw [List.length_take]; omega
  have A3 := Aside0.mk (show slices_Clone_byte_byte.f (l.take n.toNat) = some (l.take n.toNat) from by
    unfold slices_Clone_byte_byte.f
    simp only [Option.bind_some, List.length_nil, List.nil_append]
    rw [if_pos (by omega)])
  have HC1 := Aside0.mk hC1
  have HLC := Aside0.mk hlc
  clear hF hC1
  have c1 : decide (n < 0) = false := decide_eq_false (by omega)
  have c2 : decide (65536 < n) = false := decide_eq_false (by omega)
  have c3 : decide ((l.length : Int) < n) = false := decide_eq_false (by omega)
  go_enter Try.func103, Try.ntmps103
  go_wp2_with (go_at_call 47; go_loud ((rw [← hlt]); (refine (slices_Clone_byte_byte.calls _ _ (l.take n.toNat) (l.take n.toNat) _ HC1.out (by have := HLC.out; omega) A3.out).mono ?_); rintro e w1 ⟨v1, rfl, ho1, hb1⟩; obtain ⟨A1_, c1_, rfl⟩ := Kd.R_slice ho1; have HO := Aside0.mk ho1; have HB := Aside0.mk hb1; have hcell2 := (hb1.cell (World.block_lt_of_cell? _ _ hcell)).trans hcell; have hfz2 := (hb1.frozen (World.block_lt_of_cell? _ _ hcell)).trans hfz; clear ho1 hb1 hcell hfz))
  go_ret2
  have hgs : g < w.heap.size := blk_lt HBX.out
  have hhk : ∀ k, k ≠ g → ∀ u, (w1.setCell ⟨g, 0, none⟩ u).heap[k]? = w1.heap[k]? := fun k hk u => Below.heap_setCell w1 ⟨g, 0, none⟩ u k hk
  have hb1 : w1.heap[g]? = some (.cells #[.slice A l.length c] 97 (0, 0)) := (HB.out.block g hgs).trans HBX.out
  refine ⟨_, rfl, ?_, ⟨A2, c - n.toNat, ?_, ?_, ?_⟩, (KeepBut.of_below HB.out g none).set_ 0 _, HB.out.os, HB.out.tape, HB.out.output⟩
  · have h3 := HO.out
    rw [hlt] at h3
    exact Kd.R_mono (Kd.R_step (Kd.R_bound h3) (fun k hk _ => hhk k (by have := hk.2.1; omega) _)) (fun _ _ => trivial)
  · have h3 := blk_set hb1 0 (.slice A2 (l.length - n.toNat) (c - n.toNat))
    rw [List.length_drop]
    simpa using h3
  · rw [List.length_drop]; have := HLC.out; omega
  · have h3 : Kd.F (Kd.int .u8) (w1.setCell ⟨g, 0, none⟩ (.slice A2 (l.length - n.toNat) (c - n.toNat))) ok A l.length l := Kd.F_step HF.out (fun k hk hlt2 => (hhk k (fun e => hg (e ▸ hk)) _).trans (HB.out.block k hlt2))
    exact fun W' hW => hA2 W' (h3 W' hW)
theorem Tp.keep {w w1 : World} {g g1 : Nat} {ok : Nat → Prop} {l : List Int} (h : Tp w g ok l) (hk : KeepBut w w1 g1 none) (hg : g ≠ g1) (hok : ∀ k, ok k → k ≠ g1) : Tp w1 g ok l := by
  obtain ⟨A, c, h1, h2, h3⟩ := h
  exact ⟨A, c, (hk.2 g (blk_lt h1) hg (by simp)).trans h1, h2, Kd.F_step h3 (fun k hk2 hlt => hk.2 k hlt (hok k hk2) (by simp))⟩
theorem Tp.mono {w : World} {g : Nat} {ok ok' : Nat → Prop} {l : List Int} (h : Tp w g ok l) (hok : ∀ k, ok k → ok' k) : Tp w g ok' l := by
  obtain ⟨A, c, h1, h2, h3⟩ := h
  exact ⟨A, c, h1, h2, Kd.F_mono h3 hok⟩
theorem Tp.lt {w : World} {g : Nat} {ok : Nat → Prop} {l : List Int} (h : Tp w g ok l) : g < w.heap.size := by
  obtain ⟨A, c, h1, _⟩ := h
  exact blk_lt h1
theorem keep_below {w W w1 : World} {g : Nat} (HB : Below w.heap.size w W) (hk : KeepBut W w1 g none) (ho : w1.os = W.os) (ht : w1.tape = W.tape) (hu : w1.output = W.output) (hg : w.heap.size ≤ g) : Below w.heap.size w w1 :=
  ⟨ho.trans HB.os, ht.trans HB.tape, hu.trans HB.output, Nat.le_trans HB.size hk.1, fun k hlt => (hk.2 k (Nat.lt_of_lt_of_le hlt HB.size) (by omega) (by simp)).trans (HB.block k hlt)⟩
set_option maxHeartbeats 2000000 in
set_option maxRecDepth 100000 in
theorem tape_Take2.calls (g : Nat) (L : List Int) (u n : Int) (ok : Nat → Prop) (w : World) (hT : Tp2 w g ok L u) (hg : ¬ ok g) (hu : 0 ≤ u) (h0 : 0 ≤ n) (h1 : n ≤ 65536) (h2 : u + n ≤ (L.length : Int)) (hL : L.length ≤ 65536) :
    Calls Try.prog 104 #[.pointer (some ⟨g, 0, none⟩), .int .i64 n] w fun e w' => ∃ v : Value, e = .returned (.tuple #[v, .int .i64 0]) ∧ Kd.R (Kd.int .u8) 5 w' w.heap.size (fun _ => True) v ((L.drop u.toNat).take n.toNat) ∧ Tp2 w' g ok L (u + n) ∧ KeepBut w w' g none ∧ w'.os = w.os ∧ w'.tape = w.tape ∧ w'.output = w.output := by
  obtain ⟨A, c, hb, hlc, hF⟩ := hT
  have HF := Aside0.mk hF
  have HBX := Aside0.mk hb
  have hcell := (blk_cell hb 0).trans rfl
  have hcell1 := (blk_cell hb 1).trans rfl
  have hfz := blk_frozen hb 1
  obtain ⟨i0, hi0, _, hsz, _⟩ := info_parts info5
  obtain ⟨A2, c2, hA2, hcut2⟩ : ∃ (A2 : Option Addr) (c2 : Nat), (∀ W : World, Kd.C (Kd.int .u8) W A L.length L → Kd.C (Kd.int .u8) W A2 ((L.drop u.toNat).take n.toNat).length ((L.drop u.toNat).take n.toNat)) ∧ ∀ W : World, (Instr.slice 22 (.slice A L.length c) (some (.int .i64 u)) (some (.int .i64 (u + n))) none).run Try.prog W = .ok (.slice A2 ((L.drop u.toNat).take n.toNat).length c2) W := by
    have e1 : (L.take (u + n).toNat).drop u.toNat = (L.drop u.toNat).take n.toNat := by
      rw [List.drop_take]; congr 1; omega
    have e2 : ((L.drop u.toNat).take n.toNat).length = (u + n).toNat - u.toNat := by
      rw [List.length_take, List.length_drop]; omega
    refine ⟨if c = u.toNat then A else A.map (·.add (u.toNat * 1)), c - u.toNat, fun W h => ?_, fun W => ?_⟩
    · rw [← e1]
      exact Kd.C_mid (lo := u.toNat) (hi := (u + n).toNat) h (by omega) (by omega) hlc
    · rw [e2]
      exact cut_mid (P := Try.prog) 22 5 .i64 .i64 Try.underlying22 hi0 1 hsz A L.length c u (u + n) hu (by omega) h2 hlc W
  obtain ⟨X, hX⟩ : ∃ X, X = (L.drop u.toNat).take n.toNat := ⟨_, rfl⟩
  rw [← hX] at hA2 hcut2 ⊢
  have NX := Aside0.mk hX
  have HLC := Aside0.mk hlc
  have HA2 := Aside0.mk hA2
  have hsub : wrap64 ((L.length : Int) - u) = (L.length : Int) - u := by unfold wrap64; omega
  have hsum : wrap64 (u + n) = u + n := by unfold wrap64; omega
  clear hF hX hA2 hlc
  have c1 : decide (n < 0) = false := decide_eq_false (by omega)
  have c2b : decide (65536 < n) = false := decide_eq_false (by omega)
  have c3 : decide ((L.length : Int) - u < n) = false := decide_eq_false (by omega)
  have c4 : decide (wrap64 ((L.length : Int) - u) < n) = false := by rw [hsub]; exact c3
  go_enter Try.func104, Try.ntmps104
  go_wp2
  go_quiet (fail)
  go_wp2
  have hgs : g < w.heap.size := blk_lt HBX.out
  have hsumI : IntKind.i64.wrap (u + n) = u + n := by
    simp [IntKind.wrap, IntKind.bits, IntKind.signed]
    omega
  have hcA : ∀ (m : Nat) (o : Obj), ((w.drewN m).alloc o).cell? ⟨g, 0, none⟩ = some (.slice A L.length c) := fun m o => pw_cell_below (below_alloc (pw_below_drewN (Below.refl _ _) m) o) hcell
  have hcB : ∀ (m : Nat) (o : Obj), ((w.drewN m).alloc o).cell? ⟨g, 1, none⟩ = some (.int .i64 u) := fun m o => pw_cell_below (below_alloc (pw_below_drewN (Below.refl _ _) m) o) hcell1
  have hcl : ∀ m : Nat, Kd.R (Kd.int .u8) 5 ((w.drewN m).alloc (.cells #[] 5)) w.heap.size (fun _ => True) (.slice (some ⟨w.heap.size, 0, none⟩) 0 0) [] := fun m => Kd.R_of_own (by simpa [encs, nums] using own_lit (w.drewN m) w.heap.size 5 .u8 [] (Nat.le_refl _) (by simp)) (fun _ _ => trivial)
  have hcC : ∀ m : Nat, Kd.C (Kd.int .u8) ((w.drewN m).alloc (.cells #[] 5)) A2 X.length X := fun m => HA2.out _ (Kd.F_now (Kd.F_alloc (Kd.F_drewN HF.out m) _))
  have hcBl : ∀ m : Nat, Below w.heap.size w ((w.drewN m).alloc (.cells #[] 5)) := fun m => below_alloc (pw_below_drewN (Below.refl _ _) m) _
  have HCL := Aside0.mk hcl
  have HCC := Aside0.mk hcC
  have HCB := Aside0.mk hcBl
  have hxl : X.length ≤ 65536 := by rw [NX.out, List.length_take]; omega
  have HXL := Aside0.mk hxl
  clear hcl hcC hcBl hxl
  go_region_law (first | (refine Kd.R_append_rows_step (Kd.int .u8) (w0 := w) w.heap.size (by first | rfl | simp [Region.wanted]) (.tmp 25) (.tmp 40) 22 5 (.int .u8 0) 1 rfl Try.underlying22 info5 rfl (by decide) (by omega) (.slice (some ⟨w.heap.size, 0, none⟩) 0 0) [] X A2 X.length c2 (fun _ => True) (fun _ => False) rfl rfl (HCL.out _) (HCC.out _) (fun _ _ h => h) (fun _ h => h.elim) (fun _ _ => trivial) (HCB.out _) (HCB.out _).size (by have := HXL.out; simp only [List.length_nil]; omega) ?_; intro v113 w6 ho hb hg_ hat_; rw [List.nil_append] at ho; obtain ⟨A1_, c1_, rfl⟩ := Kd.R_slice ho; have HO := Aside0.mk ho; have HB := Aside0.mk hb; clear ho hb hg_ hat_))
  all_goals
    have hlt1 := World.block_lt_of_cell? _ _ hcell1
    have hcell6 := (HB.out.cell hlt1).trans hcell1
    have hfz6 := (HB.out.frozen hlt1).trans hfz
    clear hcell hcell1 hfz hcA hcB hlt1
    go_wp2
    go_ret2
    have hhk : ∀ k, k ≠ g → ∀ x, (w6.setCell ⟨g, 1, none⟩ x).heap[k]? = w6.heap[k]? := fun k hk x => Below.heap_setCell w6 ⟨g, 1, none⟩ x k hk
    have hb1 : w6.heap[g]? = some (.cells #[.slice A L.length c, .int .i64 u] 99 (0, 0)) := (HB.out.block g hgs).trans HBX.out
    refine ⟨_, rfl, ?_, ⟨A, c, ?_, HLC.out, ?_⟩, (KeepBut.of_below HB.out g none).set_ 1 _, HB.out.os, HB.out.tape, HB.out.output⟩
    · exact Kd.R_mono (Kd.R_step (Kd.R_bound HO.out) (fun k hk _ => hhk k (by have := hk.2.1; omega) _)) (fun _ _ => trivial)
    · have h3 := blk_set hb1 1 (.int .i64 (u + n))
      simpa using h3
    · exact Kd.F_step HF.out (fun k hk hlt2 => (hhk k (fun e => hg (e ▸ hk)) _).trans (HB.out.block k hlt2))
def Took (w w' : World) (g : Nat) (e : Ending) (x : List Int × Int) : Prop := ∃ (A : Option Addr) (c : Nat), e = .returned (.tuple #[.slice A x.1.length c, .int .i64 x.2]) ∧ x.1.length ≤ c ∧ Kd.F (Kd.int .u8) w' (fun k => w.heap.size ≤ k) A x.1.length x.1 ∧ KeepBut w w' g none ∧ w'.os = w.os ∧ w'.tape = w.tape ∧ w'.output = w.output
theorem Took.none (w : World) (m : Nat) (g : Nat) (er : Int) : Took w (w.drewN m) g (.returned (.tuple #[.slice none 0 0, .int .i64 er])) ([], er) := by
  have hb := pw_below_drewN (Below.refl w.heap.size w) m
  exact ⟨_, _, rfl, Nat.le_refl _, Kd.F_nil _ _ _, KeepBut.of_below hb g _, hb.os, hb.tape, hb.output⟩
theorem Tp.drewN {w : World} {g : Nat} {ok : Nat → Prop} {l : List Int} (h : Tp w g ok l) (m : Nat) : Tp (w.drewN m) g ok l := h.below (pw_below_drewN (Below.refl _ _) m)
theorem Tp2.drewN {w : World} {g : Nat} {ok : Nat → Prop} {l : List Int} {u : Int} (h : Tp2 w g ok l u) (m : Nat) : Tp2 (w.drewN m) g ok l u := h.below (pw_below_drewN (Below.refl _ _) m)
set_option maxHeartbeats 2000000 in
set_option maxRecDepth 100000 in
theorem tape_Take.few (g : Nat) (l : List Int) (n : Int) (ok : Nat → Prop) (w : World) (hT : Tp w g ok l) (h0 : 0 ≤ n) (h1 : n ≤ 65536) (h2 : (l.length : Int) < n) :
    Calls Try.prog 103 #[.pointer (some ⟨g, 0, none⟩), .int .i64 n] w fun e w' => e = .returned (.tuple #[.slice none 0 0, .int .i64 7]) ∧ w' = w := by
  obtain ⟨A, c, hb, hlc, hF⟩ := hT
  have hcell := (blk_cell hb 0).trans rfl
  have hfz := blk_frozen hb 0
  clear hF hb
  have c1 : decide (n < 0) = false := decide_eq_false (by omega)
  have c2 : decide (65536 < n) = false := decide_eq_false (by omega)
  have c3 : decide ((l.length : Int) < n) = true := decide_eq_true (by omega)
  go_enter Try.func103, Try.ntmps103
  go_wp2
  go_ret2
  exact ⟨rfl, rfl⟩
set_option maxHeartbeats 2000000 in
set_option maxRecDepth 100000 in
theorem tape_Take2.few (g : Nat) (L : List Int) (u n : Int) (ok : Nat → Prop) (w : World) (hT : Tp2 w g ok L u) (hu : 0 ≤ u) (huL : u ≤ (L.length : Int)) (hL : L.length ≤ 65536) (h0 : 0 ≤ n) (h1 : n ≤ 65536) (h2 : (L.length : Int) - u < n) :
    Calls Try.prog 104 #[.pointer (some ⟨g, 0, none⟩), .int .i64 n] w fun e w' => e = .returned (.tuple #[.slice none 0 0, .int .i64 7]) ∧ Drawn0 w w' := by
  obtain ⟨A, c, hb, hlc, hF⟩ := hT
  have hcell := (blk_cell hb 0).trans rfl
  have hcell1 := (blk_cell hb 1).trans rfl
  clear hF hb
  have hsub : wrap64 ((L.length : Int) - u) = (L.length : Int) - u := by unfold wrap64; omega
  have c1 : decide (n < 0) = false := decide_eq_false (by omega)
  have c2 : decide (65536 < n) = false := decide_eq_false (by omega)
  have c3 : decide ((L.length : Int) - u < n) = true := decide_eq_true (by omega)
  have c4 : decide (wrap64 ((L.length : Int) - u) < n) = true := by rw [hsub]; exact c3
  go_enter Try.func104, Try.ntmps104
  go_wp2
  go_quiet (fail)
  go_wp2
  go_ret2
  exact ⟨rfl, ⟨_, rfl⟩⟩
theorem Tp2.mono {w : World} {g : Nat} {ok ok' : Nat → Prop} {l : List Int} {u : Int} (h : Tp2 w g ok l u) (hok : ∀ k, ok k → ok' k) : Tp2 w g ok' l u := by
  obtain ⟨A, c, h1, h2, h3⟩ := h
  exact ⟨A, c, h1, h2, Kd.F_mono h3 hok⟩
theorem Tp2.lt {w : World} {g : Nat} {ok : Nat → Prop} {l : List Int} {u : Int} (h : Tp2 w g ok l u) : g < w.heap.size := by
  obtain ⟨A, c, h1, _⟩ := h
  exact blk_lt h1
theorem Tp2.keep {w w1 : World} {g g1 : Nat} {ok : Nat → Prop} {l : List Int} {u : Int} (h : Tp2 w g ok l u) (hk : KeepBut w w1 g1 none) (hg : g ≠ g1) (hok : ∀ k, ok k → k ≠ g1) : Tp2 w1 g ok l u := by
  obtain ⟨A, c, h1, h2, h3⟩ := h
  exact ⟨A, c, (hk.2 g (blk_lt h1) hg (by simp)).trans h1, h2, Kd.F_step h3 (fun k hk2 hlt => hk.2 k hlt (hok k hk2) (by simp))⟩
theorem Tp.cell {w : World} {g : Nat} {ok : Nat → Prop} {l : List Int} (h : Tp w g ok l) : ∃ A c, w.cell? ⟨g, 0, none⟩ = some (.slice A l.length c) := by
  obtain ⟨A, c, hb, _⟩ := h
  exact ⟨A, c, (blk_cell hb 0).trans rfl⟩
theorem Tp2.cell {w : World} {g : Nat} {ok : Nat → Prop} {l : List Int} {u : Int} (h : Tp2 w g ok l u) : ∃ A c, w.cell? ⟨g, 0, none⟩ = some (.slice A l.length c) ∧ w.cell? ⟨g, 1, none⟩ = some (.int .i64 u) := by
  obtain ⟨A, c, hb, _⟩ := h
  exact ⟨A, c, (blk_cell hb 0).trans rfl, (blk_cell hb 1).trans rfl⟩
def nat_Read_ix.g : List Int → Nat → Int
  | [], _ => -1
  | c :: l, i => if c = 0 then nat_Read_ix.g l (i + 1) else (i : Int)
def nat_Read_ix.f (l : List Int) : Option Int := some (nat_Read_ix.g l 0)
def nat_right.f : List (List Int) → Option Bool
  | [] => some true
  | a :: l => (nat_Right.f a).bind fun b => if b = true then nat_right.f l else some false
def nat_right.ix : List (List Int) → Option Nat
  | [] => some 0
  | a :: l => (nat_Right.f a).bind fun b => if b = true then (nat_right.ix l).map (· + 1) else some 0
theorem nat_right.ix_of {l : List (List Int)} {r : Bool} (h : nat_right.f l = some r) : ∃ k, nat_right.ix l = some k ∧ k ≤ l.length ∧ (r = true ↔ k = l.length) ∧ (∀ j, j < k → nat_Right.f (l.getD j []) = some true) ∧ (k < l.length → nat_Right.f (l.getD k []) = some false) := by
  induction l generalizing r with
  | nil =>
    simp only [nat_right.f, Option.some.injEq] at h
    exact ⟨0, rfl, Nat.le_refl _, by simp [← h], fun j hj => absurd hj (Nat.not_lt_zero _), fun hj => absurd hj (Nat.not_lt_zero _)⟩
  | cons a l ih =>
    simp only [nat_right.f] at h
    cases hb : nat_Right.f a with
    | none => rw [hb] at h; simp at h
    | some b =>
      rw [hb] at h
      simp only [Option.bind_some] at h
      cases b with
      | true =>
        simp only [if_true] at h
        obtain ⟨k, hk, hle, hr, hj, hl⟩ := ih h
        refine ⟨k + 1, by simp [nat_right.ix, hb, hk], by simp; omega, by simp [hr], ?_, ?_⟩
        · intro j hjk
          cases j with
          | zero => simpa using hb
          | succ j => simpa using hj j (by omega)
        · intro hlt
          simpa using hl (by simpa using hlt)
      | false =>
        simp at h
        refine ⟨0, by simp [nat_right.ix, hb], Nat.zero_le _, ?_, fun j hj => absurd hj (Nat.not_lt_zero _), fun _ => by simpa using hb⟩
        simp [← h]
set_option maxHeartbeats 1000000 in
theorem nat_right.closure (A0 : Option Addr) (c0 : Nat) (l0 : List Int) (r : Bool) (w : World) (hr0 : Kd.C (Kd.int .u64) w A0 l0.length l0) (hc0 : l0.length ≤ c0) (h : nat_Right.f l0 = some r) :
    Calls Try.prog 132 #[.slice A0 l0.length c0] w fun e w' => e = .returned (.bool (!r)) ∧ Drawn0 w w' := by
  have hcall := nat_Right.calls A0 c0 l0 r w hr0 hc0 h
  clear hr0 hc0 h
  have HC := Aside0.mk hcall
  clear hcall
  go_enter Try.func132, Try.ntmps132
  go_wp2_with (go_at_call 77; refine HC.out.mono ?_; rintro e w' ⟨rfl, hd⟩)
  go_ret
  exact ⟨rfl, hd⟩
set_option maxHeartbeats 8000000 in
set_option maxRecDepth 100000 in
theorem nat_right.index (A0 : Option Addr) (c0 : Nat) (l0 : List (List Int)) (r : Bool) (w : World) (hr0 : Kd.C (Kd.slice 30 (Kd.int .u64)) w A0 l0.length l0) (hc0 : l0.length ≤ c0) (h : nat_right.f l0 = some r) :
    Calls Try.prog 155 #[.slice A0 l0.length c0, .func (.func 132) #[] #[]] w fun e w' => (∃ k : Int, e = .returned (.int .i64 k) ∧ decide (0 ≤ k) = !r) ∧ Drawn0 w w' := by
  have HR0 := Aside0.mk hr0
  obtain ⟨k, hk, hle, hr, hj, hl⟩ := nat_right.ix_of h
  have hbig : l0.length ≤ 9223372036854775807 := hr0.2.1
  have HJ := Aside0.mk hj
  have HL := Aside0.mk hl
  have HRR := Aside0.mk hr
  clear hr0 hc0 hj hl hk h hr
  go_enter Try.func155, Try.ntmps155
  go_wp2
  go_loopg [5, 8] l0.length (fun gg _ s8 wr => ∃ kk : Nat, kk ≤ k ∧ l0.length - kk ≤ gg ∧ s8 = .int .i64 kk ∧ Aside0 (Drawn0 w wr))
  case atStart => exact ⟨0, Nat.zero_le _, by omega, rfl, ⟨Drawn0.refl _⟩⟩
  case round =>
    obtain ⟨kk, hkk, hg, rfl, D⟩ := hrel
    by_cases hlt : kk < l0.length
    · have hltz : (kk : Int) < (l0.length : Int) := by omega
      have hC1 : Kd.C (Kd.slice 30 (Kd.int .u64)) wr A0 l0.length l0 := Kd.C_below HR0.out D.out.below
      have h0k : (0 : Int) ≤ (kk : Int) := Int.natCast_nonneg kk
      obtain ⟨ad, c, hA, _, hK, hc⟩ := Kd.C_get hC1 ([] : List Int) (kk : Int) h0k hltz
      obtain ⟨A1, c1, rfl, hl1, hi1⟩ := hK
      subst hA
      have hcell := hc 0 _ rfl
      rw [Nat.add_zero, show (Kd.slice 30 (Kd.int .u64)).sz = 1 from rfl, Nat.mul_one] at hcell
      simp only [Go.IntWalk.toNatUp] at hcell hl1 hi1
      have HX := HJ.out kk
      have HY := HL.out
      clear hc hC1
      generalize hx : l0.getD kk [] = x at hcell hl1 hi1 HX
      by_cases hlast : kk < k
      · have hcall := Aside0.mk (nat_right.closure A1 c1 x true wr hi1 hl1 (HX hlast))
        have D2 := D
        clear D hi1 HX HY hx
        go_wp2_with (go_at_call 132; refine hcall.out.mono ?_; rintro e w' ⟨rfl, ⟨q, rfl⟩⟩)
        go_roundg (l0.length - (kk + 1))
        case measure => omega
        case rel => exact ⟨kk + 1, by omega, by omega, by go_num, ⟨D2.out.step _⟩⟩
      · have hkk' : kk = k := by omega
        subst hkk'
        have HZ := HY hlt
        rw [hx] at HZ
        have hcall := Aside0.mk (nat_right.closure A1 c1 x false wr hi1 hl1 HZ)
        have hr : r = false := by
          cases r with
          | false => rfl
          | true => have := HRR.out.1 rfl; omega
        have HR := Aside0.mk hr
        have D2 := D
        clear D hi1 HX HY hx HZ hr
        go_wp2_with (go_at_call 132; refine hcall.out.mono ?_; rintro e w' ⟨rfl, ⟨q, rfl⟩⟩)
        go_ret
        exact ⟨⟨_, rfl, by rw [HR.out]; simp⟩, D2.out.step _⟩
    · have hltz : ¬ (kk : Int) < (l0.length : Int) := by omega
      have hr : r = true := HRR.out.2 (by omega)
      have HR := Aside0.mk hr
      clear hr
      go_wp2
      go_ret
      exact ⟨⟨_, rfl, by rw [HR.out]; simp⟩, D.out⟩
set_option maxHeartbeats 8000000 in
set_option maxRecDepth 100000 in
theorem nat_right.contains (A0 : Option Addr) (c0 : Nat) (l0 : List (List Int)) (r : Bool) (w : World) (hr0 : Kd.C (Kd.slice 30 (Kd.int .u64)) w A0 l0.length l0) (hc0 : l0.length ≤ c0) (h : nat_right.f l0 = some r) :
    Calls Try.prog 127 #[.slice A0 l0.length c0, .func (.func 132) #[] #[]] w fun e w' => e = .returned (.bool (!r)) ∧ Drawn0 w w' := by
  have hcall := Aside0.mk (nat_right.index A0 c0 l0 r w hr0 hc0 h)
  clear hr0 hc0 h
  go_enter Try.func127, Try.ntmps127
  go_wp2_with (go_at_call 155; refine hcall.out.mono ?_; rintro e w' ⟨⟨k, rfl, hk⟩, hd⟩; have HK := Aside0.mk hk; have HD := Aside0.mk hd; clear hk hd)
  go_ret
  exact ⟨by rw [← HK.out]; rfl, HD.out⟩
set_option maxHeartbeats 8000000 in
set_option maxRecDepth 100000 in
theorem nat_right.calls (A0 : Option Addr) (c0 : Nat) (l0 : List (List Int)) (r : Bool) (w : World) (hr0 : Kd.C (Kd.slice 30 (Kd.int .u64)) w A0 l0.length l0) (hc0 : l0.length ≤ c0) (h : nat_right.f l0 = some r) :
    Calls Try.prog 87 #[.slice A0 l0.length c0] w fun e w' => e = .returned (.bool r) ∧ Drawn0 w w' := by
  have hcall := Aside0.mk (nat_right.contains A0 c0 l0 r w hr0 hc0 h)
  clear hr0 hc0 h
  go_enter Try.func87, Try.ntmps87
  go_wp2_with (go_at_call 127; refine hcall.out.mono ?_; rintro e w' ⟨rfl, hd⟩; have HD := Aside0.mk hd; clear hd)
  go_ret
  exact ⟨by cases r <;> rfl, HD.out⟩
end Go.Proofs.Ytkgaejigpmkfkaa.F
end
section
namespace Go.Proofs.Ytkgaejigpmkfkaa.F
open Go.RowKit Go.Proofs.YtkgaejigpmkfkaaW.PrintWords Go.Proofs.YtkgaejigpmkfkaaW.PrintLast Go.Proofs.YtkgaejigpmkfkaaW.PrintMore
attribute [local go_sem] max2_int min2_int max_two min_two max_three min_three max_four min_four
set_option linter.unusedVariables false
set_option linter.unusedSimpArgs false
def nat_Read.l0 : Nat → List Int → List Int → Int → Int → Option (List Int × Int)
 | 0, _, _, _, _ => none
 | k + 1, x0, x5, x23, x24 => if x24 < x23 then (if 0 ≤ (wrap64 (Int.tdiv x24 8)) then (if (wrap64 (Int.tdiv x24 8)) < (x5.length : Int) then (if 0 ≤ (wrap64 ((wrap64 ((x0.length : Int) - 1)) - x24)) then (if (wrap64 ((wrap64 ((x0.length : Int) - 1)) - x24)) < (x0.length : Int) then (if 0 ≤ (wrap64 (8 * (Int.tmod x24 8))) then (nat_Read.l0 k x0 (x5.set ((wrap64 (Int.tdiv x24 8)) : Int).toNat (Go.bits .or .u64 (rd x5 (wrap64 (Int.tdiv x24 8))) (shl .u64 (IntKind.u64.wrap (rd x0 (wrap64 ((wrap64 ((x0.length : Int) - 1)) - x24)))) (wrap64 (8 * (Int.tmod x24 8)))))) x23 (wrap64 (x24 + 1))) else (none)) else (none)) else (none)) else (none)) else (none)) else ((nat_told.f k x5).bind fun bt1289 => (some (bt1289.1, bt1289.2)))
def nat_Read.f (k : Nat) (l0 : List Int) : Option (List Int × Int) := (nat_Read_ix.f l0).bind fun t1281 => (if t1281 < 0 then (some (([] : List Int), 0)) else (if 0 ≤ t1281 then (if t1281 ≤ (l0.length : Int) then (if ((l0.drop (t1281 : Int).toNat).length : Int) > 512 then (some (([] : List Int), 4)) else (if 0 ≤ (wrap64 (Int.tdiv (wrap64 (((l0.drop (t1281 : Int).toNat).length : Int) + 7)) 8)) then (if (wrap64 (Int.tdiv (wrap64 (((l0.drop (t1281 : Int).toNat).length : Int) + 7)) 8) : Int).toNat ≤ 35184372088832 then (nat_Read.l0 k (l0.drop (t1281 : Int).toNat) (List.replicate (wrap64 (Int.tdiv (wrap64 (((l0.drop (t1281 : Int).toNat).length : Int) + 7)) 8) : Int).toNat 0) ((l0.drop (t1281 : Int).toNat).length : Int) 0) else (none)) else (none))) else (none)) else (none)))
def nat_Cmp.f (k : Nat) (l0 : List Int) (l1 : List Int) : Option (Int) := (nat_right.f (([l0, l1] : List (List Int)))).bind fun t312 => (if t312 = true then ((nat_compare.f k l0 l1).bind fun t313 => (some t313)) else (some 0))
set_option maxHeartbeats 8000000 in
set_option maxRecDepth 100000 in
theorem nat_Cmp.calls (k : Nat) (P0_ : Nat → Prop) (A0 : Option Addr) (c0 : Nat) (l0 : List Int) (P1_ : Nat → Prop) (A1 : Option Addr) (c1 : Nat) (l1 : List Int) (r : Int) (w : World) (hs0 : Kd.V (Kd.int .u64) 30 w w.heap.size (fun k_ => P0_ k_) (.slice A0 l0.length c0) l0) (hs1 : Kd.V (Kd.int .u64) 30 w w.heap.size (fun k_ => P1_ k_) (.slice A1 l1.length c1) l1) (h : nat_Cmp.f k l0 l1 = some r) :
  Calls Try.prog 55 #[.slice A0 l0.length c0, .slice A1 l1.length c1] w fun e w' => e = .returned (.int .i64 r) ∧ Below w.heap.size w w' := by
 have HO0 := Aside0.mk (show Kd.V (Kd.int .u64) 30 w w.heap.size (fun k_ => ((P0_ k_ ∨ P1_ k_) ∨ w.heap.size ≤ k_)) (.slice A0 l0.length c0) l0 from Kd.V_mono hs0 (fun k_ hk => .inl (.inl hk)))
 have HO1 := Aside0.mk (show Kd.V (Kd.int .u64) 30 w w.heap.size (fun k_ => ((P0_ k_ ∨ P1_ k_) ∨ w.heap.size ≤ k_)) (.slice A1 l1.length c1) l1 from Kd.V_mono hs1 (fun k_ hk => .inl (.inr hk)))
 have HB := Aside0.mk (Below.refl w.heap.size w)
 have H : ((nat_right.f (([l0, l1] : List (List Int)))).bind fun t312 => (if t312 = true then ((nat_compare.f k l0 l1).bind fun t313 => (some t313)) else (some 0))) = some r := h
 clear h
 obtain ⟨y309, hy309⟩ : ∃ y_ : List (List Int), y_ = (([l0, l1] : List (List Int))) := ⟨_, rfl⟩
 replace H : ((nat_right.f y309).bind fun t312 => (if t312 = true then ((nat_compare.f k l0 l1).bind fun t313 => (some t313)) else (some 0))) = some r := by first | (rw [hy309]; with_reducible exact H) | (have H2_ := (Option.bind_some _ _).symm.trans H; rw [hy309]; with_reducible exact H2_) | (have H2_ := (Option.bind_some _ _).symm.trans H; with_reducible exact H2_) | with_reducible exact H | (rw [hy309]; exact H) | exact H
 have Ny309 := Aside0.mk hy309; clear hy309
 replace H := ub H; obtain ⟨t312, A3, H⟩ := H
 by_cases c4 : t312 = true
 ·
  subst c4
  have H1 : ((nat_compare.f k l0 l1).bind fun t313 => (some t313)) = some r := by rw [if_pos rfl] at H; exact H
  clear H; have H := H1; clear H1
  replace H := ub H; obtain ⟨t313, A5, H⟩ := H
  obtain rfl := Option.some.inj H
  go_enter Try.func55, Try.ntmps55
  go_wp2_with (first | ((with_reducible refine gate_dst (N := 7) rfl ?_); refine Kd.N_lit (Kd.slice 30 (Kd.int .u64)) _ 40 ?hg (N' := 7) ?hd (xs := ([l0, l1] : List (List Int))) (inner := [.slice A0 l0.length c0, .slice A1 l1.length c1]) (ok := (fun k_ => ((P0_ k_ ∨ P1_ k_) ∨ w.heap.size ≤ k_))) (okp := (fun k_ => ((P0_ k_ ∨ P1_ k_) ∨ w.heap.size ≤ k_))) ?hr ?hp (fun _ hk => hk) ((show ∀ k_, w.heap.size ≤ k_ → (fun k_ => ((P0_ k_ ∨ P1_ k_) ∨ w.heap.size ≤ k_)) k_ from fun k_ hk => (.inr (Nat.le_trans (below_size uB) hk))) _ (Nat.le_refl _)) (Below.refl _ _) (Nat.le_refl _) (by simp) ?_; (case hd => rfl); (case hg => rfl); (case hr => first | (go_simp; done) | (go_simp; rfl) | (go_simp; simp only [u64_u8]; done) | (go_simp; simp only [u64_u8]; rfl)); (case hp => exact (Reps.one (show Kd.FK (Kd.slice 30 (Kd.int .u64)) _ _ l0 [.slice A0 l0.length c0] from (Kd.FK_slice_mk (Kd.V_reads' (Kd.V_mono (ok' := (fun k_ => ((P0_ k_ ∨ P1_ k_) ∨ w.heap.size ≤ k_))) (HO0.out) (fun k_ hk => hk))).2.1 (Kd.V_F (Kd.V_mono (ok' := (fun k_ => ((P0_ k_ ∨ P1_ k_) ∨ w.heap.size ≤ k_))) (HO0.out) (fun k_ hk => hk))))) (Reps.one (show Kd.FK (Kd.slice 30 (Kd.int .u64)) _ _ l1 [.slice A1 l1.length c1] from (Kd.FK_slice_mk (Kd.V_reads' (Kd.V_mono (ok' := (fun k_ => ((P0_ k_ ∨ P1_ k_) ∨ w.heap.size ≤ k_))) (HO1.out) (fun k_ hk => hk))).2.1 (Kd.V_F (Kd.V_mono (ok' := (fun k_ => ((P0_ k_ ∨ P1_ k_) ∨ w.heap.size ≤ k_))) (HO1.out) (fun k_ hk => hk))))) (Reps.none _ _)))); intro v310 w6 ho7 hb hg_ hnew_; clear hg_ hnew_; (first | rw [← Ny309.out] at ho7 | (simp only [Int.reduceToNat] at ho7; rw [← Ny309.out] at ho7)); replace HO0 := Aside0.mk (Kd.V_elder' (uV HO0.out) (Kd.N_base ho7) hb); replace HO1 := Aside0.mk (Kd.V_elder' (uV HO1.out) (Kd.N_base ho7) hb); have HO311 := Aside0.mk (Kd.N_lower ho7 (below_size uB)); replace HB := uy hb; clear hb ho7; obtain ⟨Ao8, co8, eo8⟩ := Kd.N_slice HO311.out; subst eo8) | ((with_reducible refine gate_callee (f := 87) rfl ?_); refine goesL_ (some 8) rfl rfl Try.func87 (by kernel_rfl) rfl #[.slice Ao8 y309.length co8] rfl uM ?_; (with_reducible refine (nat_right.calls _ _ y309 true _ ?side1 ?side2 A3.out).mono ?_); (case side1 => exact uC (Kd.N_reads' HO311.out).2.2); (case side2 => exact (Kd.N_reads' HO311.out).2.1); rintro e w' ⟨rfl, ⟨nd, rfl⟩⟩; refine ⟨_, rfl, ?_⟩) | ((with_reducible refine gate_callee (f := 92) rfl ?_); refine goesL_ (some 12) rfl rfl Try.func92 (by kernel_rfl) rfl #[.slice A0 l0.length c0, .slice A1 l1.length c1] rfl uM ?_; (with_reducible refine (nat_compare.calls k _ _ l0 _ _ l1 t313 _ ?side1 ?side2 ?side3 ?side4 A5.out).mono ?_); (case side1 => exact uC (Kd.V_reads' HO0.out).2.2); (case side2 => exact (Kd.V_reads' HO0.out).2.1); (case side3 => exact uC (Kd.V_reads' HO1.out).2.2); (case side4 => exact (Kd.V_reads' HO1.out).2.1); rintro e w' ⟨rfl, ⟨nd, rfl⟩⟩; refine ⟨_, rfl, ?_⟩))
  go_ret
  exact ⟨uF, uB⟩
 replace c4 := Bool.eq_false_iff.mpr c4
 subst c4
 have H1 : (some 0) = some r := by rw [if_neg (show ¬ (false = true) by decide)] at H; exact H
 clear H; have H := H1; clear H1
 obtain rfl := Option.some.inj H
 go_enter Try.func55, Try.ntmps55
 go_wp2_with (first | ((with_reducible refine gate_dst (N := 7) rfl ?_); refine Kd.N_lit (Kd.slice 30 (Kd.int .u64)) _ 40 ?hg (N' := 7) ?hd (xs := ([l0, l1] : List (List Int))) (inner := [.slice A0 l0.length c0, .slice A1 l1.length c1]) (ok := (fun k_ => ((P0_ k_ ∨ P1_ k_) ∨ w.heap.size ≤ k_))) (okp := (fun k_ => ((P0_ k_ ∨ P1_ k_) ∨ w.heap.size ≤ k_))) ?hr ?hp (fun _ hk => hk) ((show ∀ k_, w.heap.size ≤ k_ → (fun k_ => ((P0_ k_ ∨ P1_ k_) ∨ w.heap.size ≤ k_)) k_ from fun k_ hk => (.inr (Nat.le_trans (below_size uB) hk))) _ (Nat.le_refl _)) (Below.refl _ _) (Nat.le_refl _) (by simp) ?_; (case hd => rfl); (case hg => rfl); (case hr => first | (go_simp; done) | (go_simp; rfl) | (go_simp; simp only [u64_u8]; done) | (go_simp; simp only [u64_u8]; rfl)); (case hp => exact (Reps.one (show Kd.FK (Kd.slice 30 (Kd.int .u64)) _ _ l0 [.slice A0 l0.length c0] from (Kd.FK_slice_mk (Kd.V_reads' (Kd.V_mono (ok' := (fun k_ => ((P0_ k_ ∨ P1_ k_) ∨ w.heap.size ≤ k_))) (HO0.out) (fun k_ hk => hk))).2.1 (Kd.V_F (Kd.V_mono (ok' := (fun k_ => ((P0_ k_ ∨ P1_ k_) ∨ w.heap.size ≤ k_))) (HO0.out) (fun k_ hk => hk))))) (Reps.one (show Kd.FK (Kd.slice 30 (Kd.int .u64)) _ _ l1 [.slice A1 l1.length c1] from (Kd.FK_slice_mk (Kd.V_reads' (Kd.V_mono (ok' := (fun k_ => ((P0_ k_ ∨ P1_ k_) ∨ w.heap.size ≤ k_))) (HO1.out) (fun k_ hk => hk))).2.1 (Kd.V_F (Kd.V_mono (ok' := (fun k_ => ((P0_ k_ ∨ P1_ k_) ∨ w.heap.size ≤ k_))) (HO1.out) (fun k_ hk => hk))))) (Reps.none _ _)))); intro v310 w9 ho10 hb hg_ hnew_; clear hg_ hnew_; (first | rw [← Ny309.out] at ho10 | (simp only [Int.reduceToNat] at ho10; rw [← Ny309.out] at ho10)); replace HO0 := Aside0.mk (Kd.V_elder' (uV HO0.out) (Kd.N_base ho10) hb); replace HO1 := Aside0.mk (Kd.V_elder' (uV HO1.out) (Kd.N_base ho10) hb); have HO311 := Aside0.mk (Kd.N_lower ho10 (below_size uB)); replace HB := uy hb; clear hb ho10; obtain ⟨Ao11, co11, eo11⟩ := Kd.N_slice HO311.out; subst eo11) | ((with_reducible refine gate_callee (f := 87) rfl ?_); refine goesL_ (some 8) rfl rfl Try.func87 (by kernel_rfl) rfl #[.slice Ao11 y309.length co11] rfl uM ?_; (with_reducible refine (nat_right.calls _ _ y309 false _ ?side1 ?side2 A3.out).mono ?_); (case side1 => exact uC (Kd.N_reads' HO311.out).2.2); (case side2 => exact (Kd.N_reads' HO311.out).2.1); rintro e w' ⟨rfl, ⟨nd, rfl⟩⟩; refine ⟨_, rfl, ?_⟩))
 go_ret
 exact ⟨uF, uB⟩
end Go.Proofs.Ytkgaejigpmkfkaa.F
end
section
namespace Go.Proofs.Ytkgaejigpmkfkaa.F
open Go.RowKit Go.Proofs.YtkgaejigpmkfkaaW.PrintWords Go.Proofs.YtkgaejigpmkfkaaW.PrintLast Go.Proofs.YtkgaejigpmkfkaaW.PrintMore
set_option linter.unusedVariables false
set_option linter.unusedSimpArgs false
def Rf (w : World) (ok : Nat → Prop) (A : Option Addr) (c : Nat) (l : List Int) : Prop := Kd.F (Kd.int .u64) w ok A l.length l ∧ l.length ≤ c
theorem Rf.C {w : World} {ok : Nat → Prop} {A : Option Addr} {c : Nat} {l : List Int} (h : Rf w ok A c l) : Kd.C (Kd.int .u64) w A l.length l := Kd.F_now h.1
theorem Rf.below {w w1 : World} {ok : Nat → Prop} {A : Option Addr} {c : Nat} {l : List Int} (h : Rf w ok A c l) (hb : Below w.heap.size w w1) : Rf w1 ok A c l := ⟨Kd.F_below h.1 hb, h.2⟩
def Stay (w w' : World) (g : Nat) : Prop := KeepBut w w' g none ∧ w'.os = w.os ∧ w'.tape = w.tape ∧ w'.output = w.output
theorem Stay.refl (w : World) (g : Nat) : Stay w w g := ⟨KeepBut.refl _ _ _, rfl, rfl, rfl⟩
theorem Stay.of_below {w w1 : World} (h : Below w.heap.size w w1) (g : Nat) : Stay w w1 g := ⟨KeepBut.of_below h g none, h.os, h.tape, h.output⟩
theorem Stay.trans {w w1 w2 : World} {g : Nat} (h : Stay w w1 g) (k : Stay w1 w2 g) : Stay w w2 g := ⟨h.1.trans k.1 (.inl rfl), k.2.1.trans h.2.1, k.2.2.1.trans h.2.2.1, k.2.2.2.trans h.2.2.2⟩
theorem Stay.then {w w1 w2 : World} {g : Nat} (h : Stay w w1 g) (k : Below w1.heap.size w1 w2) : Stay w w2 g := h.trans (Stay.of_below k g)
theorem Stay.size {w w1 : World} {g : Nat} (h : Stay w w1 g) : w.heap.size ≤ w1.heap.size := h.1.1
theorem Stay.set_new {w w1 : World} {g : Nat} (h : Stay w w1 g) {p : Addr} (hp : w.heap.size ≤ p.block) (u : Value) : Stay w (w1.setCell p u) g := ⟨keep_far h.1 hp u, h.2.1, h.2.2.1, h.2.2.2⟩
theorem Stay.below {w w1 : World} {g : Nat} (h : Stay w w1 g) {w0 : World} (hb : Below w0.heap.size w0 w) (hg : w0.heap.size ≤ g) : Below w0.heap.size w0 w1 := keep_below hb h.1 h.2.1 h.2.2.1 h.2.2.2 hg
theorem Tp.bound {w : World} {g : Nat} {ok : Nat → Prop} {l : List Int} (h : Tp w g ok l) : Tp w g (fun k => ok k ∧ k < w.heap.size) l := by
  obtain ⟨A, c, h1, h2, h3⟩ := h
  exact ⟨A, c, h1, h2, Kd.F_bound h3⟩
theorem Tp.far {w : World} {g : Nat} {ok : Nat → Prop} {l : List Int} (h : Tp w g ok l) {p : Addr} (hp : p.block ≠ g) (hok : ∀ k, ok k → k ≠ p.block) (u : Value) : Tp (w.setCell p u) g ok l := by
  obtain ⟨A, c, h1, h2, h3⟩ := h
  exact ⟨A, c, (Below.heap_setCell w p u g (fun e => hp e.symm)).trans h1, h2, Kd.F_far h3 hok u⟩
def maskV (odd : Int) (x : List Int) : List Int := if odd > 0 then x.set 0 (Go.bits .and .u8 (x.getD 0 0) (IntKind.u8.wrap (IntKind.u8.wrap (2 ^ odd.toNat) - 1))) else x
def tape_draw.f (bits : Int) (n : List Int) : Nat → List Int → Option (List Int × Int × List Int)
  | 0, _ => none
  | k + 1, l => if (l.length : Int) < (bits + 7) / 8 then some ([], 7, l) else (nat_Read.f k (maskV (bits % 8) (l.take ((bits + 7) / 8).toNat))).bind fun x => (nat_Cmp.f k x.1 n).bind fun c => if c < 0 then some (x.1, 0, l.drop ((bits + 7) / 8).toNat) else tape_draw.f bits n k (l.drop ((bits + 7) / 8).toNat)
end Go.Proofs.Ytkgaejigpmkfkaa.F
end
section
namespace Go.Proofs.Ytkgaejigpmkfkaa.F
open Go.RowKit Go.Shelf
set_option linter.unusedVariables false
set_option linter.unusedSimpArgs false
attribute [local go_sem] Oper.semAt_some
def wheel (i : Nat) : Nat := if i = 0 then 2 else if i = 1 then 3 else 5 + 6 * ((i - 2) / 2) + 2 * ((i - 2) % 2)
theorem wheel_even (j : Nat) : wheel (2 + 2 * j) = 5 + 6 * j := by
  unfold wheel
  rw [if_neg (by omega), if_neg (by omega)]
  omega
theorem wheel_odd (j : Nat) : wheel (3 + 2 * j) = 7 + 6 * j := by
  unfold wheel
  rw [if_neg (by omega), if_neg (by omega)]
  omega
theorem wheel_mono {i j : Nat} (h : i < j) : wheel i < wheel j := by
  unfold wheel
  repeat' split
  all_goals omega
theorem wheel_le {i j : Nat} (h : i ≤ j) : wheel i ≤ wheel j := by
  rcases Nat.lt_or_eq_of_le h with h | rfl
  · exact Nat.le_of_lt (wheel_mono h)
  · exact Nat.le_refl _
theorem wheel_two (i : Nat) : 2 ≤ wheel i := wheel_le (i := 0) (Nat.zero_le i)
abbrev Wn := { y : Int // 2 ≤ y }
def wheelS (i : Nat) : Wn := ⟨(wheel i : Int), by have := wheel_two i; omega⟩
def uptoW (k : Nat) : List Wn := (List.range k).map wheelS
theorem uptoW_succ (k : Nat) : uptoW (k + 1) = uptoW k ++ [wheelS k] := by simp [uptoW, List.range_succ]
theorem uptoW_length (k : Nat) : (uptoW k).length = k := by simp [uptoW]
def Many (n m : Nat) : Prop := (∀ i, i < m → wheel i * wheel i ≤ n) ∧ n < wheel m * wheel m
theorem Many.lt {n m i : Nat} (h : Many n m) (hi : wheel i * wheel i ≤ n) : i < m := by
  rcases Nat.lt_or_ge i m with h1 | h1
  · exact h1
  · have := Nat.mul_le_mul (wheel_le h1) (wheel_le h1)
    have := h.2
    omega
theorem Many.ge {n m i : Nat} (h : Many n m) (hi : n < wheel i * wheel i) : m ≤ i := by
  rcases Nat.lt_or_ge i m with h1 | h1
  · have := h.1 i h1
    omega
  · exact h1
theorem wheel_ge (i : Nat) : i ≤ wheel i := by
  unfold wheel
  repeat' split
  all_goals omega
theorem many_ex (n : Nat) : ∃ m, Many n m := by
  have h : ∀ k : Nat, (∃ m, m ≤ k ∧ Many n m) ∨ (∀ i, i < k → wheel i * wheel i ≤ n) := by
    intro k
    induction k with
    | zero => exact Or.inr (fun i hi => absurd hi (Nat.not_lt_zero _))
    | succ k ih =>
      rcases ih with ⟨m, h1, h2⟩ | h1
      · exact Or.inl ⟨m, by omega, h2⟩
      · by_cases h2 : wheel k * wheel k ≤ n
        · refine Or.inr (fun i hi => ?_)
          by_cases e : i = k
          · subst e; exact h2
          · exact h1 i (by omega)
        · exact Or.inl ⟨k, by omega, h1, by omega⟩
  rcases h (n + 2) with ⟨m, _, h2⟩ | h1
  · exact ⟨m, h2⟩
  · have h2 := h1 (n + 1) (by omega)
    have h3 := wheel_ge (n + 1)
    have h4 := Nat.mul_le_mul h3 h3
    have : n + 1 ≤ (n + 1) * (n + 1) := Nat.le_mul_of_pos_left _ (by omega)
    omega
def KeepsCells (W W' : World) : Prop := ∀ (b : Nat) (cs : Array Value) (t : TypeId) (z : Nat × Nat), W.heap[b]? = some (.cells cs t z) → W'.heap[b]? = some (.cells cs t z)
theorem KeepsCells.refl (W : World) : KeepsCells W W := fun _ _ _ _ h => h
theorem KeepsCells.t {A B C : World} (h : KeepsCells A B) (k : KeepsCells B C) : KeepsCells A C := fun b cs t z hb => k b cs t z (h b cs t z hb)
theorem KeepsCells.b {w : World} (W : World) (l : Nat) (o o' : Obj) (_ : w.heap.size ≤ l) (h : W.heap[l]? = some o) (hc : o.isCells = false) (_ : o.isWalk = false) : KeepsCells W (W.putObj l o') := by
  intro b cs t z hb
  have hne : l ≠ b := by
    intro e
    subst e
    rw [h] at hb
    cases hb
    simp [Obj.isCells] at hc
  have := (grownBy_putObj' W l o').block b (Array.getElem?_eq_some_iff.1 hb).1 (by intro e; cases e; exact hne rfl)
  rw [this]; exact hb
theorem KeepsCells.of_alloc (W : World) (o : Obj) : KeepsCells W (W.alloc o) := fun b cs t z hb => (World.grownBy_alloc W o none).block b (Array.getElem?_eq_some_iff.1 hb).1 (by intro e; cases e) ▸ hb
theorem cell_of {W : World} {b i : Nat} {cs : Array Value} {t : TypeId} {z : Nat × Nat} {v : Value} (h : W.heap[b]? = some (.cells cs t z)) (hv : cs[i]? = some v) : W.cell? ⟨b, i, none⟩ = some v := by simp [World.cell?, h, hv]
set_option maxHeartbeats 2000000 in
set_option maxRecDepth 100000 in
theorem divisors.calls (F : Fence) (k : Nat) (hf : F.fn 110) (hro : F.round = none) (n : Int) (w : World) :
    CallsIn F k Try.prog 110 #[.int .u64 n] w fun e w' => e = .returned (.func (.func 148) #[] #[.pointer (some ⟨w.heap.size, 0, none⟩)]) ∧ w' = w.alloc (.cells #[.int .u64 n] 30) := by
  refine callsIn_of_wp Try.func110 rfl hf ?_ hro
  simp only [Try.ntmps110, List.size_toArray, List.length_cons, List.length_nil, Nat.reduceAdd, Nat.reduceSub, Array.replicate_succ, Array.replicate_zero, List.push_toArray, List.append_toArray, List.nil_append, List.cons_append]
  gi_wp2
  go_ret
  exact ⟨rfl, rfl⟩
end Go.Proofs.Ytkgaejigpmkfkaa.F
end
section
namespace Go.Proofs.Ytkgaejigpmkfkaa.F
open Go.RowKit Go.Shelf Go.Proofs.YtkgaejigpmkfkaaW.PrintWords
set_option linter.unusedVariables false
set_option linter.unusedSimpArgs false
attribute [local go_sem] Oper.semAt_some
set_option maxHeartbeats 2000000 in
set_option maxRecDepth 100000 in
theorem divisors1.calls (F : Fence) (n : Nat) (h6 : F.fn 148) (hro : F.round = none) (hn : 1 ≤ n) (l Bn : Nat) (x m : Nat) (hx : x < 1099511627776) (hm : Many x m) (J Jx : List Wn → World → Prop)
    (hY : ∀ pre y W, J pre W → pre.length < m → YieldAt F (n - 1) Try.prog l #[.int .u64 y.1] W fun e W' =>
      (e = .returned (.bool true) ∧ J (pre ++ [y]) W' ∧ KeepsCells W W') ∨ (e = .returned (.bool false) ∧ Jx (pre ++ [y]) W'))
    (W : World) (hJ : AbidesFrom W.heap.size J) (hBn : W.heap[Bn]? = some (.cells #[.int .u64 (x : Int)] 30 (0, 0))) (h0 : J [] W) :
    CallsIn F n Try.prog 148 #[.func (.yield l) #[] #[], .pointer (some ⟨Bn, 0, none⟩)] W fun e W' => (∃ v, e = .returned v) ∧
      ((∃ ys, ys = uptoW m ∧ J ys W') ∨ (∃ pre, (∃ k, k ≤ m ∧ pre = uptoW k) ∧ Jx pre W')) := by
  refine callsIn_of_wp Try.func148 rfl h6 ?_ hro
  simp only [Try.ntmps148, List.size_toArray, List.length_cons, List.length_nil, Nat.reduceAdd, Nat.reduceSub, Array.replicate_succ, Array.replicate_zero, List.push_toArray, List.append_toArray, List.nil_append, List.cons_append]
  have hlit : (W.alloc (.cells #[.int .u64 2, .int .u64 3] 30)).heap[W.heap.size]? = some (.cells #[.int .u64 2, .int .u64 3] 30 (0, 0)) := World.alloc_heap_new W _
  have hBn1 := KeepsCells.of_alloc W (.cells #[.int .u64 2, .int .u64 3] 30) Bn _ _ _ hBn
  have h01 : J [] (W.alloc (.cells #[.int .u64 2, .int .u64 3] 30)) := hJ _ _ _ none h0 (World.grownBy_alloc W _ none) (fun r e => by cases e)
  gi_wp2
  gi_loopw [8] (fun i wr => ∃ k : Nat, k ≤ 2 ∧ k ≤ m ∧ i = .int .i64 (k : Int) ∧ J (uptoW k) wr ∧ wr.heap[W.heap.size]? = some (.cells #[.int .u64 2, .int .u64 3] 30 (0, 0)) ∧ wr.heap[Bn]? = some (.cells #[.int .u64 (x : Int)] 30 (0, 0))) (fun i _ => 2 - (intOf i).toNat)
  case atStart => exact ⟨0, by omega, by omega, rfl, h01, hlit, hBn1⟩
  case round =>
    obtain ⟨k, hk, hkm, rfl, hJs, hl, hb⟩ := hrel
    have hn0 : wr.cell? ⟨Bn, 0, none⟩ = some (.int .u64 (x : Int)) := cell_of hb rfl
    have hc0 : wr.cell? ⟨W.heap.size, 0, none⟩ = some (.int .u64 2) := cell_of hl rfl
    have hc1 : wr.cell? ⟨W.heap.size, 1, none⟩ = some (.int .u64 3) := cell_of hl rfl
    obtain rfl | rfl | rfl : k = 0 ∨ k = 1 ∨ k = 2 := by omega
    · by_cases h4 : x < 4
      · have h4z : decide ((x : Int) < 4) = true := decide_eq_true (by omega)
        have hm0 : m = 0 := by have := hm.ge (i := 0) (by show x < 2 * 2; omega); omega
        subst hm0
        gi_wp2
        refine ⟨fun _ h => (by cases h), ?_⟩
        gi_wp2
        refine bodyPost_ret (results_none rfl _ _ _) rfl ?_
        exact ⟨⟨_, rfl⟩, .inl ⟨_, rfl, hJs⟩⟩
      · have h4z : decide ((x : Int) < 4) = false := decide_eq_false (by omega)
        have hm0 : 0 < m := hm.lt (i := 0) (by show 2 * 2 ≤ x; omega)
        obtain ⟨fn, tmps, assign, body, hy, hR⟩ := hY _ (wheelS 0) wr hJs (by rw [uptoW_length]; exact hm0)
        rw [show (wheelS 0).1 = 2 from rfl] at hy
        gi_wp2
        refine hR.mono ?_
        rintro e W3 (⟨rfl, hJ3, hk3⟩ | ⟨rfl, hJx3⟩)
        · gi_wp2
          go_roundw
          case rel => exact ⟨0 + 1, by omega, by omega, by first | rfl | simp, by rw [uptoW_succ]; exact hJ3, hk3 _ _ _ _ hl, hk3 _ _ _ _ hb⟩
          case measure => simp [intOf]
        · gi_wp2
          refine bodyPost_ret (results_none rfl _ _ _) rfl ?_
          exact ⟨⟨_, rfl⟩, .inr ⟨_, ⟨0 + 1, by omega, (uptoW_succ _).symm⟩, hJx3⟩⟩
    · by_cases h4 : x < 9
      · have h4z : decide ((x : Int) < 9) = true := decide_eq_true (by omega)
        have hm0 : m = 1 := by have := hm.ge (i := 1) (by show x < 3 * 3; omega); omega
        subst hm0
        gi_wp2
        refine ⟨fun _ h => (by cases h), ?_⟩
        gi_wp2
        refine bodyPost_ret (results_none rfl _ _ _) rfl ?_
        exact ⟨⟨_, rfl⟩, .inl ⟨_, rfl, hJs⟩⟩
      · have h4z : decide ((x : Int) < 9) = false := decide_eq_false (by omega)
        have hm0 : 1 < m := hm.lt (i := 1) (by show 3 * 3 ≤ x; omega)
        obtain ⟨fn, tmps, assign, body, hy, hR⟩ := hY _ (wheelS 1) wr hJs (by rw [uptoW_length]; exact hm0)
        rw [show (wheelS 1).1 = 3 from rfl] at hy
        gi_wp2
        refine hR.mono ?_
        rintro e W3 (⟨rfl, hJ3, hk3⟩ | ⟨rfl, hJx3⟩)
        · gi_wp2
          go_roundw
          case rel => exact ⟨1 + 1, by omega, by omega, by first | rfl | simp, by rw [uptoW_succ]; exact hJ3, hk3 _ _ _ _ hl, hk3 _ _ _ _ hb⟩
          case measure => simp [intOf]
        · gi_wp2
          refine bodyPost_ret (results_none rfl _ _ _) rfl ?_
          exact ⟨⟨_, rfl⟩, .inr ⟨_, ⟨1 + 1, by omega, (uptoW_succ _).symm⟩, hJx3⟩⟩
    · gi_wp2
      gi_loopw [5] (fun d wr => ∃ (D i k : Nat), d = .int .u64 (D : Int) ∧ D = 5 + 6 * i ∧ D ≤ 1048600 ∧ k ≤ m ∧ (k = 2 + 2 * i ∨ (k = m ∧ m + 1 = 2 + 2 * i)) ∧ J (uptoW k) wr ∧ wr.heap[Bn]? = some (.cells #[.int .u64 (x : Int)] 30 (0, 0))) (fun d _ => 2000000 - (intOf d).toNat)
      case atStart => exact ⟨5, 0, 2, rfl, rfl, by omega, hkm, Or.inl rfl, hJs, hb⟩
      case round =>
        clear hJs hl hb hn0 hc0 hc1
        obtain ⟨D, i, k, rfl, hD, hDm, hk2, hkk, hJs, hb⟩ := hrel
        have hn0 : wr.cell? ⟨Bn, 0, none⟩ = some (.int .u64 (x : Int)) := cell_of hb rfl
        have hw1 : wheel (2 + 2 * i) = D := by rw [wheel_even, hD]
        have hw2 : wheel (3 + 2 * i) = D + 2 := by rw [wheel_odd, hD]; omega
        have HD := Aside0.mk hD
        clear hD
        have hDD : D * D ≤ 1048600 * 1048600 := Nat.mul_le_mul hDm hDm
        have hDE : (D + 2) * (D + 2) ≤ 1048602 * 1048602 := Nat.mul_le_mul (by omega) (by omega)
        have c1 : ((D * D : Nat) : Int) = (D : Int) * (D : Int) := Int.natCast_mul D D
        have c2 : (((D + 2) * (D + 2) : Nat) : Int) = ((D : Int) + 2) * ((D : Int) + 2) := by simp
        have e1 : IntKind.u64.wrap ((D : Int) * (D : Int)) = (D : Int) * (D : Int) := by
          simp [IntKind.wrap, IntKind.bits, IntKind.signed]; omega
        have e2 : IntKind.u64.wrap ((D : Int) + 2) = (D : Int) + 2 := by
          simp [IntKind.wrap, IntKind.bits, IntKind.signed]; omega
        have e3 : IntKind.u64.wrap (((D : Int) + 2) * ((D : Int) + 2)) = ((D : Int) + 2) * ((D : Int) + 2) := by
          simp [IntKind.wrap, IntKind.bits, IntKind.signed]; omega
        have e4 : IntKind.u64.wrap ((D : Int) + 6) = (D : Int) + 6 := by
          simp [IntKind.wrap, IntKind.bits, IntKind.signed]; omega
        by_cases hd : D * D ≤ x
        · have hdz : decide ((D : Int) * (D : Int) ≤ (x : Int)) = true := decide_eq_true (by omega)
          have hlt : 2 + 2 * i < m := hm.lt (by rw [hw1]; exact hd)
          obtain rfl : k = 2 + 2 * i := by omega
          have hDs : D < 1048576 := by
            rcases Nat.lt_or_ge D 1048576 with h | h
            · exact h
            · have := Nat.mul_le_mul h h
              omega
          obtain ⟨fn, tmps, assign, body, hy, hR⟩ := hY _ (wheelS (2 + 2 * i)) wr hJs (by rw [uptoW_length]; exact hlt)
          rw [show (wheelS (2 + 2 * i)).1 = (D : Int) from by rw [← hw1]; rfl] at hy
          gi_wp2
          refine hR.mono ?_
          rintro e W3 (⟨rfl, hJ3, hk3⟩ | ⟨rfl, hJx3⟩)
          · have hb3 := hk3 _ _ _ _ hb
            have hn3 : W3.cell? ⟨Bn, 0, none⟩ = some (.int .u64 (x : Int)) := cell_of hb3 rfl
            have hJ3' : J (uptoW (3 + 2 * i)) W3 := by
              rw [show 3 + 2 * i = 2 + 2 * i + 1 from by omega, uptoW_succ]; exact hJ3
            clear hn0 hy hR
            by_cases hd2 : (D + 2) * (D + 2) ≤ x
            · have hdz2 : decide (((D : Int) + 2) * ((D : Int) + 2) ≤ (x : Int)) = true := decide_eq_true (by omega)
              have hlt2 : 3 + 2 * i < m := hm.lt (by rw [hw2]; exact hd2)
              obtain ⟨fn2, tmps2, assign2, body2, hy2, hR2⟩ := hY _ (wheelS (3 + 2 * i)) W3 hJ3' (by rw [uptoW_length]; exact hlt2)
              rw [show (wheelS (3 + 2 * i)).1 = (D : Int) + 2 from by show ((wheel (3 + 2 * i) : Nat) : Int) = _; rw [hw2]; simp] at hy2
              gi_wp2
              refine hR2.mono ?_
              rintro e W4 (⟨rfl, hJ4, hk4⟩ | ⟨rfl, hJx4⟩)
              · gi_wp2
                refine ⟨?_, ?measure⟩
                iterate 28 (apply Exists.intro)
                refine ⟨?rel, rfl⟩
                case rel => exact ⟨D + 6, i + 1, 4 + 2 * i, by simp, by have := HD.out; omega, by omega, by omega, Or.inl (by omega), by rw [show 4 + 2 * i = 3 + 2 * i + 1 from by omega, uptoW_succ]; exact hJ4, hk4 _ _ _ _ hb3⟩
                case measure => simp [intOf]; omega
              · gi_wp2
                refine bodyPost_ret (results_none rfl _ _ _) rfl ?_
                exact ⟨⟨_, rfl⟩, .inr ⟨_, ⟨3 + 2 * i + 1, by omega, by rw [uptoW_succ]⟩, hJx4⟩⟩
            · have hdz2 : decide (((D : Int) + 2) * ((D : Int) + 2) ≤ (x : Int)) = false := decide_eq_false (by omega)
              have hge2 : m ≤ 3 + 2 * i := hm.ge (by rw [hw2]; omega)
              gi_wp2
              refine ⟨fun _ h => (by cases h), ?_⟩
              gi_wp2
              refine ⟨?_, ?measure⟩
              iterate 28 (apply Exists.intro)
              refine ⟨?rel, rfl⟩
              case rel => exact ⟨D + 6, i + 1, 3 + 2 * i, by simp, by have := HD.out; omega, by omega, by omega, Or.inr ⟨by omega, by omega⟩, hJ3', hb3⟩
              case measure => simp [intOf]; omega
          · gi_wp2
            · exfalso
              have hq_ : ∃ b, some undef = some (Value.bool b) := ⟨_, by assumption⟩
              obtain ⟨b, hq_⟩ := hq_
              simp [undef] at hq_
            · exfalso
              have hq_ : ∃ b, some undef = some (Value.bool b) := ⟨_, by assumption⟩
              obtain ⟨b, hq_⟩ := hq_
              simp [undef] at hq_
            refine ⟨fun _ h => (by cases h), ?_⟩
            gi_wp2
            refine bodyPost_ret (results_none rfl _ _ _) rfl ?_
            exact ⟨⟨_, rfl⟩, .inr ⟨_, ⟨2 + 2 * i + 1, by omega, by rw [uptoW_succ]⟩, hJx3⟩⟩
        · have hdz : decide ((D : Int) * (D : Int) ≤ (x : Int)) = false := decide_eq_false (by omega)
          have hge : m ≤ 2 + 2 * i := hm.ge (by rw [hw1]; omega)
          obtain rfl : k = m := by omega
          gi_wp2
          go_end0
          first | exact ⟨⟨_, rfl⟩, .inl ⟨_, rfl, hJs⟩⟩ | exact ⟨⟨_, rfl⟩, .inl hJs⟩ | exact .inl hJs
def leastV (x : Nat) : Nat := ((List.range (x + 1)).find? fun d => decide (2 ≤ d ∧ d * d ≤ x ∧ x % d = 0)).getD x
theorem find_range {p : Nat → Bool} (k : Nat) : ∀ n : Nat, k < n → p k = true → (∀ j, j < k → p j = false) → (List.range n).find? p = some k := by
  intro n
  induction n with
  | zero => intro h; omega
  | succ n ih =>
    intro h hp hn
    rw [List.range_succ, List.find?_append]
    by_cases e : k = n
    · subst e
      have : (List.range k).find? p = none := by
        rw [List.find?_eq_none]
        intro j hj
        have := hn j (List.mem_range.1 hj)
        simp [this]
      rw [this]
      simp [hp]
    · rw [ih (by omega) hp hn]
      rfl
theorem leastV_none {x : Nat} (h : ∀ d, 2 ≤ d → d * d ≤ x → x % d ≠ 0) : leastV x = x := by
  unfold leastV
  have : (List.range (x + 1)).find? (fun d => decide (2 ≤ d ∧ d * d ≤ x ∧ x % d = 0)) = none := by
    rw [List.find?_eq_none]
    intro d _
    simp only [decide_eq_true_eq]
    rintro ⟨h1, h2, h3⟩
    exact h d h1 h2 h3
  rw [this]
  rfl
theorem leastV_some {x d : Nat} (h1 : 2 ≤ d) (h2 : d * d ≤ x) (h3 : x % d = 0) (h : ∀ j, 2 ≤ j → j < d → x % j ≠ 0) : leastV x = d := by
  unfold leastV
  have hdx : d ≤ d * d := Nat.le_mul_of_pos_left d (by omega)
  rw [find_range d (x + 1) (by omega) (by simp only [decide_eq_true_eq]; exact ⟨h1, h2, h3⟩) (fun j hj => ?_)]
  · rfl
  · simp only [decide_eq_false_iff_not]
    rintro ⟨a1, a2, a3⟩
    exact h j a1 hj a3
theorem wheel_div {x d : Nat} (h1 : 2 ≤ d) (h3 : x % d = 0) : ∃ i, wheel i ≤ d ∧ x % wheel i = 0 := by
  have hd : d ∣ x := Nat.dvd_of_mod_eq_zero h3
  by_cases e2 : d % 2 = 0
  · refine ⟨0, h1, ?_⟩
    exact Nat.mod_eq_zero_of_dvd (Nat.dvd_trans (Nat.dvd_of_mod_eq_zero e2) hd)
  · by_cases e3 : d % 3 = 0
    · refine ⟨1, ?_, ?_⟩
      · show 3 ≤ d
        omega
      · exact Nat.mod_eq_zero_of_dvd (Nat.dvd_trans (Nat.dvd_of_mod_eq_zero e3) hd)
    · have h6 : d % 6 = 1 ∨ d % 6 = 5 := by omega
      rcases h6 with h6 | h6
      · refine ⟨3 + 2 * (d / 6 - 1), ?_, ?_⟩ <;> rw [wheel_odd, show 7 + 6 * (d / 6 - 1) = d from by omega]
        · exact Nat.le_refl _
        · exact h3
      · refine ⟨2 + 2 * (d / 6), ?_, ?_⟩ <;> rw [wheel_even, show 5 + 6 * (d / 6) = d from by omega]
        · exact Nat.le_refl _
        · exact h3
theorem least_all {x m : Nat} (hm : Many x m) (h : ∀ i, i < m → x % wheel i ≠ 0) : leastV x = x := by
  refine leastV_none (fun d h1 h2 h3 => ?_)
  obtain ⟨i, hi, hx⟩ := wheel_div h1 h3
  have h4 := Nat.mul_le_mul hi hi
  exact h i (hm.lt (by omega)) hx
theorem least_at {x m k : Nat} (hm : Many x m) (hk : k < m) (h : ∀ i, i < k → x % wheel i ≠ 0) (hx : x % wheel k = 0) : leastV x = wheel k := by
  refine leastV_some (wheel_two k) (hm.1 k hk) hx (fun j h1 h2 h3 => ?_)
  obtain ⟨i, hi, hx⟩ := wheel_div h1 h3
  refine h i ?_ hx
  rcases Nat.lt_or_ge i k with h | h
  · exact h
  · have := wheel_le h
    omega
theorem cell_of_box_l {W : World} {B : Nat} {v : Value} {t : TypeId} (h : W.heap[B]? = some (.cells #[v] t (0, 0))) : W.cell? ⟨B, 0, none⟩ = some v ∧ W.frozen? ⟨B, 0, none⟩ = false := by
  constructor <;> simp [World.cell?, World.frozen?, h]
theorem cell_new_l (W : World) (v : Value) (t : TypeId) : (W.alloc (.cells #[v] t)).cell? ⟨W.heap.size, 0, none⟩ = some v ∧ (W.alloc (.cells #[v] t)).frozen? ⟨W.heap.size, 0, none⟩ = false :=
  cell_of_box_l (World.alloc_heap_new W _)
theorem cell_alloc_l {W : World} {a : Addr} {v : Value} (o : Obj) (h : W.cell? a = some v) : (W.alloc o).cell? a = some v := cell_kept h (World.grownBy_alloc W o none) (fun r e => by cases e)
theorem frozen_alloc_l {W : World} {a : Addr} {v : Value} (o : Obj) (h : W.cell? a = some v) (hf : W.frozen? a = false) : (W.alloc o).frozen? a = false := (frozen_kept h (World.grownBy_alloc W o none) (fun r e => by cases e)).trans hf
theorem divisors_stops (F : Fence) (n : Nat) (h6 : F.fn 148) (hro : F.round = none) (hn : 1 ≤ n) (Bn : Nat) (x m : Nat) (hx : x < 1099511627776) (hm : Many x m) (w : World) (hc : w.heap[Bn]? = some (.cells #[.int .u64 (x : Int)] 30 (0, 0))) :
    SeqStopsK F n Try.prog 148 #[.pointer (some ⟨Bn, 0, none⟩)] (fun y : Wn => #[Value.int .u64 y.1]) KeepsCells (fun ys => ys = uptoW m) (fun pre => ∃ k, k ≤ m ∧ pre = uptoW k) m w := fun l J Jx W hW hJ _ hY h0 =>
  divisors1.calls F n h6 hro hn l Bn x m hx hm J Jx hY W hJ ((hW.block Bn (Array.getElem?_eq_some_iff.1 hc).1).trans hc) h0
set_option maxRecDepth 100000 in
set_option maxHeartbeats 2000000 in
theorem least_in (F : Fence) (n : Nat) (h4 : F.fn 52) (h5 : F.fn 110) (h6 : F.fn 148) (hro : F.round = none) (hn : 3 ≤ n) (x : Nat) (hx : x < 1099511627776) (w : World) :
    CallsIn F n Try.prog 52 #[.int .u64 (x : Int)] w fun e W' => e = .returned (.int .u64 ((leastV x : Nat) : Int)) ∧ Below w.heap.size w W' := by
  have h1 : 1 ≤ n := by omega
  obtain ⟨m, hm⟩ := many_ex x
  refine callsIn_of_wp_marks Try.func52 rfl h4 ?_ hro
  simp only [Try.ntmps52, List.size_toArray, List.length_cons, List.length_nil, Nat.reduceAdd, Nat.reduceSub, Array.replicate_succ, Array.replicate_zero, List.push_toArray, List.append_toArray, List.nil_append, List.cons_append]
  have c0 := cell_new_l w (.int .u64 (x : Int)) 30
  have hq0 := cell_alloc_l (.cells #[.int .u64 0] 30) c0.1
  gi_wp2_with (gi_at_call 110; refine (divisors.calls F (n - 1) h5 hro _ _).mono ?_; rintro e w' ⟨rfl, rfl⟩)
  clear hq0
  have c1 := cell_new_l (w.alloc (.cells #[.int .u64 (x : Int)] 30)) (.int .u64 0) 30
  have c2 := World.alloc_heap_new ((w.alloc (.cells #[.int .u64 (x : Int)] 30)).alloc (.cells #[.int .u64 0] 30)) (.cells #[.int .u64 (x : Int)] 30)
  simp only [World.size_alloc] at c1 c2
  have hB0 : Below w.heap.size w (((w.alloc (.cells #[.int .u64 (x : Int)] 30)).alloc (.cells #[.int .u64 0] 30)).alloc (.cells #[.int .u64 (x : Int)] 30)) := (((Below.refl _ w).alloc (Nat.le_refl _) _).alloc (by simp) _).alloc (by simp; omega) _
  refine wpIn_rangeFunc_ownF hro h1 (gf := 148) (lb := #[.pointer (some ⟨w.heap.size + 1 + 1, 0, none⟩)]) rfl h6 (enters_of Try.func148 (by kernel_rfl) rfl)
    (divisors_stops F (n - 1) h6 hro (by omega) (w.heap.size + 1 + 1) x m hx hm _ c2) KeepsCells.t KeepsCells.b (Below.refl _ _) (fun _ => rfl)
    (fun pre W => ((∀ y ∈ pre, (x : Int) % y.1 ≠ 0) ∧ W.cell? ⟨w.heap.size, 0, none⟩ = some (.int .u64 (x : Int)) ∧ W.cell? ⟨w.heap.size + 1, 0, none⟩ = some (.int .u64 0) ∧ W.frozen? ⟨w.heap.size + 1, 0, none⟩ = false) ∧ Below w.heap.size w W)
    (fun c pre W => (c = .ret ∧ ∃ (p0 : List Wn) (y : Wn), pre = p0 ++ [y] ∧ (∀ z ∈ p0, (x : Int) % z.1 ≠ 0) ∧ (x : Int) % y.1 = 0 ∧ W.cell? ⟨w.heap.size + 1, 0, none⟩ = some (.int .u64 y.1)) ∧ Below w.heap.size w W)
    (OwnFrom.and (Own.from (fun s A B row hs hg hr => ⟨hs.1, cell_kept hs.2.1 hg hr, cell_kept hs.2.2.1 hg hr, (frozen_kept hs.2.2.1 hg hr).trans hs.2.2.2⟩) _) (ownFrom_below (Nat.le_refl _) (by simp; omega)))
    (fun c => OwnFrom.and (Own.from (fun s A B row hs hg hr => by obtain ⟨q1, p0, y, q2, q3, q4, q5⟩ := hs; exact ⟨q1, p0, y, q2, q3, q4, cell_kept q5 hg hr⟩) _) (ownFrom_below (Nat.le_refl _) (by simp; omega)))
    ⟨⟨by simp, cell_alloc_l _ (cell_alloc_l _ c0.1), cell_alloc_l _ c1.1, frozen_alloc_l _ c1.1 c1.2⟩, hB0⟩
    (fun y => { tmps := #[.int .u64 (x : Int), .pointer (some ⟨w.heap.size, 0, none⟩), .pointer (some ⟨w.heap.size + 1, 0, none⟩), .int .u64 y.1, .int .u64 (x : Int), .func (.func 148) #[] #[.pointer (some ⟨w.heap.size + 1 + 1, 0, none⟩)], .int .u64 y.1, undef, undef, undef, undef, undef, undef], defers := [] }) ?assign ?body ?done ?stop
  case assign =>
    intro l y W K hK
    gi_wp2
    exact hK
  case body =>
    rintro l pre ⟨y, hy2⟩ W ⟨⟨hp, hcw, hcr, hfr⟩, hB⟩ _
    have hy0 : (y == 0) = false := by simp; omega
    have hy1 : ¬ y = 0 := by omega
    gi_wp2
    · rename_i hxy
      have hxy' : (x : Int) % y = 0 := eq_of_beq hxy
      exact ⟨KeepsOthers.setCell _ _ _, ⟨rfl, pre, ⟨y, hy2⟩, rfl, hp, hxy', World.cell?_setCell_same' _ _ _ (by rw [hcr]; rfl)⟩, hB.setCell (p := ⟨w.heap.size + 1, 0, none⟩) (by simp) _⟩
    · rename_i hxy
      have hxy' : (x : Int) % y ≠ 0 := by simpa using hxy
      exact ⟨KeepsOthers.refl _, KeepsCells.refl _, ⟨fun z hz => (List.mem_append.1 hz).elim (hp z) (fun e => by simp at e; subst e; exact hxy'), hcw, hcr, hfr⟩, hB⟩
  case done =>
    rintro D ys W hD rfl ⟨⟨hne, hcw, hcr, hfr⟩, hB⟩ hK
    have hleast : leastV x = x := least_all hm (fun i hi h => hne (wheelS i) (List.mem_map.2 ⟨i, List.mem_range.2 hi, rfl⟩) (by
      show (x : Int) % ((wheel i : Nat) : Int) = 0
      omega))
    gi_wp2
    rw [hleast]
    have hK' := (KeepsOthers.setCell W ⟨w.heap.size + 1, 0, none⟩ (.int .u64 (x : Int))).same D _ hK rfl
    refine ⟨by simp, .inl ⟨_, _, rfl, run_takeDeferred hK', ?_⟩⟩
    have hc5 := cell_kept (World.cell?_setCell_same' W ⟨w.heap.size + 1, 0, none⟩ (.int .u64 (x : Int)) (by rw [hcr]; rfl)) (grownBy_putObj' _ D (.deferred none)) (fun r e => by cases e; exact ⟨_, hK', rfl⟩)
    refine ⟨.int .u64 (x : Int), ?_, rfl, (hB.setCell (p := ⟨w.heap.size + 1, 0, none⟩) (by simp) _).trans (belowK_b (w := w) (Nat.le_refl _) _ D _ _ (by simp at hD; omega) hK' rfl rfl)⟩
    simp [results, Try.f52, go_sem, hc5]
  case stop =>
    rintro D c pre W hD ⟨k, hkm, hpre⟩ ⟨⟨rfl, p0, y, hpy, hp0, hy, hcr⟩, hB⟩ hK
    have hk : ∃ k', k = k' + 1 ∧ p0 = uptoW k' ∧ y = wheelS k' := by
      cases k with
      | zero =>
        rw [hpre] at hpy
        have := congrArg List.length hpy
        simp [uptoW] at this
      | succ k' =>
        rw [hpre, uptoW_succ] at hpy
        obtain ⟨e1, e2⟩ := List.append_inj' hpy rfl
        exact ⟨k', rfl, e1.symm, by simpa using e2.symm⟩
    obtain ⟨k', rfl, rfl, rfl⟩ := hk
    have hleast : leastV x = wheel k' := least_at hm (by omega) (fun i hi h => hp0 (wheelS i) (List.mem_map.2 ⟨i, List.mem_range.2 hi, rfl⟩) (by
      show (x : Int) % ((wheel i : Nat) : Int) = 0
      omega)) (by
      have : (x : Int) % ((wheel k' : Nat) : Int) = 0 := hy
      omega)
    gi_wp2
    rw [hleast]
    refine ⟨by simp, .inl ⟨_, _, rfl, run_takeDeferred hK, ?_⟩⟩
    have hc5 := cell_kept hcr (grownBy_putObj' _ D (.deferred none)) (fun r e => by cases e; exact ⟨_, hK, rfl⟩)
    refine ⟨.int .u64 ((wheel k' : Nat) : Int), ?_, rfl, hB.trans (belowK_b (w := w) (Nat.le_refl _) W D _ _ (by simp at hD; omega) hK rfl rfl)⟩
    have hc6 : (W.putObj D (.deferred none)).cell? ⟨w.heap.size + 1, 0, none⟩ = some (.int .u64 ((wheel k' : Nat) : Int)) := hc5
    simp [results, Try.f52, go_sem, hc6]
def prime_least.f (x : Int) : Option Int := if 0 ≤ x ∧ x < 1099511627776 then some ((leastV x.toNat : Nat) : Int) else none
theorem prime_least.calls (a0 : Int) (r : Int) (w : World) (h : prime_least.f a0 = some r) :
    Calls Try.prog 52 #[.int .u64 a0] w fun e w' => e = .returned (.int .u64 r) ∧ Below w.heap.size w w' := by
  unfold prime_least.f at h
  by_cases hx : 0 ≤ a0 ∧ a0 < 1099511627776
  · rw [if_pos hx] at h
    obtain rfl := Option.some.inj h
    have e : a0 = ((a0.toNat : Nat) : Int) := by omega
    have hh := least_in .wide 3 trivial trivial trivial rfl (Nat.le_refl _) a0.toNat (by omega) w
    rw [← e] at hh
    exact (callsIn_wide (n := 3)).1 hh
  · rw [if_neg hx] at h
    cases h
end Go.Proofs.Ytkgaejigpmkfkaa.F
end
section
namespace Go.Proofs.Ytkgaejigpmkfkaa.F
open Go.RowKit Go.Proofs.YtkgaejigpmkfkaaW.PrintWords Go.Proofs.YtkgaejigpmkfkaaW.PrintLast Go.Proofs.YtkgaejigpmkfkaaW.PrintMore
set_option linter.unusedVariables false
set_option linter.unusedSimpArgs false
def accV (x : Int) : List Int → Int
  | [] => x
  | c :: l => accV (Go.bits .or .u64 (IntKind.u64.wrap (x * 256)) (IntKind.u64.wrap c)) l
def oddV (z x : Int) : Int := Go.bits .or .u64 (Go.bits .or .u64 (Go.bits .and .u64 x (IntKind.u64.wrap (IntKind.u64.wrap (2 ^ (z.toNat - 1)) - 1))) (IntKind.u64.wrap (2 ^ (z.toNat - 1)))) 1
def search.f (z : Int) : Nat → List Int → Option (Int × Int × List Int)
  | 0, l => some (0, 8, l)
  | t + 1, l => if (l.length : Int) < (z + 7) / 8 then some (0, 7, l) else (prime_least.f (oddV z (accV 0 (l.take ((z + 7) / 8).toNat)))).bind fun q => if q = oddV z (accV 0 (l.take ((z + 7) / 8).toNat)) then some (q, 0, l.drop ((z + 7) / 8).toNat) else search.f z t (l.drop ((z + 7) / 8).toNat)
set_option maxHeartbeats 8000000 in
set_option maxRecDepth 100000 in
theorem search.good (g : Nat) (l : List Int) (z : Int) (n : Nat) (ok : Nat → Prop) (x : Int × Int × List Int) (w : World) (hT : Tp w g ok l) (hg : ¬ ok g) (hz0 : 8 ≤ z) (hz1 : z ≤ 40) (hn0 : 1 ≤ n) (hn1 : n ≤ 10000) (h : search.f z n l = some x) :
    Calls Try.prog 48 #[.pointer (some ⟨g, 0, none⟩), .int .i64 z, .int .i64 (n : Int)] w fun e w' => e = .returned (.tuple #[.int .u64 x.1, .int .i64 x.2.1]) ∧ Tp w' g ok x.2.2 ∧ Stay w w' g := by
  have HT := Aside0.mk hT
  have HH := Aside0.mk h
  have e1 : decide (z < 8) = false := decide_eq_false (by omega)
  have e2 : decide (40 < z) = false := decide_eq_false (by omega)
  have e3 : decide ((n : Int) < 1) = false := decide_eq_false (by omega)
  have e4 : decide ((10000 : Int) < (n : Int)) = false := decide_eq_false (by omega)
  have e5 : (0 : Int) ≤ z - 1 := by omega
  have hm0 : 0 ≤ (z + 7) / 8 := by omega
  have HZ := Aside0.mk (And.intro hz0 hz1)
  clear hT h
  go_enter Try.func48, Try.ntmps48
  go_wp2
  go_loopg [36] n (fun gg v36 wr => ∃ (i : Nat) (l1 : List Int), v36 = .int .i64 (i : Int) ∧ i ≤ n ∧ n - i ≤ gg ∧ Aside0 (search.f z (n - i) l1 = some x) ∧ Aside0 (Tp wr g ok l1) ∧ Aside0 (Stay w wr g))
  case atStart => exact ⟨0, l, rfl, by omega, by omega, HH, HT, ⟨Stay.refl _ _⟩⟩
  case round =>
    obtain ⟨i, l1, rfl, hi, hgg, HK, HT1, HS⟩ := hrel
    by_cases hlt : i < n
    · have hltz : (i : Int) < (n : Int) := by omega
      have hK := HK.out
      rw [show n - i = (n - (i + 1)) + 1 from by omega, search.f] at hK
      by_cases hfew : (l1.length : Int) < (z + 7) / 8
      · rw [if_pos hfew] at hK
        obtain rfl := Option.some.inj hK
        have HFEW := Aside0.mk hfew
        clear HK hfew hK
        go_wp2_with (go_at_call 103; refine (tape_Take.few g l1 _ ok _ HT1.out (by omega) (by omega) HFEW.out).mono ?_; rintro e w' ⟨rfl, rfl⟩)
        go_ret2
        exact ⟨rfl, HT1.out, HS.out⟩
      · rw [if_neg hfew] at hK
        have HFEW := Aside0.mk hfew
        have HLEN := Aside0.mk (show (l1.take ((z + 7) / 8).toNat).length = ((z + 7) / 8).toNat from by rw [List.length_take]; omega)
        generalize hX : l1.take ((z + 7) / 8).toNat = X at hK HLEN
        have HXX := Aside0.mk hX
        obtain ⟨y, hy⟩ : ∃ y, y = oddV z (accV 0 X) := ⟨_, rfl⟩
        rw [← hy] at hK
        have NY := Aside0.mk hy
        obtain ⟨q, hq, hK⟩ := Option.bind_eq_some_iff.mp hK
        have HQ := Aside0.mk hq
        have HK2 := Aside0.mk hK
        clear HK hfew hX hy hq hK
        go_wp2_with (go_at_call 103; refine (tape_Take.calls g l1 ((z + 7) / 8) (fun k => ok k ∧ k < wr.heap.size) _ HT1.out.bound (fun h => hg h.1) (by omega) (by omega) (by have := HFEW.out; omega)).mono ?_; rintro e w2 ⟨v, rfl, hR, hT2, hk1, hk2, hk3, hk4⟩; rw [HXX.out] at hR; obtain ⟨Av, cv, ev⟩ := Kd.R_slice hR; subst ev; have HV := Aside0.mk (Kd.R_reads' hR).2.2; have HT2 := Aside0.mk (hT2.mono (fun k hk => hk.1)); have HS2 := Aside0.mk (HS.out.trans ⟨hk1, hk2, hk3, hk4⟩); clear hR hT2 hk1 hk2 hk3 hk4)
        have HXB := Aside0.mk (show X.length ≤ 5 from by have := HLEN.out; omega)
        go_loopg [11, 51] X.length (fun gg v11 v51 wq => ∃ (j : Nat) (a : Int), v11 = .int .u64 a ∧ v51 = .int .i64 (j : Int) ∧ j ≤ X.length ∧ X.length - j ≤ gg ∧ Aside0 (accV a (X.drop j) = accV 0 X) ∧ wq = w2)
        case atStart => exact ⟨0, 0, rfl, rfl, by omega, by omega, ⟨by rw [List.drop_zero]⟩, rfl⟩
        case round =>
          obtain ⟨j, a, rfl, rfl, hj, hgg2, HA, rfl⟩ := hrel
          by_cases hjl : j < X.length
          · have hjz : (j : Int) < (X.length : Int) := by omega
            have hj0 : (0 : Int) ≤ (j : Int) := by omega
            obtain ⟨ad, hA, hx⟩ := Kd.at_int HV.out (j : Int) hj0 hjz
            subst hA
            simp only [Go.IntWalk.toNatUp] at hx
            have hrd : rd X (j : Int) = X.getD j 0 := rfl
            have hdr : X.drop j = X.getD j 0 :: X.drop (j + 1) := by
              rw [List.drop_eq_getElem_cons hjl, List.getD_eq_getElem?_getD, List.getElem?_eq_getElem hjl]
              rfl
            have hA2 := HA.out
            rw [hdr, accV] at hA2
            rw [hrd] at hx
            generalize X.getD j 0 = c at hx hA2
            have HA3 := Aside0.mk hA2
            clear hrd hdr hA2 HA
            go_wp2
            go_roundg (X.length - (j + 1))
            case measure => omega
            case rel => exact ⟨j + 1, _, rfl, by have h5 := HXB.out; congr 1; unfold wrap64; omega, by omega, by omega, HA3, rfl⟩
          · have hjz : ¬ (j : Int) < (X.length : Int) := by omega
            have HA2 := Aside0.mk (show a = accV 0 X from by have h := HA.out; rw [List.drop_of_length_le (by omega)] at h; exact h)
            clear HA
            have HY2 := Aside0.mk (show Go.bits .or .u64 (Go.bits .or .u64 (Go.bits .and .u64 a (IntKind.u64.wrap (IntKind.u64.wrap (2 ^ (z.toNat - 1)) - 1))) (IntKind.u64.wrap (2 ^ (z.toNat - 1)))) 1 = y from by rw [NY.out, HA2.out]; rfl)
            by_cases hqy : q = y
            · subst hqy
              have hK3 := HK2.out
              rw [if_pos rfl] at hK3
              obtain rfl := Option.some.inj hK3
              clear HK2 hK3
              go_wp2_with (go_at_call 52; rw [HY2.out]; refine (prime_least.calls _ _ _ HQ.out).mono ?_; rintro e w3 ⟨rfl, hb⟩; have HT3 := Aside0.mk (HT2.out.below hb); have HS3 := Aside0.mk (HS2.out.then hb); clear hb)
              go_ret2
              exact ⟨rfl, HT3.out, HS3.out⟩
            · have hK3 := HK2.out
              rw [if_neg hqy] at hK3
              have HK4 := Aside0.mk hK3
              have hqb : (q == y) = false := beq_eq_false_iff_ne.mpr hqy
              clear HK2 hK3 hqy
              go_wp2_with (go_at_call 52; rw [HY2.out]; refine (prime_least.calls _ _ _ HQ.out).mono ?_; rintro e w3 ⟨rfl, hb⟩; have HT3 := Aside0.mk (HT2.out.below hb); have HS3 := Aside0.mk (HS2.out.then hb); clear hb)
              go_roundg (n - (i + 1))
              case measure => omega
              case rel => exact ⟨i + 1, _, by go_num, by omega, by omega, HK4, HT3, HS3⟩
    · have hltz : ¬ (i : Int) < (n : Int) := by omega
      obtain rfl : i = n := by omega
      have hK := HK.out
      rw [Nat.sub_self] at hK
      obtain rfl := Option.some.inj hK
      clear HK hK
      go_wp2
      go_ret2
      exact ⟨rfl, HT1.out, HS.out⟩
set_option maxHeartbeats 8000000 in
set_option maxRecDepth 100000 in
theorem search.bad (p : Option Addr) (z n : Int) (w : World) (h : p = none ∨ z < 8 ∨ 40 < z ∨ n < 1 ∨ 10000 < n) :
    Calls Try.prog 48 #[.pointer p, .int .i64 z, .int .i64 n] w fun e w' => e = .returned (.tuple #[.int .u64 0, .int .i64 1]) ∧ w' = w := by
  have key : p = none ∨ (∃ a, p = some a) ∧ (decide (z < 8) = true ∨ (decide (z < 8) = false ∧ (decide (40 < z) = true ∨ (decide (40 < z) = false ∧ (decide (n < 1) = true ∨ (decide (n < 1) = false ∧ decide (10000 < n) = true)))))) := by
    cases p with
    | none => exact .inl rfl
    | some a =>
      refine .inr ⟨⟨a, rfl⟩, ?_⟩
      have h2 : z < 8 ∨ 40 < z ∨ n < 1 ∨ 10000 < n := by rcases h with h | h; cases h; exact h
      by_cases h3 : z < 8
      · exact .inl (decide_eq_true h3)
      · refine .inr ⟨decide_eq_false h3, ?_⟩
        by_cases h4 : 40 < z
        · exact .inl (decide_eq_true h4)
        · refine .inr ⟨decide_eq_false h4, ?_⟩
          by_cases h5 : n < 1
          · exact .inl (decide_eq_true h5)
          · exact .inr ⟨decide_eq_false h5, decide_eq_true (by omega)⟩
  clear h
  rcases key with rfl | ⟨⟨a, rfl⟩, h | ⟨h, h2 | ⟨h2, h3 | ⟨h3, h4⟩⟩⟩⟩
  all_goals
    go_enter Try.func48, Try.ntmps48
    go_wp2
    go_ret2
    exact ⟨rfl, rfl⟩
def searchF (z n : Int) (l : List Int) : Option (Int × Int × List Int) := if z < 8 ∨ 40 < z ∨ n < 1 ∨ 10000 < n then some (0, 1, l) else search.f z n.toNat l
theorem search.calls (g : Nat) (l : List Int) (z n : Int) (ok : Nat → Prop) (x : Int × Int × List Int) (w : World) (hT : Tp w g ok l) (hg : ¬ ok g) (h : searchF z n l = some x) :
    Calls Try.prog 48 #[.pointer (some ⟨g, 0, none⟩), .int .i64 z, .int .i64 n] w fun e w' => e = .returned (.tuple #[.int .u64 x.1, .int .i64 x.2.1]) ∧ Tp w' g ok x.2.2 ∧ Stay w w' g := by
  unfold searchF at h
  by_cases hb : z < 8 ∨ 40 < z ∨ n < 1 ∨ 10000 < n
  · rw [if_pos hb] at h
    obtain rfl := Option.some.inj h
    refine (search.bad _ z n w (.inr hb)).mono ?_
    rintro e w' ⟨rfl, rfl⟩
    exact ⟨rfl, hT, Stay.refl _ _⟩
  · rw [if_neg hb] at h
    obtain ⟨m, rfl⟩ := Int.eq_ofNat_of_zero_le (show 0 ≤ n by omega)
    rw [Int.toNat_natCast] at h
    exact search.good g l z m ok x w hT hg (by omega) (by omega) (by omega) (by omega) h
end Go.Proofs.Ytkgaejigpmkfkaa.F
end
section
namespace Go.Proofs.Ytkgaejigpmkfkaa.F
open Go.RowKit Go.Proofs.YtkgaejigpmkfkaaW.PrintWords Go.Proofs.YtkgaejigpmkfkaaW.PrintLast Go.Proofs.YtkgaejigpmkfkaaW.PrintMore
attribute [local go_sem] max2_int min2_int max_two min_two max_three min_three max_four min_four
set_option linter.unusedVariables false
set_option linter.unusedSimpArgs false
attribute [local go_sem] sub64_run
def nat_less.l0 : Nat → List Int → List Int → List Int → Int → Int → Int → Option (List Int)
 | 0, _, _, _, _, _, _ => none
 | k + 1, x0, x1, x5, x6, x13, x14 => if x14 < x13 then (if x14 < (x1.length : Int) then (if 0 ≤ x14 then (if x14 < (x0.length : Int) then (if carry01 x6 = true then (if x14 < (x5.length : Int) then (nat_less.l0 k x0 x1 (x5.set (x14 : Int).toNat (sub64_s (rd x0 x14) (rd x1 x14) x6)) (sub64_c (rd x0 x14) (rd x1 x14) x6) x13 (wrap64 (x14 + 1))) else (none)) else (none)) else (none)) else (none)) else (if 0 ≤ x14 then (if x14 < (x0.length : Int) then (if carry01 x6 = true then (if x14 < (x5.length : Int) then (nat_less.l0 k x0 x1 (x5.set (x14 : Int).toNat (sub64_s (rd x0 x14) 0 x6)) (sub64_c (rd x0 x14) 0 x6) x13 (wrap64 (x14 + 1))) else (none)) else (none)) else (none)) else (none))) else (some x5)
def nat_less.f (k : Nat) (l0 : List Int) (l1 : List Int) : Option (List Int) := if 0 ≤ (l0.length : Int) then (if ((l0.length : Int) : Int).toNat ≤ 35184372088832 then (nat_less.l0 k l0 l1 (List.replicate ((l0.length : Int) : Int).toNat 0) 0 (l0.length : Int) 0) else (none)) else (none)
set_option maxHeartbeats 8000000 in
set_option maxRecDepth 100000 in
theorem nat_less.calls (k : Nat) (A0 : Option Addr) (c0 : Nat) (l0 : List Int) (A1 : Option Addr) (c1 : Nat) (l1 : List Int) (r : List Int) (w : World) (hr0 : Kd.C (Kd.int .u64) w A0 l0.length l0) (hc0 : l0.length ≤ c0) (hr1 : Kd.C (Kd.int .u64) w A1 l1.length l1) (hc1 : l1.length ≤ c1) (h : nat_less.f k l0 l1 = some r) :
  Calls Try.prog 139 #[.slice A0 l0.length c0, .slice A1 l1.length c1] w fun e w' => ∃ v0_ : Value, e = .returned (v0_) ∧ Kd.R (Kd.int .u64) 30 w' w.heap.size (fun _ => True) v0_ r ∧ Below w.heap.size w w' := by
 have HR0 := Aside0.mk hr0; have HC0 := Aside0.mk hc0; clear hr0 hc0; have HR1 := Aside0.mk hr1; have HC1 := Aside0.mk hc1; clear hr1 hc1
 have HB := Aside0.mk (Below.refl w.heap.size w)
 have H : (if 0 ≤ (l0.length : Int) then (if ((l0.length : Int) : Int).toNat ≤ 35184372088832 then (nat_less.l0 k l0 l1 (List.replicate ((l0.length : Int) : Int).toNat 0) 0 (l0.length : Int) 0) else (none)) else (none)) = some r := h
 clear h
 replace H := uT H; obtain ⟨c3, H⟩ := H
 have c3b0 := eq_true c3
 have c3b1 : decide (0 ≤ (l0.length : Int)) = true := decide_eq_true c3
 clear c3
 replace H := uT H; obtain ⟨c4, H⟩ := H
 have c4b0 := eq_true c4
 have c4b1 : decide (((l0.length : Int) : Int).toNat ≤ 35184372088832) = true := decide_eq_true c4
 clear c4
 obtain ⟨y149, hy149⟩ : ∃ y_ : List Int, y_ = (List.replicate ((l0.length : Int) : Int).toNat 0) := ⟨_, rfl⟩
 replace H : (nat_less.l0 k l0 l1 y149 0 (l0.length : Int) 0) = some r := by first | (rw [hy149]; with_reducible exact H) | (have H2_ := (Option.bind_some _ _).symm.trans H; rw [hy149]; with_reducible exact H2_) | (have H2_ := (Option.bind_some _ _).symm.trans H; with_reducible exact H2_) | with_reducible exact H | (rw [hy149]; exact H) | exact H
 have Ny149 := Aside0.mk hy149; clear hy149
 have H' := Aside0.mk H
 clear H
 go_enter Try.func139, Try.ntmps139
 go_wp2_with (first | ((with_reducible refine gate_dst (N := 11) rfl ?_); refine Kd.R_make (Kd.int .u64) _ 30 rfl (N := 11) rfl 40 _ _ rfl (l0.length : Int) rfl rfl Try.underlying40 (.int .u64 0) 8 info30 rfl (by decide) (by omega) 0 (ok := fun _ => True) (okp := fun _ => True) rfl (fun _ hk => hk) trivial uO (Nat.le_trans (Nat.mul_le_mul_right _ (uO : (l0.length : Int).toNat ≤ 35184372088832)) (by omega)) (Below.refl _ _) (Nat.le_refl _) ?_; intro v150 w5 ho6 hb hg_ hnew_; clear hg_ hnew_; (first | rw [← Ny149.out] at ho6 | (simp only [Int.reduceToNat] at ho6; rw [← Ny149.out] at ho6)); have HO151 := Aside0.mk (Kd.R_lower ho6 (below_size uB)); replace HB := uy hb; clear hb ho6))
 go_loopg [6, 14] k (fun kq v6 v14 w' => ∃ (x5_1 : List Int) (x6_1 : Int) (x14_1 : Int), v6 = .int .u64 x6_1 ∧ v14 = .int .i64 x14_1 ∧ Aside0 (nat_less.l0 kq l0 l1 x5_1 x6_1 (l0.length : Int) x14_1 = some r) ∧ Aside0 (kq ≤ k) ∧ Aside0 (Kd.R (Kd.int .u64) 30 w' w.heap.size (fun _ => True) v150 x5_1) ∧ Aside0 (Below w.heap.size w w'))
 case atStart => exact ⟨(y149), (0), (0), uG, uG, H', ⟨Nat.le_refl _⟩, ⟨uR HO151.out⟩, ⟨uB⟩⟩
 case round =>
  clear H'
  (try clear c1); (try clear p2); (try clear c3); (try clear c3b0); (try clear c3b1); (try clear c4); (try clear c4b0); (try clear c4b1)
  obtain ⟨x5_1, x6_1, x14_1, rfl, rfl, HA, HK1, HO_5, HB⟩ := hrel
  cases gk with
  | zero => exact absurd HA.out (by simp [nat_less.l0])
  | succ k1 =>
   have H := HA.out
   clear HA
   simp only [nat_less.l0] at H
   by_cases c7 : x14_1 < (l0.length : Int)
   ·
    rw [if_pos c7] at H
    have c7b0 : decide (x14_1 < (l0.length : Int)) = true := decide_eq_true c7
    clear c7
    by_cases c8 : x14_1 < (l1.length : Int)
    ·
     rw [if_pos c8] at H
     have c8b0 : decide (x14_1 < (l1.length : Int)) = true := decide_eq_true c8
     clear c8
     replace H := uT H; obtain ⟨c9, H⟩ := H
     have c9b0 : decide (0 ≤ x14_1) = true := decide_eq_true c9
     clear c9
     replace H := uT H; obtain ⟨c10, H⟩ := H
     have c10b0 : decide (x14_1 < (l0.length : Int)) = true := decide_eq_true c10
     clear c10
     replace H := uT H; obtain ⟨c11, H⟩ := H
     have c11b0 : carry01 x6_1 = true := c11
     clear c11
     replace H := uT H; obtain ⟨c12, H⟩ := H
     have c12b0 : decide (x14_1 < (x5_1.length : Int)) = true := decide_eq_true c12
     clear c12
     obtain ⟨y154, hy154⟩ : ∃ y_ : List Int, y_ = (x5_1.set (x14_1 : Int).toNat (sub64_s (rd l0 x14_1) (rd l1 x14_1) x6_1)) := ⟨_, rfl⟩
     replace H : (nat_less.l0 k1 l0 l1 y154 (sub64_c (rd l0 x14_1) (rd l1 x14_1) x6_1) (l0.length : Int) (wrap64 (x14_1 + 1))) = some r := by first | (rw [hy154]; with_reducible exact H) | (have H2_ := (Option.bind_some _ _).symm.trans H; rw [hy154]; with_reducible exact H2_) | (have H2_ := (Option.bind_some _ _).symm.trans H; with_reducible exact H2_) | with_reducible exact H | (rw [hy154]; exact H) | exact H
     have Ny154 := Aside0.mk hy154; clear hy154
     have H' := Aside0.mk H
     clear H
     have p152 : 0 ≤ (x14_1 : Int) := uO
     have q152 : x14_1 < (l1.length : Int) := uO
     obtain ⟨ad152, e152, hx152_0⟩ := Kd.at_int HR1.out x14_1 p152 q152
     cases e152
     replace hx152_0 := (HB.out.cell (World.block_lt_of_cell? w _ hx152_0)).trans hx152_0
     replace p152 := eq_true p152
     replace q152 := eq_true q152
     have p153 : 0 ≤ (x14_1 : Int) := uO
     have q153 : x14_1 < (l0.length : Int) := uO
     obtain ⟨ad153, e153, hx153_0⟩ := Kd.at_int HR0.out x14_1 p153 q153
     cases e153
     replace hx153_0 := (HB.out.cell (World.block_lt_of_cell? w _ hx153_0)).trans hx153_0
     replace p153 := eq_true p153
     replace q153 := eq_true q153
     have p13 : 0 ≤ (x14_1 : Int) := uO
     have q13 : (x14_1 : Int) < ((x5_1.length : Int) : Int) := uO
     obtain ⟨go13, co13, eo13, gb13, gl13, cl13, HG13⟩ := Kd.R_form HO_5.out (by omega)
     (first | cases eo13 | (injection eo13 with ea_ en_ ec_; (first | subst ea_ | (injection ea_ with ea_; subst ea_)); subst ec_; clear en_))
     have GB13 := Aside0.mk gb13; have GG13 := Aside0.mk HG13; clear gb13 gl13 HG13
     obtain ⟨hx13_0, hf13_0⟩ := Kd.R_celln 0 HO_5.out (x14_1 : Int) p13 q13
     replace p13 := eq_true p13
     replace q13 := eq_true q13
     have HP14 := Kd.R_putg HO_5.out (x14_1 : Int) (sub64_s (rd l0 x14_1) (rd l1 x14_1) x6_1)
     go_wp2_with (first | ((with_reducible refine gate_store (t := 30) (p := 37) rfl ?_); refine store_event (t := 30) (p := 37) (v := ?vo_w15) (w1 := (wr.setCell ⟨go13, (x14_1 : Int).toNat, none⟩ (.int .u64 (sub64_s (rd l0 x14_1) (rd l1 x14_1) x6_1)))) ?hg ?ho ?hn ?hr ?_; (case ho => rfl); (case hg => rfl); (case hn => rfl); (case hr => first | (go_simp; done) | (go_simp; rfl) | (obtain ⟨hy_, hz_⟩ := Kd.R_celln 0 HO_5.out (x14_1 : Int) uO uO; (try simp only [Go.IntWalk.toNatUp] at hy_ hz_); (try simp only [Int.reduceToNat, Int.toNat_zero, Int.toNat_ofNat] at hy_ hz_); first | (go_simp; done) | (go_simp; rfl))); intro w15 hw; have hg : wr.grownBy w15 (some go13) := (by rw [hw]; exact HP14.2); have hp_ : Kd.R (Kd.int .u64) 30 w15 w.heap.size (fun _ => True) (.slice (some ⟨go13, 0, none⟩) x5_1.length co13) y154 := (by rw [hw, Ny154.out]; exact HP14.1); clear HP14; replace HO_5 := Aside0.mk (hp_); replace HB := Aside0.mk ((by rw [hw]; exact below_set (HB.out) GB13.out : Below w.heap.size w w15)); clear hg hw hp_))
     go_roundg k1
     case measure => have := HK1.out; omega
     case rel => exact ⟨(y154), (sub64_c (rd l0 x14_1) (rd l1 x14_1) x6_1), (wrap64 (x14_1 + 1)), uG, uG, H', ⟨by have := HK1.out; omega⟩, ⟨uR HO_5.out⟩, ⟨uB⟩⟩
    rw [if_neg c8] at H
    have c8b0 : decide (x14_1 < (l1.length : Int)) = false := decide_eq_false c8
    clear c8
    replace H := uT H; obtain ⟨c16, H⟩ := H
    have c16b0 : decide (0 ≤ x14_1) = true := decide_eq_true c16
    clear c16
    replace H := uT H; obtain ⟨c17, H⟩ := H
    have c17b0 : decide (x14_1 < (l0.length : Int)) = true := decide_eq_true c17
    clear c17
    replace H := uT H; obtain ⟨c18, H⟩ := H
    have c18b0 : carry01 x6_1 = true := c18
    clear c18
    replace H := uT H; obtain ⟨c19, H⟩ := H
    have c19b0 : decide (x14_1 < (x5_1.length : Int)) = true := decide_eq_true c19
    clear c19
    obtain ⟨y156, hy156⟩ : ∃ y_ : List Int, y_ = (x5_1.set (x14_1 : Int).toNat (sub64_s (rd l0 x14_1) 0 x6_1)) := ⟨_, rfl⟩
    replace H : (nat_less.l0 k1 l0 l1 y156 (sub64_c (rd l0 x14_1) 0 x6_1) (l0.length : Int) (wrap64 (x14_1 + 1))) = some r := by first | (rw [hy156]; with_reducible exact H) | (have H2_ := (Option.bind_some _ _).symm.trans H; rw [hy156]; with_reducible exact H2_) | (have H2_ := (Option.bind_some _ _).symm.trans H; with_reducible exact H2_) | with_reducible exact H | (rw [hy156]; exact H) | exact H
    have Ny156 := Aside0.mk hy156; clear hy156
    have H' := Aside0.mk H
    clear H
    have p155 : 0 ≤ (x14_1 : Int) := uO
    have q155 : x14_1 < (l0.length : Int) := uO
    obtain ⟨ad155, e155, hx155_0⟩ := Kd.at_int HR0.out x14_1 p155 q155
    cases e155
    replace hx155_0 := (HB.out.cell (World.block_lt_of_cell? w _ hx155_0)).trans hx155_0
    replace p155 := eq_true p155
    replace q155 := eq_true q155
    have p20 : 0 ≤ (x14_1 : Int) := uO
    have q20 : (x14_1 : Int) < ((x5_1.length : Int) : Int) := uO
    obtain ⟨go20, co20, eo20, gb20, gl20, cl20, HG20⟩ := Kd.R_form HO_5.out (by omega)
    (first | cases eo20 | (injection eo20 with ea_ en_ ec_; (first | subst ea_ | (injection ea_ with ea_; subst ea_)); subst ec_; clear en_))
    have GB20 := Aside0.mk gb20; have GG20 := Aside0.mk HG20; clear gb20 gl20 HG20
    obtain ⟨hx20_0, hf20_0⟩ := Kd.R_celln 0 HO_5.out (x14_1 : Int) p20 q20
    replace p20 := eq_true p20
    replace q20 := eq_true q20
    have HP21 := Kd.R_putg HO_5.out (x14_1 : Int) (sub64_s (rd l0 x14_1) 0 x6_1)
    go_wp2_with (first | ((with_reducible refine gate_store (t := 30) (p := 37) rfl ?_); refine store_event (t := 30) (p := 37) (v := ?vo_w22) (w1 := (wr.setCell ⟨go20, (x14_1 : Int).toNat, none⟩ (.int .u64 (sub64_s (rd l0 x14_1) 0 x6_1)))) ?hg ?ho ?hn ?hr ?_; (case ho => rfl); (case hg => rfl); (case hn => rfl); (case hr => first | (go_simp; done) | (go_simp; rfl) | (obtain ⟨hy_, hz_⟩ := Kd.R_celln 0 HO_5.out (x14_1 : Int) uO uO; (try simp only [Go.IntWalk.toNatUp] at hy_ hz_); (try simp only [Int.reduceToNat, Int.toNat_zero, Int.toNat_ofNat] at hy_ hz_); first | (go_simp; done) | (go_simp; rfl))); intro w22 hw; have hg : wr.grownBy w22 (some go20) := (by rw [hw]; exact HP21.2); have hp_ : Kd.R (Kd.int .u64) 30 w22 w.heap.size (fun _ => True) (.slice (some ⟨go20, 0, none⟩) x5_1.length co20) y156 := (by rw [hw, Ny156.out]; exact HP21.1); clear HP21; replace HO_5 := Aside0.mk (hp_); replace HB := Aside0.mk ((by rw [hw]; exact below_set (HB.out) GB20.out : Below w.heap.size w w22)); clear hg hw hp_))
    go_roundg k1
    case measure => have := HK1.out; omega
    case rel => exact ⟨(y156), (sub64_c (rd l0 x14_1) 0 x6_1), (wrap64 (x14_1 + 1)), uG, uG, H', ⟨by have := HK1.out; omega⟩, ⟨uR HO_5.out⟩, ⟨uB⟩⟩
   rw [if_neg c7] at H
   have c7b0 : decide (x14_1 < (l0.length : Int)) = false := decide_eq_false c7
   clear c7
   obtain rfl := Option.some.inj H
   go_wp2
   go_ret
   exact ⟨_, uF, uR HO_5.out, uB⟩
end Go.Proofs.Ytkgaejigpmkfkaa.F
end
section
namespace Go.Proofs.Ytkgaejigpmkfkaa.F
open Go.RowKit Go.Proofs.YtkgaejigpmkfkaaW.PrintWords Go.Proofs.YtkgaejigpmkfkaaW.PrintLast Go.Proofs.YtkgaejigpmkfkaaW.PrintMore
attribute [local go_sem] max2_int min2_int max_two min_two max_three min_three max_four min_four
set_option linter.unusedVariables false
set_option linter.unusedSimpArgs false
def nat_Sub.f (k : Nat) (l0 : List Int) (l1 : List Int) : Option (List Int × Int) := (nat_right.f (([l0, l1] : List (List Int)))).bind fun t572 => (if t572 = true then ((nat_compare.f k l0 l1).bind fun t573 => (if t573 < 0 then (some (([] : List Int), 2)) else ((nat_less.f k l0 l1).bind fun t574 => ((nat_told.f k t574).bind fun bt577 => (some (bt577.1, bt577.2)))))) else (some (([] : List Int), 1)))
def prime_Check_1.f (a0 : Int) : Option (Bool) := if a0 < 128 then (some true) else (if a0 ≥ 1099511627776 then (some true) else ((prime_least.f a0).bind fun t173 => (some (t173 != a0))))
set_option maxHeartbeats 8000000 in
set_option maxRecDepth 100000 in
theorem prime_Check_1.calls (a0 : Int) (r : Bool) (w : World) (h : prime_Check_1.f a0 = some r) :
  Calls Try.prog 51 #[.int .u64 a0] w fun e w' => e = .returned (.bool r) ∧ Below w.heap.size w w' := by
 have HB := Aside0.mk (Below.refl w.heap.size w)
 have H : (if a0 < 128 then (some true) else (if a0 ≥ 1099511627776 then (some true) else ((prime_least.f a0).bind fun t173 => (some (t173 != a0))))) = some r := h
 clear h
 by_cases c2 : a0 < 128
 ·
  rw [if_pos c2] at H
  have c2b0 : decide (a0 < 128) = true := decide_eq_true c2
  clear c2
  obtain rfl := Option.some.inj H
  go_enter Try.func51, Try.ntmps51
  go_wp2
  go_ret
  exact ⟨uF, uB⟩
 rw [if_neg c2] at H
 have c2b0 : decide (a0 < 128) = false := decide_eq_false c2
 clear c2
 by_cases c3 : a0 ≥ 1099511627776
 ·
  rw [if_pos c3] at H
  have c3b0 : decide (1099511627776 ≤ a0) = true := decide_eq_true c3
  clear c3
  obtain rfl := Option.some.inj H
  go_enter Try.func51, Try.ntmps51
  go_wp2
  go_ret
  exact ⟨uF, uB⟩
 rw [if_neg c3] at H
 have c3b0 : decide (1099511627776 ≤ a0) = false := decide_eq_false c3
 clear c3
 replace H := ub H; obtain ⟨t173, A4, H⟩ := H
 obtain rfl := Option.some.inj H
 go_enter Try.func51, Try.ntmps51
 go_wp2_with (first | (go_at_call 52; (with_reducible refine (prime_least.calls a0 t173 _ A4.out).mono ?_); rintro e w5 ⟨rfl, hb⟩; replace HB := uy hb; (try clear hb)))
 go_ret
 exact ⟨uF, uB⟩
end Go.Proofs.Ytkgaejigpmkfkaa.F
end
section
namespace Go.Proofs.Ytkgaejigpmkfkaa.F
open Go.RowKit Go.Proofs.YtkgaejigpmkfkaaW.PrintWords Go.Proofs.YtkgaejigpmkfkaaW.PrintLast Go.Proofs.YtkgaejigpmkfkaaW.PrintMore
set_option linter.unusedVariables false
set_option linter.unusedSimpArgs false
def tape_Below.f (k : Nat) (n l : List Int) : Option (List Int × Int × List Int) :=
  (nat_Right.f n).bind fun b => if b = true ∧ n.length ≠ 0 then (nat_Sub.f k n [1]).bind fun s => if s.1.length = 0 then some ([], 0, l) else (nat_Bits.f k s.1).bind fun z => if 0 < z ∧ z ≤ 4096 then tape_draw.f z n k l else none
  else some ([], 1, l)
def tape_Small.f (k : Nat) (m : Int) (l : List Int) : Option (Int × Int × List Int) :=
  if m < 1 then some (0, 1, l) else (nat_Of.f k m).bind fun n => (tape_Below.f k n l).bind fun x => (nat_Small.f k x.1).bind fun z => some (wrap64 z.1, x.2.1, x.2.2)
end Go.Proofs.Ytkgaejigpmkfkaa.F
end
section
namespace Go.Proofs.Ytkgaejigpmkfkaa.F
open Go.RowKit Go.Proofs.YtkgaejigpmkfkaaW.PrintWords Go.Proofs.YtkgaejigpmkfkaaW.PrintLast Go.Proofs.YtkgaejigpmkfkaaW.PrintMore
attribute [local go_sem] max2_int min2_int max_two min_two max_three min_three max_four min_four
set_option linter.unusedVariables false
set_option linter.unusedSimpArgs false
mutual
def windbreakref01_Out.l0 : Nat → List Int → List Int → Int → Option (List Int × Bool)
 | 0, _, _, _ => none
 | k + 1, x0, x4, x5 => if x5 < (x0.length : Int) then (windbreakref01_Out.l1 k x0 x4 x5 0 3) else (some (x4, decide ((x4.length : Int) ≤ 64)))
def windbreakref01_Out.l1 : Nat → List Int → List Int → Int → Int → Int → Option (List Int × Bool)
 | 0, _, _, _, _, _ => none
 | k + 1, x0, x4, x5, x6, x7 => if x7 ≥ 0 then (if (wrap64 (x5 + x7)) < (x0.length : Int) then (if 0 ≤ (wrap64 (x5 + x7)) then (windbreakref01_Out.l1 k x0 x4 x5 (IntKind.u64.wrap ((IntKind.u64.wrap (x6 * 65536)) + (rd x0 (wrap64 (x5 + x7))))) (wrap64 (x7 - 1))) else (none)) else (windbreakref01_Out.l1 k x0 x4 x5 (IntKind.u64.wrap (x6 * 65536)) (wrap64 (x7 - 1)))) else (if x4.length < 17592186044416 then (windbreakref01_Out.l0 k x0 (x4 ++ [x6]) (wrap64 (x5 + 4))) else (none))
end
def windbreakref01_Out.f (k : Nat) (l0 : List Int) : Option (List Int × Bool) := windbreakref01_Out.l0 k l0 ([] : List Int) 0
set_option maxHeartbeats 8000000 in
set_option maxRecDepth 100000 in
theorem windbreakref01_Out.calls (k : Nat) (A0 : Option Addr) (c0 : Nat) (l0 : List Int) (r1 : List Int) (r2 : Bool) (w : World) (hr0 : Kd.C (Kd.int .u64) w A0 l0.length l0) (hc0 : l0.length ≤ c0) (h : windbreakref01_Out.f k l0 = some (r1, r2)) :
  Calls Try.prog 123 #[.slice A0 l0.length c0] w fun e w' => ∃ v0_ : Value, e = .returned (.tuple #[v0_, .bool r2]) ∧ Kd.R (Kd.int .u64) 30 w' w.heap.size (fun _ => True) v0_ r1 ∧ Below w.heap.size w w' := by
 have HR0 := Aside0.mk hr0; have HC0 := Aside0.mk hc0; clear hr0 hc0
 have HB := Aside0.mk (Below.refl w.heap.size w)
 have H : (windbreakref01_Out.l0 k l0 ([] : List Int) 0) = some (r1, r2) := h
 clear h
 have H' := Aside0.mk H
 clear H
 go_enter Try.func123, Try.ntmps123
 go_wp2
 go_loopg [4, 5] k (fun kq v4 v5 w' => ∃ (x4_1 : List Int) (x5_1 : Int), v5 = .int .i64 x5_1 ∧ Aside0 (windbreakref01_Out.l0 kq l0 x4_1 x5_1 = some (r1, r2)) ∧ Aside0 (kq ≤ k) ∧ Aside0 (Kd.R (Kd.int .u64) 30 w' w.heap.size (fun _ => True) v4 x4_1) ∧ Aside0 (Below w.heap.size w w'))
 case atStart => exact ⟨(([] : List Int)), (0), uG, H', ⟨Nat.le_refl _⟩, ⟨by first | exact Kd.R_nil _ _ _ _ _ | exact Kd.N_nil _ _ _ _ _ | exact Kd.V_nil _ _ _ _ _ | exact Kd.Q_nil _ _ _ _ _ | exact Kd.S_nil _ _ _ _ _⟩, ⟨uB⟩⟩
 case round =>
  clear H'
  (try clear c1)
  obtain ⟨x4_1, x5_1, rfl, HA, HK1, HO_4, HB⟩ := hrel
  cases gk with
  | zero => exact absurd HA.out (by simp [windbreakref01_Out.l0])
  | succ k1 =>
   have H := HA.out
   clear HA
   simp only [windbreakref01_Out.l0] at H
   by_cases c2 : x5_1 < (l0.length : Int)
   ·
    rw [if_pos c2] at H
    have c2b0 : decide (x5_1 < (l0.length : Int)) = true := decide_eq_true c2
    clear c2
    have H' := Aside0.mk H
    clear H
    go_wp2
    go_loopg [6, 7] k1 (fun kq v6 v7 w' => ∃ (x6_2 : Int) (x7_2 : Int), v6 = .int .u64 x6_2 ∧ v7 = .int .i64 x7_2 ∧ Aside0 (windbreakref01_Out.l1 kq l0 x4_1 x5_1 x6_2 x7_2 = some (r1, r2)) ∧ Aside0 (kq ≤ k1) ∧ Aside0 (Kd.R (Kd.int .u64) 30 w' w.heap.size (fun _ => True) u4 x4_1) ∧ Aside0 (Below w.heap.size w w'))
    case atStart => exact ⟨(0), (3), uG, uG, H', ⟨Nat.le_refl _⟩, ⟨uR HO_4.out⟩, ⟨uB⟩⟩
    case round =>
     clear H'
     (try clear c1); (try clear c2); (try clear c2b0); (try clear p2)
     obtain ⟨x6_2, x7_2, rfl, rfl, HA, HK2, HO_4, HB⟩ := hrel
     cases gk with
     | zero => exact absurd HA.out (by simp [windbreakref01_Out.l1])
     | succ k2 =>
      have H := HA.out
      clear HA
      simp only [windbreakref01_Out.l1] at H
      by_cases c3 : x7_2 ≥ 0
      ·
       rw [if_pos c3] at H
       have c3b0 : decide (0 ≤ x7_2) = true := decide_eq_true c3
       clear c3
       by_cases c4 : (wrap64 (x5_1 + x7_2)) < (l0.length : Int)
       ·
        rw [if_pos c4] at H
        have c4b0 : decide ((wrap64 (x5_1 + x7_2)) < (l0.length : Int)) = true := decide_eq_true c4
        clear c4
        obtain ⟨ji5, hji5⟩ : ∃ j_ : Int, (wrap64 (x5_1 + x7_2)) = j_ := ⟨_, rfl⟩
        first | rw [hji5] at H | simp only [hji5] at H
        (try rw [hji5] at c4b0)
        have hji5w : (IntKind.i64.wrap (x5_1 + x7_2)) = ji5 := (i64_w _).trans hji5
        replace H := uT H; obtain ⟨c6, H⟩ := H
        have c6b0 : decide (0 ≤ (ji5)) = true := decide_eq_true c6
        clear c6
        have H' := Aside0.mk H
        clear H
        have p353 : 0 ≤ ((ji5) : Int) := uO
        have q353 : (ji5) < (l0.length : Int) := uO
        obtain ⟨ad353, e353, hx353_0⟩ := Kd.at_int HR0.out (ji5) p353 q353
        cases e353
        replace hx353_0 := (HB.out.cell (World.block_lt_of_cell? w _ hx353_0)).trans hx353_0
        replace p353 := eq_true p353
        replace q353 := eq_true q353
        go_wp2
        first | go_roundg k2 | ((try simp only [← hji5] at H'); simp only [← hji5]; go_roundg k2)
        case measure => have := HK1.out; have := HK2.out; omega
        case rel => first | exact ⟨(IntKind.u64.wrap ((IntKind.u64.wrap (x6_2 * 65536)) + (rd l0 (ji5)))), (wrap64 (x7_2 - 1)), (by first | rfl | (simp; done) | (simp only [← hji5] <;> (first | rfl | simp)) | (simp [*]; done)), uG, H', ⟨by have := HK1.out; have := HK2.out; omega⟩, ⟨uR HO_4.out⟩, ⟨uB⟩⟩ | (simp only [← hji5] at H'; exact ⟨(IntKind.u64.wrap ((IntKind.u64.wrap (x6_2 * 65536)) + (rd l0 (ji5)))), (wrap64 (x7_2 - 1)), (by first | rfl | (simp; done) | (simp only [← hji5] <;> (first | rfl | simp)) | (simp [*]; done)), uG, H', ⟨by have := HK1.out; have := HK2.out; omega⟩, ⟨uR HO_4.out⟩, ⟨uB⟩⟩)
       rw [if_neg c4] at H
       have c4b0 : decide ((wrap64 (x5_1 + x7_2)) < (l0.length : Int)) = false := decide_eq_false c4
       clear c4
       have H' := Aside0.mk H
       clear H
       go_wp2
       first | go_roundg k2 | ((try simp only [← hji5] at H'); simp only [← hji5]; go_roundg k2)
       case measure => have := HK1.out; have := HK2.out; omega
       case rel => first | exact ⟨(IntKind.u64.wrap (x6_2 * 65536)), (wrap64 (x7_2 - 1)), uG, uG, H', ⟨by have := HK1.out; have := HK2.out; omega⟩, ⟨uR HO_4.out⟩, ⟨uB⟩⟩ | (simp only [← hji5] at H'; exact ⟨(IntKind.u64.wrap (x6_2 * 65536)), (wrap64 (x7_2 - 1)), uG, uG, H', ⟨by have := HK1.out; have := HK2.out; omega⟩, ⟨uR HO_4.out⟩, ⟨uB⟩⟩)
      rw [if_neg c3] at H
      have c3b0 : decide (0 ≤ x7_2) = false := decide_eq_false c3
      clear c3
      replace H := uT H; obtain ⟨c7, H⟩ := H
      have LMc7 := Aside0.mk c7; clear c7
      obtain ⟨y354, hy354⟩ : ∃ y_ : List Int, y_ = (x4_1 ++ [x6_2]) := ⟨_, rfl⟩
      replace H : (windbreakref01_Out.l0 k2 l0 y354 (wrap64 (x5_1 + 4))) = some (r1, r2) := by first | (rw [hy354]; with_reducible exact H) | (have H2_ := (Option.bind_some _ _).symm.trans H; rw [hy354]; with_reducible exact H2_) | (have H2_ := (Option.bind_some _ _).symm.trans H; with_reducible exact H2_) | with_reducible exact H | (rw [hy354]; exact H) | exact H
      have Ny354 := Aside0.mk hy354; clear hy354
      have H' := Aside0.mk H
      clear H
      go_wp2_with (first | ((with_reducible refine gate_builtin (b := .append) (xs := #[.tmp 34, .tmp 36]) rfl ?_); at_builtin; refine Kd.R_append (Kd.int .u64) (w0 := w) w.heap.size rfl (.tmp 34) (.tmp 36) 40 30 (.int .u64 0) 8 rfl Try.underlying40 info30 rfl (by decide) (by omega) u4 x4_1 x6_2 [.int .u64 x6_2] (fun _ => True) (fun _ => False) rfl rfl ?aP (fun _ hk => hk.elim) ?aF ?aO ?aB ?aS ?aL ?_; (case aP => exact rfl); (case aB => exact uB); (case aF => exact (fun _ _ => trivial)); (case aO => exact (uR HO_4.out)); (case aS => exact (below_size uB)); (case aL => have := LMc7.out; omega); intro v355 w8 ho hb hg hat; rw [← Ny354.out] at ho; replace HB := Aside0.mk (hb); have HO356 := Aside0.mk (ho); clear HO_4; clear ho hb hg hat))
      first | go_roundg k2 | ((try simp only [← hji5] at H'); simp only [← hji5]; go_roundg k2)
      case measure => have := HK1.out; have := HK2.out; omega
      case rel => first | exact ⟨(y354), (wrap64 (x5_1 + 4)), uG, H', ⟨by have := HK1.out; have := HK2.out; omega⟩, ⟨uR HO356.out⟩, ⟨uB⟩⟩ | (simp only [← hji5] at H'; exact ⟨(y354), (wrap64 (x5_1 + 4)), uG, H', ⟨by have := HK1.out; have := HK2.out; omega⟩, ⟨uR HO356.out⟩, ⟨uB⟩⟩)
   rw [if_neg c2] at H
   have c2b0 : decide (x5_1 < (l0.length : Int)) = false := decide_eq_false c2
   clear c2
   simp only [Option.some.injEq, Prod.mk.injEq] at H
   obtain ⟨rfl, rfl⟩ := H
   obtain ⟨Ao9, co9, eo9⟩ := Kd.R_slice HO_4.out
   subst eo9
   go_wp2
   go_ret2
   exact ⟨_, uF, uR HO_4.out, uB⟩
end Go.Proofs.Ytkgaejigpmkfkaa.F
end
section
namespace Go.Proofs.Ytkgaejigpmkfkaa.F
open Go.RowKit Go.Proofs.YtkgaejigpmkfkaaW.PrintWords Go.Proofs.YtkgaejigpmkfkaaW.PrintLast Go.Proofs.YtkgaejigpmkfkaaW.PrintMore
attribute [local go_sem] max2_int min2_int max_two min_two max_three min_three max_four min_four
set_option linter.unusedVariables false
set_option linter.unusedSimpArgs false
def windbreakref01_told.f (k : Nat) (l0 : List Int) : Option (List Int × Int) := (windbreakref01_Out.f k l0).bind fun bt357 => (if bt357.2 = true then (some (bt357.1, 0)) else (some (([] : List Int), 4)))
set_option maxHeartbeats 8000000 in
set_option maxRecDepth 100000 in
theorem windbreakref01_told.calls (k : Nat) (A0 : Option Addr) (c0 : Nat) (l0 : List Int) (r1 : List Int) (r2 : Int) (w : World) (hr0 : Kd.C (Kd.int .u64) w A0 l0.length l0) (hc0 : l0.length ≤ c0) (h : windbreakref01_told.f k l0 = some (r1, r2)) :
  Calls Try.prog 73 #[.slice A0 l0.length c0] w fun e w' => ∃ v0_ : Value, e = .returned (.tuple #[v0_, .int .i64 r2]) ∧ Kd.R (Kd.int .u64) 30 w' w.heap.size (fun _ => True) v0_ r1 ∧ Below w.heap.size w w' := by
 have HR0 := Aside0.mk hr0; have HC0 := Aside0.mk hc0; clear hr0 hc0
 have HB := Aside0.mk (Below.refl w.heap.size w)
 have H : ((windbreakref01_Out.f k l0).bind fun bt357 => (if bt357.2 = true then (some (bt357.1, 0)) else (some (([] : List Int), 4)))) = some (r1, r2) := h
 clear h
 replace H := ub H; obtain ⟨⟨t357, t358⟩, A2, H⟩ := H
 (try dsimp only at H)
 by_cases c3 : t358 = true
 ·
  subst c3
  have H1 : (some (t357, 0)) = some (r1, r2) := by rw [if_pos rfl] at H; exact H
  clear H; have H := H1; clear H1
  simp only [Option.some.injEq, Prod.mk.injEq] at H
  obtain ⟨rfl, rfl⟩ := H
  go_enter Try.func73, Try.ntmps73
  go_wp2_with (first | ((with_reducible refine gate_callee (f := 123) rfl ?_); refine goesL_ (some 8) rfl rfl Try.func123 (by kernel_rfl) rfl #[.slice A0 l0.length c0] rfl uM ?_; (with_reducible refine (windbreakref01_Out.calls k _ _ l0 t357 true _ ?side1 ?side2 A2.out).mono ?_); (case side1 => exact uC HR0.out); (case side2 => exact HC0.out); rintro e w4 ⟨v359, rfl, ho0, hb⟩; refine ⟨_, rfl, ?_⟩; have HO360 := Aside0.mk (Kd.R_lower ho0 (below_size uB)); replace HB := uy hb; (try clear hb ho0)))
  go_ret2
  exact ⟨_, uF, uR HO360.out, uB⟩
 replace c3 := Bool.eq_false_iff.mpr c3
 subst c3
 have H1 : (some (([] : List Int), 4)) = some (r1, r2) := by rw [if_neg (show ¬ (false = true) by decide)] at H; exact H
 clear H; have H := H1; clear H1
 simp only [Option.some.injEq, Prod.mk.injEq] at H
 obtain ⟨rfl, rfl⟩ := H
 go_enter Try.func73, Try.ntmps73
 go_wp2_with (first | ((with_reducible refine gate_callee (f := 123) rfl ?_); refine goesL_ (some 8) rfl rfl Try.func123 (by kernel_rfl) rfl #[.slice A0 l0.length c0] rfl uM ?_; (with_reducible refine (windbreakref01_Out.calls k _ _ l0 t357 false _ ?side1 ?side2 A2.out).mono ?_); (case side1 => exact uC HR0.out); (case side2 => exact HC0.out); rintro e w5 ⟨v359, rfl, ho0, hb⟩; refine ⟨_, rfl, ?_⟩; have HO360 := Aside0.mk (Kd.R_lower ho0 (below_size uB)); replace HB := uy hb; (try clear hb ho0)))
 go_ret2
 exact ⟨_, by first | rfl | (simp [errW_none, errW_some] <;> rfl) | (simp [*, errW_none, errW_some] <;> rfl), by first | exact Kd.R_nil _ _ _ _ _ | exact Kd.N_nil _ _ _ _ _ | exact Kd.V_nil _ _ _ _ _ | exact Kd.Q_nil _ _ _ _ _ | exact Kd.S_nil _ _ _ _ _, uB⟩
end Go.Proofs.Ytkgaejigpmkfkaa.F
end
section
namespace Go.Proofs.Ytkgaejigpmkfkaa.F
open Go.RowKit Go.Proofs.YtkgaejigpmkfkaaW.PrintWords Go.Proofs.YtkgaejigpmkfkaaW.PrintLast Go.Proofs.YtkgaejigpmkfkaaW.PrintMore
attribute [local go_sem] max2_int min2_int max_two min_two max_three min_three max_four min_four
set_option linter.unusedVariables false
set_option linter.unusedSimpArgs false
mutual
def windbreakref01_In.l0 : Nat → List Int → List Int → Int → Option (List Int)
 | 0, _, _, _ => none
 | k + 1, x0, x3, x4 => if x4 < (x0.length : Int) then (if 0 ≤ x4 then (windbreakref01_In.l1 k x0 x3 x4 (rd x0 x4) 0) else (none)) else ((windbreakref01_cut.f k x3).bind fun t368 => (some t368))
def windbreakref01_In.l1 : Nat → List Int → List Int → Int → Int → Int → Option (List Int)
 | 0, _, _, _, _, _ => none
 | k + 1, x0, x3, x4, x5, x6 => if x6 < 4 then (if x3.length < 17592186044416 then (windbreakref01_In.l1 k x0 (x3 ++ [Int.tmod x5 65536]) x4 (IntKind.u64.wrap (Int.tdiv x5 65536)) (wrap64 (x6 + 1))) else (none)) else (windbreakref01_In.l0 k x0 x3 (wrap64 (x4 + 1)))
end
def windbreakref01_In.f (k : Nat) (l0 : List Int) : Option (List Int) := windbreakref01_In.l0 k l0 ([] : List Int) 0
set_option maxHeartbeats 8000000 in
set_option maxRecDepth 100000 in
theorem windbreakref01_In.calls (k : Nat) (A0 : Option Addr) (c0 : Nat) (l0 : List Int) (r : List Int) (w : World) (hr0 : Kd.C (Kd.int .u64) w A0 l0.length l0) (hc0 : l0.length ≤ c0) (h : windbreakref01_In.f k l0 = some r) :
  Calls Try.prog 75 #[.slice A0 l0.length c0] w fun e w' => ∃ v0_ : Value, e = .returned (v0_) ∧ Kd.R (Kd.int .u64) 30 w' w.heap.size (fun _ => True) v0_ r ∧ Below w.heap.size w w' := by
 have HR0 := Aside0.mk hr0; have HC0 := Aside0.mk hc0; clear hr0 hc0
 have HB := Aside0.mk (Below.refl w.heap.size w)
 have H : (windbreakref01_In.l0 k l0 ([] : List Int) 0) = some r := h
 clear h
 have H' := Aside0.mk H
 clear H
 go_enter Try.func75, Try.ntmps75
 go_wp2
 go_loopg [3, 4] k (fun kq v3 v4 w' => ∃ (x3_1 : List Int) (x4_1 : Int), v4 = .int .i64 x4_1 ∧ Aside0 (windbreakref01_In.l0 kq l0 x3_1 x4_1 = some r) ∧ Aside0 (kq ≤ k) ∧ Aside0 (Kd.R (Kd.int .u64) 30 w' w.heap.size (fun _ => True) v3 x3_1) ∧ Aside0 (Below w.heap.size w w'))
 case atStart => exact ⟨(([] : List Int)), (0), uG, H', ⟨Nat.le_refl _⟩, ⟨by first | exact Kd.R_nil _ _ _ _ _ | exact Kd.N_nil _ _ _ _ _ | exact Kd.V_nil _ _ _ _ _ | exact Kd.Q_nil _ _ _ _ _ | exact Kd.S_nil _ _ _ _ _⟩, ⟨uB⟩⟩
 case round =>
  clear H'
  obtain ⟨x3_1, x4_1, rfl, HA, HK1, HO_3, HB⟩ := hrel
  cases gk with
  | zero => exact absurd HA.out (by simp [windbreakref01_In.l0])
  | succ k1 =>
   have H := HA.out
   clear HA
   simp only [windbreakref01_In.l0] at H
   by_cases c2 : x4_1 < (l0.length : Int)
   ·
    rw [if_pos c2] at H
    have c2b0 : decide (x4_1 < (l0.length : Int)) = true := decide_eq_true c2
    clear c2
    replace H := uT H; obtain ⟨c3, H⟩ := H
    have c3b0 : decide (0 ≤ x4_1) = true := decide_eq_true c3
    clear c3
    have H' := Aside0.mk H
    clear H
    have p371 : 0 ≤ (x4_1 : Int) := uO
    have q371 : x4_1 < (l0.length : Int) := uO
    obtain ⟨ad371, e371, hx371_0⟩ := Kd.at_int HR0.out x4_1 p371 q371
    cases e371
    replace hx371_0 := (HB.out.cell (World.block_lt_of_cell? w _ hx371_0)).trans hx371_0
    replace p371 := eq_true p371
    replace q371 := eq_true q371
    go_wp2
    go_loopg [3, 5, 6] k1 (fun kq v3 v5 v6 w' => ∃ (x3_2 : List Int) (x5_2 : Int) (x6_2 : Int), v5 = .int .u64 x5_2 ∧ v6 = .int .i64 x6_2 ∧ Aside0 (windbreakref01_In.l1 kq l0 x3_2 x4_1 x5_2 x6_2 = some r) ∧ Aside0 (kq ≤ k1) ∧ Aside0 (Kd.R (Kd.int .u64) 30 w' w.heap.size (fun _ => True) v3 x3_2) ∧ Aside0 (Below w.heap.size w w'))
    case atStart => exact ⟨(x3_1), (rd l0 x4_1), (0), uG, uG, H', ⟨Nat.le_refl _⟩, ⟨uR HO_3.out⟩, ⟨uB⟩⟩
    case round =>
     clear H'
     (try clear c2); (try clear c2b0); (try clear p2); (try clear c3); (try clear c3b0); (try clear p3); (try clear q3); (try clear hx3); (try clear hx371_0); (try clear p371); (try clear q371)
     obtain ⟨x3_2, x5_2, x6_2, rfl, rfl, HA, HK2, HO_3, HB⟩ := hrel
     cases gk with
     | zero => exact absurd HA.out (by simp [windbreakref01_In.l1])
     | succ k2 =>
      have H := HA.out
      clear HA
      simp only [windbreakref01_In.l1] at H
      by_cases c4 : x6_2 < 4
      ·
       rw [if_pos c4] at H
       have c4b0 : decide (x6_2 < 4) = true := decide_eq_true c4
       clear c4
       replace H := uT H; obtain ⟨c5, H⟩ := H
       have LMc5 := Aside0.mk c5; clear c5
       obtain ⟨y372, hy372⟩ : ∃ y_ : List Int, y_ = (x3_2 ++ [Int.tmod x5_2 65536]) := ⟨_, rfl⟩
       replace H : (windbreakref01_In.l1 k2 l0 y372 x4_1 (IntKind.u64.wrap (Int.tdiv x5_2 65536)) (wrap64 (x6_2 + 1))) = some r := by first | (rw [hy372]; with_reducible exact H) | (have H2_ := (Option.bind_some _ _).symm.trans H; rw [hy372]; with_reducible exact H2_) | (have H2_ := (Option.bind_some _ _).symm.trans H; with_reducible exact H2_) | with_reducible exact H | (rw [hy372]; exact H) | exact H
       have Ny372 := Aside0.mk hy372; clear hy372
       have H' := Aside0.mk H
       clear H
       go_wp2_with (first | ((with_reducible refine gate_builtin (b := .append) (xs := #[.tmp 21, .tmp 24]) rfl ?_); at_builtin; refine Kd.R_append (Kd.int .u64) (w0 := w) w.heap.size rfl (.tmp 21) (.tmp 24) 125 30 (.int .u64 0) 8 rfl Try.underlying125 info30 rfl (by decide) (by omega) u3 x3_2 (Int.tmod x5_2 65536) [.int .u64 (Int.tmod x5_2 65536)] (fun _ => True) (fun _ => False) rfl rfl ?aP (fun _ hk => hk.elim) ?aF ?aO ?aB ?aS ?aL ?_; (case aP => exact rfl); (case aB => exact uB); (case aF => exact (fun _ _ => trivial)); (case aO => exact (uR HO_3.out)); (case aS => exact (below_size uB)); (case aL => have := LMc5.out; omega); intro v373 w6 ho hb hg hat; rw [← Ny372.out] at ho; replace HB := Aside0.mk (hb); have HO374 := Aside0.mk (ho); clear HO_3; clear ho hb hg hat))
       go_roundg k2
       case measure => have := HK1.out; have := HK2.out; omega
       case rel => exact ⟨(y372), (IntKind.u64.wrap (Int.tdiv x5_2 65536)), (wrap64 (x6_2 + 1)), uG, uG, H', ⟨by have := HK1.out; have := HK2.out; omega⟩, ⟨uR HO374.out⟩, ⟨uB⟩⟩
      rw [if_neg c4] at H
      have c4b0 : decide (x6_2 < 4) = false := decide_eq_false c4
      clear c4
      have H' := Aside0.mk H
      clear H
      go_wp2
      go_roundg k2
      case measure => have := HK1.out; have := HK2.out; omega
      case rel => exact ⟨(x3_2), (wrap64 (x4_1 + 1)), uG, H', ⟨by have := HK1.out; have := HK2.out; omega⟩, ⟨uR HO_3.out⟩, ⟨uB⟩⟩
   rw [if_neg c2] at H
   have c2b0 : decide (x4_1 < (l0.length : Int)) = false := decide_eq_false c2
   clear c2
   replace H := ub H; obtain ⟨t368, A7, H⟩ := H
   obtain rfl := Option.some.inj H
   obtain ⟨Ao8, co8, eo8⟩ := Kd.R_slice HO_3.out
   subst eo8
   go_wp2_with (first | ((with_reducible refine gate_callee (f := 125) rfl ?_); refine goesL_ (some 29) rfl rfl Try.func125 (by kernel_rfl) rfl #[.slice Ao8 x3_1.length co8] rfl uM ?_; (with_reducible refine (windbreakref01_cut.calls k1 (fun k_ => some k_ = (.slice Ao8 x3_1.length co8 : Value).ownBlock) (.slice Ao8 x3_1.length co8) x3_1 t368 w _ ?side1 ?side2 A7.out).mono ?_); (case side1 => repeat (first | (with_reducible first | exact HB.out | apply below_alloc | apply pw_below_drewN | apply below_drew1) | exact HB.out)); (case side2 => exact Kd.R_tight rfl HO_3.out); rintro e w9 ⟨v369, rfl, ho0, hb, hkp⟩; refine ⟨_, rfl, ?_⟩; have HO370 := Aside0.mk (Kd.R_mono (ok' := fun k_ => True) ho0 (fun k_ hk_ => trivial)); replace HB := Aside0.mk (hb); clear HO_3; (try clear hb); (try clear hkp); (try clear ho0)))
   go_ret
   exact ⟨_, uF, uR HO370.out, uB⟩
end Go.Proofs.Ytkgaejigpmkfkaa.F
end
section
namespace Go.Proofs.Ytkgaejigpmkfkaa.F
open Go.RowKit Go.Proofs.YtkgaejigpmkfkaaW.PrintWords Go.Proofs.YtkgaejigpmkfkaaW.PrintLast Go.Proofs.YtkgaejigpmkfkaaW.PrintMore
attribute [local go_sem] max2_int min2_int max_two min_two max_three min_three max_four min_four
set_option linter.unusedVariables false
set_option linter.unusedSimpArgs false
def windbreakref01_Sub.j0 : Nat → List Int → List Int → Bool → Option (List Int × Int)
 | 0, _, _, _ => none
 | k + 1, x0, x1, x19 => if x19 = true then (some (([] : List Int), 1)) else ((windbreakref01_In.f k x0).bind fun t773 => ((windbreakref01_In.f k x1).bind fun t776 => ((windbreakref01_compare.f k t773 t776).bind fun t779 => (if t779 < 0 then (some (([] : List Int), 2)) else ((windbreakref01_sub.f k t773 t776).bind fun t780 => ((windbreakref01_told.f k t780).bind fun bt783 => (some (bt783.1, bt783.2))))))))
def windbreakref01_Sub.f (k : Nat) (l0 : List Int) (l1 : List Int) : Option (List Int × Int) := (windbreakref01_Right.f l0).bind fun t771 => ((windbreakref01_Right.f l1).bind fun t772 => (if t771 = true then (windbreakref01_Sub.j0 k l0 l1 (!t772)) else (windbreakref01_Sub.j0 k l0 l1 true)))
def windbreakref01_Cmp.j0 : Nat → List Int → List Int → Bool → Option (Int)
 | 0, _, _, _ => none
 | k + 1, x0, x1, x16 => if x16 = true then (some 0) else ((windbreakref01_In.f k x0).bind fun t759 => ((windbreakref01_In.f k x1).bind fun t762 => ((windbreakref01_compare.f k t759 t762).bind fun t765 => (some t765))))
def windbreakref01_Cmp.f (k : Nat) (l0 : List Int) (l1 : List Int) : Option (Int) := (windbreakref01_Right.f l0).bind fun t757 => ((windbreakref01_Right.f l1).bind fun t758 => (if t757 = true then (windbreakref01_Cmp.j0 k l0 l1 (!t758)) else (windbreakref01_Cmp.j0 k l0 l1 true)))
end Go.Proofs.Ytkgaejigpmkfkaa.F
end
section
namespace Go.Proofs.Ytkgaejigpmkfkaa.F
open Go.RowKit Go.Proofs.YtkgaejigpmkfkaaW.PrintWords Go.Proofs.YtkgaejigpmkfkaaW.PrintLast Go.Proofs.YtkgaejigpmkfkaaW.PrintMore
attribute [local go_sem] max2_int min2_int max_two min_two max_three min_three max_four min_four
set_option linter.unusedVariables false
set_option linter.unusedSimpArgs false
mutual
def windbreakref01_Bits.j0 : Nat → List Int → Bool → Option (Int)
 | 0, _, _ => none
 | k + 1, x0, x14 => if x14 = true then (some 0) else (if 0 ≤ (wrap64 ((x0.length : Int) - 1)) then (if (wrap64 ((x0.length : Int) - 1)) < (x0.length : Int) then (windbreakref01_Bits.l0 k x0 0 (rd x0 (wrap64 ((x0.length : Int) - 1)))) else (none)) else (none))
def windbreakref01_Bits.l0 : Nat → List Int → Int → Int → Option (Int)
 | 0, _, _, _ => none
 | k + 1, x0, x4, x5 => if x5 > 0 then (windbreakref01_Bits.l0 k x0 (wrap64 (x4 + 1)) (IntKind.u64.wrap (Int.tdiv x5 2))) else (some (wrap64 (x4 + (wrap64 (64 * (wrap64 ((x0.length : Int) - 1)))))))
end
def windbreakref01_Bits.f (k : Nat) (l0 : List Int) : Option (Int) := (windbreakref01_Right.f l0).bind fun t404 => (if t404 = true then (windbreakref01_Bits.j0 k l0 ((l0.length : Int) == 0)) else (windbreakref01_Bits.j0 k l0 true))
set_option maxHeartbeats 8000000 in
set_option maxRecDepth 100000 in
theorem windbreakref01_Bits.calls (k : Nat) (A0 : Option Addr) (c0 : Nat) (l0 : List Int) (r : Int) (w : World) (hr0 : Kd.C (Kd.int .u64) w A0 l0.length l0) (hc0 : l0.length ≤ c0) (h : windbreakref01_Bits.f k l0 = some r) :
  Calls Try.prog 147 #[.slice A0 l0.length c0] w fun e w' => e = .returned (.int .i64 r) ∧ Drawn0 w w' := by
 have HR0 := Aside0.mk hr0; have HC0 := Aside0.mk hc0; clear hr0 hc0
 have H : ((windbreakref01_Right.f l0).bind fun t404 => (if t404 = true then (windbreakref01_Bits.j0 k l0 ((l0.length : Int) == 0)) else (windbreakref01_Bits.j0 k l0 true))) = some r := h
 clear h
 replace H := ub H; obtain ⟨t404, A2, H⟩ := H
 have HC3 := Aside0.mk H; clear H
 go_enter Try.func147, Try.ntmps147
 go_upto_region 2 with (first | ((with_reducible refine gate_callee (f := 29) rfl ?_); refine goesL_ (some 7) rfl rfl Try.func29 (by kernel_rfl) rfl #[.slice A0 l0.length c0] rfl uM ?_; (with_reducible refine (windbreakref01_Right.calls _ _ l0 t404 _ ?side1 ?side2 A2.out).mono ?_); (case side1 => exact uC HR0.out); (case side2 => exact HC0.out); rintro e w' ⟨rfl, ⟨nd, rfl⟩⟩; refine ⟨_, rfl, ?_⟩))
 (try simp only [Act.put, List.setIfInBounds_toArray, List.set_cons_zero, List.set_cons_succ])
 go_cut [14] (fun v14 wc => ∃ (kq : Nat) (x14_2 : Bool), v14 = .bool x14_2 ∧ Aside0 (windbreakref01_Bits.j0 kq l0 x14_2 = some r) ∧ Aside0 (kq ≤ k) ∧ Drawn0 w wc)
 case first =>
  have H := HC3.out
  clear HC3
  by_cases c4 : t404 = true
  ·
   subst c4
   have H1 : (windbreakref01_Bits.j0 k l0 ((l0.length : Int) == 0)) = some r := by rw [if_pos rfl] at H; exact H
   clear H; have H := H1; clear H1
   have H' := Aside0.mk H
   clear H
   go_wp2
   go_meet
   case rel => exact ⟨_, (((l0.length : Int) == 0)), uG, H', ⟨uW⟩, by repeat (first | exact Drawn0.refl _ | apply Drawn0.step)⟩
  replace c4 := Bool.eq_false_iff.mpr c4
  subst c4
  have H1 : (windbreakref01_Bits.j0 k l0 true) = some r := by rw [if_neg (show ¬ (false = true) by decide)] at H; exact H
  clear H; have H := H1; clear H1
  have H' := Aside0.mk H
  clear H
  go_wp2
  go_meet
  case rel => exact ⟨_, (true), uG, H', ⟨uW⟩, by repeat (first | exact Drawn0.refl _ | apply Drawn0.step)⟩
 case rest =>
  clear HC3; (try clear c1); (try clear c2); (try clear p2); (try clear c4)
  obtain ⟨kq, x14_2, rfl, HA, HJ2, ⟨mc2, rfl⟩⟩ := hcut
  cases kq with
  | zero => exact absurd HA.out (by simp [windbreakref01_Bits.j0])
  | succ kj2 =>
   have H := HA.out
   clear HA
   simp only [windbreakref01_Bits.j0] at H
   by_cases c5 : x14_2 = true
   ·
    subst c5
    have H1 : (some 0) = some r := by rw [if_pos rfl] at H; exact H
    clear H; have H := H1; clear H1
    obtain rfl := Option.some.inj H
    go_wp2
    go_ret
    exact ⟨by first | rfl | (simp; done) | (simp [*]; done), by repeat (first | exact Drawn0.refl _ | apply Drawn0.step)⟩
   replace c5 := Bool.eq_false_iff.mpr c5
   subst c5
   have H1 : (if 0 ≤ (wrap64 ((l0.length : Int) - 1)) then (if (wrap64 ((l0.length : Int) - 1)) < (l0.length : Int) then (windbreakref01_Bits.l0 kj2 l0 0 (rd l0 (wrap64 ((l0.length : Int) - 1)))) else (none)) else (none)) = some r := by rw [if_neg (show ¬ (false = true) by decide)] at H; exact H
   clear H; have H := H1; clear H1
   obtain ⟨ji6, hji6⟩ : ∃ j_ : Int, (wrap64 ((l0.length : Int) - 1)) = j_ := ⟨_, rfl⟩
   first | rw [hji6] at H | simp only [hji6] at H
   have hji6w : (IntKind.i64.wrap ((l0.length : Int) - 1)) = ji6 := (i64_w _).trans hji6
   replace H := uT H; obtain ⟨c7, H⟩ := H
   have c7b0 : decide (0 ≤ (ji6)) = true := decide_eq_true c7
   clear c7
   replace H := uT H; obtain ⟨c8, H⟩ := H
   have c8b0 : decide ((ji6) < (l0.length : Int)) = true := decide_eq_true c8
   clear c8
   have H' := Aside0.mk H
   clear H
   have p405 : 0 ≤ ((ji6) : Int) := uO
   have q405 : (ji6) < (l0.length : Int) := uO
   obtain ⟨ad405, e405, hx405_0⟩ := Kd.at_int HR0.out (ji6) p405 q405
   cases e405
   replace p405 := eq_true p405
   replace q405 := eq_true q405
   go_wp2
   go_loopg [4, 5] kj2 (fun kq v4 v5 w' => ∃ (x4_2 : Int) (x5_2 : Int), v4 = .int .i64 x4_2 ∧ v5 = .int .u64 x5_2 ∧ Aside0 (windbreakref01_Bits.l0 kq l0 x4_2 x5_2 = some r) ∧ Aside0 (kq ≤ kj2) ∧ Drawn0 w w')
   case atStart => exact ⟨(0), (rd l0 (ji6)), uG, (by first | rfl | (simp; done) | (simp only [← hji6] <;> (first | rfl | simp)) | (simp [*]; done)), H', ⟨Nat.le_refl _⟩, by repeat (first | exact Drawn0.refl _ | apply Drawn0.step)⟩
   case round =>
    clear H'
    (try clear c1); (try clear c2); (try clear p2 p2); (try clear c4); (try clear p4); (try clear q4); (try clear hx4); (try clear c5); (try clear p6); (try clear c7); (try clear c7b0); (try clear c8); (try clear c8b0); (try clear hx405_0); (try clear p405); (try clear q405)
    obtain ⟨x4_2, x5_2, rfl, rfl, HA, HK2, ⟨m2, rfl⟩⟩ := hrel
    cases gk with
    | zero => exact absurd HA.out (by simp [windbreakref01_Bits.l0])
    | succ k2 =>
     have H := HA.out
     clear HA
     simp only [windbreakref01_Bits.l0] at H
     by_cases c9 : x5_2 > 0
     ·
      rw [if_pos c9] at H
      have c9b0 : decide (0 < x5_2) = true := decide_eq_true c9
      clear c9
      have H' := Aside0.mk H
      clear H
      go_wp2
      first | go_roundg k2 | ((try simp only [← hji6] at H'); simp only [← hji6]; go_roundg k2)
      case measure => have := HJ2.out; have := HK2.out; omega
      case rel => first | exact ⟨(wrap64 (x4_2 + 1)), (IntKind.u64.wrap (Int.tdiv x5_2 2)), uG, uG, H', ⟨by have := HJ2.out; have := HK2.out; omega⟩, by repeat (first | exact Drawn0.refl _ | apply Drawn0.step)⟩ | (simp only [← hji6] at H'; exact ⟨(wrap64 (x4_2 + 1)), (IntKind.u64.wrap (Int.tdiv x5_2 2)), uG, uG, H', ⟨by have := HJ2.out; have := HK2.out; omega⟩, by repeat (first | exact Drawn0.refl _ | apply Drawn0.step)⟩)
     rw [if_neg c9] at H
     have c9b0 : decide (0 < x5_2) = false := decide_eq_false c9
     clear c9
     obtain rfl := Option.some.inj H
     go_wp2
     go_ret
     exact ⟨by first | rfl | (simp; done) | (simp only [← hji6] <;> (first | rfl | simp)) | (simp [*]; done), by repeat (first | exact Drawn0.refl _ | apply Drawn0.step)⟩
end Go.Proofs.Ytkgaejigpmkfkaa.F
end
section
namespace Go.Proofs.Ytkgaejigpmkfkaa.F
open Go.RowKit Go.Proofs.YtkgaejigpmkfkaaW.PrintWords Go.Proofs.YtkgaejigpmkfkaaW.PrintLast Go.Proofs.YtkgaejigpmkfkaaW.PrintMore
attribute [local go_sem] max2_int min2_int max_two min_two max_three min_three max_four min_four
set_option linter.unusedVariables false
set_option linter.unusedSimpArgs false
mutual
def windbreakref01_Read.j1 : Nat → List Int → Int → Option (List Int × Int)
 | 0, _, _ => none
 | k + 1, x0, x4 => if (wrap64 ((x0.length : Int) - x4)) > 512 then (some (([] : List Int), 4)) else (windbreakref01_Read.l1 k x0 x4 ([] : List Int) (wrap64 ((x0.length : Int) - 1)))
def windbreakref01_Read.l1 : Nat → List Int → Int → List Int → Int → Option (List Int × Int)
 | 0, _, _, _, _ => none
 | k + 1, x0, x4, x5, x6 => if x6 ≥ x4 then (if 0 ≤ x6 then (if x6 < (x0.length : Int) then (if (wrap64 (x6 - 1)) ≥ x4 then (if 0 ≤ (wrap64 (x6 - 1)) then (if (wrap64 (x6 - 1)) < (x0.length : Int) then (if x5.length < 17592186044416 then (windbreakref01_Read.l1 k x0 x4 (x5 ++ [IntKind.u64.wrap ((IntKind.u64.wrap (rd x0 x6)) + (IntKind.u64.wrap (256 * (IntKind.u64.wrap (rd x0 (wrap64 (x6 - 1)))))))]) (wrap64 (x6 - 2))) else (none)) else (none)) else (none)) else (if x5.length < 17592186044416 then (windbreakref01_Read.l1 k x0 x4 (x5 ++ [IntKind.u64.wrap (rd x0 x6)]) (wrap64 (x6 - 2))) else (none))) else (none)) else (none)) else ((windbreakref01_cut.f k x5).bind fun t1319 => ((windbreakref01_told.f k t1319).bind fun bt1322 => (some (bt1322.1, bt1322.2))))
def windbreakref01_Read.l0 : Nat → List Int → Int → Option (List Int × Int)
 | 0, _, _ => none
 | k + 1, x0, x4 => if x4 < (x0.length : Int) then (if 0 ≤ x4 then (if (rd x0 x4) = 0 then (windbreakref01_Read.l0 k x0 (wrap64 (x4 + 1))) else (windbreakref01_Read.j1 k x0 x4)) else (none)) else (windbreakref01_Read.j1 k x0 x4)
end
def windbreakref01_Read.f (k : Nat) (l0 : List Int) : Option (List Int × Int) := windbreakref01_Read.l0 k l0 0
end Go.Proofs.Ytkgaejigpmkfkaa.F
end
section
namespace Go.Proofs.Ytkgaejigpmkfkaa.F
open Go.RowKit Go.Proofs.YtkgaejigpmkfkaaW.PrintWords Go.Proofs.YtkgaejigpmkfkaaW.PrintLast Go.Proofs.YtkgaejigpmkfkaaW.PrintMore
attribute [local go_sem] max2_int min2_int max_two min_two max_three min_three max_four min_four
set_option linter.unusedVariables false
set_option linter.unusedSimpArgs false
mutual
def windbreakref01_mul.l0 : Nat → List Int → List Int → List Int → Int → Option (List Int)
 | 0, _, _, _, _ => none
 | k + 1, x0, x1, x5, x6 => if x6 < (x0.length : Int) then (windbreakref01_mul.l1 k x0 x1 x5 x6 0 0) else ((windbreakref01_cut.f k x5).bind fun t378 => (some t378))
def windbreakref01_mul.l1 : Nat → List Int → List Int → List Int → Int → Int → Int → Option (List Int)
 | 0, _, _, _, _, _, _ => none
 | k + 1, x0, x1, x5, x6, x7, x8 => if x8 < (x1.length : Int) then (if 0 ≤ (wrap64 (x6 + x8)) then (if (wrap64 (x6 + x8)) < (x5.length : Int) then (if 0 ≤ x6 then (if x6 < (x0.length : Int) then (if 0 ≤ x8 then (windbreakref01_mul.l1 k x0 x1 (x5.set ((wrap64 (x6 + x8)) : Int).toNat (Int.tmod (IntKind.u64.wrap ((IntKind.u64.wrap ((rd x5 (wrap64 (x6 + x8))) + (IntKind.u64.wrap ((rd x0 x6) * (rd x1 x8))))) + x7)) 65536)) x6 (IntKind.u64.wrap (Int.tdiv (IntKind.u64.wrap ((IntKind.u64.wrap ((rd x5 (wrap64 (x6 + x8))) + (IntKind.u64.wrap ((rd x0 x6) * (rd x1 x8))))) + x7)) 65536)) (wrap64 (x8 + 1))) else (none)) else (none)) else (none)) else (none)) else (none)) else (if 0 ≤ (wrap64 (x6 + (x1.length : Int))) then (if (wrap64 (x6 + (x1.length : Int))) < (x5.length : Int) then (windbreakref01_mul.l0 k x0 x1 (x5.set ((wrap64 (x6 + (x1.length : Int))) : Int).toNat x7) (wrap64 (x6 + 1))) else (none)) else (none))
end
def windbreakref01_mul.f (k : Nat) (l0 : List Int) (l1 : List Int) : Option (List Int) := if 0 ≤ (wrap64 ((l0.length : Int) + (l1.length : Int))) then (if (wrap64 ((l0.length : Int) + (l1.length : Int)) : Int).toNat ≤ 35184372088832 then (windbreakref01_mul.l0 k l0 l1 (List.replicate (wrap64 ((l0.length : Int) + (l1.length : Int)) : Int).toNat 0) 0) else (none)) else (none)
set_option maxHeartbeats 8000000 in
set_option maxRecDepth 100000 in
theorem windbreakref01_mul.calls (k : Nat) (A0 : Option Addr) (c0 : Nat) (l0 : List Int) (A1 : Option Addr) (c1 : Nat) (l1 : List Int) (r : List Int) (w : World) (hr0 : Kd.C (Kd.int .u64) w A0 l0.length l0) (hc0 : l0.length ≤ c0) (hr1 : Kd.C (Kd.int .u64) w A1 l1.length l1) (hc1 : l1.length ≤ c1) (h : windbreakref01_mul.f k l0 l1 = some r) :
  Calls Try.prog 131 #[.slice A0 l0.length c0, .slice A1 l1.length c1] w fun e w' => ∃ v0_ : Value, e = .returned (v0_) ∧ Kd.R (Kd.int .u64) 30 w' w.heap.size (fun _ => True) v0_ r ∧ Below w.heap.size w w' := by
 have HR0 := Aside0.mk hr0; have HC0 := Aside0.mk hc0; clear hr0 hc0; have HR1 := Aside0.mk hr1; have HC1 := Aside0.mk hc1; clear hr1 hc1
 have HB := Aside0.mk (Below.refl w.heap.size w)
 have H : (if 0 ≤ (wrap64 ((l0.length : Int) + (l1.length : Int))) then (if (wrap64 ((l0.length : Int) + (l1.length : Int)) : Int).toNat ≤ 35184372088832 then (windbreakref01_mul.l0 k l0 l1 (List.replicate (wrap64 ((l0.length : Int) + (l1.length : Int)) : Int).toNat 0) 0) else (none)) else (none)) = some r := h
 clear h
 obtain ⟨ji3, hji3⟩ : ∃ j_ : Int, (wrap64 ((l0.length : Int) + (l1.length : Int))) = j_ := ⟨_, rfl⟩
 first | rw [hji3] at H | simp only [hji3] at H
 have hji3w : (IntKind.i64.wrap ((l0.length : Int) + (l1.length : Int))) = ji3 := (i64_w _).trans hji3
 replace H := uT H; obtain ⟨c4, H⟩ := H
 have c4b0 := eq_true c4
 have c4b1 : decide (0 ≤ (ji3)) = true := decide_eq_true c4
 clear c4
 replace H := uT H; obtain ⟨c5, H⟩ := H
 have c5b0 := eq_true c5
 have c5b1 : decide ((ji3 : Int).toNat ≤ 35184372088832) = true := decide_eq_true c5
 clear c5
 obtain ⟨y375, hy375⟩ : ∃ y_ : List Int, y_ = (List.replicate (ji3 : Int).toNat 0) := ⟨_, rfl⟩
 replace H : (windbreakref01_mul.l0 k l0 l1 y375 0) = some r := by first | (rw [hy375]; with_reducible exact H) | (have H2_ := (Option.bind_some _ _).symm.trans H; rw [hy375]; with_reducible exact H2_) | (have H2_ := (Option.bind_some _ _).symm.trans H; with_reducible exact H2_) | with_reducible exact H | (rw [hy375]; exact H) | exact H
 have Ny375 := Aside0.mk hy375; clear hy375
 have H' := Aside0.mk H
 clear H
 go_enter Try.func131, Try.ntmps131
 go_wp2_with (first | ((with_reducible refine gate_dst (N := 15) rfl ?_); refine Kd.R_make (Kd.int .u64) _ 30 rfl (N := 15) rfl 125 _ _ rfl ji3 rfl rfl Try.underlying125 (.int .u64 0) 8 info30 rfl (by decide) (by omega) 0 (ok := fun _ => True) (okp := fun _ => True) rfl (fun _ hk => hk) trivial uO (Nat.le_trans (Nat.mul_le_mul_right _ (uO : ji3.toNat ≤ 35184372088832)) (by omega)) (Below.refl _ _) (Nat.le_refl _) ?_; intro v376 w6 ho7 hb hg_ hnew_; clear hg_ hnew_; (first | rw [← Ny375.out] at ho7 | (simp only [Int.reduceToNat] at ho7; rw [← Ny375.out] at ho7)); have HO377 := Aside0.mk (Kd.R_lower ho7 (below_size uB)); replace HB := uy hb; clear hb ho7))
 repeat (go_quiet (first | ((with_reducible refine gate_dst (N := 15) rfl ?_); refine Kd.R_make (Kd.int .u64) _ 30 rfl (N := 15) rfl 125 _ _ rfl ji3 rfl rfl Try.underlying125 (.int .u64 0) 8 info30 rfl (by decide) (by omega) 0 (ok := fun _ => True) (okp := fun _ => True) rfl (fun _ hk => hk) trivial uO (Nat.le_trans (Nat.mul_le_mul_right _ (uO : ji3.toNat ≤ 35184372088832)) (by omega)) (Below.refl _ _) (Nat.le_refl _) ?_; intro v376 w6 ho7 hb hg_ hnew_; clear hg_ hnew_; (first | rw [← Ny375.out] at ho7 | (simp only [Int.reduceToNat] at ho7; rw [← Ny375.out] at ho7)); have HO377 := Aside0.mk (Kd.R_lower ho7 (below_size uB)); replace HB := uy hb; clear hb ho7)); try go_wp2_with (first | ((with_reducible refine gate_dst (N := 15) rfl ?_); refine Kd.R_make (Kd.int .u64) _ 30 rfl (N := 15) rfl 125 _ _ rfl ji3 rfl rfl Try.underlying125 (.int .u64 0) 8 info30 rfl (by decide) (by omega) 0 (ok := fun _ => True) (okp := fun _ => True) rfl (fun _ hk => hk) trivial uO (Nat.le_trans (Nat.mul_le_mul_right _ (uO : ji3.toNat ≤ 35184372088832)) (by omega)) (Below.refl _ _) (Nat.le_refl _) ?_; intro v376 w6 ho7 hb hg_ hnew_; clear hg_ hnew_; (first | rw [← Ny375.out] at ho7 | (simp only [Int.reduceToNat] at ho7; rw [← Ny375.out] at ho7)); have HO377 := Aside0.mk (Kd.R_lower ho7 (below_size uB)); replace HB := uy hb; clear hb ho7)))
 go_loopg [6] k (fun kq v6 w' => ∃ (x5_1 : List Int) (x6_1 : Int), v6 = .int .i64 x6_1 ∧ Aside0 (windbreakref01_mul.l0 kq l0 l1 x5_1 x6_1 = some r) ∧ Aside0 (kq ≤ k) ∧ Aside0 (Kd.R (Kd.int .u64) 30 w' w.heap.size (fun _ => True) v376 x5_1) ∧ Aside0 (Below w.heap.size w w'))
 case atStart => exact ⟨(y375), (0), uG, H', ⟨Nat.le_refl _⟩, ⟨uR HO377.out⟩, ⟨uB⟩⟩
 case round =>
  clear H'
  (try clear c1); (try clear p2); (try clear c4); (try clear c4b0); (try clear c4b1); (try clear c5); (try clear c5b0); (try clear c5b1); (try clear p6)
  obtain ⟨x5_1, x6_1, rfl, HA, HK1, HO_5, HB⟩ := hrel
  cases gk with
  | zero => exact absurd HA.out (by simp [windbreakref01_mul.l0])
  | succ k1 =>
   have H := HA.out
   clear HA
   simp only [windbreakref01_mul.l0] at H
   by_cases c8 : x6_1 < (l0.length : Int)
   ·
    rw [if_pos c8] at H
    have c8b0 : decide (x6_1 < (l0.length : Int)) = true := decide_eq_true c8
    clear c8
    have H' := Aside0.mk H
    clear H
    go_wp2
    repeat (go_quiet (fail); try go_wp2)
    go_loopg [7, 8] k1 (fun kq v7 v8 w' => ∃ (x5_2 : List Int) (x7_2 : Int) (x8_2 : Int), v7 = .int .u64 x7_2 ∧ v8 = .int .i64 x8_2 ∧ Aside0 (windbreakref01_mul.l1 kq l0 l1 x5_2 x6_1 x7_2 x8_2 = some r) ∧ Aside0 (kq ≤ k1) ∧ Aside0 (Kd.R (Kd.int .u64) 30 w' w.heap.size (fun _ => True) v376 x5_2) ∧ Aside0 (Below w.heap.size w w'))
    case atStart => exact ⟨(x5_1), (0), (0), uG, uG, H', ⟨Nat.le_refl _⟩, ⟨uR HO_5.out⟩, ⟨uB⟩⟩
    case round =>
     clear H'
     (try clear c1); (try clear p2); (try clear c4); (try clear c4b0); (try clear c4b1); (try clear c5); (try clear c5b0); (try clear c5b1); (try clear p6); (try clear c8); (try clear c8b0); (try clear p2); (try clear p6)
     obtain ⟨x5_2, x7_2, x8_2, rfl, rfl, HA, HK2, HO_5, HB⟩ := hrel
     cases gk with
     | zero => exact absurd HA.out (by simp [windbreakref01_mul.l1])
     | succ k2 =>
      have H := HA.out
      clear HA
      simp only [windbreakref01_mul.l1] at H
      by_cases c9 : x8_2 < (l1.length : Int)
      ·
       rw [if_pos c9] at H
       have c9b0 : decide (x8_2 < (l1.length : Int)) = true := decide_eq_true c9
       clear c9
       obtain ⟨ji10, hji10⟩ : ∃ j_ : Int, (wrap64 (x6_1 + x8_2)) = j_ := ⟨_, rfl⟩
       first | rw [hji10] at H | simp only [hji10] at H
       have hji10w : (IntKind.i64.wrap (x6_1 + x8_2)) = ji10 := (i64_w _).trans hji10
       replace H := uT H; obtain ⟨c11, H⟩ := H
       have c11b0 : decide (0 ≤ (ji10)) = true := decide_eq_true c11
       clear c11
       replace H := uT H; obtain ⟨c12, H⟩ := H
       have c12b0 : decide ((ji10) < (x5_2.length : Int)) = true := decide_eq_true c12
       clear c12
       replace H := uT H; obtain ⟨c13, H⟩ := H
       have c13b0 : decide (0 ≤ x6_1) = true := decide_eq_true c13
       clear c13
       replace H := uT H; obtain ⟨c14, H⟩ := H
       have c14b0 : decide (x6_1 < (l0.length : Int)) = true := decide_eq_true c14
       clear c14
       replace H := uT H; obtain ⟨c15, H⟩ := H
       have c15b0 : decide (0 ≤ x8_2) = true := decide_eq_true c15
       clear c15
       obtain ⟨y384, hy384⟩ : ∃ y_ : List Int, y_ = (x5_2.set ((ji10) : Int).toNat (Int.tmod (IntKind.u64.wrap ((IntKind.u64.wrap ((rd x5_2 (ji10)) + (IntKind.u64.wrap ((rd l0 x6_1) * (rd l1 x8_2))))) + x7_2)) 65536)) := ⟨_, rfl⟩
       replace H : (windbreakref01_mul.l1 k2 l0 l1 y384 x6_1 (IntKind.u64.wrap (Int.tdiv (IntKind.u64.wrap ((IntKind.u64.wrap ((rd x5_2 (ji10)) + (IntKind.u64.wrap ((rd l0 x6_1) * (rd l1 x8_2))))) + x7_2)) 65536)) (wrap64 (x8_2 + 1))) = some r := by first | (rw [hy384]; with_reducible exact H) | (have H2_ := (Option.bind_some _ _).symm.trans H; rw [hy384]; with_reducible exact H2_) | (have H2_ := (Option.bind_some _ _).symm.trans H; with_reducible exact H2_) | with_reducible exact H | (rw [hy384]; exact H) | exact H
       have Ny384 := Aside0.mk hy384; clear hy384
       have H' := Aside0.mk H
       clear H
       obtain ⟨Ao17, co17, eo17⟩ := Kd.R_slice HO_5.out
       subst eo17
       have p381 : 0 ≤ ((ji10) : Int) := uO
       have q381 : (ji10) < (x5_2.length : Int) := uO
       obtain ⟨ad381, e381, hx381_0⟩ := Kd.at_int (Kd.R_reads' HO_5.out).2.2 (ji10) p381 q381
       cases e381
       replace p381 := eq_true p381
       replace q381 := eq_true q381
       have p382 : 0 ≤ (x6_1 : Int) := uO
       have q382 : x6_1 < (l0.length : Int) := uO
       obtain ⟨ad382, e382, hx382_0⟩ := Kd.at_int HR0.out x6_1 p382 q382
       cases e382
       replace hx382_0 := (HB.out.cell (World.block_lt_of_cell? w _ hx382_0)).trans hx382_0
       replace p382 := eq_true p382
       replace q382 := eq_true q382
       have p383 : 0 ≤ (x8_2 : Int) := uO
       have q383 : x8_2 < (l1.length : Int) := uO
       obtain ⟨ad383, e383, hx383_0⟩ := Kd.at_int HR1.out x8_2 p383 q383
       cases e383
       replace hx383_0 := (HB.out.cell (World.block_lt_of_cell? w _ hx383_0)).trans hx383_0
       replace p383 := eq_true p383
       replace q383 := eq_true q383
       have p16 : 0 ≤ ((ji10) : Int) := uO
       have q16 : ((ji10) : Int) < ((x5_2.length : Int) : Int) := uO
       obtain ⟨go16, co16, eo16, gb16, gl16, cl16, HG16⟩ := Kd.R_form HO_5.out (by omega)
       (first | cases eo16 | (injection eo16 with ea_ en_ ec_; (first | subst ea_ | (injection ea_ with ea_; subst ea_)); subst ec_; clear en_))
       have GB16 := Aside0.mk gb16; have GG16 := Aside0.mk HG16; clear gb16 gl16 HG16
       (first | simp only [add_plain] at hx381_0 | skip)
       obtain ⟨hx16_0, hf16_0⟩ := Kd.R_celln 0 HO_5.out ((ji10) : Int) p16 q16
       replace p16 := eq_true p16
       replace q16 := eq_true q16
       have HP18 := Kd.R_putg HO_5.out ((ji10) : Int) (Int.tmod (IntKind.u64.wrap ((IntKind.u64.wrap ((rd x5_2 (ji10)) + (IntKind.u64.wrap ((rd l0 x6_1) * (rd l1 x8_2))))) + x7_2)) 65536)
       go_wp2_with (first | ((with_reducible refine gate_store (t := 30) (p := 52) rfl ?_); (try (rw [drewN_self wr]; generalize hq_ : World.drewN wr _ = wr; replace HO_5 := Aside0.mk (Kd.R_at hq_ HO_5.out); replace HB := Aside0.mk (below_at hq_ HB.out); clear hq_; (try (have HP18 := Kd.R_putg HO_5.out ((ji10) : Int) (Int.tmod (IntKind.u64.wrap ((IntKind.u64.wrap ((rd x5_2 (ji10)) + (IntKind.u64.wrap ((rd l0 x6_1) * (rd l1 x8_2))))) + x7_2)) 65536))))); refine store_event (t := 30) (p := 52) (v := ?vo_w19) (w1 := (wr.setCell ⟨go16, ((ji10) : Int).toNat, none⟩ (.int .u64 (Int.tmod (IntKind.u64.wrap ((IntKind.u64.wrap ((rd x5_2 (ji10)) + (IntKind.u64.wrap ((rd l0 x6_1) * (rd l1 x8_2))))) + x7_2)) 65536)))) ?hg ?ho ?hn ?hr ?_; (case ho => rfl); (case hg => rfl); (case hn => rfl); (case hr => first | (go_simp; done) | (go_simp; rfl) | (obtain ⟨hy_, hz_⟩ := Kd.R_celln 0 HO_5.out ((ji10) : Int) uO uO; (try simp only [Go.IntWalk.toNatUp] at hy_ hz_); (try simp only [Int.reduceToNat, Int.toNat_zero, Int.toNat_ofNat] at hy_ hz_); first | (go_simp; done) | (go_simp; rfl))); intro w19 hw; have hg : wr.grownBy w19 (some go16) := (by rw [hw]; exact HP18.2); have hp_ : Kd.R (Kd.int .u64) 30 w19 w.heap.size (fun _ => True) (.slice (some ⟨go16, 0, none⟩) x5_2.length co17) y384 := (by rw [hw, Ny384.out]; exact HP18.1); clear HP18; replace HO_5 := Aside0.mk (hp_); replace HB := Aside0.mk ((by rw [hw]; exact below_set (HB.out) GB16.out : Below w.heap.size w w19)); clear hg hw hp_))
       repeat (go_quiet (first | ((with_reducible refine gate_store (t := 30) (p := 52) rfl ?_); (try (rw [drewN_self wr]; generalize hq_ : World.drewN wr _ = wr; replace HO_5 := Aside0.mk (Kd.R_at hq_ HO_5.out); replace HB := Aside0.mk (below_at hq_ HB.out); clear hq_; (try (have HP18 := Kd.R_putg HO_5.out ((ji10) : Int) (Int.tmod (IntKind.u64.wrap ((IntKind.u64.wrap ((rd x5_2 (ji10)) + (IntKind.u64.wrap ((rd l0 x6_1) * (rd l1 x8_2))))) + x7_2)) 65536))))); refine store_event (t := 30) (p := 52) (v := ?vo_w19) (w1 := (wr.setCell ⟨go16, ((ji10) : Int).toNat, none⟩ (.int .u64 (Int.tmod (IntKind.u64.wrap ((IntKind.u64.wrap ((rd x5_2 (ji10)) + (IntKind.u64.wrap ((rd l0 x6_1) * (rd l1 x8_2))))) + x7_2)) 65536)))) ?hg ?ho ?hn ?hr ?_; (case ho => rfl); (case hg => rfl); (case hn => rfl); (case hr => first | (go_simp; done) | (go_simp; rfl) | (obtain ⟨hy_, hz_⟩ := Kd.R_celln 0 HO_5.out ((ji10) : Int) uO uO; (try simp only [Go.IntWalk.toNatUp] at hy_ hz_); (try simp only [Int.reduceToNat, Int.toNat_zero, Int.toNat_ofNat] at hy_ hz_); first | (go_simp; done) | (go_simp; rfl))); intro w19 hw; have hg : wr.grownBy w19 (some go16) := (by rw [hw]; exact HP18.2); have hp_ : Kd.R (Kd.int .u64) 30 w19 w.heap.size (fun _ => True) (.slice (some ⟨go16, 0, none⟩) x5_2.length co17) y384 := (by rw [hw, Ny384.out]; exact HP18.1); clear HP18; replace HO_5 := Aside0.mk (hp_); replace HB := Aside0.mk ((by rw [hw]; exact below_set (HB.out) GB16.out : Below w.heap.size w w19)); clear hg hw hp_)); try go_wp2_with (first | ((with_reducible refine gate_store (t := 30) (p := 52) rfl ?_); (try (rw [drewN_self wr]; generalize hq_ : World.drewN wr _ = wr; replace HO_5 := Aside0.mk (Kd.R_at hq_ HO_5.out); replace HB := Aside0.mk (below_at hq_ HB.out); clear hq_; (try (have HP18 := Kd.R_putg HO_5.out ((ji10) : Int) (Int.tmod (IntKind.u64.wrap ((IntKind.u64.wrap ((rd x5_2 (ji10)) + (IntKind.u64.wrap ((rd l0 x6_1) * (rd l1 x8_2))))) + x7_2)) 65536))))); refine store_event (t := 30) (p := 52) (v := ?vo_w19) (w1 := (wr.setCell ⟨go16, ((ji10) : Int).toNat, none⟩ (.int .u64 (Int.tmod (IntKind.u64.wrap ((IntKind.u64.wrap ((rd x5_2 (ji10)) + (IntKind.u64.wrap ((rd l0 x6_1) * (rd l1 x8_2))))) + x7_2)) 65536)))) ?hg ?ho ?hn ?hr ?_; (case ho => rfl); (case hg => rfl); (case hn => rfl); (case hr => first | (go_simp; done) | (go_simp; rfl) | (obtain ⟨hy_, hz_⟩ := Kd.R_celln 0 HO_5.out ((ji10) : Int) uO uO; (try simp only [Go.IntWalk.toNatUp] at hy_ hz_); (try simp only [Int.reduceToNat, Int.toNat_zero, Int.toNat_ofNat] at hy_ hz_); first | (go_simp; done) | (go_simp; rfl))); intro w19 hw; have hg : wr.grownBy w19 (some go16) := (by rw [hw]; exact HP18.2); have hp_ : Kd.R (Kd.int .u64) 30 w19 w.heap.size (fun _ => True) (.slice (some ⟨go16, 0, none⟩) x5_2.length co17) y384 := (by rw [hw, Ny384.out]; exact HP18.1); clear HP18; replace HO_5 := Aside0.mk (hp_); replace HB := Aside0.mk ((by rw [hw]; exact below_set (HB.out) GB16.out : Below w.heap.size w w19)); clear hg hw hp_)))
       first | go_roundg k2 | ((try simp only [← hji10] at H'); simp only [← hji10]; go_roundg k2) | ((try simp only [← hji3] at H'); simp only [← hji3]; go_roundg k2)
       case measure => have := HK1.out; have := HK2.out; omega
       case rel => first | exact ⟨(y384), (IntKind.u64.wrap (Int.tdiv (IntKind.u64.wrap ((IntKind.u64.wrap ((rd x5_2 (ji10)) + (IntKind.u64.wrap ((rd l0 x6_1) * (rd l1 x8_2))))) + x7_2)) 65536)), (wrap64 (x8_2 + 1)), (by first | rfl | (simp; done) | (simp only [← hji10] <;> (first | rfl | simp)) | (simp [*]; done)), uG, H', ⟨by have := HK1.out; have := HK2.out; omega⟩, ⟨uR HO_5.out⟩, ⟨uB⟩⟩ | (simp only [← hji10] at H'; exact ⟨(y384), (IntKind.u64.wrap (Int.tdiv (IntKind.u64.wrap ((IntKind.u64.wrap ((rd x5_2 (ji10)) + (IntKind.u64.wrap ((rd l0 x6_1) * (rd l1 x8_2))))) + x7_2)) 65536)), (wrap64 (x8_2 + 1)), (by first | rfl | (simp; done) | (simp only [← hji10] <;> (first | rfl | simp)) | (simp [*]; done)), uG, H', ⟨by have := HK1.out; have := HK2.out; omega⟩, ⟨uR HO_5.out⟩, ⟨uB⟩⟩) | (simp only [← hji3] at H'; exact ⟨(y384), (IntKind.u64.wrap (Int.tdiv (IntKind.u64.wrap ((IntKind.u64.wrap ((rd x5_2 (ji10)) + (IntKind.u64.wrap ((rd l0 x6_1) * (rd l1 x8_2))))) + x7_2)) 65536)), (wrap64 (x8_2 + 1)), (by first | rfl | (simp; done) | (simp only [← hji10] <;> (first | rfl | simp)) | (simp [*]; done)), uG, H', ⟨by have := HK1.out; have := HK2.out; omega⟩, ⟨uR HO_5.out⟩, ⟨uB⟩⟩)
      rw [if_neg c9] at H
      have c9b0 : decide (x8_2 < (l1.length : Int)) = false := decide_eq_false c9
      clear c9
      obtain ⟨ji20, hji20⟩ : ∃ j_ : Int, (wrap64 (x6_1 + (l1.length : Int))) = j_ := ⟨_, rfl⟩
      first | rw [hji20] at H | simp only [hji20] at H
      have hji20w : (IntKind.i64.wrap (x6_1 + (l1.length : Int))) = ji20 := (i64_w _).trans hji20
      replace H := uT H; obtain ⟨c21, H⟩ := H
      have c21b0 : decide (0 ≤ (ji20)) = true := decide_eq_true c21
      clear c21
      replace H := uT H; obtain ⟨c22, H⟩ := H
      have c22b0 : decide ((ji20) < (x5_2.length : Int)) = true := decide_eq_true c22
      clear c22
      obtain ⟨y385, hy385⟩ : ∃ y_ : List Int, y_ = (x5_2.set ((ji20) : Int).toNat x7_2) := ⟨_, rfl⟩
      replace H : (windbreakref01_mul.l0 k2 l0 l1 y385 (wrap64 (x6_1 + 1))) = some r := by first | (rw [hy385]; with_reducible exact H) | (have H2_ := (Option.bind_some _ _).symm.trans H; rw [hy385]; with_reducible exact H2_) | (have H2_ := (Option.bind_some _ _).symm.trans H; with_reducible exact H2_) | with_reducible exact H | (rw [hy385]; exact H) | exact H
      have Ny385 := Aside0.mk hy385; clear hy385
      have H' := Aside0.mk H
      clear H
      have p23 : 0 ≤ ((ji20) : Int) := uO
      have q23 : ((ji20) : Int) < ((x5_2.length : Int) : Int) := uO
      obtain ⟨go23, co23, eo23, gb23, gl23, cl23, HG23⟩ := Kd.R_form HO_5.out (by omega)
      (first | cases eo23 | (injection eo23 with ea_ en_ ec_; (first | subst ea_ | (injection ea_ with ea_; subst ea_)); subst ec_; clear en_))
      have GB23 := Aside0.mk gb23; have GG23 := Aside0.mk HG23; clear gb23 gl23 HG23
      obtain ⟨hx23_0, hf23_0⟩ := Kd.R_celln 0 HO_5.out ((ji20) : Int) p23 q23
      replace p23 := eq_true p23
      replace q23 := eq_true q23
      have HP24 := Kd.R_putg HO_5.out ((ji20) : Int) x7_2
      go_wp2_with (first | ((with_reducible refine gate_store (t := 30) (p := 61) rfl ?_); (try (rw [drewN_self wr]; generalize hq_ : World.drewN wr _ = wr; replace HO_5 := Aside0.mk (Kd.R_at hq_ HO_5.out); replace HB := Aside0.mk (below_at hq_ HB.out); clear hq_; (try (have HP24 := Kd.R_putg HO_5.out ((ji20) : Int) x7_2)))); refine store_event (t := 30) (p := 61) (v := ?vo_w25) (w1 := (wr.setCell ⟨go23, ((ji20) : Int).toNat, none⟩ (.int .u64 x7_2))) ?hg ?ho ?hn ?hr ?_; (case ho => rfl); (case hg => rfl); (case hn => rfl); (case hr => first | (go_simp; done) | (go_simp; rfl) | (obtain ⟨hy_, hz_⟩ := Kd.R_celln 0 HO_5.out ((ji20) : Int) uO uO; (try simp only [Go.IntWalk.toNatUp] at hy_ hz_); (try simp only [Int.reduceToNat, Int.toNat_zero, Int.toNat_ofNat] at hy_ hz_); first | (go_simp; done) | (go_simp; rfl))); intro w25 hw; have hg : wr.grownBy w25 (some go23) := (by rw [hw]; exact HP24.2); have hp_ : Kd.R (Kd.int .u64) 30 w25 w.heap.size (fun _ => True) (.slice (some ⟨go23, 0, none⟩) x5_2.length co23) y385 := (by rw [hw, Ny385.out]; exact HP24.1); clear HP24; replace HO_5 := Aside0.mk (hp_); replace HB := Aside0.mk ((by rw [hw]; exact below_set (HB.out) GB23.out : Below w.heap.size w w25)); clear hg hw hp_))
      repeat (go_quiet (first | ((with_reducible refine gate_store (t := 30) (p := 61) rfl ?_); (try (rw [drewN_self wr]; generalize hq_ : World.drewN wr _ = wr; replace HO_5 := Aside0.mk (Kd.R_at hq_ HO_5.out); replace HB := Aside0.mk (below_at hq_ HB.out); clear hq_; (try (have HP24 := Kd.R_putg HO_5.out ((ji20) : Int) x7_2)))); refine store_event (t := 30) (p := 61) (v := ?vo_w25) (w1 := (wr.setCell ⟨go23, ((ji20) : Int).toNat, none⟩ (.int .u64 x7_2))) ?hg ?ho ?hn ?hr ?_; (case ho => rfl); (case hg => rfl); (case hn => rfl); (case hr => first | (go_simp; done) | (go_simp; rfl) | (obtain ⟨hy_, hz_⟩ := Kd.R_celln 0 HO_5.out ((ji20) : Int) uO uO; (try simp only [Go.IntWalk.toNatUp] at hy_ hz_); (try simp only [Int.reduceToNat, Int.toNat_zero, Int.toNat_ofNat] at hy_ hz_); first | (go_simp; done) | (go_simp; rfl))); intro w25 hw; have hg : wr.grownBy w25 (some go23) := (by rw [hw]; exact HP24.2); have hp_ : Kd.R (Kd.int .u64) 30 w25 w.heap.size (fun _ => True) (.slice (some ⟨go23, 0, none⟩) x5_2.length co23) y385 := (by rw [hw, Ny385.out]; exact HP24.1); clear HP24; replace HO_5 := Aside0.mk (hp_); replace HB := Aside0.mk ((by rw [hw]; exact below_set (HB.out) GB23.out : Below w.heap.size w w25)); clear hg hw hp_)); try go_wp2_with (first | ((with_reducible refine gate_store (t := 30) (p := 61) rfl ?_); (try (rw [drewN_self wr]; generalize hq_ : World.drewN wr _ = wr; replace HO_5 := Aside0.mk (Kd.R_at hq_ HO_5.out); replace HB := Aside0.mk (below_at hq_ HB.out); clear hq_; (try (have HP24 := Kd.R_putg HO_5.out ((ji20) : Int) x7_2)))); refine store_event (t := 30) (p := 61) (v := ?vo_w25) (w1 := (wr.setCell ⟨go23, ((ji20) : Int).toNat, none⟩ (.int .u64 x7_2))) ?hg ?ho ?hn ?hr ?_; (case ho => rfl); (case hg => rfl); (case hn => rfl); (case hr => first | (go_simp; done) | (go_simp; rfl) | (obtain ⟨hy_, hz_⟩ := Kd.R_celln 0 HO_5.out ((ji20) : Int) uO uO; (try simp only [Go.IntWalk.toNatUp] at hy_ hz_); (try simp only [Int.reduceToNat, Int.toNat_zero, Int.toNat_ofNat] at hy_ hz_); first | (go_simp; done) | (go_simp; rfl))); intro w25 hw; have hg : wr.grownBy w25 (some go23) := (by rw [hw]; exact HP24.2); have hp_ : Kd.R (Kd.int .u64) 30 w25 w.heap.size (fun _ => True) (.slice (some ⟨go23, 0, none⟩) x5_2.length co23) y385 := (by rw [hw, Ny385.out]; exact HP24.1); clear HP24; replace HO_5 := Aside0.mk (hp_); replace HB := Aside0.mk ((by rw [hw]; exact below_set (HB.out) GB23.out : Below w.heap.size w w25)); clear hg hw hp_)))
      first | go_roundg k2 | ((try simp only [← hji20] at H'); simp only [← hji20]; go_roundg k2) | ((try simp only [← hji10] at H'); simp only [← hji10]; go_roundg k2) | ((try simp only [← hji3] at H'); simp only [← hji3]; go_roundg k2)
      case measure => have := HK1.out; have := HK2.out; omega
      case rel => first | exact ⟨(y385), (wrap64 (x6_1 + 1)), uG, H', ⟨by have := HK1.out; have := HK2.out; omega⟩, ⟨uR HO_5.out⟩, ⟨uB⟩⟩ | (simp only [← hji20] at H'; exact ⟨(y385), (wrap64 (x6_1 + 1)), uG, H', ⟨by have := HK1.out; have := HK2.out; omega⟩, ⟨uR HO_5.out⟩, ⟨uB⟩⟩) | (simp only [← hji10] at H'; exact ⟨(y385), (wrap64 (x6_1 + 1)), uG, H', ⟨by have := HK1.out; have := HK2.out; omega⟩, ⟨uR HO_5.out⟩, ⟨uB⟩⟩) | (simp only [← hji3] at H'; exact ⟨(y385), (wrap64 (x6_1 + 1)), uG, H', ⟨by have := HK1.out; have := HK2.out; omega⟩, ⟨uR HO_5.out⟩, ⟨uB⟩⟩)
   rw [if_neg c8] at H
   have c8b0 : decide (x6_1 < (l0.length : Int)) = false := decide_eq_false c8
   clear c8
   replace H := ub H; obtain ⟨t378, A26, H⟩ := H
   obtain rfl := Option.some.inj H
   obtain ⟨Ao27, co27, eo27⟩ := Kd.R_slice HO_5.out
   subst eo27
   go_wp2_with (first | (go_at_call 125; (with_reducible refine (windbreakref01_cut.calls k1 (fun k_ => some k_ = (.slice Ao27 x5_1.length co27 : Value).ownBlock) (.slice Ao27 x5_1.length co27) x5_1 t378 w _ ?side1 ?side2 A26.out).mono ?_); (case side1 => repeat (first | (with_reducible first | exact HB.out | apply below_alloc | apply pw_below_drewN | apply below_drew1) | exact HB.out)); (case side2 => exact Kd.R_tight rfl HO_5.out); rintro e w28 ⟨v379, rfl, ho0, hb, hkp⟩; have HO380 := Aside0.mk (Kd.R_mono (ok' := fun k_ => True) ho0 (fun k_ hk_ => trivial)); replace HB := Aside0.mk (hb); clear HO_5; (try clear hb); (try clear hkp); (try clear ho0)))
   repeat (go_quiet (first | (go_at_call 125; (with_reducible refine (windbreakref01_cut.calls k1 (fun k_ => some k_ = (.slice Ao27 x5_1.length co27 : Value).ownBlock) (.slice Ao27 x5_1.length co27) x5_1 t378 w _ ?side1 ?side2 A26.out).mono ?_); (case side1 => repeat (first | (with_reducible first | exact HB.out | apply below_alloc | apply pw_below_drewN | apply below_drew1) | exact HB.out)); (case side2 => exact Kd.R_tight rfl HO_5.out); rintro e w28 ⟨v379, rfl, ho0, hb, hkp⟩; have HO380 := Aside0.mk (Kd.R_mono (ok' := fun k_ => True) ho0 (fun k_ hk_ => trivial)); replace HB := Aside0.mk (hb); clear HO_5; (try clear hb); (try clear hkp); (try clear ho0))); try go_wp2_with (first | (go_at_call 125; (with_reducible refine (windbreakref01_cut.calls k1 (fun k_ => some k_ = (.slice Ao27 x5_1.length co27 : Value).ownBlock) (.slice Ao27 x5_1.length co27) x5_1 t378 w _ ?side1 ?side2 A26.out).mono ?_); (case side1 => repeat (first | (with_reducible first | exact HB.out | apply below_alloc | apply pw_below_drewN | apply below_drew1) | exact HB.out)); (case side2 => exact Kd.R_tight rfl HO_5.out); rintro e w28 ⟨v379, rfl, ho0, hb, hkp⟩; have HO380 := Aside0.mk (Kd.R_mono (ok' := fun k_ => True) ho0 (fun k_ hk_ => trivial)); replace HB := Aside0.mk (hb); clear HO_5; (try clear hb); (try clear hkp); (try clear ho0))))
   go_ret
   exact ⟨_, by first | rfl | (simp [errW_none, errW_some] <;> rfl) | (simp only [← hji3]; first | rfl | (simp [errW_none, errW_some] <;> rfl)) | (simp [*, errW_none, errW_some] <;> rfl), uR HO380.out, uB⟩
end Go.Proofs.Ytkgaejigpmkfkaa.F
end
section
namespace Go.Proofs.Ytkgaejigpmkfkaa.F
open Go.RowKit Go.Proofs.YtkgaejigpmkfkaaW.PrintWords Go.Proofs.YtkgaejigpmkfkaaW.PrintLast Go.Proofs.YtkgaejigpmkfkaaW.PrintMore
attribute [local go_sem] max2_int min2_int max_two min_two max_three min_three max_four min_four
set_option linter.unusedVariables false
set_option linter.unusedSimpArgs false
mutual
def windbreakref01_div.l0 : Nat → List Int → List Int → List Int → List Int → Int → Option (List Int × List Int)
 | 0, _, _, _, _, _ => none
 | k + 1, x0, x1, x6, x7, x8 => if x8 ≥ 0 then (if 0 ≤ x8 then (if x8 < (x0.length : Int) then ((some (([rd x0 x8] : List Int) : List Int)).bind fun y430 => (if y430.length + x7.length < 17592186044416 then ((windbreakref01_cut.f k (y430 ++ x7)).bind fun t436 => (windbreakref01_div.l1 k x0 x1 x6 t436 x8 0 65535)) else (none))) else (none)) else (none)) else ((windbreakref01_cut.f k x6).bind fun t426 => (some (t426, x7)))
def windbreakref01_div.l1 : Nat → List Int → List Int → List Int → List Int → Int → Int → Int → Option (List Int × List Int)
 | 0, _, _, _, _, _, _, _ => none
 | k + 1, x0, x1, x6, x7, x8, x9, x10 => if x9 < x10 then ((windbreakref01_mul.f k x1 (([IntKind.u64.wrap (Int.tdiv (IntKind.u64.wrap ((IntKind.u64.wrap (x9 + x10)) + 1)) 2)] : List Int))).bind fun t452 => ((windbreakref01_compare.f k t452 x7).bind fun t455 => (if t455 ≤ 0 then (windbreakref01_div.l1 k x0 x1 x6 x7 x8 (IntKind.u64.wrap (Int.tdiv (IntKind.u64.wrap ((IntKind.u64.wrap (x9 + x10)) + 1)) 2)) x10) else (windbreakref01_div.l1 k x0 x1 x6 x7 x8 x9 (IntKind.u64.wrap ((IntKind.u64.wrap (Int.tdiv (IntKind.u64.wrap ((IntKind.u64.wrap (x9 + x10)) + 1)) 2)) - 1)))))) else (if 0 ≤ x8 then (if x8 < (x6.length : Int) then ((windbreakref01_mul.f k x1 (([x9] : List Int))).bind fun t443 => ((windbreakref01_sub.f k x7 t443).bind fun t446 => (windbreakref01_div.l0 k x0 x1 (x6.set (x8 : Int).toNat x9) t446 (wrap64 (x8 - 1))))) else (none)) else (none))
end
def windbreakref01_div.f (k : Nat) (l0 : List Int) (l1 : List Int) : Option (List Int × List Int) := if 0 ≤ (l0.length : Int) then (if ((l0.length : Int) : Int).toNat ≤ 35184372088832 then (windbreakref01_div.l0 k l0 l1 (List.replicate ((l0.length : Int) : Int).toNat 0) ([] : List Int) (wrap64 ((l0.length : Int) - 1))) else (none)) else (none)
set_option maxHeartbeats 8000000 in
set_option maxRecDepth 100000 in
theorem windbreakref01_div.calls (k : Nat) (A0 : Option Addr) (c0 : Nat) (l0 : List Int) (A1 : Option Addr) (c1 : Nat) (l1 : List Int) (r1 : List Int) (r2 : List Int) (w : World) (hr0 : Kd.C (Kd.int .u64) w A0 l0.length l0) (hc0 : l0.length ≤ c0) (hr1 : Kd.C (Kd.int .u64) w A1 l1.length l1) (hc1 : l1.length ≤ c1) (h : windbreakref01_div.f k l0 l1 = some (r1, r2)) :
  Calls Try.prog 126 #[.slice A0 l0.length c0, .slice A1 l1.length c1] w fun e w' => ∃ v0_ v1_ : Value, e = .returned (.tuple #[v0_, v1_]) ∧ Kd.R (Kd.int .u64) 30 w' w.heap.size (fun k_ => some k_ ≠ (v1_ : Value).ownBlock) v0_ r1 ∧ Kd.R (Kd.int .u64) 30 w' w.heap.size (fun k_ => some k_ ≠ (v0_ : Value).ownBlock) v1_ r2 ∧ Below w.heap.size w w' := by
 have HR0 := Aside0.mk hr0; have HC0 := Aside0.mk hc0; clear hr0 hc0; have HR1 := Aside0.mk hr1; have HC1 := Aside0.mk hc1; clear hr1 hc1
 have HB := Aside0.mk (Below.refl w.heap.size w)
 have H : (if 0 ≤ (l0.length : Int) then (if ((l0.length : Int) : Int).toNat ≤ 35184372088832 then (windbreakref01_div.l0 k l0 l1 (List.replicate ((l0.length : Int) : Int).toNat 0) ([] : List Int) (wrap64 ((l0.length : Int) - 1))) else (none)) else (none)) = some (r1, r2) := h
 clear h
 replace H := uT H; obtain ⟨c3, H⟩ := H
 have c3b0 := eq_true c3
 have c3b1 : decide (0 ≤ (l0.length : Int)) = true := decide_eq_true c3
 clear c3
 replace H := uT H; obtain ⟨c4, H⟩ := H
 have c4b0 := eq_true c4
 have c4b1 : decide (((l0.length : Int) : Int).toNat ≤ 35184372088832) = true := decide_eq_true c4
 clear c4
 obtain ⟨y423, hy423⟩ : ∃ y_ : List Int, y_ = (List.replicate ((l0.length : Int) : Int).toNat 0) := ⟨_, rfl⟩
 replace H : (windbreakref01_div.l0 k l0 l1 y423 ([] : List Int) (wrap64 ((l0.length : Int) - 1))) = some (r1, r2) := by first | (rw [hy423]; with_reducible exact H) | (have H2_ := (Option.bind_some _ _).symm.trans H; rw [hy423]; with_reducible exact H2_) | (have H2_ := (Option.bind_some _ _).symm.trans H; with_reducible exact H2_) | with_reducible exact H | (rw [hy423]; exact H) | exact H
 have Ny423 := Aside0.mk hy423; clear hy423
 have H' := Aside0.mk H
 clear H
 go_enter Try.func126, Try.ntmps126
 go_wp2_with (first | ((with_reducible refine gate_dst (N := 14) rfl ?_); refine Kd.R_make (Kd.int .u64) _ 30 rfl (N := 14) rfl 125 _ _ rfl (l0.length : Int) rfl rfl Try.underlying125 (.int .u64 0) 8 info30 rfl (by decide) (by omega) 0 (ok := fun _ => True) (okp := fun _ => True) rfl (fun _ hk => hk) trivial uO (Nat.le_trans (Nat.mul_le_mul_right _ (uO : (l0.length : Int).toNat ≤ 35184372088832)) (by omega)) (Below.refl _ _) (Nat.le_refl _) ?_; intro v424 w5 ho6 hb hg_ hnew_; clear hg_ hnew_; (first | rw [← Ny423.out] at ho6 | (simp only [Int.reduceToNat] at ho6; rw [← Ny423.out] at ho6)); have HO425 := Aside0.mk (Kd.R_lower ho6 (below_size uB)); replace HB := uy hb; clear hb ho6))
 go_loopg [7, 8] k (fun kq v7 v8 w' => ∃ (x6_1 : List Int) (x7_1 : List Int) (x8_1 : Int), v8 = .int .i64 x8_1 ∧ Aside0 (windbreakref01_div.l0 kq l0 l1 x6_1 x7_1 x8_1 = some (r1, r2)) ∧ Aside0 (kq ≤ k) ∧ Aside0 (Kd.R (Kd.int .u64) 30 w' w.heap.size (fun k_ => some k_ ≠ (v7 : Value).ownBlock) v424 x6_1) ∧ Aside0 (Kd.R (Kd.int .u64) 30 w' w.heap.size (fun k_ => some k_ ≠ (v424 : Value).ownBlock) v7 x7_1) ∧ Aside0 (Below w.heap.size w w'))
 case atStart => exact ⟨(y423), (([] : List Int)), (wrap64 ((l0.length : Int) - 1)), uG, H', ⟨Nat.le_refl _⟩, ⟨by (with_reducible repeat (first | apply Kd.R_alloc | apply Kd.R_drewN | apply Kd.R_drew)); exact Kd.R_mono HO425.out (fun _ hk => (by simp [Value.ownBlock]))⟩, ⟨by first | exact Kd.R_nil _ _ _ _ _ | exact Kd.N_nil _ _ _ _ _ | exact Kd.V_nil _ _ _ _ _ | exact Kd.Q_nil _ _ _ _ _ | exact Kd.S_nil _ _ _ _ _⟩, ⟨uB⟩⟩
 case round =>
  clear H'
  (try clear c1); (try clear p2); (try clear c3); (try clear c3b0); (try clear c3b1); (try clear c4); (try clear c4b0); (try clear c4b1); (try clear p6)
  obtain ⟨x6_1, x7_1, x8_1, rfl, HA, HK1, HO_6, HO_7, HB⟩ := hrel
  cases gk with
  | zero => exact absurd HA.out (by simp [windbreakref01_div.l0])
  | succ k1 =>
   have H := HA.out
   clear HA
   simp only [windbreakref01_div.l0] at H
   by_cases c7 : x8_1 ≥ 0
   ·
    rw [if_pos c7] at H
    have c7b0 : decide (0 ≤ x8_1) = true := decide_eq_true c7
    clear c7
    replace H := uT H; obtain ⟨c8, H⟩ := H
    have c8b0 : decide (0 ≤ x8_1) = true := decide_eq_true c8
    clear c8
    replace H := uT H; obtain ⟨c9, H⟩ := H
    have c9b0 : decide (x8_1 < (l0.length : Int)) = true := decide_eq_true c9
    clear c9
    obtain ⟨y430, hy430⟩ : ∃ y_ : List Int, y_ = (([rd l0 x8_1] : List Int)) := ⟨_, rfl⟩
    replace H : (if y430.length + x7_1.length < 17592186044416 then ((windbreakref01_cut.f k1 (y430 ++ x7_1)).bind fun t436 => (windbreakref01_div.l1 k1 l0 l1 x6_1 t436 x8_1 0 65535)) else (none)) = some (r1, r2) := by first | (rw [hy430]; with_reducible exact H) | (have H2_ := (Option.bind_some _ _).symm.trans H; rw [hy430]; with_reducible exact H2_) | (have H2_ := (Option.bind_some _ _).symm.trans H; with_reducible exact H2_) | with_reducible exact H | (rw [hy430]; exact H) | exact H
    have Ny430 := Aside0.mk hy430; clear hy430
    replace H := uT H; obtain ⟨c10, H⟩ := H
    have LMc10 := Aside0.mk c10; clear c10
    obtain ⟨y433, hy433⟩ : ∃ y_ : List Int, y_ = (y430 ++ x7_1) := ⟨_, rfl⟩
    replace H : ((windbreakref01_cut.f k1 y433).bind fun t436 => (windbreakref01_div.l1 k1 l0 l1 x6_1 t436 x8_1 0 65535)) = some (r1, r2) := by first | (rw [hy433]; with_reducible exact H) | (have H2_ := (Option.bind_some _ _).symm.trans H; rw [hy433]; with_reducible exact H2_) | (have H2_ := (Option.bind_some _ _).symm.trans H; with_reducible exact H2_) | with_reducible exact H | (rw [hy433]; exact H) | exact H
    have Ny433 := Aside0.mk hy433; clear hy433
    replace H := ub H; obtain ⟨t436, A11, H⟩ := H
    have H' := Aside0.mk H
    clear H
    have p429 : 0 ≤ (x8_1 : Int) := uO
    have q429 : x8_1 < (l0.length : Int) := uO
    obtain ⟨ad429, e429, hx429_0⟩ := Kd.at_int HR0.out x8_1 p429 q429
    cases e429
    replace hx429_0 := (HB.out.cell (World.block_lt_of_cell? w _ hx429_0)).trans hx429_0
    replace p429 := eq_true p429
    replace q429 := eq_true q429
    go_wp2_with (first | ((with_reducible refine gate_dst (N := 26) rfl ?_); refine Kd.R_lit (Kd.int .u64) _ 30 ?hg (N := 26) ?hd (xs := ([rd l0 x8_1] : List Int)) (inner := [.int .u64 (rd l0 x8_1)]) (ok := fun _ => True) (okp := fun _ => True) ?hr ?hp (fun _ hk => hk) trivial (Below.refl _ _) (Nat.le_refl _) (by simp) ?_; (case hd => rfl); (case hg => rfl); (case hr => first | (go_simp; done) | (go_simp; rfl) | (go_simp; simp only [u64_u8]; done) | (go_simp; simp only [u64_u8]; rfl)); (case hp => exact (Reps.one (show Kd.M (Kd.int .u64) _ _ _ (rd l0 x8_1) [.int .u64 (rd l0 x8_1)] from rfl) (Reps.none _ _))); intro v431 w12 ho13 hb hg_ hnew_; clear hg_ hnew_; (first | rw [← Ny430.out] at ho13 | (simp only [Int.reduceToNat] at ho13; rw [← Ny430.out] at ho13)); have HO432 := Aside0.mk (Kd.R_lower (Kd.R_new' (Kd.R_new' ho13 (Kd.R_lt (uR HO_6.out))) (Kd.R_lt (uR HO_7.out))) (below_size uB)); replace HO_6 := ueR HO_6 ho13 hb; replace HO_7 := ueR HO_7 ho13 hb; replace HB := uy hb; clear hb ho13; obtain ⟨Ao15, co15, eo15⟩ := Kd.R_slice HO_7.out; subst eo15) | ((with_reducible refine gate_builtin (b := .append) (xs := #[.tmp 26, .tmp 27]) rfl ?_); at_builtin; refine Kd.R_append_rows (Kd.int .u64) (w0 := w) w.heap.size rfl (.tmp 26) (.tmp 27) 125 30 (.int .u64 0) 8 rfl Try.underlying125 info30 rfl (by decide) (by omega) v431 y430 x7_1 _ _ _ (fun k_ => some k_ ≠ (v424 : Value).ownBlock ∧ some k_ ≠ (.slice Ao15 x7_1.length co15 : Value).ownBlock) (fun _ => False) rfl rfl ?aO ?aR (fun _ _ h => h) (fun _ h => h.elim) ?aF ?aB ?aS ?aL ?_; (case aR => exact uC (Kd.R_reads' HO_7.out).2.2); (case aB => exact uB); (case aF => exact (fun k_ hk => ⟨Kd.fresh' (Kd.R_lt (uR HO_6.out)) k_ hk, Kd.fresh' (Kd.R_lt (uR HO_7.out)) k_ hk⟩)); (case aO => exact (uR (Kd.R_mono HO432.out (fun _ hk => ⟨hk.1.2, hk.2⟩)))); (case aS => exact (below_size uB)); (case aL => have := LMc10.out; omega); intro v434 w14 ho hb hg hat; rw [← Ny433.out] at ho; replace HO_6 := Aside0.mk (Kd.R_after (ok := (fun k_ => some k_ ≠ (.slice Ao15 x7_1.length co15 : Value).ownBlock)) (uR HO_6.out) hg hat); replace HO_7 := Aside0.mk (Kd.R_after (ok := (fun k_ => some k_ ≠ (v424 : Value).ownBlock)) (uR HO_7.out) hg hat); replace HB := Aside0.mk (hb); have HO435 := Aside0.mk (ho); clear HO432; clear ho hb hg hat; obtain ⟨Ao16, co16, eo16⟩ := Kd.R_slice HO435.out; subst eo16) | ((with_reducible refine gate_callee (f := 125) rfl ?_); refine goesL_ (some 29) rfl rfl Try.func125 (by kernel_rfl) rfl #[.slice Ao16 y433.length co16] rfl uM ?_; (with_reducible refine (windbreakref01_cut.calls k1 (fun k_ => some k_ = (.slice Ao16 y433.length co16 : Value).ownBlock) (.slice Ao16 y433.length co16) y433 t436 w _ ?side1 ?side2 A11.out).mono ?_); (case side1 => repeat (first | (with_reducible first | exact HB.out | apply below_alloc | apply pw_below_drewN | apply below_drew1) | exact HB.out)); (case side2 => exact Kd.R_tight rfl HO435.out); rintro e w17 ⟨v437, rfl, ho0, hb, hkp⟩; refine ⟨_, rfl, ?_⟩; have HO438 := Aside0.mk (Kd.R_mono (ok' := fun k_ => some k_ ≠ (v424 : Value).ownBlock ∧ some k_ ≠ (.slice Ao15 x7_1.length co15 : Value).ownBlock) ho0 (fun k_ hk_ => ⟨Or.elim hk_ (fun hs_ => fun e_ => (((HO_6.out).1 k_ e_.symm).2) hs_) (fun hn_ => (Kd.fresh' (Kd.R_lt (uR HO_6.out)) k_ hn_)), Or.elim hk_ (fun hs_ => fun e_ => (((HO_7.out).1 k_ e_.symm).2) hs_) (fun hn_ => (Kd.fresh' (Kd.R_lt (uR HO_7.out)) k_ hn_))⟩)); replace HO_6 := Aside0.mk (Kd.R_mono (ok' := fun k_ => some k_ ≠ (.slice Ao15 x7_1.length co15 : Value).ownBlock ∧ some k_ ≠ (v437 : Value).ownBlock) (Kd.R_keptB (HO_6.out) hkp (fun k_ hk_ hs_ => (hk_.2) hs_)) (fun k_ hk_ => ⟨hk_.1.1, fun e_ => Or.elim (ho0.1 k_ e_.symm) (fun hs_ => hk_.2.1 hs_) (fun hn_ => Nat.not_le.2 hk_.2.2 hn_)⟩)); replace HO_7 := Aside0.mk (Kd.R_mono (ok' := fun k_ => some k_ ≠ (v424 : Value).ownBlock ∧ some k_ ≠ (v437 : Value).ownBlock) (Kd.R_keptB (HO_7.out) hkp (fun k_ hk_ hs_ => (hk_.2) hs_)) (fun k_ hk_ => ⟨hk_.1.1, fun e_ => Or.elim (ho0.1 k_ e_.symm) (fun hs_ => hk_.2.1 hs_) (fun hn_ => Nat.not_le.2 hk_.2.2 hn_)⟩)); replace HB := Aside0.mk (hb); clear HO435; (try clear hb); (try clear hkp); (try clear ho0)))
    go_loopg [9, 10] k1 (fun kq v9 v10 w' => ∃ (x9_2 : Int) (x10_2 : Int), v9 = .int .u64 x9_2 ∧ v10 = .int .u64 x10_2 ∧ Aside0 (windbreakref01_div.l1 kq l0 l1 x6_1 t436 x8_1 x9_2 x10_2 = some (r1, r2)) ∧ Aside0 (kq ≤ k1) ∧ Aside0 (Kd.R (Kd.int .u64) 30 w' w.heap.size (fun k_ => some k_ ≠ (v437 : Value).ownBlock) v424 x6_1) ∧ Aside0 (Kd.R (Kd.int .u64) 30 w' w.heap.size (fun k_ => some k_ ≠ (v424 : Value).ownBlock) v437 t436) ∧ Aside0 (Below w.heap.size w w'))
    case atStart => exact ⟨(0), (65535), uG, uG, H', ⟨Nat.le_refl _⟩, ⟨by (with_reducible repeat (first | apply Kd.R_alloc | apply Kd.R_drewN | apply Kd.R_drew)); exact Kd.R_mono HO_6.out (fun _ hk => hk.2)⟩, ⟨by (with_reducible repeat (first | apply Kd.R_alloc | apply Kd.R_drewN | apply Kd.R_drew)); exact Kd.R_mono HO438.out (fun _ hk => hk.1)⟩, ⟨uB⟩⟩
    case round =>
     clear H'
     (try clear c1); (try clear p2 p2); (try clear c3); (try clear c3b0); (try clear c3b1); (try clear c4); (try clear c4b0); (try clear c4b1); (try clear p4); (try clear q4); (try clear hx4); (try clear p6 p6); (try clear c7); (try clear c7b0); (try clear c8); (try clear c8b0); (try clear c9); (try clear c9b0); (try clear c10); (try clear c12); (try clear hx429_0); (try clear p429); (try clear q429)
     obtain ⟨x9_2, x10_2, rfl, rfl, HA, HK2, HO_6, HO_7, HB⟩ := hrel
     cases gk with
     | zero => exact absurd HA.out (by simp [windbreakref01_div.l1])
     | succ k2 =>
      have H := HA.out
      clear HA
      simp only [windbreakref01_div.l1] at H
      by_cases c18 : x9_2 < x10_2
      ·
       rw [if_pos c18] at H
       have c18b0 : decide (x9_2 < x10_2) = true := decide_eq_true c18
       clear c18
       obtain ⟨y449, hy449⟩ : ∃ y_ : List Int, y_ = (([IntKind.u64.wrap (Int.tdiv (IntKind.u64.wrap ((IntKind.u64.wrap (x9_2 + x10_2)) + 1)) 2)] : List Int)) := ⟨_, rfl⟩
       replace H : ((windbreakref01_mul.f k2 l1 y449).bind fun t452 => ((windbreakref01_compare.f k2 t452 t436).bind fun t455 => (if t455 ≤ 0 then (windbreakref01_div.l1 k2 l0 l1 x6_1 t436 x8_1 (IntKind.u64.wrap (Int.tdiv (IntKind.u64.wrap ((IntKind.u64.wrap (x9_2 + x10_2)) + 1)) 2)) x10_2) else (windbreakref01_div.l1 k2 l0 l1 x6_1 t436 x8_1 x9_2 (IntKind.u64.wrap ((IntKind.u64.wrap (Int.tdiv (IntKind.u64.wrap ((IntKind.u64.wrap (x9_2 + x10_2)) + 1)) 2)) - 1)))))) = some (r1, r2) := by first | (rw [hy449]; with_reducible exact H) | (have H2_ := (Option.bind_some _ _).symm.trans H; rw [hy449]; with_reducible exact H2_) | (have H2_ := (Option.bind_some _ _).symm.trans H; with_reducible exact H2_) | with_reducible exact H | (rw [hy449]; exact H) | exact H
       have Ny449 := Aside0.mk hy449; clear hy449
       replace H := ub H; obtain ⟨t452, A19, H⟩ := H
       replace H := ub H; obtain ⟨t455, A20, H⟩ := H
       by_cases c21 : t455 ≤ 0
       ·
        rw [if_pos c21] at H
        have c21b0 : decide (t455 ≤ 0) = true := decide_eq_true c21
        clear c21
        have H' := Aside0.mk H
        clear H
        go_wp2_with (first | ((with_reducible refine gate_dst (N := 40) rfl ?_); refine Kd.R_lit (Kd.int .u64) _ 30 ?hg (N := 40) ?hd (xs := ([IntKind.u64.wrap (Int.tdiv (IntKind.u64.wrap ((IntKind.u64.wrap (x9_2 + x10_2)) + 1)) 2)] : List Int)) (inner := [.int .u64 (IntKind.u64.wrap (Int.tdiv (IntKind.u64.wrap ((IntKind.u64.wrap (x9_2 + x10_2)) + 1)) 2))]) (ok := fun _ => True) (okp := fun _ => True) ?hr ?hp (fun _ hk => hk) trivial (Below.refl _ _) (Nat.le_refl _) (by simp) ?_; (case hd => rfl); (case hg => rfl); (case hr => first | (go_simp; done) | (go_simp; rfl) | (go_simp; simp only [u64_u8]; done) | (go_simp; simp only [u64_u8]; rfl)); (case hp => exact (Reps.one (show Kd.M (Kd.int .u64) _ _ _ (IntKind.u64.wrap (Int.tdiv (IntKind.u64.wrap ((IntKind.u64.wrap (x9_2 + x10_2)) + 1)) 2)) [.int .u64 (IntKind.u64.wrap (Int.tdiv (IntKind.u64.wrap ((IntKind.u64.wrap (x9_2 + x10_2)) + 1)) 2))] from rfl) (Reps.none _ _))); intro v450 w22 ho23 hb hg_ hnew_; clear hg_ hnew_; (first | rw [← Ny449.out] at ho23 | (simp only [Int.reduceToNat] at ho23; rw [← Ny449.out] at ho23)); have HO451 := Aside0.mk (Kd.R_lower (Kd.R_new' (Kd.R_new' ho23 (Kd.R_lt (uR HO_6.out))) (Kd.R_lt (uR HO_7.out))) (below_size uB)); replace HO_6 := ueR HO_6 ho23 hb; replace HO_7 := ueR HO_7 ho23 hb; replace HB := uy hb; clear hb ho23; obtain ⟨Ao24, co24, eo24⟩ := Kd.R_slice HO451.out; subst eo24) | ((with_reducible refine gate_callee (f := 131) rfl ?_); refine goesL_ (some 41) rfl rfl Try.func131 (by kernel_rfl) rfl #[.slice A1 l1.length c1, .slice Ao24 y449.length co24] rfl uM ?_; (with_reducible refine (windbreakref01_mul.calls k2 _ _ l1 _ _ y449 t452 _ ?side1 ?side2 ?side3 ?side4 A19.out).mono ?_); (case side1 => exact uC (Kd.C_below HR1.out HB.out)); (case side2 => exact HC1.out); (case side3 => exact uC (Kd.R_reads' HO451.out).2.2); (case side4 => exact (Kd.R_reads' HO451.out).2.1); rintro e w25 ⟨v453, rfl, ho0, hb⟩; refine ⟨_, rfl, ?_⟩; have HO454 := Aside0.mk (Kd.R_lower (Kd.R_new' (Kd.R_new' (Kd.R_new' ho0 (Kd.R_lt (uR HO_6.out))) (Kd.R_lt (uR HO_7.out))) (Kd.R_lt (uR HO451.out))) (below_size uB)); replace HO_6 := ueR HO_6 ho0 hb; replace HO_7 := ueR HO_7 ho0 hb; replace HO451 := ueR HO451 ho0 hb; replace HB := uy hb; (try clear hb ho0); obtain ⟨Ao26, co26, eo26⟩ := Kd.R_slice HO454.out; subst eo26; obtain ⟨Ao27, co27, eo27⟩ := Kd.R_slice HO_7.out; subst eo27) | ((with_reducible refine gate_callee (f := 151) rfl ?_); refine goesL_ (some 43) rfl rfl Try.func151 (by kernel_rfl) rfl #[.slice Ao26 t452.length co26, .slice Ao27 t436.length co27] rfl uM ?_; (with_reducible refine (windbreakref01_compare.calls k2 _ _ t452 _ _ t436 t455 _ ?side1 ?side2 ?side3 ?side4 A20.out).mono ?_); (case side1 => exact uC (Kd.R_reads' HO454.out).2.2); (case side2 => exact (Kd.R_reads' HO454.out).2.1); (case side3 => exact uC (Kd.R_reads' HO_7.out).2.2); (case side4 => exact (Kd.R_reads' HO_7.out).2.1); rintro e w' ⟨rfl, ⟨nd, rfl⟩⟩; refine ⟨_, rfl, ?_⟩))
        go_roundg k2
        case measure => have := HK1.out; have := HK2.out; omega
        case rel => exact ⟨(IntKind.u64.wrap (Int.tdiv (IntKind.u64.wrap ((IntKind.u64.wrap (x9_2 + x10_2)) + 1)) 2)), (x10_2), uG, uG, H', ⟨by have := HK1.out; have := HK2.out; omega⟩, ⟨by (with_reducible repeat (first | apply Kd.R_alloc | apply Kd.R_drewN | apply Kd.R_drew)); exact Kd.R_mono HO_6.out (fun _ hk => hk.1.1)⟩, ⟨by (with_reducible repeat (first | apply Kd.R_alloc | apply Kd.R_drewN | apply Kd.R_drew)); exact Kd.R_mono HO_7.out (fun _ hk => hk.1.1)⟩, ⟨uB⟩⟩
       rw [if_neg c21] at H
       have c21b0 : decide (t455 ≤ 0) = false := decide_eq_false c21
       clear c21
       have H' := Aside0.mk H
       clear H
       go_wp2_with (first | ((with_reducible refine gate_dst (N := 40) rfl ?_); refine Kd.R_lit (Kd.int .u64) _ 30 ?hg (N := 40) ?hd (xs := ([IntKind.u64.wrap (Int.tdiv (IntKind.u64.wrap ((IntKind.u64.wrap (x9_2 + x10_2)) + 1)) 2)] : List Int)) (inner := [.int .u64 (IntKind.u64.wrap (Int.tdiv (IntKind.u64.wrap ((IntKind.u64.wrap (x9_2 + x10_2)) + 1)) 2))]) (ok := fun _ => True) (okp := fun _ => True) ?hr ?hp (fun _ hk => hk) trivial (Below.refl _ _) (Nat.le_refl _) (by simp) ?_; (case hd => rfl); (case hg => rfl); (case hr => first | (go_simp; done) | (go_simp; rfl) | (go_simp; simp only [u64_u8]; done) | (go_simp; simp only [u64_u8]; rfl)); (case hp => exact (Reps.one (show Kd.M (Kd.int .u64) _ _ _ (IntKind.u64.wrap (Int.tdiv (IntKind.u64.wrap ((IntKind.u64.wrap (x9_2 + x10_2)) + 1)) 2)) [.int .u64 (IntKind.u64.wrap (Int.tdiv (IntKind.u64.wrap ((IntKind.u64.wrap (x9_2 + x10_2)) + 1)) 2))] from rfl) (Reps.none _ _))); intro v450 w28 ho29 hb hg_ hnew_; clear hg_ hnew_; (first | rw [← Ny449.out] at ho29 | (simp only [Int.reduceToNat] at ho29; rw [← Ny449.out] at ho29)); have HO451 := Aside0.mk (Kd.R_lower (Kd.R_new' (Kd.R_new' ho29 (Kd.R_lt (uR HO_6.out))) (Kd.R_lt (uR HO_7.out))) (below_size uB)); replace HO_6 := ueR HO_6 ho29 hb; replace HO_7 := ueR HO_7 ho29 hb; replace HB := uy hb; clear hb ho29; obtain ⟨Ao30, co30, eo30⟩ := Kd.R_slice HO451.out; subst eo30) | ((with_reducible refine gate_callee (f := 131) rfl ?_); refine goesL_ (some 41) rfl rfl Try.func131 (by kernel_rfl) rfl #[.slice A1 l1.length c1, .slice Ao30 y449.length co30] rfl uM ?_; (with_reducible refine (windbreakref01_mul.calls k2 _ _ l1 _ _ y449 t452 _ ?side1 ?side2 ?side3 ?side4 A19.out).mono ?_); (case side1 => exact uC (Kd.C_below HR1.out HB.out)); (case side2 => exact HC1.out); (case side3 => exact uC (Kd.R_reads' HO451.out).2.2); (case side4 => exact (Kd.R_reads' HO451.out).2.1); rintro e w31 ⟨v453, rfl, ho0, hb⟩; refine ⟨_, rfl, ?_⟩; have HO454 := Aside0.mk (Kd.R_lower (Kd.R_new' (Kd.R_new' (Kd.R_new' ho0 (Kd.R_lt (uR HO_6.out))) (Kd.R_lt (uR HO_7.out))) (Kd.R_lt (uR HO451.out))) (below_size uB)); replace HO_6 := ueR HO_6 ho0 hb; replace HO_7 := ueR HO_7 ho0 hb; replace HO451 := ueR HO451 ho0 hb; replace HB := uy hb; (try clear hb ho0); obtain ⟨Ao32, co32, eo32⟩ := Kd.R_slice HO454.out; subst eo32; obtain ⟨Ao33, co33, eo33⟩ := Kd.R_slice HO_7.out; subst eo33) | ((with_reducible refine gate_callee (f := 151) rfl ?_); refine goesL_ (some 43) rfl rfl Try.func151 (by kernel_rfl) rfl #[.slice Ao32 t452.length co32, .slice Ao33 t436.length co33] rfl uM ?_; (with_reducible refine (windbreakref01_compare.calls k2 _ _ t452 _ _ t436 t455 _ ?side1 ?side2 ?side3 ?side4 A20.out).mono ?_); (case side1 => exact uC (Kd.R_reads' HO454.out).2.2); (case side2 => exact (Kd.R_reads' HO454.out).2.1); (case side3 => exact uC (Kd.R_reads' HO_7.out).2.2); (case side4 => exact (Kd.R_reads' HO_7.out).2.1); rintro e w' ⟨rfl, ⟨nd, rfl⟩⟩; refine ⟨_, rfl, ?_⟩))
       go_roundg k2
       case measure => have := HK1.out; have := HK2.out; omega
       case rel => exact ⟨(x9_2), (IntKind.u64.wrap ((IntKind.u64.wrap (Int.tdiv (IntKind.u64.wrap ((IntKind.u64.wrap (x9_2 + x10_2)) + 1)) 2)) - 1)), uG, uG, H', ⟨by have := HK1.out; have := HK2.out; omega⟩, ⟨by (with_reducible repeat (first | apply Kd.R_alloc | apply Kd.R_drewN | apply Kd.R_drew)); exact Kd.R_mono HO_6.out (fun _ hk => hk.1.1)⟩, ⟨by (with_reducible repeat (first | apply Kd.R_alloc | apply Kd.R_drewN | apply Kd.R_drew)); exact Kd.R_mono HO_7.out (fun _ hk => hk.1.1)⟩, ⟨uB⟩⟩
      rw [if_neg c18] at H
      have c18b0 : decide (x9_2 < x10_2) = false := decide_eq_false c18
      clear c18
      replace H := uT H; obtain ⟨c34, H⟩ := H
      have c34b0 : decide (0 ≤ x8_1) = true := decide_eq_true c34
      clear c34
      replace H := uT H; obtain ⟨c35, H⟩ := H
      have c35b0 : decide (x8_1 < (x6_1.length : Int)) = true := decide_eq_true c35
      clear c35
      obtain ⟨y439, hy439⟩ : ∃ y_ : List Int, y_ = (x6_1.set (x8_1 : Int).toNat x9_2) := ⟨_, rfl⟩
      replace H : ((windbreakref01_mul.f k2 l1 (([x9_2] : List Int))).bind fun t443 => ((windbreakref01_sub.f k2 t436 t443).bind fun t446 => (windbreakref01_div.l0 k2 l0 l1 y439 t446 (wrap64 (x8_1 - 1))))) = some (r1, r2) := by first | (rw [hy439]; with_reducible exact H) | (have H2_ := (Option.bind_some _ _).symm.trans H; rw [hy439]; with_reducible exact H2_) | (have H2_ := (Option.bind_some _ _).symm.trans H; with_reducible exact H2_) | with_reducible exact H | (rw [hy439]; exact H) | exact H
      have Ny439 := Aside0.mk hy439; clear hy439
      obtain ⟨y440, hy440⟩ : ∃ y_ : List Int, y_ = (([x9_2] : List Int)) := ⟨_, rfl⟩
      replace H : ((windbreakref01_mul.f k2 l1 y440).bind fun t443 => ((windbreakref01_sub.f k2 t436 t443).bind fun t446 => (windbreakref01_div.l0 k2 l0 l1 y439 t446 (wrap64 (x8_1 - 1))))) = some (r1, r2) := by first | (rw [hy440]; with_reducible exact H) | (have H2_ := (Option.bind_some _ _).symm.trans H; rw [hy440]; with_reducible exact H2_) | (have H2_ := (Option.bind_some _ _).symm.trans H; with_reducible exact H2_) | with_reducible exact H | (rw [hy440]; exact H) | exact H
      have Ny440 := Aside0.mk hy440; clear hy440
      replace H := ub H; obtain ⟨t443, A37, H⟩ := H
      replace H := ub H; obtain ⟨t446, A38, H⟩ := H
      have H' := Aside0.mk H
      clear H
      have p36 : 0 ≤ (x8_1 : Int) := uO
      have q36 : (x8_1 : Int) < ((x6_1.length : Int) : Int) := uO
      obtain ⟨go36, co36, eo36, gb36, gl36, cl36, HG36⟩ := Kd.R_form HO_6.out (by omega)
      (first | cases eo36 | (injection eo36 with ea_ en_ ec_; (first | subst ea_ | (injection ea_ with ea_; subst ea_)); subst ec_; clear en_))
      have GB36 := Aside0.mk gb36; have GG36 := Aside0.mk HG36; clear gb36 gl36 HG36
      obtain ⟨hx36_0, hf36_0⟩ := Kd.R_celln 0 HO_6.out (x8_1 : Int) p36 q36
      replace p36 := eq_true p36
      replace q36 := eq_true q36
      have HP39 := Kd.R_putg HO_6.out (x8_1 : Int) x9_2
      go_wp2_with (first | ((with_reducible refine gate_store (t := 30) (p := 51) rfl ?_); refine store_event (t := 30) (p := 51) (v := ?vo_w40) (w1 := (wr.setCell ⟨go36, (x8_1 : Int).toNat, none⟩ (.int .u64 x9_2))) ?hg ?ho ?hn ?hr ?_; (case ho => rfl); (case hg => rfl); (case hn => rfl); (case hr => first | (go_simp; done) | (go_simp; rfl) | (obtain ⟨hy_, hz_⟩ := Kd.R_celln 0 HO_6.out (x8_1 : Int) uO uO; (try simp only [Go.IntWalk.toNatUp] at hy_ hz_); (try simp only [Int.reduceToNat, Int.toNat_zero, Int.toNat_ofNat] at hy_ hz_); first | (go_simp; done) | (go_simp; rfl))); intro w40 hw; have hg : wr.grownBy w40 (some go36) := (by rw [hw]; exact HP39.2); have hp_ : Kd.R (Kd.int .u64) 30 w40 w.heap.size (fun k_ => some k_ ≠ (v437 : Value).ownBlock) (.slice (some ⟨go36, 0, none⟩) x6_1.length co36) y439 := (by rw [hw, Ny439.out]; exact HP39.1); clear HP39; replace HO_6 := Aside0.mk (hp_); replace HO_7 := Aside0.mk (Kd.R_after (v := (.slice (some ⟨go36, 0, none⟩) x6_1.length co36)) (v1 := (.slice (some ⟨go36, 0, none⟩) x6_1.length co36)) (ok := (fun _ => True)) (uR (Kd.R_mono HO_7.out (fun _ hk => ⟨trivial, hk⟩))) hg (.inl rfl)); replace HB := Aside0.mk ((by rw [hw]; exact below_set (HB.out) GB36.out : Below w.heap.size w w40)); clear hg hw hp_) | ((with_reducible refine gate_dst (N := 55) rfl ?_); refine Kd.R_lit (Kd.int .u64) _ 30 ?hg (N := 55) ?hd (xs := ([x9_2] : List Int)) (inner := [.int .u64 x9_2]) (ok := fun _ => True) (okp := fun _ => True) ?hr ?hp (fun _ hk => hk) trivial (Below.refl _ _) (Nat.le_refl _) (by simp) ?_; (case hd => rfl); (case hg => rfl); (case hr => first | (go_simp; done) | (go_simp; rfl) | (go_simp; simp only [u64_u8]; done) | (go_simp; simp only [u64_u8]; rfl)); (case hp => exact (Reps.one (show Kd.M (Kd.int .u64) _ _ _ x9_2 [.int .u64 x9_2] from rfl) (Reps.none _ _))); intro v441 w41 ho42 hb hg_ hnew_; clear hg_ hnew_; (first | rw [← Ny440.out] at ho42 | (simp only [Int.reduceToNat] at ho42; rw [← Ny440.out] at ho42)); have HO442 := Aside0.mk (Kd.R_lower (Kd.R_new' (Kd.R_new' ho42 (Kd.R_lt (uR HO_6.out))) (Kd.R_lt (uR HO_7.out))) (below_size uB)); replace HO_6 := ueR HO_6 ho42 hb; replace HO_7 := ueR HO_7 ho42 hb; replace HB := uy hb; clear hb ho42; obtain ⟨Ao43, co43, eo43⟩ := Kd.R_slice HO442.out; subst eo43) | ((with_reducible refine gate_callee (f := 131) rfl ?_); refine goesL_ (some 56) rfl rfl Try.func131 (by kernel_rfl) rfl #[.slice A1 l1.length c1, .slice Ao43 y440.length co43] rfl uM ?_; (with_reducible refine (windbreakref01_mul.calls k2 _ _ l1 _ _ y440 t443 _ ?side1 ?side2 ?side3 ?side4 A37.out).mono ?_); (case side1 => exact uC (Kd.C_below HR1.out HB.out)); (case side2 => exact HC1.out); (case side3 => exact uC (Kd.R_reads' HO442.out).2.2); (case side4 => exact (Kd.R_reads' HO442.out).2.1); rintro e w44 ⟨v444, rfl, ho0, hb⟩; refine ⟨_, rfl, ?_⟩; have HO445 := Aside0.mk (Kd.R_lower (Kd.R_new' (Kd.R_new' (Kd.R_new' ho0 (Kd.R_lt (uR HO_6.out))) (Kd.R_lt (uR HO_7.out))) (Kd.R_lt (uR HO442.out))) (below_size uB)); replace HO_6 := ueR HO_6 ho0 hb; replace HO_7 := ueR HO_7 ho0 hb; replace HO442 := ueR HO442 ho0 hb; replace HB := uy hb; (try clear hb ho0); obtain ⟨Ao45, co45, eo45⟩ := Kd.R_slice HO_7.out; subst eo45; obtain ⟨Ao46, co46, eo46⟩ := Kd.R_slice HO445.out; subst eo46) | ((with_reducible refine gate_callee (f := 153) rfl ?_); refine goesL_ (some 57) rfl rfl Try.func153 (by kernel_rfl) rfl #[.slice Ao45 t436.length co45, .slice Ao46 t443.length co46] rfl uM ?_; (with_reducible refine (windbreakref01_sub.calls k2 _ _ t436 _ _ t443 t446 _ ?side1 ?side2 ?side3 ?side4 A38.out).mono ?_); (case side1 => exact uC (Kd.R_reads' HO_7.out).2.2); (case side2 => exact (Kd.R_reads' HO_7.out).2.1); (case side3 => exact uC (Kd.R_reads' HO445.out).2.2); (case side4 => exact (Kd.R_reads' HO445.out).2.1); rintro e w47 ⟨v447, rfl, ho0, hb⟩; refine ⟨_, rfl, ?_⟩; have HO448 := Aside0.mk (Kd.R_lower (Kd.R_new' (Kd.R_new' (Kd.R_new' (Kd.R_new' ho0 (Kd.R_lt (uR HO_6.out))) (Kd.R_lt (uR HO_7.out))) (Kd.R_lt (uR HO442.out))) (Kd.R_lt (uR HO445.out))) (below_size uB)); replace HO_6 := ueR HO_6 ho0 hb; replace HO_7 := ueR HO_7 ho0 hb; replace HO442 := ueR HO442 ho0 hb; replace HO445 := ueR HO445 ho0 hb; replace HB := uy hb; (try clear hb ho0)))
      go_roundg k2
      case measure => have := HK1.out; have := HK2.out; omega
      case rel => exact ⟨(y439), (t446), (wrap64 (x8_1 - 1)), uG, H', ⟨by have := HK1.out; have := HK2.out; omega⟩, ⟨by (with_reducible repeat (first | apply Kd.R_alloc | apply Kd.R_drewN | apply Kd.R_drew)); exact Kd.R_mono HO_6.out (fun _ hk => hk.2)⟩, ⟨by (with_reducible repeat (first | apply Kd.R_alloc | apply Kd.R_drewN | apply Kd.R_drew)); exact Kd.R_mono HO448.out (fun _ hk => hk.1.1.1.2)⟩, ⟨uB⟩⟩
   rw [if_neg c7] at H
   have c7b0 : decide (0 ≤ x8_1) = false := decide_eq_false c7
   clear c7
   replace H := ub H; obtain ⟨t426, A48, H⟩ := H
   simp only [Option.some.injEq, Prod.mk.injEq] at H
   obtain ⟨rfl, rfl⟩ := H
   obtain ⟨Ao49, co49, eo49⟩ := Kd.R_slice HO_6.out
   subst eo49
   go_wp2_with (first | ((with_reducible refine gate_callee (f := 125) rfl ?_); refine goesL_ (some 59) rfl rfl Try.func125 (by kernel_rfl) rfl #[.slice Ao49 x6_1.length co49] rfl uM ?_; (with_reducible refine (windbreakref01_cut.calls k1 (fun k_ => some k_ = (.slice Ao49 x6_1.length co49 : Value).ownBlock) (.slice Ao49 x6_1.length co49) x6_1 t426 w _ ?side1 ?side2 A48.out).mono ?_); (case side1 => repeat (first | (with_reducible first | exact HB.out | apply below_alloc | apply pw_below_drewN | apply below_drew1) | exact HB.out)); (case side2 => exact Kd.R_tight rfl HO_6.out); rintro e w50 ⟨v427, rfl, ho0, hb, hkp⟩; refine ⟨_, rfl, ?_⟩; have HO428 := Aside0.mk (Kd.R_mono (ok' := fun k_ => some k_ ≠ (u7 : Value).ownBlock) ho0 (fun k_ hk_ => Or.elim hk_ (fun hs_ => fun e_ => (((HO_7.out).1 k_ e_.symm)) hs_) (fun hn_ => (Kd.fresh' (Kd.R_lt (uR HO_7.out)) k_ hn_)))); replace HO_7 := Aside0.mk (Kd.R_mono (ok' := fun k_ => some k_ ≠ (v427 : Value).ownBlock) (Kd.R_keptB (HO_7.out) hkp (fun k_ hk_ hs_ => (hk_) hs_)) (fun k_ hk_ => fun e_ => Or.elim (ho0.1 k_ e_.symm) (fun hs_ => hk_.2.1 hs_) (fun hn_ => Nat.not_le.2 hk_.2.2 hn_))); replace HB := Aside0.mk (hb); clear HO_6; (try clear hb); (try clear hkp); (try clear ho0)))
   go_ret2
   exact ⟨_, _, uF, uR HO428.out, uR HO_7.out, uB⟩
end Go.Proofs.Ytkgaejigpmkfkaa.F
end
section
namespace Go.Proofs.Ytkgaejigpmkfkaa.F
open Go.RowKit Go.Proofs.YtkgaejigpmkfkaaW.PrintWords Go.Proofs.YtkgaejigpmkfkaaW.PrintLast Go.Proofs.YtkgaejigpmkfkaaW.PrintMore
attribute [local go_sem] max2_int min2_int max_two min_two max_three min_three max_four min_four
set_option linter.unusedVariables false
set_option linter.unusedSimpArgs false
def windbreakref01_Shr.j0 : Nat → List Int → Int → Bool → Option (List Int × Int)
 | 0, _, _, _ => none
 | k + 1, x0, x1, x16 => if x16 = true then (some (([] : List Int), 1)) else (if x1 ≥ 4096 then (some (([] : List Int), 0)) else ((windbreakref01_In.f k x0).bind fun t794 => ((windbreakref01_power.f k x1).bind fun t797 => ((windbreakref01_div.f k t794 t797).bind fun bt800 => ((windbreakref01_told.f k bt800.1).bind fun bt806 => (some (bt806.1, bt806.2)))))))
def windbreakref01_Shr.f (k : Nat) (l0 : List Int) (a1 : Int) : Option (List Int × Int) := (windbreakref01_Right.f l0).bind fun t793 => (if t793 = true then (windbreakref01_Shr.j0 k l0 a1 (decide (a1 < 0))) else (windbreakref01_Shr.j0 k l0 a1 true))
def windbreakref01_Shl.j0 : Nat → List Int → Int → Bool → Option (List Int × Int)
 | 0, _, _, _ => none
 | k + 1, x0, x1, x14 => if x14 = true then (some (([] : List Int), 1)) else (if (x0.length : Int) = 0 then (some (([] : List Int), 0)) else (if x1 > 4096 then (some (([] : List Int), 4)) else ((windbreakref01_In.f k x0).bind fun t922 => ((windbreakref01_power.f k x1).bind fun t925 => ((windbreakref01_mul.f k t922 t925).bind fun t928 => ((windbreakref01_told.f k t928).bind fun bt931 => (some (bt931.1, bt931.2))))))))
def windbreakref01_Shl.f (k : Nat) (l0 : List Int) (a1 : Int) : Option (List Int × Int) := (windbreakref01_Right.f l0).bind fun t921 => (if t921 = true then (windbreakref01_Shl.j0 k l0 a1 (decide (a1 < 0))) else (windbreakref01_Shl.j0 k l0 a1 true))
def windbreakref01_Mul.j0 : Nat → List Int → List Int → Bool → Option (List Int × Int)
 | 0, _, _, _ => none
 | k + 1, x0, x1, x17 => if x17 = true then (some (([] : List Int), 1)) else ((windbreakref01_In.f k x0).bind fun t388 => ((windbreakref01_In.f k x1).bind fun t391 => ((windbreakref01_mul.f k t388 t391).bind fun t394 => ((windbreakref01_told.f k t394).bind fun bt397 => (some (bt397.1, bt397.2))))))
def windbreakref01_Mul.f (k : Nat) (l0 : List Int) (l1 : List Int) : Option (List Int × Int) := (windbreakref01_Right.f l0).bind fun t386 => ((windbreakref01_Right.f l1).bind fun t387 => (if t386 = true then (windbreakref01_Mul.j0 k l0 l1 (!t387)) else (windbreakref01_Mul.j0 k l0 l1 true)))
set_option maxHeartbeats 8000000 in
set_option maxRecDepth 100000 in
theorem windbreakref01_Mul.calls (k : Nat) (A0 : Option Addr) (c0 : Nat) (l0 : List Int) (A1 : Option Addr) (c1 : Nat) (l1 : List Int) (r1 : List Int) (r2 : Int) (w : World) (hr0 : Kd.C (Kd.int .u64) w A0 l0.length l0) (hc0 : l0.length ≤ c0) (hr1 : Kd.C (Kd.int .u64) w A1 l1.length l1) (hc1 : l1.length ≤ c1) (h : windbreakref01_Mul.f k l0 l1 = some (r1, r2)) :
  Calls Try.prog 84 #[.slice A0 l0.length c0, .slice A1 l1.length c1] w fun e w' => ∃ v0_ : Value, e = .returned (.tuple #[v0_, .int .i64 r2]) ∧ Kd.R (Kd.int .u64) 30 w' w.heap.size (fun _ => True) v0_ r1 ∧ Below w.heap.size w w' := by
 have HR0 := Aside0.mk hr0; have HC0 := Aside0.mk hc0; clear hr0 hc0; have HR1 := Aside0.mk hr1; have HC1 := Aside0.mk hc1; clear hr1 hc1
 have HB := Aside0.mk (Below.refl w.heap.size w)
 have H : ((windbreakref01_Right.f l0).bind fun t386 => ((windbreakref01_Right.f l1).bind fun t387 => (if t386 = true then (windbreakref01_Mul.j0 k l0 l1 (!t387)) else (windbreakref01_Mul.j0 k l0 l1 true)))) = some (r1, r2) := h
 clear h
 replace H := ub H; obtain ⟨t386, A3, H⟩ := H
 replace H := ub H; obtain ⟨t387, A4, H⟩ := H
 have HC5 := Aside0.mk H; clear H
 go_enter Try.func84, Try.ntmps84
 go_upto_region 3 with (first | ((with_reducible refine gate_callee (f := 29) rfl ?_); refine goesL_ (some 9) rfl rfl Try.func29 (by kernel_rfl) rfl #[.slice A0 l0.length c0] rfl uM ?_; (with_reducible refine (windbreakref01_Right.calls _ _ l0 t386 _ ?side1 ?side2 A3.out).mono ?_); (case side1 => exact uC HR0.out); (case side2 => exact HC0.out); rintro e w' ⟨rfl, ⟨nd, rfl⟩⟩; refine ⟨_, rfl, ?_⟩) | ((with_reducible refine gate_callee (f := 29) rfl ?_); refine goesL_ (some 11) rfl rfl Try.func29 (by kernel_rfl) rfl #[.slice A1 l1.length c1] rfl uM ?_; (with_reducible refine (windbreakref01_Right.calls _ _ l1 t387 _ ?side1 ?side2 A4.out).mono ?_); (case side1 => exact uC HR1.out); (case side2 => exact HC1.out); rintro e w' ⟨rfl, ⟨nd, rfl⟩⟩; refine ⟨_, rfl, ?_⟩))
 (try simp only [Act.put, List.setIfInBounds_toArray, List.set_cons_zero, List.set_cons_succ])
 go_cut [17] (fun v17 wc => ∃ (kq : Nat) (x17_4 : Bool), v17 = .bool x17_4 ∧ Aside0 (windbreakref01_Mul.j0 kq l0 l1 x17_4 = some (r1, r2)) ∧ Aside0 (kq ≤ k) ∧ Aside0 (Below w.heap.size w wc))
 case first =>
  have H := HC5.out
  clear HC5
  by_cases c6 : t386 = true
  ·
   subst c6
   have H1 : (windbreakref01_Mul.j0 k l0 l1 (!t387)) = some (r1, r2) := by rw [if_pos rfl] at H; exact H
   clear H; have H := H1; clear H1
   have H' := Aside0.mk H
   clear H
   go_wp2
   go_meet
   case rel => exact ⟨_, (!t387), uG, H', ⟨uW⟩, ⟨uB⟩⟩
  replace c6 := Bool.eq_false_iff.mpr c6
  subst c6
  have H1 : (windbreakref01_Mul.j0 k l0 l1 true) = some (r1, r2) := by rw [if_neg (show ¬ (false = true) by decide)] at H; exact H
  clear H; have H := H1; clear H1
  have H' := Aside0.mk H
  clear H
  go_wp2
  go_meet
  case rel => exact ⟨_, (true), uG, H', ⟨uW⟩, ⟨uB⟩⟩
 case rest =>
  clear HC5; (try clear c1); (try clear c2); (try clear p2); (try clear c6)
  obtain ⟨kq, x17_4, rfl, HA, HJ4, HB⟩ := hcut
  cases kq with
  | zero => exact absurd HA.out (by simp [windbreakref01_Mul.j0])
  | succ kj4 =>
   have H := HA.out
   clear HA
   simp only [windbreakref01_Mul.j0] at H
   by_cases c7 : x17_4 = true
   ·
    subst c7
    have H1 : (some (([] : List Int), 1)) = some (r1, r2) := by rw [if_pos rfl] at H; exact H
    clear H; have H := H1; clear H1
    simp only [Option.some.injEq, Prod.mk.injEq] at H
    obtain ⟨rfl, rfl⟩ := H
    go_wp2
    go_ret2
    exact ⟨_, by first | rfl | (simp [errW_none, errW_some] <;> rfl) | (simp [*, errW_none, errW_some] <;> rfl), by first | exact Kd.R_nil _ _ _ _ _ | exact Kd.N_nil _ _ _ _ _ | exact Kd.V_nil _ _ _ _ _ | exact Kd.Q_nil _ _ _ _ _ | exact Kd.S_nil _ _ _ _ _, uB⟩
   replace c7 := Bool.eq_false_iff.mpr c7
   subst c7
   have H1 : ((windbreakref01_In.f kj4 l0).bind fun t388 => ((windbreakref01_In.f kj4 l1).bind fun t391 => ((windbreakref01_mul.f kj4 t388 t391).bind fun t394 => ((windbreakref01_told.f kj4 t394).bind fun bt397 => (some (bt397.1, bt397.2)))))) = some (r1, r2) := by rw [if_neg (show ¬ (false = true) by decide)] at H; exact H
   clear H; have H := H1; clear H1
   replace H := ub H; obtain ⟨t388, A8, H⟩ := H
   replace H := ub H; obtain ⟨t391, A9, H⟩ := H
   replace H := ub H; obtain ⟨t394, A10, H⟩ := H
   replace H := ub H; obtain ⟨⟨t397, t398⟩, A11, H⟩ := H
   (try dsimp only at H)
   simp only [Option.some.injEq, Prod.mk.injEq] at H
   obtain ⟨rfl, rfl⟩ := H
   go_wp2_with (first | ((with_reducible refine gate_callee (f := 75) rfl ?_); refine goesL_ (some 19) rfl rfl Try.func75 (by kernel_rfl) rfl #[.slice A0 l0.length c0] rfl uM ?_; (with_reducible refine (windbreakref01_In.calls kj4 _ _ l0 t388 _ ?side1 ?side2 A8.out).mono ?_); (case side1 => exact uC (Kd.C_below HR0.out HB.out)); (case side2 => exact HC0.out); rintro e w12 ⟨v389, rfl, ho0, hb⟩; refine ⟨_, rfl, ?_⟩; have HO390 := Aside0.mk (Kd.R_lower ho0 (below_size uB)); replace HB := uy hb; (try clear hb ho0)) | ((with_reducible refine gate_callee (f := 75) rfl ?_); refine goesL_ (some 21) rfl rfl Try.func75 (by kernel_rfl) rfl #[.slice A1 l1.length c1] rfl uM ?_; (with_reducible refine (windbreakref01_In.calls kj4 _ _ l1 t391 _ ?side1 ?side2 A9.out).mono ?_); (case side1 => exact uC (Kd.C_below HR1.out HB.out)); (case side2 => exact HC1.out); rintro e w13 ⟨v392, rfl, ho0, hb⟩; refine ⟨_, rfl, ?_⟩; have HO393 := Aside0.mk (Kd.R_lower (Kd.R_new' ho0 (Kd.R_lt (uR HO390.out))) (below_size uB)); replace HO390 := ueR HO390 ho0 hb; replace HB := uy hb; (try clear hb ho0); obtain ⟨Ao14, co14, eo14⟩ := Kd.R_slice HO390.out; subst eo14; obtain ⟨Ao15, co15, eo15⟩ := Kd.R_slice HO393.out; subst eo15) | ((with_reducible refine gate_callee (f := 131) rfl ?_); refine goesL_ (some 22) rfl rfl Try.func131 (by kernel_rfl) rfl #[.slice Ao14 t388.length co14, .slice Ao15 t391.length co15] rfl uM ?_; (with_reducible refine (windbreakref01_mul.calls kj4 _ _ t388 _ _ t391 t394 _ ?side1 ?side2 ?side3 ?side4 A10.out).mono ?_); (case side1 => exact uC (Kd.R_reads' HO390.out).2.2); (case side2 => exact (Kd.R_reads' HO390.out).2.1); (case side3 => exact uC (Kd.R_reads' HO393.out).2.2); (case side4 => exact (Kd.R_reads' HO393.out).2.1); rintro e w16 ⟨v395, rfl, ho0, hb⟩; refine ⟨_, rfl, ?_⟩; have HO396 := Aside0.mk (Kd.R_lower (Kd.R_new' (Kd.R_new' ho0 (Kd.R_lt (uR HO390.out))) (Kd.R_lt (uR HO393.out))) (below_size uB)); replace HO390 := ueR HO390 ho0 hb; replace HO393 := ueR HO393 ho0 hb; replace HB := uy hb; (try clear hb ho0); obtain ⟨Ao17, co17, eo17⟩ := Kd.R_slice HO396.out; subst eo17) | ((with_reducible refine gate_callee (f := 73) rfl ?_); refine goesL_ (some 23) rfl rfl Try.func73 (by kernel_rfl) rfl #[.slice Ao17 t394.length co17] rfl uM ?_; (with_reducible refine (windbreakref01_told.calls kj4 _ _ t394 t397 t398 _ ?side1 ?side2 A11.out).mono ?_); (case side1 => exact uC (Kd.R_reads' HO396.out).2.2); (case side2 => exact (Kd.R_reads' HO396.out).2.1); rintro e w18 ⟨v399, rfl, ho0, hb⟩; refine ⟨_, rfl, ?_⟩; have HO400 := Aside0.mk (Kd.R_lower (Kd.R_new' (Kd.R_new' (Kd.R_new' ho0 (Kd.R_lt (uR HO390.out))) (Kd.R_lt (uR HO393.out))) (Kd.R_lt (uR HO396.out))) (below_size uB)); replace HO390 := ueR HO390 ho0 hb; replace HO393 := ueR HO393 ho0 hb; replace HO396 := ueR HO396 ho0 hb; replace HB := uy hb; (try clear hb ho0)))
   go_ret2
   exact ⟨_, uF, by (with_reducible repeat (first | apply Kd.R_alloc | apply Kd.R_drewN | apply Kd.R_drew)); exact Kd.R_mono HO400.out (fun _ hk => trivial), uB⟩
def windbreakref05_bits.f (k : Nat) (a0 : Int) : Option (Int) := (windbreakref01_Of.f a0).bind fun t406 => ((windbreakref01_Bits.f k t406).bind fun t409 => (some t409))
set_option maxHeartbeats 8000000 in
set_option maxRecDepth 100000 in
theorem windbreakref05_bits.calls (k : Nat) (a0 : Int) (r : Int) (w : World) (h : windbreakref05_bits.f k a0 = some r) :
  Calls Try.prog 106 #[.int .u64 a0] w fun e w' => e = .returned (.int .i64 r) ∧ Below w.heap.size w w' := by
 have HB := Aside0.mk (Below.refl w.heap.size w)
 have H : ((windbreakref01_Of.f a0).bind fun t406 => ((windbreakref01_Bits.f k t406).bind fun t409 => (some t409))) = some r := h
 clear h
 replace H := ub H; obtain ⟨t406, A2, H⟩ := H
 replace H := ub H; obtain ⟨t409, A3, H⟩ := H
 obtain rfl := Option.some.inj H
 go_enter Try.func106, Try.ntmps106
 go_wp2_with (first | ((with_reducible refine gate_callee (f := 107) rfl ?_); refine goesL_ (some 4) rfl rfl Try.func107 (by kernel_rfl) rfl #[.int .u64 a0] rfl uM ?_; (with_reducible refine (windbreakref01_Of.calls a0 t406 _ A2.out).mono ?_); rintro e w4 ⟨v407, rfl, ho0, hb⟩; refine ⟨_, rfl, ?_⟩; have HO408 := Aside0.mk (Kd.R_lower ho0 (below_size uB)); replace HB := uy hb; (try clear hb ho0); obtain ⟨Ao5, co5, eo5⟩ := Kd.R_slice HO408.out; subst eo5) | ((with_reducible refine gate_callee (f := 147) rfl ?_); refine goesL_ (some 5) rfl rfl Try.func147 (by kernel_rfl) rfl #[.slice Ao5 t406.length co5] rfl uM ?_; (with_reducible refine (windbreakref01_Bits.calls k _ _ t406 t409 _ ?side1 ?side2 A3.out).mono ?_); (case side1 => exact uC (Kd.R_reads' HO408.out).2.2); (case side2 => exact (Kd.R_reads' HO408.out).2.1); rintro e w' ⟨rfl, ⟨nd, rfl⟩⟩; refine ⟨_, rfl, ?_⟩))
 go_ret
 exact ⟨uF, uB⟩
def windbreakref01_Div.j0 : Nat → List Int → List Int → Bool → Option (List Int × List Int × Int)
 | 0, _, _, _ => none
 | k + 1, x0, x1, x24 => if x24 = true then (some (([] : List Int), ([] : List Int), 1)) else (if (x1.length : Int) = 0 then (some (([] : List Int), ([] : List Int), 3)) else ((windbreakref01_In.f k x0).bind fun t458 => ((windbreakref01_In.f k x1).bind fun t461 => ((windbreakref01_div.f k t458 t461).bind fun bt464 => ((windbreakref01_Out.f k bt464.1).bind fun bt470 => ((windbreakref01_Out.f k bt464.2).bind fun bt474 => (some (bt470.1, bt474.1, 0))))))))
def windbreakref01_Div.f (k : Nat) (l0 : List Int) (l1 : List Int) : Option (List Int × List Int × Int) := (windbreakref01_Right.f l0).bind fun t456 => ((windbreakref01_Right.f l1).bind fun t457 => (if t456 = true then (windbreakref01_Div.j0 k l0 l1 (!t457)) else (windbreakref01_Div.j0 k l0 l1 true)))
set_option maxHeartbeats 8000000 in
set_option maxRecDepth 100000 in
theorem windbreakref01_Div.calls (k : Nat) (A0 : Option Addr) (c0 : Nat) (l0 : List Int) (A1 : Option Addr) (c1 : Nat) (l1 : List Int) (r1 : List Int) (r2 : List Int) (r3 : Int) (w : World) (hr0 : Kd.C (Kd.int .u64) w A0 l0.length l0) (hc0 : l0.length ≤ c0) (hr1 : Kd.C (Kd.int .u64) w A1 l1.length l1) (hc1 : l1.length ≤ c1) (h : windbreakref01_Div.f k l0 l1 = some (r1, r2, r3)) :
  Calls Try.prog 76 #[.slice A0 l0.length c0, .slice A1 l1.length c1] w fun e w' => ∃ v0_ v1_ : Value, e = .returned (.tuple #[v0_, v1_, .int .i64 r3]) ∧ Kd.R (Kd.int .u64) 30 w' w.heap.size (fun k_ => some k_ ≠ (v1_ : Value).ownBlock) v0_ r1 ∧ Kd.R (Kd.int .u64) 30 w' w.heap.size (fun k_ => some k_ ≠ (v0_ : Value).ownBlock) v1_ r2 ∧ Below w.heap.size w w' := by
 have HR0 := Aside0.mk hr0; have HC0 := Aside0.mk hc0; clear hr0 hc0; have HR1 := Aside0.mk hr1; have HC1 := Aside0.mk hc1; clear hr1 hc1
 have HB := Aside0.mk (Below.refl w.heap.size w)
 have H : ((windbreakref01_Right.f l0).bind fun t456 => ((windbreakref01_Right.f l1).bind fun t457 => (if t456 = true then (windbreakref01_Div.j0 k l0 l1 (!t457)) else (windbreakref01_Div.j0 k l0 l1 true)))) = some (r1, r2, r3) := h
 clear h
 replace H := ub H; obtain ⟨t456, A3, H⟩ := H
 replace H := ub H; obtain ⟨t457, A4, H⟩ := H
 have HC5 := Aside0.mk H; clear H
 go_enter Try.func76, Try.ntmps76
 go_upto_region 3 with (first | ((with_reducible refine gate_callee (f := 29) rfl ?_); refine goesL_ (some 16) rfl rfl Try.func29 (by kernel_rfl) rfl #[.slice A0 l0.length c0] rfl uM ?_; (with_reducible refine (windbreakref01_Right.calls _ _ l0 t456 _ ?side1 ?side2 A3.out).mono ?_); (case side1 => exact uC HR0.out); (case side2 => exact HC0.out); rintro e w' ⟨rfl, ⟨nd, rfl⟩⟩; refine ⟨_, rfl, ?_⟩) | ((with_reducible refine gate_callee (f := 29) rfl ?_); refine goesL_ (some 18) rfl rfl Try.func29 (by kernel_rfl) rfl #[.slice A1 l1.length c1] rfl uM ?_; (with_reducible refine (windbreakref01_Right.calls _ _ l1 t457 _ ?side1 ?side2 A4.out).mono ?_); (case side1 => exact uC HR1.out); (case side2 => exact HC1.out); rintro e w' ⟨rfl, ⟨nd, rfl⟩⟩; refine ⟨_, rfl, ?_⟩))
 (try simp only [Act.put, List.setIfInBounds_toArray, List.set_cons_zero, List.set_cons_succ])
 go_cut [24] (fun v24 wc => ∃ (kq : Nat) (x24_4 : Bool), v24 = .bool x24_4 ∧ Aside0 (windbreakref01_Div.j0 kq l0 l1 x24_4 = some (r1, r2, r3)) ∧ Aside0 (kq ≤ k) ∧ Aside0 (Below w.heap.size w wc))
 case first =>
  have H := HC5.out
  clear HC5
  by_cases c6 : t456 = true
  ·
   subst c6
   have H1 : (windbreakref01_Div.j0 k l0 l1 (!t457)) = some (r1, r2, r3) := by rw [if_pos rfl] at H; exact H
   clear H; have H := H1; clear H1
   have H' := Aside0.mk H
   clear H
   go_wp2
   go_meet
   case rel => exact ⟨_, (!t457), uG, H', ⟨uW⟩, ⟨uB⟩⟩
  replace c6 := Bool.eq_false_iff.mpr c6
  subst c6
  have H1 : (windbreakref01_Div.j0 k l0 l1 true) = some (r1, r2, r3) := by rw [if_neg (show ¬ (false = true) by decide)] at H; exact H
  clear H; have H := H1; clear H1
  have H' := Aside0.mk H
  clear H
  go_wp2
  go_meet
  case rel => exact ⟨_, (true), uG, H', ⟨uW⟩, ⟨uB⟩⟩
 case rest =>
  clear HC5; (try clear c1); (try clear c2); (try clear p2); (try clear c6)
  obtain ⟨kq, x24_4, rfl, HA, HJ4, HB⟩ := hcut
  cases kq with
  | zero => exact absurd HA.out (by simp [windbreakref01_Div.j0])
  | succ kj4 =>
   have H := HA.out
   clear HA
   simp only [windbreakref01_Div.j0] at H
   by_cases c7 : x24_4 = true
   ·
    subst c7
    have H1 : (some (([] : List Int), ([] : List Int), 1)) = some (r1, r2, r3) := by rw [if_pos rfl] at H; exact H
    clear H; have H := H1; clear H1
    simp only [Option.some.injEq, Prod.mk.injEq] at H
    obtain ⟨rfl, rfl, rfl⟩ := H
    go_wp2
    go_ret3
    exact ⟨_, _, by first | rfl | (simp [errW_none, errW_some] <;> rfl) | (simp [*, errW_none, errW_some] <;> rfl), by first | exact Kd.R_nil _ _ _ _ _ | exact Kd.N_nil _ _ _ _ _ | exact Kd.V_nil _ _ _ _ _ | exact Kd.Q_nil _ _ _ _ _ | exact Kd.S_nil _ _ _ _ _, by first | exact Kd.R_nil _ _ _ _ _ | exact Kd.N_nil _ _ _ _ _ | exact Kd.V_nil _ _ _ _ _ | exact Kd.Q_nil _ _ _ _ _ | exact Kd.S_nil _ _ _ _ _, uB⟩
   replace c7 := Bool.eq_false_iff.mpr c7
   subst c7
   have H1 : (if (l1.length : Int) = 0 then (some (([] : List Int), ([] : List Int), 3)) else ((windbreakref01_In.f kj4 l0).bind fun t458 => ((windbreakref01_In.f kj4 l1).bind fun t461 => ((windbreakref01_div.f kj4 t458 t461).bind fun bt464 => ((windbreakref01_Out.f kj4 bt464.1).bind fun bt470 => ((windbreakref01_Out.f kj4 bt464.2).bind fun bt474 => (some (bt470.1, bt474.1, 0)))))))) = some (r1, r2, r3) := by rw [if_neg (show ¬ (false = true) by decide)] at H; exact H
   clear H; have H := H1; clear H1
   by_cases c8 : (l1.length : Int) = 0
   ·
    rw [if_pos c8] at H
    have c8b0 : ((l1.length : Int) == 0) = true := beq_iff_eq.mpr c8
    have c8b1 : ((l1.length : Int) != 0) = false := bne_eq_false_iff_eq.mpr c8
    clear c8
    simp only [Option.some.injEq, Prod.mk.injEq] at H
    obtain ⟨rfl, rfl, rfl⟩ := H
    go_wp2
    go_ret3
    exact ⟨_, _, by first | rfl | (simp [errW_none, errW_some] <;> rfl) | (simp [*, errW_none, errW_some] <;> rfl), by first | exact Kd.R_nil _ _ _ _ _ | exact Kd.N_nil _ _ _ _ _ | exact Kd.V_nil _ _ _ _ _ | exact Kd.Q_nil _ _ _ _ _ | exact Kd.S_nil _ _ _ _ _, by first | exact Kd.R_nil _ _ _ _ _ | exact Kd.N_nil _ _ _ _ _ | exact Kd.V_nil _ _ _ _ _ | exact Kd.Q_nil _ _ _ _ _ | exact Kd.S_nil _ _ _ _ _, uB⟩
   rw [if_neg c8] at H
   have c8b0 : ((l1.length : Int) == 0) = false := beq_eq_false_iff_ne.mpr c8
   have c8b1 : ((l1.length : Int) != 0) = true := bne_iff_ne.mpr c8
   have c8b2 : ¬ (l1 = []) := fun h_ => c8 (by rw [h_]; rfl)
   replace H := ub H; obtain ⟨t458, A9, H⟩ := H
   replace H := ub H; obtain ⟨t461, A10, H⟩ := H
   replace H := ub H; obtain ⟨⟨t464, t465⟩, A11, H⟩ := H
   (try dsimp only at H)
   replace H := ub H; obtain ⟨⟨t470, t471⟩, A12, H⟩ := H
   (try dsimp only at H)
   replace H := ub H; obtain ⟨⟨t474, t475⟩, A13, H⟩ := H
   (try dsimp only at H)
   simp only [Option.some.injEq, Prod.mk.injEq] at H
   obtain ⟨rfl, rfl, rfl⟩ := H
   go_wp2_with (first | ((with_reducible refine gate_callee (f := 75) rfl ?_); refine goesL_ (some 30) rfl rfl Try.func75 (by kernel_rfl) rfl #[.slice A0 l0.length c0] rfl uM ?_; (with_reducible refine (windbreakref01_In.calls kj4 _ _ l0 t458 _ ?side1 ?side2 A9.out).mono ?_); (case side1 => exact uC (Kd.C_below HR0.out HB.out)); (case side2 => exact HC0.out); rintro e w14 ⟨v459, rfl, ho0, hb⟩; refine ⟨_, rfl, ?_⟩; have HO460 := Aside0.mk (Kd.R_lower ho0 (below_size uB)); replace HB := uy hb; (try clear hb ho0)) | ((with_reducible refine gate_callee (f := 75) rfl ?_); refine goesL_ (some 32) rfl rfl Try.func75 (by kernel_rfl) rfl #[.slice A1 l1.length c1] rfl uM ?_; (with_reducible refine (windbreakref01_In.calls kj4 _ _ l1 t461 _ ?side1 ?side2 A10.out).mono ?_); (case side1 => exact uC (Kd.C_below HR1.out HB.out)); (case side2 => exact HC1.out); rintro e w15 ⟨v462, rfl, ho0, hb⟩; refine ⟨_, rfl, ?_⟩; have HO463 := Aside0.mk (Kd.R_lower (Kd.R_new' ho0 (Kd.R_lt (uR HO460.out))) (below_size uB)); replace HO460 := ueR HO460 ho0 hb; replace HB := uy hb; (try clear hb ho0); obtain ⟨Ao16, co16, eo16⟩ := Kd.R_slice HO460.out; subst eo16; obtain ⟨Ao17, co17, eo17⟩ := Kd.R_slice HO463.out; subst eo17) | ((with_reducible refine gate_callee (f := 126) rfl ?_); refine goesL_ (some 33) rfl rfl Try.func126 (by kernel_rfl) rfl #[.slice Ao16 t458.length co16, .slice Ao17 t461.length co17] rfl uM ?_; (with_reducible refine (windbreakref01_div.calls kj4 _ _ t458 _ _ t461 t464 t465 _ ?side1 ?side2 ?side3 ?side4 A11.out).mono ?_); (case side1 => exact uC (Kd.R_reads' HO460.out).2.2); (case side2 => exact (Kd.R_reads' HO460.out).2.1); (case side3 => exact uC (Kd.R_reads' HO463.out).2.2); (case side4 => exact (Kd.R_reads' HO463.out).2.1); rintro e w18 ⟨v466, v468, rfl, ho0, ho1, hb⟩; refine ⟨_, rfl, ?_⟩; have HO467 := Aside0.mk (Kd.R_lower (Kd.R_new' (Kd.R_new' ho0 (Kd.R_lt (uR HO460.out))) (Kd.R_lt (uR HO463.out))) (below_size uB)); have HO469 := Aside0.mk (Kd.R_lower (Kd.R_new' (Kd.R_new' ho1 (Kd.R_lt (uR HO460.out))) (Kd.R_lt (uR HO463.out))) (below_size uB)); replace HO460 := Aside0.mk (Kd.R_mono (Kd.R_told (Kd.R_told (Kd.R_old (uR HO460.out) hb) (Kd.R_base ho0)) (Kd.R_base ho1)) (fun _ h_ => h_.1)); replace HO463 := Aside0.mk (Kd.R_mono (Kd.R_told (Kd.R_told (Kd.R_old (uR HO463.out) hb) (Kd.R_base ho0)) (Kd.R_base ho1)) (fun _ h_ => h_.1)); replace HB := uy hb; (try clear hb ho0 ho1); obtain ⟨Ao19, co19, eo19⟩ := Kd.R_slice HO467.out; subst eo19) | ((with_reducible refine gate_callee (f := 123) rfl ?_); refine goesL_ (some 38) rfl rfl Try.func123 (by kernel_rfl) rfl #[.slice Ao19 t464.length co19] rfl uM ?_; (with_reducible refine (windbreakref01_Out.calls kj4 _ _ t464 t470 t471 _ ?side1 ?side2 A12.out).mono ?_); (case side1 => exact uC (Kd.R_reads' HO467.out).2.2); (case side2 => exact (Kd.R_reads' HO467.out).2.1); rintro e w20 ⟨v472, rfl, ho0, hb⟩; refine ⟨_, rfl, ?_⟩; have HO473 := Aside0.mk (Kd.R_lower (Kd.R_new' (Kd.R_new' (Kd.R_new' (Kd.R_new' ho0 (Kd.R_lt (uR HO460.out))) (Kd.R_lt (uR HO463.out))) (Kd.R_lt (uR HO467.out))) (Kd.R_lt (uR HO469.out))) (below_size uB)); replace HO460 := ueR HO460 ho0 hb; replace HO463 := ueR HO463 ho0 hb; replace HO467 := ueR HO467 ho0 hb; replace HO469 := ueR HO469 ho0 hb; replace HB := uy hb; (try clear hb ho0); obtain ⟨Ao21, co21, eo21⟩ := Kd.R_slice HO469.out; subst eo21) | ((with_reducible refine gate_callee (f := 123) rfl ?_); refine goesL_ (some 43) rfl rfl Try.func123 (by kernel_rfl) rfl #[.slice Ao21 t465.length co21] rfl uM ?_; (with_reducible refine (windbreakref01_Out.calls kj4 _ _ t465 t474 t475 _ ?side1 ?side2 A13.out).mono ?_); (case side1 => exact uC (Kd.R_reads' HO469.out).2.2); (case side2 => exact (Kd.R_reads' HO469.out).2.1); rintro e w22 ⟨v476, rfl, ho0, hb⟩; refine ⟨_, rfl, ?_⟩; have HO477 := Aside0.mk (Kd.R_lower (Kd.R_new' (Kd.R_new' (Kd.R_new' (Kd.R_new' (Kd.R_new' ho0 (Kd.R_lt (uR HO460.out))) (Kd.R_lt (uR HO463.out))) (Kd.R_lt (uR HO467.out))) (Kd.R_lt (uR HO469.out))) (Kd.R_lt (uR HO473.out))) (below_size uB)); replace HO460 := ueR HO460 ho0 hb; replace HO463 := ueR HO463 ho0 hb; replace HO467 := ueR HO467 ho0 hb; replace HO469 := ueR HO469 ho0 hb; replace HO473 := ueR HO473 ho0 hb; replace HB := uy hb; (try clear hb ho0)))
   go_ret3
   exact ⟨_, _, uF, by (with_reducible repeat (first | apply Kd.R_alloc | apply Kd.R_drewN | apply Kd.R_drew)); exact Kd.R_mono HO473.out (fun _ hk => hk.2), by (with_reducible repeat (first | apply Kd.R_alloc | apply Kd.R_drewN | apply Kd.R_drew)); exact Kd.R_mono HO477.out (fun _ hk => hk.2), uB⟩
def windbreakref01_Rest.f (k : Nat) (l0 : List Int) (l1 : List Int) : Option (List Int) := (windbreakref01_Div.f k l0 l1).bind fun bt478 => (some bt478.2.1)
set_option maxHeartbeats 8000000 in
set_option maxRecDepth 100000 in
theorem windbreakref01_Rest.calls (k : Nat) (A0 : Option Addr) (c0 : Nat) (l0 : List Int) (A1 : Option Addr) (c1 : Nat) (l1 : List Int) (r : List Int) (w : World) (hr0 : Kd.C (Kd.int .u64) w A0 l0.length l0) (hc0 : l0.length ≤ c0) (hr1 : Kd.C (Kd.int .u64) w A1 l1.length l1) (hc1 : l1.length ≤ c1) (h : windbreakref01_Rest.f k l0 l1 = some r) :
  Calls Try.prog 24 #[.slice A0 l0.length c0, .slice A1 l1.length c1] w fun e w' => ∃ v0_ : Value, e = .returned (v0_) ∧ Kd.R (Kd.int .u64) 30 w' w.heap.size (fun _ => True) v0_ r ∧ Below w.heap.size w w' := by
 have HR0 := Aside0.mk hr0; have HC0 := Aside0.mk hc0; clear hr0 hc0; have HR1 := Aside0.mk hr1; have HC1 := Aside0.mk hc1; clear hr1 hc1
 have HB := Aside0.mk (Below.refl w.heap.size w)
 have H : ((windbreakref01_Div.f k l0 l1).bind fun bt478 => (some bt478.2.1)) = some r := h
 clear h
 replace H := ub H; obtain ⟨⟨t478, t479, t480⟩, A3, H⟩ := H
 (try dsimp only at H)
 obtain rfl := Option.some.inj H
 go_enter Try.func24, Try.ntmps24
 go_wp2_with (first | ((with_reducible refine gate_callee (f := 76) rfl ?_); refine goesL_ (some 11) rfl rfl Try.func76 (by kernel_rfl) rfl #[.slice A0 l0.length c0, .slice A1 l1.length c1] rfl uM ?_; (with_reducible refine (windbreakref01_Div.calls k _ _ l0 _ _ l1 t478 t479 t480 _ ?side1 ?side2 ?side3 ?side4 A3.out).mono ?_); (case side1 => exact uC HR0.out); (case side2 => exact HC0.out); (case side3 => exact uC HR1.out); (case side4 => exact HC1.out); rintro e w4 ⟨v481, v483, rfl, ho0, ho1, hb⟩; refine ⟨_, rfl, ?_⟩; have HO482 := Aside0.mk (Kd.R_lower ho0 (below_size uB)); have HO484 := Aside0.mk (Kd.R_lower ho1 (below_size uB)); replace HB := uy hb; (try clear hb ho0 ho1)))
 go_ret
 exact ⟨_, uF, by (with_reducible repeat (first | apply Kd.R_alloc | apply Kd.R_drewN | apply Kd.R_drew)); exact Kd.R_mono HO484.out (fun _ hk => trivial), uB⟩
end Go.Proofs.Ytkgaejigpmkfkaa.F
end
section
namespace Go.Proofs.Ytkgaejigpmkfkaa.F
open Go.RowKit Go.Proofs.YtkgaejigpmkfkaaW.PrintWords Go.Proofs.YtkgaejigpmkfkaaW.PrintLast Go.Proofs.YtkgaejigpmkfkaaW.PrintMore
set_option linter.unusedVariables false
set_option linter.unusedSimpArgs false
def ref4_draw.f (z : Int) (n L : List Int) : Nat → Nat → Option (List Int × Int × Nat)
  | 0, _ => none
  | k + 1, u => if ((L.drop u).length : Int) < (z + 7) / 8 then some ([], 7, u) else (windbreakref01_Read.f k ((L.drop u).take ((z + 7) / 8).toNat)).bind fun x => (windbreakref01_Shr.f k x.1 z).bind fun t => (windbreakref01_Shl.f k t.1 z).bind fun h => (windbreakref01_Sub.f k x.1 h.1).bind fun y => (windbreakref01_Cmp.f k y.1 n).bind fun c => if c < 0 then some (y.1, 0, u + ((z + 7) / 8).toNat) else ref4_draw.f z n L k (u + ((z + 7) / 8).toNat)
def ref4_Below.f (k : Nat) (n L : List Int) (u : Nat) : Option (List Int × Int × Nat) :=
  (windbreakref01_Right.f n).bind fun b => if b = true ∧ n.length ≠ 0 then (windbreakref01_Of.f 1).bind fun o => (windbreakref01_Sub.f k n o).bind fun s => (windbreakref01_Bits.f k s.1).bind fun z => if z = 0 then some ([], 0, u) else if 0 < z ∧ z ≤ 4096 then ref4_draw.f z n L k u else none
  else some ([], 1, u)
def ref4_Small.f (k : Nat) (m : Int) (L : List Int) (u : Nat) : Option (Int × Int × Nat) :=
  if m < 1 then some (0, 1, u) else (windbreakref01_Of.f m).bind fun n => (ref4_Below.f k n L u).bind fun x => (windbreakref01_Small.f k x.1).bind fun z => some (wrap64 z.1, x.2.1, x.2.2)
def accR (x : Int) : List Int → Int
  | [] => x
  | c :: l => accR (IntKind.u64.wrap (IntKind.u64.wrap (x * 256) + IntKind.u64.wrap c)) l
def topR : Nat → Int → Int
  | 0, t => t
  | j + 1, t => topR j (IntKind.u64.wrap (t * 2))
def oddR (T x : Int) : Int := if Int.tmod (IntKind.u64.wrap (Int.tmod x T + T)) 2 = 0 then IntKind.u64.wrap (IntKind.u64.wrap (Int.tmod x T + T) + 1) else IntKind.u64.wrap (Int.tmod x T + T)
def rsearch.f (k : Nat) (z T : Int) (L : List Int) : Nat → Nat → Option (Int × Int × Nat)
  | 0, u => some (0, 8, u)
  | t + 1, u => if ((L.drop u).length : Int) < (z + 7) / 8 then some (0, 7, u) else (windbreakref05_least.f k (oddR T (accR 0 ((L.drop u).take ((z + 7) / 8).toNat)))).bind fun q => if q = oddR T (accR 0 ((L.drop u).take ((z + 7) / 8).toNat)) then some (q, 0, u + ((z + 7) / 8).toNat) else rsearch.f k z T L t (u + ((z + 7) / 8).toNat)
set_option maxHeartbeats 8000000 in
set_option maxRecDepth 100000 in
theorem rsearch.good (k : Nat) (g : Nat) (L : List Int) (u : Nat) (z T : Int) (n : Nat) (ok : Nat → Prop) (x : Int × Int × Nat) (w : World) (hT : Tp2 w g ok L (u : Int)) (hg : ¬ ok g) (hu : u ≤ L.length) (hL : L.length ≤ 65536) (hz0 : 8 ≤ z) (hz1 : z ≤ 40) (hn0 : 1 ≤ n) (hn1 : n ≤ 10000) (hTT : topR (z.toNat - 1) 1 = T) (hT0 : T ≠ 0) (h : rsearch.f k z T L n u = some x) :
    Calls Try.prog 49 #[.pointer (some ⟨g, 0, none⟩), .int .i64 z, .int .i64 (n : Int)] w fun e w' => e = .returned (.tuple #[.int .u64 x.1, .int .i64 x.2.1]) ∧ Tp2 w' g ok L (x.2.2 : Int) ∧ Stay w w' g := by
  have HT := Aside0.mk hT
  have HH := Aside0.mk h
  have HTT := Aside0.mk hTT
  have e1 : decide (z < 8) = false := decide_eq_false (by omega)
  have e2 : decide (40 < z) = false := decide_eq_false (by omega)
  have e3 : decide ((n : Int) < 1) = false := decide_eq_false (by omega)
  have e4 : decide ((10000 : Int) < (n : Int)) = false := decide_eq_false (by omega)
  have hm0 : 0 ≤ (z + 7) / 8 := by omega
  obtain ⟨zn, rfl⟩ := Int.eq_ofNat_of_zero_le (show 0 ≤ z by omega)
  have hT1 : (T == 0) = false := beq_eq_false_iff_ne.mpr hT0
  clear hT h hTT
  go_enter Try.func49, Try.ntmps49
  go_wp2
  go_loopg [8] n (fun gg v8 wr => ∃ (i u1 : Nat), v8 = .int .i64 (i : Int) ∧ i ≤ n ∧ n - i ≤ gg ∧ u1 ≤ L.length ∧ Aside0 (rsearch.f k (zn : Int) T L (n - i) u1 = some x) ∧ Aside0 (Tp2 wr g ok L (u1 : Int)) ∧ Aside0 (Stay w wr g))
  case atStart => exact ⟨0, u, rfl, by omega, by omega, hu, HH, HT, ⟨Stay.refl _ _⟩⟩
  case round =>
    obtain ⟨i, u1, rfl, hi, hgg, hu1, HK, HT1, HS⟩ := hrel
    by_cases hlt : i < n
    · have hltz : (i : Int) < (n : Int) := by omega
      have hK := HK.out
      have hdl : (L.drop u1).length = L.length - u1 := List.length_drop
      rw [show n - i = (n - (i + 1)) + 1 from by omega, rsearch.f] at hK
      by_cases hfew : ((L.drop u1).length : Int) < ((zn : Int) + 7) / 8
      · rw [if_pos hfew] at hK
        obtain rfl := Option.some.inj hK
        have HFEW := Aside0.mk (show (L.length : Int) - (u1 : Int) < ((zn : Int) + 7) / 8 from by omega)
        clear HK hfew hK hdl
        go_wp2_with (go_at_call 104; refine (tape_Take2.few g L u1 _ ok _ HT1.out (by omega) (by omega) hL (by omega) (by omega) HFEW.out).mono ?_; rintro e w' ⟨rfl, ⟨q, rfl⟩⟩)
        go_ret2
        exact ⟨rfl, HT1.out.below (by repeat (first | exact Below.refl _ _ | apply below_drew | apply pw_below_drewN)), HS.out.then (by repeat (first | exact Below.refl _ _ | apply below_drew | apply pw_below_drewN))⟩
      · rw [if_neg hfew] at hK
        have HFEW := Aside0.mk (show (u1 : Int) + ((zn : Int) + 7) / 8 ≤ (L.length : Int) from by omega)
        have HLEN := Aside0.mk (show ((L.drop u1).take (((zn : Int) + 7) / 8).toNat).length = (((zn : Int) + 7) / 8).toNat from by rw [List.length_take]; omega)
        generalize hX : (L.drop u1).take (((zn : Int) + 7) / 8).toNat = X at hK HLEN
        have HXX := Aside0.mk hX
        obtain ⟨y, hy⟩ : ∃ y, y = oddR T (accR 0 X) := ⟨_, rfl⟩
        rw [← hy] at hK
        have NY := Aside0.mk hy
        obtain ⟨q, hq, hK⟩ := Option.bind_eq_some_iff.mp hK
        have HQ := Aside0.mk hq
        have HK2 := Aside0.mk hK
        clear HK hfew hX hy hq hK hdl
        go_wp2_with (go_at_call 104; refine (tape_Take2.calls g L u1 (((zn : Int) + 7) / 8) ok _ HT1.out hg (by omega) (by omega) (by omega) HFEW.out hL).mono ?_; rintro e w2 ⟨v, rfl, hR, hT2, hk1, hk2, hk3, hk4⟩; rw [Int.toNat_natCast, HXX.out] at hR; obtain ⟨Av, cv, ev⟩ := Kd.R_slice hR; subst ev; have HV := Aside0.mk (Kd.R_reads' hR).2.2; have HT2 := Aside0.mk (show Tp2 w2 g ok L ((u1 + (((zn : Int) + 7) / 8).toNat : Nat) : Int) from by rw [show ((u1 + (((zn : Int) + 7) / 8).toNat : Nat) : Int) = (u1 : Int) + ((zn : Int) + 7) / 8 from by omega]; exact hT2); have HS2 := Aside0.mk (HS.out.trans ⟨hk1, hk2, hk3, hk4⟩); clear hR hT2 hk1 hk2 hk3 hk4)
        have HXB := Aside0.mk (show X.length ≤ 5 from by have := HLEN.out; omega)
        go_loopg [11, 12] X.length (fun gg v11 v12 wq => ∃ (j : Nat) (a : Int), v11 = .int .u64 a ∧ v12 = .int .i64 (j : Int) ∧ j ≤ X.length ∧ X.length - j ≤ gg ∧ Aside0 (accR a (X.drop j) = accR 0 X) ∧ wq = w2)
        case atStart => exact ⟨0, 0, rfl, rfl, by omega, by omega, ⟨by rw [List.drop_zero]⟩, rfl⟩
        case round =>
          obtain ⟨j, a, rfl, rfl, hj, hgg2, HA, rfl⟩ := hrel
          by_cases hjl : j < X.length
          · have hjz : (j : Int) < (X.length : Int) := by omega
            have hj0 : (0 : Int) ≤ (j : Int) := by omega
            obtain ⟨ad, hA, hx⟩ := Kd.at_int HV.out (j : Int) hj0 hjz
            subst hA
            simp only [Go.IntWalk.toNatUp] at hx
            have hrd : rd X (j : Int) = X.getD j 0 := rfl
            have hdr : X.drop j = X.getD j 0 :: X.drop (j + 1) := by
              rw [List.drop_eq_getElem_cons hjl, List.getD_eq_getElem?_getD, List.getElem?_eq_getElem hjl]
              rfl
            have hA2 := HA.out
            rw [hdr, accR] at hA2
            rw [hrd] at hx
            generalize X.getD j 0 = c at hx hA2
            have HA3 := Aside0.mk hA2
            clear hrd hdr hA2 HA
            go_wp2
            go_roundg (X.length - (j + 1))
            case measure => omega
            case rel => exact ⟨j + 1, _, rfl, by have h5 := HXB.out; congr 1; unfold wrap64; omega, by omega, by omega, HA3, rfl⟩
          · have hjz : ¬ (j : Int) < (X.length : Int) := by omega
            have HA2 := Aside0.mk (show a = accR 0 X from by have h := HA.out; rw [List.drop_of_length_le (by omega)] at h; exact h)
            clear HA
            go_wp2
            go_loopg [13, 14] zn (fun gg v13 v14 wq => ∃ (j : Nat) (t : Int), v13 = .int .u64 t ∧ v14 = .int .i64 (j : Int) ∧ 1 ≤ j ∧ j ≤ zn ∧ zn - j ≤ gg ∧ Aside0 (topR (zn - j) t = T) ∧ wq = wr)
            case atStart => exact ⟨1, 1, rfl, rfl, by omega, by omega, by omega, ⟨by have h := HTT.out; rw [Int.toNat_natCast] at h; exact h⟩, rfl⟩
            case round =>
              obtain ⟨j2, t, rfl, rfl, hj1, hj2, hgg3, HTP, rfl⟩ := hrel
              by_cases hjt : j2 < zn
              · have hjtz : (j2 : Int) < (zn : Int) := by omega
                have hT2 := HTP.out
                rw [show zn - j2 = (zn - (j2 + 1)) + 1 from by omega, topR] at hT2
                have HT3 := Aside0.mk hT2
                clear hT2 HTP
                go_wp2
                go_roundg (zn - (j2 + 1))
                case measure => omega
                case rel => exact ⟨j2 + 1, _, rfl, by go_num, by omega, by omega, by omega, HT3, rfl⟩
              · have hjtz : ¬ (j2 : Int) < (zn : Int) := by omega
                obtain rfl : t = T := by have h := HTP.out; rw [show zn - j2 = 0 from by omega] at h; exact h
                clear HTP
                have HA4 := Aside0.mk (show oddR t a = y from by rw [NY.out, HA2.out])
                have hyc : (Int.tmod (IntKind.u64.wrap (Int.tmod a t + t)) 2 = 0 ∧ IntKind.u64.wrap (IntKind.u64.wrap (Int.tmod a t + t) + 1) = y) ∨ (¬ Int.tmod (IntKind.u64.wrap (Int.tmod a t + t)) 2 = 0 ∧ IntKind.u64.wrap (Int.tmod a t + t) = y) := by
                  have h := HA4.out
                  unfold oddR at h
                  by_cases hb : Int.tmod (IntKind.u64.wrap (Int.tmod a t + t)) 2 = 0
                  · rw [if_pos hb] at h
                    exact .inl ⟨hb, h⟩
                  · rw [if_neg hb] at h
                    exact .inr ⟨hb, h⟩
                rcases hyc with ⟨hb, hy2⟩ | ⟨hb, hy2⟩
                · have hbb : (Int.tmod (IntKind.u64.wrap (Int.tmod a t + t)) 2 == 0) = true := beq_iff_eq.mpr hb
                  have HY2 := Aside0.mk hy2
                  clear hb hy2
                  by_cases hqy : q = y
                  · subst hqy
                    have hK3 := HK2.out
                    rw [if_pos rfl] at hK3
                    obtain rfl := Option.some.inj hK3
                    clear HK2 hK3
                    go_wp2_with (go_at_call 105; rw [HY2.out]; refine (windbreakref05_least.calls k _ _ _ HQ.out).mono ?_; rintro e w3 ⟨rfl, ⟨z3, rfl⟩⟩; have HT4 := Aside0.mk (HT2.out.below (pw_below_drewN (Below.refl _ _) z3)); have HS4 := Aside0.mk (HS2.out.then (pw_below_drewN (Below.refl _ _) z3)))
                    go_ret2
                    rw [show (u1 : Int) + max (((zn : Int) + 7) / 8) 0 = ((u1 + (((zn : Int) + 7) / 8).toNat : Nat) : Int) from by omega]
                    exact ⟨rfl, HT4.out, HS4.out⟩
                  · have hK3 := HK2.out
                    rw [if_neg hqy] at hK3
                    have HK4 := Aside0.mk hK3
                    have hqb : (q == y) = false := beq_eq_false_iff_ne.mpr hqy
                    clear HK2 hK3 hqy
                    go_wp2_with (go_at_call 105; rw [HY2.out]; refine (windbreakref05_least.calls k _ _ _ HQ.out).mono ?_; rintro e w3 ⟨rfl, ⟨z3, rfl⟩⟩; have HT4 := Aside0.mk (HT2.out.below (pw_below_drewN (Below.refl _ _) z3)); have HS4 := Aside0.mk (HS2.out.then (pw_below_drewN (Below.refl _ _) z3)))
                    go_roundg (n - (i + 1))
                    case measure => omega
                    case rel => exact ⟨i + 1, _, by go_num, by omega, by omega, by have := HFEW.out; omega, HK4, HT4, HS4⟩
                · have hbb : (Int.tmod (IntKind.u64.wrap (Int.tmod a t + t)) 2 == 0) = false := beq_eq_false_iff_ne.mpr hb
                  have HY2 := Aside0.mk hy2
                  clear hb hy2
                  by_cases hqy : q = y
                  · subst hqy
                    have hK3 := HK2.out
                    rw [if_pos rfl] at hK3
                    obtain rfl := Option.some.inj hK3
                    clear HK2 hK3
                    go_wp2_with (go_at_call 105; rw [HY2.out]; refine (windbreakref05_least.calls k _ _ _ HQ.out).mono ?_; rintro e w3 ⟨rfl, ⟨z3, rfl⟩⟩; have HT4 := Aside0.mk (HT2.out.below (pw_below_drewN (Below.refl _ _) z3)); have HS4 := Aside0.mk (HS2.out.then (pw_below_drewN (Below.refl _ _) z3)))
                    go_ret2
                    rw [show (u1 : Int) + max (((zn : Int) + 7) / 8) 0 = ((u1 + (((zn : Int) + 7) / 8).toNat : Nat) : Int) from by omega]
                    exact ⟨rfl, HT4.out, HS4.out⟩
                  · have hK3 := HK2.out
                    rw [if_neg hqy] at hK3
                    have HK4 := Aside0.mk hK3
                    have hqb : (q == y) = false := beq_eq_false_iff_ne.mpr hqy
                    clear HK2 hK3 hqy
                    go_wp2_with (go_at_call 105; rw [HY2.out]; refine (windbreakref05_least.calls k _ _ _ HQ.out).mono ?_; rintro e w3 ⟨rfl, ⟨z3, rfl⟩⟩; have HT4 := Aside0.mk (HT2.out.below (pw_below_drewN (Below.refl _ _) z3)); have HS4 := Aside0.mk (HS2.out.then (pw_below_drewN (Below.refl _ _) z3)))
                    go_roundg (n - (i + 1))
                    case measure => omega
                    case rel => exact ⟨i + 1, _, by go_num, by omega, by omega, by have := HFEW.out; omega, HK4, HT4, HS4⟩
    · have hltz : ¬ (i : Int) < (n : Int) := by omega
      obtain rfl : i = n := by omega
      have hK := HK.out
      rw [Nat.sub_self] at hK
      obtain rfl := Option.some.inj hK
      clear HK hK
      go_wp2
      go_ret2
      exact ⟨rfl, HT1.out, HS.out⟩
theorem topR_pow (j : Nat) : ∀ t : Nat, t * 2 ^ j < 18446744073709551616 → topR j (t : Int) = ((t * 2 ^ j : Nat) : Int) := by
  induction j with
  | zero => intro t _; simp [topR]
  | succ j ih =>
    intro t h
    rw [topR]
    have h1 : t * 2 ^ (j + 1) = t * 2 * 2 ^ j := by rw [Nat.pow_succ, Nat.mul_comm (2 ^ j) 2, Nat.mul_assoc]
    have h2 : t * 2 * 1 ≤ t * 2 * 2 ^ j := Nat.mul_le_mul_left _ (Nat.pow_pos (by omega))
    have e : IntKind.u64.wrap ((t : Int) * 2) = ((t * 2 : Nat) : Int) := by
      simp [IntKind.wrap, IntKind.bits, IntKind.signed]
      omega
    rw [e, ih (t * 2) (by omega), h1]
theorem top_is {z : Nat} (h1 : z ≤ 40) : topR (z - 1) 1 = ((2 ^ (z - 1) : Nat) : Int) := by
  have h := topR_pow (z - 1) 1 (by
    have : 2 ^ (z - 1) ≤ 2 ^ 39 := Nat.pow_le_pow_right (by omega) (by omega)
    omega)
  rw [Nat.one_mul] at h
  exact h
set_option maxHeartbeats 8000000 in
set_option maxRecDepth 100000 in
theorem rsearch.bad (p : Option Addr) (z n : Int) (w : World) (h : p = none ∨ z < 8 ∨ 40 < z ∨ n < 1 ∨ 10000 < n) :
    Calls Try.prog 49 #[.pointer p, .int .i64 z, .int .i64 n] w fun e w' => e = .returned (.tuple #[.int .u64 0, .int .i64 1]) ∧ w' = w := by
  have key : p = none ∨ (∃ a, p = some a) ∧ (decide (z < 8) = true ∨ (decide (z < 8) = false ∧ (decide (40 < z) = true ∨ (decide (40 < z) = false ∧ (decide (n < 1) = true ∨ (decide (n < 1) = false ∧ decide (10000 < n) = true)))))) := by
    cases p with
    | none => exact .inl rfl
    | some a =>
      refine .inr ⟨⟨a, rfl⟩, ?_⟩
      have h2 : z < 8 ∨ 40 < z ∨ n < 1 ∨ 10000 < n := by rcases h with h | h; cases h; exact h
      by_cases h3 : z < 8
      · exact .inl (decide_eq_true h3)
      · refine .inr ⟨decide_eq_false h3, ?_⟩
        by_cases h4 : 40 < z
        · exact .inl (decide_eq_true h4)
        · refine .inr ⟨decide_eq_false h4, ?_⟩
          by_cases h5 : n < 1
          · exact .inl (decide_eq_true h5)
          · exact .inr ⟨decide_eq_false h5, decide_eq_true (by omega)⟩
  clear h
  rcases key with rfl | ⟨⟨a, rfl⟩, h | ⟨h, h2 | ⟨h2, h3 | ⟨h3, h4⟩⟩⟩⟩
  all_goals
    go_enter Try.func49, Try.ntmps49
    go_wp2
    go_ret2
    exact ⟨rfl, rfl⟩
def rsearchF (k : Nat) (z n : Int) (L : List Int) (u : Nat) : Option (Int × Int × Nat) := if z < 8 ∨ 40 < z ∨ n < 1 ∨ 10000 < n then some (0, 1, u) else rsearch.f k z ((2 ^ (z.toNat - 1) : Nat) : Int) L n.toNat u
theorem rsearch.calls (k : Nat) (g : Nat) (L : List Int) (u : Nat) (z n : Int) (ok : Nat → Prop) (x : Int × Int × Nat) (w : World) (hT : Tp2 w g ok L (u : Int)) (hg : ¬ ok g) (hu : u ≤ L.length) (hL : L.length ≤ 65536) (h : rsearchF k z n L u = some x) :
    Calls Try.prog 49 #[.pointer (some ⟨g, 0, none⟩), .int .i64 z, .int .i64 n] w fun e w' => e = .returned (.tuple #[.int .u64 x.1, .int .i64 x.2.1]) ∧ Tp2 w' g ok L (x.2.2 : Int) ∧ Stay w w' g := by
  unfold rsearchF at h
  by_cases hb : z < 8 ∨ 40 < z ∨ n < 1 ∨ 10000 < n
  · rw [if_pos hb] at h
    obtain rfl := Option.some.inj h
    refine (rsearch.bad _ z n w (.inr hb)).mono ?_
    rintro e w' ⟨rfl, rfl⟩
    exact ⟨rfl, hT, Stay.refl _ _⟩
  · rw [if_neg hb] at h
    obtain ⟨m, rfl⟩ := Int.eq_ofNat_of_zero_le (show 0 ≤ n by omega)
    rw [Int.toNat_natCast] at h
    exact rsearch.good k g L u z _ m ok x w hT hg hu hL (by omega) (by omega) (by omega) (by omega) (top_is (by omega)) (by have := Nat.pow_pos (n := z.toNat - 1) (show 0 < 2 by omega); omega) h
end Go.Proofs.Ytkgaejigpmkfkaa.F
end
section
namespace Go.Proofs.Ytkgaejigpmkfkaa.F
open Go.RowKit Go.Proofs.YtkgaejigpmkfkaaW.PrintWords Go.Proofs.YtkgaejigpmkfkaaW.PrintLast Go.Proofs.YtkgaejigpmkfkaaW.PrintMore
attribute [local go_sem] max2_int min2_int max_two min_two max_three min_three max_four min_four
set_option linter.unusedVariables false
set_option linter.unusedSimpArgs false
mutual
def windbreakref03_Gcd.j0 : Nat → List Int → List Int → Bool → Option (List Int × Int)
 | 0, _, _, _ => none
 | k + 1, x0, x1, x20 => if x20 = true then (some (([] : List Int), 1)) else ((some (([] : List Int) : List Int)).bind fun y487 => (if y487.length + x0.length < 17592186044416 then ((some (([] : List Int) : List Int)).bind fun y493 => (if y493.length + x1.length < 17592186044416 then (windbreakref03_Gcd.l0 k (y487 ++ x0) (y493 ++ x1)) else (none))) else (none)))
def windbreakref03_Gcd.l0 : Nat → List Int → List Int → Option (List Int × Int)
 | 0, _, _ => none
 | k + 1, x8, x9 => if (x9.length : Int) > 0 then ((windbreakref01_Rest.f k x8 x9).bind fun t499 => (windbreakref03_Gcd.l0 k x9 t499)) else (some (x8, 0))
end
def windbreakref03_Gcd.f (k : Nat) (l0 : List Int) (l1 : List Int) : Option (List Int × Int) := (windbreakref01_Right.f l0).bind fun t485 => ((windbreakref01_Right.f l1).bind fun t486 => (if t485 = true then (windbreakref03_Gcd.j0 k l0 l1 (!t486)) else (windbreakref03_Gcd.j0 k l0 l1 true)))
set_option maxHeartbeats 8000000 in
set_option maxRecDepth 100000 in
theorem windbreakref03_Gcd.calls (k : Nat) (A0 : Option Addr) (c0 : Nat) (l0 : List Int) (A1 : Option Addr) (c1 : Nat) (l1 : List Int) (r1 : List Int) (r2 : Int) (w : World) (hr0 : Kd.C (Kd.int .u64) w A0 l0.length l0) (hc0 : l0.length ≤ c0) (hr1 : Kd.C (Kd.int .u64) w A1 l1.length l1) (hc1 : l1.length ≤ c1) (h : windbreakref03_Gcd.f k l0 l1 = some (r1, r2)) :
  Calls Try.prog 108 #[.slice A0 l0.length c0, .slice A1 l1.length c1] w fun e w' => ∃ v0_ : Value, e = .returned (.tuple #[v0_, .int .i64 r2]) ∧ Kd.R (Kd.int .u64) 30 w' w.heap.size (fun _ => True) v0_ r1 ∧ Below w.heap.size w w' := by
 have HR0 := Aside0.mk hr0; have HC0 := Aside0.mk hc0; clear hr0 hc0; have HR1 := Aside0.mk hr1; have HC1 := Aside0.mk hc1; clear hr1 hc1
 have HB := Aside0.mk (Below.refl w.heap.size w)
 have H : ((windbreakref01_Right.f l0).bind fun t485 => ((windbreakref01_Right.f l1).bind fun t486 => (if t485 = true then (windbreakref03_Gcd.j0 k l0 l1 (!t486)) else (windbreakref03_Gcd.j0 k l0 l1 true)))) = some (r1, r2) := h
 clear h
 replace H := ub H; obtain ⟨t485, A3, H⟩ := H
 replace H := ub H; obtain ⟨t486, A4, H⟩ := H
 have HC5 := Aside0.mk H; clear H
 go_enter Try.func108, Try.ntmps108
 go_upto_region 3 with (first | ((with_reducible refine gate_callee (f := 29) rfl ?_); refine goesL_ (some 12) rfl rfl Try.func29 (by kernel_rfl) rfl #[.slice A0 l0.length c0] rfl uM ?_; (with_reducible refine (windbreakref01_Right.calls _ _ l0 t485 _ ?side1 ?side2 A3.out).mono ?_); (case side1 => exact uC HR0.out); (case side2 => exact HC0.out); rintro e w' ⟨rfl, ⟨nd, rfl⟩⟩; refine ⟨_, rfl, ?_⟩) | ((with_reducible refine gate_callee (f := 29) rfl ?_); refine goesL_ (some 14) rfl rfl Try.func29 (by kernel_rfl) rfl #[.slice A1 l1.length c1] rfl uM ?_; (with_reducible refine (windbreakref01_Right.calls _ _ l1 t486 _ ?side1 ?side2 A4.out).mono ?_); (case side1 => exact uC HR1.out); (case side2 => exact HC1.out); rintro e w' ⟨rfl, ⟨nd, rfl⟩⟩; refine ⟨_, rfl, ?_⟩))
 (try simp only [Act.put, List.setIfInBounds_toArray, List.set_cons_zero, List.set_cons_succ])
 go_cut [20] (fun v20 wc => ∃ (kq : Nat) (x20_4 : Bool), v20 = .bool x20_4 ∧ Aside0 (windbreakref03_Gcd.j0 kq l0 l1 x20_4 = some (r1, r2)) ∧ Aside0 (kq ≤ k) ∧ Aside0 (Below w.heap.size w wc))
 case first =>
  have H := HC5.out
  clear HC5
  by_cases c6 : t485 = true
  ·
   subst c6
   have H1 : (windbreakref03_Gcd.j0 k l0 l1 (!t486)) = some (r1, r2) := by rw [if_pos rfl] at H; exact H
   clear H; have H := H1; clear H1
   have H' := Aside0.mk H
   clear H
   go_wp2
   go_meet
   case rel => exact ⟨_, (!t486), uG, H', ⟨uW⟩, ⟨uB⟩⟩
  replace c6 := Bool.eq_false_iff.mpr c6
  subst c6
  have H1 : (windbreakref03_Gcd.j0 k l0 l1 true) = some (r1, r2) := by rw [if_neg (show ¬ (false = true) by decide)] at H; exact H
  clear H; have H := H1; clear H1
  have H' := Aside0.mk H
  clear H
  go_wp2
  go_meet
  case rel => exact ⟨_, (true), uG, H', ⟨uW⟩, ⟨uB⟩⟩
 case rest =>
  clear HC5; (try clear c1); (try clear c2); (try clear p2); (try clear c6)
  obtain ⟨kq, x20_4, rfl, HA, HJ4, HB⟩ := hcut
  cases kq with
  | zero => exact absurd HA.out (by simp [windbreakref03_Gcd.j0])
  | succ kj4 =>
   have H := HA.out
   clear HA
   simp only [windbreakref03_Gcd.j0] at H
   by_cases c7 : x20_4 = true
   ·
    subst c7
    have H1 : (some (([] : List Int), 1)) = some (r1, r2) := by rw [if_pos rfl] at H; exact H
    clear H; have H := H1; clear H1
    simp only [Option.some.injEq, Prod.mk.injEq] at H
    obtain ⟨rfl, rfl⟩ := H
    go_wp2
    go_ret2
    exact ⟨_, by first | rfl | (simp [errW_none, errW_some] <;> rfl) | (simp [*, errW_none, errW_some] <;> rfl), by first | exact Kd.R_nil _ _ _ _ _ | exact Kd.N_nil _ _ _ _ _ | exact Kd.V_nil _ _ _ _ _ | exact Kd.Q_nil _ _ _ _ _ | exact Kd.S_nil _ _ _ _ _, uB⟩
   replace c7 := Bool.eq_false_iff.mpr c7
   subst c7
   have H1 : ((some (([] : List Int) : List Int)).bind fun y487 => (if y487.length + l0.length < 17592186044416 then ((some (([] : List Int) : List Int)).bind fun y493 => (if y493.length + l1.length < 17592186044416 then (windbreakref03_Gcd.l0 kj4 (y487 ++ l0) (y493 ++ l1)) else (none))) else (none))) = some (r1, r2) := by rw [if_neg (show ¬ (false = true) by decide)] at H; exact H
   clear H; have H := H1; clear H1
   obtain ⟨y487, hy487⟩ : ∃ y_ : List Int, y_ = (([] : List Int)) := ⟨_, rfl⟩
   replace H : (if y487.length + l0.length < 17592186044416 then ((some (([] : List Int) : List Int)).bind fun y493 => (if y493.length + l1.length < 17592186044416 then (windbreakref03_Gcd.l0 kj4 (y487 ++ l0) (y493 ++ l1)) else (none))) else (none)) = some (r1, r2) := by first | (rw [hy487]; with_reducible exact H) | (have H2_ := (Option.bind_some _ _).symm.trans H; rw [hy487]; with_reducible exact H2_) | (have H2_ := (Option.bind_some _ _).symm.trans H; with_reducible exact H2_) | with_reducible exact H | (rw [hy487]; exact H) | exact H
   have Ny487 := Aside0.mk hy487; clear hy487
   replace H := uT H; obtain ⟨c8, H⟩ := H
   have LMc8 := Aside0.mk c8; clear c8
   obtain ⟨y490, hy490⟩ : ∃ y_ : List Int, y_ = (y487 ++ l0) := ⟨_, rfl⟩
   replace H : ((some (([] : List Int) : List Int)).bind fun y493 => (if y493.length + l1.length < 17592186044416 then (windbreakref03_Gcd.l0 kj4 y490 (y493 ++ l1)) else (none))) = some (r1, r2) := by first | (rw [hy490]; with_reducible exact H) | (have H2_ := (Option.bind_some _ _).symm.trans H; rw [hy490]; with_reducible exact H2_) | (have H2_ := (Option.bind_some _ _).symm.trans H; with_reducible exact H2_) | with_reducible exact H | (rw [hy490]; exact H) | exact H
   have Ny490 := Aside0.mk hy490; clear hy490
   obtain ⟨y493, hy493⟩ : ∃ y_ : List Int, y_ = (([] : List Int)) := ⟨_, rfl⟩
   replace H : (if y493.length + l1.length < 17592186044416 then (windbreakref03_Gcd.l0 kj4 y490 (y493 ++ l1)) else (none)) = some (r1, r2) := by first | (rw [hy493]; with_reducible exact H) | (have H2_ := (Option.bind_some _ _).symm.trans H; rw [hy493]; with_reducible exact H2_) | (have H2_ := (Option.bind_some _ _).symm.trans H; with_reducible exact H2_) | with_reducible exact H | (rw [hy493]; exact H) | exact H
   have Ny493 := Aside0.mk hy493; clear hy493
   replace H := uT H; obtain ⟨c9, H⟩ := H
   have LMc9 := Aside0.mk c9; clear c9
   obtain ⟨y496, hy496⟩ : ∃ y_ : List Int, y_ = (y493 ++ l1) := ⟨_, rfl⟩
   replace H : (windbreakref03_Gcd.l0 kj4 y490 y496) = some (r1, r2) := by first | (rw [hy496]; with_reducible exact H) | (have H2_ := (Option.bind_some _ _).symm.trans H; rw [hy496]; with_reducible exact H2_) | (have H2_ := (Option.bind_some _ _).symm.trans H; with_reducible exact H2_) | with_reducible exact H | (rw [hy496]; exact H) | exact H
   have Ny496 := Aside0.mk hy496; clear hy496
   have H' := Aside0.mk H
   clear H
   go_wp2_with (first | ((with_reducible refine gate_dst (N := 21) rfl ?_); refine Kd.R_lit (Kd.int .u64) _ 30 ?hg (N := 21) ?hd (xs := ([] : List Int)) (inner := []) (ok := fun _ => True) (okp := fun _ => True) ?hr ?hp (fun _ hk => hk) trivial (Below.refl _ _) (Nat.le_refl _) (by simp) ?_; (case hd => rfl); (case hg => rfl); (case hr => first | (go_simp; done) | (go_simp; rfl) | (go_simp; simp only [u64_u8]; done) | (go_simp; simp only [u64_u8]; rfl)); (case hp => exact (Reps.none _ _)); intro v488 w10 ho11 hb hg_ hnew_; clear hg_ hnew_; (first | rw [← Ny487.out] at ho11 | (simp only [Int.reduceToNat] at ho11; rw [← Ny487.out] at ho11)); have HO489 := Aside0.mk (Kd.R_lower ho11 (below_size uB)); replace HB := uy hb; clear hb ho11) | ((with_reducible refine gate_builtin (b := .append) (xs := #[.tmp 21, .tmp 22]) rfl ?_); at_builtin; refine Kd.R_append_rows (Kd.int .u64) (w0 := w) w.heap.size rfl (.tmp 21) (.tmp 22) 40 30 (.int .u64 0) 8 rfl Try.underlying40 info30 rfl (by decide) (by omega) v488 y487 l0 _ _ _ (fun _ => True) (fun _ => False) rfl rfl ?aO ?aR (fun _ _ h => h) (fun _ h => h.elim) ?aF ?aB ?aS ?aL ?_; (case aR => exact uC (Kd.C_below HR0.out HB.out)); (case aB => exact uB); (case aF => exact (fun _ _ => trivial)); (case aO => exact (uR HO489.out)); (case aS => exact (below_size uB)); (case aL => have := LMc8.out; omega); intro v491 w12 ho hb hg hat; rw [← Ny490.out] at ho; replace HB := Aside0.mk (hb); have HO492 := Aside0.mk (ho); clear HO489; clear ho hb hg hat) | ((with_reducible refine gate_dst (N := 24) rfl ?_); refine Kd.R_lit (Kd.int .u64) _ 30 ?hg (N := 24) ?hd (xs := ([] : List Int)) (inner := []) (ok := fun _ => True) (okp := fun _ => True) ?hr ?hp (fun _ hk => hk) trivial (Below.refl _ _) (Nat.le_refl _) (by simp) ?_; (case hd => rfl); (case hg => rfl); (case hr => first | (go_simp; done) | (go_simp; rfl) | (go_simp; simp only [u64_u8]; done) | (go_simp; simp only [u64_u8]; rfl)); (case hp => exact (Reps.none _ _)); intro v494 w13 ho14 hb hg_ hnew_; clear hg_ hnew_; (first | rw [← Ny493.out] at ho14 | (simp only [Int.reduceToNat] at ho14; rw [← Ny493.out] at ho14)); have HO495 := Aside0.mk (Kd.R_lower (Kd.R_new' ho14 (Kd.R_lt (uR HO492.out))) (below_size uB)); replace HO492 := ueR HO492 ho14 hb; replace HB := uy hb; clear hb ho14) | ((with_reducible refine gate_builtin (b := .append) (xs := #[.tmp 24, .tmp 25]) rfl ?_); at_builtin; refine Kd.R_append_rows (Kd.int .u64) (w0 := w) w.heap.size rfl (.tmp 24) (.tmp 25) 40 30 (.int .u64 0) 8 rfl Try.underlying40 info30 rfl (by decide) (by omega) v494 y493 l1 _ _ _ (fun k_ => some k_ ≠ (v491 : Value).ownBlock) (fun _ => False) rfl rfl ?aO ?aR (fun _ _ h => h) (fun _ h => h.elim) ?aF ?aB ?aS ?aL ?_; (case aR => exact uC (Kd.C_below HR1.out HB.out)); (case aB => exact uB); (case aF => exact (fun k_ hk => Kd.fresh' (Kd.R_lt (uR HO492.out)) k_ hk)); (case aO => exact (uR (Kd.R_mono HO495.out (fun _ hk => hk.2)))); (case aS => exact (below_size uB)); (case aL => have := LMc9.out; omega); intro v497 w15 ho hb hg hat; rw [← Ny496.out] at ho; replace HO492 := Aside0.mk (Kd.R_after (ok := (fun _ => True)) (uR HO492.out) hg hat); replace HB := Aside0.mk (hb); have HO498 := Aside0.mk (ho); clear HO495; clear ho hb hg hat))
   go_loopg [8, 9] kj4 (fun kq v8 v9 w' => ∃ (x8_2 : List Int) (x9_2 : List Int), Aside0 (windbreakref03_Gcd.l0 kq x8_2 x9_2 = some (r1, r2)) ∧ Aside0 (kq ≤ kj4) ∧ Aside0 (Kd.R (Kd.int .u64) 30 w' w.heap.size (fun k_ => some k_ ≠ (v9 : Value).ownBlock) v8 x8_2) ∧ Aside0 (Kd.R (Kd.int .u64) 30 w' w.heap.size (fun k_ => some k_ ≠ (v8 : Value).ownBlock) v9 x9_2) ∧ Aside0 (Below w.heap.size w w'))
   case atStart => exact ⟨(y490), (y496), H', ⟨Nat.le_refl _⟩, ⟨by (with_reducible repeat (first | apply Kd.R_alloc | apply Kd.R_drewN | apply Kd.R_drew)); exact Kd.R_mono HO492.out (fun _ hk => hk.2)⟩, ⟨uR HO498.out⟩, ⟨uB⟩⟩
   case round =>
    clear H'
    (try clear c1); (try clear c2); (try clear p2); (try clear c6); (try clear c7); (try clear c8); (try clear c9); (try clear c10); (try clear p2)
    obtain ⟨x8_2, x9_2, HA, HK2, HO_8, HO_9, HB⟩ := hrel
    cases gk with
    | zero => exact absurd HA.out (by simp [windbreakref03_Gcd.l0])
    | succ k2 =>
     have H := HA.out
     clear HA
     simp only [windbreakref03_Gcd.l0] at H
     by_cases c16 : (x9_2.length : Int) > 0
     ·
      rw [if_pos c16] at H
      have c16b0 : decide (0 < (x9_2.length : Int)) = true := decide_eq_true c16
      have c16b1 : decide (0 < x9_2.length) = true := decide_eq_true (by omega)
      clear c16
      replace H := ub H; obtain ⟨t499, A17, H⟩ := H
      have H' := Aside0.mk H
      clear H
      obtain ⟨Ao18, co18, eo18⟩ := Kd.R_slice HO_9.out
      subst eo18
      obtain ⟨Ao19, co19, eo19⟩ := Kd.R_slice HO_8.out
      subst eo19
      go_wp2_with (first | ((with_reducible refine gate_callee (f := 24) rfl ?_); refine goesL_ (some 32) rfl rfl Try.func24 (by kernel_rfl) rfl #[.slice Ao19 x8_2.length co19, .slice Ao18 x9_2.length co18] rfl uM ?_; (with_reducible refine (windbreakref01_Rest.calls k2 _ _ x8_2 _ _ x9_2 t499 _ ?side1 ?side2 ?side3 ?side4 A17.out).mono ?_); (case side1 => exact uC (Kd.R_reads' HO_8.out).2.2); (case side2 => exact (Kd.R_reads' HO_8.out).2.1); (case side3 => exact uC (Kd.R_reads' HO_9.out).2.2); (case side4 => exact (Kd.R_reads' HO_9.out).2.1); rintro e w20 ⟨v500, rfl, ho0, hb⟩; refine ⟨_, rfl, ?_⟩; have HO501 := Aside0.mk (Kd.R_lower (Kd.R_new' (Kd.R_new' ho0 (Kd.R_lt (uR HO_8.out))) (Kd.R_lt (uR HO_9.out))) (below_size uB)); replace HO_8 := ueR HO_8 ho0 hb; replace HO_9 := ueR HO_9 ho0 hb; replace HB := uy hb; (try clear hb ho0)))
      go_roundg k2
      case measure => have := HJ4.out; have := HK2.out; omega
      case rel => exact ⟨(x9_2), (t499), H', ⟨by have := HJ4.out; have := HK2.out; omega⟩, ⟨by (with_reducible repeat (first | apply Kd.R_alloc | apply Kd.R_drewN | apply Kd.R_drew)); exact Kd.R_mono HO_9.out (fun _ hk => hk.2)⟩, ⟨by (with_reducible repeat (first | apply Kd.R_alloc | apply Kd.R_drewN | apply Kd.R_drew)); exact Kd.R_mono HO501.out (fun _ hk => hk.2)⟩, ⟨uB⟩⟩
     rw [if_neg c16] at H
     have c16b0 : decide (0 < (x9_2.length : Int)) = false := decide_eq_false c16
     have c16b1 : decide (0 < x9_2.length) = false := decide_eq_false (by omega)
     clear c16
     simp only [Option.some.injEq, Prod.mk.injEq] at H
     obtain ⟨rfl, rfl⟩ := H
     obtain ⟨Ao21, co21, eo21⟩ := Kd.R_slice HO_9.out
     subst eo21
     go_wp2
     go_ret2
     exact ⟨_, uF, by (with_reducible repeat (first | apply Kd.R_alloc | apply Kd.R_drewN | apply Kd.R_drew)); exact Kd.R_mono HO_8.out (fun _ hk => trivial), uB⟩
end Go.Proofs.Ytkgaejigpmkfkaa.F
end
