/- Proved: the law SplitmaskOnce of layer 20: an order tells each number once; for every input, without a condition. -/
import Derived.Test.YtlkinjhmgljapabMSplitmaskOncea
import Derived.Deep.Slices
import Derived.Lib.SmallJoins
import Derived.OpenShut
import Derived.Laws.BitsLemmas
import Derived.SizedLaws
import Derived.ChangeSlices
import Derived.Test.YtlkinjhmgljapabRows
import Derived.WalkKit
import Derived.ProofKit
import Derived.ShutString
import Derived.ChangeOld
import Derived.Below
section
namespace Go.Proofs.Ytlkinjhmgljapab.F
open Go.RowKit Go.Proofs.YtlkinjhmgljapabW.PrintWords Go.Proofs.YtlkinjhmgljapabW.PrintLast Go.Proofs.YtlkinjhmgljapabW.PrintMore
attribute [local go_sem] max2_int min2_int max_two min_two max_three min_three max_four min_four
set_option linter.unusedVariables false
set_option linter.unusedSimpArgs false
attribute [local go_sem] sub64_run
def nat_less.l0 : Nat → List Int → List Int → List Int → Int → Int → Int → Option (List Int)
 | 0, _, _, _, _, _, _ => none
 | k + 1, x0, x1, x5, x6, x13, x14 => if x14 < x13 then (if x14 < (x1.length : Int) then (if 0 ≤ x14 then (if x14 < (x0.length : Int) then (if carry01 x6 = true then (if x14 < (x5.length : Int) then (nat_less.l0 k x0 x1 (x5.set (x14 : Int).toNat (sub64_s (rd x0 x14) (rd x1 x14) x6)) (sub64_c (rd x0 x14) (rd x1 x14) x6) x13 (wrap64 (x14 + 1))) else (none)) else (none)) else (none)) else (none)) else (if 0 ≤ x14 then (if x14 < (x0.length : Int) then (if carry01 x6 = true then (if x14 < (x5.length : Int) then (nat_less.l0 k x0 x1 (x5.set (x14 : Int).toNat (sub64_s (rd x0 x14) 0 x6)) (sub64_c (rd x0 x14) 0 x6) x13 (wrap64 (x14 + 1))) else (none)) else (none)) else (none)) else (none))) else (some x5)
def nat_less.f (k : Nat) (l0 : List Int) (l1 : List Int) : Option (List Int) := if 0 ≤ (l0.length : Int) then (if ((l0.length : Int) : Int).toNat ≤ 35184372088832 then (nat_less.l0 k l0 l1 (List.replicate ((l0.length : Int) : Int).toNat 0) 0 (l0.length : Int) 0) else (none)) else (none)
set_option maxHeartbeats 8000000 in
set_option maxRecDepth 100000 in
theorem nat_less.calls (k : Nat) (A0 : Option Addr) (c0 : Nat) (l0 : List Int) (A1 : Option Addr) (c1 : Nat) (l1 : List Int) (r : List Int) (w : World) (hr0 : Kd.C (Kd.int .u64) w A0 l0.length l0) (hc0 : l0.length ≤ c0) (hr1 : Kd.C (Kd.int .u64) w A1 l1.length l1) (hc1 : l1.length ≤ c1) (h : nat_less.f k l0 l1 = some r) :
  Calls Try.prog 73 #[.slice A0 l0.length c0, .slice A1 l1.length c1] w fun e w' => ∃ v0_ : Value, e = .returned (v0_) ∧ Kd.R (Kd.int .u64) 47 w' w.heap.size (fun _ => True) v0_ r ∧ Below w.heap.size w w' := by
 have HR0 := Aside0.mk hr0; have HC0 := Aside0.mk hc0; clear hr0 hc0; have HR1 := Aside0.mk hr1; have HC1 := Aside0.mk hc1; clear hr1 hc1
 have HB := Aside0.mk (Below.refl w.heap.size w)
 have H : (if 0 ≤ (l0.length : Int) then (if ((l0.length : Int) : Int).toNat ≤ 35184372088832 then (nat_less.l0 k l0 l1 (List.replicate ((l0.length : Int) : Int).toNat 0) 0 (l0.length : Int) 0) else (none)) else (none)) = some r := h
 clear h
 replace H := uT H; obtain ⟨c3, H⟩ := H
 have c3b0 := eq_true c3
 have c3b1 : decide (0 ≤ (l0.length : Int)) = true := decide_eq_true c3
 clear c3
 replace H := uT H; obtain ⟨c4, H⟩ := H
 have c4b0 := eq_true c4
 have c4b1 : decide (((l0.length : Int) : Int).toNat ≤ 35184372088832) = true := decide_eq_true c4
 clear c4
 obtain ⟨y122, hy122⟩ : ∃ y_ : List Int, y_ = (List.replicate ((l0.length : Int) : Int).toNat 0) := ⟨_, rfl⟩
 replace H : (nat_less.l0 k l0 l1 y122 0 (l0.length : Int) 0) = some r := by first | (rw [hy122]; with_reducible exact H) | (have H2_ := (Option.bind_some _ _).symm.trans H; rw [hy122]; with_reducible exact H2_) | (have H2_ := (Option.bind_some _ _).symm.trans H; with_reducible exact H2_) | with_reducible exact H | (rw [hy122]; exact H) | exact H
 have Ny122 := Aside0.mk hy122; clear hy122
 have H' := Aside0.mk H
 clear H
 go_enter Try.func73, Try.ntmps73
 go_wp2_with (first | ((with_reducible refine gate_dst (N := 11) rfl ?_); refine Kd.R_make (Kd.int .u64) _ 47 rfl (N := 11) rfl 29 _ _ rfl (l0.length : Int) rfl rfl Try.underlying29 (.int .u64 0) 8 info47 rfl (by decide) (by omega) 0 (ok := fun _ => True) (okp := fun _ => True) rfl (fun _ hk => hk) trivial uO (Nat.le_trans (Nat.mul_le_mul_right _ (uO : (l0.length : Int).toNat ≤ 35184372088832)) (by omega)) (Below.refl _ _) (Nat.le_refl _) ?_; intro v123 w5 ho6 hb hg_ hnew_; clear hg_ hnew_; (first | rw [← Ny122.out] at ho6 | (simp only [Int.reduceToNat] at ho6; rw [← Ny122.out] at ho6)); have HO124 := Aside0.mk (Kd.R_lower ho6 (below_size uB)); replace HB := uy hb; clear hb ho6))
 go_loopg [6, 14] k (fun kq v6 v14 w' => ∃ (x5_1 : List Int) (x6_1 : Int) (x14_1 : Int), v6 = .int .u64 x6_1 ∧ v14 = .int .i64 x14_1 ∧ Aside0 (nat_less.l0 kq l0 l1 x5_1 x6_1 (l0.length : Int) x14_1 = some r) ∧ Aside0 (kq ≤ k) ∧ Aside0 (Kd.R (Kd.int .u64) 47 w' w.heap.size (fun _ => True) v123 x5_1) ∧ Aside0 (Below w.heap.size w w'))
 case atStart => exact ⟨(y122), (0), (0), uG, uG, H', ⟨Nat.le_refl _⟩, ⟨uR HO124.out⟩, ⟨uB⟩⟩
 case round =>
  clear H'
  (try clear c1); (try clear p2); (try clear c3); (try clear c3b0); (try clear c3b1); (try clear c4); (try clear c4b0); (try clear c4b1)
  obtain ⟨x5_1, x6_1, x14_1, rfl, rfl, HA, HK1, HO_5, HB⟩ := hrel
  cases gk with
  | zero => exact absurd HA.out (by simp [nat_less.l0])
  | succ k1 =>
   have H := HA.out
   clear HA
   simp only [nat_less.l0] at H
   by_cases c7 : x14_1 < (l0.length : Int)
   ·
    rw [if_pos c7] at H
    have c7b0 : decide (x14_1 < (l0.length : Int)) = true := decide_eq_true c7
    clear c7
    by_cases c8 : x14_1 < (l1.length : Int)
    ·
     rw [if_pos c8] at H
     have c8b0 : decide (x14_1 < (l1.length : Int)) = true := decide_eq_true c8
     clear c8
     replace H := uT H; obtain ⟨c9, H⟩ := H
     have c9b0 : decide (0 ≤ x14_1) = true := decide_eq_true c9
     clear c9
     replace H := uT H; obtain ⟨c10, H⟩ := H
     have c10b0 : decide (x14_1 < (l0.length : Int)) = true := decide_eq_true c10
     clear c10
     replace H := uT H; obtain ⟨c11, H⟩ := H
     have c11b0 : carry01 x6_1 = true := c11
     clear c11
     replace H := uT H; obtain ⟨c12, H⟩ := H
     have c12b0 : decide (x14_1 < (x5_1.length : Int)) = true := decide_eq_true c12
     clear c12
     obtain ⟨y127, hy127⟩ : ∃ y_ : List Int, y_ = (x5_1.set (x14_1 : Int).toNat (sub64_s (rd l0 x14_1) (rd l1 x14_1) x6_1)) := ⟨_, rfl⟩
     replace H : (nat_less.l0 k1 l0 l1 y127 (sub64_c (rd l0 x14_1) (rd l1 x14_1) x6_1) (l0.length : Int) (wrap64 (x14_1 + 1))) = some r := by first | (rw [hy127]; with_reducible exact H) | (have H2_ := (Option.bind_some _ _).symm.trans H; rw [hy127]; with_reducible exact H2_) | (have H2_ := (Option.bind_some _ _).symm.trans H; with_reducible exact H2_) | with_reducible exact H | (rw [hy127]; exact H) | exact H
     have Ny127 := Aside0.mk hy127; clear hy127
     have H' := Aside0.mk H
     clear H
     have p125 : 0 ≤ (x14_1 : Int) := uO
     have q125 : x14_1 < (l1.length : Int) := uO
     obtain ⟨ad125, e125, hx125_0⟩ := Kd.at_int HR1.out x14_1 p125 q125
     cases e125
     replace hx125_0 := (HB.out.cell (World.block_lt_of_cell? w _ hx125_0)).trans hx125_0
     replace p125 := eq_true p125
     replace q125 := eq_true q125
     have p126 : 0 ≤ (x14_1 : Int) := uO
     have q126 : x14_1 < (l0.length : Int) := uO
     obtain ⟨ad126, e126, hx126_0⟩ := Kd.at_int HR0.out x14_1 p126 q126
     cases e126
     replace hx126_0 := (HB.out.cell (World.block_lt_of_cell? w _ hx126_0)).trans hx126_0
     replace p126 := eq_true p126
     replace q126 := eq_true q126
     have p13 : 0 ≤ (x14_1 : Int) := uO
     have q13 : (x14_1 : Int) < ((x5_1.length : Int) : Int) := uO
     obtain ⟨go13, co13, eo13, gb13, gl13, cl13, HG13⟩ := Kd.R_form HO_5.out (by omega)
     (first | cases eo13 | (injection eo13 with ea_ en_ ec_; (first | subst ea_ | (injection ea_ with ea_; subst ea_)); subst ec_; clear en_))
     have GB13 := Aside0.mk gb13; have GG13 := Aside0.mk HG13; clear gb13 gl13 HG13
     obtain ⟨hx13_0, hf13_0⟩ := Kd.R_celln 0 HO_5.out (x14_1 : Int) p13 q13
     replace p13 := eq_true p13
     replace q13 := eq_true q13
     have HP14 := Kd.R_putg HO_5.out (x14_1 : Int) (sub64_s (rd l0 x14_1) (rd l1 x14_1) x6_1)
     go_wp2_with (first | ((with_reducible refine gate_store (t := 47) (p := 37) rfl ?_); refine store_event (t := 47) (p := 37) (v := ?vo_w15) (w1 := (wr.setCell ⟨go13, (x14_1 : Int).toNat, none⟩ (.int .u64 (sub64_s (rd l0 x14_1) (rd l1 x14_1) x6_1)))) ?hg ?ho ?hn ?hr ?_; (case ho => rfl); (case hg => rfl); (case hn => rfl); (case hr => first | (go_simp; done) | (go_simp; rfl) | (obtain ⟨hy_, hz_⟩ := Kd.R_celln 0 HO_5.out (x14_1 : Int) uO uO; (try simp only [Go.IntWalk.toNatUp] at hy_ hz_); (try simp only [Int.reduceToNat, Int.toNat_zero, Int.toNat_ofNat] at hy_ hz_); first | (go_simp; done) | (go_simp; rfl))); intro w15 hw; have hg : wr.grownBy w15 (some go13) := (by rw [hw]; exact HP14.2); have hp_ : Kd.R (Kd.int .u64) 47 w15 w.heap.size (fun _ => True) (.slice (some ⟨go13, 0, none⟩) x5_1.length co13) y127 := (by rw [hw, Ny127.out]; exact HP14.1); clear HP14; replace HO_5 := Aside0.mk (hp_); replace HB := Aside0.mk ((by rw [hw]; exact below_set (HB.out) GB13.out : Below w.heap.size w w15)); clear hg hw hp_))
     go_roundg k1
     case measure => have := HK1.out; omega
     case rel => exact ⟨(y127), (sub64_c (rd l0 x14_1) (rd l1 x14_1) x6_1), (wrap64 (x14_1 + 1)), uG, uG, H', ⟨by have := HK1.out; omega⟩, ⟨uR HO_5.out⟩, ⟨uB⟩⟩
    rw [if_neg c8] at H
    have c8b0 : decide (x14_1 < (l1.length : Int)) = false := decide_eq_false c8
    clear c8
    replace H := uT H; obtain ⟨c16, H⟩ := H
    have c16b0 : decide (0 ≤ x14_1) = true := decide_eq_true c16
    clear c16
    replace H := uT H; obtain ⟨c17, H⟩ := H
    have c17b0 : decide (x14_1 < (l0.length : Int)) = true := decide_eq_true c17
    clear c17
    replace H := uT H; obtain ⟨c18, H⟩ := H
    have c18b0 : carry01 x6_1 = true := c18
    clear c18
    replace H := uT H; obtain ⟨c19, H⟩ := H
    have c19b0 : decide (x14_1 < (x5_1.length : Int)) = true := decide_eq_true c19
    clear c19
    obtain ⟨y129, hy129⟩ : ∃ y_ : List Int, y_ = (x5_1.set (x14_1 : Int).toNat (sub64_s (rd l0 x14_1) 0 x6_1)) := ⟨_, rfl⟩
    replace H : (nat_less.l0 k1 l0 l1 y129 (sub64_c (rd l0 x14_1) 0 x6_1) (l0.length : Int) (wrap64 (x14_1 + 1))) = some r := by first | (rw [hy129]; with_reducible exact H) | (have H2_ := (Option.bind_some _ _).symm.trans H; rw [hy129]; with_reducible exact H2_) | (have H2_ := (Option.bind_some _ _).symm.trans H; with_reducible exact H2_) | with_reducible exact H | (rw [hy129]; exact H) | exact H
    have Ny129 := Aside0.mk hy129; clear hy129
    have H' := Aside0.mk H
    clear H
    have p128 : 0 ≤ (x14_1 : Int) := uO
    have q128 : x14_1 < (l0.length : Int) := uO
    obtain ⟨ad128, e128, hx128_0⟩ := Kd.at_int HR0.out x14_1 p128 q128
    cases e128
    replace hx128_0 := (HB.out.cell (World.block_lt_of_cell? w _ hx128_0)).trans hx128_0
    replace p128 := eq_true p128
    replace q128 := eq_true q128
    have p20 : 0 ≤ (x14_1 : Int) := uO
    have q20 : (x14_1 : Int) < ((x5_1.length : Int) : Int) := uO
    obtain ⟨go20, co20, eo20, gb20, gl20, cl20, HG20⟩ := Kd.R_form HO_5.out (by omega)
    (first | cases eo20 | (injection eo20 with ea_ en_ ec_; (first | subst ea_ | (injection ea_ with ea_; subst ea_)); subst ec_; clear en_))
    have GB20 := Aside0.mk gb20; have GG20 := Aside0.mk HG20; clear gb20 gl20 HG20
    obtain ⟨hx20_0, hf20_0⟩ := Kd.R_celln 0 HO_5.out (x14_1 : Int) p20 q20
    replace p20 := eq_true p20
    replace q20 := eq_true q20
    have HP21 := Kd.R_putg HO_5.out (x14_1 : Int) (sub64_s (rd l0 x14_1) 0 x6_1)
    go_wp2_with (first | ((with_reducible refine gate_store (t := 47) (p := 37) rfl ?_); refine store_event (t := 47) (p := 37) (v := ?vo_w22) (w1 := (wr.setCell ⟨go20, (x14_1 : Int).toNat, none⟩ (.int .u64 (sub64_s (rd l0 x14_1) 0 x6_1)))) ?hg ?ho ?hn ?hr ?_; (case ho => rfl); (case hg => rfl); (case hn => rfl); (case hr => first | (go_simp; done) | (go_simp; rfl) | (obtain ⟨hy_, hz_⟩ := Kd.R_celln 0 HO_5.out (x14_1 : Int) uO uO; (try simp only [Go.IntWalk.toNatUp] at hy_ hz_); (try simp only [Int.reduceToNat, Int.toNat_zero, Int.toNat_ofNat] at hy_ hz_); first | (go_simp; done) | (go_simp; rfl))); intro w22 hw; have hg : wr.grownBy w22 (some go20) := (by rw [hw]; exact HP21.2); have hp_ : Kd.R (Kd.int .u64) 47 w22 w.heap.size (fun _ => True) (.slice (some ⟨go20, 0, none⟩) x5_1.length co20) y129 := (by rw [hw, Ny129.out]; exact HP21.1); clear HP21; replace HO_5 := Aside0.mk (hp_); replace HB := Aside0.mk ((by rw [hw]; exact below_set (HB.out) GB20.out : Below w.heap.size w w22)); clear hg hw hp_))
    go_roundg k1
    case measure => have := HK1.out; omega
    case rel => exact ⟨(y129), (sub64_c (rd l0 x14_1) 0 x6_1), (wrap64 (x14_1 + 1)), uG, uG, H', ⟨by have := HK1.out; omega⟩, ⟨uR HO_5.out⟩, ⟨uB⟩⟩
   rw [if_neg c7] at H
   have c7b0 : decide (x14_1 < (l0.length : Int)) = false := decide_eq_false c7
   clear c7
   obtain rfl := Option.some.inj H
   go_wp2
   go_ret
   exact ⟨_, uF, uR HO_5.out, uB⟩
end Go.Proofs.Ytlkinjhmgljapab.F
end
section
namespace Go.Proofs.Ytlkinjhmgljapab.F
open Go.RowKit Go.Proofs.YtlkinjhmgljapabW.PrintWords Go.Proofs.YtlkinjhmgljapabW.PrintLast Go.Proofs.YtlkinjhmgljapabW.PrintMore
attribute [local go_sem] max2_int min2_int max_two min_two max_three min_three max_four min_four
set_option linter.unusedVariables false
set_option linter.unusedSimpArgs false
def nat_Sub.f (k : Nat) (l0 : List Int) (l1 : List Int) : Option (List Int × Int) := (nat_right.f (([l0, l1] : List (List Int)))).bind fun t133 => (if t133 = true then ((nat_compare.f k l0 l1).bind fun t134 => (if t134 < 0 then (some (([] : List Int), 2)) else ((nat_less.f k l0 l1).bind fun t135 => ((nat_told.f k t135).bind fun bt138 => (some (bt138.1, bt138.2)))))) else (some (([] : List Int), 1)))
set_option maxHeartbeats 8000000 in
set_option maxRecDepth 100000 in
theorem nat_Sub.calls (k : Nat) (P0_ : Nat → Prop) (A0 : Option Addr) (c0 : Nat) (l0 : List Int) (P1_ : Nat → Prop) (A1 : Option Addr) (c1 : Nat) (l1 : List Int) (r1 : List Int) (r2 : Int) (w : World) (hs0 : Kd.V (Kd.int .u64) 47 w w.heap.size (fun k_ => P0_ k_) (.slice A0 l0.length c0) l0) (hs1 : Kd.V (Kd.int .u64) 47 w w.heap.size (fun k_ => P1_ k_) (.slice A1 l1.length c1) l1) (h : nat_Sub.f k l0 l1 = some (r1, r2)) :
  Calls Try.prog 40 #[.slice A0 l0.length c0, .slice A1 l1.length c1] w fun e w' => ∃ v0_ : Value, e = .returned (.tuple #[v0_, .int .i64 r2]) ∧ Kd.R (Kd.int .u64) 47 w' w.heap.size (fun k_ => (w.heap.size ≤ k_)) v0_ r1 ∧ Below w.heap.size w w' := by
 have HO0 := Aside0.mk (show Kd.V (Kd.int .u64) 47 w w.heap.size (fun k_ => ((P0_ k_ ∨ P1_ k_) ∨ w.heap.size ≤ k_)) (.slice A0 l0.length c0) l0 from Kd.V_mono hs0 (fun k_ hk => .inl (.inl hk)))
 have HO1 := Aside0.mk (show Kd.V (Kd.int .u64) 47 w w.heap.size (fun k_ => ((P0_ k_ ∨ P1_ k_) ∨ w.heap.size ≤ k_)) (.slice A1 l1.length c1) l1 from Kd.V_mono hs1 (fun k_ hk => .inl (.inr hk)))
 have HB := Aside0.mk (Below.refl w.heap.size w)
 have H : ((nat_right.f (([l0, l1] : List (List Int)))).bind fun t133 => (if t133 = true then ((nat_compare.f k l0 l1).bind fun t134 => (if t134 < 0 then (some (([] : List Int), 2)) else ((nat_less.f k l0 l1).bind fun t135 => ((nat_told.f k t135).bind fun bt138 => (some (bt138.1, bt138.2)))))) else (some (([] : List Int), 1)))) = some (r1, r2) := h
 clear h
 obtain ⟨y130, hy130⟩ : ∃ y_ : List (List Int), y_ = (([l0, l1] : List (List Int))) := ⟨_, rfl⟩
 replace H : ((nat_right.f y130).bind fun t133 => (if t133 = true then ((nat_compare.f k l0 l1).bind fun t134 => (if t134 < 0 then (some (([] : List Int), 2)) else ((nat_less.f k l0 l1).bind fun t135 => ((nat_told.f k t135).bind fun bt138 => (some (bt138.1, bt138.2)))))) else (some (([] : List Int), 1)))) = some (r1, r2) := by first | (rw [hy130]; with_reducible exact H) | (have H2_ := (Option.bind_some _ _).symm.trans H; rw [hy130]; with_reducible exact H2_) | (have H2_ := (Option.bind_some _ _).symm.trans H; with_reducible exact H2_) | with_reducible exact H | (rw [hy130]; exact H) | exact H
 have Ny130 := Aside0.mk hy130; clear hy130
 replace H := ub H; obtain ⟨t133, A3, H⟩ := H
 by_cases c4 : t133 = true
 ·
  subst c4
  have H1 : ((nat_compare.f k l0 l1).bind fun t134 => (if t134 < 0 then (some (([] : List Int), 2)) else ((nat_less.f k l0 l1).bind fun t135 => ((nat_told.f k t135).bind fun bt138 => (some (bt138.1, bt138.2)))))) = some (r1, r2) := by rw [if_pos rfl] at H; exact H
  clear H; have H := H1; clear H1
  replace H := ub H; obtain ⟨t134, A5, H⟩ := H
  by_cases c6 : t134 < 0
  ·
   rw [if_pos c6] at H
   have c6b0 : decide (t134 < 0) = true := decide_eq_true c6
   clear c6
   simp only [Option.some.injEq, Prod.mk.injEq] at H
   obtain ⟨rfl, rfl⟩ := H
   go_enter Try.func40, Try.ntmps40
   go_wp2_with (first | ((with_reducible refine gate_dst (N := 9) rfl ?_); refine Kd.N_lit (Kd.slice 47 (Kd.int .u64)) _ 29 ?hg (N' := 9) ?hd (xs := ([l0, l1] : List (List Int))) (inner := [.slice A0 l0.length c0, .slice A1 l1.length c1]) (ok := (fun k_ => ((P0_ k_ ∨ P1_ k_) ∨ w.heap.size ≤ k_))) (okp := (fun k_ => ((P0_ k_ ∨ P1_ k_) ∨ w.heap.size ≤ k_))) ?hr ?hp (fun _ hk => hk) ((show ∀ k_, w.heap.size ≤ k_ → (fun k_ => ((P0_ k_ ∨ P1_ k_) ∨ w.heap.size ≤ k_)) k_ from fun k_ hk => (.inr (Nat.le_trans (below_size uB) hk))) _ (Nat.le_refl _)) (Below.refl _ _) (Nat.le_refl _) (by simp) ?_; (case hd => rfl); (case hg => rfl); (case hr => first | (go_simp; done) | (go_simp; rfl) | (go_simp; simp only [u64_u8]; done) | (go_simp; simp only [u64_u8]; rfl)); (case hp => exact (Reps.one (show Kd.FK (Kd.slice 47 (Kd.int .u64)) _ _ l0 [.slice A0 l0.length c0] from (Kd.FK_slice_mk (Kd.V_reads' (Kd.V_mono (ok' := (fun k_ => ((P0_ k_ ∨ P1_ k_) ∨ w.heap.size ≤ k_))) (HO0.out) (fun k_ hk => hk))).2.1 (Kd.V_F (Kd.V_mono (ok' := (fun k_ => ((P0_ k_ ∨ P1_ k_) ∨ w.heap.size ≤ k_))) (HO0.out) (fun k_ hk => hk))))) (Reps.one (show Kd.FK (Kd.slice 47 (Kd.int .u64)) _ _ l1 [.slice A1 l1.length c1] from (Kd.FK_slice_mk (Kd.V_reads' (Kd.V_mono (ok' := (fun k_ => ((P0_ k_ ∨ P1_ k_) ∨ w.heap.size ≤ k_))) (HO1.out) (fun k_ hk => hk))).2.1 (Kd.V_F (Kd.V_mono (ok' := (fun k_ => ((P0_ k_ ∨ P1_ k_) ∨ w.heap.size ≤ k_))) (HO1.out) (fun k_ hk => hk))))) (Reps.none _ _)))); intro v131 w7 ho8 hb hg_ hnew_; clear hg_ hnew_; (first | rw [← Ny130.out] at ho8 | (simp only [Int.reduceToNat] at ho8; rw [← Ny130.out] at ho8)); replace HO0 := Aside0.mk (Kd.V_elder' (uV HO0.out) (Kd.N_base ho8) hb); replace HO1 := Aside0.mk (Kd.V_elder' (uV HO1.out) (Kd.N_base ho8) hb); have HO132 := Aside0.mk (Kd.N_lower ho8 (below_size uB)); replace HB := uy hb; clear hb ho8; obtain ⟨Ao9, co9, eo9⟩ := Kd.N_slice HO132.out; subst eo9) | ((with_reducible refine gate_callee (f := 70) rfl ?_); refine goesL_ (some 10) rfl rfl Try.func70 (by kernel_rfl) rfl #[.slice Ao9 y130.length co9] rfl uM ?_; (with_reducible refine (nat_right.calls _ _ y130 true _ ?side1 ?side2 A3.out).mono ?_); (case side1 => exact uC (Kd.N_reads' HO132.out).2.2); (case side2 => exact (Kd.N_reads' HO132.out).2.1); rintro e w' ⟨rfl, ⟨nd, rfl⟩⟩; refine ⟨_, rfl, ?_⟩) | ((with_reducible refine gate_callee (f := 71) rfl ?_); refine goesL_ (some 15) rfl rfl Try.func71 (by kernel_rfl) rfl #[.slice A0 l0.length c0, .slice A1 l1.length c1] rfl uM ?_; (with_reducible refine (nat_compare.calls k _ _ l0 _ _ l1 t134 _ ?side1 ?side2 ?side3 ?side4 A5.out).mono ?_); (case side1 => exact uC (Kd.V_reads' HO0.out).2.2); (case side2 => exact (Kd.V_reads' HO0.out).2.1); (case side3 => exact uC (Kd.V_reads' HO1.out).2.2); (case side4 => exact (Kd.V_reads' HO1.out).2.1); rintro e w' ⟨rfl, ⟨nd, rfl⟩⟩; refine ⟨_, rfl, ?_⟩))
   go_ret2
   exact ⟨_, by first | rfl | (simp [errW_none, errW_some] <;> rfl) | (simp [*, errW_none, errW_some] <;> rfl), by first | exact Kd.R_nil _ _ _ _ _ | exact Kd.N_nil _ _ _ _ _ | exact Kd.V_nil _ _ _ _ _ | exact Kd.Q_nil _ _ _ _ _ | exact Kd.S_nil _ _ _ _ _, uB⟩
  rw [if_neg c6] at H
  have c6b0 : decide (t134 < 0) = false := decide_eq_false c6
  clear c6
  replace H := ub H; obtain ⟨t135, A10, H⟩ := H
  replace H := ub H; obtain ⟨⟨t138, t141⟩, A11, H⟩ := H
  (try dsimp only at H)
  simp only [Option.some.injEq, Prod.mk.injEq] at H
  obtain ⟨rfl, rfl⟩ := H
  go_enter Try.func40, Try.ntmps40
  go_wp2_with (first | ((with_reducible refine gate_dst (N := 9) rfl ?_); refine Kd.N_lit (Kd.slice 47 (Kd.int .u64)) _ 29 ?hg (N' := 9) ?hd (xs := ([l0, l1] : List (List Int))) (inner := [.slice A0 l0.length c0, .slice A1 l1.length c1]) (ok := (fun k_ => ((P0_ k_ ∨ P1_ k_) ∨ w.heap.size ≤ k_))) (okp := (fun k_ => ((P0_ k_ ∨ P1_ k_) ∨ w.heap.size ≤ k_))) ?hr ?hp (fun _ hk => hk) ((show ∀ k_, w.heap.size ≤ k_ → (fun k_ => ((P0_ k_ ∨ P1_ k_) ∨ w.heap.size ≤ k_)) k_ from fun k_ hk => (.inr (Nat.le_trans (below_size uB) hk))) _ (Nat.le_refl _)) (Below.refl _ _) (Nat.le_refl _) (by simp) ?_; (case hd => rfl); (case hg => rfl); (case hr => first | (go_simp; done) | (go_simp; rfl) | (go_simp; simp only [u64_u8]; done) | (go_simp; simp only [u64_u8]; rfl)); (case hp => exact (Reps.one (show Kd.FK (Kd.slice 47 (Kd.int .u64)) _ _ l0 [.slice A0 l0.length c0] from (Kd.FK_slice_mk (Kd.V_reads' (Kd.V_mono (ok' := (fun k_ => ((P0_ k_ ∨ P1_ k_) ∨ w.heap.size ≤ k_))) (HO0.out) (fun k_ hk => hk))).2.1 (Kd.V_F (Kd.V_mono (ok' := (fun k_ => ((P0_ k_ ∨ P1_ k_) ∨ w.heap.size ≤ k_))) (HO0.out) (fun k_ hk => hk))))) (Reps.one (show Kd.FK (Kd.slice 47 (Kd.int .u64)) _ _ l1 [.slice A1 l1.length c1] from (Kd.FK_slice_mk (Kd.V_reads' (Kd.V_mono (ok' := (fun k_ => ((P0_ k_ ∨ P1_ k_) ∨ w.heap.size ≤ k_))) (HO1.out) (fun k_ hk => hk))).2.1 (Kd.V_F (Kd.V_mono (ok' := (fun k_ => ((P0_ k_ ∨ P1_ k_) ∨ w.heap.size ≤ k_))) (HO1.out) (fun k_ hk => hk))))) (Reps.none _ _)))); intro v131 w12 ho13 hb hg_ hnew_; clear hg_ hnew_; (first | rw [← Ny130.out] at ho13 | (simp only [Int.reduceToNat] at ho13; rw [← Ny130.out] at ho13)); replace HO0 := Aside0.mk (Kd.V_elder' (uV HO0.out) (Kd.N_base ho13) hb); replace HO1 := Aside0.mk (Kd.V_elder' (uV HO1.out) (Kd.N_base ho13) hb); have HO132 := Aside0.mk (Kd.N_lower ho13 (below_size uB)); replace HB := uy hb; clear hb ho13; obtain ⟨Ao14, co14, eo14⟩ := Kd.N_slice HO132.out; subst eo14) | ((with_reducible refine gate_callee (f := 70) rfl ?_); refine goesL_ (some 10) rfl rfl Try.func70 (by kernel_rfl) rfl #[.slice Ao14 y130.length co14] rfl uM ?_; (with_reducible refine (nat_right.calls _ _ y130 true _ ?side1 ?side2 A3.out).mono ?_); (case side1 => exact uC (Kd.N_reads' HO132.out).2.2); (case side2 => exact (Kd.N_reads' HO132.out).2.1); rintro e w' ⟨rfl, ⟨nd, rfl⟩⟩; refine ⟨_, rfl, ?_⟩) | ((with_reducible refine gate_callee (f := 71) rfl ?_); refine goesL_ (some 15) rfl rfl Try.func71 (by kernel_rfl) rfl #[.slice A0 l0.length c0, .slice A1 l1.length c1] rfl uM ?_; (with_reducible refine (nat_compare.calls k _ _ l0 _ _ l1 t134 _ ?side1 ?side2 ?side3 ?side4 A5.out).mono ?_); (case side1 => exact uC (Kd.V_reads' HO0.out).2.2); (case side2 => exact (Kd.V_reads' HO0.out).2.1); (case side3 => exact uC (Kd.V_reads' HO1.out).2.2); (case side4 => exact (Kd.V_reads' HO1.out).2.1); rintro e w' ⟨rfl, ⟨nd, rfl⟩⟩; refine ⟨_, rfl, ?_⟩) | ((with_reducible refine gate_callee (f := 73) rfl ?_); refine goesL_ (some 19) rfl rfl Try.func73 (by kernel_rfl) rfl #[.slice A0 l0.length c0, .slice A1 l1.length c1] rfl uM ?_; (with_reducible refine (nat_less.calls k _ _ l0 _ _ l1 t135 _ ?side1 ?side2 ?side3 ?side4 A10.out).mono ?_); (case side1 => exact uC (Kd.V_reads' HO0.out).2.2); (case side2 => exact (Kd.V_reads' HO0.out).2.1); (case side3 => exact uC (Kd.V_reads' HO1.out).2.2); (case side4 => exact (Kd.V_reads' HO1.out).2.1); rintro e w15 ⟨v136, rfl, ho0, hb⟩; refine ⟨_, rfl, ?_⟩; replace HO0 := ueV HO0 ho0 hb; replace HO1 := ueV HO1 ho0 hb; replace HO132 := ueN HO132 ho0 hb; have HO137 := Aside0.mk (Kd.R_lower (Kd.R_newM (M := fun k_ => (w.heap.size ≤ k_)) ho0 (below_size uB) (fun k_ h_ => h_)) (below_size uB)); replace HB := uy hb; (try clear hb ho0); obtain ⟨Ao16, co16, eo16⟩ := Kd.R_slice HO137.out; subst eo16) | ((with_reducible refine gate_callee (f := 72) rfl ?_); refine goesL_ (some 20) rfl rfl Try.func72 (by kernel_rfl) rfl #[.slice Ao16 t135.length co16] rfl uM ?_; (with_reducible refine (nat_told.calls k (fun k_ => some k_ = (.slice Ao16 t135.length co16 : Value).ownBlock) (.slice Ao16 t135.length co16) t135 t138 t141 w _ ?side1 ?side2 A11.out).mono ?_); (case side1 => repeat (first | (with_reducible first | exact HB.out | apply below_alloc | apply pw_below_drewN | apply below_drew1) | exact HB.out)); (case side2 => exact Kd.R_tight rfl HO137.out); rintro e w17 ⟨v139, rfl, ho0, hb, hkp⟩; refine ⟨_, rfl, ?_⟩; replace HO0 := Aside0.mk (Kd.V_mono (ok' := fun k_ => ((P0_ k_ ∨ P1_ k_) ∨ w.heap.size ≤ k_) ∧ some k_ ≠ (.slice Ao14 y130.length co14 : Value).ownBlock ∧ some k_ ≠ (v139 : Value).ownBlock) (Kd.V_keptB (HO0.out) hkp (fun k_ hk_ hs_ => (hk_.2) hs_)) (fun k_ hk_ => ⟨hk_.1.1.1, hk_.1.1.2, fun e_ => Or.elim (ho0.1 k_ e_.symm) (fun hs_ => hk_.2.1 hs_) (fun hn_ => Nat.not_le.2 hk_.2.2 hn_)⟩)); replace HO1 := Aside0.mk (Kd.V_mono (ok' := fun k_ => ((P0_ k_ ∨ P1_ k_) ∨ w.heap.size ≤ k_) ∧ some k_ ≠ (.slice Ao14 y130.length co14 : Value).ownBlock ∧ some k_ ≠ (v139 : Value).ownBlock) (Kd.V_keptB (HO1.out) hkp (fun k_ hk_ hs_ => (hk_.2) hs_)) (fun k_ hk_ => ⟨hk_.1.1.1, hk_.1.1.2, fun e_ => Or.elim (ho0.1 k_ e_.symm) (fun hs_ => hk_.2.1 hs_) (fun hn_ => Nat.not_le.2 hk_.2.2 hn_)⟩)); replace HO132 := Aside0.mk (Kd.N_mono (ok' := fun k_ => ((P0_ k_ ∨ P1_ k_) ∨ w.heap.size ≤ k_) ∧ some k_ ≠ (v139 : Value).ownBlock) (Kd.N_keptB (HO132.out) hkp (fun k_ hk_ hs_ => (hk_.2) hs_)) (fun k_ hk_ => ⟨hk_.1.1, fun e_ => Or.elim (ho0.1 k_ e_.symm) (fun hs_ => hk_.2.1 hs_) (fun hn_ => Nat.not_le.2 hk_.2.2 hn_)⟩)); have HO140 := Aside0.mk (Kd.R_mono (ok' := fun k_ => (w.heap.size ≤ k_)) ho0 (fun k_ hk_ => Or.elim hk_ (fun hs_ => (HO137.out.1 k_ (hs_).symm).1) (fun hn_ => (Nat.le_trans (below_size uB) hn_)))); replace HB := Aside0.mk (hb); clear HO137; (try clear hb); (try clear hkp); (try clear ho0)))
  go_ret2
  exact ⟨_, uF, uR HO140.out, uB⟩
 replace c4 := Bool.eq_false_iff.mpr c4
 subst c4
 have H1 : (some (([] : List Int), 1)) = some (r1, r2) := by rw [if_neg (show ¬ (false = true) by decide)] at H; exact H
 clear H; have H := H1; clear H1
 simp only [Option.some.injEq, Prod.mk.injEq] at H
 obtain ⟨rfl, rfl⟩ := H
 go_enter Try.func40, Try.ntmps40
 go_wp2_with (first | ((with_reducible refine gate_dst (N := 9) rfl ?_); refine Kd.N_lit (Kd.slice 47 (Kd.int .u64)) _ 29 ?hg (N' := 9) ?hd (xs := ([l0, l1] : List (List Int))) (inner := [.slice A0 l0.length c0, .slice A1 l1.length c1]) (ok := (fun k_ => ((P0_ k_ ∨ P1_ k_) ∨ w.heap.size ≤ k_))) (okp := (fun k_ => ((P0_ k_ ∨ P1_ k_) ∨ w.heap.size ≤ k_))) ?hr ?hp (fun _ hk => hk) ((show ∀ k_, w.heap.size ≤ k_ → (fun k_ => ((P0_ k_ ∨ P1_ k_) ∨ w.heap.size ≤ k_)) k_ from fun k_ hk => (.inr (Nat.le_trans (below_size uB) hk))) _ (Nat.le_refl _)) (Below.refl _ _) (Nat.le_refl _) (by simp) ?_; (case hd => rfl); (case hg => rfl); (case hr => first | (go_simp; done) | (go_simp; rfl) | (go_simp; simp only [u64_u8]; done) | (go_simp; simp only [u64_u8]; rfl)); (case hp => exact (Reps.one (show Kd.FK (Kd.slice 47 (Kd.int .u64)) _ _ l0 [.slice A0 l0.length c0] from (Kd.FK_slice_mk (Kd.V_reads' (Kd.V_mono (ok' := (fun k_ => ((P0_ k_ ∨ P1_ k_) ∨ w.heap.size ≤ k_))) (HO0.out) (fun k_ hk => hk))).2.1 (Kd.V_F (Kd.V_mono (ok' := (fun k_ => ((P0_ k_ ∨ P1_ k_) ∨ w.heap.size ≤ k_))) (HO0.out) (fun k_ hk => hk))))) (Reps.one (show Kd.FK (Kd.slice 47 (Kd.int .u64)) _ _ l1 [.slice A1 l1.length c1] from (Kd.FK_slice_mk (Kd.V_reads' (Kd.V_mono (ok' := (fun k_ => ((P0_ k_ ∨ P1_ k_) ∨ w.heap.size ≤ k_))) (HO1.out) (fun k_ hk => hk))).2.1 (Kd.V_F (Kd.V_mono (ok' := (fun k_ => ((P0_ k_ ∨ P1_ k_) ∨ w.heap.size ≤ k_))) (HO1.out) (fun k_ hk => hk))))) (Reps.none _ _)))); intro v131 w18 ho19 hb hg_ hnew_; clear hg_ hnew_; (first | rw [← Ny130.out] at ho19 | (simp only [Int.reduceToNat] at ho19; rw [← Ny130.out] at ho19)); replace HO0 := Aside0.mk (Kd.V_elder' (uV HO0.out) (Kd.N_base ho19) hb); replace HO1 := Aside0.mk (Kd.V_elder' (uV HO1.out) (Kd.N_base ho19) hb); have HO132 := Aside0.mk (Kd.N_lower ho19 (below_size uB)); replace HB := uy hb; clear hb ho19; obtain ⟨Ao20, co20, eo20⟩ := Kd.N_slice HO132.out; subst eo20) | ((with_reducible refine gate_callee (f := 70) rfl ?_); refine goesL_ (some 10) rfl rfl Try.func70 (by kernel_rfl) rfl #[.slice Ao20 y130.length co20] rfl uM ?_; (with_reducible refine (nat_right.calls _ _ y130 false _ ?side1 ?side2 A3.out).mono ?_); (case side1 => exact uC (Kd.N_reads' HO132.out).2.2); (case side2 => exact (Kd.N_reads' HO132.out).2.1); rintro e w' ⟨rfl, ⟨nd, rfl⟩⟩; refine ⟨_, rfl, ?_⟩))
 go_ret2
 exact ⟨_, by first | rfl | (simp [errW_none, errW_some] <;> rfl) | (simp [*, errW_none, errW_some] <;> rfl), by first | exact Kd.R_nil _ _ _ _ _ | exact Kd.N_nil _ _ _ _ _ | exact Kd.V_nil _ _ _ _ _ | exact Kd.Q_nil _ _ _ _ _ | exact Kd.S_nil _ _ _ _ _, uB⟩
end Go.Proofs.Ytlkinjhmgljapab.F
end
section
namespace Go.Proofs.Ytlkinjhmgljapab.F
open Go.RowKit Go.Proofs.YtlkinjhmgljapabW.PrintWords Go.Proofs.YtlkinjhmgljapabW.PrintLast Go.Proofs.YtlkinjhmgljapabW.PrintMore
set_option linter.unusedVariables false
set_option linter.unusedSimpArgs false
def tape_Below.f (k : Nat) (n l : List Int) : Option (List Int × Int × List Int) :=
  (nat_Right.f n).bind fun b => if b = true ∧ n.length ≠ 0 then (nat_Sub.f k n [1]).bind fun s => if s.1.length = 0 then some ([], 0, l) else (nat_Bits.f k s.1).bind fun z => if 0 < z ∧ z ≤ 4096 then tape_draw.f z n k l else none
  else some ([], 1, l)
def Drawn (w w' : World) (g : Nat) (ok : Nat → Prop) (e : Ending) (x : List Int × Int × List Int) : Prop := ∃ A c, e = .returned (.tuple #[.slice A x.1.length c, .int .i64 x.2.1]) ∧ Rf w' (fun k => w.heap.size ≤ k) A c x.1 ∧ Tp w' g ok x.2.2 ∧ Stay w w' g
set_option maxHeartbeats 8000000 in
set_option maxRecDepth 100000 in
theorem tape_Below.calls (k : Nat) (g : Nat) (l n : List Int) (An : Option Addr) (cn : Nat) (ok okn : Nat → Prop) (x : List Int × Int × List Int) (w : World) (hT : Tp w g ok l) (hg : ¬ ok g) (hn : Rf w okn An cn n) (hgn : ¬ okn g) (h : tape_Below.f k n l = some x) :
    Calls Try.prog 13 #[.pointer (some ⟨g, 0, none⟩), .slice An n.length cn] w fun e w' => Drawn w w' g ok e x := by
  have HT := Aside0.mk hT
  have HN := Aside0.mk hn
  have HB := Aside0.mk (Below.refl w.heap.size w)
  clear hT hn
  unfold tape_Below.f at h
  obtain ⟨b, hb, h1⟩ := Option.bind_eq_some_iff.mp h
  have HR := Aside0.mk hb
  clear h hb
  by_cases hc : b = true ∧ n.length ≠ 0
  · rw [if_pos hc] at h1
    obtain ⟨⟨s1, s2⟩, hs, h2⟩ := Option.bind_eq_some_iff.mp h1
    obtain ⟨rfl, hn0⟩ := hc
    have hn1 : ((n.length : Int) == 0) = false := beq_eq_false_iff_ne.mpr (by omega)
    have HS := Aside0.mk hs
    clear h1 hs
    by_cases h0 : s1.length = 0
    · rw [if_pos h0] at h2
      obtain rfl := Option.some.inj h2
      have h0b : ((s1.length : Int) == 0) = true := by rw [h0]; rfl
      clear h2
      go_enter Try.func13, Try.ntmps13
      go_wp2_with (first
        | (go_at_call 39; refine (nat_Right.calls An cn n true _ (HN.out.below uB).C HN.out.2 HR.out).mono ?_; rintro e w' ⟨rfl, ⟨z_, rfl⟩⟩)
        | ((with_reducible refine gate_dst (N := 18) rfl ?_); refine Kd.R_lit (Kd.int .u64) _ 47 ?hg (N := 18) ?hd (xs := ([1] : List Int)) (inner := [.int .u64 1]) (ok := fun _ => True) (okp := fun _ => True) ?hr ?hp (fun _ hk => hk) trivial (Below.refl _ _) (Nat.le_refl _) (by simp) ?_; (case hd => rfl); (case hg => rfl); (case hr => first | (go_simp; done) | (go_simp; rfl)); (case hp => exact (Reps.one (show Kd.M (Kd.int .u64) _ _ _ 1 [.int .u64 1] from rfl) (Reps.none _ _))); intro v1 w2 ho hb hg_ hnew_; clear hg_ hnew_; obtain ⟨A2, c2, e2⟩ := Kd.R_slice ho; subst e2; have HL := Aside0.mk (Rf.of ho); have HB2 := Aside0.mk (below_step uB hb); clear HB hb ho)
        | (go_at_call 40; refine (nat_Sub.calls k _ An cn n _ A2 c2 [1] s1 s2 _ (HN.out.below uB).V HL.out.V HS.out).mono ?_; rintro e w3 ⟨v3, rfl, hR3, hb3⟩; obtain ⟨A3, c3, e3⟩ := Kd.R_slice hR3; subst e3; have HS3 := Aside0.mk (Rf.of hR3); have HB3 := Aside0.mk (below_step uB hb3); clear HB2 hR3 hb3))
      go_ret2
      exact ⟨_, _, rfl, Rf.nil _ _, HT.out.below uB, Stay.of_below uB g⟩
    · rw [if_neg h0] at h2
      obtain ⟨z, hz, h3⟩ := Option.bind_eq_some_iff.mp h2
      by_cases hzz : 0 < z ∧ z ≤ 4096
      · rw [if_pos hzz] at h3
        have h0b : ((s1.length : Int) == 0) = false := beq_eq_false_iff_ne.mpr (by omega)
        have HZ := Aside0.mk hz
        have HD := Aside0.mk h3
        clear h2 hz h3
        go_enter Try.func13, Try.ntmps13
        go_wp2_with (first
          | (go_at_call 39; refine (nat_Right.calls An cn n true _ (HN.out.below uB).C HN.out.2 HR.out).mono ?_; rintro e w' ⟨rfl, ⟨z_, rfl⟩⟩)
          | ((with_reducible refine gate_dst (N := 18) rfl ?_); refine Kd.R_lit (Kd.int .u64) _ 47 ?hg (N := 18) ?hd (xs := ([1] : List Int)) (inner := [.int .u64 1]) (ok := fun _ => True) (okp := fun _ => True) ?hr ?hp (fun _ hk => hk) trivial (Below.refl _ _) (Nat.le_refl _) (by simp) ?_; (case hd => rfl); (case hg => rfl); (case hr => first | (go_simp; done) | (go_simp; rfl)); (case hp => exact (Reps.one (show Kd.M (Kd.int .u64) _ _ _ 1 [.int .u64 1] from rfl) (Reps.none _ _))); intro v1 w2 ho hb hg_ hnew_; clear hg_ hnew_; obtain ⟨A2, c2, e2⟩ := Kd.R_slice ho; subst e2; have HL := Aside0.mk (Rf.of ho); have HB2 := Aside0.mk (below_step uB hb); clear HB hb ho)
          | (go_at_call 40; refine (nat_Sub.calls k _ An cn n _ A2 c2 [1] s1 s2 _ (HN.out.below uB).V HL.out.V HS.out).mono ?_; rintro e w3 ⟨v3, rfl, hR3, hb3⟩; obtain ⟨A3, c3, e3⟩ := Kd.R_slice hR3; subst e3; have HS3 := Aside0.mk (Rf.of hR3); have HB3 := Aside0.mk (below_step uB hb3); clear HB2 hR3 hb3)
          | (go_at_call 43; refine (nat_Bits.calls k A3 c3 s1 z _ (HS3.out.below (by repeat (first | exact Below.refl _ _ | apply below_drew | apply pw_below_drewN))).C HS3.out.2 HZ.out).mono ?_; rintro e w' ⟨rfl, ⟨z2, rfl⟩⟩)
          | (go_at_call 41; refine (tape_draw.calls k g l n z An cn ok okn x.1 x.2.1 x.2.2 _ (HT.out.below uB) hg (HN.out.below uB) hgn hzz.1 hzz.2 HD.out).mono ?_; rintro e w5 ⟨A5, c5, rfl, hr5, hT5, hS5⟩; have HB5 := Aside0.mk (show Below w.heap.size w _ from uB); have HR5 := Aside0.mk (hr5.mono (ok' := fun k => w.heap.size ≤ k) (fun k hk => Nat.le_trans (below_size HB5.out) hk)); have HT5 := Aside0.mk hT5; have HS5 := Aside0.mk ((Stay.of_below HB5.out g).trans hS5); clear hr5 hT5 hS5))
        go_ret2
        exact ⟨_, _, rfl, HR5.out, HT5.out, HS5.out⟩
      · rw [if_neg hzz] at h3
        exact absurd h3 (by simp)
  · rw [if_neg hc] at h1
    obtain rfl := Option.some.inj h1
    have key : b = false ∨ (b = true ∧ ((n.length : Int) == 0) = true) := by
      cases b with
      | false => exact .inl rfl
      | true => exact .inr ⟨rfl, by have h2 : ¬ n.length ≠ 0 := fun e => hc ⟨rfl, e⟩; rw [show n.length = 0 from by omega]; rfl⟩
    clear hc h1
    rcases key with rfl | ⟨rfl, hk⟩
    all_goals
      go_enter Try.func13, Try.ntmps13
      go_wp2_with (go_at_call 39; refine (nat_Right.calls An cn n _ _ (HN.out.below uB).C HN.out.2 HR.out).mono ?_; rintro e w' ⟨rfl, ⟨z_, rfl⟩⟩)
      go_ret2
      exact ⟨_, _, rfl, Rf.nil _ _, HT.out.below uB, Stay.of_below uB g⟩
def tape_Small.f (k : Nat) (m : Int) (l : List Int) : Option (Int × Int × List Int) :=
  if m < 1 then some (0, 1, l) else (nat_Of.f k m).bind fun n => (tape_Below.f k n l).bind fun x => (nat_Small.f k x.1).bind fun z => some (wrap64 z.1, x.2.1, x.2.2)
set_option maxHeartbeats 8000000 in
set_option maxRecDepth 100000 in
theorem tape_Small.calls (k : Nat) (g : Nat) (l : List Int) (m : Int) (ok : Nat → Prop) (x : Int × Int × List Int) (w : World) (hT : Tp w g ok l) (hg : ¬ ok g) (hm : m ≤ 9223372036854775807) (h : tape_Small.f k m l = some x) :
    Calls Try.prog 16 #[.pointer (some ⟨g, 0, none⟩), .int .i64 m] w fun e w' => e = .returned (.tuple #[.int .i64 x.1, .int .i64 x.2.1]) ∧ Tp w' g ok x.2.2 ∧ Stay w w' g := by
  have HT := Aside0.mk hT
  have HB := Aside0.mk (Below.refl w.heap.size w)
  clear hT
  unfold tape_Small.f at h
  by_cases hm1 : m < 1
  · rw [if_pos hm1] at h
    obtain rfl := Option.some.inj h
    clear h
    go_enter Try.func16, Try.ntmps16
    go_wp2
    go_ret2
    exact ⟨rfl, HT.out, Stay.refl _ _⟩
  · rw [if_neg hm1] at h
    obtain ⟨n, hn, h1⟩ := Option.bind_eq_some_iff.mp h
    obtain ⟨⟨y1, y2, y3⟩, hy, h2⟩ := Option.bind_eq_some_iff.mp h1
    obtain ⟨⟨z1, z2⟩, hz, h3⟩ := Option.bind_eq_some_iff.mp h2
    obtain rfl := Option.some.inj h3
    have HN := Aside0.mk hn
    have HY := Aside0.mk hy
    have HZ := Aside0.mk hz
    have hmb : decide (m < 1) = false := decide_eq_false hm1
    have hmw : IntKind.u64.wrap m = m := by simp [IntKind.wrap, IntKind.bits, IntKind.signed]; omega
    have HSZ := Aside0.mk (show g < w.heap.size from HT.out.lt)
    clear h h1 h2 h3 hn hy hz
    go_enter Try.func16, Try.ntmps16
    go_wp2_with (first
      | (go_at_call 53; refine (nat_Of.calls k m n _ HN.out).mono ?_; rintro e w1 ⟨v1, rfl, hR, hb⟩; obtain ⟨A1, c1, e1⟩ := Kd.R_slice hR; subst e1; have HR1 := Aside0.mk (Rf.of hR); have HB1 := Aside0.mk (below_step uB hb); clear hR hb)
      | (go_at_call 13; refine (tape_Below.calls k g l n A1 c1 ok _ (y1, y2, y3) _ (HT.out.below HB1.out) hg HR1.out (by have := HSZ.out; omega) HY.out).mono ?_; rintro e w2 ⟨A2, c2, rfl, hr2, hT2, hS2⟩; have HR2 := Aside0.mk hr2; have HT2 := Aside0.mk hT2; have HS2 := Aside0.mk ((Stay.of_below HB1.out g).trans hS2); clear hr2 hT2 hS2)
      | (go_at_call 54; refine (nat_Small.calls k A2 c2 y1 z1 z2 _ HR2.out.C HR2.out.2 HZ.out).mono ?_; rintro e w' ⟨rfl, ⟨q, rfl⟩⟩))
    go_ret2
    exact ⟨rfl, HT2.out.below (pw_below_drewN (Below.refl _ _) _), HS2.out.then (pw_below_drewN (Below.refl _ _) _)⟩
theorem infoInt20 : (Try.prog.info? 3).map (fun i => (i.zero, i.size, i.bytes)) = some (some (.int .i64 0), 1, 8) := by kernel_rfl
def swapV (V : List Int) (i j : Nat) : List Int := (V.set i (V.getD j 0)).set j (V.getD i 0)
theorem swapV_len (V : List Int) (i j : Nat) : (swapV V i j).length = V.length := by simp [swapV]
def idV (n : Nat) : Nat → List Int
  | 0 => List.replicate n 0
  | i + 1 => (idV n i).set i (i : Int)
theorem idV_len (n i : Nat) : (idV n i).length = n := by
  induction i with
  | zero => simp [idV]
  | succ i ih => rw [idV]; simp [ih]
def shuf.f (k : Nat) : Nat → List Int → List Int → Option (List Int × Int × List Int)
  | 0, V, l => some (V, 0, l)
  | i + 1, V, l => (tape_Small.f k ((i : Int) + 2) l).bind fun x => if x.2.1 = 0 then (if 0 ≤ x.1 ∧ x.1 ≤ (i : Int) + 1 then shuf.f k i (swapV V (i + 1) x.1.toNat) x.2.2 else none) else some ([], x.2.1, x.2.2)
def shuffle.f (k : Nat) (n : Int) (l : List Int) : Option (List Int × Int × List Int) :=
  if n < 0 ∨ 16384 < n then some ([], 1, l) else shuf.f k (n.toNat - 1) (idV n.toNat n.toNat) l
def Ri (w : World) (ok : Nat → Prop) (A : Option Addr) (c : Nat) (l : List Int) : Prop := Kd.F (Kd.int .i64) w ok A l.length l ∧ l.length ≤ c
def shuf.T16 : Bool × List (List Nat × List Nat) := (true, [([], []), ([], []), ([], []), ([], []), ([], []), ([], []), ([4, 5], [4, 5]), ([6], [6]), ([], []), ([], []), ([8, 9], [8, 9]), ([10], [10]), ([0, 1, 0, 1, 4, 5, 6, 7, 11], [0, 1]), ([12, 7, 0, 1, 4, 5, 6, 7, 11], [7, 12]), ([2, 3, 0, 1, 2, 3, 4, 5, 6, 7, 8, 9, 10, 11, 12, 13], [2, 3]), ([14, 11, 13, 0, 1, 2, 3, 4, 5, 6, 7, 8, 9, 10, 11, 12, 13], [11, 14])])
def shuf.B16 : List Nat := [0, 0, 0, 0, 0, 0, 48, 112, 0, 0, 768, 1792, 4083, 8179, 16383, 32767]
theorem shuf.tab16 : rtab .any (opsOf Try.f29 16) = shuf.T16 := by kernel_rfl
theorem shuf.bits16 : waitsOk shuf.T16.2 shuf.B16 = true := by kernel_rfl
set_option maxHeartbeats 8000000 in
set_option maxRecDepth 100000 in
theorem shuffle.good (k : Nat) (g : Nat) (l : List Int) (n : Nat) (ok : Nat → Prop) (x : List Int × Int × List Int) (w : World) (hT : Tp w g ok l) (hg : ¬ ok g) (hok : ∀ k, ok k → k < w.heap.size) (hn0 : 1 ≤ n) (hn1 : n ≤ 16384) (h : shuf.f k (n - 1) (idV n n) l = some x) :
    Calls Try.prog 29 #[.pointer (some ⟨g, 0, none⟩), .int .i64 (n : Int)] w fun e w' => ∃ A c, e = .returned (.tuple #[.slice A x.1.length c, .int .i64 x.2.1]) ∧ Ri w' (fun k => w.heap.size ≤ k) A c x.1 ∧ Tp w' g ok x.2.2 ∧ Stay w w' g := by
  have HT := Aside0.mk hT
  have HH := Aside0.mk h
  have HGW := Aside0.mk (show g < w.heap.size from hT.lt)
  have HB := Aside0.mk (Below.refl w.heap.size w)
  have hz1 : decide ((n : Int) < 0) = false := decide_eq_false (by omega)
  have hz2 : decide ((16384 : Int) < (n : Int)) = false := decide_eq_false (by omega)
  have hK2 : ((n : Int)).toNat = n := Int.toNat_natCast n
  clear hT h
  go_enter Try.func29, Try.ntmps29
  go_wp2_with (first | ((with_reducible refine gate_dst (N := 23) rfl ?_); refine Kd.R_make (Kd.int .i64) _ 3 rfl (N := 23) rfl 41 _ _ rfl ((n : Int)) rfl rfl Try.underlying41 (.int .i64 0) 8 infoInt20 rfl (by decide) (by omega) 0 (ok := fun _ => True) (okp := fun _ => True) rfl (fun _ hk => hk) trivial (by omega) (by omega) (Below.refl _ _) (Nat.le_refl _) ?_; intro v0 w1 ho1 hb hg_ hnew_; clear hg_ hnew_; rw [hK2] at ho1; have HB1 := Aside0.mk (below_step uB hb); obtain ⟨gt, ct, ev, hgt, hgl, _⟩ := Kd.R_form ho1 (by simp; omega); rw [List.length_replicate] at ev; subst ev; have HO1 := Aside0.mk (Kd.R_lower (base' := w.heap.size) ho1 (below_size (w := w) uB)); clear HB hb ho1 hgt hgl))
  go_loopg [26] n (fun gg v26 wr => ∃ i : Nat, v26 = .int .i64 (i : Int) ∧ i ≤ n ∧ n - i ≤ gg ∧ Aside0 (Kd.R (Kd.int .i64) 3 wr w.heap.size (fun _ => True) (.slice (some ⟨gt, 0, none⟩) n ct) (idV n i)) ∧ Aside0 (Below w.heap.size w wr))
  case atStart => exact ⟨0, rfl, by omega, by omega, HO1, HB1⟩
  case round =>
    clear HO1 HB1
    obtain ⟨i, rfl, hi, hgg, HO, HB⟩ := hrel
    by_cases hlt : i < n
    · have hltz : (i : Int) < (n : Int) := by omega
      have hiz : (0 : Int) ≤ (i : Int) := by omega
      have hyc := Kd.R_celln 0 HO.out (i : Int) (by omega) (by omega)
      have hcell := hyc.1
      have hfz : wr.frozen? ⟨gt, i, none⟩ = false := hyc.2
      simp only [Int.toNat_natCast] at hcell
      have HP := Aside0.mk (Kd.R_putg HO.out (i : Int) (i : Int))
      have HB6 := Aside0.mk (below_set (g := gt) (j := i) (v := .int .i64 (i : Int)) HB.out (Kd.R_base HO.out gt rfl))
      clear hyc HO HB
      go_wp2_with ((with_reducible refine gate_store (t := 3) (p := 32) rfl ?_); refine store_event (t := 3) (p := 32) (v := ?vo) (w1 := (wr.setCell ⟨gt, i, none⟩ (.int .i64 (i : Int)))) ?hg ?ho ?hn ?hr ?_; (case ho => rfl); (case hg => rfl); (case hn => rfl); (case hr => first | (go_simp; done) | (go_simp; rfl)); intro w5 hw; subst hw)
      have HO6 := HP.out.1
      simp only [Int.toNat_natCast] at HO6
      go_roundg (n - (i + 1))
      case measure => omega
      case rel => exact ⟨i + 1, by go_num, by omega, by omega, ⟨HO6⟩, HB6⟩
    · have hltz : ¬ (i : Int) < (n : Int) := by omega
      obtain rfl : i = n := by omega
      have HT1 := Aside0.mk (HT.out.below HB.out)
      have HS1 := Aside0.mk (Stay.of_below HB.out g)
      clear hlt hltz hgg hi HB
      go_wp2
      go_loopg [9] i (fun gg v9 wq => ∃ (j : Nat) (V l1 : List Int), v9 = .int .i64 (j : Int) ∧ j ≤ i - 1 ∧ j ≤ gg ∧ V.length = i ∧ Aside0 (shuf.f k j V l1 = some x) ∧ Aside0 (Kd.R (Kd.int .i64) 3 wq w.heap.size (fun _ => True) (.slice (some ⟨gt, 0, none⟩) i ct) V) ∧ Aside0 (Tp wq g ok l1) ∧ Aside0 (Stay w wq g))
      case atStart => exact ⟨i - 1, idV i i, l, by congr 1; omega, Nat.le_refl _, by omega, idV_len i i, HH, HO, HT1, HS1⟩
      case round =>
        clear HO HT1 HS1
        obtain ⟨j, V, l1, rfl, hj, hgg, hVl, HK, HO, HT1, HS1⟩ := hrel
        by_cases hlt : 0 < j
        · have hltz : (0 : Int) < (j : Int) := by omega
          obtain ⟨j, rfl⟩ : ∃ j', j = j' + 1 := ⟨j - 1, by omega⟩
          have hK := HK.out
          rw [shuf.f] at hK
          obtain ⟨⟨y1, y2, y3⟩, hy, hK⟩ := Option.bind_eq_some_iff.mp hK
          have HY := Aside0.mk hy
          have HGT := Aside0.mk (show gt ≠ g from by have h1 := Kd.R_base HO.out gt rfl; have h2 := HGW.out; omega)
          clear HK hy
          by_cases hy0 : y2 = 0
          · subst hy0
            rw [if_pos rfl] at hK
            by_cases hyr : 0 ≤ y1 ∧ y1 ≤ (j : Int) + 1
            · rw [if_pos hyr] at hK
              obtain ⟨q, rfl⟩ := Int.eq_ofNat_of_zero_le hyr.1
              have hq : q ≤ j + 1 := by omega
              simp only [Int.toNat_natCast] at hK
              have HK := Aside0.mk hK
              have HVL := Aside0.mk hVl
              obtain ⟨a, ha⟩ : ∃ a, a = V.getD q 0 := ⟨_, rfl⟩
              obtain ⟨b, hb⟩ : ∃ b, b = V.getD (j + 1) 0 := ⟨_, rfl⟩
              have NA := Aside0.mk ha
              have NB := Aside0.mk hb
              clear hK hyr ha hb hVl
              go_wp2_with (go_at_call 16; refine (tape_Small.calls k g l1 ((j : Int) + 2) ok ((q : Int), 0, y3) _ HT1.out hg (by omega) HY.out).mono ?_; rintro e w3 ⟨rfl, hT3, hS3⟩; have HT3 := Aside0.mk hT3; have HS3 := Aside0.mk (HS1.out.trans hS3); have HO3 := Aside0.mk (Kd.R_mono (Kd.R_keep (Kd.R_tight rfl HO.out) hS3.1 (fun k hk => by have h := HGT.out; simp [Value.ownBlock] at hk; omega)) (ok' := fun _ => True) (fun _ _ => trivial)); clear hT3 hS3 HT1 HS1 HO)
              have hjz0 : (0 : Int) ≤ (q : Int) := by omega
              have hjz1 : (q : Int) < (i : Int) := by omega
              have hiz0 : (0 : Int) ≤ (j : Int) + 1 := by omega
              have hiz1 : (j : Int) + 1 < (i : Int) := by omega
              have hcq := Kd.R_celln 0 HO3.out (q : Int) (by omega) (by omega)
              have hcj := Kd.R_celln 0 HO3.out ((j + 1 : Nat) : Int) (by omega) (by omega)
              have hcellq : w3.cell? ⟨gt, q, none⟩ = some (.int .i64 a) := by rw [NA.out]; exact hcq.1
              have hcellj : w3.cell? ⟨gt, j + 1, none⟩ = some (.int .i64 b) := by rw [NB.out]; exact hcj.1
              have hcellq2 : w3.drew.cell? ⟨gt, q, none⟩ = some (.int .i64 a) := hcellq
              have hcellj2 : w3.drew.cell? ⟨gt, j + 1, none⟩ = some (.int .i64 b) := hcellj
              have hfzj : w3.drew.frozen? ⟨gt, j + 1, none⟩ = false := hcj.2
              have HP1 := Aside0.mk (Kd.R_putg (Kd.R_drew HO3.out) ((j + 1 : Nat) : Int) a)
              have hcq2 := Kd.R_celln 0 HP1.out.1 (q : Int) (by omega) (by omega)
              have hfzq : (w3.drew.setCell ⟨gt, j + 1, none⟩ (.int .i64 a)).frozen? ⟨gt, q, none⟩ = false := hcq2.2
              have hcellq3 := hcq2.1
              have HP2 := Aside0.mk (Kd.R_putg HP1.out.1 (q : Int) b)
              have HNW := Aside0.mk (show w.heap.size ≤ gt from Kd.R_base HO3.out gt rfl)
              have HTN := Aside0.mk (show ∀ k, ok k → k ≠ gt from fun k hk => by have h1 := hok k hk; have h2 := HNW.out; omega)
              simp only [Int.toNat_natCast] at hcellq3
              have HT3d := Aside0.mk (HT3.out.below (below_drew (Below.refl _ _)))
              have HS3d := Aside0.mk (HS3.out.then (below_drew (Below.refl _ _)))
              clear hcq hcj hcq2 hcellq hcellj
              refine start_ (n := 16) (S := fun w' => w'.cell? ⟨gt, q, none⟩ = some (.int .i64 a) ∧ w'.cell? ⟨gt, j + 1, none⟩ = some (.int .i64 b)) (ds := [13, 15]) #[false, false, false, false, false, false, false, false, false, false, false, false, false, false, false, false] (by kernel_rfl) rfl rfl ⟨hcellq2, hcellj2⟩ (fun hHeld => ?_); refine with_tabW shuf.tab16 shuf.bits16 (fun HT_ HW_ => ?_)
              generalize w3.drew = w10 at HP1 HP2 hcellq2 hcellj2 hfzj hfzq hcellq3 HT3d HS3d hHeld ⊢
              refine pure_ (i := 0) (N := some 52) (v := ?_) (a' := ?_) #[true, false, false, false, false, false, false, false, false, false, false, false, false, false, false, false] rfl rfl (any_of HT_.out (by kernel_rfl)) (fun _ _ _ h => h) (Or.inl ⟨by rfl, ?_⟩) ?_ ?_
              rotate_left
              · intro w'
                go_simp
                with_reducible rfl
              rotate_left
              · simp only [Act.put, List.setIfInBounds_toArray, List.set_cons_zero, List.set_cons_succ, i64_w, i32_w]
                rfl
              refine pure_ (i := 1) (N := some 53) (v := ?_) (a' := ?_) #[true, true, false, false, false, false, false, false, false, false, false, false, false, false, false, false] rfl rfl (any_of HT_.out (by kernel_rfl)) (fun _ _ _ h => h) (Or.inl ⟨by rfl, ?_⟩) ?_ ?_
              rotate_left
              · intro w'
                go_simp
                with_reducible rfl
              rotate_left
              · simp only [Act.put, List.setIfInBounds_toArray, List.set_cons_zero, List.set_cons_succ, i64_w, i32_w]
                rfl
              refine pure_ (i := 2) (N := some 54) (v := ?_) (a' := ?_) #[true, true, true, false, false, false, false, false, false, false, false, false, false, false, false, false] rfl rfl (any_of HT_.out (by kernel_rfl)) (fun _ _ _ h => h) (Or.inl ⟨by rfl, ?_⟩) ?_ ?_
              rotate_left
              · intro w'
                go_simp
                with_reducible rfl
              rotate_left
              · simp only [Act.put, List.setIfInBounds_toArray, List.set_cons_zero, List.set_cons_succ, i64_w, i32_w]
                rfl
              refine pure_ (i := 3) (N := some 55) (v := ?_) (a' := ?_) #[true, true, true, true, false, false, false, false, false, false, false, false, false, false, false, false] rfl rfl (any_of HT_.out (by kernel_rfl)) (fun _ _ _ h => h) (Or.inl ⟨by rfl, ?_⟩) ?_ ?_
              rotate_left
              · intro w'
                go_simp
                with_reducible rfl
              rotate_left
              · simp only [Act.put, List.setIfInBounds_toArray, List.set_cons_zero, List.set_cons_succ, i64_w, i32_w]
                rfl
              refine pure_ (i := 4) (N := some 56) (v := ?_) (a' := ?_) #[true, true, true, true, true, false, false, false, false, false, false, false, false, false, false, false] rfl rfl (any_of HT_.out (by kernel_rfl)) (fun _ _ _ h => h) (Or.inl ⟨by rfl, ?_⟩) ?_ ?_
              rotate_left
              · intro w'
                go_simp
                with_reducible rfl
              rotate_left
              · simp only [Act.put, List.setIfInBounds_toArray, List.set_cons_zero, List.set_cons_succ, i64_w, i32_w]
                rfl
              refine pure_ (i := 5) (N := some 57) (v := ?_) (a' := ?_) #[true, true, true, true, true, true, false, false, false, false, false, false, false, false, false, false] rfl rfl (any_of HT_.out (by kernel_rfl)) (fun _ _ _ h => h) (Or.inl ⟨by rfl, ?_⟩) ?_ ?_
              rotate_left
              · intro w'
                go_simp
                with_reducible rfl
              rotate_left
              · simp only [Act.put, List.setIfInBounds_toArray, List.set_cons_zero, List.set_cons_succ, i64_w, i32_w]
                rfl
              refine pure_ (i := 6) (N := some 58) (v := ?_) (a' := ?_) #[true, true, true, true, true, true, true, false, false, false, false, false, false, false, false, false] rfl rfl (any_of HT_.out (by kernel_rfl)) (fun _ _ _ h => h) (Or.inl ⟨by rfl, ?_⟩) ?_ ?_
              rotate_left
              · intro w'
                go_simp
                with_reducible rfl
              rotate_left
              · simp only [Act.put, List.setIfInBounds_toArray, List.set_cons_zero, List.set_cons_succ, i64_w, i32_w]
                rfl
              refine pure_ (i := 8) (N := some 60) (v := ?_) (a' := ?_) #[true, true, true, true, true, true, true, false, true, false, false, false, false, false, false, false] rfl rfl (any_of HT_.out (by kernel_rfl)) (fun _ _ _ h => h) (Or.inl ⟨by rfl, ?_⟩) ?_ ?_
              rotate_left
              · intro w'
                go_simp
                with_reducible rfl
              rotate_left
              · simp only [Act.put, List.setIfInBounds_toArray, List.set_cons_zero, List.set_cons_succ, i64_w, i32_w]
                rfl
              refine pure_ (i := 9) (N := some 61) (v := ?_) (a' := ?_) #[true, true, true, true, true, true, true, false, true, true, false, false, false, false, false, false] rfl rfl (any_of HT_.out (by kernel_rfl)) (fun _ _ _ h => h) (Or.inl ⟨by rfl, ?_⟩) ?_ ?_
              rotate_left
              · intro w'
                go_simp
                with_reducible rfl
              rotate_left
              · simp only [Act.put, List.setIfInBounds_toArray, List.set_cons_zero, List.set_cons_succ, i64_w, i32_w]
                rfl
              refine pure_ (i := 10) (N := some 62) (v := ?_) (a' := ?_) #[true, true, true, true, true, true, true, false, true, true, true, false, false, false, false, false] rfl rfl (any_of HT_.out (by kernel_rfl)) (fun _ _ _ h => h) (Or.inl ⟨by rfl, ?_⟩) ?_ ?_
              rotate_left
              · intro w'
                go_simp
                with_reducible rfl
              rotate_left
              · simp only [Act.put, List.setIfInBounds_toArray, List.set_cons_zero, List.set_cons_succ, i64_w, i32_w]
                rfl
              refine take_ (i := 7) (N := some 59) (v := ?_) (a' := ?_) #[true, true, true, true, true, true, true, true, true, true, true, false, false, false, false, false] rfl rfl (take_ofW HT_.out HW_.out (by kernel_rfl)) (fun _ _ _ h => h) (Or.inl ⟨by rfl, ?_⟩) hHeld ?_ ?_
              rotate_left
              · rintro w' ⟨s0, s1⟩
                go_simp
                with_reducible rfl
              rotate_left
              · simp only [Act.put, List.setIfInBounds_toArray, List.set_cons_zero, List.set_cons_succ, i64_w, i32_w]
                rfl
              refine take_ (i := 11) (N := some 63) (v := ?_) (a' := ?_) #[true, true, true, true, true, true, true, true, true, true, true, true, false, false, false, false] rfl rfl (take_ofW HT_.out HW_.out (by kernel_rfl)) (fun _ _ _ h => h) (Or.inl ⟨by rfl, ?_⟩) hHeld ?_ ?_
              rotate_left
              · rintro w' ⟨s0, s1⟩
                go_simp
                with_reducible rfl
              rotate_left
              · simp only [Act.put, List.setIfInBounds_toArray, List.set_cons_zero, List.set_cons_succ, i64_w, i32_w]
                rfl
              refine pure_ (i := 12) (N := some 64) (v := ?_) (a' := ?_) #[true, true, true, true, true, true, true, true, true, true, true, true, true, false, false, false] rfl rfl (any_of HT_.out (by kernel_rfl)) (fun _ _ _ h => h) (Or.inl ⟨by rfl, ?_⟩) ?_ ?_
              rotate_left
              · intro w'
                go_simp
                with_reducible rfl
              rotate_left
              · simp only [Act.put, List.setIfInBounds_toArray, List.set_cons_zero, List.set_cons_succ, i64_w, i32_w]
                rfl
              refine last_ (i := 13) (N := none) #[true, true, true, true, true, true, true, true, true, true, true, true, true, true, false, false] rfl rfl (one_of HT_.out (by kernel_rfl)) (by decide) (fun K hK => ?_)
              refine skip_ (w1 := ?_) (by rfl) rfl ?_ ?_
              rotate_left
              · go_simp
                rfl
              refine hK.out _ _ ?_
              clear hK K
              refine pure_ (i := 14) (N := some 65) (v := ?_) (a' := ?_) #[true, true, true, true, true, true, true, true, true, true, true, true, true, true, true, false] rfl rfl (any_of HT_.out (by kernel_rfl)) (fun _ _ _ h => h) (Or.inl ⟨by rfl, ?_⟩) ?_ ?_
              rotate_left
              · intro w'
                go_simp
                with_reducible rfl
              rotate_left
              · simp only [Act.put, List.setIfInBounds_toArray, List.set_cons_zero, List.set_cons_succ, i64_w, i32_w]
                rfl
              refine last_ (i := 15) (N := none) #[true, true, true, true, true, true, true, true, true, true, true, true, true, true, true, true] rfl rfl (one_of HT_.out (by kernel_rfl)) (by decide) (fun K hK => ?_)
              refine skip_ (w1 := ?_) (by rfl) rfl ?_ ?_
              rotate_left
              · go_simp
                rfl
              refine hK.out _ _ ?_
              clear hK K
              refine done_ (done_of HT_.out (by kernel_rfl)) ?_
              go_wp2
              have HO6 := HP2.out.1
              simp only [Int.toNat_natCast] at HO6
              go_roundg j
              case measure => omega
              case rel => exact ⟨j, swapV V (j + 1) q, y3, by go_num, by omega, Nat.le_refl _, by rw [swapV_len]; exact HVL.out, HK, ⟨by unfold swapV; rw [← NA.out, ← NB.out]; exact HO6⟩, ⟨(HT3d.out.far (p := ⟨gt, j + 1, none⟩) HGT.out HTN.out _).far (p := ⟨gt, q, none⟩) HGT.out HTN.out _⟩, ⟨(HS3d.out.set_new (p := ⟨gt, j + 1, none⟩) HNW.out _).set_new (p := ⟨gt, q, none⟩) HNW.out _⟩⟩
            · rw [if_neg hyr] at hK
              exact absurd hK (by simp)
          · rw [if_neg hy0] at hK
            obtain rfl := Option.some.inj hK
            have HY0 := Aside0.mk hy0
            clear hy0 hK
            go_wp2_with (go_at_call 16; refine (tape_Small.calls k g l1 ((j : Int) + 2) ok (y1, y2, y3) _ HT1.out hg (by omega) HY.out).mono ?_; rintro e w3 ⟨rfl, hT3, hS3⟩; have HT3 := Aside0.mk hT3; have HS3 := Aside0.mk (HS1.out.trans hS3); clear hT3 hS3 HT1 HS1)
            all_goals first
              | (have h5 : (y2 != 0) = false := by assumption
                 exact absurd (by simpa using h5) HY0.out)
              | (go_ret2; exact ⟨_, _, rfl, ⟨Kd.F_nil _ _ _, Nat.le_refl _⟩, HT3.out, HS3.out⟩)
        · have hltz : ¬ (0 : Int) < (j : Int) := by omega
          obtain rfl : j = 0 := by omega
          obtain rfl := Option.some.inj HK.out
          have HVL := Aside0.mk hVl
          clear HK hVl hj hgg
          go_wp2
          go_ret2
          refine ⟨some ⟨gt, 0, none⟩, ct, by have h := HVL.out; subst h; rfl, ?_, HT1.out, HS1.out⟩
          show Kd.F (Kd.int .i64) _ _ _ V.length V ∧ V.length ≤ ct
          rw [HVL.out]
          exact ⟨Kd.R_F (Kd.R_mono (Kd.R_bound HO.out) (fun k hk => hk.2.1)), (Kd.R_reads' HO.out).2.1⟩
def Shuffled (w w' : World) (g : Nat) (ok : Nat → Prop) (e : Ending) (x : List Int × Int × List Int) : Prop := ∃ A c, e = .returned (.tuple #[.slice A x.1.length c, .int .i64 x.2.1]) ∧ Ri w' (fun k => w.heap.size ≤ k) A c x.1 ∧ Tp w' g ok x.2.2 ∧ Stay w w' g
set_option maxHeartbeats 8000000 in
set_option maxRecDepth 100000 in
theorem shuffle.empty (g : Nat) (l : List Int) (ok : Nat → Prop) (w : World) (hT : Tp w g ok l) :
    Calls Try.prog 29 #[.pointer (some ⟨g, 0, none⟩), .int .i64 0] w fun e w' => Shuffled w w' g ok e ([], 0, l) := by
  have HT := Aside0.mk hT
  have HB := Aside0.mk (Below.refl w.heap.size w)
  clear hT
  go_enter Try.func29, Try.ntmps29
  go_wp2_with (first | ((with_reducible refine gate_dst (N := 23) rfl ?_); refine Kd.R_make (Kd.int .i64) _ 3 rfl (N := 23) rfl 41 _ _ rfl (0 : Int) rfl rfl Try.underlying41 (.int .i64 0) 8 infoInt20 rfl (by decide) (by omega) 0 (ok := fun _ => True) (okp := fun _ => True) rfl (fun _ hk => hk) trivial (by omega) (by omega) (Below.refl _ _) (Nat.le_refl _) ?_; intro v0 w1 ho1 hb hg_ hnew_; clear hg_ hnew_; have HB1 := Aside0.mk (below_step uB hb); have ho2 := Kd.R_lower ho1 (below_size (w := w) uB); obtain ⟨A1, c1, e1⟩ := Kd.R_slice ho2; subst e1; have HF := Aside0.mk (show Kd.F (Kd.int .i64) w1 (fun k => w.heap.size ≤ k) A1 0 [] from Kd.R_F (Kd.R_mono (Kd.R_bound ho2) (fun k hk => hk.2.1))); clear HB hb ho1 ho2))
  go_loopg [26] 0 (fun gg v26 wr => v26 = .int .i64 0 ∧ Aside0 (Kd.F (Kd.int .i64) wr (fun k => w.heap.size ≤ k) A1 0 []) ∧ Aside0 (Below w.heap.size w wr))
  case atStart => exact ⟨rfl, HF, HB1⟩
  case round =>
    clear HB1 HF
    obtain ⟨rfl, HF, HB⟩ := hrel
    go_wp2
    go_loopg [9] 0 (fun gg v9 wr => v9 = .int .i64 (-1) ∧ Aside0 (Kd.F (Kd.int .i64) wr (fun k => w.heap.size ≤ k) A1 0 []) ∧ Aside0 (Below w.heap.size w wr))
    case atStart => exact ⟨rfl, HF, HB⟩
    case round =>
      clear HB HF
      obtain ⟨rfl, HF, HB⟩ := hrel
      go_wp2
      go_ret2
      exact ⟨_, _, rfl, ⟨HF.out, Nat.zero_le _⟩, HT.out.below HB.out, Stay.of_below HB.out g⟩
set_option maxHeartbeats 8000000 in
set_option maxRecDepth 100000 in
theorem shuffle.bad (g : Nat) (n : Int) (w : World) (h : n < 0 ∨ 16384 < n) : Calls Try.prog 29 #[.pointer (some ⟨g, 0, none⟩), .int .i64 n] w fun e w' => e = .returned (.tuple #[.slice none 0 0, .int .i64 1]) ∧ w' = w := by
  have key : decide (n < 0) = true ∨ (decide (n < 0) = false ∧ decide (16384 < n) = true) := by
    by_cases h1 : n < 0
    · exact .inl (decide_eq_true h1)
    · exact .inr ⟨decide_eq_false h1, decide_eq_true (by omega)⟩
  clear h
  rcases key with h1 | ⟨h1, h2⟩
  all_goals
    go_enter Try.func29, Try.ntmps29
    go_wp2
    go_ret2
    exact ⟨rfl, rfl⟩
theorem shuffle.calls (k : Nat) (g : Nat) (l : List Int) (n : Int) (ok : Nat → Prop) (x : List Int × Int × List Int) (w : World) (hT : Tp w g ok l) (hg : ¬ ok g) (hok : ∀ k, ok k → k < w.heap.size) (h : shuffle.f k n l = some x) :
    Calls Try.prog 29 #[.pointer (some ⟨g, 0, none⟩), .int .i64 n] w fun e w' => Shuffled w w' g ok e x := by
  unfold shuffle.f at h
  by_cases hb : n < 0 ∨ 16384 < n
  · rw [if_pos hb] at h
    obtain rfl := Option.some.inj h
    refine (shuffle.bad g n w hb).mono ?_
    rintro e w' ⟨rfl, rfl⟩
    exact ⟨_, _, rfl, ⟨Kd.F_nil _ _ _, Nat.le_refl _⟩, hT, Stay.refl _ _⟩
  · rw [if_neg hb] at h
    obtain ⟨m, rfl⟩ := Int.eq_ofNat_of_zero_le (show 0 ≤ n by omega)
    rw [Int.toNat_natCast] at h
    by_cases h0 : m = 0
    · subst h0
      have hx : x = ([], 0, l) := (Option.some.inj h).symm
      subst hx
      exact shuffle.empty g l ok w hT
    · exact shuffle.good k g l m ok x w hT hg hok (by omega) (by omega) h
theorem Ri.C {w : World} {ok : Nat → Prop} {A : Option Addr} {c : Nat} {l : List Int} (h : Ri w ok A c l) : Kd.C (Kd.int .i64) w A l.length l := Kd.F_now h.1
theorem Ri.below {w w1 : World} {ok : Nat → Prop} {A : Option Addr} {c : Nat} {l : List Int} (h : Ri w ok A c l) (hb : Below w.heap.size w w1) : Ri w1 ok A c l := ⟨Kd.F_below h.1 hb, h.2⟩
set_option maxHeartbeats 8000000 in
set_option maxRecDepth 100000 in
theorem awake.calls (k : Nat) (r : List Int) (w : World) (h : shuffle.f k 3 [0, 0] = some ([1, 2, 0], 0, r)) :
    Calls Try.prog 27 #[] w fun e w' => e = .returned (.bool true) ∧ Below w.heap.size w w' := by
  have HB := Aside0.mk (Below.refl w.heap.size w)
  have HS := Aside0.mk (fun (W : World) (g : Nat) (hT : Tp W g (fun k => k < g) [0, 0]) => (show Calls Try.prog 29 #[.pointer (some ⟨g, 0, none⟩), .int .i64 3] W fun e w' => ∃ ad c, e = .returned (.tuple #[.slice (some ad) 3 c, .int .i64 0]) ∧ w'.cell? ad = some (.int .i64 1) ∧ w'.cell? ⟨ad.block, ad.off + 1, none⟩ = some (.int .i64 2) ∧ w'.cell? ⟨ad.block, ad.off + 2, none⟩ = some (.int .i64 0) ∧ Stay W w' g from (shuffle.calls k g [0, 0] 3 (fun k => k < g) ([1, 2, 0], 0, r) W hT (Nat.lt_irrefl _) (fun k hk => Nat.lt_trans hk hT.lt) h).mono (by
    rintro e w' ⟨A, c, rfl, hr, _, hs⟩
    have hC : Kd.C (Kd.int .i64) w' A ([1, 2, 0] : List Int).length [1, 2, 0] := hr.C
    obtain ⟨ad, hA, h0⟩ := Kd.at_int hC (0 : Int) (by omega) (by decide)
    obtain ⟨ad1, hA1, h1⟩ := Kd.at_int hC (1 : Int) (by omega) (by decide)
    obtain ⟨ad2, hA2, h2⟩ := Kd.at_int hC (2 : Int) (by omega) (by decide)
    subst hA
    obtain rfl : ad = ad1 := Option.some.inj hA1
    obtain rfl : ad = ad2 := Option.some.inj hA2
    exact ⟨ad, c, rfl, h0, h1, h2, hs⟩)))
  have FR := Aside0.mk (fun (W : World) (A : Option Addr) (c : Nat) (h : Kd.C (Kd.int .u8) W A ([0, 0] : List Int).length [0, 0]) (hc : 2 ≤ c) => (show Calls Try.prog 28 #[.slice A 2 c] W _ from tape_fresh20.both A c [0, 0] W h hc (by simp)))
  clear h
  go_enter Try.func27, Try.ntmps27
  go_wp2_with (first
    | ((with_reducible refine gate_dst (N := 7) rfl ?_); refine Kd.R_lit (Kd.int .u8) _ 5 ?hg (N := 7) ?hd (xs := ([0, 0] : List Int)) (inner := [.int .u8 0, .int .u8 0]) (ok := fun _ => True) (okp := fun _ => True) ?hr ?hp (fun _ hk => hk) trivial (Below.refl _ _) (Nat.le_refl _) (by simp) ?_; (case hd => rfl); (case hg => rfl); (case hr => first | (go_simp; done) | (go_simp; rfl)); (case hp => exact (Reps.one (show Kd.M (Kd.int .u8) _ _ _ 0 [.int .u8 0] from rfl) (Reps.one (show Kd.M (Kd.int .u8) _ _ _ 0 [.int .u8 0] from rfl) (Reps.none _ _)))); intro v1 w2 ho hb_ hg_ hnew_; clear hg_ hnew_; obtain ⟨A2, c2, e2⟩ := Kd.R_slice ho; subst e2; have HL2 := Aside0.mk ho; have HB2 := Aside0.mk (below_step uB hb_); clear HB hb_ ho)
    | (go_at_call 28; (refine (FR.out _ A2 c2 (Kd.R_reads' HL2.out).2.2 (by have h := (Kd.R_reads' HL2.out).2.1; exact h)).mono ?_); rintro e w3 ⟨g1, g2, rfl, hg1, hg2, hT1, hT2, hb_⟩; have G1 := Aside0.mk (Nat.le_trans (below_size HB2.out) hg1); have T1 := Aside0.mk hT1; have HB3 := Aside0.mk (below_step HB2.out hb_); clear HB2 HL2 hb_ hT1 hT2 hg1 hg2)
    | (go_at_call 29; refine (HS.out _ g1 T1.out).mono ?_; rintro e w4 ⟨ad, c4, rfl, hc0, hc1, hc2, hs⟩; have HB4 := Aside0.mk (hs.below HB3.out G1.out); clear HB3 hs T1))
  go_ret
  exact ⟨rfl, uB⟩
theorem infoBool20 : (Try.prog.info? 4).map (fun i => (i.zero, i.size, i.bytes)) = some (some (.bool false), 1, 1) := by kernel_rfl
def metV (n : Nat) (v : List Int) : Nat → List Bool
  | 0 => List.replicate n false
  | i + 1 => (metV n v i).set (v.getD i 0).toNat true
theorem metV_at (n : Nat) (v : List Int) (i j : Nat) (hj : j < n) (h : ∀ b, b < i → (v.getD b 0).toNat ≠ j) : (metV n v i).getD j false = false := by
  induction i with
  | zero => simp [metV, hj]
  | succ i ih =>
    rw [metV, List.getD_eq_getElem?_getD, List.getElem?_set_ne (h i (Nat.lt_succ_self i)), ← List.getD_eq_getElem?_getD]
    exact ih (fun b hb => h b (by omega))
def OnceAt (n : Nat) (V : List Int) : Prop := V.length = n ∧ (∀ a, a < n → 0 ≤ V.getD a 0 ∧ V.getD a 0 < (n : Int)) ∧ ∀ a b, a < n → b < n → V.getD a 0 = V.getD b 0 → a = b
def OnceOk (n : Int) (L : List Int) : Prop := ∃ k v er u', shuffle.f k n L = some (v, er, L.drop u') ∧ (er = 1 ∨ er = 7 ∨ (er = 0 ∧ 0 ≤ n ∧ n ≤ 16384 ∧ OnceAt n.toNat v))
def windbreaklaw20_SplitmaskOnce.Pure : Prop := (∃ k r, shuffle.f k 3 [0, 0] = some ([1, 2, 0], 0, r)) ∧ ∀ (L : List Int) (n : Int), L.length ≤ 65536 → (∀ x ∈ L, (Lit.int .u8 x).wf = true) → OnceOk n L
set_option maxHeartbeats 16000000 in
set_option maxRecDepth 100000 in
theorem windbreaklaw20_SplitmaskOnce.long (A0 : Option Addr) (c0 : Nat) (l0 : List Int) (n : Int) (w : World) (hr0 : Kd.C (Kd.int .u8) w A0 l0.length l0) (hc0 : l0.length ≤ c0) (ha : ∃ k r, shuffle.f k 3 [0, 0] = some ([1, 2, 0], 0, r)) (c2 : (l0.length : Int) > 65536) :
    Calls Try.prog 8 #[.slice A0 l0.length c0, .int .i64 n] w fun e w' => e = .returned (.bool true) ∧ Below w.heap.size w w' := by
  have HR0 := Aside0.mk hr0
  have HC0 := Aside0.mk hc0
  have HB := Aside0.mk (Below.refl w.heap.size w)
  obtain ⟨ka, ra, hka⟩ := ha
  have HA := Aside0.mk hka
  have C2 := Aside0.mk c2
  have c2z : decide ((65536 : Int) < (l0.length : Int)) = true := decide_eq_true c2
  clear hr0 hka c2
  go_enter Try.func8, Try.ntmps8
  go_wp2_with (first
    | (go_at_call 27; refine (awake.calls ka ra _ HA.out).mono ?_; rintro e w1 ⟨rfl, hb⟩; have HB1 := Aside0.mk (below_step uB hb); clear HB hb)
    | (go_at_call 28; (refine (tape_fresh20.long _ _ l0 _ (Kd.C_below HR0.out HB1.out) HC0.out C2.out).mono ?_); rintro e w2 ⟨rfl, hb⟩; have HB2 := Aside0.mk (below_step HB1.out hb); clear HB1 hb))
  go_ret
  exact ⟨rfl, uB⟩
set_option maxHeartbeats 16000000 in
set_option maxRecDepth 100000 in
theorem windbreaklaw20_SplitmaskOnce.bad (A0 : Option Addr) (c0 : Nat) (l0 : List Int) (n : Int) (k : Nat) (v : List Int) (er : Int) (u' : Nat) (w : World) (hr0 : Kd.C (Kd.int .u8) w A0 l0.length l0) (hc0 : l0.length ≤ c0) (ha : ∃ k r, shuffle.f k 3 [0, 0] = some ([1, 2, 0], 0, r)) (hL : l0.length ≤ 65536) (k1 : shuffle.f k n l0 = some (v, er, l0.drop u')) (he : er = 1 ∨ er = 7) :
    Calls Try.prog 8 #[.slice A0 l0.length c0, .int .i64 n] w fun e w' => e = .returned (.bool true) ∧ Below w.heap.size w w' := by
  have HR0 := Aside0.mk hr0
  have HC0 := Aside0.mk hc0
  have HL0 := Aside0.mk hL
  have HB := Aside0.mk (Below.refl w.heap.size w)
  obtain ⟨ka, ra, hka⟩ := ha
  have HA := Aside0.mk hka
  have K1 := Aside0.mk k1
  clear hr0 hka k1
  rcases he with rfl | rfl
  all_goals
    go_enter Try.func8, Try.ntmps8
    go_wp2_with (first
      | (go_at_call 27; refine (awake.calls ka ra _ HA.out).mono ?_; rintro e w1 ⟨rfl, hb⟩; have HB1 := Aside0.mk (below_step uB hb); clear HB hb)
      | (go_at_call 28; (refine (tape_fresh20.both _ _ l0 _ (Kd.C_below HR0.out HB1.out) HC0.out (by have := HL0.out; omega)).mono ?_); rintro e w2 ⟨g1, g2, rfl, hg1, hg2, hT1, hT2, hb⟩; have G1 := Aside0.mk (Nat.le_trans (below_size HB1.out) hg1); have T1 := Aside0.mk hT1; have HB2 := Aside0.mk (below_step HB1.out hb); clear HB1 hb hT1 hT2 hg1 hg2)
      | (go_at_call 29; refine (shuffle.calls k g1 l0 n (fun k => k < g1) (v, _, l0.drop u') _ T1.out (Nat.lt_irrefl _) (fun k hk => Nat.lt_trans hk T1.out.lt) K1.out).mono ?_; rintro e w3 ⟨A3, c3, rfl, hr3, hT3, hS3⟩; have HB3 := Aside0.mk (hS3.below HB2.out G1.out); clear T1 HB2 hr3 hT3 hS3))
    go_ret
    exact ⟨rfl, uB⟩
set_option maxHeartbeats 16000000 in
set_option maxRecDepth 100000 in
theorem windbreaklaw20_SplitmaskOnce.good (A0 : Option Addr) (c0 : Nat) (l0 : List Int) (n : Nat) (k : Nat) (v : List Int) (u' : Nat) (w : World) (hr0 : Kd.C (Kd.int .u8) w A0 l0.length l0) (hc0 : l0.length ≤ c0) (ha : ∃ k r, shuffle.f k 3 [0, 0] = some ([1, 2, 0], 0, r)) (hL : l0.length ≤ 65536) (k1 : shuffle.f k (n : Int) l0 = some (v, 0, l0.drop u')) (hn0 : 1 ≤ n) (hn1 : n ≤ 16384) (ho : OnceAt n v) :
    Calls Try.prog 8 #[.slice A0 l0.length c0, .int .i64 (n : Int)] w fun e w' => e = .returned (.bool true) ∧ Below w.heap.size w w' := by
  have HR0 := Aside0.mk hr0
  have HC0 := Aside0.mk hc0
  have HL0 := Aside0.mk hL
  have HB := Aside0.mk (Below.refl w.heap.size w)
  obtain ⟨ka, ra, hka⟩ := ha
  have HA := Aside0.mk hka
  have K1 := Aside0.mk k1
  obtain ⟨hvl, hrange, hinj⟩ := ho
  have HVR := Aside0.mk hrange
  have HVI := Aside0.mk hinj
  have hK2 : ((n : Int)).toNat = n := Int.toNat_natCast n
  clear hr0 hka k1 hrange hinj
  go_enter Try.func8, Try.ntmps8
  go_wp2_with (first
    | (go_at_call 27; refine (awake.calls ka ra _ HA.out).mono ?_; rintro e w1 ⟨rfl, hb⟩; have HB1 := Aside0.mk (below_step uB hb); clear HB hb)
    | (go_at_call 28; (refine (tape_fresh20.both _ _ l0 _ (Kd.C_below HR0.out HB1.out) HC0.out (by have := HL0.out; omega)).mono ?_); rintro e w2 ⟨g1, g2, rfl, hg1, hg2, hT1, hT2, hb⟩; have G1 := Aside0.mk (Nat.le_trans (below_size HB1.out) hg1); have T1 := Aside0.mk hT1; have HB2 := Aside0.mk (below_step HB1.out hb); clear HB1 hb hT1 hT2 hg1 hg2)
    | (go_at_call 29; refine (shuffle.calls k g1 l0 (n : Int) (fun k => k < g1) (v, 0, l0.drop u') _ T1.out (Nat.lt_irrefl _) (fun k hk => Nat.lt_trans hk T1.out.lt) K1.out).mono ?_; rintro e w3 ⟨A3, c3, rfl, hr3, hT3, hS3⟩; have KX := Aside0.mk (show Ri w3 (fun k => k < w3.heap.size) A3 c3 v from ⟨Kd.F_mono (Kd.F_bound hr3.1) (fun k hk => hk.2), hr3.2⟩); have HB3 := Aside0.mk (hS3.below HB2.out G1.out); clear T1 HB2 hr3 hT3 hS3)
    | ((with_reducible refine gate_dst (N := 51) rfl ?_); refine Kd.R_make Kd.bool _ 4 rfl (N := 51) rfl 61 _ _ rfl ((n : Int)) rfl rfl Try.underlying61 (.bool false) 1 infoBool20 rfl (by decide) (by omega) false (ok := fun _ => True) (okp := fun _ => True) rfl (fun _ hk => hk) trivial (by omega) (by omega) (Below.refl _ _) (Nat.le_refl _) ?_; intro v0 w4 ho1 hb hg_ hnew_; clear hg_ hnew_; rw [hK2] at ho1; have HB3S := Aside0.mk HB3.out; have HB4 := Aside0.mk (below_step HB3.out hb); have KX4 := Aside0.mk (KX.out.below hb); obtain ⟨gt, ct, ev, hgt, hgl, _⟩ := Kd.R_form ho1 (by simp; omega); rw [List.length_replicate] at ev; subst ev; have HGN := Aside0.mk (show w3.heap.size ≤ gt from Kd.R_base ho1 gt rfl); have HO4 := Aside0.mk ho1; clear HB3 KX hb ho1 hgt hgl))
  go_loopg [12] n (fun gg v12 wr => ∃ i : Nat, v12 = .int .i64 (i : Int) ∧ i ≤ n ∧ n - i ≤ gg ∧ Aside0 (Kd.R Kd.bool 4 wr w3.heap.size (fun _ => True) (.slice (some ⟨gt, 0, none⟩) n ct) (metV n v i)) ∧ Aside0 (Ri wr (fun k => k < w3.heap.size) A3 c3 v) ∧ Aside0 (Below w.heap.size w wr))
  case atStart => exact ⟨0, rfl, by omega, by omega, HO4, KX4, HB4⟩
  case round =>
    clear HO4 KX4 HB4
    obtain ⟨i, rfl, hi, hgg, HO, KX, HB⟩ := hrel
    by_cases hlt : i < n
    · have hltz : (i : Int) < (n : Int) := by omega
      have hiz : (0 : Int) ≤ (i : Int) := by omega
      obtain ⟨ad, hA, hx⟩ := Kd.at_int KX.out.C (i : Int) hiz (by omega)
      subst hA
      simp only [Go.IntWalk.toNatUp] at hx
      obtain ⟨hr1, hr2⟩ := HVR.out i hlt
      have hmet := metV_at n v i (v.getD i 0).toNat (by omega) (fun b hb he => by
        have h1 := HVR.out b (by omega)
        have h2 := HVI.out b i (by omega) hlt (by omega)
        omega)
      have hstep : metV n v (i + 1) = (metV n v i).set (v.getD i 0).toNat true := rfl
      have hrd : rd v (i : Int) = v.getD i 0 := rfl
      rw [hrd] at hx
      generalize v.getD i 0 = y at hx hr1 hr2 hmet hstep
      obtain ⟨q, rfl⟩ := Int.eq_ofNat_of_zero_le hr1
      simp only [Int.toNat_natCast] at hmet hstep
      have HST := Aside0.mk hstep
      have hcm := Kd.R_celln false HO.out (q : Int) (by omega) (by omega)
      have hcell : wr.cell? ⟨gt, q, none⟩ = some (.bool false) := by rw [← hmet]; exact hcm.1
      have hfz : wr.frozen? ⟨gt, q, none⟩ = false := hcm.2
      have hq0 : decide ((q : Int) < 0) = false := decide_eq_false (by omega)
      have hq1 : decide ((n : Int) ≤ (q : Int)) = false := decide_eq_false (by omega)
      have hqz : (0 : Int) ≤ (q : Int) := by omega
      have HP := Aside0.mk (Kd.R_putn HO.out (q : Int) true)
      have HGW := Aside0.mk (show w.heap.size ≤ gt from Nat.le_trans (below_size HB3S.out) HGN.out)
      have HB6 := Aside0.mk (below_set (g := gt) (j := q) (v := .bool true) HB.out HGW.out)
      have KX6 := Aside0.mk (show Ri (wr.setCell ⟨gt, q, none⟩ (.bool true)) (fun k => k < w3.heap.size) (some ad) c3 v from ⟨Kd.F_far KX.out.1 (p := ⟨gt, q, none⟩) (fun k hk => by have h := HGN.out; show k ≠ gt; omega) _, KX.out.2⟩)
      clear hcm hmet hstep hrd HO KX HB
      go_wp2_with ((with_reducible refine gate_store (t := 4) (p := 84) rfl ?_); refine store_event (t := 4) (p := 84) (v := ?vo) (w1 := (wr.setCell ⟨gt, q, none⟩ (.bool true))) ?hg ?ho ?hn ?hr ?_; (case ho => rfl); (case hg => rfl); (case hn => rfl); (case hr => first | (go_simp; done) | (go_simp; rfl)); intro w5 hw; subst hw)
      have HO6 := HP.out
      simp only [Int.toNat_natCast] at HO6
      go_roundg (n - (i + 1))
      case measure => omega
      case rel => exact ⟨i + 1, by go_num, by omega, by omega, ⟨by rw [HST.out]; exact HO6⟩, KX6, HB6⟩
    · have hltz : ¬ (i : Int) < (n : Int) := by omega
      go_wp2
      go_ret
      exact ⟨rfl, HB.out⟩
set_option maxHeartbeats 16000000 in
set_option maxRecDepth 100000 in
theorem windbreaklaw20_SplitmaskOnce.empty (A0 : Option Addr) (c0 : Nat) (l0 : List Int) (k : Nat) (v : List Int) (u' : Nat) (w : World) (hr0 : Kd.C (Kd.int .u8) w A0 l0.length l0) (hc0 : l0.length ≤ c0) (ha : ∃ k r, shuffle.f k 3 [0, 0] = some ([1, 2, 0], 0, r)) (hL : l0.length ≤ 65536) (k1 : shuffle.f k 0 l0 = some (v, 0, l0.drop u')) (hvl : v.length = 0) :
    Calls Try.prog 8 #[.slice A0 l0.length c0, .int .i64 0] w fun e w' => e = .returned (.bool true) ∧ Below w.heap.size w w' := by
  have HR0 := Aside0.mk hr0
  have HC0 := Aside0.mk hc0
  have HL0 := Aside0.mk hL
  have HB := Aside0.mk (Below.refl w.heap.size w)
  obtain ⟨ka, ra, hka⟩ := ha
  have HA := Aside0.mk hka
  have K1 := Aside0.mk k1
  clear hr0 hka k1
  go_enter Try.func8, Try.ntmps8
  go_wp2_with (first
    | (go_at_call 27; refine (awake.calls ka ra _ HA.out).mono ?_; rintro e w1 ⟨rfl, hb⟩; have HB1 := Aside0.mk (below_step uB hb); clear HB hb)
    | (go_at_call 28; (refine (tape_fresh20.both _ _ l0 _ (Kd.C_below HR0.out HB1.out) HC0.out (by have := HL0.out; omega)).mono ?_); rintro e w2 ⟨g1, g2, rfl, hg1, hg2, hT1, hT2, hb⟩; have G1 := Aside0.mk (Nat.le_trans (below_size HB1.out) hg1); have T1 := Aside0.mk hT1; have HB2 := Aside0.mk (below_step HB1.out hb); clear HB1 hb hT1 hT2 hg1 hg2)
    | (go_at_call 29; refine (shuffle.calls k g1 l0 0 (fun k => k < g1) (v, 0, l0.drop u') _ T1.out (Nat.lt_irrefl _) (fun k hk => Nat.lt_trans hk T1.out.lt) K1.out).mono ?_; rintro e w3 ⟨A3, c3, rfl, hr3, hT3, hS3⟩; have HB3 := Aside0.mk (hS3.below HB2.out G1.out); clear T1 HB2 hr3 hT3 hS3)
    | ((with_reducible refine gate_dst (N := 51) rfl ?_); refine Kd.R_make Kd.bool _ 4 rfl (N := 51) rfl 61 _ _ rfl (0 : Int) rfl rfl Try.underlying61 (.bool false) 1 infoBool20 rfl (by decide) (by omega) false (ok := fun _ => True) (okp := fun _ => True) rfl (fun _ hk => hk) trivial (by omega) (by omega) (Below.refl _ _) (Nat.le_refl _) ?_; intro v0 w4 ho1 hb hg_ hnew_; clear hg_ hnew_ ho1; have HB4 := Aside0.mk (below_step HB3.out hb); clear HB3 hb))
  go_loopg [12] 0 (fun gg v12 wr => v12 = .int .i64 0 ∧ Aside0 (Below w.heap.size w wr))
  case atStart => exact ⟨rfl, HB4⟩
  case round =>
    clear HB4
    obtain ⟨rfl, HB⟩ := hrel
    go_wp2
    go_ret
    exact ⟨rfl, HB.out⟩
theorem windbreaklaw20_SplitmaskOnce.row (hp : windbreaklaw20_SplitmaskOnce.Pure) (w : World) (A0 : Option Addr) (n0 c0 : Nat) (x0 : List Int) (h0 : (Kd.slice 5 (Kd.int .u8)).K w x0 [.slice A0 n0 c0]) (o0 : x0.length ≤ maxLen ∧ ∀ x ∈ x0, (Lit.int .u8 x).wf = true) (m : Int) (x2 : Int) (h2 : (Kd.int .i64).K w x2 [.int .i64 m]) (o2 : (Lit.int .i64 x2).wf = true) :
    Calls Try.prog 8 #[.slice A0 n0 c0, .int .i64 m] w fun e w' => e = .returned (.bool true) ∧ Below w.heap.size w w' := by
  obtain ⟨B0, d0, e0, l0, r0⟩ := h0
  simp only [List.cons.injEq, Value.slice.injEq, and_true] at e0
  obtain ⟨rfl, rfl, rfl⟩ := e0
  clear h2 o2
  by_cases hL : x0.length ≤ 65536
  · obtain ⟨k, v, er, u', k1, he⟩ := hp.2 x0 m hL o0.2
    rcases he with h | h | ⟨rfl, h1, h2, h3⟩
    · exact windbreaklaw20_SplitmaskOnce.bad A0 c0 x0 m k v er u' w r0 l0 hp.1 hL k1 (.inl h)
    · exact windbreaklaw20_SplitmaskOnce.bad A0 c0 x0 m k v er u' w r0 l0 hp.1 hL k1 (.inr h)
    · obtain ⟨n, rfl⟩ := Int.eq_ofNat_of_zero_le h1
      rw [Int.toNat_natCast] at h3
      by_cases h0 : n = 0
      · subst h0
        exact windbreaklaw20_SplitmaskOnce.empty A0 c0 x0 k v u' w r0 l0 hp.1 hL k1 h3.1
      · exact windbreaklaw20_SplitmaskOnce.good A0 c0 x0 n k v u' w r0 l0 hp.1 hL k1 (by omega) (by omega) h3
  · exact windbreaklaw20_SplitmaskOnce.long A0 c0 x0 m w r0 l0 hp.1 (by omega)
end Go.Proofs.Ytlkinjhmgljapab.F
end
section
namespace Go.Proofs.Ytlkinjhmgljapab.F
open Go.RowKit Go.Deep Go.ChangeShapes Go.Proofs.YtlkinjhmgljapabW.PrintWords
set_option linter.unusedSimpArgs false
set_option linter.unusedVariables false
def Opens {α : Type} (P : Program) (t : TypeId) (d : Kd α) (ok : α → Prop) : Prop :=
  ∀ {H : Type} (enc : TypeId × Value → H) (w : World) (held : Bool) (fuel : Nat) (cs : List Value) (x : DataW H × List MemPlace), DataW.trod enc P w 0 (fun _ => true) held fuel t cs = some x → ∃ a : α, d.K w a cs ∧ ok a
theorem Opens.int {P : Program} {t : TypeId} {k : IntKind} (ht : P.underlying t = some (.int k)) : Opens P t (Kd.int k) (fun n => (Lit.int k n).wf = true) := by
  intro H enc w held fuel cs x h
  obtain ⟨n, rfl, _, hw⟩ := DataW.trod_int ht h
  exact ⟨n, rfl, hw⟩
theorem choose_list {α : Type} {n : Nat} {p : Nat → α → Prop} (h : ∀ i, i < n → ∃ x, p i x) : ∃ l : List α, l.length = n ∧ ∀ i x, l[i]? = some x → p i x := by
  induction n with
  | zero => exact ⟨[], rfl, fun i x hx => by simp at hx⟩
  | succ n ih =>
    obtain ⟨l, hl, hp⟩ := ih (fun i hi => h i (by omega))
    obtain ⟨x, hx⟩ := h n (by omega)
    refine ⟨l ++ [x], by simp [hl], fun i y hy => ?_⟩
    rcases Nat.lt_or_ge i l.length with hi | hi
    · rw [List.getElem?_append_left hi] at hy
      exact hp i y hy
    · rw [List.getElem?_append_right hi] at hy
      have h0 : i - l.length = 0 := by
        rcases Nat.eq_zero_or_pos (i - l.length) with h0 | h0
        · exact h0
        · rw [List.getElem?_eq_none (by simp; omega)] at hy; cases hy
      rw [h0] at hy
      obtain rfl : x = y := by simpa using hy
      obtain rfl : i = n := by omega
      exact hx
theorem Opens.slice {α : Type} {P : Program} {t e : TypeId} {d : Kd α} {ok : α → Prop} (ht : P.underlying t = some (.slice e)) (hs : P.cellsOf e = d.sz) (hd : Opens P e d ok) : Opens P t (Kd.slice e d) (fun xs => xs.length ≤ maxLen ∧ ∀ x ∈ xs, ok x) := by
  intro H enc w held fuel cs x h
  rcases open_slice ht h with ⟨rfl, _⟩ | ⟨a, len, cap, m, n, D, Pl, rfl, _, hlc, hcm, hm, _, hel⟩
  · exact ⟨[], ⟨none, 0, rfl, Nat.le_refl _, Kd.C_nil d w⟩, Nat.zero_le _, fun x hx => by cases hx⟩
  · have hlm : len ≤ m := by simp at hm; omega
    have h1 : ∀ i, i < len → ∃ y : α, (∃ c, c.length = d.sz ∧ d.K w y c ∧ ∀ j u, c[j]? = some u → w.cell? (a.add (i * d.sz + j)) = some u) ∧ ok y := by
      intro i hi
      obtain ⟨cs', hc, htr⟩ := hel i (by omega)
      obtain ⟨y, hK, hok⟩ := hd enc w held n cs' _ htr
      obtain ⟨_, hl, hcell⟩ := World.cells?_some hc
      refine ⟨y, ⟨cs', by rw [hl, hs], hK, fun j u hu => ?_⟩, hok⟩
      have hj : j < P.cellsOf e := by have := (List.getElem?_eq_some_iff.1 hu).1; omega
      have := hcell j hj
      rw [Go.Deep.add_add, hs, hu] at this
      exact this
    obtain ⟨xs, hxl, hxp⟩ := choose_list h1
    have hml : len ≤ maxLen := Nat.le_trans hlc hcm
    refine ⟨xs, ⟨some a, cap, by rw [hxl], by omega, ⟨rfl, ?_, fun hp => ⟨a, rfl, fun j p hj => (hxp j p hj).1⟩⟩⟩, by omega, fun x hx => ?_⟩
    · unfold maxLen at hml; omega
    · obtain ⟨i, hi⟩ := List.getElem?_of_mem hx
      exact (hxp i x hi).2
theorem Opens.elem {α : Type} {H : Type} {enc : TypeId × Value → H} {P : Program} {w : World} {held : Bool} {fuel : Nat} {t e : TypeId} {cs : List Value} {x : DataW H × List MemPlace} {n : Nat} (ht : P.underlying t = some (.array n e)) (h : DataW.trod enc P w 0 (fun _ => true) held fuel t cs = some x) {d : Kd α} {ok : α → Prop} (i : Nat) (hi : i < n) (hd : Opens P e d ok) :
    ∃ a : α, d.K w a ((cs.drop (i * P.cellsOf e)).take (P.cellsOf e)) ∧ ok a := by
  obtain ⟨xs, m, _, _, _, hl, hx⟩ := DataW.trod_array ht h
  have h1 := hx i hi
  rw [List.getElem?_eq_getElem (by omega)] at h1
  exact hd enc w held m _ _ h1
end Go.Proofs.Ytlkinjhmgljapab.F
end
section
namespace Go.Proofs.Ytlkinjhmgljapab.Z
open Go.RowKit Go.Proofs.YtlkinjhmgljapabW.PrintWords
set_option linter.unusedSimpArgs false
set_option linter.unusedVariables false
def Evt {α : Type} (g : Nat → Option α) (r : α) : Prop := ∃ n, ∀ k, n ≤ k → g k = some r
theorem Evt.pure {α : Type} (r : α) : Evt (fun _ => some r) r := ⟨0, fun _ _ => rfl⟩
theorem Evt.bind {α β : Type} {g : Nat → Option α} {h : α → Nat → Option β} {a : α} {b : β} (h1 : Evt g a) (h2 : Evt (h a) b) : Evt (fun k => (g k).bind fun x => h x k) b := by
  obtain ⟨n, hn⟩ := h1
  obtain ⟨m, hm⟩ := h2
  exact ⟨n + m, fun k hk => by simp only [hn k (by omega), Option.bind_some]; exact hm k (by omega)⟩
theorem Evt.succ {α : Type} {g : Nat → Option α} {r : α} (h : Evt (fun k => g (k + 1)) r) : Evt g r := by
  obtain ⟨n, hn⟩ := h
  refine ⟨n + 1, fun k hk => ?_⟩
  obtain ⟨m, rfl⟩ : ∃ m, k = m + 1 := ⟨k - 1, by omega⟩
  exact hn m (by omega)
theorem Evt.congr {α : Type} {g g' : Nat → Option α} {r r' : α} (h : Evt g r) (hg : ∀ k, g' k = g k) (hr : r = r') : Evt g' r' := by
  subst hr
  obtain ⟨n, hn⟩ := h
  exact ⟨n, fun k hk => (hg k).trans (hn k hk)⟩
theorem Evt.ite_pos {α : Type} {c : Prop} [Decidable c] {g h : Nat → Option α} {r : α} (hc : c) (hg : Evt g r) : Evt (fun k => if c then g k else h k) r := by
  obtain ⟨n, hn⟩ := hg
  exact ⟨n, fun k hk => (if_pos hc).trans (hn k hk)⟩
theorem Evt.ite_neg {α : Type} {c : Prop} [Decidable c] {g h : Nat → Option α} {r : α} (hc : ¬ c) (hg : Evt h r) : Evt (fun k => if c then g k else h k) r := by
  obtain ⟨n, hn⟩ := hg
  exact ⟨n, fun k hk => (if_neg hc).trans (hn k hk)⟩
theorem Evt.cond {α : Type} {c : Prop} [Decidable c] {g h : Nat → Option α} {r s : α} (hg : c → Evt g r) (hh : ¬ c → Evt h s) : Evt (fun k => if c then g k else h k) (if c then r else s) := by
  by_cases hc : c
  · rw [if_pos hc]; exact Evt.ite_pos hc (hg hc)
  · rw [if_neg hc]; exact Evt.ite_neg hc (hh hc)
theorem w64 {x : Int} (h0 : -9223372036854775808 ≤ x) (h1 : x < 9223372036854775808) : wrap64 x = x := by unfold wrap64; omega
theorem wu64 (x : Int) : IntKind.u64.wrap x = x % 18446744073709551616 := by simp [IntKind.wrap, IntKind.bits, IntKind.signed]
theorem wu64_of {x : Int} (h0 : 0 ≤ x) (h1 : x < 18446744073709551616) : IntKind.u64.wrap x = x := by rw [wu64]; omega
theorem rd_getD (l : List Int) (i : Int) : rd l i = l.getD i.toNat 0 := rfl
theorem rd_nat (l : List Int) (i : Nat) : rd l (i : Int) = l.getD i 0 := rfl
def val (B : Int) : List Int → Int
  | [] => 0
  | d :: l => d + B * val B l
def Dig (B : Int) (l : List Int) : Prop := ∀ x, x ∈ l → 0 ≤ x ∧ x < B
def Can (l : List Int) : Prop := ∀ h : l ≠ [], l.getLast h ≠ 0
def strip : List Int → List Int
  | [] => []
  | d :: l => if strip l = [] then (if d = 0 then [] else [d]) else d :: strip l
theorem Dig.nil {B : Int} : Dig B [] := fun _ h => by simp at h
theorem Dig.cons {B d : Int} {l : List Int} : Dig B (d :: l) ↔ (0 ≤ d ∧ d < B) ∧ Dig B l := by
  unfold Dig
  simp
theorem Dig.append {B : Int} {l m : List Int} : Dig B (l ++ m) ↔ Dig B l ∧ Dig B m := by
  unfold Dig
  constructor
  · intro h
    exact ⟨fun x hx => h x (by simp [hx]), fun x hx => h x (by simp [hx])⟩
  · intro h x hx
    rcases List.mem_append.1 hx with hx | hx
    · exact h.1 x hx
    · exact h.2 x hx
theorem Dig.take {B : Int} {l : List Int} (h : Dig B l) (n : Nat) : Dig B (l.take n) := fun x hx => h x (List.mem_of_mem_take hx)
theorem Dig.drop {B : Int} {l : List Int} (h : Dig B l) (n : Nat) : Dig B (l.drop n) := fun x hx => h x (List.mem_of_mem_drop hx)
theorem Dig.getD {B : Int} {l : List Int} (h : Dig B l) (hB : 0 < B) (i : Nat) : 0 ≤ l.getD i 0 ∧ l.getD i 0 < B := by
  rw [List.getD_eq_getElem?_getD]
  cases he : l[i]? with
  | none => simp; omega
  | some x => simpa using h x (List.mem_of_getElem? he)
theorem Dig.set {B : Int} {l : List Int} (h : Dig B l) (i : Nat) {v : Int} (hv : 0 ≤ v ∧ v < B) : Dig B (l.set i v) := by
  intro x hx
  rcases List.mem_or_eq_of_mem_set hx with hx | rfl
  · exact h x hx
  · exact hv
theorem Dig.replicate {B : Int} (hB : 0 < B) (n : Nat) : Dig B (List.replicate n 0) := by
  intro x hx
  have := List.eq_of_mem_replicate hx
  omega
theorem val_append (B : Int) (l m : List Int) : val B (l ++ m) = val B l + B ^ l.length * val B m := by
  induction l with
  | nil => simp [val]
  | cons d l ih => simp only [List.cons_append, val, ih, List.length_cons, Int.pow_succ]; grind
theorem val_replicate (B : Int) (n : Nat) : val B (List.replicate n 0) = 0 := by
  induction n with
  | zero => rfl
  | succ n ih => simp [List.replicate_succ, val, ih]
theorem val_nonneg {B : Int} (hB : 0 < B) {l : List Int} (h : Dig B l) : 0 ≤ val B l := by
  induction l with
  | nil => simp [val]
  | cons d l ih =>
    have h' := Dig.cons.1 h
    have h1 := ih h'.2
    have : 0 ≤ B * val B l := Int.mul_nonneg (by omega) h1
    simp only [val]
    omega
theorem val_lt {B : Int} (hB : 0 < B) {l : List Int} (h : Dig B l) : val B l < B ^ l.length := by
  induction l with
  | nil => simp [val]
  | cons d l ih =>
    have h' := Dig.cons.1 h
    have h1 := ih h'.2
    have h2 : B * val B l ≤ B * (B ^ l.length - 1) := Int.mul_le_mul_of_nonneg_left (by omega) (by omega)
    have h3 : B * (B ^ l.length - 1) = B * B ^ l.length - B := by grind
    simp only [val, List.length_cons, Int.pow_succ]
    have h4 : B ^ l.length * B = B * B ^ l.length := Int.mul_comm _ _
    omega
theorem Can.nil : Can [] := fun h => absurd rfl h
theorem Can.tail {d : Int} {l : List Int} (h : Can (d :: l)) : Can l := by
  intro hl
  have := h (by simp)
  rwa [List.getLast_cons hl] at this
theorem Can.one {d : Int} (h : d ≠ 0) : Can [d] := fun _ => by simpa using h
theorem Can.cons {d : Int} {l : List Int} (h : Can l) (hl : l ≠ []) : Can (d :: l) := by
  intro _
  rw [List.getLast_cons hl]
  exact h hl
theorem val_pos {B : Int} (hB : 0 < B) {l : List Int} (h : Dig B l) (hc : Can l) (hl : l ≠ []) : B ^ (l.length - 1) ≤ val B l := by
  induction l with
  | nil => exact absurd rfl hl
  | cons d l ih =>
    have h' := Dig.cons.1 h
    by_cases e : l = []
    · subst e
      have := hc (by simp)
      simp [val] at this ⊢
      omega
    · have h1 := ih h'.2 hc.tail e
      have h2 : l.length - 1 + 1 = l.length := by have := List.length_pos_iff.2 e; omega
      simp only [val, List.length_cons, Nat.add_sub_cancel]
      rw [← h2, Int.pow_succ, Int.mul_comm]
      have : B * B ^ (l.length - 1) ≤ B * val B l := Int.mul_le_mul_of_nonneg_left h1 (by omega)
      omega
theorem val_zero {B : Int} (hB : 0 < B) {l : List Int} (h : Dig B l) (hc : Can l) (h0 : val B l = 0) : l = [] := by
  by_cases e : l = []
  · exact e
  · have := val_pos hB h hc e
    have h2 : 0 < B ^ (l.length - 1) := Int.pow_pos hB
    omega
theorem val_inj {B : Int} (hB : 0 < B) {l m : List Int} (hl : Dig B l) (hm : Dig B m) (cl : Can l) (cm : Can m) (h : val B l = val B m) : l = m := by
  induction l generalizing m with
  | nil => exact (val_zero hB hm cm h.symm).symm
  | cons d l ih =>
    cases m with
    | nil => exact val_zero hB hl cl h
    | cons e m =>
      have h1 := Dig.cons.1 hl
      have h2 := Dig.cons.1 hm
      simp only [val] at h
      have h3 : d = e := by
        have a1 : (d + B * val B l) % B = d := by rw [Int.add_mul_emod_self_left]; exact Int.emod_eq_of_lt h1.1.1 h1.1.2
        have a2 : (e + B * val B m) % B = e := by rw [Int.add_mul_emod_self_left]; exact Int.emod_eq_of_lt h2.1.1 h2.1.2
        rw [← a1, ← a2, h]
      subst h3
      have h4 : val B l = val B m := by
        have : B * val B l = B * val B m := by omega
        exact Int.eq_of_mul_eq_mul_left (by omega) this
      rw [ih h1.2 h2.2 cl.tail cm.tail h4]
theorem strip_val (B : Int) (l : List Int) : val B (strip l) = val B l := by
  induction l with
  | nil => rfl
  | cons d l ih =>
    simp only [strip]
    split
    · rename_i h
      rw [h] at ih
      simp only [val] at ih
      split
      · rename_i h0; simp [val, ← ih, h0]
      · simp [val, ← ih]
    · simp [val, ih]
theorem strip_can (l : List Int) : Can (strip l) := by
  induction l with
  | nil => exact Can.nil
  | cons d l ih =>
    simp only [strip]
    split
    · split
      · exact Can.nil
      · rename_i h; exact Can.one h
    · rename_i h; exact ih.cons h
theorem strip_dig {B : Int} {l : List Int} (h : Dig B l) : Dig B (strip l) := by
  induction l with
  | nil => exact Dig.nil
  | cons d l ih =>
    have h' := Dig.cons.1 h
    simp only [strip]
    split
    · split
      · exact Dig.nil
      · exact Dig.cons.2 ⟨h'.1, Dig.nil⟩
    · exact Dig.cons.2 ⟨h'.1, ih h'.2⟩
theorem strip_of_can {l : List Int} (h : Can l) : strip l = l := by
  induction l with
  | nil => rfl
  | cons d l ih =>
    simp only [strip]
    rw [ih h.tail]
    split
    · rename_i e
      subst e
      have := h (by simp)
      simp at this
      simp [this]
    · rfl
theorem strip_snoc_zero (l : List Int) : strip (l ++ [0]) = strip l := by
  induction l with
  | nil => simp [strip]
  | cons d l ih => simp only [List.cons_append, strip, ih]
theorem strip_snoc {l : List Int} {d : Int} (h : d ≠ 0) : strip (l ++ [d]) = l ++ [d] := by
  apply strip_of_can
  intro hl
  simpa using h
theorem pow_mono {B : Int} (hB : 0 < B) {m n : Nat} (h : m ≤ n) : B ^ m ≤ B ^ n := by
  induction n with
  | zero => have : m = 0 := by omega
            subst this
            exact Int.le_refl _
  | succ n ih =>
    by_cases e : m = n + 1
    · subst e
      exact Int.le_refl _
    · have h1 := ih (by omega)
      have h2 : 0 < B ^ n := Int.pow_pos hB
      have h3 : 1 * B ^ n ≤ B * B ^ n := Int.mul_le_mul_of_nonneg_right (by omega) (by omega)
      rw [Int.pow_succ, Int.mul_comm]
      omega
theorem val_lt_of_length {B : Int} (hB : 0 < B) {l m : List Int} (hl : Dig B l) (hm : Dig B m) (cm : Can m) (h : l.length < m.length) : val B l < val B m := by
  have h1 := val_lt hB hl
  have h2 := val_pos hB hm cm (by intro e; subst e; simp at h)
  have h3 : B ^ l.length ≤ B ^ (m.length - 1) := pow_mono hB (by omega)
  omega
def rightB (l : List Int) : Bool := decide (l.length ≤ 64) && ((l.length == 0) || (l.getD (l.length - 1) 0 != 0))
theorem can_iff (l : List Int) : Can l ↔ ((l.length == 0) || (l.getD (l.length - 1) 0 != 0)) = true := by
  cases l with
  | nil => simp [Can]
  | cons d l =>
    have h : (d :: l).getLast (by simp) = (d :: l).getD ((d :: l).length - 1) 0 := by
      rw [List.getLast_eq_getElem]
      simp
    unfold Can
    simp only [List.length_cons, Nat.add_one_ne_zero, beq_iff_eq, Bool.or_eq_true, bne_iff_ne, false_or]
    constructor
    · intro hc
      have := hc (by simp)
      rw [h] at this
      exact this
    · intro hc _
      rw [h]
      exact hc
theorem rightB_iff (l : List Int) : rightB l = true ↔ l.length ≤ 64 ∧ Can l := by
  unfold rightB
  rw [Bool.and_eq_true, decide_eq_true_iff, ← can_iff]
def smallV (l : List Int) : Int × Bool := if rightB l = true ∧ l.length ≤ 1 then (l.getD 0 0, true) else (0, false)
def toD (B : Nat) (v : Nat) : List Int := if h : 2 ≤ B ∧ 0 < v then ((v % B : Nat) : Int) :: toD B (v / B) else []
termination_by v
decreasing_by exact Nat.div_lt_self h.2 (by omega)
theorem toD_zero (B : Nat) : toD B 0 = [] := by rw [toD]; simp
theorem toD_pos {B v : Nat} (hB : 2 ≤ B) (hv : 0 < v) : toD B v = ((v % B : Nat) : Int) :: toD B (v / B) := by rw [toD]; simp [hB, hv]
theorem toD_dig {B : Nat} (hB : 2 ≤ B) (v : Nat) : Dig (B : Int) (toD B v) := by
  induction v using Nat.strongRecOn with
  | _ v ih =>
    by_cases hv : v = 0
    · subst hv; rw [toD_zero]; exact Dig.nil
    · rw [toD_pos hB (by omega)]
      have := Nat.mod_lt v (show B > 0 by omega)
      exact Dig.cons.2 ⟨by omega, ih _ (Nat.div_lt_self (by omega) (by omega))⟩
theorem toD_eq_nil {B v : Nat} (hB : 2 ≤ B) : toD B v = [] ↔ v = 0 := by
  constructor
  · intro h
    by_cases hv : v = 0
    · exact hv
    · rw [toD_pos hB (by omega)] at h; cases h
  · rintro rfl; exact toD_zero B
theorem toD_can {B : Nat} (hB : 2 ≤ B) (v : Nat) : Can (toD B v) := by
  induction v using Nat.strongRecOn with
  | _ v ih =>
    by_cases hv : v = 0
    · subst hv; rw [toD_zero]; exact Can.nil
    · rw [toD_pos hB (by omega)]
      by_cases hq : v / B = 0
      · rw [hq, toD_zero]
        have hlt : v < B := (Nat.div_eq_zero_iff_lt (by omega)).1 hq
        rw [Nat.mod_eq_of_lt hlt]
        exact Can.one (by omega)
      · exact (ih _ (Nat.div_lt_self (by omega) (by omega))).cons (fun e => hq ((toD_eq_nil hB).1 e))
theorem val_toD {B : Nat} (hB : 2 ≤ B) (v : Nat) : val (B : Int) (toD B v) = (v : Int) := by
  induction v using Nat.strongRecOn with
  | _ v ih =>
    by_cases hv : v = 0
    · subst hv; rw [toD_zero]; rfl
    · rw [toD_pos hB (by omega)]
      simp only [val]
      rw [ih _ (Nat.div_lt_self (by omega) (by omega))]
      have h2 := Nat.mod_add_div v B
      have h3 : ((v % B + B * (v / B) : Nat) : Int) = (v : Int) := by rw [h2]
      simpa using h3
theorem strip_toD {B : Nat} (hB : 2 ≤ B) {l : List Int} (h : Dig (B : Int) l) : strip l = toD B (val (B : Int) l).toNat := by
  have h0 : (0 : Int) < (B : Int) := by omega
  refine val_inj h0 (strip_dig h) (toD_dig hB _) (strip_can l) (toD_can hB _) ?_
  rw [strip_val, val_toD hB]
  have := val_nonneg h0 h
  omega
theorem can_toD {B : Nat} (hB : 2 ≤ B) {l : List Int} (h : Dig (B : Int) l) (hc : Can l) : l = toD B (val (B : Int) l).toNat := by
  rw [← strip_toD hB h, strip_of_can hc]
theorem pow_cast (B n : Nat) : ((B : Int)) ^ n = ((B ^ n : Nat) : Int) := by simp
theorem toD_len_le {B : Nat} (hB : 2 ≤ B) {v n : Nat} (h : v < B ^ n) : (toD B v).length ≤ n := by
  by_cases hv : v = 0
  · subst hv; rw [toD_zero]; simp
  · have h1 := val_pos (show (0 : Int) < (B : Int) by omega) (toD_dig hB v) (toD_can hB v) (fun e => hv ((toD_eq_nil hB).1 e))
    rw [val_toD hB, pow_cast] at h1
    have h2 : B ^ ((toD B v).length - 1) ≤ v := by omega
    have h3 : B ^ ((toD B v).length - 1) < B ^ n := by omega
    have h4 := (Nat.pow_lt_pow_iff_right (show 1 < B by omega)).1 h3
    omega
theorem toD_lt_pow {B : Nat} (hB : 2 ≤ B) (v : Nat) : v < B ^ (toD B v).length := by
  have h1 := val_lt (show (0 : Int) < (B : Int) by omega) (toD_dig hB v)
  rw [val_toD hB, pow_cast] at h1
  omega
theorem toD_len_iff {B : Nat} (hB : 2 ≤ B) (v n : Nat) : (toD B v).length ≤ n ↔ v < B ^ n :=
  ⟨fun h => Nat.lt_of_lt_of_le (toD_lt_pow hB v) (Nat.pow_le_pow_right (by omega) h), toD_len_le hB⟩
def b64 : Nat := 18446744073709551616
def b16 : Nat := 65536
theorem b64_two : 2 ≤ b64 := by decide
theorem b16_two : 2 ≤ b16 := by decide
theorem b64_pow : b64 = b16 ^ 4 := by decide
def num (l : List Int) : Nat := (val (b64 : Int) l).toNat
def num16 (l : List Int) : Nat := (val (b16 : Int) l).toNat
abbrev limbs (v : Nat) : List Int := toD b64 v
abbrev digs (v : Nat) : List Int := toD b16 v
theorem b64_pos : (0 : Int) < (b64 : Int) := by decide
theorem b16_pos : (0 : Int) < (b16 : Int) := by decide
theorem num_val {l : List Int} (h : Dig (b64 : Int) l) : (num l : Int) = val (b64 : Int) l := by
  have := val_nonneg b64_pos h
  unfold num; omega
theorem num16_val {l : List Int} (h : Dig (b16 : Int) l) : (num16 l : Int) = val (b16 : Int) l := by
  have := val_nonneg b16_pos h
  unfold num16; omega
theorem num_limbs (v : Nat) : num (limbs v) = v := by unfold num limbs; rw [val_toD b64_two]; omega
theorem num16_digs (v : Nat) : num16 (digs v) = v := by unfold num16 digs; rw [val_toD b16_two]; omega
theorem limbs_num {l : List Int} (h : Dig (b64 : Int) l) (hc : Can l) : limbs (num l) = l := (can_toD b64_two h hc).symm
theorem digs_num {l : List Int} (h : Dig (b16 : Int) l) (hc : Can l) : digs (num16 l) = l := (can_toD b16_two h hc).symm
theorem strip_limbs {l : List Int} (h : Dig (b64 : Int) l) : strip l = limbs (num l) := strip_toD b64_two h
theorem strip_digs {l : List Int} (h : Dig (b16 : Int) l) : strip l = digs (num16 l) := strip_toD b16_two h
theorem num_lt {l : List Int} (h : Dig (b64 : Int) l) : num l < b64 ^ l.length := by
  have h1 := val_lt b64_pos h
  rw [← num_val h, pow_cast] at h1
  omega
theorem num16_nil : num16 [] = 0 := rfl
def thousand : Nat := 1000
def lim : Nat := b64 ^ thousand
theorem lim_pow {n : Nat} (h : n ≤ 1000) : b64 ^ n ≤ lim := Nat.pow_le_pow_right (by decide) (show n ≤ thousand from h)
theorem num_lt_lim {l : List Int} (h : Dig (b64 : Int) l) (hl : l.length ≤ 1000) : num l < lim := Nat.lt_of_lt_of_le (num_lt h) (lim_pow hl)
theorem digs_len {v : Nat} (hv : v < lim) : (digs v).length ≤ 4000 := by
  have h : lim = b16 ^ (4 * thousand) := by
    unfold lim
    rw [b64_pow, ← Nat.pow_mul]
  rw [h] at hv
  have h2 := toD_len_le b16_two hv
  exact Nat.le_trans h2 (by decide)
theorem b64_pow2 (m : Nat) : b64 ^ m = 2 ^ (64 * m) := by
  have h : b64 = 2 ^ 64 := by decide
  rw [h, ← Nat.pow_mul]
theorem pow2_le_b64 {n m : Nat} (h : n ≤ 64 * m) : 2 ^ n ≤ b64 ^ m := by
  rw [b64_pow2]
  exact Nat.pow_le_pow_right (by decide) h
theorem b64_le_pow2 {n m : Nat} (h : 64 * m ≤ n) : b64 ^ m ≤ 2 ^ n := by
  rw [b64_pow2]
  exact Nat.pow_le_pow_right (by decide) h
theorem num_lt_p {a : List Int} (da : Dig (b64 : Int) a) (ha : a.length ≤ 64) : num a < b64 ^ 64 := Nat.lt_of_lt_of_le (num_lt da) (Nat.pow_le_pow_right (show b64 > 0 by decide) ha)
def cmpN (x y : Nat) : Int := if x < y then -1 else if x = y then 0 else 1
def toldV (v : Nat) : List Int × Int := if v < b64 ^ 64 then (limbs v, 0) else ([], 4)
theorem limbs_long (v : Nat) : (limbs v).length ≤ 64 ↔ v < b64 ^ 64 := toD_len_iff b64_two v 64
theorem val_base (l : List Int) (hl : Dig (b64 : Int) l) : ∃ m, Dig (b16 : Int) m ∧ m.length = 4 * l.length ∧ val (b16 : Int) m = val (b64 : Int) l ∧ m = l.flatMap (fun x => [x % 65536, x / 65536 % 65536, x / 65536 / 65536 % 65536, x / 65536 / 65536 / 65536 % 65536]) := by
  induction l with
  | nil => exact ⟨[], Dig.nil, rfl, rfl, rfl⟩
  | cons d l ih =>
    have h1 := Dig.cons.1 hl
    obtain ⟨m, hm, hlen, hv, he⟩ := ih h1.2
    refine ⟨[d % 65536, d / 65536 % 65536, d / 65536 / 65536 % 65536, d / 65536 / 65536 / 65536 % 65536] ++ m, ?_, ?_, ?_, ?_⟩
    · refine Dig.append.2 ⟨?_, hm⟩
      intro x hx
      simp only [List.mem_cons, List.not_mem_nil, or_false] at hx
      simp only [b16]
      omega
    · simp only [List.length_append, List.length_cons, List.length_nil, hlen]; omega
    · rw [val_append, hv]
      have h2 := h1.1
      simp only [b64] at h2 ⊢
      simp only [val, b16, List.length_cons, List.length_nil]
      omega
    · simp only [List.flatMap_cons, ← he]
def bl (n : Nat) : Nat := if n = 0 then 0 else n.log2 + 1
theorem bl_zero : bl 0 = 0 := rfl
theorem bl_lt (n : Nat) : n < 2 ^ bl n := by
  unfold bl
  by_cases h : n = 0
  · subst h; decide
  · rw [if_neg h]; exact Nat.lt_log2_self
theorem bl_ge {n : Nat} (h : n ≠ 0) : 2 ^ (bl n - 1) ≤ n := by
  unfold bl
  rw [if_neg h, Nat.add_sub_cancel]
  exact Nat.log2_self_le h
theorem bl_pos {n : Nat} (h : n ≠ 0) : 0 < bl n := by unfold bl; rw [if_neg h]; omega
theorem bl_unique {n m : Nat} (h1 : n < 2 ^ m) (h2 : m = 0 ∨ 2 ^ (m - 1) ≤ n) : bl n = m := by
  by_cases h : n = 0
  · subst h
    rcases h2 with h2 | h2
    · rw [h2]; rfl
    · have := Nat.pow_pos (a := 2) (n := m - 1) (by decide)
      omega
  · have a1 := bl_lt n
    have a2 := bl_ge h
    have a3 := bl_pos h
    have hm : 0 < m := by
      by_cases e : m = 0
      · subst e; simp at h1; omega
      · omega
    have b1 : bl n - 1 < m := (Nat.pow_lt_pow_iff_right (a := 2) (by decide)).1 (by omega)
    have b2 : m - 1 < bl n := by
      rcases h2 with h2 | h2
      · omega
      · exact (Nat.pow_lt_pow_iff_right (a := 2) (by decide)).1 (by omega)
    omega
theorem bl_shift (n s : Nat) (h : n / 2 ^ s ≠ 0) : bl n = s + bl (n / 2 ^ s) := by
  have a1 := bl_lt (n / 2 ^ s)
  have a2 := bl_ge h
  have a3 := bl_pos h
  have hp : 0 < 2 ^ s := Nat.pow_pos (by decide)
  refine bl_unique ?_ (Or.inr ?_)
  · rw [Nat.pow_add]
    have := Nat.lt_mul_of_div_lt a1 hp
    rw [Nat.mul_comm]
    exact this
  · rw [show s + bl (n / 2 ^ s) - 1 = s + (bl (n / 2 ^ s) - 1) from by omega, Nat.pow_add]
    have := Nat.mul_le_mul_left (2 ^ s) a2
    exact Nat.le_trans this (Nat.mul_div_le n (2 ^ s))
theorem bl_half {n : Nat} (h : n ≠ 0) : bl n = bl (n / 2) + 1 := by
  by_cases h1 : n / 2 = 0
  · have : n = 1 := by omega
    subst this
    decide
  · have := bl_shift n 1 (by simpa using h1)
    simp only [Nat.pow_one] at this
    omega
theorem bl_le {x m : Nat} (h : x < 2 ^ m) : bl x ≤ m := by
  by_cases hx : x = 0
  · subst hx; exact Nat.zero_le _
  · have a2 := bl_ge hx
    have a3 := bl_pos hx
    have : bl x - 1 < m := (Nat.pow_lt_pow_iff_right (a := 2) (by decide)).1 (by omega)
    omega
theorem bl_le8 {x : Nat} (h : x < 256) : bl x ≤ 8 := bl_le h
def bitsV (a : List Int) : Int := if rightB a = true ∧ a.length ≠ 0 then 64 * ((a.length : Int) - 1) + ((bl (a.getD (a.length - 1) 0).toNat : Nat) : Int) else 0
theorem mul_pow_lim {a : List Int} (da : Dig (b64 : Int) a) (ha : a.length ≤ 64) {n : Nat} (hn : n ≤ 4096) : num a * 2 ^ n < lim := by
  have h1 := num_lt_p da ha
  have h2 : 2 ^ n ≤ b64 ^ 64 := pow2_le_b64 (by omega)
  have h3 : num a * 2 ^ n ≤ num a * b64 ^ 64 := Nat.mul_le_mul_left _ h2
  have h4 : num a * b64 ^ 64 < b64 ^ 64 * b64 ^ 64 := Nat.mul_lt_mul_of_pos_right h1 (Nat.pow_pos (by decide))
  rw [← Nat.pow_add] at h4
  exact Nat.lt_of_le_of_lt h3 (Nat.lt_of_lt_of_le h4 (lim_pow (by omega)))
theorem pow2_lim {n : Nat} (hn : n ≤ 4096) : 2 ^ n * 65536 < lim := by
  have h2 : 2 ^ n ≤ b64 ^ 64 := pow2_le_b64 (by omega)
  have h3 : 2 ^ n * 65536 ≤ b64 ^ 64 * 65536 := Nat.mul_le_mul_right _ h2
  have h4 : b64 ^ 64 * 65536 < b64 ^ 64 * b64 := Nat.mul_lt_mul_of_pos_left (by decide) (Nat.pow_pos (by decide))
  have h5 : b64 ^ (64 + 1) ≤ lim := lim_pow (by omega)
  rw [Nat.pow_succ] at h5
  exact Nat.lt_of_le_of_lt h3 (Nat.lt_of_lt_of_le h4 h5)
end Go.Proofs.Ytlkinjhmgljapab.Z
end
section
namespace Go.Proofs.Ytlkinjhmgljapab.Z
open Go.RowKit Go.Proofs.Ytlkinjhmgljapab.F Go.Proofs.YtlkinjhmgljapabW.PrintWords
set_option linter.unusedSimpArgs false
set_option linter.unusedVariables false
theorem set_at {α : Type} (p : List α) (x v : α) (r : List α) : (p ++ x :: r).set p.length v = p ++ v :: r := by simp
theorem nat_trim_loop (l : List Int) (h : l.length ≤ maxLen) : ∀ n : Nat, n ≤ l.length → Evt (fun k => nat_trim.l0 k l (n : Int)) (strip (l.take n)) := by
  unfold maxLen at h
  intro n
  induction n with
  | zero =>
    intro _
    refine Evt.succ ?_
    simp only [nat_trim.l0]
    refine Evt.ite_neg (by omega) (Evt.ite_pos (by omega) (Evt.ite_pos (by omega) ?_))
    simp [strip]
    exact Evt.pure _
  | succ n ih =>
    intro hn
    refine Evt.succ ?_
    simp only [nat_trim.l0]
    rw [w64 (by omega) (by omega), show ((n + 1 : Nat) : Int) - 1 = (n : Int) from by omega]
    refine Evt.ite_pos (by omega) (Evt.ite_pos (by omega) (Evt.ite_pos (by omega) ?_))
    rw [rd_nat, List.take_succ_eq_append_getElem (show n < l.length by omega)]
    have hg : l.getD n 0 = l[n] := by simp [show n < l.length by omega]
    rw [hg]
    by_cases h0 : l[n] = 0
    · rw [h0, strip_snoc_zero]
      exact Evt.ite_pos rfl (ih (by omega))
    · rw [strip_snoc h0]
      refine Evt.ite_neg h0 (Evt.ite_pos (by omega) (Evt.ite_pos (by omega) ?_))
      rw [← List.take_succ_eq_append_getElem (show n < l.length by omega)]
      exact Evt.pure _
theorem nat_trim_ev (l : List Int) (h : l.length ≤ maxLen) : Evt (fun k => nat_trim.f k l) (strip l) := by
  have := nat_trim_loop l h l.length (Nat.le_refl _)
  exact this.congr (fun k => rfl) (by rw [List.take_length])
theorem nat_told_ev (l : List Int) (h : l.length ≤ 1000000) (d : Dig (b64 : Int) l) : Evt (fun k => nat_told.f k l) (toldV (num l)) := by
  unfold nat_told.f toldV
  refine Evt.bind (nat_trim_ev l (by simp [maxLen]; omega)) ?_
  rw [strip_limbs d]
  have hl := limbs_long (num l)
  by_cases h1 : num l < b64 ^ 64
  · rw [if_pos h1]
    have := hl.2 h1
    exact Evt.ite_neg (by omega) (Evt.pure _)
  · rw [if_neg h1]
    have : ¬ (limbs (num l)).length ≤ 64 := fun hh => h1 (hl.1 hh)
    exact Evt.ite_pos (by omega) (Evt.pure _)
theorem windbreakref01_cut_loop (l : List Int) (h : l.length ≤ maxLen) : ∀ n : Nat, n ≤ l.length → Evt (fun k => windbreakref01_cut.l0 k l (n : Int)) (strip (l.take n)) := by
  unfold maxLen at h
  intro n
  induction n with
  | zero =>
    intro _
    refine Evt.succ ?_
    simp only [windbreakref01_cut.l0]
    refine Evt.ite_neg (by omega) (Evt.ite_pos (by omega) (Evt.ite_pos (by omega) ?_))
    simp [strip]
    exact Evt.pure _
  | succ n ih =>
    intro hn
    refine Evt.succ ?_
    simp only [windbreakref01_cut.l0]
    rw [w64 (by omega) (by omega), show ((n + 1 : Nat) : Int) - 1 = (n : Int) from by omega]
    refine Evt.ite_pos (by omega) (Evt.ite_pos (by omega) (Evt.ite_pos (by omega) ?_))
    rw [rd_nat, List.take_succ_eq_append_getElem (show n < l.length by omega)]
    have hg : l.getD n 0 = l[n] := by simp [show n < l.length by omega]
    rw [hg]
    by_cases h0 : l[n] = 0
    · rw [h0, strip_snoc_zero]
      exact Evt.ite_pos rfl (ih (by omega))
    · rw [strip_snoc h0]
      refine Evt.ite_neg h0 (Evt.ite_pos (by omega) (Evt.ite_pos (by omega) ?_))
      rw [← List.take_succ_eq_append_getElem (show n < l.length by omega)]
      exact Evt.pure _
theorem windbreakref01_cut_ev (l : List Int) (h : l.length ≤ maxLen) : Evt (fun k => windbreakref01_cut.f k l) (strip l) := by
  have := windbreakref01_cut_loop l h l.length (Nat.le_refl _)
  exact this.congr (fun k => rfl) (by rw [List.take_length])
theorem nat_Right_eq {l : List Int} (h : l.length ≤ maxLen) : nat_Right.f l = some (rightB l) := by
  unfold maxLen at h
  unfold nat_Right.f rightB
  by_cases h1 : l.length ≤ 64
  · rw [if_pos (by omega)]
    by_cases h2 : l.length = 0
    · rw [if_pos (by omega)]
      simp [h1, h2]
    · rw [if_neg (by omega), w64 (by omega) (by omega), if_pos (by omega), if_pos (by omega), rd_getD]
      rw [show ((l.length : Int) - 1).toNat = l.length - 1 from by omega]
      have h3 : (l.length == 0) = false := by simpa using h2
      rw [h3]
      simp [h1]
  · rw [if_neg (by omega)]
    simp [h1]
theorem nat_right_eq (ls : List (List Int)) (h : ∀ l ∈ ls, l.length ≤ maxLen) : nat_right.f ls = some (ls.all rightB) := by
  induction ls with
  | nil => rfl
  | cons a ls ih =>
    simp only [nat_right.f]
    rw [nat_Right_eq (h a (by simp)), ih (fun l hl => h l (by simp [hl]))]
    simp only [Option.bind_some, List.all_cons]
    cases rightB a <;> simp
def cmpL (B : Int) (l m : List Int) : Int := if val B l < val B m then -1 else if val B l = val B m then 0 else 1
theorem val_take_succ (B : Int) (l : List Int) (i : Nat) (h : i < l.length) : val B (l.take (i + 1)) = val B (l.take i) + B ^ i * l[i] := by
  rw [List.take_succ_eq_append_getElem h, val_append]
  simp only [val, List.length_take]
  rw [show min i l.length = i from by omega, Int.mul_zero, Int.add_zero]
theorem cmp_step {B : Int} (hB : 0 < B) {l m : List Int} (hl : Dig B l) (hm : Dig B m) (i : Nat) (h1 : i < l.length) (h2 : i < m.length) :
    (l[i] < m[i] → cmpL B (l.take (i + 1)) (m.take (i + 1)) = -1) ∧ (m[i] < l[i] → cmpL B (l.take (i + 1)) (m.take (i + 1)) = 1) ∧ (l[i] = m[i] → cmpL B (l.take (i + 1)) (m.take (i + 1)) = cmpL B (l.take i) (m.take i)) := by
  have a1 := val_nonneg hB (hl.take i)
  have a2 := val_nonneg hB (hm.take i)
  have b1 := val_lt hB (hl.take i)
  have b2 := val_lt hB (hm.take i)
  rw [List.length_take, show min i l.length = i from by omega] at b1
  rw [List.length_take, show min i m.length = i from by omega] at b2
  have hp : 0 < B ^ i := Int.pow_pos hB
  unfold cmpL
  rw [val_take_succ B l i h1, val_take_succ B m i h2]
  refine ⟨fun h => ?_, fun h => ?_, fun h => ?_⟩
  · have h3 : B ^ i * (l[i] + 1) ≤ B ^ i * m[i] := Int.mul_le_mul_of_nonneg_left (by omega) (by omega)
    rw [Int.mul_add, Int.mul_one] at h3
    rw [if_pos (by omega)]
  · have h3 : B ^ i * (m[i] + 1) ≤ B ^ i * l[i] := Int.mul_le_mul_of_nonneg_left (by omega) (by omega)
    rw [Int.mul_add, Int.mul_one] at h3
    rw [if_neg (by omega), if_neg (by omega)]
  · rw [h]
    by_cases c1 : val B (l.take i) < val B (m.take i)
    · rw [if_pos c1, if_pos (by omega)]
    · by_cases c2 : val B (l.take i) = val B (m.take i)
      · rw [if_neg c1, if_pos c2, if_neg (by omega), if_pos (by omega)]
      · rw [if_neg c1, if_neg c2, if_neg (by omega), if_neg (by omega)]
theorem ref_compare_loop {B : Int} (hB : 0 < B) (l m : List Int) (hl : Dig B l) (hm : Dig B m) (hlen : l.length = m.length) (hb : l.length ≤ 1000000) : ∀ i : Nat, i ≤ l.length → Evt (fun k => windbreakref01_compare.l0 k l m ((i : Int) - 1)) (cmpL B (l.take i) (m.take i)) := by
  intro i
  induction i with
  | zero =>
    intro _
    refine Evt.succ ?_
    simp only [windbreakref01_compare.l0]
    refine Evt.ite_neg (by omega) ?_
    exact Evt.pure _
  | succ i ih =>
    intro hi
    have h1 : i < l.length := by omega
    have h2 : i < m.length := by omega
    obtain ⟨s1, s2, s3⟩ := cmp_step hB hl hm i h1 h2
    rw [show (((i + 1 : Nat) : Int) - 1) = (i : Int) from by omega]
    refine Evt.succ ?_
    simp only [windbreakref01_compare.l0]
    refine Evt.ite_pos (by omega) (Evt.ite_pos (by omega) (Evt.ite_pos (by omega) (Evt.ite_pos (by omega) ?_)))
    have e1 : rd l (i : Int) = l[i] := by simp [rd_nat, h1]
    have e2 : rd m (i : Int) = m[i] := by simp [rd_nat, h2]
    rw [e1, e2]
    by_cases c1 : l[i] < m[i]
    · rw [s1 c1]; exact Evt.ite_pos c1 (Evt.pure _)
    · by_cases c2 : m[i] < l[i]
      · rw [s2 c2]; exact Evt.ite_neg c1 (Evt.ite_pos c2 (Evt.pure _))
      · rw [s3 (by omega)]
        refine Evt.ite_neg c1 (Evt.ite_neg c2 ?_)
        rw [w64 (by omega) (by omega)]
        exact ih (by omega)
theorem ref_compare_any {B : Int} (hB : 0 < B) (l m : List Int) (hl : Dig B l) (hm : Dig B m) (cl : Can l) (cm : Can m) (hb : l.length ≤ 1000000) : Evt (fun k => windbreakref01_compare.f k l m) (cmpL B l m) := by
  unfold windbreakref01_compare.f
  by_cases hlen : l.length = m.length
  · refine Evt.ite_pos (by omega) ?_
    rw [w64 (by omega) (by omega)]
    have := ref_compare_loop hB l m hl hm hlen hb l.length (Nat.le_refl _)
    refine this.congr (fun k => rfl) ?_
    rw [List.take_length, hlen, List.take_length]
  · refine Evt.ite_neg (by omega) ?_
    by_cases h2 : l.length < m.length
    · have := val_lt_of_length hB hl hm cm h2
      have e : cmpL B l m = -1 := if_pos this
      rw [e]
      exact Evt.ite_pos (by omega) (Evt.pure _)
    · have := val_lt_of_length hB hm hl cl (by omega)
      have e : cmpL B l m = 1 := by unfold cmpL; rw [if_neg (by omega), if_neg (by omega)]
      rw [e]
      exact Evt.ite_neg (by omega) (Evt.pure _)
theorem ref_compare_ev (v w : Nat) (hv : v < lim) : Evt (fun k => windbreakref01_compare.f k (digs v) (digs w)) (cmpN v w) := by
  have hlen : (digs v).length ≤ 1000000 := Nat.le_trans (digs_len hv) (by omega)
  refine (ref_compare_any b16_pos _ _ (toD_dig b16_two v) (toD_dig b16_two w) (toD_can b16_two v) (toD_can b16_two w) hlen).congr (fun k => rfl) ?_
  unfold cmpL cmpN
  rw [val_toD b16_two, val_toD b16_two]
  simp only [Int.ofNat_lt, Int.natCast_inj]
theorem nat_compare_loop {B : Int} (hB : 0 < B) (l m : List Int) (hl : Dig B l) (hm : Dig B m) (hlen : l.length = m.length) (hb : l.length ≤ 1000000) : ∀ i : Nat, i ≤ l.length → Evt (fun k => nat_compare.l0 k l m ((i : Int) - 1)) (cmpL B (l.take i) (m.take i)) := by
  intro i
  induction i with
  | zero =>
    intro _
    refine Evt.succ ?_
    simp only [nat_compare.l0]
    refine Evt.ite_neg (by omega) ?_
    exact Evt.pure _
  | succ i ih =>
    intro hi
    have h1 : i < l.length := by omega
    have h2 : i < m.length := by omega
    obtain ⟨s1, s2, s3⟩ := cmp_step hB hl hm i h1 h2
    rw [show (((i + 1 : Nat) : Int) - 1) = (i : Int) from by omega]
    refine Evt.succ ?_
    simp only [nat_compare.l0]
    refine Evt.ite_pos (by omega) (Evt.ite_pos (by omega) (Evt.ite_pos (by omega) (Evt.ite_pos (by omega) ?_)))
    have e1 : rd l (i : Int) = l[i] := by simp [rd_nat, h1]
    have e2 : rd m (i : Int) = m[i] := by simp [rd_nat, h2]
    rw [e1, e2]
    by_cases c0 : l[i] = m[i]
    · rw [s3 c0]
      refine Evt.ite_pos c0 ?_
      rw [w64 (by omega) (by omega)]
      exact ih (by omega)
    · refine Evt.ite_neg c0 ?_
      by_cases c1 : l[i] < m[i]
      · rw [s1 c1]; exact Evt.ite_pos c1 (Evt.pure _)
      · rw [s2 (by omega)]; exact Evt.ite_neg c1 (Evt.pure _)
theorem nat_compare_any {B : Int} (hB : 0 < B) (l m : List Int) (hl : Dig B l) (hm : Dig B m) (cl : Can l) (cm : Can m) (hb : l.length ≤ 1000000) : Evt (fun k => nat_compare.f k l m) (cmpL B l m) := by
  unfold nat_compare.f
  by_cases hlen : l.length = m.length
  · refine Evt.ite_pos (by omega) ?_
    rw [w64 (by omega) (by omega)]
    have := nat_compare_loop hB l m hl hm hlen hb l.length (Nat.le_refl _)
    refine this.congr (fun k => rfl) ?_
    rw [List.take_length, hlen, List.take_length]
  · refine Evt.ite_neg (by omega) ?_
    by_cases h2 : l.length < m.length
    · have := val_lt_of_length hB hl hm cm h2
      have e : cmpL B l m = -1 := if_pos this
      rw [e]
      exact Evt.ite_pos (by omega) (Evt.pure _)
    · have := val_lt_of_length hB hm hl cl (by omega)
      have e : cmpL B l m = 1 := by unfold cmpL; rw [if_neg (by omega), if_neg (by omega)]
      rw [e]
      exact Evt.ite_neg (by omega) (Evt.pure _)
theorem nat_compare_ev (l m : List Int) (hl : Dig (b64 : Int) l) (hm : Dig (b64 : Int) m) (cl : Can l) (cm : Can m) (hb : l.length ≤ 1000000) : Evt (fun k => nat_compare.f k l m) (cmpN (num l) (num m)) := by
  refine (nat_compare_any b64_pos l m hl hm cl cm hb).congr (fun k => rfl) ?_
  unfold cmpL cmpN
  rw [← num_val hl, ← num_val hm]
  simp only [Int.ofNat_lt, Int.natCast_inj]
def cmpV (a b : List Int) : Int := if rightB a = true ∧ rightB b = true then cmpN (num a) (num b) else 0
theorem nat_Cmp_ev (a b : List Int) (ha : a.length ≤ maxLen) (hb : b.length ≤ maxLen) (da : Dig (b64 : Int) a) (db : Dig (b64 : Int) b) : Evt (fun k => nat_Cmp.f k a b) (cmpV a b) := by
  unfold nat_Cmp.f cmpV
  rw [nat_right_eq _ (by intro l hl; simp at hl; rcases hl with rfl | rfl <;> assumption)]
  simp only [Option.bind_some, List.all_cons, List.all_nil, Bool.and_true, Bool.and_eq_true]
  by_cases h : rightB a = true ∧ rightB b = true
  · rw [if_pos h]
    refine Evt.ite_pos h ?_
    obtain ⟨h1, c1⟩ := (rightB_iff a).1 h.1
    obtain ⟨h2, c2⟩ := (rightB_iff b).1 h.2
    exact Evt.bind (nat_compare_ev a b da db c1 c2 (by omega)) (h := fun t _ => some t) (Evt.pure _)
  · rw [if_neg h]
    exact Evt.ite_neg h (Evt.pure _)
theorem windbreakref01_Right_eq {l : List Int} (h : l.length ≤ maxLen) : windbreakref01_Right.f l = some (rightB l) := by
  unfold maxLen at h
  unfold windbreakref01_Right.f rightB
  by_cases h1 : l.length ≤ 64
  · rw [if_pos (by omega)]
    by_cases h2 : l.length = 0
    · rw [if_pos (by omega)]
      simp [h1, h2]
    · rw [if_neg (by omega), w64 (by omega) (by omega), if_pos (by omega), if_pos (by omega), rd_getD]
      rw [show ((l.length : Int) - 1).toNat = l.length - 1 from by omega]
      have h3 : (l.length == 0) = false := by simpa using h2
      rw [h3]
      simp [h1]
  · rw [if_neg (by omega)]
    simp [h1]
theorem ref_digit_eq (l : List Int) (i : Nat) : windbreakref01_digit.f l (i : Int) = some (l.getD i 0) := by
  unfold windbreakref01_digit.f
  by_cases h : i < l.length
  · rw [if_pos (by omega), if_pos (by omega), rd_nat]
  · rw [if_neg (by omega)]
    simp [List.getD_eq_getElem?_getD, List.getElem?_eq_none (by omega : l.length ≤ i)]
def subL : Nat → List Int → List Int → Int → List Int
  | 0, _, _, _ => []
  | n + 1, a, b, c => (65536 + a.getD 0 0 - b.getD 0 0 - c) % 65536 :: subL n (a.drop 1) (b.drop 1) (1 - (65536 + a.getD 0 0 - b.getD 0 0 - c) / 65536)
theorem val_headS (B : Int) (b : List Int) : val B b = b.getD 0 0 + B * val B (b.drop 1) := by
  cases b with
  | nil => simp [val]
  | cons y b => simp [val]
theorem subL_len (n : Nat) : ∀ (a b : List Int) (c : Int), (subL n a b c).length = n := by
  induction n with
  | zero => intro a b c; rfl
  | succ n ih => intro a b c; simp only [subL, List.length_cons, ih]
theorem subL_facts (n : Nat) : ∀ (a b : List Int) (c : Int), Dig (b16 : Int) a → Dig (b16 : Int) b → a.length ≤ n → b.length ≤ n → (c = 0 ∨ c = 1) →
    Dig (b16 : Int) (subL n a b c) ∧ ∃ t, 0 ≤ t ∧ val (b16 : Int) (subL n a b c) = val (b16 : Int) a - val (b16 : Int) b - c + (b16 : Int) ^ n * t := by
  induction n with
  | zero =>
    intro a b c _ _ ha hb hc
    have e1 : a = [] := List.length_eq_zero_iff.1 (by omega)
    have e2 : b = [] := List.length_eq_zero_iff.1 (by omega)
    subst e1 e2
    exact ⟨Dig.nil, c, by omega, by simp [subL, val]; omega⟩
  | succ n ih =>
    intro a b c da db ha hb hc
    have h1 := da.getD b16_pos 0
    have h2 := db.getD b16_pos 0
    simp only [b16] at h1 h2
    obtain ⟨i1, t, ht, i2⟩ := ih (a.drop 1) (b.drop 1) (1 - (65536 + a.getD 0 0 - b.getD 0 0 - c) / 65536) (da.drop 1) (db.drop 1) (by simp; omega) (by simp; omega) (by omega)
    refine ⟨Dig.cons.2 ⟨by simp only [b16]; omega, i1⟩, t, ht, ?_⟩
    rw [val_headS (b16 : Int) a, val_headS (b16 : Int) b]
    simp only [subL, val]
    rw [i2, Int.pow_succ]
    generalize (b16 : Int) ^ n = P at *
    simp only [b16]
    generalize val ((65536 : Nat) : Int) (a.drop 1) = va at *
    generalize val ((65536 : Nat) : Int) (b.drop 1) = vb at *
    have h3 : ((65536 : Nat) : Int) * (va - vb - (1 - (65536 + a.getD 0 0 - b.getD 0 0 - c) / 65536) + P * t) = 65536 * va - 65536 * vb - 65536 * (1 - (65536 + a.getD 0 0 - b.getD 0 0 - c) / 65536) + P * ((65536 : Nat) : Int) * t := by grind
    rw [h3]
    omega
theorem ref_sub_loop (a b : List Int) (da : Dig (b16 : Int) a) (db : Dig (b16 : Int) b) (ha : a.length ≤ 1000000) (n : Nat) : ∀ (i : Nat) (p : List Int) (c : Int), p.length = i → i ≤ a.length → a.length - i = n → (c = 0 ∨ c = 1) →
    Evt (fun k => windbreakref01_sub.l0 k a b p c (i : Int)) (strip (p ++ subL n (a.drop i) (b.drop i) c)) := by
  induction n with
  | zero =>
    intro i p c hp hi hn hc
    refine Evt.succ ?_
    simp only [windbreakref01_sub.l0]
    refine Evt.ite_neg (by omega) ?_
    simp only [subL, List.append_nil]
    exact Evt.bind (windbreakref01_cut_ev p (by simp [maxLen]; omega)) (h := fun t _ => some t) (Evt.pure _)
  | succ n ih =>
    intro i p c hp hi hn hc
    have hlt : i < a.length := by omega
    refine Evt.succ ?_
    simp only [windbreakref01_sub.l0]
    refine Evt.ite_pos (by omega) (Evt.ite_pos (by omega) ?_)
    rw [ref_digit_eq, rd_nat]
    simp only [Option.bind_some]
    refine Evt.ite_pos (by omega) ?_
    have h1 := da.getD b16_pos i
    have h2 := db.getD b16_pos i
    simp only [b16] at h1 h2
    rw [wu64_of (show 0 ≤ 65536 + a.getD i 0 by omega) (by omega), wu64_of (show 0 ≤ 65536 + a.getD i 0 - b.getD i 0 by omega) (by omega), wu64_of (show 0 ≤ 65536 + a.getD i 0 - b.getD i 0 - c by omega) (by omega)]
    rw [Int.tmod_eq_emod_of_nonneg (by omega), Int.tdiv_eq_ediv_of_nonneg (by omega), wu64_of (show 0 ≤ (65536 + a.getD i 0 - b.getD i 0 - c) / 65536 by omega) (by omega), wu64_of (by omega) (by omega), w64 (by omega) (by omega)]
    have e1 : (a.drop i).getD 0 0 = a.getD i 0 := by simp [List.getD_eq_getElem?_getD]
    have e2 : (b.drop i).getD 0 0 = b.getD i 0 := by simp [List.getD_eq_getElem?_getD]
    refine (ih (i + 1) (p ++ [(65536 + a.getD i 0 - b.getD i 0 - c) % 65536]) (1 - (65536 + a.getD i 0 - b.getD i 0 - c) / 65536) (by simp [hp]) (by omega) (by omega) (by omega)).congr (fun k => rfl) ?_
    simp only [subL, e1, e2, List.drop_drop, List.append_assoc, List.singleton_append]
theorem ref_sub_ev (v w : Nat) (hv : v < lim) (hle : w ≤ v) : Evt (fun k => windbreakref01_sub.f k (digs v) (digs w)) (digs (v - w)) := by
  have h1 := digs_len hv
  have d1 := toD_dig b16_two v
  have d2 := toD_dig b16_two w
  have hlen : (digs w).length ≤ (digs v).length := by
    rw [toD_len_iff b16_two]
    exact Nat.lt_of_le_of_lt hle (toD_lt_pow b16_two v)
  have h := ref_sub_loop (digs v) (digs w) d1 d2 (by omega) (digs v).length 0 [] 0 rfl (Nat.zero_le _) (by omega) (Or.inl rfl)
  refine h.congr (fun k => rfl) ?_
  obtain ⟨f1, t, ht, f2⟩ := subL_facts (digs v).length (digs v) (digs w) 0 d1 d2 (Nat.le_refl _) hlen (Or.inl rfl)
  rw [List.nil_append, List.drop_zero, List.drop_zero, strip_digs f1]
  rw [val_toD b16_two, val_toD b16_two, pow_cast] at f2
  have h4 := val_lt b16_pos f1
  rw [subL_len, pow_cast] at h4
  have ht0 : t = 0 := by
    by_cases e : t = 0
    · exact e
    · have h5 : ((b16 ^ (digs v).length : Nat) : Int) * 1 ≤ ((b16 ^ (digs v).length : Nat) : Int) * t := Int.mul_le_mul_of_nonneg_left (by omega) (by omega)
      omega
  subst ht0
  rw [Int.mul_zero] at f2
  unfold num16
  rw [f2]
  congr 1
  omega
theorem carry_of {c : Int} (h : c = 0 ∨ c = 1) : carry01 c = true := decide_eq_true h
def lessL : List Int → List Int → Int → List Int
  | [], _, _ => []
  | x :: a, b, c => sub64_s x (b.getD 0 0) c :: lessL a (b.drop 1) (sub64_c x (b.getD 0 0) c)
theorem sub64_facts {x y c : Int} (hx : 0 ≤ x ∧ x < (b64 : Int)) (hy : 0 ≤ y ∧ y < (b64 : Int)) (hc : c = 0 ∨ c = 1) :
    sub64_s x y c - (b64 : Int) * sub64_c x y c = x - y - c ∧ (0 ≤ sub64_s x y c ∧ sub64_s x y c < (b64 : Int)) ∧ (sub64_c x y c = 0 ∨ sub64_c x y c = 1) := by
  unfold sub64_s sub64_c
  simp only [b64] at *
  by_cases h : x.toNat < y.toNat + c.toNat
  · rw [if_pos h]; omega
  · rw [if_neg h]; omega
theorem lessL_len : ∀ (a b : List Int) (c : Int), (lessL a b c).length = a.length := by
  intro a
  induction a with
  | nil => intro b c; rfl
  | cons z x ih => intro b c; simp only [lessL, List.length_cons, ih]
theorem lessL_facts : ∀ (a b : List Int) (c : Int), Dig (b64 : Int) a → Dig (b64 : Int) b → b.length ≤ a.length → (c = 0 ∨ c = 1) →
    Dig (b64 : Int) (lessL a b c) ∧ ∃ t, 0 ≤ t ∧ val (b64 : Int) (lessL a b c) = val (b64 : Int) a - val (b64 : Int) b - c + (b64 : Int) ^ a.length * t := by
  intro a
  induction a with
  | nil =>
    intro b c _ _ hlen hc
    have : b = [] := List.length_eq_zero_iff.1 (by simpa using hlen)
    subst this
    exact ⟨Dig.nil, c, by omega, by simp [lessL, val]; omega⟩
  | cons x a ih =>
    intro b c da db hlen hc
    have d1 := Dig.cons.1 da
    have hy := db.getD b64_pos 0
    obtain ⟨e1, e2, e3⟩ := sub64_facts d1.1 hy hc
    obtain ⟨i1, t, ht, i2⟩ := ih (b.drop 1) _ d1.2 (db.drop 1) (by simp at hlen ⊢; omega) e3
    refine ⟨Dig.cons.2 ⟨e2, i1⟩, t, ht, ?_⟩
    simp only [lessL, val]
    rw [i2]
    have hb : val (b64 : Int) b = b.getD 0 0 + (b64 : Int) * val (b64 : Int) (b.drop 1) := by
      cases b with
      | nil => simp [val]
      | cons y b => simp [val]
    rw [hb]
    generalize (b64 : Int) = B at *
    generalize sub64_s x (b.getD 0 0) c = s at *
    generalize sub64_c x (b.getD 0 0) c = u at *
    generalize val B a = va at *
    generalize val B (b.drop 1) = vb at *
    generalize b.getD 0 0 = y at *
    rw [List.length_cons, Int.pow_succ]
    generalize B ^ a.length = P at *
    have h1 : B * (va - vb - u + P * t) = B * va - B * vb - B * u + P * B * t := by grind
    omega
theorem nat_less_l0 (a b : List Int) (ha : a.length ≤ 1000) (hb : b.length ≤ 1000) (da : Dig (b64 : Int) a) (db : Dig (b64 : Int) b) (n : Nat) : ∀ (i : Nat) (p : List Int) (c : Int), p.length = i → i ≤ a.length → a.length - i = n → (c = 0 ∨ c = 1) →
    Evt (fun k => nat_less.l0 k a b (p ++ List.replicate n 0) c (a.length : Int) (i : Int)) (p ++ lessL (a.drop i) (b.drop i) c) := by
  induction n with
  | zero =>
    intro i p c hp hi hn hc
    refine Evt.succ ?_
    simp only [nat_less.l0]
    refine Evt.ite_neg (by omega) ?_
    rw [List.drop_of_length_le (show a.length ≤ i by omega)]
    simp only [lessL, List.replicate_zero]
    exact Evt.pure _
  | succ n ih =>
    intro i p c hp hi hn hc
    have hlt : i < a.length := by omega
    refine Evt.succ ?_
    simp only [nat_less.l0]
    refine Evt.ite_pos (by omega) ?_
    have hx : rd a (i : Int) = a[i] := by simp [rd_nat, hlt]
    have hxr := da a[i] (List.getElem_mem hlt)
    have hset : ∀ v : Int, (p ++ List.replicate (n + 1) 0).set ((i : Int)).toNat v = (p ++ [v]) ++ List.replicate n 0 := by
      intro v
      rw [show ((i : Int)).toNat = p.length from by omega, List.replicate_succ, set_at, List.append_assoc]
      rfl
    have hyr := (db.drop i).getD b64_pos 0
    have hfin : ∀ y : Int, y = (b.drop i).getD 0 0 → Evt (fun k => nat_less.l0 k a b ((p ++ List.replicate (n + 1) 0).set ((i : Int)).toNat (sub64_s (rd a (i : Int)) y c)) (sub64_c (rd a (i : Int)) y c) (a.length : Int) (wrap64 ((i : Int) + 1))) (p ++ lessL (a.drop i) (b.drop i) c) := by
      intro y hy
      subst hy
      obtain ⟨e1, e2, e3⟩ := sub64_facts hxr hyr hc
      rw [hx, hset, w64 (by omega) (by omega)]
      have h := ih (i + 1) (p ++ [sub64_s a[i] ((b.drop i).getD 0 0) c]) (sub64_c a[i] ((b.drop i).getD 0 0) c) (by simp [hp]) (by omega) (by omega) e3
      refine h.congr (fun k => rfl) ?_
      rw [List.drop_eq_getElem_cons hlt]
      simp only [lessL, List.drop_drop, List.append_assoc, List.singleton_append]
    by_cases hib : i < b.length
    · refine Evt.ite_pos (by omega) (Evt.ite_pos (by omega) (Evt.ite_pos (by omega) (Evt.ite_pos (carry_of hc) (Evt.ite_pos (by simp; omega) ?_))))
      refine hfin _ ?_
      simp [rd_nat, hib]
    · refine Evt.ite_neg (by omega) (Evt.ite_pos (by omega) (Evt.ite_pos (by omega) (Evt.ite_pos (carry_of hc) (Evt.ite_pos (by simp; omega) ?_))))
      refine hfin _ ?_
      simp [List.drop_of_length_le (show b.length ≤ i by omega)]
theorem nat_less_ev (a b : List Int) (ha : a.length ≤ 1000) (hb : b.length ≤ a.length) (da : Dig (b64 : Int) a) (db : Dig (b64 : Int) b) (hle : num b ≤ num a) : ∃ s, Evt (fun k => nat_less.f k a b) s ∧ Dig (b64 : Int) s ∧ num s = num a - num b ∧ s.length = a.length := by
  refine ⟨lessL a b 0, ?_, ?_⟩
  · unfold nat_less.f
    refine Evt.ite_pos (by omega) (Evt.ite_pos (by omega) ?_)
    have h := nat_less_l0 a b ha (by omega) da db a.length 0 [] 0 rfl (Nat.zero_le _) (by omega) (Or.inl rfl)
    exact h.congr (fun k => by simp) (by simp)
  · obtain ⟨f1, t, ht, f2⟩ := lessL_facts a b 0 da db hb (Or.inl rfl)
    refine ⟨f1, ?_, lessL_len a b 0⟩
    have h1 := num_val f1
    have h2 := num_val da
    have h3 := num_val db
    have h4 := num_lt f1
    rw [lessL_len] at h4
    rw [pow_cast] at f2
    have ht0 : t = 0 := by
      by_cases e : t = 0
      · exact e
      · have h5 : ((b64 ^ a.length : Nat) : Int) * 1 ≤ ((b64 ^ a.length : Nat) : Int) * t := Int.mul_le_mul_of_nonneg_left (by omega) (by omega)
        omega
    subst ht0
    rw [Int.mul_zero] at f2
    omega
def subV (a b : List Int) : List Int × Int := if rightB a = true ∧ rightB b = true then (if num a < num b then ([], 2) else (limbs (num a - num b), 0)) else ([], 1)
theorem len_of_num_le {a b : List Int} (da : Dig (b64 : Int) a) (db : Dig (b64 : Int) b) (ca : Can a) (cb : Can b) (h : num b ≤ num a) : b.length ≤ a.length := by
  by_cases hl : b.length ≤ a.length
  · exact hl
  · have := val_lt_of_length b64_pos da db cb (by omega)
    rw [← num_val da, ← num_val db] at this
    omega
theorem toldV_small {v : Nat} (h : v < b64 ^ 64) : toldV v = (limbs v, 0) := if_pos h
theorem nat_Sub_ev (a b : List Int) (ha : a.length ≤ maxLen) (hb : b.length ≤ maxLen) (da : Dig (b64 : Int) a) (db : Dig (b64 : Int) b) : Evt (fun k => nat_Sub.f k a b) (subV a b) := by
  unfold nat_Sub.f subV
  rw [nat_right_eq _ (by intro l hl; simp at hl; rcases hl with rfl | rfl <;> assumption)]
  simp only [Option.bind_some, List.all_cons, List.all_nil, Bool.and_true, Bool.and_eq_true]
  by_cases h : rightB a = true ∧ rightB b = true
  · rw [if_pos h]
    refine Evt.ite_pos h ?_
    obtain ⟨h1, c1⟩ := (rightB_iff a).1 h.1
    obtain ⟨h2, c2⟩ := (rightB_iff b).1 h.2
    refine Evt.bind (nat_compare_ev a b da db c1 c2 (by omega)) ?_
    by_cases hlt : num a < num b
    · have e : cmpN (num a) (num b) = -1 := if_pos hlt
      rw [e, if_pos hlt]
      exact Evt.ite_pos (by omega) (Evt.pure _)
    · have e : ¬ cmpN (num a) (num b) < 0 := by
        unfold cmpN
        rw [if_neg hlt]
        by_cases e2 : num a = num b
        · rw [if_pos e2]; omega
        · rw [if_neg e2]; omega
      rw [if_neg hlt]
      refine Evt.ite_neg e ?_
      obtain ⟨s, e1, e2, e3, e4⟩ := nat_less_ev a b (by omega) (len_of_num_le da db c1 c2 (by omega)) da db (by omega)
      refine Evt.bind e1 ?_
      have n1 : num a - num b < b64 ^ 64 := by
        have := num_lt_p da h1
        omega
      have h5 := nat_told_ev s (by omega) e2
      rw [e3, toldV_small n1] at h5
      exact Evt.bind h5 (h := fun t _ => some (t.1, t.2)) (Evt.pure _)
  · rw [if_neg h]
    exact Evt.ite_neg h (Evt.pure _)
theorem nat_Of_ev (n : Int) : Evt (fun k => nat_Of.f k n) (strip [n]) := by
  refine (Evt.bind (nat_trim_ev [n] (by simp [maxLen])) (h := fun t _ => some t) (Evt.pure _)).congr (fun k => rfl) rfl
theorem nat_Small_ev (l : List Int) (h : l.length ≤ maxLen) : Evt (fun k => nat_Small.f k l) (smallV l) := by
  unfold nat_Small.f smallV
  rw [nat_Right_eq h]
  simp only [Option.bind_some]
  have J : ∀ x : Bool, Evt (fun k => nat_Small.j0 k l x) (if x = true then (0, false) else (l.getD 0 0, true)) := by
    intro x
    refine Evt.succ ?_
    simp only [nat_Small.j0]
    refine Evt.cond (fun _ => Evt.pure _) (fun _ => ?_)
    by_cases h0 : l.length = 0
    · refine Evt.ite_pos (by omega) ?_
      rw [List.length_eq_zero_iff.1 h0]
      exact Evt.pure _
    · exact Evt.ite_neg (by omega) (Evt.ite_pos (by omega) (Evt.pure _))
  cases hr : rightB l with
  | true =>
    refine Evt.ite_pos rfl ?_
    refine (J _).congr (fun k => rfl) ?_
    by_cases h1 : l.length ≤ 1
    · rw [if_neg (by simp; omega), if_pos ⟨rfl, h1⟩]
    · rw [if_pos (by simp; omega), if_neg (fun h => h1 h.2)]
  | false =>
    refine Evt.ite_neg (by simp) ?_
    refine (J _).congr (fun k => rfl) ?_
    simp
theorem ref_Of_eq (n : Int) : windbreakref01_Of.f n = some (strip [n]) := by
  unfold windbreakref01_Of.f
  by_cases h : n = 0
  · simp [h, strip]
  · simp [h, strip]
theorem windbreakref01_Small_ev (l : List Int) (h : l.length ≤ maxLen) : Evt (fun k => windbreakref01_Small.f k l) (smallV l) := by
  unfold windbreakref01_Small.f smallV
  rw [windbreakref01_Right_eq h]
  simp only [Option.bind_some]
  have J : ∀ x : Bool, Evt (fun k => windbreakref01_Small.j0 k l x) (if x = true then (0, false) else (l.getD 0 0, true)) := by
    intro x
    refine Evt.succ ?_
    simp only [windbreakref01_Small.j0]
    refine Evt.cond (fun _ => Evt.pure _) (fun _ => ?_)
    by_cases h0 : l.length = 0
    · refine Evt.ite_pos (by omega) ?_
      rw [List.length_eq_zero_iff.1 h0]
      exact Evt.pure _
    · exact Evt.ite_neg (by omega) (Evt.ite_pos (by omega) (Evt.pure _))
  cases hr : rightB l with
  | true =>
    refine Evt.ite_pos rfl ?_
    refine (J _).congr (fun k => rfl) ?_
    by_cases h1 : l.length ≤ 1
    · rw [if_neg (by simp; omega), if_pos ⟨rfl, h1⟩]
    · rw [if_pos (by simp; omega), if_neg (fun h => h1 h.2)]
  | false =>
    refine Evt.ite_neg (by simp) ?_
    refine (J _).congr (fun k => rfl) ?_
    simp
end Go.Proofs.Ytlkinjhmgljapab.Z
end
section
namespace Go.Proofs.Ytlkinjhmgljapab.Z
open Go.RowKit Go.Proofs.Ytlkinjhmgljapab.F Go.Proofs.YtlkinjhmgljapabW.PrintWords Go.Proofs.YtlkinjhmgljapabW.PrintMore
set_option linter.unusedSimpArgs false
set_option linter.unusedVariables false
theorem val_set (B : Int) (l : List Int) : ∀ (i : Nat) (v : Int), i < l.length → val B (l.set i v) = val B l + B ^ i * (v - l.getD i 0) := by
  induction l with
  | nil => intro i v h; simp at h
  | cons d l ih =>
    intro i v h
    cases i with
    | zero => simp [val]; omega
    | succ i =>
      have h2 := ih i v (by simpa using h)
      simp only [List.set_cons_succ, val, h2, Int.pow_succ, List.getD_cons_succ]
      generalize l.getD i 0 = y
      generalize B ^ i = P
      generalize val B l = V
      grind
theorem getD_append_left {l m : List Int} {i : Nat} (h : i < l.length) : (l ++ m).getD i 0 = l.getD i 0 := by
  simp [List.getD_eq_getElem?_getD, List.getElem?_append_left h]
theorem set_append_left {l m : List Int} {i : Nat} {v : Int} (h : i < l.length) : (l ++ m).set i v = l.set i v ++ m := by
  rw [List.set_append, if_pos h]
theorem val_take_step (B : Int) (l : List Int) (i : Nat) (h : i < l.length) : val B (l.take (i + 1)) = val B (l.take i) + B ^ i * l[i] := by
  rw [List.take_succ_eq_append_getElem h, val_append]
  simp only [val, List.length_take]
  rw [show min i l.length = i from by omega, Int.mul_zero, Int.add_zero]
theorem wraps_u64 (n : Int) (h0 : 0 ≤ n) (h1 : n < 2 ^ 64) : IntKind.u64.wrap n = n := wu64_of h0 (by omega)
theorem or_u64 {x y : Int} (s : Nat) (hs : s ≤ 64) (hx0 : 0 ≤ x) (hx : x % 2 ^ s = 0) (hx1 : x < 18446744073709551616) (hy0 : 0 ≤ y) (hy : y < 2 ^ s) : Go.bits .or .u64 x y = x + y := by
  have h2 : (2 : Int) ^ s ≤ 2 ^ 64 := pow_mono (by omega) hs
  exact bits_join .u64 64 (by decide) wraps_u64 s x y hx0 hx (by omega) hy0 hy (by omega)
theorem or_comm_u64 {x y : Int} (hx0 : 0 ≤ x) (hx1 : x < 18446744073709551616) (hy0 : 0 ≤ y) (hy1 : y < 18446744073709551616) : Go.bits .or .u64 x y = Go.bits .or .u64 y x := by
  obtain ⟨a, rfl⟩ := Int.eq_ofNat_of_zero_le hx0
  obtain ⟨b, rfl⟩ := Int.eq_ofNat_of_zero_le hy0
  rw [(bits_nat .u64 64 (by decide) wraps_u64 a b (by omega) (by omega)).2, (bits_nat .u64 64 (by decide) wraps_u64 b a (by omega) (by omega)).2, Nat.or_comm]
theorem shl_u64 (x : Int) (s : Nat) (hs : s ≤ 64) : shl .u64 x (s : Int) = (x * 2 ^ s) % 18446744073709551616 := by
  unfold shl
  rw [wu64]
  simp only [IntKind.bits, Int.toNat_natCast]
  rw [show min s 64 = s from by omega]
theorem pow2_pos (s : Nat) : (0 : Int) < 2 ^ s := Int.pow_pos (by omega)
end Go.Proofs.Ytlkinjhmgljapab.Z
end
section
namespace Go.Proofs.Ytlkinjhmgljapab.Z
open Go.RowKit Go.Proofs.YtlkinjhmgljapabW.PrintWords
set_option linter.unusedSimpArgs false
set_option linter.unusedVariables false
def b8 : Nat := 256
theorem b8_pos : (0 : Int) < (b8 : Int) := by decide
theorem b8_pow2 (m : Nat) : b8 ^ m = 2 ^ (8 * m) := by
  have h : b8 = 2 ^ 8 := by decide
  rw [h, ← Nat.pow_mul]
theorem toD_getD {B : Nat} (hB : 2 ≤ B) (i : Nat) : ∀ v : Nat, (toD B v).getD i 0 = ((v / B ^ i % B : Nat) : Int) := by
  induction i with
  | zero =>
    intro v
    by_cases hv : v = 0
    · subst hv; rw [toD_zero]; simp
    · rw [toD_pos hB (by omega)]; simp
  | succ i ih =>
    intro v
    by_cases hv : v = 0
    · subst hv; rw [toD_zero]; simp
    · rw [toD_pos hB (by omega), List.getD_cons_succ, ih, Nat.div_div_eq_div_mul, Nat.pow_succ, Nat.mul_comm (B ^ i)]
theorem limb_at {a : List Int} (da : Dig (b64 : Int) a) (ca : Can a) (i : Nat) : a.getD i 0 = ((num a / b64 ^ i % b64 : Nat) : Int) := by
  have h := toD_getD b64_two i (num a)
  rw [show toD b64 (num a) = a from limbs_num da ca] at h
  exact h
theorem can_last {a : List Int} (ca : Can a) (h0 : a.length ≠ 0) : a.getD (a.length - 1) 0 ≠ 0 := by
  have h : a ≠ [] := fun e => h0 (by rw [e]; rfl)
  have h2 := ca h
  rw [List.getLast_eq_getElem] at h2
  rw [List.getD_eq_getElem?_getD, List.getElem?_eq_getElem (show a.length - 1 < a.length by omega)]
  exact h2
theorem bitsV_bl {a : List Int} (da : Dig (b64 : Int) a) (hA : rightB a = true) : bitsV a = ((bl (num a) : Nat) : Int) := by
  obtain ⟨h1, ca⟩ := (rightB_iff a).1 hA
  unfold bitsV
  by_cases h0 : a.length = 0
  · rw [if_neg (fun h => h.2 h0)]
    have e : a = [] := List.length_eq_zero_iff.1 h0
    subst e
    rfl
  · rw [if_pos ⟨hA, h0⟩]
    have e := limb_at da ca (a.length - 1)
    have hlt := num_lt da
    have hne := can_last ca h0
    have hl : num a / b64 ^ (a.length - 1) < b64 := by
      apply Nat.div_lt_of_lt_mul
      rw [← Nat.pow_succ, show (a.length - 1).succ = a.length from by omega]
      exact hlt
    rw [Nat.mod_eq_of_lt hl] at e
    rw [e] at hne ⊢
    rw [b64_pow2] at hne ⊢
    have h2 := bl_shift (num a) (64 * (a.length - 1)) (fun hh => hne (by rw [hh]; rfl))
    rw [h2, Int.toNat_natCast]
    omega
theorem tdiv_nat (i : Nat) (c : Nat) : Int.tdiv (i : Int) (c : Int) = ((i / c : Nat) : Int) := by
  rw [Int.tdiv_eq_ediv_of_nonneg (by omega)]; simp
theorem tmod_nat (i : Nat) (c : Nat) : Int.tmod (i : Int) (c : Int) = ((i % c : Nat) : Int) := by
  rw [Int.tmod_eq_emod_of_nonneg (by omega)]; simp
def readV (b : List Int) : List Int × Int := if b.length > 512 then ([], 4) else (limbs (val (b8 : Int) b.reverse).toNat, 0)
theorem val_b8_lt {b : List Int} (h : Dig (b8 : Int) b) (hl : b.length ≤ 512) : (val (b8 : Int) b.reverse).toNat < b64 ^ 64 := by
  have h1 : Dig (b8 : Int) b.reverse := fun x hx => h x (List.mem_reverse.1 hx)
  have h2 := val_lt b8_pos h1
  have h3 := val_nonneg b8_pos h1
  rw [pow_cast, List.length_reverse] at h2
  have h4 : b8 ^ b.length ≤ b64 ^ 64 := by
    rw [b8_pow2]
    exact pow2_le_b64 (by omega)
  omega
theorem right_one {x : Int} (h : x ≠ 0) : rightB [x] = true := (rightB_iff _).2 ⟨by simp, Can.one h⟩
theorem right_limbs' {v : Nat} (h : v < b64 ^ 64) : rightB (limbs v) = true := (rightB_iff _).2 ⟨(limbs_long v).2 h, toD_can b64_two v⟩
theorem dig_limbs' (v : Nat) : Dig (b64 : Int) (limbs v) := toD_dig b64_two v
theorem limbs_le64 {v : Nat} (h : v < b64 ^ 64) : (limbs v).length ≤ 64 := (limbs_long v).2 h
theorem num_zero_iff {b : List Int} (db : Dig (b64 : Int) b) (cb : Can b) : num b = 0 ↔ b.length = 0 := by
  constructor
  · intro h
    have := limbs_num db cb
    rw [h] at this
    rw [← this, show limbs 0 = [] from toD_zero b64]
    rfl
  · intro h
    rw [List.eq_nil_of_length_eq_zero h]
    rfl
theorem lz : limbs 0 = [] := toD_zero b64
theorem lz_iff (m : Nat) : (limbs m).length = 0 ↔ m = 0 := by
  constructor
  · intro h
    have h1 := num_limbs m
    rw [List.eq_nil_of_length_eq_zero h] at h1
    rw [← h1]; rfl
  · rintro rfl
    rw [lz]; rfl
theorem lmax {m : Nat} (h : m < b64 ^ 64) : (limbs m).length ≤ maxLen := by
  have := limbs_le64 h
  simp only [maxLen]
  omega
theorem limbs_one {m : Nat} (h0 : m ≠ 0) (h : m < b64) : limbs m = [(m : Int)] := by
  unfold limbs
  rw [toD_pos b64_two (by omega), Nat.mod_eq_of_lt h, Nat.div_eq_of_lt h, toD_zero]
end Go.Proofs.Ytlkinjhmgljapab.Z
end
section
namespace Go.Proofs.Ytlkinjhmgljapab.Z
open Go.RowKit Go.Proofs.Ytlkinjhmgljapab.F Go.Proofs.YtlkinjhmgljapabW.PrintWords
set_option linter.unusedSimpArgs false
set_option linter.unusedVariables false
theorem pow_b64_b8 (q r : Nat) : (b64 : Int) ^ q * 2 ^ (8 * r) = (b8 : Int) ^ (8 * q + r) := by
  rw [pow_cast, pow_cast, show (2 : Int) ^ (8 * r) = ((2 ^ (8 * r) : Nat) : Int) from by simp, ← Int.natCast_mul]
  congr 1
  rw [b64_pow2, b8_pow2, ← Nat.pow_add]
  congr 1
  omega
def room (i j : Nat) : Int := 2 ^ (8 * min 8 (i - 8 * j))
theorem room_mono (i j : Nat) : room i j ≤ room (i + 1) j := pow_mono (by omega) (by omega)
theorem room_max (i j : Nat) : room i j ≤ 18446744073709551616 := by
  have h : (2 : Int) ^ (8 * min 8 (i - 8 * j)) ≤ 2 ^ 64 := pow_mono (by omega) (by omega)
  exact h
theorem nat_Read_loop (b : List Int) (hb : b.length ≤ 512) (db : Dig (b8 : Int) b) {r : List Int × Int} (n : Nat) : ∀ (i : Nat) (out : List Int), i ≤ b.length → b.length - i = n → out.length = (b.length + 7) / 8 →
    (∀ j : Nat, 0 ≤ out.getD j 0 ∧ out.getD j 0 < room i j) → val (b64 : Int) out = val (b8 : Int) (b.reverse.take i) →
    (∀ o : List Int, o.length = (b.length + 7) / 8 → Dig (b64 : Int) o → val (b64 : Int) o = val (b8 : Int) b.reverse → Evt (fun k => (nat_told.f k o).bind fun t => some (t.1, t.2)) r) →
    Evt (fun k => nat_Read.l0 k b out (b.length : Int) (i : Int)) r := by
  induction n with
  | zero =>
    intro i out hi hn hl hj hv fin
    refine Evt.succ ?_
    simp only [nat_Read.l0]
    refine Evt.ite_neg (by omega) ?_
    rw [List.take_of_length_le (by simp; omega)] at hv
    refine fin out hl (fun x hx => ?_) hv
    obtain ⟨j, hj1, rfl⟩ := List.getElem_of_mem hx
    have h1 := hj j
    have h2 := room_max i j
    rw [List.getD_eq_getElem?_getD, List.getElem?_eq_getElem hj1] at h1
    simp only [Option.getD_some] at h1
    simp only [b64]
    omega
  | succ n ih =>
    intro i out hi hn hl hj hv fin
    have hlt : i < b.length := by omega
    refine Evt.succ ?_
    simp only [nat_Read.l0]
    have e1 : wrap64 (Int.tdiv (i : Int) 8) = ((i / 8 : Nat) : Int) := by
      rw [show (8 : Int) = ((8 : Nat) : Int) from rfl, tdiv_nat]
      exact w64 (by omega) (by omega)
    have e2 : wrap64 (8 * Int.tmod (i : Int) 8) = ((8 * (i % 8) : Nat) : Int) := by
      rw [show Int.tmod (i : Int) 8 = Int.tmod (i : Int) ((8 : Nat) : Int) from rfl, tmod_nat, w64 (by omega) (by omega)]
      omega
    have e3 : wrap64 (wrap64 ((b.length : Int) - 1) - (i : Int)) = ((b.length - 1 - i : Nat) : Int) := by
      rw [w64 (show -9223372036854775808 ≤ (b.length : Int) - 1 by omega) (by omega), w64 (by omega) (by omega)]
      omega
    rw [e1, e2, e3, w64 (show -9223372036854775808 ≤ (i : Int) + 1 by omega) (by omega)]
    refine Evt.ite_pos (by omega) (Evt.ite_pos (by omega) (Evt.ite_pos (by omega) (Evt.ite_pos (by omega) (Evt.ite_pos (by omega) ?_))))
    have hx := db.getD b8_pos (b.length - 1 - i)
    have hR : b.reverse[i]'(by simp; omega) = b.getD (b.length - 1 - i) 0 := by
      rw [List.getElem_reverse, List.getD_eq_getElem?_getD, List.getElem?_eq_getElem (show b.length - 1 - i < b.length by omega)]
      rfl
    have ho := hj (i / 8)
    rw [rd_nat, rd_nat, Int.toNat_natCast]
    generalize hxx : b.getD (b.length - 1 - i) 0 = x at *
    simp only [b8] at hx
    have hs : (2 : Int) ^ (8 * (i % 8)) * 256 ≤ 18446744073709551616 := by
      have h : (2 : Int) ^ (8 * (i % 8) + 8) ≤ 2 ^ 64 := pow_mono (by omega) (by omega)
      rw [Int.pow_add] at h
      exact h
    have hp := pow2_pos (8 * (i % 8))
    have hr0 : room i (i / 8) = 2 ^ (8 * (i % 8)) := by
      unfold room
      rw [show min 8 (i - 8 * (i / 8)) = i % 8 from by omega]
    have hr1 : room (i + 1) (i / 8) = 2 ^ (8 * (i % 8)) * 256 := by
      unfold room
      rw [show 8 * min 8 (i + 1 - 8 * (i / 8)) = 8 * (i % 8) + 8 from by omega, Int.pow_add]
      rfl
    rw [hr0] at ho
    have hxm : x * 2 ^ (8 * (i % 8)) ≤ 255 * 2 ^ (8 * (i % 8)) := Int.mul_le_mul_of_nonneg_right (by omega) (by omega)
    have hx0 : 0 ≤ x * 2 ^ (8 * (i % 8)) := Int.mul_nonneg hx.1 (by omega)
    have hmod : (x * 2 ^ (8 * (i % 8))) % 2 ^ (8 * (i % 8)) = 0 := Int.mul_emod_left _ _
    rw [wu64_of hx.1 (by omega), shl_u64 _ _ (by omega), Int.emod_eq_of_lt hx0 (by omega)]
    have hor : Go.bits .or .u64 (out.getD (i / 8) 0) (x * 2 ^ (8 * (i % 8))) = out.getD (i / 8) 0 + x * 2 ^ (8 * (i % 8)) := by
      rw [or_comm_u64 ho.1 (by omega) hx0 (by omega), or_u64 (8 * (i % 8)) (by omega) hx0 hmod (by omega) ho.1 ho.2, Int.add_comm]
    rw [hor]
    refine ih (i + 1) (out.set (i / 8) (out.getD (i / 8) 0 + x * 2 ^ (8 * (i % 8)))) hlt (by omega) (by simp; exact hl) (fun j => ?_) ?_ fin
    · by_cases hji : j = i / 8
      · subst hji
        rw [List.getD_eq_getElem?_getD, List.getElem?_set_self (by omega)]
        simp only [Option.getD_some]
        rw [hr1]
        omega
      · have h1 := hj j
        have h2 := room_mono i j
        rw [List.getD_eq_getElem?_getD] at h1 ⊢
        rw [List.getElem?_set_ne (by omega)]
        omega
    · rw [val_set _ _ _ _ (by omega), hv, val_take_step _ _ _ (by simp; omega), hR]
      have h3 := pow_b64_b8 (i / 8) (i % 8)
      rw [show 8 * (i / 8) + i % 8 = i from by omega] at h3
      rw [← h3]
      generalize out.getD (i / 8) 0 = o
      generalize (b64 : Int) ^ (i / 8) = P
      generalize (2 : Int) ^ (8 * (i % 8)) = Q
      grind
theorem nat_Read_ev (b : List Int) (hb : b.length ≤ maxLen) (db : Dig (b8 : Int) b) (k : Nat) (hk : k ≤ b.length) (hz : ∀ j, j < k → b.getD j 0 = 0) (hn : k < b.length → b.getD k 0 ≠ 0) : Evt (fun m => nat_Read.f m b) (readV (b.drop k)) := by
  have hbl : b.length ≤ 9223372036854775807 := by simp only [maxLen] at hb; omega
  unfold nat_Read.f readV
  simp only [nat_Read_ix.f, Option.bind_some]
  have hg : nat_Read_ix.g b 0 = (if k < b.length then (k : Int) else -1) := by
    rcases nat_Read_ix.g_of b 0 with ⟨h1, h2⟩ | ⟨q, h1, h2, h3, h4⟩
    · by_cases h : k < b.length
      · exact absurd (h2 k h) (hn h)
      · rw [if_neg h, h1]
    · by_cases h : k < b.length
      · rw [if_pos h, h2]
        have a1 : ¬ q < k := fun hq => h3 (hz q hq)
        have a2 : ¬ k < q := fun hq => hn h (h4 k hq)
        omega
      · exact absurd (hz q (by omega)) h3
  rw [hg]
  by_cases h : k < b.length
  · rw [if_pos h]
    refine Evt.ite_neg (by omega) (Evt.ite_pos (by omega) (Evt.ite_pos (by omega) ?_))
    rw [Int.toNat_natCast]
    have dc : Dig (b8 : Int) (b.drop k) := db.drop k
    generalize b.drop k = c at *
    by_cases hc : c.length > 512
    · rw [if_pos hc]
      exact Evt.ite_pos (by omega) (Evt.pure _)
    · rw [if_neg hc]
      have e : wrap64 (Int.tdiv (wrap64 ((c.length : Int) + 7)) 8) = (((c.length + 7) / 8 : Nat) : Int) := by
        rw [w64 (show -9223372036854775808 ≤ (c.length : Int) + 7 by omega) (by omega), show (c.length : Int) + 7 = ((c.length + 7 : Nat) : Int) from by omega, show (8 : Int) = ((8 : Nat) : Int) from rfl, tdiv_nat, w64 (by omega) (by omega)]
      rw [e]
      refine Evt.ite_neg (by omega) (Evt.ite_pos (by omega) (Evt.ite_pos (by omega) ?_))
      rw [Int.toNat_natCast]
      refine nat_Read_loop c (by omega) dc c.length 0 _ (Nat.zero_le _) (by omega) (by simp) (fun j => ?_) ?_ ?_
      · have e0 : (List.replicate ((c.length + 7) / 8) (0 : Int)).getD j 0 = 0 := by
          rw [List.getD_eq_getElem?_getD, List.getElem?_replicate]
          split <;> rfl
        rw [e0]
        exact ⟨Int.le_refl _, Int.pow_pos (by omega)⟩
      · rw [val_replicate]; rfl
      · intro o ho do_ hv
        have ht := nat_told_ev o (by omega) do_
        have hnum : num o = (val (b8 : Int) c.reverse).toNat := by unfold num; rw [hv]
        rw [hnum] at ht
        have hlt := val_b8_lt dc (by omega)
        unfold toldV at ht
        rw [if_pos hlt] at ht
        exact Evt.bind ht (h := fun t _ => some (t.1, t.2)) (Evt.pure _)
  · rw [if_neg h, show b.drop k = [] from List.drop_of_length_le (by omega)]
    refine Evt.ite_pos (by omega) ?_
    rw [if_neg (by simp)]
    have e : limbs (val (b8 : Int) ([] : List Int).reverse).toNat = [] := toD_zero b64
    rw [e]
    exact Evt.pure _
theorem ref_power_loop (n : Nat) (hn : n ≤ 1000000) (m : Nat) : ∀ j : Nat, j ≤ n % 16 → n % 16 - j = m →
    Evt (fun k => windbreakref01_power.l0 k (n : Int) (List.replicate (n / 16) 0 ++ [2 ^ j]) (j : Int)) (List.replicate (n / 16) 0 ++ [2 ^ (n % 16)]) := by
  have e1 : Int.tmod (n : Int) 16 = ((n % 16 : Nat) : Int) := by rw [Int.tmod_eq_emod_of_nonneg (by omega)]; omega
  have e2 : Int.tdiv (n : Int) 16 = ((n / 16 : Nat) : Int) := by rw [Int.tdiv_eq_ediv_of_nonneg (by omega)]; omega
  induction m with
  | zero =>
    intro j hj hm
    refine Evt.succ ?_
    simp only [windbreakref01_power.l0]
    rw [e1]
    refine Evt.ite_neg (by omega) ?_
    rw [show n % 16 = j from by omega]
    exact Evt.pure _
  | succ m ih =>
    intro j hj hm
    refine Evt.succ ?_
    simp only [windbreakref01_power.l0]
    rw [e1, e2, w64 (show -9223372036854775808 ≤ ((n / 16 : Nat) : Int) by omega) (by omega)]
    refine Evt.ite_pos (by omega) (Evt.ite_pos (by omega) (Evt.ite_pos (by simp; omega) ?_))
    have hr : rd (List.replicate (n / 16) 0 ++ [2 ^ j]) ((n / 16 : Nat) : Int) = 2 ^ j := by
      rw [rd_nat]
      simp [List.getD_eq_getElem?_getD]
    have hb : (2 : Int) ^ j ≤ 2 ^ 16 := pow_mono (by omega) (by omega)
    have hp := pow2_pos j
    rw [hr, wu64_of (by omega) (by omega), w64 (by omega) (by omega)]
    refine (ih (j + 1) (by omega) (by omega)).congr (fun k => ?_) rfl
    have hs : (List.replicate (n / 16) (0 : Int) ++ [2 ^ j]).set ((n / 16 : Nat) : Int).toNat (2 ^ j * 2) = List.replicate (n / 16) 0 ++ [2 ^ (j + 1)] := by
      have := set_at (List.replicate (n / 16) (0 : Int)) (2 ^ j) (2 ^ j * 2) []
      rw [List.length_replicate] at this
      rw [Int.toNat_natCast, this, Int.pow_succ]
    rw [hs]
    rfl
theorem num16_power (n : Nat) : Dig (b16 : Int) (List.replicate (n / 16) 0 ++ [2 ^ (n % 16)]) ∧ Can (List.replicate (n / 16) 0 ++ [2 ^ (n % 16)]) ∧ num16 (List.replicate (n / 16) 0 ++ [2 ^ (n % 16)]) = 2 ^ n := by
  have hb : (2 : Int) ^ (n % 16) ≤ 2 ^ 15 := pow_mono (by omega) (by omega)
  have hp := pow2_pos (n % 16)
  have hd : Dig (b16 : Int) (List.replicate (n / 16) 0 ++ [2 ^ (n % 16)]) := Dig.append.2 ⟨Dig.replicate b16_pos _, Dig.cons.2 ⟨by simp only [b16]; omega, Dig.nil⟩⟩
  refine ⟨hd, ?_, ?_⟩
  · intro _
    simp
    omega
  · have h := num16_val hd
    rw [val_append, val_replicate] at h
    simp only [val, List.length_replicate, Int.mul_zero, Int.add_zero, Int.zero_add] at h
    have h2 : (b16 : Int) ^ (n / 16) * 2 ^ (n % 16) = 2 ^ n := by
      have : (b16 : Int) = 2 ^ 16 := by decide
      rw [this, ← Int.pow_mul, ← Int.pow_add, show 16 * (n / 16) + n % 16 = n from by omega]
    rw [h2] at h
    have h3 : ((2 : Int)) ^ n = ((2 ^ n : Nat) : Int) := by simp
    rw [h3] at h
    omega
theorem ref_power_ev (n : Nat) (hn : n ≤ 1000000) : Evt (fun k => windbreakref01_power.f k (n : Int)) (digs (2 ^ n)) := by
  unfold windbreakref01_power.f
  have e2 : Int.tdiv (n : Int) 16 = ((n / 16 : Nat) : Int) := by rw [Int.tdiv_eq_ediv_of_nonneg (by omega)]; omega
  rw [e2, w64 (show -9223372036854775808 ≤ ((n / 16 : Nat) : Int) by omega) (by omega), w64 (show -9223372036854775808 ≤ ((n / 16 : Nat) : Int) + 1 by omega) (by omega)]
  refine Evt.ite_pos (by omega) (Evt.ite_pos (by omega) ?_)
  rw [show (((n / 16 : Nat) : Int) + 1).toNat = n / 16 + 1 from by omega]
  simp only [Option.bind_some]
  refine Evt.ite_pos (by omega) (Evt.ite_pos (by simp; omega) ?_)
  obtain ⟨h1, h2, h3⟩ := num16_power n
  have h4 := digs_num h1 h2
  rw [h3] at h4
  rw [h4]
  refine (ref_power_loop n hn (n % 16) 0 (Nat.zero_le _) (by omega)).congr (fun k => ?_) rfl
  have hs : (List.replicate (n / 16 + 1) (0 : Int)).set ((n / 16 : Nat) : Int).toNat 1 = List.replicate (n / 16) 0 ++ [2 ^ 0] := by
    have := set_at (List.replicate (n / 16) (0 : Int)) 0 1 []
    rw [List.length_replicate] at this
    rw [Int.toNat_natCast, List.replicate_succ', this]
    rfl
  rw [hs]
  rfl
theorem len8 : ∀ n : Fin 256, bt (⟨#[0, 1, 2, 2, 3, 3, 3, 3, 4, 4, 4, 4, 4, 4, 4, 4, 5, 5, 5, 5, 5, 5, 5, 5, 5, 5, 5, 5, 5, 5, 5, 5, 6, 6, 6, 6, 6, 6, 6, 6, 6, 6, 6, 6, 6, 6, 6, 6, 6, 6, 6, 6, 6, 6, 6, 6, 6, 6, 6, 6, 6, 6, 6, 6, 7, 7, 7, 7, 7, 7, 7, 7, 7, 7, 7, 7, 7, 7, 7, 7, 7, 7, 7, 7, 7, 7, 7, 7, 7, 7, 7, 7, 7, 7, 7, 7, 7, 7, 7, 7, 7, 7, 7, 7, 7, 7, 7, 7, 7, 7, 7, 7, 7, 7, 7, 7, 7, 7, 7, 7, 7, 7, 7, 7, 7, 7, 7, 7, 8, 8, 8, 8, 8, 8, 8, 8, 8, 8, 8, 8, 8, 8, 8, 8, 8, 8, 8, 8, 8, 8, 8, 8, 8, 8, 8, 8, 8, 8, 8, 8, 8, 8, 8, 8, 8, 8, 8, 8, 8, 8, 8, 8, 8, 8, 8, 8, 8, 8, 8, 8, 8, 8, 8, 8, 8, 8, 8, 8, 8, 8, 8, 8, 8, 8, 8, 8, 8, 8, 8, 8, 8, 8, 8, 8, 8, 8, 8, 8, 8, 8, 8, 8, 8, 8, 8, 8, 8, 8, 8, 8, 8, 8, 8, 8, 8, 8, 8, 8, 8, 8, 8, 8, 8, 8, 8, 8, 8, 8, 8, 8, 8, 8, 8, 8, 8, 8, 8, 8, 8, 8, 8, 8, 8, 8, 8, 8]⟩ : ByteArray) ((n.val : Nat) : Int) = ((bl n.val : Nat) : Int) := by decide +kernel
theorem len8_at {x : Int} (h0 : 0 ≤ x) (h1 : x < 256) : bt (⟨#[0, 1, 2, 2, 3, 3, 3, 3, 4, 4, 4, 4, 4, 4, 4, 4, 5, 5, 5, 5, 5, 5, 5, 5, 5, 5, 5, 5, 5, 5, 5, 5, 6, 6, 6, 6, 6, 6, 6, 6, 6, 6, 6, 6, 6, 6, 6, 6, 6, 6, 6, 6, 6, 6, 6, 6, 6, 6, 6, 6, 6, 6, 6, 6, 7, 7, 7, 7, 7, 7, 7, 7, 7, 7, 7, 7, 7, 7, 7, 7, 7, 7, 7, 7, 7, 7, 7, 7, 7, 7, 7, 7, 7, 7, 7, 7, 7, 7, 7, 7, 7, 7, 7, 7, 7, 7, 7, 7, 7, 7, 7, 7, 7, 7, 7, 7, 7, 7, 7, 7, 7, 7, 7, 7, 7, 7, 7, 7, 8, 8, 8, 8, 8, 8, 8, 8, 8, 8, 8, 8, 8, 8, 8, 8, 8, 8, 8, 8, 8, 8, 8, 8, 8, 8, 8, 8, 8, 8, 8, 8, 8, 8, 8, 8, 8, 8, 8, 8, 8, 8, 8, 8, 8, 8, 8, 8, 8, 8, 8, 8, 8, 8, 8, 8, 8, 8, 8, 8, 8, 8, 8, 8, 8, 8, 8, 8, 8, 8, 8, 8, 8, 8, 8, 8, 8, 8, 8, 8, 8, 8, 8, 8, 8, 8, 8, 8, 8, 8, 8, 8, 8, 8, 8, 8, 8, 8, 8, 8, 8, 8, 8, 8, 8, 8, 8, 8, 8, 8, 8, 8, 8, 8, 8, 8, 8, 8, 8, 8, 8, 8, 8, 8, 8, 8, 8, 8]⟩ : ByteArray) x = ((bl x.toNat : Nat) : Int) := by
  obtain ⟨n, rfl⟩ := Int.eq_ofNat_of_zero_le h0
  exact len8 ⟨n, by omega⟩
set_option maxRecDepth 100000 in
theorem len64_j {x : Int} (h0 : 0 ≤ x) (h1 : x < 4294967296) (c : Int) (hc : 0 ≤ c ∧ c ≤ 1000) : Evt (fun k => bits_Len64.j0 k x c) (c + ((bl x.toNat : Nat) : Int)) := by
  have key : ∀ (s : Nat) (y : Int), 0 ≤ y → y < 256 → (s ≤ 24) → (y = 0 → s = 0) → y = x / 2 ^ s → ((bl x.toNat : Nat) : Int) = (s : Int) + ((bl y.toNat : Nat) : Int) := by
    intro s y hy0 hy1 hs hz he
    have : bl x.toNat = s + bl y.toNat := by
      by_cases h : y = 0
      · have hs0 := hz h
        subst hs0
        simp at he
        rw [he, Nat.zero_add]
      · have e : y.toNat = x.toNat / 2 ^ s := by
          rw [he]
          have h2 : x = ((x.toNat : Nat) : Int) := by omega
          rw [h2]
          have h3 : ((2 : Int) ^ s) = ((2 ^ s : Nat) : Int) := by simp
          rw [h3, ← Int.natCast_ediv, Int.toNat_natCast, Int.toNat_natCast]
        rw [e]
        exact bl_shift x.toNat s (by rw [← e]; omega)
    omega
  refine Evt.succ ?_
  simp only [bits_Len64.j0]
  by_cases c1 : x ≥ 65536
  · refine Evt.ite_pos c1 ?_
    by_cases c2 : x / 65536 ≥ 256
    · refine Evt.ite_pos c2 (Evt.ite_pos (by omega) (Evt.ite_pos (by omega) ?_))
      have e : x / 65536 / 256 % 256 = x / 65536 / 256 := by omega
      rw [e, len8_at (by omega) (by omega)]
      have k1 := key 24 (x / 65536 / 256) (by omega) (by omega) (by omega) (by omega) (by rw [Int.ediv_ediv_of_nonneg (by omega)]; rfl)
      have k2 := bl_le8 (x := (x / 65536 / 256).toNat) (by omega)
      rw [w64 (show -9223372036854775808 ≤ c + 16 by omega) (by omega), w64 (show -9223372036854775808 ≤ c + 16 + 8 by omega) (by omega), w64 (show -9223372036854775808 ≤ ((bl (x / 65536 / 256).toNat : Nat) : Int) by omega) (by omega), w64 (by omega) (by omega), k1]
      refine (Evt.pure _).congr (fun k => rfl) (by omega)
    · refine Evt.ite_neg c2 (Evt.ite_pos (by omega) (Evt.ite_pos (by omega) ?_))
      have e : x / 65536 % 256 = x / 65536 := by omega
      rw [e, len8_at (by omega) (by omega)]
      have k1 := key 16 (x / 65536) (by omega) (by omega) (by omega) (by omega) rfl
      have k2 := bl_le8 (x := (x / 65536).toNat) (by omega)
      rw [w64 (show -9223372036854775808 ≤ c + 16 by omega) (by omega), w64 (show -9223372036854775808 ≤ ((bl (x / 65536).toNat : Nat) : Int) by omega) (by omega), w64 (by omega) (by omega), k1]
      refine (Evt.pure _).congr (fun k => rfl) (by omega)
  · refine Evt.ite_neg c1 ?_
    by_cases c2 : x ≥ 256
    · refine Evt.ite_pos c2 (Evt.ite_pos (by omega) (Evt.ite_pos (by omega) ?_))
      have e : x / 256 % 256 = x / 256 := by omega
      rw [e, len8_at (by omega) (by omega)]
      have k1 := key 8 (x / 256) (by omega) (by omega) (by omega) (by omega) rfl
      have k2 := bl_le8 (x := (x / 256).toNat) (by omega)
      rw [w64 (show -9223372036854775808 ≤ c + 8 by omega) (by omega), w64 (show -9223372036854775808 ≤ ((bl (x / 256).toNat : Nat) : Int) by omega) (by omega), w64 (by omega) (by omega), k1]
      refine (Evt.pure _).congr (fun k => rfl) (by omega)
    · refine Evt.ite_neg c2 (Evt.ite_pos (by omega) (Evt.ite_pos (by omega) ?_))
      have e : x % 256 = x := by omega
      rw [e, len8_at (by omega) (by omega)]
      have k2 := bl_le8 (x := x.toNat) (by omega)
      rw [w64 (show -9223372036854775808 ≤ ((bl x.toNat : Nat) : Int) by omega) (by omega), w64 (by omega) (by omega)]
      exact Evt.pure _
theorem bits_Len64_ev {x : Int} (h0 : 0 ≤ x) (h1 : x < 18446744073709551616) : Evt (fun k => bits_Len64.f k x) ((bl x.toNat : Nat) : Int) := by
  unfold bits_Len64.f
  by_cases c1 : x ≥ 4294967296
  · refine Evt.ite_pos c1 ?_
    refine (len64_j (x := x / 4294967296) (by omega) (by omega) 32 (by omega)).congr (fun k => rfl) ?_
    have e : (x / 4294967296).toNat = x.toNat / 2 ^ 32 := by omega
    have := bl_shift x.toNat 32 (by omega)
    rw [e]
    omega
  · refine Evt.ite_neg c1 ?_
    exact (len64_j (x := x) (by omega) (by omega) 0 (by omega)).congr (fun k => rfl) (by omega)
theorem nat_Bits_ev (a : List Int) (ha : a.length ≤ maxLen) (da : Dig (b64 : Int) a) : Evt (fun k => nat_Bits.f k a) (bitsV a) := by
  unfold nat_Bits.f bitsV
  rw [nat_Right_eq ha]
  simp only [Option.bind_some]
  cases hA : rightB a with
  | true =>
    obtain ⟨h1, c1⟩ := (rightB_iff a).1 hA
    refine Evt.ite_pos rfl ?_
    by_cases h0 : a.length = 0
    · rw [if_neg (fun h => h.2 h0)]
      exact Evt.ite_pos (by omega) (Evt.pure _)
    · rw [if_pos (show true = true ∧ a.length ≠ 0 from ⟨rfl, h0⟩)]
      rw [w64 (show -9223372036854775808 ≤ (a.length : Int) - 1 by omega) (by omega)]
      refine Evt.ite_neg (by omega) (Evt.ite_pos (by omega) (Evt.ite_pos (by omega) ?_))
      rw [rd_getD, show ((a.length : Int) - 1).toNat = a.length - 1 from by omega]
      have hr := da.getD b64_pos (a.length - 1)
      simp only [b64] at hr
      refine Evt.bind (bits_Len64_ev hr.1 hr.2) ?_
      have hb := bl_le (x := (a.getD (a.length - 1) 0).toNat) (m := 64) (by omega)
      rw [w64 (show -9223372036854775808 ≤ 64 * ((a.length : Int) - 1) by omega) (by omega), w64 (by omega) (by omega)]
      exact Evt.pure _
  | false =>
    rw [if_neg (by simp)]
    exact Evt.ite_neg (by simp) (Evt.pure _)
end Go.Proofs.Ytlkinjhmgljapab.Z
end
section
namespace Go.Proofs.Ytlkinjhmgljapab.F
open Go.RowKit Go.Proofs.YtlkinjhmgljapabW.PrintWords Go.Proofs.YtlkinjhmgljapabW.PrintLast Go.Proofs.YtlkinjhmgljapabW.PrintMore
attribute [local go_sem] max2_int min2_int max_two min_two max_three min_three max_four min_four
set_option linter.unusedVariables false
set_option linter.unusedSimpArgs false
mutual
def windbreakref01_Out.l0 : Nat → List Int → List Int → Int → Option (List Int × Bool)
 | 0, _, _, _ => none
 | k + 1, x0, x4, x5 => if x5 < (x0.length : Int) then (windbreakref01_Out.l1 k x0 x4 x5 0 3) else (some (x4, decide ((x4.length : Int) ≤ 64)))
def windbreakref01_Out.l1 : Nat → List Int → List Int → Int → Int → Int → Option (List Int × Bool)
 | 0, _, _, _, _, _ => none
 | k + 1, x0, x4, x5, x6, x7 => if x7 ≥ 0 then (if (wrap64 (x5 + x7)) < (x0.length : Int) then (if 0 ≤ (wrap64 (x5 + x7)) then (windbreakref01_Out.l1 k x0 x4 x5 (IntKind.u64.wrap ((IntKind.u64.wrap (x6 * 65536)) + (rd x0 (wrap64 (x5 + x7))))) (wrap64 (x7 - 1))) else (none)) else (windbreakref01_Out.l1 k x0 x4 x5 (IntKind.u64.wrap (x6 * 65536)) (wrap64 (x7 - 1)))) else (if x4.length < 17592186044416 then (windbreakref01_Out.l0 k x0 (x4 ++ [x6]) (wrap64 (x5 + 4))) else (none))
end
def windbreakref01_Out.f (k : Nat) (l0 : List Int) : Option (List Int × Bool) := windbreakref01_Out.l0 k l0 ([] : List Int) 0
end Go.Proofs.Ytlkinjhmgljapab.F
end
section
namespace Go.Proofs.Ytlkinjhmgljapab.Z
open Go.RowKit Go.Proofs.Ytlkinjhmgljapab.F Go.Proofs.YtlkinjhmgljapabW.PrintWords
set_option linter.unusedSimpArgs false
set_option linter.unusedVariables false
theorem strip_split (l : List Int) : ∃ n, l = strip l ++ List.replicate n 0 := by
  induction l with
  | nil => exact ⟨0, rfl⟩
  | cons d l ih =>
    obtain ⟨n, hn⟩ := ih
    simp only [strip]
    by_cases h : strip l = []
    · rw [if_pos h]
      rw [h, List.nil_append] at hn
      by_cases h0 : d = 0
      · rw [if_pos h0]
        refine ⟨n + 1, ?_⟩
        rw [h0, List.replicate_succ, List.nil_append, ← hn]
      · rw [if_neg h0]
        refine ⟨n, ?_⟩
        rw [List.singleton_append, ← hn]
    · rw [if_neg h]
      refine ⟨n, ?_⟩
      rw [List.cons_append, ← hn]
theorem can_of_val {B : Nat} (hB : 2 ≤ B) {l : List Int} (h : Dig (B : Int) l) (hv : l ≠ [] → (B : Int) ^ (l.length - 1) ≤ val (B : Int) l) : Can l := by
  by_cases e : l = []
  · subst e; exact Can.nil
  · have h1 := hv e
    obtain ⟨n, hn⟩ := strip_split l
    have h2 := val_lt (show (0 : Int) < (B : Int) by omega) (strip_dig h)
    rw [strip_val] at h2
    have h3 : l.length = (strip l).length + n := by
      have := congrArg List.length hn
      simpa using this
    have h4 : n = 0 := by
      by_cases hn0 : n = 0
      · exact hn0
      · have := pow_mono (show (0 : Int) < (B : Int) by omega) (show (strip l).length ≤ l.length - 1 by omega)
        omega
    subst h4
    rw [List.replicate_zero, List.append_nil] at hn
    rw [hn]
    exact strip_can l
def grp (d : List Int) : Int := d.getD 0 0 + 65536 * (d.getD 1 0 + 65536 * (d.getD 2 0 + 65536 * d.getD 3 0))
def outN : Nat → List Int → List Int
  | 0, _ => []
  | n + 1, d => grp d :: outN n (d.drop 4)
theorem grp_range {d : List Int} (h : Dig (b16 : Int) d) : 0 ≤ grp d ∧ grp d < (b64 : Int) := by
  have h0 := h.getD b16_pos 0
  have h1 := h.getD b16_pos 1
  have h2 := h.getD b16_pos 2
  have h3 := h.getD b16_pos 3
  unfold grp
  simp only [b16, b64] at *
  omega
theorem val_four (d : List Int) : val (b16 : Int) d = grp d + (b64 : Int) * val (b16 : Int) (d.drop 4) := by
  unfold grp
  simp only [b16, b64]
  match d with
  | [] => simp [val]
  | [a] => simp [val]
  | [a, b] => simp [val]
  | [a, b, c] => simp [val]
  | a :: b :: c :: e :: d => simp [val]; omega
theorem outN_facts (n : Nat) : ∀ d : List Int, Dig (b16 : Int) d → d.length ≤ 4 * n → Dig (b64 : Int) (outN n d) ∧ val (b64 : Int) (outN n d) = val (b16 : Int) d ∧ (outN n d).length = n := by
  induction n with
  | zero =>
    intro d _ h
    have : d = [] := List.length_eq_zero_iff.1 (by omega)
    subst this
    exact ⟨Dig.nil, rfl, rfl⟩
  | succ n ih =>
    intro d hd h
    obtain ⟨i1, i2, i3⟩ := ih (d.drop 4) (hd.drop 4) (by simp; omega)
    refine ⟨Dig.cons.2 ⟨grp_range hd, i1⟩, ?_, by simp [outN, i3]⟩
    rw [val_four d]
    simp only [outN, val, i2]
theorem out_limbs (v : Nat) : outN (((digs v).length + 3) / 4) (digs v) = limbs v := by
  obtain ⟨f1, f2, f3⟩ := outN_facts (((digs v).length + 3) / 4) (digs v) (toD_dig b16_two v) (by omega)
  rw [val_toD b16_two] at f2
  have hc : Can (outN (((digs v).length + 3) / 4) (digs v)) := by
    refine can_of_val b64_two f1 (fun hne => ?_)
    rw [f2, f3, b64_pow, pow_cast, ← Nat.pow_mul]
    have hl : 0 < ((digs v).length + 3) / 4 := by rw [← f3]; exact List.length_pos_iff.2 hne
    have hd : digs v ≠ [] := by intro e; rw [e] at hl; simp at hl
    have h1 := val_pos b16_pos (toD_dig b16_two v) (toD_can b16_two v) hd
    rw [val_toD b16_two, pow_cast] at h1
    have h2 : b16 ^ (4 * (((digs v).length + 3) / 4 - 1)) ≤ b16 ^ ((digs v).length - 1) := Nat.pow_le_pow_right (by decide) (by omega)
    exact Int.le_trans (Int.ofNat_le.2 h2) h1
  have := limbs_num f1 hc
  rw [← this]
  unfold num
  rw [f2]
  rfl
theorem out_inner (d acc : List Int) (i : Nat) (hd : Dig (b16 : Int) d) (hacc : acc.length ≤ 1000000) (hi : i ≤ 4000000) {r : List Int × Bool}
    (h : Evt (fun k => windbreakref01_Out.l0 k d (acc ++ [grp (d.drop i)]) ((i + 4 : Nat) : Int)) r) : Evt (fun k => windbreakref01_Out.l1 k d acc (i : Int) 0 3) r := by
  have step : ∀ (x : Int) (j : Nat), j ≤ 3 → 0 ≤ x → x * 65536 + 65535 < 18446744073709551616 →
      Evt (fun k => windbreakref01_Out.l1 k d acc (i : Int) (x * 65536 + (d.drop i).getD j 0) ((j : Int) - 1)) r →
      Evt (fun k => windbreakref01_Out.l1 k d acc (i : Int) x (j : Int)) r := by
    intro x j hj hx hx2 hs
    have hdig := (hd.drop i).getD b16_pos j
    simp only [b16] at hdig
    refine Evt.succ ?_
    simp only [windbreakref01_Out.l1]
    refine Evt.ite_pos (by omega) ?_
    rw [w64 (show -9223372036854775808 ≤ (i : Int) + (j : Int) by omega) (by omega), w64 (show -9223372036854775808 ≤ (j : Int) - 1 by omega) (by omega), wu64_of (show 0 ≤ x * 65536 by omega) (by omega)]
    by_cases hlt : i + j < d.length
    · refine Evt.ite_pos (by omega) (Evt.ite_pos (by omega) ?_)
      have e : rd d ((i : Int) + (j : Int)) = (d.drop i).getD j 0 := by
        rw [rd_getD, show ((i : Int) + (j : Int)).toNat = i + j from by omega]
        simp [List.getD_eq_getElem?_getD]
      rw [e, wu64_of (by omega) (by omega)]
      exact hs
    · refine Evt.ite_neg (by omega) ?_
      have e : (d.drop i).getD j 0 = 0 := by
        simp [List.getD_eq_getElem?_getD, List.getElem?_eq_none (by omega : d.length ≤ i + j)]
      rw [e, Int.add_zero] at hs
      exact hs
  have h0 := (hd.drop i).getD b16_pos 0
  have h1 := (hd.drop i).getD b16_pos 1
  have h2 := (hd.drop i).getD b16_pos 2
  have h3 := (hd.drop i).getD b16_pos 3
  simp only [b16] at h0 h1 h2 h3
  refine step 0 3 (by omega) (by omega) (by omega) ?_
  refine (step (0 * 65536 + (d.drop i).getD 3 0) 2 (by omega) (by omega) (by omega) ?_).congr (fun k => rfl) rfl
  refine (step ((0 * 65536 + (d.drop i).getD 3 0) * 65536 + (d.drop i).getD 2 0) 1 (by omega) (by omega) (by omega) ?_).congr (fun k => rfl) rfl
  refine (step (((0 * 65536 + (d.drop i).getD 3 0) * 65536 + (d.drop i).getD 2 0) * 65536 + (d.drop i).getD 1 0) 0 (by omega) (by omega) (by omega) ?_).congr (fun k => rfl) rfl
  refine Evt.succ ?_
  simp only [windbreakref01_Out.l1]
  refine Evt.ite_neg (by omega) (Evt.ite_pos (by omega) ?_)
  rw [w64 (by omega) (by omega)]
  refine h.congr (fun k => ?_) rfl
  have e : (((0 * 65536 + (d.drop i).getD 3 0) * 65536 + (d.drop i).getD 2 0) * 65536 + (d.drop i).getD 1 0) * 65536 + (d.drop i).getD 0 0 = grp (d.drop i) := by
    unfold grp; omega
  rw [e, show (i : Int) + 4 = ((i + 4 : Nat) : Int) from by omega]
theorem out_loop (d : List Int) (hd : Dig (b16 : Int) d) (hlen : d.length ≤ 1000000) (n : Nat) : ∀ (i : Nat) (acc : List Int), acc.length ≤ i → i ≤ d.length + 3 → (d.length - i + 3) / 4 = n →
    Evt (fun k => windbreakref01_Out.l0 k d acc (i : Int)) (acc ++ outN n (d.drop i), decide ((acc ++ outN n (d.drop i)).length ≤ 64)) := by
  induction n with
  | zero =>
    intro i acc hacc hi hn
    refine Evt.succ ?_
    simp only [windbreakref01_Out.l0]
    refine Evt.ite_neg (by omega) ?_
    simp only [outN, List.append_nil]
    refine (Evt.pure _).congr (fun k => rfl) ?_
    congr 1
    simp only [decide_eq_decide]
    omega
  | succ n ih =>
    intro i acc hacc hi hn
    refine Evt.succ ?_
    simp only [windbreakref01_Out.l0]
    refine Evt.ite_pos (by omega) ?_
    refine out_inner d acc i hd (by omega) (by omega) ?_
    refine (ih (i + 4) (acc ++ [grp (d.drop i)]) (by simp; omega) (by omega) (by omega)).congr (fun k => rfl) ?_
    simp [outN, List.drop_drop]
theorem ref_Out_ev (v : Nat) (hv : v < lim) : Evt (fun k => windbreakref01_Out.f k (digs v)) (limbs v, decide (v < b64 ^ 64)) := by
  have hlen : (digs v).length ≤ 1000000 := Nat.le_trans (digs_len hv) (by omega)
  have h := out_loop (digs v) (toD_dig b16_two v) hlen (((digs v).length + 3) / 4) 0 [] (Nat.le_refl _) (by omega) (by omega)
  refine h.congr (fun k => rfl) ?_
  rw [List.nil_append, List.drop_zero, out_limbs]
  have := limbs_long v
  simp only [this]
end Go.Proofs.Ytlkinjhmgljapab.Z
end
section
namespace Go.Proofs.Ytlkinjhmgljapab.F
open Go.RowKit Go.Proofs.YtlkinjhmgljapabW.PrintWords Go.Proofs.YtlkinjhmgljapabW.PrintLast Go.Proofs.YtlkinjhmgljapabW.PrintMore
attribute [local go_sem] max2_int min2_int max_two min_two max_three min_three max_four min_four
set_option linter.unusedVariables false
set_option linter.unusedSimpArgs false
def windbreakref01_told.f (k : Nat) (l0 : List Int) : Option (List Int × Int) := (windbreakref01_Out.f k l0).bind fun bt193 => (if bt193.2 = true then (some (bt193.1, 0)) else (some (([] : List Int), 4)))
end Go.Proofs.Ytlkinjhmgljapab.F
end
section
namespace Go.Proofs.Ytlkinjhmgljapab.Z
open Go.RowKit Go.Proofs.Ytlkinjhmgljapab.F Go.Proofs.YtlkinjhmgljapabW.PrintWords
set_option linter.unusedSimpArgs false
set_option linter.unusedVariables false
theorem ref_told_ev (v : Nat) (hv : v < lim) : Evt (fun k => windbreakref01_told.f k (digs v)) (toldV v) := by
  unfold windbreakref01_told.f toldV
  refine Evt.bind (ref_Out_ev v hv) ?_
  by_cases h : v < b64 ^ 64
  · simp only [h, decide_true, if_true]
    exact Evt.pure _
  · simp only [h, decide_false, if_false]
    exact Evt.ite_neg (by simp) (Evt.pure _)
end Go.Proofs.Ytlkinjhmgljapab.Z
end
section
namespace Go.Proofs.Ytlkinjhmgljapab.F
open Go.RowKit Go.Proofs.YtlkinjhmgljapabW.PrintWords Go.Proofs.YtlkinjhmgljapabW.PrintLast Go.Proofs.YtlkinjhmgljapabW.PrintMore
attribute [local go_sem] max2_int min2_int max_two min_two max_three min_three max_four min_four
set_option linter.unusedVariables false
set_option linter.unusedSimpArgs false
mutual
def windbreakref01_Read.j1 : Nat → List Int → Int → Option (List Int × Int)
 | 0, _, _ => none
 | k + 1, x0, x4 => if (wrap64 ((x0.length : Int) - x4)) > 512 then (some (([] : List Int), 4)) else (windbreakref01_Read.l1 k x0 x4 ([] : List Int) (wrap64 ((x0.length : Int) - 1)))
def windbreakref01_Read.l1 : Nat → List Int → Int → List Int → Int → Option (List Int × Int)
 | 0, _, _, _, _ => none
 | k + 1, x0, x4, x5, x6 => if x6 ≥ x4 then (if 0 ≤ x6 then (if x6 < (x0.length : Int) then (if (wrap64 (x6 - 1)) ≥ x4 then (if 0 ≤ (wrap64 (x6 - 1)) then (if (wrap64 (x6 - 1)) < (x0.length : Int) then (if x5.length < 17592186044416 then (windbreakref01_Read.l1 k x0 x4 (x5 ++ [IntKind.u64.wrap ((IntKind.u64.wrap (rd x0 x6)) + (IntKind.u64.wrap (256 * (IntKind.u64.wrap (rd x0 (wrap64 (x6 - 1)))))))]) (wrap64 (x6 - 2))) else (none)) else (none)) else (none)) else (if x5.length < 17592186044416 then (windbreakref01_Read.l1 k x0 x4 (x5 ++ [IntKind.u64.wrap (rd x0 x6)]) (wrap64 (x6 - 2))) else (none))) else (none)) else (none)) else ((windbreakref01_cut.f k x5).bind fun t239 => ((windbreakref01_told.f k t239).bind fun bt242 => (some (bt242.1, bt242.2))))
def windbreakref01_Read.l0 : Nat → List Int → Int → Option (List Int × Int)
 | 0, _, _ => none
 | k + 1, x0, x4 => if x4 < (x0.length : Int) then (if 0 ≤ x4 then (if (rd x0 x4) = 0 then (windbreakref01_Read.l0 k x0 (wrap64 (x4 + 1))) else (windbreakref01_Read.j1 k x0 x4)) else (none)) else (windbreakref01_Read.j1 k x0 x4)
end
def windbreakref01_Read.f (k : Nat) (l0 : List Int) : Option (List Int × Int) := windbreakref01_Read.l0 k l0 0
end Go.Proofs.Ytlkinjhmgljapab.F
end
section
namespace Go.Proofs.Ytlkinjhmgljapab.Z
open Go.RowKit Go.Proofs.Ytlkinjhmgljapab.F Go.Proofs.YtlkinjhmgljapabW.PrintWords
set_option linter.unusedSimpArgs false
set_option linter.unusedVariables false
theorem pow_b16_b8 (p : Nat) : (b16 : Int) ^ p = (b8 : Int) ^ (2 * p) := by
  rw [pow_cast, pow_cast]
  congr 1
  rw [show b16 = b8 ^ 2 from by decide, ← Nat.pow_mul]
theorem rev_at {b : List Int} {k q : Nat} (hq : q < (b.drop k).reverse.length) : (b.drop k).reverse[q] = b.getD (b.length - 1 - q) 0 := by
  have hq' : q < b.length - k := by simpa using hq
  rw [List.getElem_reverse, List.getElem_drop, List.getD_eq_getElem?_getD, List.getElem?_eq_getElem (show b.length - 1 - q < b.length by omega)]
  simp only [Option.getD_some, List.length_drop]
  congr 1
  omega
theorem ref_Read_l1 (b : List Int) (k : Nat) (hk : k ≤ b.length) (hb : b.length ≤ 9223372036854775807) (db : Dig (b8 : Int) b) (h5 : (b.drop k).length ≤ 512) (n : Nat) : ∀ (d : List Int), Dig (b16 : Int) d → d.length ≤ 256 → (b.length - k + 1) / 2 - d.length = n →
    val (b16 : Int) d = val (b8 : Int) ((b.drop k).reverse.take (2 * d.length)) →
    Evt (fun m => windbreakref01_Read.l1 m b (k : Int) d ((b.length : Int) - 1 - 2 * (d.length : Int))) (limbs (val (b8 : Int) (b.drop k).reverse).toNat, 0) := by
  have h5' : b.length - k ≤ 512 := by simpa using h5
  induction n with
  | zero =>
    intro d dd hd hn hv
    refine Evt.succ ?_
    simp only [windbreakref01_Read.l1]
    refine Evt.ite_neg (by omega) ?_
    rw [List.take_of_length_le (by simp; omega)] at hv
    refine Evt.bind (windbreakref01_cut_ev d (by simp [maxLen]; omega)) ?_
    have hlt := val_b8_lt (db.drop k) h5
    have hnum : num16 d = (val (b8 : Int) (b.drop k).reverse).toNat := by unfold num16; rw [hv]
    rw [strip_digs dd, hnum]
    have hlim : (val (b8 : Int) (b.drop k).reverse).toNat < lim := Nat.lt_of_lt_of_le hlt (lim_pow (by omega))
    have ht := ref_told_ev _ hlim
    unfold toldV at ht
    rw [if_pos hlt] at ht
    exact Evt.bind ht (h := fun t _ => some (t.1, t.2)) (Evt.pure _)
  | succ n ih =>
    intro d dd hd hn hv
    refine Evt.succ ?_
    simp only [windbreakref01_Read.l1]
    have hx := db.getD b8_pos (b.length - 1 - 2 * d.length)
    have hy := db.getD b8_pos (b.length - 1 - (2 * d.length + 1))
    have r0 := rev_at (b := b) (k := k) (q := 2 * d.length) (by simp; omega)
    rw [w64 (show -9223372036854775808 ≤ (b.length : Int) - 1 - 2 * (d.length : Int) - 1 by omega) (by omega), w64 (show -9223372036854775808 ≤ (b.length : Int) - 1 - 2 * (d.length : Int) - 2 by omega) (by omega)]
    refine Evt.ite_pos (by omega) (Evt.ite_pos (by omega) (Evt.ite_pos (by omega) ?_))
    rw [rd_getD b ((b.length : Int) - 1 - 2 * (d.length : Int)), show ((b.length : Int) - 1 - 2 * (d.length : Int)).toNat = b.length - 1 - 2 * d.length from by omega]
    by_cases h2 : (b.length : Int) - 1 - 2 * (d.length : Int) - 1 ≥ (k : Int)
    · have r1 := rev_at (b := b) (k := k) (q := 2 * d.length + 1) (by simp; omega)
      refine Evt.ite_pos h2 (Evt.ite_pos (by omega) (Evt.ite_pos (by omega) (Evt.ite_pos (by omega) ?_)))
      rw [rd_getD b ((b.length : Int) - 1 - 2 * (d.length : Int) - 1), show ((b.length : Int) - 1 - 2 * (d.length : Int) - 1).toNat = b.length - 1 - (2 * d.length + 1) from by omega]
      generalize b.getD (b.length - 1 - 2 * d.length) 0 = x at *
      generalize b.getD (b.length - 1 - (2 * d.length + 1)) 0 = y at *
      simp only [b8] at hx hy
      rw [wu64_of (x := x) (by omega) (by omega), wu64_of (x := y) (by omega) (by omega), wu64_of (x := 256 * y) (by omega) (by omega), wu64_of (x := x + 256 * y) (by omega) (by omega)]
      have h := ih (d ++ [x + 256 * y]) (Dig.append.2 ⟨dd, fun z hz => by simp at hz; subst hz; simp only [b16]; omega⟩) (by simp; omega) (by simp; omega) ?_
      · refine h.congr (fun m => ?_) rfl
        congr 1
        simp
        omega
      · rw [val_append, hv, pow_b16_b8, List.length_append, List.length_singleton, show 2 * (d.length + 1) = 2 * d.length + 1 + 1 from by omega, val_take_step _ _ _ (by simp; omega), val_take_step _ _ _ (by simp; omega), r0, r1, Int.pow_succ]
        simp only [val]
        rw [show ((b8 : Nat) : Int) = 256 from rfl]
        generalize (256 : Int) ^ (2 * d.length) = P
        generalize val 256 _ = V
        grind
    · refine Evt.ite_neg h2 (Evt.ite_pos (by omega) ?_)
      generalize b.getD (b.length - 1 - 2 * d.length) 0 = x at *
      simp only [b8] at hx
      rw [wu64_of (x := x) (by omega) (by omega)]
      have h := ih (d ++ [x]) (Dig.append.2 ⟨dd, fun z hz => by simp at hz; subst hz; simp only [b16]; omega⟩) (by simp; omega) (by simp; omega) ?_
      · refine h.congr (fun m => ?_) rfl
        congr 1
        simp
        omega
      · rw [val_append, hv, pow_b16_b8, List.length_append, List.length_singleton, show 2 * (d.length + 1) = 2 * d.length + 1 + 1 from by omega]
        rw [List.take_of_length_le (i := 2 * d.length + 1 + 1) (by simp; omega), ← List.take_of_length_le (i := 2 * d.length + 1) (l := (b.drop k).reverse) (by simp; omega), val_take_step _ _ _ (by simp; omega), r0]
        rw [List.take_take, Nat.min_eq_left (by omega)]
        simp [val]
theorem ref_Read_ev (b : List Int) (hb : b.length ≤ maxLen) (db : Dig (b8 : Int) b) (k : Nat) (hk : k ≤ b.length) (hz : ∀ j, j < k → b.getD j 0 = 0) (hn : k < b.length → b.getD k 0 ≠ 0) : Evt (fun m => windbreakref01_Read.f m b) (readV (b.drop k)) := by
  have hbl : b.length ≤ 9223372036854775807 := by simp only [maxLen] at hb; omega
  have hj : Evt (fun m => windbreakref01_Read.j1 m b (k : Int)) (readV (b.drop k)) := by
    refine Evt.succ ?_
    simp only [windbreakref01_Read.j1]
    unfold readV
    rw [w64 (show -9223372036854775808 ≤ (b.length : Int) - (k : Int) by omega) (by omega), w64 (show -9223372036854775808 ≤ (b.length : Int) - 1 by omega) (by omega)]
    by_cases hc : (b.drop k).length > 512
    · have hc' : b.length - k > 512 := by simpa using hc
      rw [if_pos hc]
      exact Evt.ite_pos (by omega) (Evt.pure _)
    · have hc' : ¬ b.length - k > 512 := by simpa using hc
      rw [if_neg hc]
      refine Evt.ite_neg (by omega) ?_
      have h := ref_Read_l1 b k hk hbl db (by omega) ((b.length - k + 1) / 2) [] Dig.nil (by simp) (by simp) rfl
      refine h.congr (fun m => ?_) rfl
      simp
  have hl : ∀ (n i : Nat), k - i = n → i ≤ k → Evt (fun m => windbreakref01_Read.l0 m b (i : Int)) (readV (b.drop k)) := by
    intro n
    induction n with
    | zero =>
      intro i h1 h2
      obtain rfl : i = k := by omega
      refine Evt.succ ?_
      simp only [windbreakref01_Read.l0]
      by_cases h : i < b.length
      · refine Evt.ite_pos (by omega) (Evt.ite_pos (by omega) ?_)
        rw [rd_nat]
        exact Evt.ite_neg (hn h) hj
      · exact Evt.ite_neg (by omega) hj
    | succ n ih =>
      intro i h1 h2
      refine Evt.succ ?_
      simp only [windbreakref01_Read.l0]
      refine Evt.ite_pos (by omega) (Evt.ite_pos (by omega) ?_)
      rw [rd_nat, w64 (by omega) (by omega)]
      exact Evt.ite_pos (hz i (by omega)) (ih (i + 1) (by omega) (by omega))
  exact (hl k 0 (by omega) (Nat.zero_le _)).congr (fun m => rfl) rfl
end Go.Proofs.Ytlkinjhmgljapab.Z
end
section
namespace Go.Proofs.Ytlkinjhmgljapab.F
open Go.RowKit Go.Proofs.YtlkinjhmgljapabW.PrintWords Go.Proofs.YtlkinjhmgljapabW.PrintLast Go.Proofs.YtlkinjhmgljapabW.PrintMore
attribute [local go_sem] max2_int min2_int max_two min_two max_three min_three max_four min_four
set_option linter.unusedVariables false
set_option linter.unusedSimpArgs false
mutual
def windbreakref01_In.l0 : Nat → List Int → List Int → Int → Option (List Int)
 | 0, _, _, _ => none
 | k + 1, x0, x3, x4 => if x4 < (x0.length : Int) then (if 0 ≤ x4 then (windbreakref01_In.l1 k x0 x3 x4 (rd x0 x4) 0) else (none)) else ((windbreakref01_cut.f k x3).bind fun t178 => (some t178))
def windbreakref01_In.l1 : Nat → List Int → List Int → Int → Int → Int → Option (List Int)
 | 0, _, _, _, _, _ => none
 | k + 1, x0, x3, x4, x5, x6 => if x6 < 4 then (if x3.length < 17592186044416 then (windbreakref01_In.l1 k x0 (x3 ++ [Int.tmod x5 65536]) x4 (IntKind.u64.wrap (Int.tdiv x5 65536)) (wrap64 (x6 + 1))) else (none)) else (windbreakref01_In.l0 k x0 x3 (wrap64 (x4 + 1)))
end
def windbreakref01_In.f (k : Nat) (l0 : List Int) : Option (List Int) := windbreakref01_In.l0 k l0 ([] : List Int) 0
end Go.Proofs.Ytlkinjhmgljapab.F
end
section
namespace Go.Proofs.Ytlkinjhmgljapab.Z
open Go.RowKit Go.Proofs.Ytlkinjhmgljapab.F Go.Proofs.YtlkinjhmgljapabW.PrintWords
set_option linter.unusedSimpArgs false
set_option linter.unusedVariables false
def dg (x : Int) : List Int := [x % 65536, x / 65536 % 65536, x / 65536 / 65536 % 65536, x / 65536 / 65536 / 65536 % 65536]
theorem wdiv {x : Int} (h0 : 0 ≤ x) (h1 : x < 18446744073709551616) (c : Int) (hc : 0 < c) : IntKind.u64.wrap (Int.tdiv x c) = x / c := by
  rw [Int.tdiv_eq_ediv_of_nonneg h0]
  have h2 := Int.ediv_nonneg h0 (Int.le_of_lt hc)
  have h3 := Int.ediv_le_self c h0
  exact wu64_of h2 (by omega)
theorem in_step (a d : List Int) (i : Nat) (x : Int) (hx : 0 ≤ x ∧ x < 18446744073709551616) (hd : d.length ≤ 1000000) (hi : i ≤ 1000000) {r : List Int}
    (h : Evt (fun k => windbreakref01_In.l0 k a (d ++ dg x) ((i + 1 : Nat) : Int)) r) : Evt (fun k => windbreakref01_In.l1 k a d (i : Int) x 0) r := by
  refine Evt.succ ?_
  simp only [windbreakref01_In.l1]
  refine Evt.ite_pos (by omega) (Evt.ite_pos (by omega) ?_)
  rw [Int.tmod_eq_emod_of_nonneg hx.1, wdiv hx.1 hx.2 65536 (by omega), w64 (by omega) (by omega)]
  refine Evt.succ ?_
  simp only [windbreakref01_In.l1]
  refine Evt.ite_pos (by omega) (Evt.ite_pos (by simp; omega) ?_)
  rw [Int.tmod_eq_emod_of_nonneg (show 0 ≤ x / 65536 by omega), wdiv (show 0 ≤ x / 65536 by omega) (by omega) 65536 (by omega), w64 (by omega) (by omega)]
  refine Evt.succ ?_
  simp only [windbreakref01_In.l1]
  refine Evt.ite_pos (by omega) (Evt.ite_pos (by simp; omega) ?_)
  rw [Int.tmod_eq_emod_of_nonneg (show 0 ≤ x / 65536 / 65536 by omega), wdiv (show 0 ≤ x / 65536 / 65536 by omega) (by omega) 65536 (by omega), w64 (by omega) (by omega)]
  refine Evt.succ ?_
  simp only [windbreakref01_In.l1]
  refine Evt.ite_pos (by omega) (Evt.ite_pos (by simp; omega) ?_)
  rw [Int.tmod_eq_emod_of_nonneg (show 0 ≤ x / 65536 / 65536 / 65536 by omega), wdiv (show 0 ≤ x / 65536 / 65536 / 65536 by omega) (by omega) 65536 (by omega), w64 (by omega) (by omega)]
  refine Evt.succ ?_
  simp only [windbreakref01_In.l1]
  refine Evt.ite_neg (by omega) ?_
  rw [w64 (by omega) (by omega)]
  refine h.congr (fun k => ?_) rfl
  simp [dg]
theorem in_loop (a : List Int) (ha : a.length ≤ 1000) (hd : Dig (b64 : Int) a) (n : Nat) : ∀ i : Nat, i ≤ a.length → a.length - i = n → Evt (fun k => windbreakref01_In.l0 k a ((a.take i).flatMap dg) (i : Int)) (strip (a.flatMap dg)) := by
  have hlen : ∀ l : List Int, (l.flatMap dg).length = 4 * l.length := by
    intro l
    induction l with
    | nil => rfl
    | cons x l ih => simp only [List.flatMap_cons, List.length_append, ih, dg, List.length_cons, List.length_nil]; omega
  induction n with
  | zero =>
    intro i hi hn
    refine Evt.succ ?_
    simp only [windbreakref01_In.l0]
    refine Evt.ite_neg (by omega) ?_
    rw [List.take_of_length_le (by omega)]
    refine Evt.bind (windbreakref01_cut_ev _ (by rw [hlen]; simp [maxLen]; omega)) (h := fun t _ => some t) (Evt.pure _)
  | succ n ih =>
    intro i hi hn
    have hlt : i < a.length := by omega
    refine Evt.succ ?_
    simp only [windbreakref01_In.l0]
    refine Evt.ite_pos (by omega) (Evt.ite_pos (by omega) ?_)
    have hx : rd a (i : Int) = a[i] := by simp [rd_nat, hlt]
    have hr := hd a[i] (List.getElem_mem hlt)
    rw [hx]
    refine in_step a _ i _ hr (by rw [hlen, List.length_take]; omega) (by omega) ?_
    have := ih (i + 1) (by omega) (by omega)
    rw [List.take_succ_eq_append_getElem hlt, List.flatMap_append] at this
    refine this.congr (fun k => ?_) rfl
    simp
theorem ref_In_ev (a : List Int) (ha : a.length ≤ 1000) (hd : Dig (b64 : Int) a) : Evt (fun k => windbreakref01_In.f k a) (digs (num a)) := by
  have h := in_loop a ha hd a.length 0 (Nat.zero_le _) (by omega)
  obtain ⟨m, hm, _, hv, he⟩ := val_base a hd
  refine h.congr (fun k => rfl) ?_
  have e2 : a.flatMap dg = m := he.symm
  rw [e2, strip_digs hm]
  unfold num16 num
  rw [hv]
end Go.Proofs.Ytlkinjhmgljapab.Z
end
section
namespace Go.Proofs.Ytlkinjhmgljapab.F
open Go.RowKit Go.Proofs.YtlkinjhmgljapabW.PrintWords Go.Proofs.YtlkinjhmgljapabW.PrintLast Go.Proofs.YtlkinjhmgljapabW.PrintMore
attribute [local go_sem] max2_int min2_int max_two min_two max_three min_three max_four min_four
set_option linter.unusedVariables false
set_option linter.unusedSimpArgs false
def windbreakref01_Cmp.j0 : Nat → List Int → List Int → Bool → Option (Int)
 | 0, _, _, _ => none
 | k + 1, x0, x1, x16 => if x16 = true then (some 0) else ((windbreakref01_In.f k x0).bind fun t329 => ((windbreakref01_In.f k x1).bind fun t332 => ((windbreakref01_compare.f k t329 t332).bind fun t335 => (some t335))))
def windbreakref01_Cmp.f (k : Nat) (l0 : List Int) (l1 : List Int) : Option (Int) := (windbreakref01_Right.f l0).bind fun t327 => ((windbreakref01_Right.f l1).bind fun t328 => (if t327 = true then (windbreakref01_Cmp.j0 k l0 l1 (!t328)) else (windbreakref01_Cmp.j0 k l0 l1 true)))
def windbreakref01_Sub.j0 : Nat → List Int → List Int → Bool → Option (List Int × Int)
 | 0, _, _, _ => none
 | k + 1, x0, x1, x19 => if x19 = true then (some (([] : List Int), 1)) else ((windbreakref01_In.f k x0).bind fun t208 => ((windbreakref01_In.f k x1).bind fun t211 => ((windbreakref01_compare.f k t208 t211).bind fun t214 => (if t214 < 0 then (some (([] : List Int), 2)) else ((windbreakref01_sub.f k t208 t211).bind fun t215 => ((windbreakref01_told.f k t215).bind fun bt218 => (some (bt218.1, bt218.2))))))))
def windbreakref01_Sub.f (k : Nat) (l0 : List Int) (l1 : List Int) : Option (List Int × Int) := (windbreakref01_Right.f l0).bind fun t206 => ((windbreakref01_Right.f l1).bind fun t207 => (if t206 = true then (windbreakref01_Sub.j0 k l0 l1 (!t207)) else (windbreakref01_Sub.j0 k l0 l1 true)))
end Go.Proofs.Ytlkinjhmgljapab.F
end
section
namespace Go.Proofs.Ytlkinjhmgljapab.Z
open Go.RowKit Go.Proofs.Ytlkinjhmgljapab.F Go.Proofs.YtlkinjhmgljapabW.PrintWords
set_option linter.unusedSimpArgs false
set_option linter.unusedVariables false
def cmpW (a b : List Int) : Int := if rightB a = true ∧ rightB b = true then cmpN (num a) (num b) else 0
theorem ref_Cmp_ev (a b : List Int) (ha : a.length ≤ maxLen) (hb : b.length ≤ maxLen) (da : Dig (b64 : Int) a) (db : Dig (b64 : Int) b) : Evt (fun k => windbreakref01_Cmp.f k a b) (cmpW a b) := by
  unfold windbreakref01_Cmp.f cmpW
  rw [windbreakref01_Right_eq ha, windbreakref01_Right_eq hb]
  simp only [Option.bind_some]
  have J : ∀ x : Bool, (x = false → rightB a = true ∧ rightB b = true) → Evt (fun k => windbreakref01_Cmp.j0 k a b x) (if x = true then 0 else cmpN (num a) (num b)) := by
    intro x hx
    refine Evt.succ ?_
    simp only [windbreakref01_Cmp.j0]
    refine Evt.cond (fun _ => Evt.pure _) (fun hc => ?_)
    have h := hx (by simpa using hc)
    obtain ⟨h1, c1⟩ := (rightB_iff a).1 h.1
    obtain ⟨h2, c2⟩ := (rightB_iff b).1 h.2
    refine Evt.bind (ref_In_ev a (by omega) da) (Evt.bind (ref_In_ev b (by omega) db) ?_)
    exact Evt.bind (ref_compare_ev _ _ (num_lt_lim da (by omega))) (h := fun t _ => some t) (Evt.pure _)
  cases hA : rightB a with
  | true =>
    refine Evt.ite_pos rfl ((J _ (fun h => ⟨hA, by simpa using h⟩)).congr (fun k => rfl) ?_)
    cases hB : rightB b <;> simp
  | false =>
    refine Evt.ite_neg (by simp) ((J _ (fun h => by simp at h)).congr (fun k => rfl) ?_)
    simp
def subW (a b : List Int) : List Int × Int := if rightB a = true ∧ rightB b = true then (if num a < num b then ([], 2) else (limbs (num a - num b), 0)) else ([], 1)
theorem ref_Sub_ev (a b : List Int) (ha : a.length ≤ maxLen) (hb : b.length ≤ maxLen) (da : Dig (b64 : Int) a) (db : Dig (b64 : Int) b) : Evt (fun k => windbreakref01_Sub.f k a b) (subW a b) := by
  unfold windbreakref01_Sub.f subW
  rw [windbreakref01_Right_eq ha, windbreakref01_Right_eq hb]
  simp only [Option.bind_some]
  have J : ∀ x : Bool, (x = false → rightB a = true ∧ rightB b = true) → Evt (fun k => windbreakref01_Sub.j0 k a b x) (if x = true then ([], 1) else if num a < num b then ([], 2) else (limbs (num a - num b), 0)) := by
    intro x hx
    refine Evt.succ ?_
    simp only [windbreakref01_Sub.j0]
    refine Evt.cond (fun _ => Evt.pure _) (fun hc => ?_)
    have h := hx (by simpa using hc)
    obtain ⟨h1, c1⟩ := (rightB_iff a).1 h.1
    obtain ⟨h2, c2⟩ := (rightB_iff b).1 h.2
    have n1 : num a < b64 ^ 64 := num_lt_p da h1
    have n2 := num_lt_lim da (by omega)
    refine Evt.bind (ref_In_ev a (by omega) da) (Evt.bind (ref_In_ev b (by omega) db) ?_)
    refine Evt.bind (ref_compare_ev (num a) (num b) n2) ?_
    by_cases hlt : num a < num b
    · have e : cmpN (num a) (num b) = -1 := if_pos hlt
      rw [e, if_pos hlt]
      exact Evt.ite_pos (by omega) (Evt.pure _)
    · have e : ¬ cmpN (num a) (num b) < 0 := by
        unfold cmpN
        rw [if_neg hlt]
        by_cases e2 : num a = num b
        · rw [if_pos e2]; omega
        · rw [if_neg e2]; omega
      rw [if_neg hlt]
      refine Evt.ite_neg e ?_
      refine Evt.bind (ref_sub_ev (num a) (num b) n2 (by omega)) ?_
      have h5 := ref_told_ev (num a - num b) (by omega)
      have e3 : toldV (num a - num b) = (limbs (num a - num b), 0) := if_pos (by omega)
      rw [e3] at h5
      exact Evt.bind h5 (h := fun t _ => some (t.1, t.2)) (Evt.pure _)
  cases hA : rightB a with
  | true =>
    refine Evt.ite_pos rfl ((J _ (fun h => ⟨hA, by simpa using h⟩)).congr (fun k => rfl) ?_)
    cases hB : rightB b <;> simp
  | false =>
    refine Evt.ite_neg (by simp) ((J _ (fun h => by simp at h)).congr (fun k => rfl) ?_)
    simp
end Go.Proofs.Ytlkinjhmgljapab.Z
end
section
namespace Go.Proofs.Ytlkinjhmgljapab.F
open Go.RowKit Go.Proofs.YtlkinjhmgljapabW.PrintWords Go.Proofs.YtlkinjhmgljapabW.PrintLast Go.Proofs.YtlkinjhmgljapabW.PrintMore
attribute [local go_sem] max2_int min2_int max_two min_two max_three min_three max_four min_four
set_option linter.unusedVariables false
set_option linter.unusedSimpArgs false
mutual
def windbreakref01_mul.l0 : Nat → List Int → List Int → List Int → Int → Option (List Int)
 | 0, _, _, _, _ => none
 | k + 1, x0, x1, x5, x6 => if x6 < (x0.length : Int) then (windbreakref01_mul.l1 k x0 x1 x5 x6 0 0) else ((windbreakref01_cut.f k x5).bind fun t249 => (some t249))
def windbreakref01_mul.l1 : Nat → List Int → List Int → List Int → Int → Int → Int → Option (List Int)
 | 0, _, _, _, _, _, _ => none
 | k + 1, x0, x1, x5, x6, x7, x8 => if x8 < (x1.length : Int) then (if 0 ≤ (wrap64 (x6 + x8)) then (if (wrap64 (x6 + x8)) < (x5.length : Int) then (if 0 ≤ x6 then (if x6 < (x0.length : Int) then (if 0 ≤ x8 then (windbreakref01_mul.l1 k x0 x1 (x5.set ((wrap64 (x6 + x8)) : Int).toNat (Int.tmod (IntKind.u64.wrap ((IntKind.u64.wrap ((rd x5 (wrap64 (x6 + x8))) + (IntKind.u64.wrap ((rd x0 x6) * (rd x1 x8))))) + x7)) 65536)) x6 (IntKind.u64.wrap (Int.tdiv (IntKind.u64.wrap ((IntKind.u64.wrap ((rd x5 (wrap64 (x6 + x8))) + (IntKind.u64.wrap ((rd x0 x6) * (rd x1 x8))))) + x7)) 65536)) (wrap64 (x8 + 1))) else (none)) else (none)) else (none)) else (none)) else (none)) else (if 0 ≤ (wrap64 (x6 + (x1.length : Int))) then (if (wrap64 (x6 + (x1.length : Int))) < (x5.length : Int) then (windbreakref01_mul.l0 k x0 x1 (x5.set ((wrap64 (x6 + (x1.length : Int))) : Int).toNat x7) (wrap64 (x6 + 1))) else (none)) else (none))
end
def windbreakref01_mul.f (k : Nat) (l0 : List Int) (l1 : List Int) : Option (List Int) := if 0 ≤ (wrap64 ((l0.length : Int) + (l1.length : Int))) then (if (wrap64 ((l0.length : Int) + (l1.length : Int)) : Int).toNat ≤ 35184372088832 then (windbreakref01_mul.l0 k l0 l1 (List.replicate (wrap64 ((l0.length : Int) + (l1.length : Int)) : Int).toNat 0) 0) else (none)) else (none)
end Go.Proofs.Ytlkinjhmgljapab.F
end
section
namespace Go.Proofs.Ytlkinjhmgljapab.Z
open Go.RowKit Go.Proofs.Ytlkinjhmgljapab.F Go.Proofs.YtlkinjhmgljapabW.PrintWords
set_option linter.unusedSimpArgs false
set_option linter.unusedVariables false
theorem mul_lt {x y : Int} (hx : 0 ≤ x ∧ x ≤ 65535) (hy : 0 ≤ y ∧ y ≤ 65535) : 0 ≤ x * y ∧ x * y ≤ 4294836225 := by
  have h1 := Int.mul_nonneg hx.1 hy.1
  have h2 : x * y ≤ 65535 * y := Int.mul_le_mul_of_nonneg_right hx.2 hy.1
  omega
theorem ref_mul_inner (a b : List Int) (da : Dig (b16 : Int) a) (db : Dig (b16 : Int) b) (ha : a.length ≤ 100000) (hb : b.length ≤ 100000) (i n : Nat) (hi : i < a.length) (hn : a.length - (i + 1) = n) {r : List Int}
    (next : ∀ p : List Int, p.length = i + 1 + b.length → Dig (b16 : Int) p → val (b16 : Int) p = val (b16 : Int) (a.take (i + 1)) * val (b16 : Int) b → Evt (fun k => windbreakref01_mul.l0 k a b (p ++ List.replicate n 0) ((i + 1 : Nat) : Int)) r) (m : Nat) :
    ∀ (j : Nat) (p : List Int) (c : Int), b.length - j = m → j ≤ b.length → p.length = i + b.length → Dig (b16 : Int) p → 0 ≤ c ∧ c < (b16 : Int) →
      val (b16 : Int) p + c * (b16 : Int) ^ (i + j) = val (b16 : Int) (a.take i) * val (b16 : Int) b + (b16 : Int) ^ i * a[i] * val (b16 : Int) (b.take j) →
      Evt (fun k => windbreakref01_mul.l1 k a b (p ++ List.replicate (n + 1) 0) (i : Int) c (j : Int)) r := by
  induction m with
  | zero =>
    intro j p c hj hjl hp dp hc hv
    refine Evt.succ ?_
    simp only [windbreakref01_mul.l1]
    refine Evt.ite_neg (by omega) ?_
    rw [w64 (show -9223372036854775808 ≤ (i : Int) + (b.length : Int) by omega) (by omega)]
    refine Evt.ite_pos (by omega) (Evt.ite_pos (by simp; omega) ?_)
    rw [w64 (by omega) (by omega), show ((i : Int) + (b.length : Int)).toNat = p.length from by omega, List.replicate_succ, set_at]
    have hj2 : j = b.length := by omega
    subst hj2
    rw [List.take_length] at hv
    refine (next (p ++ [c]) (by simp; omega) (Dig.append.2 ⟨dp, Dig.cons.2 ⟨hc, Dig.nil⟩⟩) ?_).congr (fun k => by rw [List.append_assoc]; rfl) rfl
    rw [val_append, hp, val_take_step (b16 : Int) a i hi]
    simp only [val, Int.mul_zero, Int.add_zero]
    generalize val (b16 : Int) (a.take i) = va at *
    generalize val (b16 : Int) b = vb at *
    generalize (b16 : Int) ^ (i + b.length) = P at *
    generalize (b16 : Int) ^ i = Q at *
    have : (va + Q * a[i]) * vb = va * vb + Q * a[i] * vb := by grind
    rw [this, ← hv, Int.mul_comm P c]
  | succ m ih =>
    intro j p c hj hjl hp dp hc hv
    have hjlt : j < b.length := by omega
    refine Evt.succ ?_
    simp only [windbreakref01_mul.l1]
    refine Evt.ite_pos (by omega) ?_
    rw [w64 (show -9223372036854775808 ≤ (i : Int) + (j : Int) by omega) (by omega)]
    refine Evt.ite_pos (by omega) (Evt.ite_pos (by simp; omega) (Evt.ite_pos (by omega) (Evt.ite_pos (by omega) (Evt.ite_pos (by omega) ?_))))
    have hx : rd a (i : Int) = a[i] := by simp [rd_nat, hi]
    have hy : rd b (j : Int) = b[j] := by simp [rd_nat, hjlt]
    have hz : rd (p ++ List.replicate (n + 1) 0) ((i : Int) + (j : Int)) = p.getD (i + j) 0 := by
      rw [rd_getD, show ((i : Int) + (j : Int)).toNat = i + j from by omega, getD_append_left (by omega)]
    have rx := da a[i] (List.getElem_mem hi)
    have ry := db b[j] (List.getElem_mem hjlt)
    have rz := dp.getD b16_pos (i + j)
    rw [hx, hy, hz, show ((i : Int) + (j : Int)).toNat = i + j from by omega, set_append_left (by omega)]
    have hB : (b16 : Int) = 65536 := rfl
    rw [hB] at rx ry rz hc
    obtain ⟨m1, m2⟩ := mul_lt (show 0 ≤ a[i] ∧ a[i] ≤ 65535 by omega) (show 0 ≤ b[j] ∧ b[j] ≤ 65535 by omega)
    have hv2 := val_set (b16 : Int) p (i + j) ((p.getD (i + j) 0 + a[i] * b[j] + c) % 65536) (by omega)
    have hvt := val_take_step (b16 : Int) b j hjlt
    generalize hxy : a[i] * b[j] = z at *
    rw [wu64_of m1 (by omega), wu64_of (show 0 ≤ p.getD (i + j) 0 + z by omega) (by omega), wu64_of (show 0 ≤ p.getD (i + j) 0 + z + c by omega) (by omega), Int.tmod_eq_emod_of_nonneg (by omega), Int.tdiv_eq_ediv_of_nonneg (by omega), wu64_of (by omega) (by omega), w64 (by omega) (by omega)]
    refine (ih (j + 1) (p.set (i + j) ((p.getD (i + j) 0 + z + c) % 65536)) ((p.getD (i + j) 0 + z + c) / 65536) (by omega) (by omega) (by simp; omega) (dp.set _ (by rw [hB]; omega)) (by rw [hB]; omega) ?_).congr (fun k => rfl) rfl
    rw [hv2, hvt]
    have hdm := Int.emod_add_mul_ediv (p.getD (i + j) 0 + z + c) 65536
    have hP : (b16 : Int) ^ (i + (j + 1)) = (b16 : Int) ^ (i + j) * 65536 := by rw [← Nat.add_assoc, Int.pow_succ]; rfl
    have hQ : (b16 : Int) ^ (i + j) = (b16 : Int) ^ i * (b16 : Int) ^ j := Int.pow_add ..
    rw [hP]
    generalize (p.getD (i + j) 0 + z + c) % 65536 = u at *
    generalize (p.getD (i + j) 0 + z + c) / 65536 = q at *
    generalize p.getD (i + j) 0 = y0 at *
    generalize val (b16 : Int) (a.take i) = va at *
    generalize val (b16 : Int) (b.take j) = vt at *
    generalize val (b16 : Int) b = vb at *
    generalize val (b16 : Int) p = vp at *
    generalize (b16 : Int) ^ (i + j) = P at *
    generalize (b16 : Int) ^ i = Q at *
    generalize (b16 : Int) ^ j = R at *
    subst hQ
    generalize a[i] = ai at *
    generalize b[j] = bj at *
    subst hxy
    have e1 : u = y0 + ai * bj + c - 65536 * q := by omega
    rw [e1]
    have e2 : vp = va * vb + Q * ai * vt - c * (Q * R) := by omega
    rw [e2]
    grind
theorem ref_mul_loop (a b : List Int) (da : Dig (b16 : Int) a) (db : Dig (b16 : Int) b) (ha : a.length ≤ 100000) (hb : b.length ≤ 100000) (n : Nat) :
    ∀ (i : Nat) (p : List Int), a.length - i = n → i ≤ a.length → p.length = i + b.length → Dig (b16 : Int) p → val (b16 : Int) p = val (b16 : Int) (a.take i) * val (b16 : Int) b →
      Evt (fun k => windbreakref01_mul.l0 k a b (p ++ List.replicate n 0) (i : Int)) (digs (num16 a * num16 b)) := by
  induction n with
  | zero =>
    intro i p hn hi hp dp hv
    refine Evt.succ ?_
    simp only [windbreakref01_mul.l0]
    refine Evt.ite_neg (by omega) ?_
    have h := windbreakref01_cut_ev (p ++ List.replicate 0 0) (by simp [maxLen]; omega)
    rw [List.replicate_zero, List.append_nil, strip_digs dp] at h
    have e : num16 p = num16 a * num16 b := by
      rw [List.take_of_length_le (by omega)] at hv
      have h1 := num16_val dp
      have h2 := num16_val da
      have h3 := num16_val db
      have : ((num16 p : Nat) : Int) = ((num16 a * num16 b : Nat) : Int) := by rw [h1, hv, Int.natCast_mul, h2, h3]
      omega
    rw [e] at h
    refine (Evt.bind h (h := fun t _ => some t) (Evt.pure _)).congr (fun k => by simp) rfl
  | succ n ih =>
    intro i p hn hi hp dp hv
    refine Evt.succ ?_
    simp only [windbreakref01_mul.l0]
    refine Evt.ite_pos (by omega) ?_
    refine ref_mul_inner a b da db ha hb i n (by omega) (by omega) (fun q h1 h2 h3 => ih (i + 1) q (by omega) (by omega) h1 h2 h3) b.length 0 p 0 (by omega) (by omega) hp dp (by decide) ?_
    simp [hv, val]
theorem ref_mul_ev (a b : List Int) (da : Dig (b16 : Int) a) (db : Dig (b16 : Int) b) (ha : a.length ≤ 100000) (hb : b.length ≤ 100000) : Evt (fun k => windbreakref01_mul.f k a b) (digs (num16 a * num16 b)) := by
  unfold windbreakref01_mul.f
  rw [w64 (show -9223372036854775808 ≤ (a.length : Int) + (b.length : Int) by omega) (by omega)]
  refine Evt.ite_pos (by omega) (Evt.ite_pos (by omega) ?_)
  refine (ref_mul_loop a b da db ha hb a.length 0 (List.replicate b.length 0) (by omega) (by omega) (by simp) (Dig.replicate b16_pos _) (by simp [val_replicate, val])).congr (fun k => ?_) rfl
  rw [show ((a.length : Int) + (b.length : Int)).toNat = b.length + a.length from by omega, List.replicate_append_replicate]
  rfl
end Go.Proofs.Ytlkinjhmgljapab.Z
end
section
namespace Go.Proofs.Ytlkinjhmgljapab.F
open Go.RowKit Go.Proofs.YtlkinjhmgljapabW.PrintWords Go.Proofs.YtlkinjhmgljapabW.PrintLast Go.Proofs.YtlkinjhmgljapabW.PrintMore
attribute [local go_sem] max2_int min2_int max_two min_two max_three min_three max_four min_four
set_option linter.unusedVariables false
set_option linter.unusedSimpArgs false
mutual
def windbreakref01_div.l0 : Nat → List Int → List Int → List Int → List Int → Int → Option (List Int × List Int)
 | 0, _, _, _, _, _ => none
 | k + 1, x0, x1, x6, x7, x8 => if x8 ≥ 0 then (if 0 ≤ x8 then (if x8 < (x0.length : Int) then ((some (([rd x0 x8] : List Int) : List Int)).bind fun y264 => (if y264.length + x7.length < 17592186044416 then ((windbreakref01_cut.f k (y264 ++ x7)).bind fun t270 => (windbreakref01_div.l1 k x0 x1 x6 t270 x8 0 65535)) else (none))) else (none)) else (none)) else ((windbreakref01_cut.f k x6).bind fun t260 => (some (t260, x7)))
def windbreakref01_div.l1 : Nat → List Int → List Int → List Int → List Int → Int → Int → Int → Option (List Int × List Int)
 | 0, _, _, _, _, _, _, _ => none
 | k + 1, x0, x1, x6, x7, x8, x9, x10 => if x9 < x10 then ((windbreakref01_mul.f k x1 (([IntKind.u64.wrap (Int.tdiv (IntKind.u64.wrap ((IntKind.u64.wrap (x9 + x10)) + 1)) 2)] : List Int))).bind fun t286 => ((windbreakref01_compare.f k t286 x7).bind fun t289 => (if t289 ≤ 0 then (windbreakref01_div.l1 k x0 x1 x6 x7 x8 (IntKind.u64.wrap (Int.tdiv (IntKind.u64.wrap ((IntKind.u64.wrap (x9 + x10)) + 1)) 2)) x10) else (windbreakref01_div.l1 k x0 x1 x6 x7 x8 x9 (IntKind.u64.wrap ((IntKind.u64.wrap (Int.tdiv (IntKind.u64.wrap ((IntKind.u64.wrap (x9 + x10)) + 1)) 2)) - 1)))))) else (if 0 ≤ x8 then (if x8 < (x6.length : Int) then ((windbreakref01_mul.f k x1 (([x9] : List Int))).bind fun t277 => ((windbreakref01_sub.f k x7 t277).bind fun t280 => (windbreakref01_div.l0 k x0 x1 (x6.set (x8 : Int).toNat x9) t280 (wrap64 (x8 - 1))))) else (none)) else (none))
end
def windbreakref01_div.f (k : Nat) (l0 : List Int) (l1 : List Int) : Option (List Int × List Int) := if 0 ≤ (l0.length : Int) then (if ((l0.length : Int) : Int).toNat ≤ 35184372088832 then (windbreakref01_div.l0 k l0 l1 (List.replicate ((l0.length : Int) : Int).toNat 0) ([] : List Int) (wrap64 ((l0.length : Int) - 1))) else (none)) else (none)
end Go.Proofs.Ytlkinjhmgljapab.F
end
section
namespace Go.Proofs.Ytlkinjhmgljapab.Z
open Go.RowKit Go.Proofs.Ytlkinjhmgljapab.F Go.Proofs.YtlkinjhmgljapabW.PrintWords
set_option linter.unusedSimpArgs false
set_option linter.unusedVariables false
theorem dig_one16 {x : Int} (h : 0 ≤ x ∧ x < 65536) : Dig (b16 : Int) [x] := Dig.cons.2 ⟨h, Dig.nil⟩
theorem num16_one {x : Int} (h : 0 ≤ x) : num16 [x] = x.toNat := by simp [num16, val]
theorem ref_div_halve (a : List Int) (w X : Nat) (q : List Int) (i : Nat) (hw : 0 < w) (hwl : w * 65536 < lim) (hX : X < lim) {r : List Int × List Int} (hq : q.length = a.length) (hi : i < a.length)
    (next : ∀ d : Nat, d < 65536 → d * w ≤ X → X < (d + 1) * w → Evt (fun k => windbreakref01_div.l0 k a (digs w) (q.set i (d : Int)) (digs (X - d * w)) ((i : Int) - 1)) r) (ha : a.length ≤ 100000) (n : Nat) :
    ∀ lo hi_ : Nat, hi_ - lo = n → lo ≤ hi_ → hi_ ≤ 65535 → lo * w ≤ X → X < (hi_ + 1) * w →
      Evt (fun k => windbreakref01_div.l1 k a (digs w) q (digs X) (i : Int) (lo : Int) (hi_ : Int)) r := by
  have hwlim : w < lim := by omega
  have hwd := digs_len hwlim
  have mulm : ∀ m : Nat, m < 65536 → Evt (fun k => windbreakref01_mul.f k (digs w) [(m : Int)]) (digs (m * w)) := by
    intro m hm
    refine (ref_mul_ev (digs w) [(m : Int)] (toD_dig b16_two w) (dig_one16 (by omega)) (by omega) (by simp)).congr (fun k => rfl) ?_
    rw [num16_digs, num16_one (by omega), Int.toNat_natCast, Nat.mul_comm]
  induction n using Nat.strongRecOn with
  | _ n ih =>
    intro lo hi_ hn hle h5 hlo hhi
    refine Evt.succ ?_
    simp only [windbreakref01_div.l1]
    by_cases hlt : lo < hi_
    · refine Evt.ite_pos (by omega) ?_
      have em : IntKind.u64.wrap (Int.tdiv (IntKind.u64.wrap (IntKind.u64.wrap ((lo : Int) + (hi_ : Int)) + 1)) 2) = (((lo + hi_ + 1) / 2 : Nat) : Int) := by
        rw [wu64_of (show 0 ≤ (lo : Int) + (hi_ : Int) by omega) (by omega), wu64_of (show 0 ≤ (lo : Int) + (hi_ : Int) + 1 by omega) (by omega), Int.tdiv_eq_ediv_of_nonneg (by omega), wu64_of (by omega) (by omega)]
        omega
      rw [em]
      generalize hm : (lo + hi_ + 1) / 2 = m
      have hm1 : lo < m ∧ m ≤ hi_ := by omega
      refine Evt.bind (mulm m (by omega)) ?_
      have hmw : m * w < lim := by
        have : m * w ≤ 65536 * w := Nat.mul_le_mul_right w (by omega)
        rw [Nat.mul_comm] at hwl
        omega
      refine Evt.bind (ref_compare_ev (m * w) X hmw) ?_
      by_cases hc : m * w ≤ X
      · refine Evt.ite_pos ?_ ?_
        · unfold cmpN
          by_cases h1 : m * w < X
          · rw [if_pos h1]; omega
          · rw [if_neg h1, if_pos (by omega)]; omega
        · exact ih (hi_ - m) (by omega) m hi_ rfl (by omega) h5 hc hhi
      · refine Evt.ite_neg ?_ ?_
        · unfold cmpN
          rw [if_neg (by omega), if_neg (by omega)]; omega
        · have e : IntKind.u64.wrap ((m : Int) - 1) = ((m - 1 : Nat) : Int) := by rw [wu64_of (by omega) (by omega)]; omega
          rw [e]
          refine ih (m - 1 - lo) (by omega) lo (m - 1) rfl (by omega) (by omega) hlo ?_
          rw [show m - 1 + 1 = m from by omega]
          omega
    · refine Evt.ite_neg (by omega) (Evt.ite_pos (by omega) (Evt.ite_pos (by omega) ?_))
      have e : lo = hi_ := by omega
      subst e
      refine Evt.bind (mulm lo (by omega)) ?_
      refine Evt.bind (ref_sub_ev X (lo * w) hX hlo) ?_
      rw [w64 (by omega) (by omega)]
      refine (next lo (by omega) hlo hhi).congr (fun k => rfl) rfl
theorem ref_div_loop (a : List Int) (da : Dig (b16 : Int) a) (w : Nat) (hw : 0 < w) (hwl : w * 65536 < lim) (ha : a.length ≤ 100000) (hb : b16 ^ a.length ≤ lim) (n : Nat) :
    ∀ (Q : List Int) (R : Nat), Dig (b16 : Int) Q → Q.length = a.length - n → n ≤ a.length → R < w → num16 (a.drop n) = num16 Q * w + R →
      Evt (fun k => windbreakref01_div.l0 k a (digs w) (List.replicate n 0 ++ Q) (digs R) ((n : Int) - 1)) (digs (num16 a / w), digs (num16 a % w)) := by
  induction n with
  | zero =>
    intro Q R dQ hQ hn hR hv
    refine Evt.succ ?_
    simp only [windbreakref01_div.l0]
    refine Evt.ite_neg (by omega) ?_
    rw [List.replicate_zero, List.nil_append]
    rw [List.drop_zero] at hv
    have h := windbreakref01_cut_ev Q (by simp [maxLen]; omega)
    rw [strip_digs dQ] at h
    have e1 : num16 Q = num16 a / w := by
      rw [hv, Nat.mul_comm, Nat.mul_add_div hw, Nat.div_eq_of_lt hR, Nat.add_zero]
    have e2 : R = num16 a % w := by
      rw [hv, Nat.mul_comm, Nat.mul_add_mod, Nat.mod_eq_of_lt hR]
    rw [← e1, ← e2]
    exact Evt.bind h (h := fun t _ => some (t, digs R)) (Evt.pure _)
  | succ n ih =>
    intro Q R dQ hQ hn hR hv
    have hlt : n < a.length := by omega
    refine Evt.succ ?_
    simp only [windbreakref01_div.l0]
    rw [show ((n + 1 : Nat) : Int) - 1 = (n : Int) from by omega]
    refine Evt.ite_pos (by omega) (Evt.ite_pos (by omega) (Evt.ite_pos (by omega) ?_))
    simp only [Option.bind_some]
    have hx : rd a (n : Int) = a[n] := by simp [rd_nat, hlt]
    rw [hx]
    have rx := da a[n] (List.getElem_mem hlt)
    have hRl : R < lim := by omega
    have hRd := digs_len hRl
    refine Evt.ite_pos (by simp; omega) ?_
    have dX : Dig (b16 : Int) ([a[n]] ++ digs R) := Dig.cons.2 ⟨rx, toD_dig b16_two R⟩
    have hXn : num16 ([a[n]] ++ digs R) = a[n].toNat + 65536 * R := by
      have h1 := num16_val dX
      have h2 : val (b16 : Int) ([a[n]] ++ digs R) = a[n] + (b16 : Int) * val (b16 : Int) (digs R) := rfl
      rw [h2, val_toD b16_two] at h1
      simp only [b16] at h1 rx
      omega
    have h := windbreakref01_cut_ev ([a[n]] ++ digs R) (by simp [maxLen]; omega)
    rw [strip_digs dX, hXn] at h
    refine Evt.bind h ?_
    generalize hX : a[n].toNat + 65536 * R = X
    have hXw : X < 65536 * w := by
      simp only [b16] at rx
      have : 65536 * (R + 1) ≤ 65536 * w := Nat.mul_le_mul_left _ hR
      omega
    have hq1 : List.replicate (n + 1) (0 : Int) ++ Q = List.replicate n 0 ++ (0 :: Q) := by rw [List.replicate_succ', List.append_assoc]; rfl
    rw [hq1]
    refine ref_div_halve a w X _ n hw hwl (by rw [Nat.mul_comm] at hwl; omega) (by simp; omega) hlt ?_ ha 65535 0 65535 rfl (by omega) (by omega) (by omega) (by omega)
    intro d hd h1 h2
    have hs : (List.replicate n (0 : Int) ++ 0 :: Q).set n (d : Int) = List.replicate n 0 ++ ((d : Int) :: Q) := by
      have := set_at (List.replicate n (0 : Int)) 0 (d : Int) Q
      rw [List.length_replicate] at this
      exact this
    rw [hs]
    have dQ2 : Dig (b16 : Int) ((d : Int) :: Q) := Dig.cons.2 ⟨by simp only [b16]; omega, dQ⟩
    refine ih ((d : Int) :: Q) (X - d * w) dQ2 (by simp; omega) (by omega) ?_ ?_
    · rw [Nat.add_mul, Nat.one_mul] at h2
      omega
    · have dA : Dig (b16 : Int) (a.drop n) := da.drop n
      have g1 := num16_val dA
      have g2 := num16_val (da.drop (n + 1))
      have g3 := num16_val dQ2
      have g4 := num16_val dQ
      rw [List.drop_eq_getElem_cons hlt] at g1 ⊢
      simp only [val] at g1 g3
      rw [← g2] at g1
      rw [← g4] at g3
      rw [hv] at g1
      simp only [b16] at g1 g3 rx
      have g5 : num16 ((d : Int) :: Q) = d + 65536 * num16 Q := by omega
      rw [g5]
      generalize num16 Q = Qn at *
      have g6 : (d + 65536 * Qn) * w = d * w + 65536 * (Qn * w) := by rw [Nat.add_mul, Nat.mul_assoc]
      rw [g6]
      generalize Qn * w = z at *
      generalize d * w = y at *
      omega
theorem ref_div_ev (v w : Nat) (hv : v < lim) (hw : 0 < w) (hwl : w * 65536 < lim) : Evt (fun k => windbreakref01_div.f k (digs v) (digs w)) (digs (v / w), digs (v % w)) := by
  have hd := digs_len hv
  unfold windbreakref01_div.f
  refine Evt.ite_pos (by omega) (Evt.ite_pos (by omega) ?_)
  rw [w64 (by omega) (by omega)]
  have hb : b16 ^ (digs v).length ≤ lim := by
    have h : lim = b16 ^ (4 * thousand) := by
      unfold lim
      rw [b64_pow, ← Nat.pow_mul]
    rw [h]
    exact Nat.pow_le_pow_right (by decide) hd
  have h := ref_div_loop (digs v) (toD_dig b16_two v) w hw hwl (by omega) hb (digs v).length [] 0 Dig.nil (by simp) (Nat.le_refl _) hw (by rw [List.drop_length]; simp [num16_nil])
  rw [num16_digs] at h
  refine h.congr (fun k => ?_) rfl
  rw [List.append_nil, Int.toNat_natCast, show digs 0 = [] from toD_zero b16]
end Go.Proofs.Ytlkinjhmgljapab.Z
end
section
namespace Go.Proofs.Ytlkinjhmgljapab.F
open Go.RowKit Go.Proofs.YtlkinjhmgljapabW.PrintWords Go.Proofs.YtlkinjhmgljapabW.PrintLast Go.Proofs.YtlkinjhmgljapabW.PrintMore
attribute [local go_sem] max2_int min2_int max_two min_two max_three min_three max_four min_four
set_option linter.unusedVariables false
set_option linter.unusedSimpArgs false
def windbreakref01_Shr.j0 : Nat → List Int → Int → Bool → Option (List Int × Int)
 | 0, _, _, _ => none
 | k + 1, x0, x1, x16 => if x16 = true then (some (([] : List Int), 1)) else (if x1 ≥ 4096 then (some (([] : List Int), 0)) else ((windbreakref01_In.f k x0).bind fun t297 => ((windbreakref01_power.f k x1).bind fun t300 => ((windbreakref01_div.f k t297 t300).bind fun bt303 => ((windbreakref01_told.f k bt303.1).bind fun bt309 => (some (bt309.1, bt309.2)))))))
def windbreakref01_Shr.f (k : Nat) (l0 : List Int) (a1 : Int) : Option (List Int × Int) := (windbreakref01_Right.f l0).bind fun t296 => (if t296 = true then (windbreakref01_Shr.j0 k l0 a1 (decide (a1 < 0))) else (windbreakref01_Shr.j0 k l0 a1 true))
def windbreakref01_Shl.j0 : Nat → List Int → Int → Bool → Option (List Int × Int)
 | 0, _, _, _ => none
 | k + 1, x0, x1, x14 => if x14 = true then (some (([] : List Int), 1)) else (if (x0.length : Int) = 0 then (some (([] : List Int), 0)) else (if x1 > 4096 then (some (([] : List Int), 4)) else ((windbreakref01_In.f k x0).bind fun t314 => ((windbreakref01_power.f k x1).bind fun t317 => ((windbreakref01_mul.f k t314 t317).bind fun t320 => ((windbreakref01_told.f k t320).bind fun bt323 => (some (bt323.1, bt323.2))))))))
def windbreakref01_Shl.f (k : Nat) (l0 : List Int) (a1 : Int) : Option (List Int × Int) := (windbreakref01_Right.f l0).bind fun t313 => (if t313 = true then (windbreakref01_Shl.j0 k l0 a1 (decide (a1 < 0))) else (windbreakref01_Shl.j0 k l0 a1 true))
end Go.Proofs.Ytlkinjhmgljapab.F
end
section
namespace Go.Proofs.Ytlkinjhmgljapab.Z
open Go.RowKit Go.Proofs.Ytlkinjhmgljapab.F Go.Proofs.YtlkinjhmgljapabW.PrintWords
set_option linter.unusedSimpArgs false
set_option linter.unusedVariables false
def shrW (a : List Int) (n : Int) : List Int × Int :=
  if rightB a = true ∧ 0 ≤ n then (limbs (num a / 2 ^ n.toNat), 0) else ([], 1)
theorem ref_Shr_ev (a : List Int) (n : Int) (ha : a.length ≤ maxLen) (da : Dig (b64 : Int) a) : Evt (fun k => windbreakref01_Shr.f k a n) (shrW a n) := by
  unfold windbreakref01_Shr.f shrW
  rw [windbreakref01_Right_eq ha]
  simp only [Option.bind_some]
  have J : ∀ x : Bool, (x = false → rightB a = true ∧ 0 ≤ n) → Evt (fun k => windbreakref01_Shr.j0 k a n x) (if x = true then ([], 1) else (limbs (num a / 2 ^ n.toNat), 0)) := by
    intro x hx
    refine Evt.succ ?_
    simp only [windbreakref01_Shr.j0]
    refine Evt.cond (fun _ => Evt.pure _) (fun hc => ?_)
    have h := hx (by simpa using hc)
    obtain ⟨h1, c1⟩ := (rightB_iff a).1 h.1
    obtain ⟨m, rfl⟩ := Int.eq_ofNat_of_zero_le h.2
    rw [Int.toNat_natCast]
    have hp := num_lt_p da h1
    by_cases hn : 4096 ≤ m
    · have e : num a / 2 ^ m = 0 := by
        apply Nat.div_eq_of_lt
        exact Nat.lt_of_lt_of_le hp (b64_le_pow2 (by omega))
      rw [e, show limbs 0 = [] from toD_zero b64]
      exact Evt.ite_pos (by omega) (Evt.pure _)
    · refine Evt.ite_neg (by omega) ?_
      have n2 := num_lt_lim da (by omega)
      refine Evt.bind (ref_In_ev a (by omega) da) (Evt.bind (ref_power_ev m (by omega)) ?_)
      refine Evt.bind (ref_div_ev (num a) (2 ^ m) n2 (Nat.pow_pos (by decide)) (pow2_lim (by omega))) ?_
      have h3 : num a / 2 ^ m ≤ num a := Nat.div_le_self _ _
      have h4 := ref_told_ev (num a / 2 ^ m) (Nat.lt_of_le_of_lt h3 n2)
      have e : toldV (num a / 2 ^ m) = (limbs (num a / 2 ^ m), 0) := if_pos (Nat.lt_of_le_of_lt h3 hp)
      rw [e] at h4
      exact Evt.bind h4 (h := fun t _ => some (t.1, t.2)) (Evt.pure _)
  cases hA : rightB a with
  | true =>
    refine Evt.ite_pos rfl ((J _ (fun h => ⟨hA, by simpa using h⟩)).congr (fun k => rfl) ?_)
    by_cases hn : n < 0
    · rw [decide_eq_true hn, if_pos rfl, if_neg (show ¬ (true = true ∧ 0 ≤ n) by omega)]
    · rw [decide_eq_false hn, if_neg (by simp), if_pos (show true = true ∧ 0 ≤ n from ⟨rfl, by omega⟩)]
  | false =>
    refine Evt.ite_neg (by simp) ((J _ (fun h => by simp at h)).congr (fun k => rfl) ?_)
    simp
def shlW (a : List Int) (n : Int) : List Int × Int :=
  if rightB a = true ∧ 0 ≤ n then (if a.length = 0 then ([], 0) else if 4096 < n then ([], 4) else toldV (num a * 2 ^ n.toNat)) else ([], 1)
theorem ref_Shl_ev (a : List Int) (n : Int) (ha : a.length ≤ maxLen) (da : Dig (b64 : Int) a) : Evt (fun k => windbreakref01_Shl.f k a n) (shlW a n) := by
  unfold windbreakref01_Shl.f shlW
  rw [windbreakref01_Right_eq ha]
  simp only [Option.bind_some]
  have J : ∀ x : Bool, (x = false → rightB a = true ∧ 0 ≤ n) → Evt (fun k => windbreakref01_Shl.j0 k a n x) (if x = true then ([], 1) else if a.length = 0 then ([], 0) else if 4096 < n then ([], 4) else toldV (num a * 2 ^ n.toNat)) := by
    intro x hx
    refine Evt.succ ?_
    simp only [windbreakref01_Shl.j0]
    refine Evt.cond (fun _ => Evt.pure _) (fun hc => ?_)
    have h := hx (by simpa using hc)
    obtain ⟨h1, c1⟩ := (rightB_iff a).1 h.1
    by_cases h0 : a.length = 0
    · rw [if_pos h0]; exact Evt.ite_pos (by omega) (Evt.pure _)
    · rw [if_neg h0]
      refine Evt.ite_neg (by omega) ?_
      by_cases hn : 4096 < n
      · rw [if_pos hn]; exact Evt.ite_pos (by omega) (Evt.pure _)
      · rw [if_neg hn]
        refine Evt.ite_neg (by omega) ?_
        obtain ⟨m, rfl⟩ := Int.eq_ofNat_of_zero_le h.2
        have n2 := num_lt_lim da (by omega)
        have l1 := digs_len n2
        have l2 := digs_len (v := 2 ^ m) (by have := pow2_lim (n := m) (by omega); omega)
        refine Evt.bind (ref_In_ev a (by omega) da) (Evt.bind (ref_power_ev m (by omega)) ?_)
        have hm := ref_mul_ev (digs (num a)) (digs (2 ^ m)) (toD_dig b16_two _) (toD_dig b16_two _) (by omega) (by omega)
        rw [num16_digs, num16_digs] at hm
        refine Evt.bind hm ?_
        rw [Int.toNat_natCast]
        exact Evt.bind (ref_told_ev (num a * 2 ^ m) (mul_pow_lim da h1 (by omega))) (h := fun t _ => some (t.1, t.2)) (Evt.pure _)
  cases hA : rightB a with
  | true =>
    refine Evt.ite_pos rfl ((J _ (fun h => ⟨hA, by simpa using h⟩)).congr (fun k => rfl) ?_)
    by_cases hn : n < 0
    · rw [decide_eq_true hn, if_pos rfl, if_neg (show ¬ (true = true ∧ 0 ≤ n) by omega)]
    · rw [decide_eq_false hn, if_neg (by simp), if_pos (show true = true ∧ 0 ≤ n from ⟨rfl, by omega⟩)]
  | false =>
    refine Evt.ite_neg (by simp) ((J _ (fun h => by simp at h)).congr (fun k => rfl) ?_)
    simp
end Go.Proofs.Ytlkinjhmgljapab.Z
end
section
namespace Go.Proofs.Ytlkinjhmgljapab.F
open Go.RowKit Go.Proofs.YtlkinjhmgljapabW.PrintWords Go.Proofs.YtlkinjhmgljapabW.PrintLast Go.Proofs.YtlkinjhmgljapabW.PrintMore
attribute [local go_sem] max2_int min2_int max_two min_two max_three min_three max_four min_four
set_option linter.unusedVariables false
set_option linter.unusedSimpArgs false
mutual
def windbreakref01_Bits.j0 : Nat → List Int → Bool → Option (Int)
 | 0, _, _ => none
 | k + 1, x0, x14 => if x14 = true then (some 0) else (if 0 ≤ (wrap64 ((x0.length : Int) - 1)) then (if (wrap64 ((x0.length : Int) - 1)) < (x0.length : Int) then (windbreakref01_Bits.l0 k x0 0 (rd x0 (wrap64 ((x0.length : Int) - 1)))) else (none)) else (none))
def windbreakref01_Bits.l0 : Nat → List Int → Int → Int → Option (Int)
 | 0, _, _, _ => none
 | k + 1, x0, x4, x5 => if x5 > 0 then (windbreakref01_Bits.l0 k x0 (wrap64 (x4 + 1)) (IntKind.u64.wrap (Int.tdiv x5 2))) else (some (wrap64 (x4 + (wrap64 (64 * (wrap64 ((x0.length : Int) - 1)))))))
end
def windbreakref01_Bits.f (k : Nat) (l0 : List Int) : Option (Int) := (windbreakref01_Right.f l0).bind fun t225 => (if t225 = true then (windbreakref01_Bits.j0 k l0 ((l0.length : Int) == 0)) else (windbreakref01_Bits.j0 k l0 true))
end Go.Proofs.Ytlkinjhmgljapab.F
end
section
namespace Go.Proofs.Ytlkinjhmgljapab.F
open Go.RowKit Go.Proofs.YtlkinjhmgljapabW.PrintWords Go.Proofs.YtlkinjhmgljapabW.PrintLast Go.Proofs.YtlkinjhmgljapabW.PrintMore
set_option linter.unusedVariables false
set_option linter.unusedSimpArgs false
def ref4_draw.f (z : Int) (n L : List Int) : Nat → Nat → Option (List Int × Int × Nat)
  | 0, _ => none
  | k + 1, u => if ((L.drop u).length : Int) < (z + 7) / 8 then some ([], 7, u) else (windbreakref01_Read.f k ((L.drop u).take ((z + 7) / 8).toNat)).bind fun x => (windbreakref01_Shr.f k x.1 z).bind fun t => (windbreakref01_Shl.f k t.1 z).bind fun h => (windbreakref01_Sub.f k x.1 h.1).bind fun y => (windbreakref01_Cmp.f k y.1 n).bind fun c => if c < 0 then some (y.1, 0, u + ((z + 7) / 8).toNat) else ref4_draw.f z n L k (u + ((z + 7) / 8).toNat)
def ref4_Below.f (k : Nat) (n L : List Int) (u : Nat) : Option (List Int × Int × Nat) :=
  (windbreakref01_Right.f n).bind fun b => if b = true ∧ n.length ≠ 0 then (windbreakref01_Of.f 1).bind fun o => (windbreakref01_Sub.f k n o).bind fun s => (windbreakref01_Bits.f k s.1).bind fun z => if z = 0 then some ([], 0, u) else if 0 < z ∧ z ≤ 4096 then ref4_draw.f z n L k u else none
  else some ([], 1, u)
def ref4_Small.f (k : Nat) (m : Int) (L : List Int) (u : Nat) : Option (Int × Int × Nat) :=
  if m < 1 then some (0, 1, u) else (windbreakref01_Of.f m).bind fun n => (ref4_Below.f k n L u).bind fun x => (windbreakref01_Small.f k x.1).bind fun z => some (wrap64 z.1, x.2.1, x.2.2)
def cntV : Nat → List Int
  | 0 => []
  | i + 1 => cntV i ++ [(i : Int)]
theorem cntV_len (i : Nat) : (cntV i).length = i := by
  induction i with
  | zero => rfl
  | succ i ih => simp [cntV, ih]
def rshuf.f (k : Nat) (L : List Int) : Nat → List Int → Nat → Option (List Int × Int × Nat)
  | 0, V, u => some (V, 0, u)
  | i + 1, V, u => (ref4_Small.f k ((i : Int) + 2) L u).bind fun x => if x.2.1 = 0 then (if 0 ≤ x.1 ∧ x.1 ≤ (i : Int) + 1 ∧ x.2.2 ≤ L.length then rshuf.f k L i (swapV V (i + 1) x.1.toNat) x.2.2 else none) else (if x.2.2 ≤ L.length then some ([], x.2.1, x.2.2) else none)
def rshuffle.f (k : Nat) (n : Int) (L : List Int) (u : Nat) : Option (List Int × Int × Nat) :=
  if n < 0 ∨ 16384 < n then some ([], 1, u) else rshuf.f k L (n.toNat - 1) (cntV n.toNat) u
end Go.Proofs.Ytlkinjhmgljapab.F
end
section
namespace Go.Proofs.Ytlkinjhmgljapab.Z
open Go.RowKit Go.Proofs.Ytlkinjhmgljapab.F Go.Proofs.YtlkinjhmgljapabW.PrintWords Go.Proofs.YtlkinjhmgljapabW.PrintMore
set_option linter.unusedSimpArgs false
set_option linter.unusedVariables false
theorem lead_ex (b : List Int) : ∃ k : Nat, k ≤ b.length ∧ (∀ j, j < k → b.getD j 0 = 0) ∧ (k < b.length → b.getD k 0 ≠ 0) ∧ val (b8 : Int) (b.drop k).reverse = val (b8 : Int) b.reverse := by
  induction b with
  | nil => exact ⟨0, Nat.le_refl _, fun j hj => absurd hj (Nat.not_lt_zero _), fun h => absurd h (Nat.not_lt_zero _), rfl⟩
  | cons c b ih =>
    by_cases h : c = 0
    · obtain ⟨k, h1, h2, h3, h4⟩ := ih
      refine ⟨k + 1, by simp; omega, fun j hj => ?_, fun hh => by simpa using h3 (by simpa using hh), ?_⟩
      · cases j with
        | zero => simpa using h
        | succ j => simpa using h2 j (by omega)
      · rw [List.drop_succ_cons, h4, List.reverse_cons, val_append, h]
        simp [val]
    · exact ⟨0, Nat.zero_le _, fun j hj => absurd hj (Nat.not_lt_zero _), fun _ => by simpa using h, rfl⟩
def bv (b : List Int) : Nat := (val (b8 : Int) b.reverse).toNat
theorem bv_lt64 {b : List Int} (d : Dig (b8 : Int) b) (h : b.length ≤ 512) : bv b < b64 ^ 64 := val_b8_lt d h
theorem bv_lt {b : List Int} (d : Dig (b8 : Int) b) : bv b < 2 ^ (8 * b.length) := by
  have h1 : Dig (b8 : Int) b.reverse := fun x hx => d x (List.mem_reverse.1 hx)
  have h2 := val_lt b8_pos h1
  rw [pow_cast, List.length_reverse] at h2
  have h3 := val_nonneg b8_pos h1
  rw [← b8_pow2]
  unfold bv
  omega
theorem bv_cons {x : Int} {b : List Int} (d : Dig (b8 : Int) (x :: b)) : bv (x :: b) = bv b + 2 ^ (8 * b.length) * x.toNat := by
  obtain ⟨dx, db⟩ := Dig.cons.1 d
  have h1 : Dig (b8 : Int) b.reverse := fun y hy => db y (List.mem_reverse.1 hy)
  have h3 := val_nonneg b8_pos h1
  unfold bv
  rw [List.reverse_cons, val_append, List.length_reverse, pow_cast, b8_pow2]
  simp only [val, Int.mul_zero, Int.add_zero]
  have h4 : (((2 ^ (8 * b.length) : Nat) : Int) * x) = ((2 ^ (8 * b.length) * x.toNat : Nat) : Int) := by
    rw [Int.natCast_mul, Int.toNat_of_nonneg dx.1]
  rw [h4]
  omega
theorem nat_Read_all {b : List Int} (d : Dig (b8 : Int) b) (h : b.length ≤ 512) : Evt (fun k => nat_Read.f k b) (limbs (bv b), 0) := by
  obtain ⟨k, h1, h2, h3, h4⟩ := lead_ex b
  refine (nat_Read_ev b (by simp only [maxLen]; omega) d k h1 h2 h3).congr (fun k => rfl) ?_
  unfold readV bv
  rw [if_neg (by rw [List.length_drop]; omega), h4]
theorem ref_Read_all {b : List Int} (d : Dig (b8 : Int) b) (h : b.length ≤ 512) : Evt (fun k => windbreakref01_Read.f k b) (limbs (bv b), 0) := by
  obtain ⟨k, h1, h2, h3, h4⟩ := lead_ex b
  refine (ref_Read_ev b (by simp only [maxLen]; omega) d k h1 h2 h3).congr (fun k => rfl) ?_
  unfold readV bv
  rw [if_neg (by rw [List.length_drop]; omega), h4]
theorem wraps_u8 (n : Int) (h0 : 0 ≤ n) (h1 : n < 2 ^ 8) : IntKind.u8.wrap n = n := by
  simp [IntKind.wrap, IntKind.bits, IntKind.signed]
  omega
theorem mask_u8 {x : Int} (h0 : 0 ≤ x) (h1 : x < 256) {o : Nat} (ho : o < 8) : Go.bits .and .u8 x (IntKind.u8.wrap (IntKind.u8.wrap (2 ^ o) - 1)) = ((x.toNat % 2 ^ o : Nat) : Int) := by
  have key : ∀ o : Nat, o < 8 → IntKind.u8.wrap (IntKind.u8.wrap (2 ^ o) - 1) = ((2 : Int) ^ o - 1) := by decide
  rw [key o ho]
  have h := bits_mask .u8 8 (by decide) wraps_u8 o (by omega) x h0 (by omega)
  rw [h]
  obtain ⟨n, rfl⟩ := Int.eq_ofNat_of_zero_le h0
  simp
theorem maskV_dig {b : List Int} (d : Dig (b8 : Int) b) {z : Nat} : Dig (b8 : Int) (maskV ((z : Int) % 8) b) ∧ (maskV ((z : Int) % 8) b).length = b.length := by
  unfold maskV
  split
  · refine ⟨?_, by simp⟩
    have h0 := d.getD b8_pos 0
    have hb : (b8 : Int) = 256 := rfl
    rw [hb] at h0
    rw [show ((z : Int) % 8).toNat = z % 8 from by omega, mask_u8 h0.1 h0.2 (Nat.mod_lt _ (by omega))]
    intro y hy
    rcases List.mem_or_eq_of_mem_set hy with h | h
    · exact d y h
    · subst h
      have h1 := Nat.mod_le (b.getD 0 0).toNat (2 ^ (z % 8))
      rw [hb]
      omega
  · exact ⟨d, rfl⟩
theorem maskV_bv {b : List Int} (d : Dig (b8 : Int) b) {z : Nat} (hz : 0 < z) (hl : b.length = (z + 7) / 8) : bv (maskV ((z : Int) % 8) b) = bv b % 2 ^ z := by
  unfold maskV
  by_cases h : (z : Int) % 8 > 0
  · rw [if_pos h, show ((z : Int) % 8).toNat = z % 8 from by omega]
    cases b with
    | nil => simp at hl; omega
    | cons x t =>
      obtain ⟨dx, dt⟩ := Dig.cons.1 d
      have hb : (b8 : Int) = 256 := rfl
      rw [hb] at dx
      simp only [List.getD_cons_zero, List.set_cons_zero, List.length_cons] at hl ⊢
      rw [mask_u8 dx.1 dx.2 (Nat.mod_lt _ (by omega))]
      have dm : Dig (b8 : Int) (((x.toNat % 2 ^ (z % 8) : Nat) : Int) :: t) := by
        refine Dig.cons.2 ⟨?_, dt⟩
        have h1 := Nat.mod_le x.toNat (2 ^ (z % 8))
        rw [hb]
        omega
      rw [bv_cons dm, bv_cons d, Int.toNat_natCast]
      have hz2 : z = 8 * t.length + z % 8 := by omega
      have hlt := bv_lt dt
      have hpos : 0 < 2 ^ (8 * t.length) := Nat.pow_pos (by omega)
      have e : 2 ^ z = 2 ^ (8 * t.length) * 2 ^ (z % 8) := by rw [← Nat.pow_add, ← hz2]
      rw [e, Nat.mod_mul, Nat.add_mul_mod_self_left, Nat.mod_eq_of_lt hlt, Nat.add_mul_div_left _ _ hpos, Nat.div_eq_of_lt hlt, Nat.zero_add]
  · rw [if_neg h]
    have hz2 : 8 * b.length = z := by omega
    have hlt := bv_lt d
    rw [hz2] at hlt
    exact (Nat.mod_eq_of_lt hlt).symm
def drawU (z N : Nat) (L : List Int) : Nat → Nat → List Int × Int × Nat
  | 0, u => ([], 7, u)
  | f + 1, u => if L.length - u < (z + 7) / 8 then ([], 7, u) else if bv ((L.drop u).take ((z + 7) / 8)) % 2 ^ z < N then (limbs (bv ((L.drop u).take ((z + 7) / 8)) % 2 ^ z), 0, u + (z + 7) / 8) else drawU z N L f (u + (z + 7) / 8)
theorem drawU_facts {z N : Nat} (hN : N ≤ b64 ^ 64) {L : List Int} (f : Nat) : ∀ u, u ≤ L.length → (drawU z N L f u).2.2 ≤ L.length ∧ ∃ v, v < b64 ^ 64 ∧ (drawU z N L f u).1 = limbs v := by
  induction f with
  | zero => exact fun u hu => ⟨hu, 0, Nat.pow_pos (by decide), lz.symm⟩
  | succ f ih =>
    intro u hu
    rw [drawU]
    by_cases h1 : L.length - u < (z + 7) / 8
    · rw [if_pos h1]
      exact ⟨hu, 0, Nat.pow_pos (by decide), lz.symm⟩
    · rw [if_neg h1]
      by_cases h2 : bv ((L.drop u).take ((z + 7) / 8)) % 2 ^ z < N
      · rw [if_pos h2]
        exact ⟨by show u + (z + 7) / 8 ≤ L.length; omega, _, Nat.lt_of_lt_of_le h2 hN, rfl⟩
      · rw [if_neg h2]
        exact ih _ (by omega)
theorem taken_facts {L : List Int} (dL : Dig (b8 : Int) L) {z : Nat} (u : Nat) (h1 : ¬ L.length - u < (z + 7) / 8) : Dig (b8 : Int) ((L.drop u).take ((z + 7) / 8)) ∧ ((L.drop u).take ((z + 7) / 8)).length = (z + 7) / 8 :=
  ⟨fun x hx => dL x (List.mem_of_mem_drop (List.mem_of_mem_take hx)), by rw [List.length_take, List.length_drop]; omega⟩
section
variable {n L : List Int} (hr : rightB n = true) (hn : n.length ≤ maxLen) (dn : Dig (b64 : Int) n) (dL : Dig (b8 : Int) L) {z : Nat} (hz : 0 < z) (hz2 : z ≤ 4096)
include hr hn dn dL hz hz2
theorem tape_draw_ev (f : Nat) : ∀ u, u ≤ L.length → L.length - u < f → Evt (fun k => tape_draw.f (z : Int) n k (L.drop u)) ((drawU z (num n) L f u).1, (drawU z (num n) L f u).2.1, L.drop (drawU z (num n) L f u).2.2) := by
  induction f with
  | zero => exact fun u _ h => absurd h (Nat.not_lt_zero _)
  | succ f ih =>
    intro u hu hf
    refine Evt.succ ?_
    simp only [tape_draw.f]
    rw [show (((z : Int) + 7) / 8).toNat = (z + 7) / 8 from by omega]
    rw [drawU]
    by_cases h1 : L.length - u < (z + 7) / 8
    · rw [if_pos h1]
      refine Evt.ite_pos (by rw [List.length_drop]; omega) ?_
      exact Evt.pure _
    · rw [if_neg h1]
      refine Evt.ite_neg (by rw [List.length_drop]; omega) ?_
      obtain ⟨d1, l1⟩ := taken_facts dL u h1
      generalize (L.drop u).take ((z + 7) / 8) = X at d1 l1
      obtain ⟨d2, l2⟩ := maskV_dig (z := z) d1
      refine Evt.bind (nat_Read_all d2 (by omega)) ?_
      rw [maskV_bv d1 hz l1]
      have hlt : bv X % 2 ^ z < b64 ^ 64 := Nat.lt_of_le_of_lt (Nat.mod_le _ _) (bv_lt64 d1 (by omega))
      have hc := nat_Cmp_ev (limbs (bv X % 2 ^ z)) n (lmax hlt) hn (dig_limbs' _) dn
      unfold cmpV at hc
      rw [if_pos ⟨right_limbs' hlt, hr⟩, num_limbs] at hc
      refine Evt.bind hc ?_
      unfold cmpN
      by_cases h2 : bv X % 2 ^ z < num n
      · rw [if_pos h2, if_pos h2]
        refine Evt.ite_pos (by decide) ?_
        refine (Evt.pure _).congr (fun k => rfl) ?_
        rw [List.drop_drop]
      · rw [if_neg h2, if_neg h2]
        refine Evt.ite_neg (by split <;> decide) ?_
        rw [List.drop_drop]
        exact ih (u + (z + 7) / 8) (by omega) (by omega)
theorem ref4_draw_ev (f : Nat) : ∀ u, u ≤ L.length → L.length - u < f → Evt (fun k => ref4_draw.f (z : Int) n L k u) (drawU z (num n) L f u) := by
  induction f with
  | zero => exact fun u _ h => absurd h (Nat.not_lt_zero _)
  | succ f ih =>
    intro u hu hf
    refine Evt.succ ?_
    simp only [ref4_draw.f]
    rw [show (((z : Int) + 7) / 8).toNat = (z + 7) / 8 from by omega]
    rw [drawU]
    by_cases h1 : L.length - u < (z + 7) / 8
    · rw [if_pos h1]
      exact Evt.ite_pos (by rw [List.length_drop]; omega) (Evt.pure _)
    · rw [if_neg h1]
      refine Evt.ite_neg (by rw [List.length_drop]; omega) ?_
      obtain ⟨d1, l1⟩ := taken_facts dL u h1
      generalize (L.drop u).take ((z + 7) / 8) = X at d1 l1
      refine Evt.bind (ref_Read_all d1 (by omega)) ?_
      have h0 := bv_lt64 d1 (by omega)
      have s1 := ref_Shr_ev (limbs (bv X)) (z : Int) (lmax h0) (dig_limbs' _)
      unfold shrW at s1
      rw [if_pos ⟨right_limbs' h0, by omega⟩, num_limbs, Int.toNat_natCast] at s1
      refine Evt.bind s1 ?_
      have ht : bv X / 2 ^ z < b64 ^ 64 := Nat.lt_of_le_of_lt (Nat.div_le_self _ _) h0
      have hm : bv X / 2 ^ z * 2 ^ z ≤ bv X := Nat.div_mul_le_self _ _
      have hm2 : bv X / 2 ^ z * 2 ^ z < b64 ^ 64 := Nat.lt_of_le_of_lt hm h0
      have s2 := ref_Shl_ev (limbs (bv X / 2 ^ z)) (z : Int) (lmax ht) (dig_limbs' _)
      have e2 : shlW (limbs (bv X / 2 ^ z)) (z : Int) = (limbs (bv X / 2 ^ z * 2 ^ z), 0) := by
        unfold shlW
        rw [if_pos ⟨right_limbs' ht, by omega⟩]
        by_cases h0 : (limbs (bv X / 2 ^ z)).length = 0
        · rw [if_pos h0, (lz_iff _).1 h0, Nat.zero_mul, lz]
        · rw [if_neg h0, if_neg (by omega)]
          unfold toldV
          rw [num_limbs, Int.toNat_natCast, if_pos hm2]
      rw [e2] at s2
      refine Evt.bind s2 ?_
      have s3 := ref_Sub_ev (limbs (bv X)) (limbs (bv X / 2 ^ z * 2 ^ z)) (lmax h0) (lmax hm2) (dig_limbs' _) (dig_limbs' _)
      unfold subW at s3
      rw [if_pos ⟨right_limbs' h0, right_limbs' hm2⟩, num_limbs, num_limbs, if_neg (by omega)] at s3
      refine Evt.bind s3 ?_
      have e3 : bv X - bv X / 2 ^ z * 2 ^ z = bv X % 2 ^ z := by
        have := Nat.div_add_mod (bv X) (2 ^ z)
        rw [Nat.mul_comm] at this
        omega
      rw [e3]
      have hlt : bv X % 2 ^ z < b64 ^ 64 := Nat.lt_of_le_of_lt (Nat.mod_le _ _) h0
      have hc := ref_Cmp_ev (limbs (bv X % 2 ^ z)) n (lmax hlt) hn (dig_limbs' _) dn
      unfold cmpW at hc
      rw [if_pos ⟨right_limbs' hlt, hr⟩, num_limbs] at hc
      refine Evt.bind hc ?_
      unfold cmpN
      by_cases h2 : bv X % 2 ^ z < num n
      · rw [if_pos h2, if_pos h2]
        exact Evt.ite_pos (by decide) (Evt.pure _)
      · rw [if_neg h2, if_neg h2]
        exact Evt.ite_neg (by split <;> decide) (ih (u + (z + 7) / 8) (by omega) (by omega))
end
end Go.Proofs.Ytlkinjhmgljapab.Z
end
section
namespace Go.Proofs.Ytlkinjhmgljapab.Z
open Go.RowKit Go.Proofs.Ytlkinjhmgljapab.F Go.Proofs.YtlkinjhmgljapabW.PrintWords
set_option linter.unusedSimpArgs false
set_option linter.unusedVariables false
theorem ref_Bits_loop (a : List Int) (ha : a.length ≤ 64) (h0 : a.length ≠ 0) (x : Nat) : ∀ c : Nat, x < 18446744073709551616 → c + bl x ≤ 64 → Evt (fun k => windbreakref01_Bits.l0 k a (c : Int) (x : Int)) ((c : Int) + ((bl x : Nat) : Int) + 64 * ((a.length : Int) - 1)) := by
  induction x using Nat.strongRecOn with
  | _ x ih =>
    intro c hx hc
    refine Evt.succ ?_
    simp only [windbreakref01_Bits.l0]
    by_cases h : x = 0
    · subst h
      refine Evt.ite_neg (by omega) ?_
      rw [w64 (show -9223372036854775808 ≤ (a.length : Int) - 1 by omega) (by omega), w64 (show -9223372036854775808 ≤ 64 * ((a.length : Int) - 1) by omega) (by omega), w64 (by omega) (by omega), bl_zero]
      exact (Evt.pure _).congr (fun k => rfl) (by omega)
    · refine Evt.ite_pos (by omega) ?_
      have hb := bl_half h
      rw [Int.tdiv_eq_ediv_of_nonneg (by omega), wu64_of (by omega) (by omega), w64 (by omega) (by omega), show (x : Int) / 2 = ((x / 2 : Nat) : Int) from by omega]
      have := ih (x / 2) (by omega) (c + 1) (by omega) (by omega)
      refine this.congr (fun k => rfl) ?_
      omega
theorem ref_Bits_ev (a : List Int) (ha : a.length ≤ maxLen) (da : Dig (b64 : Int) a) : Evt (fun k => windbreakref01_Bits.f k a) (bitsV a) := by
  unfold windbreakref01_Bits.f bitsV
  rw [windbreakref01_Right_eq ha]
  simp only [Option.bind_some]
  have J : ∀ x : Bool, (x = false → rightB a = true ∧ a.length ≠ 0) → Evt (fun k => windbreakref01_Bits.j0 k a x) (if x = true then 0 else 64 * ((a.length : Int) - 1) + ((bl (a.getD (a.length - 1) 0).toNat : Nat) : Int)) := by
    intro x hx
    refine Evt.succ ?_
    simp only [windbreakref01_Bits.j0]
    refine Evt.cond (fun _ => Evt.pure _) (fun hc => ?_)
    have h := hx (by simpa using hc)
    obtain ⟨h1, c1⟩ := (rightB_iff a).1 h.1
    have h0 := h.2
    rw [w64 (show -9223372036854775808 ≤ (a.length : Int) - 1 by omega) (by omega)]
    refine Evt.ite_pos (by omega) (Evt.ite_pos (by omega) ?_)
    rw [rd_getD, show ((a.length : Int) - 1).toNat = a.length - 1 from by omega]
    have hr := da.getD b64_pos (a.length - 1)
    simp only [b64] at hr
    have hb := bl_le (x := (a.getD (a.length - 1) 0).toNat) (m := 64) (by omega)
    have hl := ref_Bits_loop a h1 h0 (a.getD (a.length - 1) 0).toNat 0 (by omega) (by omega)
    refine hl.congr (fun k => ?_) (by omega)
    rw [show (((a.getD (a.length - 1) 0).toNat : Nat) : Int) = a.getD (a.length - 1) 0 from by omega]
    rfl
  cases hA : rightB a with
  | true =>
    refine Evt.ite_pos rfl ((J (a.length == 0) (fun h => ⟨hA, by simpa using h⟩)).congr (fun k => ?_) ?_)
    · have : ((a.length : Int) == 0) = (a.length == 0) := by
        rw [Bool.eq_iff_iff]; simp
      rw [this]
    · by_cases h0 : a.length = 0
      · simp [h0]
      · simp [h0]
  | false =>
    refine Evt.ite_neg (by simp) ((J _ (fun h => by simp at h)).congr (fun k => rfl) ?_)
    simp
end Go.Proofs.Ytlkinjhmgljapab.Z
end
section
namespace Go.Proofs.Ytlkinjhmgljapab.Z
open Go.RowKit Go.Proofs.Ytlkinjhmgljapab.F Go.Proofs.YtlkinjhmgljapabW.PrintWords Go.Proofs.YtlkinjhmgljapabW.PrintMore
set_option linter.unusedSimpArgs false
set_option linter.unusedVariables false
def belowU (n L : List Int) (u : Nat) : List Int × Int × Nat :=
  if rightB n = true ∧ n.length ≠ 0 then (if num n = 1 then ([], 0, u) else drawU (bl (num n - 1)) (num n) L (L.length + 1) u) else ([], 1, u)
theorem num_pos_of {n : List Int} (dn : Dig (b64 : Int) n) (hr : rightB n = true) (h0 : n.length ≠ 0) : 0 < num n := by
  rcases Nat.eq_zero_or_pos (num n) with h | h
  · exact absurd ((num_zero_iff dn ((rightB_iff n).1 hr).2).1 h) h0
  · exact h
theorem one_limbs : limbs 1 = [1] := limbs_one (by decide) (by decide)
theorem bl_pos_t {v : Nat} (h : v ≠ 0) : 0 < bl v := by
  rcases Nat.eq_zero_or_pos (bl v) with h0 | h0
  · have := bl_lt v
    rw [h0] at this
    omega
  · exact h0
theorem bl_64_t {v : Nat} (h : v < b64 ^ 64) : bl v ≤ 4096 := by
  have hb2 : (2 : Nat) ^ 64 = b64 := rfl
  have key : ∀ j : Nat, v < b64 ^ j → bl v ≤ 64 * j := fun j h => bl_le (by rw [Nat.pow_mul, hb2]; exact h)
  exact key 64 h
theorem belowU_facts {n : List Int} (dn : Dig (b64 : Int) n) (L : List Int) (u : Nat) (hu : u ≤ L.length) : (belowU n L u).2.2 ≤ L.length ∧ ∃ v, v < b64 ^ 64 ∧ (belowU n L u).1 = limbs v := by
  unfold belowU
  by_cases hc : rightB n = true ∧ n.length ≠ 0
  · rw [if_pos hc]
    split
    · exact ⟨hu, 0, Nat.pow_pos (by decide), lz.symm⟩
    · exact drawU_facts (Nat.le_of_lt (num_lt_p dn ((rightB_iff n).1 hc.1).1)) _ u hu
  · rw [if_neg hc]
    exact ⟨hu, 0, Nat.pow_pos (by decide), lz.symm⟩
section
variable {n L : List Int} (hn : n.length ≤ maxLen) (dn : Dig (b64 : Int) n) (dL : Dig (b8 : Int) L)
include hn dn dL
theorem tape_Below_ev (u : Nat) (hu : u ≤ L.length) : Evt (fun k => tape_Below.f k n (L.drop u)) ((belowU n L u).1, (belowU n L u).2.1, L.drop (belowU n L u).2.2) := by
  unfold tape_Below.f belowU
  rw [nat_Right_eq hn]
  simp only [Option.bind_some]
  by_cases hc : rightB n = true ∧ n.length ≠ 0
  · rw [if_pos hc]
    refine Evt.ite_pos hc ?_
    have hp := num_pos_of dn hc.1 hc.2
    have hlt : num n < b64 ^ 64 := num_lt_p dn ((rightB_iff n).1 hc.1).1
    have s := nat_Sub_ev n (limbs 1) hn (by rw [one_limbs]; simp [maxLen]) dn (dig_limbs' _)
    unfold subV at s
    rw [if_pos ⟨hc.1, right_limbs' (by omega)⟩, num_limbs, if_neg (by omega), one_limbs] at s
    refine Evt.bind s ?_
    by_cases h1 : num n = 1
    · rw [if_pos h1, h1]
      refine Evt.ite_pos (by rw [Nat.sub_self]; exact (lz_iff 0).2 rfl) ?_
      exact Evt.pure _
    · rw [if_neg h1]
      refine Evt.ite_neg (fun e => h1 (by have := (lz_iff _).1 e; omega)) ?_
      have z := nat_Bits_ev (limbs (num n - 1)) (lmax (by omega)) (dig_limbs' _)
      rw [bitsV_bl (dig_limbs' _) (right_limbs' (by omega)), num_limbs] at z
      refine Evt.bind z ?_
      have hz := bl_pos_t (v := num n - 1) (by omega)
      have hz2 := bl_64_t (v := num n - 1) (by omega)
      refine Evt.ite_pos ⟨by omega, by omega⟩ ?_
      exact tape_draw_ev hc.1 hn dn dL hz hz2 (L.length + 1) u hu (by omega)
  · rw [if_neg hc]
    exact Evt.ite_neg hc (Evt.pure _)
theorem ref4_Below_ev (u : Nat) (hu : u ≤ L.length) : Evt (fun k => ref4_Below.f k n L u) (belowU n L u) := by
  unfold ref4_Below.f belowU
  rw [windbreakref01_Right_eq hn]
  simp only [Option.bind_some]
  by_cases hc : rightB n = true ∧ n.length ≠ 0
  · rw [if_pos hc]
    refine Evt.ite_pos hc ?_
    have hp := num_pos_of dn hc.1 hc.2
    have hlt : num n < b64 ^ 64 := num_lt_p dn ((rightB_iff n).1 hc.1).1
    have o : windbreakref01_Of.f 1 = some (limbs 1) := by
      rw [ref_Of_eq, one_limbs]
      simp [strip]
    rw [o]
    simp only [Option.bind_some]
    have s := ref_Sub_ev n (limbs 1) hn (by rw [one_limbs]; simp [maxLen]) dn (dig_limbs' _)
    unfold subW at s
    rw [if_pos ⟨hc.1, right_limbs' (by omega)⟩, num_limbs, if_neg (by omega)] at s
    refine Evt.bind s ?_
    have z := ref_Bits_ev (limbs (num n - 1)) (lmax (by omega)) (dig_limbs' _)
    rw [bitsV_bl (dig_limbs' _) (right_limbs' (by omega)), num_limbs] at z
    refine Evt.bind z ?_
    by_cases h1 : num n = 1
    · rw [if_pos h1, h1]
      exact Evt.ite_pos (by decide) (Evt.pure _)
    · rw [if_neg h1]
      have hz := bl_pos_t (v := num n - 1) (by omega)
      have hz2 := bl_64_t (v := num n - 1) (by omega)
      refine Evt.ite_neg (by omega) (Evt.ite_pos ⟨by omega, by omega⟩ ?_)
      exact ref4_draw_ev hc.1 hn dn dL hz hz2 (L.length + 1) u hu (by omega)
  · rw [if_neg hc]
    exact Evt.ite_neg hc (Evt.pure _)
end
def smallU (m : Int) (L : List Int) (u : Nat) : Int × Int × Nat :=
  if m < 1 then (0, 1, u) else (wrap64 (smallV (belowU (limbs m.toNat) L u).1).1, (belowU (limbs m.toNat) L u).2.1, (belowU (limbs m.toNat) L u).2.2)
theorem strip_limb {m : Int} (h1 : ¬ m < 1) (h2 : m < 9223372036854775808) : strip [m] = limbs m.toNat ∧ m.toNat < b64 := by
  have hb : b64 = 18446744073709551616 := rfl
  have h3 : m.toNat < b64 := by omega
  refine ⟨?_, h3⟩
  rw [limbs_one (by omega) h3, Int.toNat_of_nonneg (by omega)]
  have : m ≠ 0 := by omega
  simp [strip, this]
section
variable {m : Int} (hm : m < 9223372036854775808) {L : List Int} (dL : Dig (b8 : Int) L)
include hm dL
theorem tape_Small_ev (u : Nat) (hu : u ≤ L.length) : Evt (fun k => tape_Small.f k m (L.drop u)) ((smallU m L u).1, (smallU m L u).2.1, L.drop (smallU m L u).2.2) := by
  unfold tape_Small.f smallU
  by_cases h1 : m < 1
  · rw [if_pos h1]
    exact Evt.ite_pos h1 (Evt.pure _)
  · rw [if_neg h1]
    refine Evt.ite_neg h1 ?_
    obtain ⟨e1, e2⟩ := strip_limb h1 hm
    have o := nat_Of_ev m
    rw [e1] at o
    refine Evt.bind o ?_
    have hlt : m.toNat < b64 ^ 64 := Nat.lt_of_lt_of_le e2 (Nat.le_self_pow (by decide) b64)
    refine Evt.bind (tape_Below_ev (lmax hlt) (dig_limbs' _) dL u hu) ?_
    obtain ⟨_, v, v1, v2⟩ := belowU_facts (n := limbs m.toNat) (dig_limbs' _) L u hu
    exact Evt.bind (nat_Small_ev _ (by rw [v2]; exact lmax v1)) (Evt.pure _)
theorem ref4_Small_ev (u : Nat) (hu : u ≤ L.length) : Evt (fun k => ref4_Small.f k m L u) (smallU m L u) := by
  unfold ref4_Small.f smallU
  by_cases h1 : m < 1
  · rw [if_pos h1]
    exact Evt.ite_pos h1 (Evt.pure _)
  · rw [if_neg h1]
    refine Evt.ite_neg h1 ?_
    obtain ⟨e1, e2⟩ := strip_limb h1 hm
    rw [ref_Of_eq, e1]
    simp only [Option.bind_some]
    have hlt : m.toNat < b64 ^ 64 := Nat.lt_of_lt_of_le e2 (Nat.le_self_pow (by decide) b64)
    refine Evt.bind (ref4_Below_ev (lmax hlt) (dig_limbs' _) dL u hu) ?_
    obtain ⟨_, v, v1, v2⟩ := belowU_facts (n := limbs m.toNat) (dig_limbs' _) L u hu
    exact Evt.bind (windbreakref01_Small_ev _ (by rw [v2]; exact lmax v1)) (Evt.pure _)
end
theorem smallU_le (m : Int) (h2 : m < 9223372036854775808) (L : List Int) (u : Nat) (hu : u ≤ L.length) : (smallU m L u).2.2 ≤ L.length := by
  unfold smallU
  by_cases h1 : m < 1
  · rw [if_pos h1]
    exact hu
  · rw [if_neg h1]
    obtain ⟨e1, e2⟩ := strip_limb h1 h2
    have hlt : m.toNat < b64 ^ 64 := Nat.lt_of_lt_of_le e2 (Nat.le_self_pow (by decide) b64)
    exact (belowU_facts (n := limbs m.toNat) (dig_limbs' _) L u hu).1
end Go.Proofs.Ytlkinjhmgljapab.Z
end
section
namespace Go.Proofs.Ytlkinjhmgljapab.Z
open Go.RowKit Go.Proofs.Ytlkinjhmgljapab.F Go.Proofs.YtlkinjhmgljapabW.PrintWords Go.Proofs.YtlkinjhmgljapabW.PrintMore
set_option linter.unusedSimpArgs false
set_option linter.unusedVariables false
theorem drawU_ok {z N : Nat} {L : List Int} (f : Nat) : ∀ u, (drawU z N L f u).2.1 = 0 ∧ (∃ v, v < N ∧ (drawU z N L f u).1 = limbs v) ∨ (drawU z N L f u).2.1 = 7 := by
  induction f with
  | zero => exact fun u => .inr rfl
  | succ f ih =>
    intro u
    rw [drawU]
    by_cases c1 : L.length - u < (z + 7) / 8
    · rw [if_pos c1]
      exact .inr rfl
    · rw [if_neg c1]
      by_cases c2 : bv ((L.drop u).take ((z + 7) / 8)) % 2 ^ z < N
      · rw [if_pos c2]
        exact .inl ⟨rfl, _, c2, rfl⟩
      · rw [if_neg c2]
        exact ih _
theorem small_num {v : Nat} (h : v < 9223372036854775808) : wrap64 (smallV (limbs v)).1 = (v : Int) := by
  unfold smallV
  have hb : b64 = 18446744073709551616 := rfl
  by_cases h0 : v = 0
  · subst h0
    rw [lz, if_pos ⟨by decide, by simp⟩]
    exact w64 (by decide) (by decide)
  · rw [limbs_one h0 (by omega), if_pos ⟨right_one (by omega), by simp⟩]
    simp only [List.getD_cons_zero]
    exact w64 (by omega) (by omega)
theorem smallU_ok {m : Int} (h1 : 1 ≤ m) (h2 : m < 9223372036854775808) (L : List Int) (u : Nat) : ((smallU m L u).2.1 = 0 ∧ 0 ≤ (smallU m L u).1 ∧ (smallU m L u).1 < m) ∨ (smallU m L u).2.1 = 7 := by
  obtain ⟨e1, e2⟩ := strip_limb (m := m) (by omega) h2
  have hlt : m.toNat < b64 ^ 64 := Nat.lt_of_lt_of_le e2 (Nat.le_self_pow (by decide) b64)
  have hl : (limbs m.toNat).length ≠ 0 := fun e => by have := (lz_iff m.toNat).1 e; omega
  unfold smallU
  rw [if_neg (by omega)]
  unfold belowU
  rw [if_pos ⟨right_limbs' hlt, hl⟩, num_limbs]
  by_cases hm : m.toNat = 1
  · rw [if_pos hm]
    refine .inl ⟨rfl, ?_⟩
    have := small_num (v := 0) (by omega)
    rw [lz] at this
    show 0 ≤ wrap64 (smallV []).1 ∧ wrap64 (smallV []).1 < m
    rw [this]
    omega
  · rw [if_neg hm]
    rcases drawU_ok (z := bl (m.toNat - 1)) (N := m.toNat) (L := L) (L.length + 1) u with ⟨a, v, v1, v2⟩ | h7
    · refine .inl ⟨a, ?_⟩
      show 0 ≤ wrap64 (smallV (drawU (bl (m.toNat - 1)) m.toNat L (L.length + 1) u).1).1 ∧ _
      rw [v2, small_num (by omega)]
      omega
    · exact .inr h7
def shufU (L : List Int) : Nat → List Int → Nat → List Int × Int × Nat
  | 0, V, u => (V, 0, u)
  | i + 1, V, u => if (smallU ((i : Int) + 2) L u).2.1 = 0 then shufU L i (swapV V (i + 1) (smallU ((i : Int) + 2) L u).1.toNat) (smallU ((i : Int) + 2) L u).2.2 else ([], (smallU ((i : Int) + 2) L u).2.1, (smallU ((i : Int) + 2) L u).2.2)
theorem shufU_le (L : List Int) (i : Nat) (hi : i ≤ 20000) : ∀ V u, u ≤ L.length → (shufU L i V u).2.2 ≤ L.length := by
  induction i with
  | zero => exact fun V u hu => hu
  | succ i ih =>
    intro V u hu
    have h := smallU_le ((i : Int) + 2) (by omega) L u hu
    rw [shufU]
    split
    · exact ih (by omega) _ _ h
    · exact h
section
variable {L : List Int} (dL : Dig (b8 : Int) L)
include dL
theorem shuf_ev (i : Nat) (hi : i ≤ 20000) : ∀ V u, u ≤ L.length → Evt (fun k => shuf.f k i V (L.drop u)) ((shufU L i V u).1, (shufU L i V u).2.1, L.drop (shufU L i V u).2.2) := by
  induction i with
  | zero =>
    intro V u hu
    exact (Evt.pure _).congr (fun k => rfl) rfl
  | succ i ih =>
    intro V u hu
    simp only [shuf.f]
    refine Evt.bind (tape_Small_ev (m := (i : Int) + 2) (by omega) dL u hu) ?_
    rw [shufU]
    have hle := smallU_le ((i : Int) + 2) (by omega) L u hu
    rcases smallU_ok (m := (i : Int) + 2) (by omega) (by omega) L u with ⟨a, b, c⟩ | h7
    · rw [if_pos a]
      refine Evt.ite_pos a (Evt.ite_pos ⟨b, by omega⟩ ?_)
      exact ih (by omega) _ _ hle
    · rw [if_neg (by rw [h7]; decide)]
      exact Evt.ite_neg (by show ¬ (smallU ((i : Int) + 2) L u).2.1 = 0; rw [h7]; decide) (Evt.pure _)
theorem rshuf_ev (i : Nat) (hi : i ≤ 20000) : ∀ V u, u ≤ L.length → Evt (fun k => rshuf.f k L i V u) (shufU L i V u) := by
  induction i with
  | zero =>
    intro V u hu
    exact (Evt.pure _).congr (fun k => rfl) rfl
  | succ i ih =>
    intro V u hu
    simp only [rshuf.f]
    refine Evt.bind (ref4_Small_ev (m := (i : Int) + 2) (by omega) dL u hu) ?_
    rw [shufU]
    have hle := smallU_le ((i : Int) + 2) (by omega) L u hu
    rcases smallU_ok (m := (i : Int) + 2) (by omega) (by omega) L u with ⟨a, b, c⟩ | h7
    · rw [if_pos a]
      refine Evt.ite_pos a (Evt.ite_pos ⟨b, by omega, hle⟩ ?_)
      exact ih (by omega) _ _ hle
    · have hne : ¬ (smallU ((i : Int) + 2) L u).2.1 = 0 := by rw [h7]; decide
      rw [if_neg hne]
      exact Evt.ite_neg hne (Evt.ite_pos hle (Evt.pure _))
end
theorem idV_cnt (n i : Nat) (hi : i ≤ n) : idV n i = cntV i ++ List.replicate (n - i) 0 := by
  induction i with
  | zero => simp [idV, cntV]
  | succ i ih =>
    rw [idV, ih (by omega), cntV]
    have e : List.replicate (n - i) (0 : Int) = 0 :: List.replicate (n - (i + 1)) 0 := by
      rw [show n - i = (n - (i + 1)) + 1 from by omega, List.replicate_succ]
    have hl := cntV_len i
    rw [e, List.set_append, if_neg (by omega), hl, Nat.sub_self]
    simp
theorem idV_all (n : Nat) : idV n n = cntV n := by
  rw [idV_cnt n n (Nat.le_refl _), Nat.sub_self]
  simp
def shuffleU (n : Int) (L : List Int) : List Int × Int × Nat := if n < 0 ∨ 16384 < n then ([], 1, 0) else shufU L (n.toNat - 1) (cntV n.toNat) 0
theorem shuffle_ev (n : Int) {L : List Int} (dL : Dig (b8 : Int) L) : Evt (fun k => shuffle.f k n L) ((shuffleU n L).1, (shuffleU n L).2.1, L.drop (shuffleU n L).2.2) ∧ Evt (fun k => rshuffle.f k n L 0) (shuffleU n L) ∧ (shuffleU n L).2.2 ≤ L.length := by
  unfold shuffle.f rshuffle.f shuffleU
  by_cases h : n < 0 ∨ 16384 < n
  · rw [if_pos h]
    exact ⟨Evt.ite_pos h (Evt.pure _), Evt.ite_pos h (Evt.pure _), Nat.zero_le _⟩
  · rw [if_neg h, idV_all]
    refine ⟨Evt.ite_neg h ?_, Evt.ite_neg h (rshuf_ev dL _ (by omega) _ 0 (Nat.zero_le _)), shufU_le L _ (by omega) _ 0 (Nat.zero_le _)⟩
    have e := shuf_ev dL (n.toNat - 1) (by omega) (cntV n.toNat) 0 (Nat.zero_le _)
    rw [List.drop_zero] at e
    exact e
theorem cntV_at (n : Nat) : ∀ i, i < n → (cntV n).getD i 0 = (i : Int) := by
  induction n with
  | zero => exact fun i hi => absurd hi (Nat.not_lt_zero _)
  | succ n ih =>
    intro i hi
    rw [cntV, List.getD_eq_getElem?_getD]
    have hl := cntV_len n
    by_cases h : i < n
    · rw [List.getElem?_append_left (by omega), ← List.getD_eq_getElem?_getD]
      exact ih i h
    · obtain rfl : i = n := by omega
      rw [List.getElem?_append_right (by omega), hl]
      simp
def OnceV (n : Nat) (V : List Int) : Prop := V.length = n ∧ (∀ a, a < n → 0 ≤ V.getD a 0 ∧ V.getD a 0 < (n : Int)) ∧ ∀ a b, a < n → b < n → V.getD a 0 = V.getD b 0 → a = b
theorem swapV_at {V : List Int} {i j a : Nat} (hi : i < V.length) (hj : j < V.length) : (swapV V i j).getD a 0 = if a = j then V.getD i 0 else if a = i then V.getD j 0 else V.getD a 0 := by
  unfold swapV
  by_cases h1 : a = j
  · subst h1
    rw [if_pos rfl, List.getD_eq_getElem?_getD, List.getElem?_set_self (by simp; omega)]
    rfl
  · rw [if_neg h1, List.getD_eq_getElem?_getD, List.getElem?_set_ne (fun e => h1 e.symm)]
    by_cases h2 : a = i
    · subst h2
      rw [if_pos rfl, List.getElem?_set_self hi]
      rfl
    · rw [if_neg h2, List.getElem?_set_ne (fun e => h2 e.symm), ← List.getD_eq_getElem?_getD]
theorem OnceV.swap {n : Nat} {V : List Int} (h : OnceV n V) {i j : Nat} (hi : i < n) (hj : j < n) : OnceV n (swapV V i j) := by
  obtain ⟨h1, h2, h3⟩ := h
  have key : ∀ a, (swapV V i j).getD a 0 = V.getD (if a = j then i else if a = i then j else a) 0 := by
    intro a
    rw [swapV_at (by omega) (by omega)]
    split
    · rfl
    · split <;> rfl
  refine ⟨by rw [swapV_len, h1], fun a ha => ?_, fun a b ha hb he => ?_⟩
  · rw [key]
    exact h2 _ (by split; exact hi; split; exact hj; exact ha)
  · rw [key, key] at he
    have e := h3 _ _ (by split; exact hi; split; exact hj; exact ha) (by split; exact hi; split; exact hj; exact hb) he
    split at e <;> split at e <;> (try split at e) <;> (try split at e) <;> omega
theorem shufU_once {n : Nat} {L : List Int} (i : Nat) : ∀ V u, i < n ∨ i = 0 → i ≤ 20000 → OnceV n V → ((shufU L i V u).2.1 = 0 ∧ OnceV n (shufU L i V u).1) ∨ (shufU L i V u).2.1 = 7 := by
  induction i with
  | zero => exact fun V u _ _ h => .inl ⟨rfl, h⟩
  | succ i ih =>
    intro V u hi h2 h
    rw [shufU]
    rcases smallU_ok (m := (i : Int) + 2) (by omega) (by omega) L u with ⟨a, b, c⟩ | h7
    · rw [if_pos a]
      exact ih _ _ (by omega) (by omega) (h.swap (by omega) (by omega))
    · rw [if_neg (by rw [h7]; decide)]
      exact .inr h7
theorem shuffleU_once (n : Int) (L : List Int) : (n < 0 ∨ 16384 < n) ∧ (shuffleU n L).2.1 = 1 ∨ 0 ≤ n ∧ n ≤ 16384 ∧ (((shuffleU n L).2.1 = 0 ∧ OnceV n.toNat (shuffleU n L).1) ∨ (shuffleU n L).2.1 = 7) := by
  unfold shuffleU
  by_cases h : n < 0 ∨ 16384 < n
  · rw [if_pos h]
    exact .inl ⟨h, rfl⟩
  · rw [if_neg h]
    refine .inr ⟨by omega, by omega, ?_⟩
    refine shufU_once _ _ _ (by omega) (by omega) ⟨cntV_len _, fun a ha => ?_, fun a b ha hb he => ?_⟩
    · rw [cntV_at _ a ha]
      omega
    · rw [cntV_at _ a ha, cntV_at _ b hb] at he
      omega
theorem small_nought {m : Nat} (h1 : 2 ≤ m) (h2 : m ≤ 16) {L : List Int} {u : Nat} (hu : u < L.length) (h0 : L.getD u 0 = 0) : smallU (m : Int) L u = (0, 0, u + 1) := by
  have hb6 : (256 : Nat) < b64 := by decide
  have hlt : m < b64 ^ 64 := Nat.lt_of_lt_of_le (Nat.lt_of_le_of_lt (show m ≤ 256 by omega) hb6) (Nat.le_self_pow (by decide) b64)
  have hl : (limbs m).length ≠ 0 := fun e => by have := (lz_iff m).1 e; omega
  have hz := bl_pos_t (v := m - 1) (by omega)
  have hz8 : bl (m - 1) ≤ 4 := bl_le (by omega)
  have hq : (bl (m - 1) + 7) / 8 = 1 := by omega
  have ht : (L.drop u).take 1 = [0] := by
    rw [List.drop_eq_getElem_cons hu]
    rw [List.getD_eq_getElem?_getD, List.getElem?_eq_getElem hu] at h0
    simp only [Option.getD_some] at h0
    simp [h0]
  have hd : drawU (bl (m - 1)) m L (L.length + 1) u = (limbs 0, 0, u + 1) := by
    rw [drawU, hq, if_neg (by omega), ht, show bv [0] = 0 from by simp [bv, val], Nat.zero_mod, if_pos (by omega)]
  unfold smallU
  rw [if_neg (by omega), Int.toNat_natCast]
  have hbel : belowU (limbs m) L u = (limbs 0, 0, u + 1) := by
    unfold belowU
    rw [if_pos ⟨right_limbs' hlt, hl⟩, num_limbs, if_neg (by omega), hd]
  rw [hbel]
  have := small_num (v := 0) (by omega)
  simp only [this]
  rfl
theorem shuffle_three : shuffleU 3 [0, 0] = ([1, 2, 0], 0, 2) := by
  have a := small_nought (m := 3) (by omega) (by omega) (L := [0, 0]) (u := 0) (by simp) rfl
  have b := small_nought (m := 2) (by omega) (by omega) (L := [0, 0]) (u := 1) (by simp) rfl
  unfold shuffleU
  rw [if_neg (by omega)]
  show shufU [0, 0] 2 (cntV 3) 0 = _
  rw [shufU, show ((1 : Nat) : Int) + 2 = ((3 : Nat) : Int) from rfl, a, if_pos rfl]
  simp only
  rw [shufU, show ((0 : Nat) : Int) + 2 = ((2 : Nat) : Int) from rfl, b, if_pos rfl]
  simp only
  rw [shufU]
  rfl
end Go.Proofs.Ytlkinjhmgljapab.Z
end
section
namespace Go.Proofs.Ytlkinjhmgljapab.Pure
open Go.RowKit Go.Proofs.Ytlkinjhmgljapab.F Go.Proofs.Ytlkinjhmgljapab.Z
set_option linter.unusedSimpArgs false
set_option linter.unusedVariables false
theorem dig8o {L : List Int} (h : ∀ x ∈ L, (Lit.int .u8 x).wf = true) : Dig (b8 : Int) L := by
  intro x hx
  have h := h x hx
  simp [Lit.wf, IntKind.min, IntKind.max, IntKind.bits, IntKind.signed] at h
  exact ⟨by omega, show x < 256 by omega⟩
theorem SplitmaskOnce : windbreaklaw20_SplitmaskOnce.Pure := by
  constructor
  · have d : Dig (b8 : Int) [0, 0] := Dig.cons.2 ⟨by decide, Dig.cons.2 ⟨by decide, Dig.nil⟩⟩
    obtain ⟨k, p⟩ := (shuffle_ev 3 d).1
    have h := p k (Nat.le_refl _)
    rw [shuffle_three] at h
    exact ⟨k, _, h⟩
  · intro L n hL hw
    obtain ⟨k, p⟩ := (shuffle_ev n (dig8o hw)).1
    refine ⟨k, _, _, _, p k (Nat.le_refl _), ?_⟩
    rcases shuffleU_once n L with ⟨_, h⟩ | ⟨h1, h2, ⟨h3, h4⟩ | h⟩
    · exact .inl h
    · exact .inr (.inr ⟨h3, h1, h2, h4⟩)
    · exact .inr (.inl h)
end Go.Proofs.Ytlkinjhmgljapab.Pure
end
section
namespace Go.Proofs.YtlkinjhmgljapabW.PrintWords
open Go.ChangeShapes Go.WideShapes
end Go.Proofs.YtlkinjhmgljapabW.PrintWords
end
section
namespace Go.Proofs.Ytlkinjhmgljapab.splitmaskOnce
open Go.ChangeShapes Go.WideShapes Go.ChangeAt Go.RowKit Go.Proofs.Ytlkinjhmgljapab.F Go.Proofs.YtlkinjhmgljapabW.PrintWords
set_option linter.unusedSimpArgs false
open Go.ChangeMaps (open_string shut_string)
set_option linter.unusedVariables false
theorem own : ownKnob Try.prog.godebug = none := by kernel_rfl
theorem laidOut : laidOutB Try.prog = true := by kernel_rfl
set_option maxRecDepth 100000 in
theorem lifted (os : Os) (started : os.Started) (H : Type) (enc : TypeId × Value → H) :
    ReturnsInHanded {} Try.checked os 8 .any (Rows.splitmaskOnceSpec.pre6 enc Try.prog Try.f8 Rows.splitmaskOnceRow.domain false) (Rows.splitmaskOnceSpec.post enc Try.prog Try.f8 false true false false) := by
  refine returnsInHanded_of_change_sized (C := Try.checked) own started (by kernel_rfl) Try.func8
    (ChangeSpec.witness6 (enc := enc) (C := Try.checked) false ⟨#[], #[.slice none 0 0, .int .i64 0], []⟩ 8 (by kernel_rfl) (by kernel_rfl) (by kernel_rfl) (by kernel_rfl)) ?_
  intro W base args ds gs before hval0 hW hcnd hsz0 _
  have hsz : (DataW.weightsEach Try.prog (Try.f8.params.toList ++ Rows.splitmaskOnceSpec.plain.varTypes Try.prog) (ds ++ gs)).all (· ≤ reachBytes) = true := hsz0
  have hval : ∀ (j : Nat) t v, Try.f8.params[j]? = some t → args[j]? = some v → Value.okWide Try.prog W .any base t v := hval0
  have hW' := hW
  obtain ⟨p, q, hA0, hV, rfl, hfz, hnd⟩ := hW
  have hA : DataW.TrodAll enc Try.prog W 0 (fun _ => true) true Try.f8.params.toList args.toList ds p := hA0
  rw [Try.params8] at hA hval hsz
  obtain ⟨v0, vs0, d0, ds0, p0, q0, hargs, rfl, rfl, h0, r0⟩ := trodAll_cons hA
  obtain ⟨v1, vs1, d1, ds1, p1, q1, rfl, rfl, rfl, h1, r1⟩ := trodAll_cons r0
  obtain ⟨rfl, rfl, rfl⟩ := trodAll_nil r1
  obtain rfl : args = #[v0, v1] := by cases args; simp_all
  obtain ⟨rfl, rfl⟩ := trodVars_none hV
  obtain ⟨a0, len0, cap0, rfl⟩ := okWide_slice Try.underlying22 (hval 0 22 v0 rfl rfl)
  have k0 := h0
  have lt0 : ∀ x ∈ p0, x.block < W.heap.size := by obtain ⟨m, hm⟩ := k0; exact DataW.trod_lt m _ _ _ hm
  obtain ⟨m0, hm0⟩ := h0
  obtain ⟨x0, hK0, ok0⟩ := (Opens.slice Try.underlying22 (by kernel_rfl) (Opens.int Try.underlying5)) enc W true m0 _ _ hm0
  obtain ⟨n1, rfl⟩ := okWide_int Try.underlying3 (hval 1 3 v1 rfl rfl)
  have k1 := h1
  have lt1 : ∀ x ∈ p1, x.block < W.heap.size := by obtain ⟨m, hm⟩ := k1; exact DataW.trod_lt m _ _ _ hm
  obtain ⟨m1, hm1⟩ := h1
  obtain ⟨x1, hK1, ok1⟩ := (Opens.int Try.underlying3) enc W true m1 _ _ hm1
  clear hA0 hval0 hsz0 hsz
  refine (F.windbreaklaw20_SplitmaskOnce.row Pure.SplitmaskOnce W a0 len0 cap0 x0 hK0 ok0 n1 x1 hK1 ok1).mono fun e W' ⟨he, bel⟩ => ?_
  subst he
  exact ⟨_, rfl, _, _, _, [], _, [], hW', trodAll_mk1 (shut_bool Try.underlying4 _), (trodAll_cons_mk (Below.trod laidOut (by kernel_rfl) (of_decide_eq_true (by kernel_rfl)) k0 bel lt0) (trodAll_cons_mk (Below.trod laidOut (by kernel_rfl) (of_decide_eq_true (by kernel_rfl)) k1 bel lt1) trodAll_mk0)), rfl, bel.frame _, fun h => by cases h⟩
theorem over : Rows.splitmaskOnceRow.holds Try.pinned (OpenSpec.ofChange Rows.splitmaskOnceSpec) :=
  OpenClaim.holds_of_wide 8 Try.f8 rfl rfl rfl rfl rfl rfl rfl ⟨rfl, rfl, rfl, rfl, rfl⟩ rfl rfl rfl rfl rfl (by kernel_rfl) Try.func8 (by kernel_rfl)
    (of_decide_eq_true (by kernel_rfl)) (by unfold Func.isWrapper; first | (rw [if_pos (by decide +kernel)]; kernel_rfl) | (rw [if_neg (by decide +kernel)]; exact ⟨rfl, rfl⟩))
    (fun os started H enc _ => lifted os started H enc)
theorem proved : Rows.SplitmaskOnceSaid := over
#print axioms proved
end Go.Proofs.Ytlkinjhmgljapab.splitmaskOnce
namespace Go.Proofs.Ytlkinjhmgljapab
theorem splitmaskOnce_holds : Rows.SplitmaskOnceSaid := splitmaskOnce.proved
end Go.Proofs.Ytlkinjhmgljapab
end
