/- Proved: the law WireEncodes of layer 12: any message's bytes are the document's; for every input, without a condition. -/
import Derived.Test.YtanmfddlncdncabMWireEncodesa
import Derived.Laws.BitsLemmas
import Derived.SizedLaws
import Derived.ChangeSlices
import Derived.Test.YtanmfddlncdncabRows
import Derived.WalkKit
import Derived.ProofKit
import Derived.OpenShut
import Derived.ShutString
import Derived.ChangeOld
import Derived.Below
section
namespace Go.Proofs.Ytanmfddlncdncab.F
open Go.RowKit Go.Proofs.YtanmfddlncdncabW.PrintWords Go.Proofs.YtanmfddlncdncabW.PrintLast Go.Proofs.YtanmfddlncdncabW.PrintMore
attribute [local go_sem] max2_int min2_int max_two min_two max_three min_three max_four min_four
set_option linter.unusedVariables false
set_option linter.unusedSimpArgs false
mutual
def windbreakref01_In.l0 : Nat → List Int → List Int → Int → Option (List Int)
 | 0, _, _, _ => none
 | k + 1, x0, x3, x4 => if x4 < (x0.length : Int) then (if 0 ≤ x4 then (windbreakref01_In.l1 k x0 x3 x4 (rd x0 x4) 0) else (none)) else ((windbreakref01_cut.f k x3).bind fun t161 => (some t161))
def windbreakref01_In.l1 : Nat → List Int → List Int → Int → Int → Int → Option (List Int)
 | 0, _, _, _, _, _ => none
 | k + 1, x0, x3, x4, x5, x6 => if x6 < 4 then (if x3.length < 17592186044416 then (windbreakref01_In.l1 k x0 (x3 ++ [Int.tmod x5 65536]) x4 (IntKind.u64.wrap (Int.tdiv x5 65536)) (wrap64 (x6 + 1))) else (none)) else (windbreakref01_In.l0 k x0 x3 (wrap64 (x4 + 1)))
end
def windbreakref01_In.f (k : Nat) (l0 : List Int) : Option (List Int) := windbreakref01_In.l0 k l0 ([] : List Int) 0
set_option maxHeartbeats 8000000 in
set_option maxRecDepth 100000 in
theorem windbreakref01_In.calls (k : Nat) (A0 : Option Addr) (c0 : Nat) (l0 : List Int) (r : List Int) (w : World) (hr0 : Kd.C (Kd.int .u64) w A0 l0.length l0) (hc0 : l0.length ≤ c0) (h : windbreakref01_In.f k l0 = some r) :
  Calls Try.prog 46 #[.slice A0 l0.length c0] w fun e w' => ∃ v0_ : Value, e = .returned (v0_) ∧ Kd.R (Kd.int .u64) 37 w' w.heap.size (fun _ => True) v0_ r ∧ Below w.heap.size w w' := by
 have HR0 := Aside0.mk hr0; have HC0 := Aside0.mk hc0; clear hr0 hc0
 have HB := Aside0.mk (Below.refl w.heap.size w)
 have H : (windbreakref01_In.l0 k l0 ([] : List Int) 0) = some r := h
 clear h
 have H' := Aside0.mk H
 clear H
 go_enter Try.func46, Try.ntmps46
 go_wp2
 go_loopg [3, 4] k (fun kq v3 v4 w' => ∃ (x3_1 : List Int) (x4_1 : Int), v4 = .int .i64 x4_1 ∧ Aside0 (windbreakref01_In.l0 kq l0 x3_1 x4_1 = some r) ∧ Aside0 (kq ≤ k) ∧ Aside0 (Kd.R (Kd.int .u64) 37 w' w.heap.size (fun _ => True) v3 x3_1) ∧ Aside0 (Below w.heap.size w w'))
 case atStart => exact ⟨(([] : List Int)), (0), uG, H', ⟨Nat.le_refl _⟩, ⟨by first | exact Kd.R_nil _ _ _ _ _ | exact Kd.N_nil _ _ _ _ _ | exact Kd.V_nil _ _ _ _ _ | exact Kd.Q_nil _ _ _ _ _ | exact Kd.S_nil _ _ _ _ _⟩, ⟨uB⟩⟩
 case round =>
  clear H'
  obtain ⟨x3_1, x4_1, rfl, HA, HK1, HO_3, HB⟩ := hrel
  cases gk with
  | zero => exact absurd HA.out (by simp [windbreakref01_In.l0])
  | succ k1 =>
   have H := HA.out
   clear HA
   simp only [windbreakref01_In.l0] at H
   by_cases c2 : x4_1 < (l0.length : Int)
   ·
    rw [if_pos c2] at H
    have c2b0 : decide (x4_1 < (l0.length : Int)) = true := decide_eq_true c2
    clear c2
    replace H := uT H; obtain ⟨c3, H⟩ := H
    have c3b0 : decide (0 ≤ x4_1) = true := decide_eq_true c3
    clear c3
    have H' := Aside0.mk H
    clear H
    have p164 : 0 ≤ (x4_1 : Int) := uO
    have q164 : x4_1 < (l0.length : Int) := uO
    obtain ⟨ad164, e164, hx164_0⟩ := Kd.at_int HR0.out x4_1 p164 q164
    cases e164
    replace hx164_0 := (HB.out.cell (World.block_lt_of_cell? w _ hx164_0)).trans hx164_0
    replace p164 := eq_true p164
    replace q164 := eq_true q164
    go_wp2
    go_loopg [3, 5, 6] k1 (fun kq v3 v5 v6 w' => ∃ (x3_2 : List Int) (x5_2 : Int) (x6_2 : Int), v5 = .int .u64 x5_2 ∧ v6 = .int .i64 x6_2 ∧ Aside0 (windbreakref01_In.l1 kq l0 x3_2 x4_1 x5_2 x6_2 = some r) ∧ Aside0 (kq ≤ k1) ∧ Aside0 (Kd.R (Kd.int .u64) 37 w' w.heap.size (fun _ => True) v3 x3_2) ∧ Aside0 (Below w.heap.size w w'))
    case atStart => exact ⟨(x3_1), (rd l0 x4_1), (0), uG, uG, H', ⟨Nat.le_refl _⟩, ⟨uR HO_3.out⟩, ⟨uB⟩⟩
    case round =>
     clear H'
     (try clear p1); (try clear q1); (try clear hx1); (try clear c2); (try clear c2b0); (try clear p2); (try clear c3); (try clear c3b0); (try clear hx164_0); (try clear p164); (try clear q164)
     obtain ⟨x3_2, x5_2, x6_2, rfl, rfl, HA, HK2, HO_3, HB⟩ := hrel
     cases gk with
     | zero => exact absurd HA.out (by simp [windbreakref01_In.l1])
     | succ k2 =>
      have H := HA.out
      clear HA
      simp only [windbreakref01_In.l1] at H
      by_cases c4 : x6_2 < 4
      ·
       rw [if_pos c4] at H
       have c4b0 : decide (x6_2 < 4) = true := decide_eq_true c4
       clear c4
       replace H := uT H; obtain ⟨c5, H⟩ := H
       have LMc5 := Aside0.mk c5; clear c5
       obtain ⟨y165, hy165⟩ : ∃ y_ : List Int, y_ = (x3_2 ++ [Int.tmod x5_2 65536]) := ⟨_, rfl⟩
       replace H : (windbreakref01_In.l1 k2 l0 y165 x4_1 (IntKind.u64.wrap (Int.tdiv x5_2 65536)) (wrap64 (x6_2 + 1))) = some r := by first | (rw [hy165]; with_reducible exact H) | (have H2_ := (Option.bind_some _ _).symm.trans H; rw [hy165]; with_reducible exact H2_) | (have H2_ := (Option.bind_some _ _).symm.trans H; with_reducible exact H2_) | with_reducible exact H | (rw [hy165]; exact H) | exact H
       have Ny165 := Aside0.mk hy165; clear hy165
       have H' := Aside0.mk H
       clear H
       go_wp2_with (first | ((with_reducible refine gate_builtin (b := .append) (xs := #[.tmp 21, .tmp 24]) rfl ?_); at_builtin; refine Kd.R_append (Kd.int .u64) (w0 := w) w.heap.size rfl (.tmp 21) (.tmp 24) 80 37 (.int .u64 0) 8 rfl Try.underlying80 info37 rfl (by decide) (by omega) u3 x3_2 (Int.tmod x5_2 65536) [.int .u64 (Int.tmod x5_2 65536)] (fun _ => True) (fun _ => False) rfl rfl ?aP (fun _ hk => hk.elim) ?aF ?aO ?aB ?aS ?aL ?_; (case aP => exact rfl); (case aB => exact uB); (case aF => exact (fun _ _ => trivial)); (case aO => exact (uR HO_3.out)); (case aS => exact (below_size uB)); (case aL => have := LMc5.out; omega); intro v166 w6 ho hb hg hat; rw [← Ny165.out] at ho; replace HB := Aside0.mk (hb); have HO167 := Aside0.mk (ho); clear HO_3; clear ho hb hg hat))
       go_roundg k2
       case measure => have := HK1.out; have := HK2.out; omega
       case rel => exact ⟨(y165), (IntKind.u64.wrap (Int.tdiv x5_2 65536)), (wrap64 (x6_2 + 1)), uG, uG, H', ⟨by have := HK1.out; have := HK2.out; omega⟩, ⟨uR HO167.out⟩, ⟨uB⟩⟩
      rw [if_neg c4] at H
      have c4b0 : decide (x6_2 < 4) = false := decide_eq_false c4
      clear c4
      have H' := Aside0.mk H
      clear H
      go_wp2
      go_roundg k2
      case measure => have := HK1.out; have := HK2.out; omega
      case rel => exact ⟨(x3_2), (wrap64 (x4_1 + 1)), uG, H', ⟨by have := HK1.out; have := HK2.out; omega⟩, ⟨uR HO_3.out⟩, ⟨uB⟩⟩
   rw [if_neg c2] at H
   have c2b0 : decide (x4_1 < (l0.length : Int)) = false := decide_eq_false c2
   clear c2
   replace H := ub H; obtain ⟨t161, A7, H⟩ := H
   obtain rfl := Option.some.inj H
   obtain ⟨Ao8, co8, eo8⟩ := Kd.R_slice HO_3.out
   subst eo8
   go_wp2_with (first | ((with_reducible refine gate_callee (f := 54) rfl ?_); refine goesL_ (some 29) rfl rfl Try.func54 (by kernel_rfl) rfl #[.slice Ao8 x3_1.length co8] rfl uM ?_; (with_reducible refine (windbreakref01_cut.calls k1 (fun k_ => some k_ = (.slice Ao8 x3_1.length co8 : Value).ownBlock) (.slice Ao8 x3_1.length co8) x3_1 t161 w _ ?side1 ?side2 A7.out).mono ?_); (case side1 => repeat (first | (with_reducible first | exact HB.out | apply below_alloc | apply pw_below_drewN | apply below_drew1) | exact HB.out)); (case side2 => exact Kd.R_tight rfl HO_3.out); rintro e w9 ⟨v162, rfl, ho0, hb, hkp⟩; refine ⟨_, rfl, ?_⟩; have HO163 := Aside0.mk (Kd.R_mono (ok' := fun k_ => True) ho0 (fun k_ hk_ => trivial)); replace HB := Aside0.mk (hb); clear HO_3; (try clear hb); (try clear hkp); (try clear ho0)))
   go_ret
   exact ⟨_, uF, uR HO163.out, uB⟩
end Go.Proofs.Ytanmfddlncdncab.F
end
section
namespace Go.Proofs.Ytanmfddlncdncab.F
open Go.RowKit Go.Proofs.YtanmfddlncdncabW.PrintWords Go.Proofs.YtanmfddlncdncabW.PrintLast Go.Proofs.YtanmfddlncdncabW.PrintMore
attribute [local go_sem] max2_int min2_int max_two min_two max_three min_three max_four min_four
set_option linter.unusedVariables false
set_option linter.unusedSimpArgs false
def windbreakref01_Bytes.l0 : Nat → List Int → List Int → Int → Option (List Int)
 | 0, _, _, _ => none
 | k + 1, x4, x5, x6 => if x6 ≥ 0 then (if (x5.length : Int) > 0 then (if 0 ≤ x6 then (if x6 < (x4.length : Int) then (if x5.length < 140737488355328 then ((some (x5 ++ [(IntKind.u64.wrap (Int.tdiv (rd x4 x6) 256)) % 256] : List Int)).bind fun y173 => (if y173.length < 140737488355328 then (windbreakref01_Bytes.l0 k x4 (y173 ++ [(Int.tmod (rd x4 x6) 256) % 256]) (wrap64 (x6 - 1))) else (none))) else (none)) else (none)) else (none)) else (if 0 ≤ x6 then (if x6 < (x4.length : Int) then (if (rd x4 x6) > 255 then (if x5.length < 140737488355328 then ((some (x5 ++ [(IntKind.u64.wrap (Int.tdiv (rd x4 x6) 256)) % 256] : List Int)).bind fun y182 => (if y182.length < 140737488355328 then (windbreakref01_Bytes.l0 k x4 (y182 ++ [(Int.tmod (rd x4 x6) 256) % 256]) (wrap64 (x6 - 1))) else (none))) else (none)) else (if x5.length < 140737488355328 then (windbreakref01_Bytes.l0 k x4 (x5 ++ [(Int.tmod (rd x4 x6) 256) % 256]) (wrap64 (x6 - 1))) else (none))) else (none)) else (none))) else (some x5)
def windbreakref01_Bytes.f (k : Nat) (l0 : List Int) : Option (List Int) := (windbreakref01_Right.f l0).bind fun t168 => (if t168 = true then ((windbreakref01_In.f k l0).bind fun t169 => (windbreakref01_Bytes.l0 k t169 ([] : List Int) (wrap64 ((t169.length : Int) - 1)))) else (some ([] : List Int)))
set_option maxHeartbeats 8000000 in
set_option maxRecDepth 100000 in
theorem windbreakref01_Bytes.calls (k : Nat) (A0 : Option Addr) (c0 : Nat) (l0 : List Int) (r : List Int) (w : World) (hr0 : Kd.C (Kd.int .u64) w A0 l0.length l0) (hc0 : l0.length ≤ c0) (h : windbreakref01_Bytes.f k l0 = some r) :
  Calls Try.prog 21 #[.slice A0 l0.length c0] w fun e w' => ∃ v0_ : Value, e = .returned (v0_) ∧ Kd.R (Kd.int .u8) 5 w' w.heap.size (fun _ => True) v0_ r ∧ Below w.heap.size w w' := by
 have HR0 := Aside0.mk hr0; have HC0 := Aside0.mk hc0; clear hr0 hc0
 have HB := Aside0.mk (Below.refl w.heap.size w)
 have H : ((windbreakref01_Right.f l0).bind fun t168 => (if t168 = true then ((windbreakref01_In.f k l0).bind fun t169 => (windbreakref01_Bytes.l0 k t169 ([] : List Int) (wrap64 ((t169.length : Int) - 1)))) else (some ([] : List Int)))) = some r := h
 clear h
 replace H := ub H; obtain ⟨t168, A2, H⟩ := H
 by_cases c3 : t168 = true
 ·
  subst c3
  have H1 : ((windbreakref01_In.f k l0).bind fun t169 => (windbreakref01_Bytes.l0 k t169 ([] : List Int) (wrap64 ((t169.length : Int) - 1)))) = some r := by rw [if_pos rfl] at H; exact H
  clear H; have H := H1; clear H1
  replace H := ub H; obtain ⟨t169, A4, H⟩ := H
  have H' := Aside0.mk H
  clear H
  go_enter Try.func21, Try.ntmps21
  go_wp2_with (first | ((with_reducible refine gate_callee (f := 45) rfl ?_); refine goesL_ (some 8) rfl rfl Try.func45 (by kernel_rfl) rfl #[.slice A0 l0.length c0] rfl uM ?_; (with_reducible refine (windbreakref01_Right.calls _ _ l0 true _ ?side1 ?side2 A2.out).mono ?_); (case side1 => exact uC HR0.out); (case side2 => exact HC0.out); rintro e w' ⟨rfl, ⟨nd, rfl⟩⟩; refine ⟨_, rfl, ?_⟩) | ((with_reducible refine gate_callee (f := 46) rfl ?_); refine goesL_ (some 12) rfl rfl Try.func46 (by kernel_rfl) rfl #[.slice A0 l0.length c0] rfl uM ?_; (with_reducible refine (windbreakref01_In.calls k _ _ l0 t169 _ ?side1 ?side2 A4.out).mono ?_); (case side1 => exact uC HR0.out); (case side2 => exact HC0.out); rintro e w5 ⟨v170, rfl, ho0, hb⟩; refine ⟨_, rfl, ?_⟩; have HO171 := Aside0.mk (Kd.R_lower ho0 (below_size uB)); replace HB := uy hb; (try clear hb ho0); obtain ⟨Ao6, co6, eo6⟩ := Kd.R_slice HO171.out; subst eo6))
  go_loopg [5, 6] k (fun kq v5 v6 w' => ∃ (x5_1 : List Int) (x6_1 : Int), v6 = .int .i64 x6_1 ∧ Aside0 (windbreakref01_Bytes.l0 kq t169 x5_1 x6_1 = some r) ∧ Aside0 (kq ≤ k) ∧ Aside0 (Kd.R (Kd.int .u64) 37 w' w.heap.size (fun _ => True) (.slice Ao6 t169.length co6) t169) ∧ Aside0 (Kd.R (Kd.int .u8) 5 w' w.heap.size (fun _ => True) v5 x5_1) ∧ Aside0 (Below w.heap.size w w'))
  case atStart => exact ⟨(([] : List Int)), (wrap64 ((t169.length : Int) - 1)), uG, H', ⟨Nat.le_refl _⟩, ⟨uR HO171.out⟩, ⟨by first | exact Kd.R_nil _ _ _ _ _ | exact Kd.N_nil _ _ _ _ _ | exact Kd.V_nil _ _ _ _ _ | exact Kd.Q_nil _ _ _ _ _ | exact Kd.S_nil _ _ _ _ _⟩, ⟨uB⟩⟩
  case round =>
   clear H'
   (try clear c2); (try clear p2); (try clear c3); (try clear c4); (try clear p6)
   obtain ⟨x5_1, x6_1, rfl, HA, HK1, HO_4, HO_5, HB⟩ := hrel
   cases gk with
   | zero => exact absurd HA.out (by simp [windbreakref01_Bytes.l0])
   | succ k1 =>
    have H := HA.out
    clear HA
    simp only [windbreakref01_Bytes.l0] at H
    by_cases c7 : x6_1 ≥ 0
    ·
     rw [if_pos c7] at H
     have c7b0 : decide (0 ≤ x6_1) = true := decide_eq_true c7
     clear c7
     by_cases c8 : (x5_1.length : Int) > 0
     ·
      rw [if_pos c8] at H
      have c8b0 : decide (0 < (x5_1.length : Int)) = true := decide_eq_true c8
      have c8b1 : decide (0 < x5_1.length) = true := decide_eq_true (by omega)
      clear c8
      replace H := uT H; obtain ⟨c9, H⟩ := H
      have c9b0 : decide (0 ≤ x6_1) = true := decide_eq_true c9
      clear c9
      replace H := uT H; obtain ⟨c10, H⟩ := H
      have c10b0 : decide (x6_1 < (t169.length : Int)) = true := decide_eq_true c10
      clear c10
      replace H := uT H; obtain ⟨c11, H⟩ := H
      have LMc11 := Aside0.mk c11; clear c11
      obtain ⟨y173, hy173⟩ : ∃ y_ : List Int, y_ = (x5_1 ++ [(IntKind.u64.wrap (Int.tdiv (rd t169 x6_1) 256)) % 256]) := ⟨_, rfl⟩
      replace H : (if y173.length < 140737488355328 then (windbreakref01_Bytes.l0 k1 t169 (y173 ++ [(Int.tmod (rd t169 x6_1) 256) % 256]) (wrap64 (x6_1 - 1))) else (none)) = some r := by first | (rw [hy173]; with_reducible exact H) | (have H2_ := (Option.bind_some _ _).symm.trans H; rw [hy173]; with_reducible exact H2_) | (have H2_ := (Option.bind_some _ _).symm.trans H; with_reducible exact H2_) | with_reducible exact H | (rw [hy173]; exact H) | exact H
      have Ny173 := Aside0.mk hy173; clear hy173
      replace H := uT H; obtain ⟨c12, H⟩ := H
      have LMc12 := Aside0.mk c12; clear c12
      obtain ⟨y177, hy177⟩ : ∃ y_ : List Int, y_ = (y173 ++ [(Int.tmod (rd t169 x6_1) 256) % 256]) := ⟨_, rfl⟩
      replace H : (windbreakref01_Bytes.l0 k1 t169 y177 (wrap64 (x6_1 - 1))) = some r := by first | (rw [hy177]; with_reducible exact H) | (have H2_ := (Option.bind_some _ _).symm.trans H; rw [hy177]; with_reducible exact H2_) | (have H2_ := (Option.bind_some _ _).symm.trans H; with_reducible exact H2_) | with_reducible exact H | (rw [hy177]; exact H) | exact H
      have Ny177 := Aside0.mk hy177; clear hy177
      have H' := Aside0.mk H
      clear H
      obtain ⟨Ao13, co13, eo13⟩ := Kd.R_slice HO_5.out
      subst eo13
      have p172 : 0 ≤ (x6_1 : Int) := uO
      have q172 : x6_1 < (t169.length : Int) := uO
      obtain ⟨ad172, e172, hx172_0⟩ := Kd.at_int (Kd.R_reads' HO_4.out).2.2 x6_1 p172 q172
      cases e172
      replace p172 := eq_true p172
      replace q172 := eq_true q172
      go_wp2_with (first | ((with_reducible refine gate_builtin (b := .append) (xs := #[.tmp 30, .tmp 37]) rfl ?_); at_builtin; refine Kd.R_append (Kd.int .u8) (w0 := w) w.heap.size rfl (.tmp 30) (.tmp 37) 27 5 (.int .u8 0) 1 rfl Try.underlying27 info5 rfl (by decide) (by omega) (.slice Ao13 x5_1.length co13) x5_1 ((IntKind.u64.wrap (Int.tdiv (rd t169 x6_1) 256)) % 256) [.int .u8 ((IntKind.u64.wrap (Int.tdiv (rd t169 x6_1) 256)) % 256)] (fun _ => True) (fun _ => False) rfl rfl ?aP (fun _ hk => hk.elim) ?aF ?aO ?aB ?aS ?aL ?_; (case aP => exact rfl); (case aB => exact uB); (case aF => exact (fun _ _ => trivial)); (case aO => exact (uR HO_5.out)); (case aS => exact (below_size uB)); (case aL => have := LMc11.out; omega); intro v174 w14 ho hb hg hat; rw [← Ny173.out] at ho; replace HO_4 := Aside0.mk (Kd.R_over' (uR HO_4.out) (Kd.R_typed (uR HO_5.out)) (by decide) hg); replace HB := Aside0.mk (hb); have HO175 := Aside0.mk (ho); clear HO_5; clear ho hb hg hat; have p176 : 0 ≤ (x6_1 : Int) := uO; have q176 : x6_1 < (t169.length : Int) := uO; obtain ⟨ad176, e176, hx176_0⟩ := Kd.at_int (Kd.R_reads' HO_4.out).2.2 x6_1 p176 q176; obtain rfl : ad172 = ad176 := (by injection e176); replace p176 := eq_true p176; replace q176 := eq_true q176) | ((with_reducible refine gate_builtin (b := .append) (xs := #[.tmp 39, .tmp 46]) rfl ?_); at_builtin; refine Kd.R_append (Kd.int .u8) (w0 := w) w.heap.size rfl (.tmp 39) (.tmp 46) 27 5 (.int .u8 0) 1 rfl Try.underlying27 info5 rfl (by decide) (by omega) v174 y173 ((Int.tmod (rd t169 x6_1) 256) % 256) [.int .u8 ((Int.tmod (rd t169 x6_1) 256) % 256)] (fun _ => True) (fun _ => False) rfl rfl ?aP (fun _ hk => hk.elim) ?aF ?aO ?aB ?aS ?aL ?_; (case aP => exact rfl); (case aB => exact uB); (case aF => exact (fun _ _ => trivial)); (case aO => exact (uR HO175.out)); (case aS => exact (below_size uB)); (case aL => have := LMc12.out; omega); intro v178 w15 ho hb hg hat; rw [← Ny177.out] at ho; replace HO_4 := Aside0.mk (Kd.R_over' (uR HO_4.out) (Kd.R_typed (uR HO175.out)) (by decide) hg); replace HB := Aside0.mk (hb); have HO179 := Aside0.mk (ho); clear HO175; clear ho hb hg hat))
      go_roundg k1
      case measure => have := HK1.out; omega
      case rel => exact ⟨(y177), (wrap64 (x6_1 - 1)), uG, H', ⟨by have := HK1.out; omega⟩, ⟨uR HO_4.out⟩, ⟨uR HO179.out⟩, ⟨uB⟩⟩
     rw [if_neg c8] at H
     have c8b0 : decide (0 < (x5_1.length : Int)) = false := decide_eq_false c8
     have c8b1 : decide (0 < x5_1.length) = false := decide_eq_false (by omega)
     clear c8
     replace H := uT H; obtain ⟨c16, H⟩ := H
     have c16b0 : decide (0 ≤ x6_1) = true := decide_eq_true c16
     clear c16
     replace H := uT H; obtain ⟨c17, H⟩ := H
     have c17b0 : decide (x6_1 < (t169.length : Int)) = true := decide_eq_true c17
     clear c17
     by_cases c18 : (rd t169 x6_1) > 255
     ·
      rw [if_pos c18] at H
      have c18b0 : decide (255 < (rd t169 x6_1)) = true := decide_eq_true c18
      clear c18
      replace H := uT H; obtain ⟨c19, H⟩ := H
      have LMc19 := Aside0.mk c19; clear c19
      obtain ⟨y182, hy182⟩ : ∃ y_ : List Int, y_ = (x5_1 ++ [(IntKind.u64.wrap (Int.tdiv (rd t169 x6_1) 256)) % 256]) := ⟨_, rfl⟩
      replace H : (if y182.length < 140737488355328 then (windbreakref01_Bytes.l0 k1 t169 (y182 ++ [(Int.tmod (rd t169 x6_1) 256) % 256]) (wrap64 (x6_1 - 1))) else (none)) = some r := by first | (rw [hy182]; with_reducible exact H) | (have H2_ := (Option.bind_some _ _).symm.trans H; rw [hy182]; with_reducible exact H2_) | (have H2_ := (Option.bind_some _ _).symm.trans H; with_reducible exact H2_) | with_reducible exact H | (rw [hy182]; exact H) | exact H
      have Ny182 := Aside0.mk hy182; clear hy182
      replace H := uT H; obtain ⟨c20, H⟩ := H
      have LMc20 := Aside0.mk c20; clear c20
      obtain ⟨y186, hy186⟩ : ∃ y_ : List Int, y_ = (y182 ++ [(Int.tmod (rd t169 x6_1) 256) % 256]) := ⟨_, rfl⟩
      replace H : (windbreakref01_Bytes.l0 k1 t169 y186 (wrap64 (x6_1 - 1))) = some r := by first | (rw [hy186]; with_reducible exact H) | (have H2_ := (Option.bind_some _ _).symm.trans H; rw [hy186]; with_reducible exact H2_) | (have H2_ := (Option.bind_some _ _).symm.trans H; with_reducible exact H2_) | with_reducible exact H | (rw [hy186]; exact H) | exact H
      have Ny186 := Aside0.mk hy186; clear hy186
      have H' := Aside0.mk H
      clear H
      obtain ⟨Ao21, co21, eo21⟩ := Kd.R_slice HO_5.out
      subst eo21
      have p180 : 0 ≤ (x6_1 : Int) := uO
      have q180 : x6_1 < (t169.length : Int) := uO
      obtain ⟨ad180, e180, hx180_0⟩ := Kd.at_int (Kd.R_reads' HO_4.out).2.2 x6_1 p180 q180
      cases e180
      replace p180 := eq_true p180
      replace q180 := eq_true q180
      have p181 : 0 ≤ (x6_1 : Int) := uO
      have q181 : x6_1 < (t169.length : Int) := uO
      obtain ⟨ad181, e181, hx181_0⟩ := Kd.at_int (Kd.R_reads' HO_4.out).2.2 x6_1 p181 q181
      obtain rfl : ad180 = ad181 := (by injection e181)
      replace p181 := eq_true p181
      replace q181 := eq_true q181
      go_wp2_with (first | ((with_reducible refine gate_builtin (b := .append) (xs := #[.tmp 30, .tmp 37]) rfl ?_); at_builtin; refine Kd.R_append (Kd.int .u8) (w0 := w) w.heap.size rfl (.tmp 30) (.tmp 37) 27 5 (.int .u8 0) 1 rfl Try.underlying27 info5 rfl (by decide) (by omega) (.slice Ao21 x5_1.length co21) x5_1 ((IntKind.u64.wrap (Int.tdiv (rd t169 x6_1) 256)) % 256) [.int .u8 ((IntKind.u64.wrap (Int.tdiv (rd t169 x6_1) 256)) % 256)] (fun _ => True) (fun _ => False) rfl rfl ?aP (fun _ hk => hk.elim) ?aF ?aO ?aB ?aS ?aL ?_; (case aP => exact rfl); (case aB => exact uB); (case aF => exact (fun _ _ => trivial)); (case aO => exact (uR HO_5.out)); (case aS => exact (below_size uB)); (case aL => have := LMc19.out; omega); intro v183 w22 ho hb hg hat; rw [← Ny182.out] at ho; replace HO_4 := Aside0.mk (Kd.R_over' (uR HO_4.out) (Kd.R_typed (uR HO_5.out)) (by decide) hg); replace HB := Aside0.mk (hb); have HO184 := Aside0.mk (ho); clear HO_5; clear ho hb hg hat; have p185 : 0 ≤ (x6_1 : Int) := uO; have q185 : x6_1 < (t169.length : Int) := uO; obtain ⟨ad185, e185, hx185_0⟩ := Kd.at_int (Kd.R_reads' HO_4.out).2.2 x6_1 p185 q185; obtain rfl : ad180 = ad185 := (by injection e185); replace p185 := eq_true p185; replace q185 := eq_true q185) | ((with_reducible refine gate_builtin (b := .append) (xs := #[.tmp 39, .tmp 46]) rfl ?_); at_builtin; refine Kd.R_append (Kd.int .u8) (w0 := w) w.heap.size rfl (.tmp 39) (.tmp 46) 27 5 (.int .u8 0) 1 rfl Try.underlying27 info5 rfl (by decide) (by omega) v183 y182 ((Int.tmod (rd t169 x6_1) 256) % 256) [.int .u8 ((Int.tmod (rd t169 x6_1) 256) % 256)] (fun _ => True) (fun _ => False) rfl rfl ?aP (fun _ hk => hk.elim) ?aF ?aO ?aB ?aS ?aL ?_; (case aP => exact rfl); (case aB => exact uB); (case aF => exact (fun _ _ => trivial)); (case aO => exact (uR HO184.out)); (case aS => exact (below_size uB)); (case aL => have := LMc20.out; omega); intro v187 w23 ho hb hg hat; rw [← Ny186.out] at ho; replace HO_4 := Aside0.mk (Kd.R_over' (uR HO_4.out) (Kd.R_typed (uR HO184.out)) (by decide) hg); replace HB := Aside0.mk (hb); have HO188 := Aside0.mk (ho); clear HO184; clear ho hb hg hat))
      go_roundg k1
      case measure => have := HK1.out; omega
      case rel => exact ⟨(y186), (wrap64 (x6_1 - 1)), uG, H', ⟨by have := HK1.out; omega⟩, ⟨uR HO_4.out⟩, ⟨uR HO188.out⟩, ⟨uB⟩⟩
     rw [if_neg c18] at H
     have c18b0 : decide (255 < (rd t169 x6_1)) = false := decide_eq_false c18
     clear c18
     replace H := uT H; obtain ⟨c24, H⟩ := H
     have LMc24 := Aside0.mk c24; clear c24
     obtain ⟨y190, hy190⟩ : ∃ y_ : List Int, y_ = (x5_1 ++ [(Int.tmod (rd t169 x6_1) 256) % 256]) := ⟨_, rfl⟩
     replace H : (windbreakref01_Bytes.l0 k1 t169 y190 (wrap64 (x6_1 - 1))) = some r := by first | (rw [hy190]; with_reducible exact H) | (have H2_ := (Option.bind_some _ _).symm.trans H; rw [hy190]; with_reducible exact H2_) | (have H2_ := (Option.bind_some _ _).symm.trans H; with_reducible exact H2_) | with_reducible exact H | (rw [hy190]; exact H) | exact H
     have Ny190 := Aside0.mk hy190; clear hy190
     have H' := Aside0.mk H
     clear H
     obtain ⟨Ao25, co25, eo25⟩ := Kd.R_slice HO_5.out
     subst eo25
     have p180 : 0 ≤ (x6_1 : Int) := uO
     have q180 : x6_1 < (t169.length : Int) := uO
     obtain ⟨ad180, e180, hx180_0⟩ := Kd.at_int (Kd.R_reads' HO_4.out).2.2 x6_1 p180 q180
     cases e180
     replace p180 := eq_true p180
     replace q180 := eq_true q180
     have p189 : 0 ≤ (x6_1 : Int) := uO
     have q189 : x6_1 < (t169.length : Int) := uO
     obtain ⟨ad189, e189, hx189_0⟩ := Kd.at_int (Kd.R_reads' HO_4.out).2.2 x6_1 p189 q189
     obtain rfl : ad180 = ad189 := (by injection e189)
     replace p189 := eq_true p189
     replace q189 := eq_true q189
     go_wp2_with (first | ((with_reducible refine gate_builtin (b := .append) (xs := #[.tmp 39, .tmp 46]) rfl ?_); at_builtin; refine Kd.R_append (Kd.int .u8) (w0 := w) w.heap.size rfl (.tmp 39) (.tmp 46) 27 5 (.int .u8 0) 1 rfl Try.underlying27 info5 rfl (by decide) (by omega) (.slice Ao25 x5_1.length co25) x5_1 ((Int.tmod (rd t169 x6_1) 256) % 256) [.int .u8 ((Int.tmod (rd t169 x6_1) 256) % 256)] (fun _ => True) (fun _ => False) rfl rfl ?aP (fun _ hk => hk.elim) ?aF ?aO ?aB ?aS ?aL ?_; (case aP => exact rfl); (case aB => exact uB); (case aF => exact (fun _ _ => trivial)); (case aO => exact (uR HO_5.out)); (case aS => exact (below_size uB)); (case aL => have := LMc24.out; omega); intro v191 w26 ho hb hg hat; rw [← Ny190.out] at ho; replace HO_4 := Aside0.mk (Kd.R_over' (uR HO_4.out) (Kd.R_typed (uR HO_5.out)) (by decide) hg); replace HB := Aside0.mk (hb); have HO192 := Aside0.mk (ho); clear HO_5; clear ho hb hg hat))
     go_roundg k1
     case measure => have := HK1.out; omega
     case rel => exact ⟨(y190), (wrap64 (x6_1 - 1)), uG, H', ⟨by have := HK1.out; omega⟩, ⟨uR HO_4.out⟩, ⟨uR HO192.out⟩, ⟨uB⟩⟩
    rw [if_neg c7] at H
    have c7b0 : decide (0 ≤ x6_1) = false := decide_eq_false c7
    clear c7
    obtain rfl := Option.some.inj H
    go_wp2
    go_ret
    exact ⟨_, uF, uR HO_5.out, uB⟩
 replace c3 := Bool.eq_false_iff.mpr c3
 subst c3
 have H1 : (some ([] : List Int)) = some r := by rw [if_neg (show ¬ (false = true) by decide)] at H; exact H
 clear H; have H := H1; clear H1
 obtain rfl := Option.some.inj H
 go_enter Try.func21, Try.ntmps21
 go_wp2_with (first | ((with_reducible refine gate_callee (f := 45) rfl ?_); refine goesL_ (some 8) rfl rfl Try.func45 (by kernel_rfl) rfl #[.slice A0 l0.length c0] rfl uM ?_; (with_reducible refine (windbreakref01_Right.calls _ _ l0 false _ ?side1 ?side2 A2.out).mono ?_); (case side1 => exact uC HR0.out); (case side2 => exact HC0.out); rintro e w' ⟨rfl, ⟨nd, rfl⟩⟩; refine ⟨_, rfl, ?_⟩))
 go_ret
 exact ⟨_, by first | rfl | (simp [errW_none, errW_some] <;> rfl) | (simp [*, errW_none, errW_some] <;> rfl), by first | exact Kd.R_nil _ _ _ _ _ | exact Kd.N_nil _ _ _ _ _ | exact Kd.V_nil _ _ _ _ _ | exact Kd.Q_nil _ _ _ _ _ | exact Kd.S_nil _ _ _ _ _, uB⟩
end Go.Proofs.Ytanmfddlncdncab.F
end
section
namespace Go.Proofs.Ytanmfddlncdncab.F
open Go.RowKit Go.Proofs.YtanmfddlncdncabW.PrintWords Go.Proofs.YtanmfddlncdncabW.PrintLast Go.Proofs.YtanmfddlncdncabW.PrintMore
attribute [local go_sem] max2_int min2_int max_two min_two max_three min_three max_four min_four
set_option linter.unusedVariables false
set_option linter.unusedSimpArgs false
mutual
def windbreakref12_numbers.j0 : Nat → Int → Bool → Option (Int)
 | 0, _, _ => none
 | k + 1, x3, x4 => if x4 = true then (some 1) else (if x3 = 1 then (windbreakref12_numbers.j1 k x3 (x3 == 1)) else (if x3 = 2 then (windbreakref12_numbers.j1 k x3 (x3 == 2)) else (if x3 = 4 then (windbreakref12_numbers.j1 k x3 (x3 == 4)) else (if x3 = 5 then (windbreakref12_numbers.j1 k x3 (x3 == 5)) else (if x3 = 6 then (windbreakref12_numbers.j1 k x3 (x3 == 6)) else (windbreakref12_numbers.j1 k x3 (x3 == 8)))))))
def windbreakref12_numbers.j1 : Nat → Int → Bool → Option (Int)
 | 0, _, _ => none
 | k + 1, x3, x8 => if x8 = true then (some 2) else (if x3 = 7 then (some 3) else (if x3 = 9 then (some 3) else (some 0)))
end
def windbreakref12_numbers.f (k : Nat) (a0 : Int) : Option (Int) := if a0 = 3 then (windbreakref12_numbers.j0 k a0 (a0 == 3)) else (if a0 = 10 then (windbreakref12_numbers.j0 k a0 (a0 == 10)) else (windbreakref12_numbers.j0 k a0 (a0 == 11)))
set_option maxHeartbeats 8000000 in
set_option maxRecDepth 100000 in
theorem windbreakref12_numbers.calls (k : Nat) (a0 : Int) (r : Int) (w : World) (h : windbreakref12_numbers.f k a0 = some r) :
  Calls Try.prog 44 #[.int .i64 a0] w fun e w' => e = .returned (.int .i64 r) ∧ Drawn0 w w' := by
 have H : (if a0 = 3 then (windbreakref12_numbers.j0 k a0 (a0 == 3)) else (if a0 = 10 then (windbreakref12_numbers.j0 k a0 (a0 == 10)) else (windbreakref12_numbers.j0 k a0 (a0 == 11)))) = some r := h
 clear h; have HC2 := Aside0.mk H; clear H
 go_enter Try.func44, Try.ntmps44
 go_upto_if 4 with (fail)
 go_cut [4] (fun v4 wc => ∃ (kq : Nat) (x4_1 : Bool), v4 = .bool x4_1 ∧ Aside0 (windbreakref12_numbers.j0 kq a0 x4_1 = some r) ∧ Aside0 (kq ≤ k) ∧ Drawn0 w wc)
 case first =>
  have H := HC2.out
  clear HC2
  by_cases c3 : a0 = 3
  ·
   rw [if_pos c3] at H
   have c3b0 : (a0 == 3) = true := beq_iff_eq.mpr c3
   have c3b1 : (a0 != 3) = false := bne_eq_false_iff_eq.mpr c3
   clear c3
   (first | rw [c3b0] | (simp only [i64_w, i32_w]; rw [c3b0]) | skip)
   have H' := Aside0.mk H
   clear H
   go_wp2
   go_meet
   case rel => exact ⟨_, ((a0 == 3)), uG, H', ⟨uW⟩, by repeat (first | exact Drawn0.refl _ | apply Drawn0.step)⟩
  rw [if_neg c3] at H
  have c3b0 : (a0 == 3) = false := beq_eq_false_iff_ne.mpr c3
  have c3b1 : (a0 != 3) = true := bne_iff_ne.mpr c3
  (first | rw [c3b0] | (simp only [i64_w, i32_w]; rw [c3b0]) | skip)
  by_cases c4 : a0 = 10
  ·
   rw [if_pos c4] at H
   have c4b0 : (a0 == 10) = true := beq_iff_eq.mpr c4
   have c4b1 : (a0 != 10) = false := bne_eq_false_iff_eq.mpr c4
   clear c4
   have H' := Aside0.mk H
   clear H
   go_wp2
   go_meet
   case rel => exact ⟨_, ((a0 == 10)), uG, H', ⟨uW⟩, by repeat (first | exact Drawn0.refl _ | apply Drawn0.step)⟩
  rw [if_neg c4] at H
  have c4b0 : (a0 == 10) = false := beq_eq_false_iff_ne.mpr c4
  have c4b1 : (a0 != 10) = true := bne_iff_ne.mpr c4
  have H' := Aside0.mk H
  clear H
  go_wp2
  go_meet
  case rel => exact ⟨_, ((a0 == 11)), uG, H', ⟨uW⟩, by repeat (first | exact Drawn0.refl _ | apply Drawn0.step)⟩
 case rest =>
  clear HC2; (try clear p2); (try clear c3); (try clear c3b0); (try clear c3b1); (try clear c4); (try clear c4b0); (try clear c4b1)
  obtain ⟨kq, x4_1, rfl, HA, HJ1, ⟨mc1, rfl⟩⟩ := hcut
  cases kq with
  | zero => exact absurd HA.out (by simp [windbreakref12_numbers.j0])
  | succ kj1 =>
   have H := HA.out
   clear HA
   simp only [windbreakref12_numbers.j0] at H
   by_cases c5 : x4_1 = true
   ·
    subst c5
    have H1 : (some 1) = some r := by rw [if_pos rfl] at H; exact H
    clear H; have H := H1; clear H1
    obtain rfl := Option.some.inj H
    go_wp2
    go_ret
    exact ⟨by first | rfl | (simp; done) | (simp [*]; done), by repeat (first | exact Drawn0.refl _ | apply Drawn0.step)⟩
   replace c5 := Bool.eq_false_iff.mpr c5
   subst c5
   have H1 : (if a0 = 1 then (windbreakref12_numbers.j1 kj1 a0 (a0 == 1)) else (if a0 = 2 then (windbreakref12_numbers.j1 kj1 a0 (a0 == 2)) else (if a0 = 4 then (windbreakref12_numbers.j1 kj1 a0 (a0 == 4)) else (if a0 = 5 then (windbreakref12_numbers.j1 kj1 a0 (a0 == 5)) else (if a0 = 6 then (windbreakref12_numbers.j1 kj1 a0 (a0 == 6)) else (windbreakref12_numbers.j1 kj1 a0 (a0 == 8))))))) = some r := by rw [if_neg (show ¬ (false = true) by decide)] at H; exact H
   clear H; have H := H1; clear H1; have HC6 := Aside0.mk H; clear H
   go_upto_if 8 with (fail)
   go_cut [8] (fun v8 wc => ∃ (kq : Nat) (x8_5 : Bool), v8 = .bool x8_5 ∧ Aside0 (windbreakref12_numbers.j1 kq a0 x8_5 = some r) ∧ Aside0 (kq ≤ kj1) ∧ Drawn0 w wc)
   case first =>
    have H := HC6.out
    clear HC6
    by_cases c7 : a0 = 1
    ·
     rw [if_pos c7] at H
     have c7b0 : (a0 == 1) = true := beq_iff_eq.mpr c7
     have c7b1 : (a0 != 1) = false := bne_eq_false_iff_eq.mpr c7
     clear c7
     (first | rw [c7b0] | (simp only [i64_w, i32_w]; rw [c7b0]) | skip)
     have H' := Aside0.mk H
     clear H
     go_wp2
     go_meet
     case rel => exact ⟨_, ((a0 == 1)), uG, H', ⟨by have := HJ1.out; first | omega | exact Nat.le_refl _⟩, by repeat (first | exact Drawn0.refl _ | apply Drawn0.step)⟩
    rw [if_neg c7] at H
    have c7b0 : (a0 == 1) = false := beq_eq_false_iff_ne.mpr c7
    have c7b1 : (a0 != 1) = true := bne_iff_ne.mpr c7
    (first | rw [c7b0] | (simp only [i64_w, i32_w]; rw [c7b0]) | skip)
    by_cases c8 : a0 = 2
    ·
     rw [if_pos c8] at H
     have c8b0 : (a0 == 2) = true := beq_iff_eq.mpr c8
     have c8b1 : (a0 != 2) = false := bne_eq_false_iff_eq.mpr c8
     clear c8
     have H' := Aside0.mk H
     clear H
     go_wp2
     go_meet
     case rel => exact ⟨_, ((a0 == 2)), uG, H', ⟨by have := HJ1.out; first | omega | exact Nat.le_refl _⟩, by repeat (first | exact Drawn0.refl _ | apply Drawn0.step)⟩
    rw [if_neg c8] at H
    have c8b0 : (a0 == 2) = false := beq_eq_false_iff_ne.mpr c8
    have c8b1 : (a0 != 2) = true := bne_iff_ne.mpr c8
    by_cases c9 : a0 = 4
    ·
     rw [if_pos c9] at H
     have c9b0 : (a0 == 4) = true := beq_iff_eq.mpr c9
     have c9b1 : (a0 != 4) = false := bne_eq_false_iff_eq.mpr c9
     clear c9
     have H' := Aside0.mk H
     clear H
     go_wp2
     go_meet
     case rel => exact ⟨_, ((a0 == 4)), uG, H', ⟨by have := HJ1.out; first | omega | exact Nat.le_refl _⟩, by repeat (first | exact Drawn0.refl _ | apply Drawn0.step)⟩
    rw [if_neg c9] at H
    have c9b0 : (a0 == 4) = false := beq_eq_false_iff_ne.mpr c9
    have c9b1 : (a0 != 4) = true := bne_iff_ne.mpr c9
    by_cases c10 : a0 = 5
    ·
     rw [if_pos c10] at H
     have c10b0 : (a0 == 5) = true := beq_iff_eq.mpr c10
     have c10b1 : (a0 != 5) = false := bne_eq_false_iff_eq.mpr c10
     clear c10
     have H' := Aside0.mk H
     clear H
     go_wp2
     go_meet
     case rel => exact ⟨_, ((a0 == 5)), uG, H', ⟨by have := HJ1.out; first | omega | exact Nat.le_refl _⟩, by repeat (first | exact Drawn0.refl _ | apply Drawn0.step)⟩
    rw [if_neg c10] at H
    have c10b0 : (a0 == 5) = false := beq_eq_false_iff_ne.mpr c10
    have c10b1 : (a0 != 5) = true := bne_iff_ne.mpr c10
    by_cases c11 : a0 = 6
    ·
     rw [if_pos c11] at H
     have c11b0 : (a0 == 6) = true := beq_iff_eq.mpr c11
     have c11b1 : (a0 != 6) = false := bne_eq_false_iff_eq.mpr c11
     clear c11
     have H' := Aside0.mk H
     clear H
     go_wp2
     go_meet
     case rel => exact ⟨_, ((a0 == 6)), uG, H', ⟨by have := HJ1.out; first | omega | exact Nat.le_refl _⟩, by repeat (first | exact Drawn0.refl _ | apply Drawn0.step)⟩
    rw [if_neg c11] at H
    have c11b0 : (a0 == 6) = false := beq_eq_false_iff_ne.mpr c11
    have c11b1 : (a0 != 6) = true := bne_iff_ne.mpr c11
    have H' := Aside0.mk H
    clear H
    go_wp2
    go_meet
    case rel => exact ⟨_, ((a0 == 8)), uG, H', ⟨by have := HJ1.out; first | omega | exact Nat.le_refl _⟩, by repeat (first | exact Drawn0.refl _ | apply Drawn0.step)⟩
   case rest =>
    clear HC6; (try clear c1); (try clear p2); (try clear c3); (try clear c3b0); (try clear c3b1); (try clear c4); (try clear c4b0); (try clear c4b1); (try clear c5); (try clear c7); (try clear c7b0); (try clear c7b1); (try clear c8); (try clear c8b0); (try clear c8b1); (try clear c9); (try clear c9b0); (try clear c9b1); (try clear c10); (try clear c10b0); (try clear c10b1); (try clear c11); (try clear c11b0); (try clear c11b1); (try clear p2)
    obtain ⟨kq, x8_5, rfl, HA, HJ5, ⟨mc5, rfl⟩⟩ := hcut
    cases kq with
    | zero => exact absurd HA.out (by simp [windbreakref12_numbers.j1])
    | succ kj5 =>
     have H := HA.out
     clear HA
     simp only [windbreakref12_numbers.j1] at H
     by_cases c12 : x8_5 = true
     ·
      subst c12
      have H1 : (some 2) = some r := by rw [if_pos rfl] at H; exact H
      clear H; have H := H1; clear H1
      obtain rfl := Option.some.inj H
      go_wp2
      go_ret
      exact ⟨by first | rfl | (simp; done) | (simp [*]; done), by repeat (first | exact Drawn0.refl _ | apply Drawn0.step)⟩
     replace c12 := Bool.eq_false_iff.mpr c12
     subst c12
     have H1 : (if a0 = 7 then (some 3) else (if a0 = 9 then (some 3) else (some 0))) = some r := by rw [if_neg (show ¬ (false = true) by decide)] at H; exact H
     clear H; have H := H1; clear H1
     by_cases c13 : a0 = 7
     ·
      rw [if_pos c13] at H
      have c13b0 : (a0 == 7) = true := beq_iff_eq.mpr c13
      have c13b1 : (a0 != 7) = false := bne_eq_false_iff_eq.mpr c13
      clear c13
      obtain rfl := Option.some.inj H
      go_wp2
      go_ret
      exact ⟨by first | rfl | (simp; done) | (simp [*]; done), by repeat (first | exact Drawn0.refl _ | apply Drawn0.step)⟩
     rw [if_neg c13] at H
     have c13b0 : (a0 == 7) = false := beq_eq_false_iff_ne.mpr c13
     have c13b1 : (a0 != 7) = true := bne_iff_ne.mpr c13
     by_cases c14 : a0 = 9
     ·
      rw [if_pos c14] at H
      have c14b0 : (a0 == 9) = true := beq_iff_eq.mpr c14
      have c14b1 : (a0 != 9) = false := bne_eq_false_iff_eq.mpr c14
      clear c14
      obtain rfl := Option.some.inj H
      go_wp2
      go_ret
      exact ⟨by first | rfl | (simp; done) | (simp [*]; done), by repeat (first | exact Drawn0.refl _ | apply Drawn0.step)⟩
     rw [if_neg c14] at H
     have c14b0 : (a0 == 9) = false := beq_eq_false_iff_ne.mpr c14
     have c14b1 : (a0 != 9) = true := bne_iff_ne.mpr c14
     obtain rfl := Option.some.inj H
     go_wp2
     go_ret
     exact ⟨by first | rfl | (simp; done) | (simp [*]; done), by repeat (first | exact Drawn0.refl _ | apply Drawn0.step)⟩
end Go.Proofs.Ytanmfddlncdncab.F
end
section
namespace Go.Proofs.Ytanmfddlncdncab.F
open Go.RowKit Go.Proofs.YtanmfddlncdncabW.PrintWords Go.Proofs.YtanmfddlncdncabW.PrintLast Go.Proofs.YtanmfddlncdncabW.PrintMore
set_option linter.unusedVariables false
set_option linter.unusedSimpArgs false
theorem ref_numbers_is (n : Nat) (h1 : 1 ≤ n) (h2 : n < 12) : windbreakref12_numbers.f 3 (n : Int) = some (wire_kindOf n).1 := by
  match n, h1, h2 with
  | 1, _, _ => rfl
  | 2, _, _ => rfl
  | 3, _, _ => rfl
  | 4, _, _ => rfl
  | 5, _, _ => rfl
  | 6, _, _ => rfl
  | 7, _, _ => rfl
  | 8, _, _ => rfl
  | 9, _, _ => rfl
  | 10, _, _ => rfl
  | 11, _, _ => rfl
  | n + 12, _, h => omega
theorem ref_flags (n : Nat) (h1 : 1 ≤ n) (h2 : n < 12) {nk : Int} {ik rk tk : Bool} (hp : wire_kindOf n = (nk, ik, rk, tk)) : (((n : Int) == 5) || ((n : Int) == 6)) = ik ∧ (((n : Int) == 4) || ((n : Int) == 7)) = rk ∧ (((n : Int) == 1) || ((n : Int) == 3) || ((n : Int) == 5)) = tk := by
  match n, h1, h2 with
  | 1, _, _ => cases hp; exact ⟨rfl, rfl, rfl⟩
  | 2, _, _ => cases hp; exact ⟨rfl, rfl, rfl⟩
  | 3, _, _ => cases hp; exact ⟨rfl, rfl, rfl⟩
  | 4, _, _ => cases hp; exact ⟨rfl, rfl, rfl⟩
  | 5, _, _ => cases hp; exact ⟨rfl, rfl, rfl⟩
  | 6, _, _ => cases hp; exact ⟨rfl, rfl, rfl⟩
  | 7, _, _ => cases hp; exact ⟨rfl, rfl, rfl⟩
  | 8, _, _ => cases hp; exact ⟨rfl, rfl, rfl⟩
  | 9, _, _ => cases hp; exact ⟨rfl, rfl, rfl⟩
  | 10, _, _ => cases hp; exact ⟨rfl, rfl, rfl⟩
  | 11, _, _ => cases hp; exact ⟨rfl, rfl, rfl⟩
  | n + 12, _, h => omega
theorem ref_nk (n : Nat) (h1 : 1 ≤ n) (h2 : n < 12) {nk : Int} {x : Bool × Bool × Bool} (hp : wire_kindOf n = (nk, x)) : 1 ≤ nk := by
  match n, h1, h2 with
  | 1, _, _ => cases hp; decide
  | 2, _, _ => cases hp; decide
  | 3, _, _ => cases hp; decide
  | 4, _, _ => cases hp; decide
  | 5, _, _ => cases hp; decide
  | 6, _, _ => cases hp; decide
  | 7, _, _ => cases hp; decide
  | 8, _, _ => cases hp; decide
  | 9, _, _ => cases hp; decide
  | 10, _, _ => cases hp; decide
  | 11, _, _ => cases hp; decide
  | n + 12, _, h => omega
theorem g_false {p : Int × Bool × Bool × Bool} {a0 a1 a2 a3 : Int} {l4 l5 : List Int} {l6 : List (List Int)} {r : Bool} (h : wire_Right.g p a0 a1 a2 a3 l4 l5 l6 = some r) (hf : wire_noughts p.1 a1 a2 a3 = false ∨ wire_may l4.length p.2.1 (wire_ints.f l4) = false ∨ wire_may l5.length p.2.2.1 (wire_ints.f l5) = false ∨ (∀ b, wire_nats.f l6 = some b → wire_may l6.length p.2.2.2 b = false) ∨ wire_incr l5 = false ∨ wire_last a0 a3 l4 l6 = false) : r = false := by
  unfold wire_Right.g at h
  by_cases c1 : wire_noughts p.1 a1 a2 a3 = true
  · rw [if_pos c1] at h
    by_cases c2 : wire_may l4.length p.2.1 (wire_ints.f l4) = true
    · rw [if_pos c2] at h
      by_cases c3 : wire_may l5.length p.2.2.1 (wire_ints.f l5) = true
      · rw [if_pos c3] at h
        obtain ⟨b, hb, h⟩ := Option.bind_eq_some_iff.mp h
        by_cases c4 : wire_may l6.length p.2.2.2 b = true
        · rw [if_pos c4] at h
          obtain rfl := Option.some.inj h
          rcases hf with hf | hf | hf | hf | hf | hf
          · rw [hf] at c1; cases c1
          · rw [hf] at c2; cases c2
          · rw [hf] at c3; cases c3
          · rw [hf b hb] at c4; cases c4
          · rw [hf]; rfl
          · rw [hf]; simp
        · rw [if_neg c4] at h; exact (Option.some.inj h).symm
      · rw [if_neg c3] at h; exact (Option.some.inj h).symm
    · rw [if_neg c2] at h; exact (Option.some.inj h).symm
  · rw [if_neg c1] at h; exact (Option.some.inj h).symm
theorem g_true {p : Int × Bool × Bool × Bool} {a0 a1 a2 a3 : Int} {l4 l5 : List Int} {l6 : List (List Int)} {r : Bool} (h : wire_Right.g p a0 a1 a2 a3 l4 l5 l6 = some r) (c1 : wire_noughts p.1 a1 a2 a3 = true) (c2 : wire_may l4.length p.2.1 (wire_ints.f l4) = true) (c3 : wire_may l5.length p.2.2.1 (wire_ints.f l5) = true) : ∃ b, wire_nats.f l6 = some b ∧ r = (wire_may l6.length p.2.2.2 b && (wire_incr l5 && wire_last a0 a3 l4 l6)) := by
  unfold wire_Right.g at h
  rw [if_pos c1, if_pos c2, if_pos c3] at h
  obtain ⟨b, hb, h⟩ := Option.bind_eq_some_iff.mp h
  refine ⟨b, hb, ?_⟩
  by_cases c4 : wire_may l6.length p.2.2.2 b = true
  · rw [if_pos c4] at h
    rw [c4, Bool.true_and]
    exact (Option.some.inj h).symm
  · rw [if_neg c4] at h
    rw [Bool.eq_false_iff.mpr c4, Bool.false_and]
    exact (Option.some.inj h).symm
theorem ref_noughts {nk a1 a2 a3 : Int} (h1 : 1 ≤ nk) : wire_noughts nk a1 a2 a3 = !(decide (nk < 2) && (a2 != 0) || decide (nk < 3) && (a3 != 0)) := by
  unfold wire_noughts wire_okAt
  have e0 : decide (((0 : Nat) : Int) < nk) = true := decide_eq_true (by omega)
  have e1 : decide (((1 : Nat) : Int) < nk) = !decide (nk < 2) := by rw [Bool.eq_iff_iff]; simp; omega
  have e2 : decide (((2 : Nat) : Int) < nk) = !decide (nk < 3) := by rw [Bool.eq_iff_iff]; simp; omega
  have f1 : ([a1, a2, a3].getD 1 0 == 0) = !(a2 != 0) := by show (a2 == 0) = _; simp [bne]
  have f2 : ([a1, a2, a3].getD 2 0 == 0) = !(a3 != 0) := by show (a3 == 0) = _; simp [bne]
  rw [e0, e1, e2, f1, f2]
  cases decide (nk < 2) <;> cases (a2 != 0) <;> cases decide (nk < 3) <;> cases (a3 != 0) <;> rfl
theorem ref_last (n : Nat) (a3 : Int) (l4 : List Int) (l6 : List (List Int)) : wire_last (n : Int) a3 l4 l6 = !(((n : Int) == 1) && ((l6.length : Int) != 1) || ((n : Int) == 5) && ((l6.length : Int) != (l4.length : Int)) || ((n : Int) == 6) && ((l4.length : Int) == 0) || ((n : Int) == 9) && decide (1 < a3)) := by
  unfold wire_last
  rw [Bool.eq_iff_iff]
  by_cases e1 : (n : Int) = 1
  · rw [if_pos e1, e1]; simp; omega
  · rw [if_neg e1]
    by_cases e5 : (n : Int) = 5
    · rw [if_pos e5, e5]; simp; omega
    · rw [if_neg e5]
      by_cases e6 : (n : Int) = 6
      · rw [if_pos e6, e6]; simp [Nat.pos_iff_ne_zero]
      · rw [if_neg e6]
        by_cases e9 : (n : Int) = 9
        · rw [if_pos e9, e9]; simp
        · rw [if_neg e9]; simp [e1, e5, e6, e9]
theorem ref_bne_one (n : Nat) : (n != 1) = ((n : Int) != 1) := by
  by_cases h : n = 1
  · subst h; rfl
  · rw [bne_iff_ne.mpr h, bne_iff_ne.mpr (show (n : Int) ≠ 1 by omega)]
theorem ref_bne_nn (a b : Nat) : (a != b) = ((a : Int) != (b : Int)) := by
  by_cases h : a = b
  · subst h; simp
  · rw [bne_iff_ne.mpr h, bne_iff_ne.mpr (show (a : Int) ≠ (b : Int) by omega)]
theorem ref_beq_zero (n : Nat) : (n == 0) = ((n : Int) == 0) := by
  by_cases h : n = 0
  · subst h; rfl
  · rw [beq_eq_false_iff_ne.mpr h, beq_eq_false_iff_ne.mpr (show (n : Int) ≠ 0 by omega)]
theorem ints_true {l : List Int} (h : ∀ j, j < l.length → wire_ok (l.getD j 0) = true) : wire_ints.f l = true := by
  unfold wire_ints.f
  rw [List.all_eq_true]
  intro x hx
  obtain ⟨j, hj, rfl⟩ := List.getElem_of_mem hx
  have := h j hj
  rwa [List.getD_eq_getElem?_getD, List.getElem?_eq_getElem hj] at this
theorem ints_false {l : List Int} {j : Nat} (hj : j < l.length) (h : wire_ok (l.getD j 0) = false) : wire_ints.f l = false := by
  unfold wire_ints.f
  rw [List.all_eq_false]
  refine ⟨l[j], List.getElem_mem hj, ?_⟩
  rw [List.getD_eq_getElem?_getD, List.getElem?_eq_getElem hj] at h
  show ¬ (wire_ok l[j] = true)
  rw [show wire_ok l[j] = false from h]
  decide
set_option maxHeartbeats 8000000 in
set_option maxRecDepth 100000 in
theorem ref_Right.bad (a0 a1 a2 a3 : Int) (A4 : Option Addr) (c4 : Nat) (l4 : List Int) (A5 : Option Addr) (c5 : Nat) (l5 : List Int) (A6 : Option Addr) (c6 : Nat) (l6 : List (List Int)) (w : World) (h : ¬ (1 ≤ a0 ∧ a0 < 12 ∧ wire_ok a1 = true ∧ wire_ok a2 = true ∧ wire_ok a3 = true)) :
    Calls Try.prog 17 #[.agg #[.int .i64 a0, .int .i64 a1, .int .i64 a2, .int .i64 a3, .slice A4 l4.length c4, .slice A5 l5.length c5, .slice A6 l6.length c6]] w fun e w' => e = .returned (.bool false) ∧ Below w.heap.size w w' := by
  have key : decide (a0 < 1) = true ∨ decide (a0 < 1) = false ∧ (decide ((11 : Int) < a0) = true ∨ decide ((11 : Int) < a0) = false ∧ (decide (a1 < 0) = true ∨ decide (a1 < 0) = false ∧ (decide ((1073741824 : Int) < a1) = true ∨ decide ((1073741824 : Int) < a1) = false ∧ (decide (a2 < 0) = true ∨ decide (a2 < 0) = false ∧ (decide ((1073741824 : Int) < a2) = true ∨ decide ((1073741824 : Int) < a2) = false ∧ (decide (a3 < 0) = true ∨ decide (a3 < 0) = false ∧ decide ((1073741824 : Int) < a3) = true)))))) := by
    unfold wire_ok at h
    simp only [Bool.and_eq_true, decide_eq_true_eq, decide_eq_false_iff_not] at h ⊢
    omega
  have HB := Aside0.mk (Below.refl w.heap.size w)
  clear h
  rcases key with h1 | ⟨h1, h2 | ⟨h2, h3 | ⟨h3, h4 | ⟨h4, h5 | ⟨h5, h6 | ⟨h6, h7 | ⟨h7, h8⟩⟩⟩⟩⟩⟩⟩
  all_goals as_aux_lemma =>
    go_enter Try.func17, Try.ntmps17
    go_wp2_with ((with_reducible refine gate_dst (N := 1) rfl ?_); refine box_event ?hg (N := 1) ?hd (cs := #[.int .i64 a0, .int .i64 a1, .int .i64 a2, .int .i64 a3, .slice A4 l4.length c4, .slice A5 l5.length c5, .slice A6 l6.length c6]) (t := 25) ?hr ?_; (case hd => rfl); (case hg => rfl); (case hr => first | (go_simp; done) | (go_simp; rfl)); intro gm hg w1 hbox hb; have HB1 := Aside0.mk (below_step HB.out hb); have hm0 : w1.cell? ⟨gm, 0, none⟩ = some (.int .i64 a0) := (blk_cell hbox 0).trans rfl; have hm1 : w1.cell? ⟨gm, 1, none⟩ = some (.int .i64 a1) := (blk_cell hbox 1).trans rfl; have hm2 : w1.cell? ⟨gm, 2, none⟩ = some (.int .i64 a2) := (blk_cell hbox 2).trans rfl; have hm3 : w1.cell? ⟨gm, 3, none⟩ = some (.int .i64 a3) := (blk_cell hbox 3).trans rfl; clear HB hb hbox hg)
    go_ret
    exact ⟨rfl, uB⟩
set_option maxHeartbeats 8000000 in
set_option maxRecDepth 100000 in
theorem ref_Right.good (n : Nat) (nk : Int) (ik rk tk : Bool) (a1 a2 a3 : Int) (A4 : Option Addr) (c4 : Nat) (l4 : List Int) (A5 : Option Addr) (c5 : Nat) (l5 : List Int) (A6 : Option Addr) (c6 : Nat) (l6 : List (List Int)) (w : World) (hn1 : 1 ≤ n) (hn2 : n < 12) (h1 : 0 ≤ a1 ∧ a1 ≤ 1073741824) (h2 : 0 ≤ a2 ∧ a2 ≤ 1073741824) (h3 : 0 ≤ a3 ∧ a3 ≤ 1073741824) (hp : wire_kindOf n = (nk, ik, rk, tk)) (r : Bool) (hg : wire_Right.g (nk, ik, rk, tk) (n : Int) a1 a2 a3 l4 l5 l6 = some r) (h4 : Rd1 w A4 c4 l4) (h5 : Rd1 w A5 c5 l5) (h6 : Kd.C (Kd.slice 37 (Kd.int .u64)) w A6 l6.length l6 ∧ l6.length ≤ c6) :
    Calls Try.prog 17 #[.agg #[.int .i64 (n : Int), .int .i64 a1, .int .i64 a2, .int .i64 a3, .slice A4 l4.length c4, .slice A5 l5.length c5, .slice A6 l6.length c6]] w fun e w' => e = .returned (.bool r) ∧ Below w.heap.size w w' := by
  have HB := Aside0.mk (Below.refl w.heap.size w)
  have HP := Aside0.mk hp
  have HG := Aside0.mk hg
  have H4 := Aside0.mk h4
  have H5 := Aside0.mk h5
  have H6 := Aside0.mk h6
  have z1 : decide ((n : Int) < 1) = false := decide_eq_false (by omega)
  have z2 : decide ((11 : Int) < (n : Int)) = false := decide_eq_false (by omega)
  have z3 : decide (a1 < 0) = false := decide_eq_false (by omega)
  have z4 : decide ((1073741824 : Int) < a1) = false := decide_eq_false (by omega)
  have z5 : decide (a2 < 0) = false := decide_eq_false (by omega)
  have z6 : decide ((1073741824 : Int) < a2) = false := decide_eq_false (by omega)
  have z7 : decide (a3 < 0) = false := decide_eq_false (by omega)
  have z8 : decide ((1073741824 : Int) < a3) = false := decide_eq_false (by omega)
  have HNUM := Aside0.mk (show windbreakref12_numbers.f 3 (n : Int) = some nk from by rw [ref_numbers_is n hn1 hn2, hp])
  clear hp hg h4 h5 h6
  go_enter Try.func17, Try.ntmps17
  go_upto_region 4 with (first
    | ((with_reducible refine gate_dst (N := 1) rfl ?_); refine box_event ?hg (N := 1) ?hd (cs := #[.int .i64 (n : Int), .int .i64 a1, .int .i64 a2, .int .i64 a3, .slice A4 l4.length c4, .slice A5 l5.length c5, .slice A6 l6.length c6]) (t := 25) ?hr ?_; (case hd => rfl); (case hg => rfl); (case hr => first | (go_simp; done) | (go_simp; rfl)); intro gm hg w1 hbox hb; have BM := Aside0.mk hbox; have HB1 := Aside0.mk (below_step HB.out hb); have hm0 : w1.cell? ⟨gm, 0, none⟩ = some (.int .i64 (n : Int)) := (blk_cell hbox 0).trans rfl; have hm1 : w1.cell? ⟨gm, 1, none⟩ = some (.int .i64 a1) := (blk_cell hbox 1).trans rfl; have hm2 : w1.cell? ⟨gm, 2, none⟩ = some (.int .i64 a2) := (blk_cell hbox 2).trans rfl; have hm3 : w1.cell? ⟨gm, 3, none⟩ = some (.int .i64 a3) := (blk_cell hbox 3).trans rfl; have hm4 : w1.cell? ⟨gm, 4, none⟩ = some (.slice A4 l4.length c4) := (blk_cell hbox 4).trans rfl; have hm5 : w1.cell? ⟨gm, 5, none⟩ = some (.slice A5 l5.length c5) := (blk_cell hbox 5).trans rfl; have hm6 : w1.cell? ⟨gm, 6, none⟩ = some (.slice A6 l6.length c6) := (blk_cell hbox 6).trans rfl; clear HB hb hbox hg)
    | (go_at_call 44; ((with_reducible refine (windbreakref12_numbers.calls 3 (n : Int) nk _ HNUM.out).mono ?_); rintro e w2 ⟨rfl, ⟨y, rfl⟩⟩)))
  obtain ⟨t2, b1⟩ : ∃ b, decide (nk < 2) = b := ⟨_, rfl⟩
  obtain ⟨n2, b2⟩ : ∃ b, (a2 != 0) = b := ⟨_, rfl⟩
  obtain ⟨t3, b3⟩ : ∃ b, decide (nk < 3) = b := ⟨_, rfl⟩
  obtain ⟨n3, b4⟩ : ∃ b, (a3 != 0) = b := ⟨_, rfl⟩
  obtain ⟨e9, b5⟩ : ∃ b, ((n : Int) == 9) = b := ⟨_, rfl⟩
  obtain ⟨g3, b6⟩ : ∃ b, decide (1 < a3) = b := ⟨_, rfl⟩
  go_cut [77] (fun v77 wc => v77 = .bool (t2 && n2 || t3 && n3 || e9 && g3) ∧ Aside0 (Below w1.heap.size w1 wc))
  case first => as_aux_lemma =>
    clear HG HP H4 H5 H6
    go_wp2
    all_goals (go_meet; refine ⟨?_, ⟨by repeat (first | exact Below.refl _ _ | apply pw_below_drewN)⟩⟩; simp [*])
  case rest => as_aux_lemma =>
    obtain ⟨rfl, HBC⟩ := hcut
    have HNO := Aside0.mk (ref_noughts (nk := nk) (a1 := a1) (a2 := a2) (a3 := a3) (ref_nk n hn1 hn2 HP.out))
    have HLA := Aside0.mk (ref_last n a3 l4 l6)
    rw [b1, b2, b3, b4] at HNO
    rw [b5, b6] at HLA
    have BMA := Aside0.mk (blk_below BM.out HBC.out)
    have HBA := Aside0.mk (below_step HB1.out HBC.out)
    clear HBC HB1 BM hm0 hm1 hm2 hm3 hm4 hm5 hm6 b1 b2 b3 b4 b5 b6 z1 z2 z3 z4 z5 z6 z7 z8 HNUM
    have hm0 : wc.cell? ⟨gm, 0, none⟩ = some (.int .i64 (n : Int)) := (blk_cell BMA.out 0).trans rfl
    have hm4 : wc.cell? ⟨gm, 4, none⟩ = some (.slice A4 l4.length c4) := (blk_cell BMA.out 4).trans rfl
    have hm5 : wc.cell? ⟨gm, 5, none⟩ = some (.slice A5 l5.length c5) := (blk_cell BMA.out 5).trans rfl
    have hm6 : wc.cell? ⟨gm, 6, none⟩ = some (.slice A6 l6.length c6) := (blk_cell BMA.out 6).trans rfl
    obtain ⟨q1, hq1⟩ : ∃ q1, (t2 && n2 || t3 && n3) = q1 := ⟨_, rfl⟩
    obtain ⟨q2, hq2⟩ : ∃ q2, (e9 && g3) = q2 := ⟨_, rfl⟩
    rw [hq1] at HNO
    rw [hq2] at HLA
    rw [hq1, hq2]
    clear hq1 hq2
    cases q1 with
    | true =>
      obtain rfl := g_false HG.out (.inl HNO.out)
      clear HG HNO HLA
      rw [Bool.true_or]
      go_wp2
      go_ret
      exact ⟨rfl, uB⟩
    | false =>
      cases q2 with
      | true =>
        obtain rfl := g_false HG.out (.inr (.inr (.inr (.inr (.inr (by rw [HLA.out]; simp))))))
        clear HG HNO HLA
        rw [Bool.false_or]
        go_wp2
        go_ret
        exact ⟨rfl, uB⟩
      | false =>
        rw [Bool.false_or]
        go_upto_region 6 with (fail)
        obtain ⟨f1, f2, f3⟩ := ref_flags n hn1 hn2 HP.out
        obtain ⟨e1, d1⟩ : ∃ b, ((n : Int) == 1) = b := ⟨_, rfl⟩
        obtain ⟨e3, d3⟩ : ∃ b, ((n : Int) == 3) = b := ⟨_, rfl⟩
        obtain ⟨e4, d4⟩ : ∃ b, ((n : Int) == 4) = b := ⟨_, rfl⟩
        obtain ⟨e5, d5⟩ : ∃ b, ((n : Int) == 5) = b := ⟨_, rfl⟩
        obtain ⟨e6, d6⟩ : ∃ b, ((n : Int) == 6) = b := ⟨_, rfl⟩
        obtain ⟨e7, d7⟩ : ∃ b, ((n : Int) == 7) = b := ⟨_, rfl⟩
        rw [d5, d6] at f1
        rw [d4, d7] at f2
        rw [d1, d3, d5] at f3
        rw [d1, d5, d6, Bool.or_false] at HLA
        have F1 := Aside0.mk f1
        have F2 := Aside0.mk f2
        have F3 := Aside0.mk f3
        clear f1 f2 f3
        go_cut [4] (fun v4 wd => v4 = .bool (e5 || e6) ∧ wd = wc)
        case first => as_aux_lemma =>
          cases e5 <;> cases e6 <;> (go_wp2; go_meet; exact ⟨rfl, rfl⟩)
        case rest => as_aux_lemma =>
          obtain ⟨rfl, rfl⟩ := hcut
          rw [F1.out]
          go_upto_region 7 with (fail)
          go_cut [5] (fun v5 we => v5 = .bool (e4 || e7) ∧ we = wc)
          case first => as_aux_lemma =>
            cases e4 <;> cases e7 <;> (go_wp2; go_meet; exact ⟨rfl, rfl⟩)
          case rest => as_aux_lemma =>
            obtain ⟨rfl, rfl⟩ := hcut
            rw [F2.out]
            go_upto_region 8 with (fail)
            go_cut [6] (fun v6 wf => v6 = .bool (e1 || e3 || e5) ∧ wf = wc)
            case first => as_aux_lemma =>
              cases e1 <;> cases e3 <;> cases e5 <;> (go_wp2; go_meet; exact ⟨rfl, rfl⟩)
            case rest => as_aux_lemma =>
              obtain ⟨rfl, rfl⟩ := hcut
              rw [F3.out]
              clear F1 F2 F3 d4 d7 d3 e4 e7 e3
              go_upto_region 9 with (fail)
              obtain ⟨L4, g4⟩ : ∃ b, decide (0 < l4.length) = b := ⟨_, rfl⟩
              obtain ⟨L5, g5⟩ : ∃ b, decide (0 < l5.length) = b := ⟨_, rfl⟩
              obtain ⟨L6, g6⟩ : ∃ b, decide (0 < l6.length) = b := ⟨_, rfl⟩
              have k4 : decide ((0 : Int) < (l4.length : Int)) = L4 := by rw [← g4]; simp
              have k5 : decide ((0 : Int) < (l5.length : Int)) = L5 := by rw [← g5]; simp
              have k6 : decide ((0 : Int) < (l6.length : Int)) = L6 := by rw [← g6]; simp
              go_cut [4, 5, 6, 134] (fun _ _ _ v134 wf => v134 = .bool (!ik && L4 || !rk && L5 || !tk && L6) ∧ wf = wc)
              case first => as_aux_lemma =>
                go_wp2
                all_goals (go_meet; refine ⟨?_, rfl⟩; simp [*])
              case rest => as_aux_lemma =>
                obtain ⟨rfl, rfl⟩ := hcut
                have may4 := fun b => show wire_may l4.length ik b = (decide (l4.length ≤ 16384) && (ik || decide (l4.length = 0)) && b) from rfl
                have may5 := fun b => show wire_may l5.length rk b = (decide (l5.length ≤ 16384) && (rk || decide (l5.length = 0)) && b) from rfl
                have may6 := fun b => show wire_may l6.length tk b = (decide (l6.length ≤ 16384) && (tk || decide (l6.length = 0)) && b) from rfl
                rw [show decide (l4.length = 0) = !L4 from by rw [← g4, Bool.eq_iff_iff]; simp] at may4
                rw [show decide (l5.length = 0) = !L5 from by rw [← g5, Bool.eq_iff_iff]; simp] at may5
                rw [show decide (l6.length = 0) = !L6 from by rw [← g6, Bool.eq_iff_iff]; simp] at may6
                have MY4 := Aside0.mk may4
                have MY5 := Aside0.mk may5
                have MY6 := Aside0.mk may6
                clear may4 may5 may6 g4 g5 g6 k4 k5 k6
                obtain ⟨p4, hp4⟩ : ∃ b, (ik || !L4) = b := ⟨_, rfl⟩
                obtain ⟨p5, hp5⟩ : ∃ b, (rk || !L5) = b := ⟨_, rfl⟩
                obtain ⟨p6, hp6⟩ : ∃ b, (tk || !L6) = b := ⟨_, rfl⟩
                rw [show (!ik && L4) = !p4 from by rw [← hp4]; cases ik <;> cases L4 <;> rfl, show (!rk && L5) = !p5 from by rw [← hp5]; cases rk <;> cases L5 <;> rfl, show (!tk && L6) = !p6 from by rw [← hp6]; cases tk <;> cases L6 <;> rfl]
                rw [hp4] at MY4
                rw [hp5] at MY5
                rw [hp6] at MY6
                clear hp4 hp5 hp6
                by_cases hbad : (!p4 || !p5 || !p6) = true
                · have hr : r = false := g_false HG.out (by
                    cases p4 with
                    | false => exact .inr (.inl (by rw [MY4.out]; simp))
                    | true =>
                      cases p5 with
                      | false => exact .inr (.inr (.inl (by rw [MY5.out]; simp)))
                      | true =>
                        cases p6 with
                        | false => exact .inr (.inr (.inr (.inl (fun b _ => by rw [MY6.out]; simp))))
                        | true => exact absurd hbad (by decide))
                  subst hr
                  rw [hbad]
                  clear HG HNO HLA MY4 MY5 MY6 hbad
                  go_wp2
                  go_ret
                  exact ⟨rfl, uB⟩
                · obtain ⟨rfl, rfl, rfl⟩ : p4 = true ∧ p5 = true ∧ p6 = true := by
                    cases p4 <;> cases p5 <;> cases p6 <;> first | exact ⟨rfl, rfl, rfl⟩ | exact absurd rfl hbad
                  clear hbad
                  rw [show (!true || !true || !true) = false from rfl]
                  go_upto_region 11 with (fail)
                  obtain ⟨M4, g4⟩ : ∃ b, decide ((16384 : Int) < (l4.length : Int)) = b := ⟨_, rfl⟩
                  obtain ⟨M5, g5⟩ : ∃ b, decide ((16384 : Int) < (l5.length : Int)) = b := ⟨_, rfl⟩
                  obtain ⟨M6, g6⟩ : ∃ b, decide ((16384 : Int) < (l6.length : Int)) = b := ⟨_, rfl⟩
                  go_cut [150] (fun v150 wf => v150 = .bool (M4 || M5 || M6) ∧ wf = wc)
                  case first => as_aux_lemma =>
                    go_wp2
                    all_goals (go_meet; refine ⟨?_, rfl⟩; simp [*])
                  case rest => as_aux_lemma =>
                    obtain ⟨rfl, rfl⟩ := hcut
                    rw [show decide (l4.length ≤ 16384) = !M4 from by rw [← g4, Bool.eq_iff_iff]; simp; omega] at MY4
                    rw [show decide (l5.length ≤ 16384) = !M5 from by rw [← g5, Bool.eq_iff_iff]; simp; omega] at MY5
                    rw [show decide (l6.length ≤ 16384) = !M6 from by rw [← g6, Bool.eq_iff_iff]; simp; omega] at MY6
                    clear g4 g5 g6
                    by_cases hbad : (M4 || M5 || M6) = true
                    · have hr : r = false := g_false HG.out (by
                        cases M4 with
                        | true => exact .inr (.inl (by rw [MY4.out]; simp))
                        | false =>
                          cases M5 with
                          | true => exact .inr (.inr (.inl (by rw [MY5.out]; simp)))
                          | false =>
                            cases M6 with
                            | true => exact .inr (.inr (.inr (.inl (fun b _ => by rw [MY6.out]; simp))))
                            | false => exact absurd hbad (by decide))
                      subst hr
                      rw [hbad]
                      clear HG HNO HLA MY4 MY5 MY6 hbad
                      go_wp2
                      go_ret
                      exact ⟨rfl, uB⟩
                    · obtain ⟨rfl, rfl, rfl⟩ : M4 = false ∧ M5 = false ∧ M6 = false := by
                        cases M4 <;> cases M5 <;> cases M6 <;> first | exact ⟨rfl, rfl, rfl⟩ | exact absurd rfl hbad
                      clear hbad
                      rw [show (false || false || false) = false from rfl]
                      go_upto_region 13 with (fail)
                      obtain ⟨k1, g1⟩ : ∃ b, ((l6.length : Int) != 1) = b := ⟨_, rfl⟩
                      obtain ⟨k5, g5⟩ : ∃ b, ((l6.length : Int) != (l4.length : Int)) = b := ⟨_, rfl⟩
                      obtain ⟨k6, g6⟩ : ∃ b, ((l4.length : Int) == 0) = b := ⟨_, rfl⟩
                      have g1' : (l6.length != 1) = k1 := by rw [← g1]; exact ref_bne_one _
                      have g5' : (l6.length != l4.length) = k5 := by rw [← g5]; exact ref_bne_nn _ _
                      have g6' : (l4.length == 0) = k6 := by rw [← g6]; exact ref_beq_zero _
                      rw [g1, g5, g6] at HLA
                      go_cut [184] (fun v184 wf => v184 = .bool (e1 && k1 || e5 && k5 || e6 && k6) ∧ wf = wc)
                      case first => as_aux_lemma =>
                        go_wp2
                        all_goals (go_meet; refine ⟨?_, rfl⟩; simp [*])
                      case rest => as_aux_lemma =>
                        obtain ⟨rfl, rfl⟩ := hcut
                        clear g1 g5 g6 g1' g5' g6' d1 d5 d6
                        by_cases hbad : (e1 && k1 || e5 && k5 || e6 && k6) = true
                        · have hr : r = false := g_false HG.out (.inr (.inr (.inr (.inr (.inr (by rw [HLA.out, hbad]; rfl))))))
                          subst hr
                          rw [hbad]
                          clear HG HNO HLA MY4 MY5 MY6 hbad
                          go_wp2
                          go_ret
                          exact ⟨rfl, uB⟩
                        · rw [Bool.eq_false_iff.mpr hbad] at HLA ⊢
                          clear hbad
                          go_wp2
                          go_loopg [7] l4.length (fun gg v7 wr => ∃ i : Nat, v7 = .int .i64 (i : Int) ∧ i ≤ l4.length ∧ l4.length - i ≤ gg ∧ Aside0 (∀ j, j < i → wire_ok (l4.getD j 0) = true) ∧ wr = wc)
                          case atStart => exact ⟨0, rfl, by omega, by omega, ⟨fun j hj => absurd hj (Nat.not_lt_zero _)⟩, rfl⟩
                          case round => as_aux_lemma =>
                            obtain ⟨i, rfl, hi, hgg, HJ, rfl⟩ := hrel
                            have hbig : l4.length ≤ 9223372036854775807 := H4.out.C.2.1
                            by_cases hlt : i < l4.length
                            · have hltz : (i : Int) < (l4.length : Int) := by omega
                              have h0z : (0 : Int) ≤ (i : Int) := by omega
                              obtain ⟨ad, hA, hcl⟩ := Kd.at_int (H4.out.below HBA.out).C (i : Int) h0z hltz
                              subst hA
                              simp only [Go.IntWalk.toNatUp] at hcl
                              rw [show rd l4 (i : Int) = l4.getD i 0 from rfl] at hcl
                              have hok : wire_ok (l4.getD i 0) = (decide (0 ≤ l4.getD i 0) && decide (l4.getD i 0 ≤ 1073741824)) := rfl
                              have hbadI : wire_ok (l4.getD i 0) = false → r = false := fun h => g_false HG.out (.inr (.inl (by rw [MY4.out, ints_false hlt h]; simp)))
                              generalize hxe : l4.getD i 0 = x at hcl hok hbadI
                              by_cases hx1 : x < 0
                              · have hxz : decide (x < 0) = true := decide_eq_true hx1
                                have hr := hbadI (by rw [hok, decide_eq_false (by omega)]; rfl)
                                subst hr
                                clear hbadI hok hx1 hxe HG HNO HLA MY4 MY5 MY6
                                go_wp2
                                go_ret
                                exact ⟨rfl, uB⟩
                              · have hxz : decide (x < 0) = false := decide_eq_false hx1
                                by_cases hx2 : 1073741824 < x
                                · have hyz : decide ((1073741824 : Int) < x) = true := decide_eq_true hx2
                                  have hr := hbadI (by rw [hok, decide_eq_false (show ¬ x ≤ 1073741824 by omega)]; simp)
                                  subst hr
                                  clear hbadI hok hx1 hx2 hxe HG HNO HLA MY4 MY5 MY6
                                  go_wp2
                                  go_ret
                                  exact ⟨rfl, uB⟩
                                · have hyz : decide ((1073741824 : Int) < x) = false := decide_eq_false hx2
                                  have HXK := Aside0.mk (show wire_ok x = true from by rw [hok, decide_eq_true (show 0 ≤ x by omega), decide_eq_true (show x ≤ 1073741824 by omega)]; rfl)
                                  have HXE := Aside0.mk hxe.symm
                                  clear hbadI hok hx1 hx2 hxe
                                  go_wp2
                                  go_roundg (l4.length - (i + 1))
                                  case measure => omega
                                  case rel => exact ⟨i + 1, by go_num, by omega, by omega, ⟨fun j hj => by rcases Nat.lt_succ_iff_lt_or_eq.mp hj with h | h; exact HJ.out j h; rw [h, ← HXE.out]; exact HXK.out⟩, rfl⟩
                            · have hltz : ¬ (i : Int) < (l4.length : Int) := by omega
                              have HI4 := Aside0.mk (ints_true (l := l4) (fun j hj => HJ.out j (by omega)))
                              clear HJ
                              go_wp2
                              go_loopg [8] l5.length (fun gg v8 wr => ∃ i : Nat, v8 = .int .i64 (i : Int) ∧ i ≤ l5.length ∧ l5.length - i ≤ gg ∧ Aside0 (∀ j, j < i → wire_ok (l5.getD j 0) = true) ∧ Aside0 (∀ j, j < i → 0 < j → l5.getD (j - 1) 0 < l5.getD j 0) ∧ Aside0 (wr.heap[gm]? = some (.cells #[.int .i64 (n : Int), .int .i64 a1, .int .i64 a2, .int .i64 a3, .slice A4 l4.length c4, .slice A5 l5.length c5, .slice A6 l6.length c6] 25 (0, 0))) ∧ Aside0 (Below w.heap.size w wr))
                              case atStart => exact ⟨0, rfl, by omega, by omega, ⟨fun j hj => absurd hj (Nat.not_lt_zero _)⟩, ⟨fun j hj => absurd hj (Nat.not_lt_zero _)⟩, BMA, HBA⟩
                              case round => as_aux_lemma =>
                                clear hm0 hm4 hm5 hm6 BMA HBA hltz hbig hi
                                obtain ⟨i, rfl, hi, hgg, HJ, HJ2, BM9, HB9⟩ := hrel
                                have hbig : l5.length ≤ 9223372036854775807 := H5.out.C.2.1
                                have hm5 : wr.cell? ⟨gm, 5, none⟩ = some (.slice A5 l5.length c5) := (blk_cell BM9.out 5).trans rfl
                                by_cases hlt : i < l5.length
                                · have hltz : (i : Int) < (l5.length : Int) := by omega
                                  have h0z : (0 : Int) ≤ (i : Int) := by omega
                                  have hC := (H5.out.below HB9.out).C
                                  obtain ⟨ad, hA, hc1⟩ := Kd.at_int hC (i : Int) h0z hltz
                                  subst hA
                                  simp only [Go.IntWalk.toNatUp] at hc1
                                  rw [show rd l5 (i : Int) = l5.getD i 0 from rfl] at hc1
                                  have hok : wire_ok (l5.getD i 0) = (decide (0 ≤ l5.getD i 0) && decide (l5.getD i 0 ≤ 1073741824)) := rfl
                                  have hbadI : wire_ok (l5.getD i 0) = false → r = false := fun h => g_false HG.out (.inr (.inr (.inl (by rw [MY5.out, ints_false hlt h]; simp))))
                                  have hbadJ : 0 < i → l5.getD i 0 ≤ l5.getD (i - 1) 0 → r = false := fun h0 h => g_false HG.out (.inr (.inr (.inr (.inr (.inl (wire_incr_not hlt h0 h))))))
                                  obtain ⟨x, hx⟩ : ∃ x, x = l5.getD i 0 := ⟨_, rfl⟩
                                  rw [← hx] at hc1 hok hbadI hbadJ
                                  have HX := Aside0.mk hx
                                  clear hx
                                  by_cases hx1 : x < 0
                                  · have hxz : decide (x < 0) = true := decide_eq_true hx1
                                    have hr := hbadI (by rw [hok, decide_eq_false (by omega)]; rfl)
                                    subst hr
                                    clear hbadI hbadJ hok hx1 HG HNO HLA MY4 MY5 MY6 hC
                                    go_wp2
                                    go_quiet (fail)
                                    go_wp2
                                    go_ret
                                    exact ⟨rfl, uB⟩
                                  · have hxz : decide (x < 0) = false := decide_eq_false hx1
                                    by_cases hx2 : 1073741824 < x
                                    · have hyz : decide ((1073741824 : Int) < x) = true := decide_eq_true hx2
                                      have hr := hbadI (by rw [hok, decide_eq_false (show ¬ x ≤ 1073741824 by omega)]; simp)
                                      subst hr
                                      clear hbadI hbadJ hok hx1 hx2 HG HNO HLA MY4 MY5 MY6 hC
                                      go_wp2
                                      go_quiet (fail)
                                      go_wp2
                                      go_ret
                                      exact ⟨rfl, uB⟩
                                    · have hyz : decide ((1073741824 : Int) < x) = false := decide_eq_false hx2
                                      have HXK := Aside0.mk (show wire_ok x = true from by rw [hok, decide_eq_true (show 0 ≤ x by omega), decide_eq_true (show x ≤ 1073741824 by omega)]; rfl)
                                      clear hbadI hok hx1 hx2
                                      by_cases h0 : i = 0
                                      · have h0y : decide (0 < i) = false := decide_eq_false (by omega)
                                        have h0x : decide ((0 : Int) < (i : Int)) = false := decide_eq_false (by omega)
                                        have HI := Aside0.mk h0
                                        clear h0 hC hbadJ
                                        go_wp2
                                        go_quiet (fail)
                                        go_wp2
                                        go_roundg (l5.length - (i + 1))
                                        case measure => omega
                                        case rel => exact ⟨i + 1, by go_num, by omega, by omega, ⟨fun j hj => by rcases Nat.lt_succ_iff_lt_or_eq.mp hj with h | h; exact HJ.out j h; rw [h, ← HX.out]; exact HXK.out⟩, ⟨fun j hj hj0 => by have := HI.out; omega⟩, ⟨uK BM9.out⟩, ⟨uB⟩⟩
                                      · have h0x : decide ((0 : Int) < (i : Int)) = true := decide_eq_true (by omega)
                                        have h0y : decide (0 < i) = true := decide_eq_true (by omega)
                                        obtain ⟨ad2, hA2, hc2⟩ := Kd.at_int hC ((i : Int) - 1) (by omega) (by omega)
                                        obtain rfl : ad = ad2 := by injection hA2
                                        clear hA2 hC
                                        rw [show ((i : Int) - 1).toNat = i - 1 from by omega] at hc2
                                        rw [show rd l5 ((i : Int) - 1) = l5.getD (i - 1) 0 from by show l5.getD ((i : Int) - 1).toNat 0 = _; rw [show ((i : Int) - 1).toNat = i - 1 from by omega]] at hc2
                                        obtain ⟨y, hy⟩ : ∃ y, y = l5.getD (i - 1) 0 := ⟨_, rfl⟩
                                        rw [← hy] at hc2 hbadJ
                                        have HY := Aside0.mk hy
                                        have HI := Aside0.mk h0
                                        have p1 : (0 : Int) ≤ (i : Int) - 1 := by omega
                                        have p2 : (i : Int) - 1 < (l5.length : Int) := by omega
                                        have p3 : ((i : Int) - 1).toNat = i - 1 := by omega
                                        have p4 : IntKind.i64.wrap ((i : Int) - 1) = (i : Int) - 1 := by rw [i64_w]; unfold wrap64; omega
                                        clear hy h0
                                        by_cases hxy : x ≤ y
                                        · have hxyz : decide (x ≤ y) = true := decide_eq_true hxy
                                          have hr := hbadJ (by have := HI.out; omega) hxy
                                          subst hr
                                          clear hbadJ hxy HG HNO HLA MY4 MY5 MY6
                                          go_wp2
                                          go_quiet (fail)
                                          go_wp2
                                          go_ret
                                          exact ⟨rfl, uB⟩
                                        · have hxyz : decide (x ≤ y) = false := decide_eq_false hxy
                                          have HLT := Aside0.mk (show l5.getD (i - 1) 0 < l5.getD i 0 from by rw [← HX.out, ← HY.out]; omega)
                                          clear hxy hbadJ
                                          go_wp2
                                          go_quiet (fail)
                                          clear p4
                                          go_wp2
                                          go_roundg (l5.length - (i + 1))
                                          case measure => omega
                                          case rel => exact ⟨i + 1, by go_num, by omega, by omega, ⟨fun j hj => by rcases Nat.lt_succ_iff_lt_or_eq.mp hj with h | h; exact HJ.out j h; rw [h, ← HX.out]; exact HXK.out⟩, ⟨fun j hj hj0 => by rcases Nat.lt_succ_iff_lt_or_eq.mp hj with h | h; exact HJ2.out j h hj0; rw [h]; exact HLT.out⟩, ⟨uK BM9.out⟩, ⟨uB⟩⟩
                                · have hltz : ¬ (i : Int) < (l5.length : Int) := by omega
                                  obtain ⟨b, hb, hr⟩ := g_true HG.out (by rw [HNO.out]; rfl) (by rw [MY4.out, HI4.out]; rfl) (by rw [MY5.out, ints_true (l := l5) (fun j hj => HJ.out j (by omega))]; rfl)
                                  have hrb : r = b := by
                                    rw [hr, wire_incr_of (l := l5) (fun j hj hj0 => HJ2.out j (by omega) hj0), HLA.out]
                                    show (wire_may l6.length tk b && (true && !false)) = b
                                    rw [MY6.out]
                                    cases b <;> rfl
                                  obtain ⟨kx, _, hk1, hk2, hk3, hk4⟩ := wire_nats.ix_of hb
                                  subst hrb
                                  have HK2 := Aside0.mk hk2
                                  have HK3 := Aside0.mk hk3
                                  have HK4 := Aside0.mk hk4
                                  clear HG HNO HLA MY4 MY5 MY6 HJ HJ2 hb hr hk2 hk3 hk4 HI4
                                  go_wp2
                                  go_loopg [9] l6.length (fun gg v9 wr => ∃ i : Nat, v9 = .int .i64 (i : Int) ∧ i ≤ kx ∧ l6.length - i ≤ gg ∧ Aside0 (wr.heap[gm]? = some (.cells #[.int .i64 (n : Int), .int .i64 a1, .int .i64 a2, .int .i64 a3, .slice A4 l4.length c4, .slice A5 l5.length c5, .slice A6 l6.length c6] 25 (0, 0))) ∧ Aside0 (Below w.heap.size w wr))
                                  case atStart => exact ⟨0, rfl, by omega, by omega, BM9, HB9⟩
                                  case round => as_aux_lemma =>
                                    clear hm5 BM9 HB9 hltz hbig hi
                                    obtain ⟨i, rfl, hi, hgg, BM9, HB9⟩ := hrel
                                    have hbig : l6.length ≤ 9223372036854775807 := H6.out.1.2.1
                                    have hm6 : wr.cell? ⟨gm, 6, none⟩ = some (.slice A6 l6.length c6) := (blk_cell BM9.out 6).trans rfl
                                    by_cases hlt : i < l6.length
                                    · have hltz : (i : Int) < (l6.length : Int) := by omega
                                      have h0z : (0 : Int) ≤ (i : Int) := by omega
                                      obtain ⟨ad, c, hA, _, hKK, hc⟩ := Kd.C_get (Kd.C_below H6.out.1 HB9.out) ([] : List Int) (i : Int) h0z hltz
                                      obtain ⟨Ae, ce, rfl, hle, hie⟩ := hKK
                                      subst hA
                                      have hcl := hc 0 _ rfl
                                      rw [Nat.add_zero, show (Kd.slice 37 (Kd.int .u64)).sz = 1 from rfl, Nat.mul_one] at hcl
                                      simp only [Go.IntWalk.toNatUp] at hcl hle hie
                                      have h3 := HK3.out i
                                      have h4 := HK4.out
                                      have hone : wire_nats.one (l6.getD i []) = (windbreakref01_Right.f (l6.getD i [])).bind fun b => some (b && decide (((l6.getD i []).length : Int) ≤ 4)) := rfl
                                      have h4' : i = kx → wire_nats.one (l6.getD i []) = some false := fun e => by rw [e]; exact h4 (by omega)
                                      generalize l6.getD i [] = x at hcl hle hie h3 h4' hone
                                      have HE := Aside0.mk (And.intro hie hle)
                                      clear hie hle hc h4
                                      by_cases hik : i < kx
                                      · have ho := h3 hik
                                        rw [hone] at ho
                                        obtain ⟨b, hb, ho⟩ := Option.bind_eq_some_iff.mp ho
                                        have ho := Option.some.inj ho
                                        rw [Bool.and_eq_true, decide_eq_true_eq] at ho
                                        obtain ⟨rfl, hlen⟩ := ho
                                        have hlz : decide ((4 : Int) < (x.length : Int)) = false := decide_eq_false (by omega)
                                        have HBX := Aside0.mk hb
                                        clear h3 h4' hone hb hlen
                                        go_wp2_with (go_at_call 45; ((with_reducible refine (windbreakref01_Right.calls Ae ce x true _ HE.out.1 HE.out.2 HBX.out).mono ?_); rintro e w2 ⟨rfl, ⟨y, rfl⟩⟩))
                                        go_roundg (l6.length - (i + 1))
                                        case measure => omega
                                        case rel => exact ⟨i + 1, by go_num, by omega, by omega, ⟨uK BM9.out⟩, ⟨uB⟩⟩
                                      · have hr : r = false := by
                                          cases r with
                                          | false => rfl
                                          | true => have := HK2.out.1 rfl; omega
                                        have ho := h4' (by omega)
                                        rw [hone] at ho
                                        obtain ⟨b, hb, ho⟩ := Option.bind_eq_some_iff.mp ho
                                        have ho := Option.some.inj ho
                                        have HBX := Aside0.mk hb
                                        have HR := Aside0.mk hr
                                        clear h3 h4' hone hb hr
                                        cases b with
                                        | false =>
                                          clear ho
                                          go_wp2_with (go_at_call 45; ((with_reducible refine (windbreakref01_Right.calls Ae ce x false _ HE.out.1 HE.out.2 HBX.out).mono ?_); rintro e w2 ⟨rfl, ⟨y, rfl⟩⟩))
                                          go_ret
                                          exact ⟨wire_ret HR.out.symm, uB⟩
                                        | true =>
                                          rw [Bool.true_and] at ho
                                          have hlz : decide ((4 : Int) < (x.length : Int)) = true := decide_eq_true (by have := of_decide_eq_false ho; omega)
                                          clear ho
                                          go_wp2_with (go_at_call 45; ((with_reducible refine (windbreakref01_Right.calls Ae ce x true _ HE.out.1 HE.out.2 HBX.out).mono ?_); rintro e w2 ⟨rfl, ⟨y, rfl⟩⟩))
                                          go_ret
                                          exact ⟨wire_ret HR.out.symm, uB⟩
                                    · have hltz : ¬ (i : Int) < (l6.length : Int) := by omega
                                      have HR := Aside0.mk (HK2.out.2 (by omega))
                                      go_wp2
                                      go_ret
                                      exact ⟨wire_ret HR.out.symm, uB⟩
def windbreakref12_Right.f (a0 a1 a2 a3 : Int) (l4 l5 : List Int) (l6 : List (List Int)) : Option Bool := wire_Right.f a0 a1 a2 a3 l4 l5 l6
theorem windbreakref12_Right.calls (a0 a1 a2 a3 : Int) (A4 : Option Addr) (c4 : Nat) (l4 : List Int) (A5 : Option Addr) (c5 : Nat) (l5 : List Int) (A6 : Option Addr) (c6 : Nat) (l6 : List (List Int)) (r : Bool) (w : World) (hr4 : Kd.C (Kd.int .i64) w A4 l4.length l4) (hc4 : l4.length ≤ c4) (hr5 : Kd.C (Kd.int .i64) w A5 l5.length l5) (hc5 : l5.length ≤ c5) (hr6 : Kd.C (Kd.slice 37 (Kd.int .u64)) w A6 l6.length l6) (hc6 : l6.length ≤ c6) (h : windbreakref12_Right.f a0 a1 a2 a3 l4 l5 l6 = some r) :
    Calls Try.prog 17 #[.agg #[.int .i64 a0, .int .i64 a1, .int .i64 a2, .int .i64 a3, .slice A4 l4.length c4, .slice A5 l5.length c5, .slice A6 l6.length c6]] w fun e w' => e = .returned (.bool r) ∧ Below w.heap.size w w' := by
  unfold windbreakref12_Right.f wire_Right.f at h
  by_cases hc : 1 ≤ a0 ∧ a0 < 12 ∧ wire_ok a1 = true ∧ wire_ok a2 = true ∧ wire_ok a3 = true
  · rw [if_pos hc] at h
    obtain ⟨h0, h0', q1, q2, q3⟩ := hc
    obtain ⟨n, rfl⟩ := Int.eq_ofNat_of_zero_le (show 0 ≤ a0 by omega)
    rw [Int.toNat_natCast] at h
    have ok : ∀ {x : Int}, wire_ok x = true → 0 ≤ x ∧ x ≤ 1073741824 := by
      intro x hx
      unfold wire_ok at hx
      simpa [Bool.and_eq_true] using hx
    exact ref_Right.good n (wire_kindOf n).1 (wire_kindOf n).2.1 (wire_kindOf n).2.2.1 (wire_kindOf n).2.2.2 a1 a2 a3 A4 c4 l4 A5 c5 l5 A6 c6 l6 w (by omega) (by omega) (ok q1) (ok q2) (ok q3) rfl r h ⟨hr4, hc4⟩ ⟨hr5, hc5⟩ ⟨hr6, hc6⟩
  · rw [if_neg hc] at h
    obtain rfl := Option.some.inj h
    exact ref_Right.bad a0 a1 a2 a3 A4 c4 l4 A5 c5 l5 A6 c6 l6 w hc
end Go.Proofs.Ytanmfddlncdncab.F
end
section
namespace Go.Proofs.Ytanmfddlncdncab.F
open Go.RowKit Go.Proofs.YtanmfddlncdncabW.PrintWords Go.Proofs.YtanmfddlncdncabW.PrintLast Go.Proofs.YtanmfddlncdncabW.PrintMore
attribute [local go_sem] max2_int min2_int max_two min_two max_three min_three max_four min_four
set_option linter.unusedVariables false
set_option linter.unusedSimpArgs false
mutual
def windbreakref12_Encode.l0 : Nat → List Int → List Int → Int → Int → Int → Int → Int → List Int → List Int → List (List Int) → Option (List Int × Int)
 | 0, _, _, _, _, _, _, _, _, _, _ => none
 | k + 1, x5, x6, x7, x194000, x194001, x194002, x194003, x194004, x194005, x194006 => if x7 < 4 then (if 0 ≤ x7 then (if x7 < (x6.length : Int) then ((windbreakref09_Number.f k (IntKind.u64.wrap (rd x6 x7))).bind fun t199 => (if x5.length + t199.length < 140737488355328 then (windbreakref12_Encode.l0 k (x5 ++ t199) x6 (wrap64 (x7 + 1)) x194000 x194001 x194002 x194003 x194004 x194005 x194006) else (none))) else (none)) else (none)) else ((windbreakref12_list.f k x194004).bind fun t205 => (if x5.length + t205.length < 140737488355328 then ((some (x5 ++ t205 : List Int)).bind fun y208 => ((windbreakref12_list.f k x194005).bind fun t211 => (if y208.length + t211.length < 140737488355328 then ((some (y208 ++ t211 : List Int)).bind fun y214 => ((windbreakref09_Number.f k (IntKind.u64.wrap ((x194006.length : Int)))).bind fun t217 => (if y214.length + t217.length < 140737488355328 then (windbreakref12_Encode.l1 k (y214 ++ t217) 0 x194000 x194001 x194002 x194003 x194004 x194005 x194006) else (none)))) else (none)))) else (none)))
def windbreakref12_Encode.l1 : Nat → List Int → Int → Int → Int → Int → Int → List Int → List Int → List (List Int) → Option (List Int × Int)
 | 0, _, _, _, _, _, _, _, _, _ => none
 | k + 1, x5, x8, x194000, x194001, x194002, x194003, x194004, x194005, x194006 => if x8 < (x194006.length : Int) then (if 0 ≤ x8 then ((windbreakref01_Bytes.f k (rd_L3 x194006 x8)).bind fun t224 => ((windbreakref09_Bytes.f k t224).bind fun t227 => (if x5.length + t227.length < 140737488355328 then (windbreakref12_Encode.l1 k (x5 ++ t227) (wrap64 (x8 + 1)) x194000 x194001 x194002 x194003 x194004 x194005 x194006) else (none)))) else (none)) else (if (x5.length : Int) > 1048576 then (some (([] : List Int), 16)) else (some (x5, 0)))
end
def windbreakref12_Encode.f (k : Nat) (a0_0 : Int) (a0_1 : Int) (a0_2 : Int) (a0_3 : Int) (l0_4 : List Int) (l0_5 : List Int) (l0_6 : List (List Int)) : Option (List Int × Int) := (windbreakref12_Right.f a0_0 a0_1 a0_2 a0_3 l0_4 l0_5 l0_6).bind fun t194 => (if t194 = true then (windbreakref12_Encode.l0 k ([] : List Int) (([a0_0, a0_1, a0_2, a0_3] : List Int)) 0 a0_0 a0_1 a0_2 a0_3 l0_4 l0_5 l0_6) else (some (([] : List Int), 16)))
set_option maxHeartbeats 8000000 in
set_option maxRecDepth 100000 in
theorem windbreakref12_Encode.calls (k : Nat) (a0_0 : Int) (a0_1 : Int) (a0_2 : Int) (a0_3 : Int) (A0_4 : Option Addr) (c0_4 : Nat) (l0_4 : List Int) (A0_5 : Option Addr) (c0_5 : Nat) (l0_5 : List Int) (A0_6 : Option Addr) (c0_6 : Nat) (l0_6 : List (List Int)) (r1 : List Int) (r2 : Int) (w : World) (hr0_4 : Kd.C (Kd.int .i64) w A0_4 l0_4.length l0_4) (hc0_4 : l0_4.length ≤ c0_4) (hr0_5 : Kd.C (Kd.int .i64) w A0_5 l0_5.length l0_5) (hc0_5 : l0_5.length ≤ c0_5) (hr0_6 : Kd.C (Kd.slice 37 (Kd.int .u64)) w A0_6 l0_6.length l0_6) (hc0_6 : l0_6.length ≤ c0_6) (h : windbreakref12_Encode.f k a0_0 a0_1 a0_2 a0_3 l0_4 l0_5 l0_6 = some (r1, r2)) :
  Calls Try.prog 8 #[.agg #[.int .i64 a0_0, .int .i64 a0_1, .int .i64 a0_2, .int .i64 a0_3, .slice A0_4 l0_4.length c0_4, .slice A0_5 l0_5.length c0_5, .slice A0_6 l0_6.length c0_6]] w fun e w' => ∃ v0_ : Value, e = .returned (.tuple #[v0_, .int .i64 r2]) ∧ Kd.R (Kd.int .u8) 5 w' w.heap.size (fun _ => True) v0_ r1 ∧ Below w.heap.size w w' := by
 have hu25 := Try.underlying25
 have HR0_4 := Aside0.mk hr0_4; have HC0_4 := Aside0.mk hc0_4; clear hr0_4 hc0_4; have HR0_5 := Aside0.mk hr0_5; have HC0_5 := Aside0.mk hc0_5; clear hr0_5 hc0_5; have HR0_6 := Aside0.mk hr0_6; have HC0_6 := Aside0.mk hc0_6; clear hr0_6 hc0_6
 have HB := Aside0.mk (Below.refl w.heap.size w)
 have H : ((windbreakref12_Right.f a0_0 a0_1 a0_2 a0_3 l0_4 l0_5 l0_6).bind fun t194 => (if t194 = true then (windbreakref12_Encode.l0 k ([] : List Int) (([a0_0, a0_1, a0_2, a0_3] : List Int)) 0 a0_0 a0_1 a0_2 a0_3 l0_4 l0_5 l0_6) else (some (([] : List Int), 16)))) = some (r1, r2) := h
 clear h
 replace H := ub H; obtain ⟨t194, A2, H⟩ := H
 by_cases c3 : t194 = true
 ·
  subst c3
  have H1 : (windbreakref12_Encode.l0 k ([] : List Int) (([a0_0, a0_1, a0_2, a0_3] : List Int)) 0 a0_0 a0_1 a0_2 a0_3 l0_4 l0_5 l0_6) = some (r1, r2) := by rw [if_pos rfl] at H; exact H
  clear H; have H := H1; clear H1
  obtain ⟨y195, hy195⟩ : ∃ y_ : List Int, y_ = (([a0_0, a0_1, a0_2, a0_3] : List Int)) := ⟨_, rfl⟩
  replace H : (windbreakref12_Encode.l0 k ([] : List Int) y195 0 a0_0 a0_1 a0_2 a0_3 l0_4 l0_5 l0_6) = some (r1, r2) := by first | (rw [hy195]; with_reducible exact H) | (have H2_ := (Option.bind_some _ _).symm.trans H; rw [hy195]; with_reducible exact H2_) | (have H2_ := (Option.bind_some _ _).symm.trans H; with_reducible exact H2_) | with_reducible exact H | (rw [hy195]; exact H) | exact H
  have Ny195 := Aside0.mk hy195; clear hy195
  have H' := Aside0.mk H
  clear H
  go_enter Try.func8, Try.ntmps8
  go_wp2_with (first | ((with_reducible refine gate_dst (N := 1) rfl ?_); refine box_event ?hg (N := 1) ?hd (cs := #[.int .i64 a0_0, .int .i64 a0_1, .int .i64 a0_2, .int .i64 a0_3, .slice A0_4 l0_4.length c0_4, .slice A0_5 l0_5.length c0_5, .slice A0_6 l0_6.length c0_6]) (t := 25) ?hr ?_; (case hd => rfl); (case hg => rfl); (case hr => first | (go_simp; done) | (go_simp; rfl)); intro gb193 hg w4 hbox hb; have BK193 := Aside0.mk (hbox); have GW193 := us hg; have GE193 := us hg; replace HB := uy hb; clear hb hbox hg; have hcz5_0 : w4.cell? ⟨gb193, 0, none⟩ = some (.int .i64 a0_0) := (blk_cell BK193.out 0).trans rfl; have hcz5_1 : w4.cell? ⟨gb193, 1, none⟩ = some (.int .i64 a0_1) := (blk_cell BK193.out 1).trans rfl; have hcz5_2 : w4.cell? ⟨gb193, 2, none⟩ = some (.int .i64 a0_2) := (blk_cell BK193.out 2).trans rfl; have hcz5_3 : w4.cell? ⟨gb193, 3, none⟩ = some (.int .i64 a0_3) := (blk_cell BK193.out 3).trans rfl; have hcz5_4 : w4.cell? ⟨gb193, 4, none⟩ = some (.slice A0_4 l0_4.length c0_4) := (blk_cell BK193.out 4).trans rfl; have hcz5_5 : w4.cell? ⟨gb193, 5, none⟩ = some (.slice A0_5 l0_5.length c0_5) := (blk_cell BK193.out 5).trans rfl; have hcz5_6 : w4.cell? ⟨gb193, 6, none⟩ = some (.slice A0_6 l0_6.length c0_6) := (blk_cell BK193.out 6).trans rfl; have hfz5_0 := blk_frozen BK193.out 0; have hfz5_1 := blk_frozen BK193.out 1; have hfz5_2 := blk_frozen BK193.out 2; have hfz5_3 := blk_frozen BK193.out 3; have hfz5_4 := blk_frozen BK193.out 4; have hfz5_5 := blk_frozen BK193.out 5; have hfz5_6 := blk_frozen BK193.out 6) | ((with_reducible refine gate_callee (f := 17) rfl ?_); refine goesL_ (some 10) rfl rfl Try.func17 (by kernel_rfl) rfl #[.agg #[.int .i64 a0_0, .int .i64 a0_1, .int .i64 a0_2, .int .i64 a0_3, .slice A0_4 l0_4.length c0_4, .slice A0_5 l0_5.length c0_5, .slice A0_6 l0_6.length c0_6]] rfl uM ?_; (with_reducible refine (windbreakref12_Right.calls a0_0 a0_1 a0_2 a0_3 _ _ l0_4 _ _ l0_5 _ _ l0_6 true _ ?side1 ?side2 ?side3 ?side4 ?side5 ?side6 A2.out).mono ?_); (case side1 => exact uC (Kd.C_below HR0_4.out HB.out)); (case side2 => exact HC0_4.out); (case side3 => exact uC (Kd.C_below HR0_5.out HB.out)); (case side4 => exact HC0_5.out); (case side5 => exact uC (Kd.C_below HR0_6.out HB.out)); (case side6 => exact HC0_6.out); rintro e w6 ⟨rfl, hb⟩; refine ⟨_, rfl, ?_⟩; replace BK193 := ux BK193 hb; replace HB := uy hb; (try clear hb); have hcz7_0 : w6.cell? ⟨gb193, 0, none⟩ = some (.int .i64 a0_0) := (blk_cell BK193.out 0).trans rfl; have hcz7_1 : w6.cell? ⟨gb193, 1, none⟩ = some (.int .i64 a0_1) := (blk_cell BK193.out 1).trans rfl; have hcz7_2 : w6.cell? ⟨gb193, 2, none⟩ = some (.int .i64 a0_2) := (blk_cell BK193.out 2).trans rfl; have hcz7_3 : w6.cell? ⟨gb193, 3, none⟩ = some (.int .i64 a0_3) := (blk_cell BK193.out 3).trans rfl; have hcz7_4 : w6.cell? ⟨gb193, 4, none⟩ = some (.slice A0_4 l0_4.length c0_4) := (blk_cell BK193.out 4).trans rfl; have hcz7_5 : w6.cell? ⟨gb193, 5, none⟩ = some (.slice A0_5 l0_5.length c0_5) := (blk_cell BK193.out 5).trans rfl; have hcz7_6 : w6.cell? ⟨gb193, 6, none⟩ = some (.slice A0_6 l0_6.length c0_6) := (blk_cell BK193.out 6).trans rfl; have hfz7_0 := blk_frozen BK193.out 0; have hfz7_1 := blk_frozen BK193.out 1; have hfz7_2 := blk_frozen BK193.out 2; have hfz7_3 := blk_frozen BK193.out 3; have hfz7_4 := blk_frozen BK193.out 4; have hfz7_5 := blk_frozen BK193.out 5; have hfz7_6 := blk_frozen BK193.out 6) | ((with_reducible refine gate_dst (N := 21) rfl ?_); refine Kd.R_lit (Kd.int .i64) _ 3 ?hg (N := 21) ?hd (xs := ([a0_0, a0_1, a0_2, a0_3] : List Int)) (inner := [.int .i64 a0_0, .int .i64 a0_1, .int .i64 a0_2, .int .i64 a0_3]) (ok := fun _ => True) (okp := fun _ => True) ?hr ?hp (fun _ hk => hk) trivial (Below.refl _ _) (Nat.le_refl _) (by simp) ?_; (case hd => rfl); (case hg => rfl); (case hr => first | (go_simp; done) | (go_simp; rfl) | (go_simp; simp only [u64_u8]; done) | (go_simp; simp only [u64_u8]; rfl)); (case hp => exact (Reps.one (show Kd.M (Kd.int .i64) _ _ _ a0_0 [.int .i64 a0_0] from rfl) (Reps.one (show Kd.M (Kd.int .i64) _ _ _ a0_1 [.int .i64 a0_1] from rfl) (Reps.one (show Kd.M (Kd.int .i64) _ _ _ a0_2 [.int .i64 a0_2] from rfl) (Reps.one (show Kd.M (Kd.int .i64) _ _ _ a0_3 [.int .i64 a0_3] from rfl) (Reps.none _ _)))))); intro v196 w8 ho9 hb hg_ hnew_; clear hg_ hnew_; (first | rw [← Ny195.out] at ho9 | (simp only [Int.reduceToNat] at ho9; rw [← Ny195.out] at ho9)); have HO197 := Aside0.mk (Kd.R_lower ho9 (below_size uB)); replace BK193 := ux BK193 hb; replace HB := uy hb; clear hb ho9))
  go_loopg [5, 7] k (fun kq v5 v7 w' => ∃ (x5_1 : List Int) (x7_1 : Int), v7 = .int .i64 x7_1 ∧ Aside0 (windbreakref12_Encode.l0 kq x5_1 y195 x7_1 a0_0 a0_1 a0_2 a0_3 l0_4 l0_5 l0_6 = some (r1, r2)) ∧ Aside0 (kq ≤ k) ∧ Aside0 (Kd.R (Kd.int .u8) 5 w' w.heap.size (fun _ => True) v5 x5_1) ∧ Aside0 (Kd.R (Kd.int .i64) 3 w' w.heap.size (fun _ => True) v196 y195) ∧ Aside0 (w'.heap[gb193]? = some (.cells #[.int .i64 a0_0, .int .i64 a0_1, .int .i64 a0_2, .int .i64 a0_3, (.slice A0_4 l0_4.length c0_4), (.slice A0_5 l0_5.length c0_5), (.slice A0_6 l0_6.length c0_6)] 25 (0, 0))) ∧ Aside0 (Below w.heap.size w w'))
  case atStart => exact ⟨(([] : List Int)), (0), uG, H', ⟨Nat.le_refl _⟩, ⟨by first | exact Kd.R_nil _ _ _ _ _ | exact Kd.N_nil _ _ _ _ _ | exact Kd.V_nil _ _ _ _ _ | exact Kd.Q_nil _ _ _ _ _ | exact Kd.S_nil _ _ _ _ _⟩, ⟨uR HO197.out⟩, ⟨uK BK193.out⟩, ⟨uB⟩⟩
  case round =>
   clear H'
   (try clear c1); (try clear p2); (try clear c3); (try clear c8); (try clear hcz5_0 hcz5_1 hcz5_2 hcz5_3 hcz5_4 hcz5_5 hcz5_6); (try clear hcz7_0 hcz7_1 hcz7_2 hcz7_3 hcz7_4 hcz7_5 hcz7_6); (try clear hfz5_0 hfz5_1 hfz5_2 hfz5_3 hfz5_4 hfz5_5 hfz5_6); (try clear hfz7_0 hfz7_1 hfz7_2 hfz7_3 hfz7_4 hfz7_5 hfz7_6)
   obtain ⟨x5_1, x7_1, rfl, HA, HK1, HO_5, HO_6, BK193, HB⟩ := hrel
   cases gk with
   | zero => exact absurd HA.out (by simp [windbreakref12_Encode.l0])
   | succ k1 =>
    have H := HA.out
    clear HA
    simp only [windbreakref12_Encode.l0] at H
    by_cases c10 : x7_1 < 4
    ·
     rw [if_pos c10] at H
     have c10b0 : decide (x7_1 < 4) = true := decide_eq_true c10
     clear c10
     replace H := uT H; obtain ⟨c11, H⟩ := H
     have c11b0 : decide (0 ≤ x7_1) = true := decide_eq_true c11
     clear c11
     replace H := uT H; obtain ⟨c12, H⟩ := H
     have c12b0 : decide (x7_1 < (y195.length : Int)) = true := decide_eq_true c12
     clear c12
     replace H := ub H; obtain ⟨t199, A13, H⟩ := H
     replace H := uT H; obtain ⟨c14, H⟩ := H
     have LMc14 := Aside0.mk c14; clear c14
     obtain ⟨y202, hy202⟩ : ∃ y_ : List Int, y_ = (x5_1 ++ t199) := ⟨_, rfl⟩
     replace H : (windbreakref12_Encode.l0 k1 y202 y195 (wrap64 (x7_1 + 1)) a0_0 a0_1 a0_2 a0_3 l0_4 l0_5 l0_6) = some (r1, r2) := by first | (rw [hy202]; with_reducible exact H) | (have H2_ := (Option.bind_some _ _).symm.trans H; rw [hy202]; with_reducible exact H2_) | (have H2_ := (Option.bind_some _ _).symm.trans H; with_reducible exact H2_) | with_reducible exact H | (rw [hy202]; exact H) | exact H
     have Ny202 := Aside0.mk hy202; clear hy202
     have H' := Aside0.mk H
     clear H
     obtain ⟨Ao15, co15, eo15⟩ := Kd.R_slice HO_6.out
     subst eo15
     have p198 : 0 ≤ (x7_1 : Int) := uO
     have q198 : x7_1 < (y195.length : Int) := uO
     obtain ⟨ad198, e198, hx198_0⟩ := Kd.at_int (Kd.R_reads' HO_6.out).2.2 x7_1 p198 q198
     cases e198
     replace p198 := eq_true p198
     replace q198 := eq_true q198
     go_wp2_with (first | ((with_reducible refine gate_callee (f := 18) rfl ?_); refine goesL_ (some 32) rfl rfl Try.func18 (by kernel_rfl) rfl #[.int .u64 (IntKind.u64.wrap (rd y195 x7_1))] rfl uM ?_; (with_reducible refine (windbreakref09_Number.calls k1 (IntKind.u64.wrap (rd y195 x7_1)) t199 _ A13.out).mono ?_); rintro e w16 ⟨v200, rfl, ho0, hb⟩; refine ⟨_, rfl, ?_⟩; replace HO_6 := Aside0.mk (Kd.R_below (uR HO_6.out) hb); have HO201 := Aside0.mk (Kd.R_lower (Kd.R_new' ho0 (Kd.R_lt (uR HO_5.out))) (below_size uB)); replace HO_5 := ueR HO_5 ho0 hb; replace BK193 := ux BK193 hb; replace HB := uy hb; (try clear hb ho0); obtain ⟨Ao18, co18, eo18⟩ := Kd.R_slice HO201.out; subst eo18) | ((with_reducible refine gate_builtin (b := .append) (xs := #[.tmp 26, .tmp 32]) rfl ?_); at_builtin; refine Kd.R_append_rows (Kd.int .u8) (w0 := w) w.heap.size rfl (.tmp 26) (.tmp 32) 27 5 (.int .u8 0) 1 rfl Try.underlying27 info5 rfl (by decide) (by omega) u5 x5_1 t199 _ _ _ (fun k_ => some k_ ≠ (.slice Ao18 t199.length co18 : Value).ownBlock) (fun _ => False) rfl rfl ?aO ?aR (fun _ _ h => h) (fun _ h => h.elim) ?aF ?aB ?aS ?aL ?_; (case aR => exact uC (Kd.R_reads' HO201.out).2.2); (case aB => exact uB); (case aF => exact (fun k_ hk => Kd.fresh' (Kd.R_lt (uR HO201.out)) k_ hk)); (case aO => exact (uR (Kd.R_mono HO_5.out (fun _ hk => hk.2)))); (case aS => exact (below_size uB)); (case aL => have := LMc14.out; omega); intro v203 w17 ho hb hg hat; rw [← Ny202.out] at ho; replace HO_6 := Aside0.mk (Kd.R_over' (uR HO_6.out) (Kd.R_typed (uR HO_5.out)) (by decide) hg); replace BK193 := Aside0.mk (blk_grown (g := gb193) (o := .cells #[.int .i64 a0_0, .int .i64 a0_1, .int .i64 a0_2, .int .i64 a0_3, .slice A0_4 l0_4.length c0_4, .slice A0_5 l0_5.length c0_5, .slice A0_6 l0_6.length c0_6] 25 (0, 0)) (uK BK193.out) hg (Kd.R_ne HO_5.out BK193.out (by decide))); replace HO201 := Aside0.mk (Kd.R_after (ok := (fun _ => True)) (uR HO201.out) hg hat); replace HB := Aside0.mk (hb); have HO204 := Aside0.mk (ho); clear HO_5; clear ho hb hg hat))
     go_roundg k1
     case measure => have := HK1.out; omega
     case rel => exact ⟨(y202), (wrap64 (x7_1 + 1)), uG, H', ⟨by have := HK1.out; omega⟩, ⟨by (with_reducible repeat (first | apply Kd.R_alloc | apply Kd.R_drewN | apply Kd.R_drew)); exact Kd.R_mono HO204.out (fun _ hk => trivial)⟩, ⟨uR HO_6.out⟩, ⟨uK BK193.out⟩, ⟨uB⟩⟩
    rw [if_neg c10] at H
    have c10b0 : decide (x7_1 < 4) = false := decide_eq_false c10
    clear c10
    replace H := ub H; obtain ⟨t205, A19, H⟩ := H
    replace H := uT H; obtain ⟨c20, H⟩ := H
    have LMc20 := Aside0.mk c20; clear c20
    obtain ⟨y208, hy208⟩ : ∃ y_ : List Int, y_ = (x5_1 ++ t205) := ⟨_, rfl⟩
    replace H : ((windbreakref12_list.f k1 l0_5).bind fun t211 => (if y208.length + t211.length < 140737488355328 then ((some (y208 ++ t211 : List Int)).bind fun y214 => ((windbreakref09_Number.f k1 (IntKind.u64.wrap ((l0_6.length : Int)))).bind fun t217 => (if y214.length + t217.length < 140737488355328 then (windbreakref12_Encode.l1 k1 (y214 ++ t217) 0 a0_0 a0_1 a0_2 a0_3 l0_4 l0_5 l0_6) else (none)))) else (none))) = some (r1, r2) := by first | (rw [hy208]; with_reducible exact H) | (have H2_ := (Option.bind_some _ _).symm.trans H; rw [hy208]; with_reducible exact H2_) | (have H2_ := (Option.bind_some _ _).symm.trans H; with_reducible exact H2_) | with_reducible exact H | (rw [hy208]; exact H) | exact H
    have Ny208 := Aside0.mk hy208; clear hy208
    replace H := ub H; obtain ⟨t211, A21, H⟩ := H
    replace H := uT H; obtain ⟨c22, H⟩ := H
    have LMc22 := Aside0.mk c22; clear c22
    obtain ⟨y214, hy214⟩ : ∃ y_ : List Int, y_ = (y208 ++ t211) := ⟨_, rfl⟩
    replace H : ((windbreakref09_Number.f k1 (IntKind.u64.wrap ((l0_6.length : Int)))).bind fun t217 => (if y214.length + t217.length < 140737488355328 then (windbreakref12_Encode.l1 k1 (y214 ++ t217) 0 a0_0 a0_1 a0_2 a0_3 l0_4 l0_5 l0_6) else (none))) = some (r1, r2) := by first | (rw [hy214]; with_reducible exact H) | (have H2_ := (Option.bind_some _ _).symm.trans H; rw [hy214]; with_reducible exact H2_) | (have H2_ := (Option.bind_some _ _).symm.trans H; with_reducible exact H2_) | with_reducible exact H | (rw [hy214]; exact H) | exact H
    have Ny214 := Aside0.mk hy214; clear hy214
    replace H := ub H; obtain ⟨t217, A23, H⟩ := H
    replace H := uT H; obtain ⟨c24, H⟩ := H
    have LMc24 := Aside0.mk c24; clear c24
    obtain ⟨y220, hy220⟩ : ∃ y_ : List Int, y_ = (y214 ++ t217) := ⟨_, rfl⟩
    replace H : (windbreakref12_Encode.l1 k1 y220 0 a0_0 a0_1 a0_2 a0_3 l0_4 l0_5 l0_6) = some (r1, r2) := by first | (rw [hy220]; with_reducible exact H) | (have H2_ := (Option.bind_some _ _).symm.trans H; rw [hy220]; with_reducible exact H2_) | (have H2_ := (Option.bind_some _ _).symm.trans H; with_reducible exact H2_) | with_reducible exact H | (rw [hy220]; exact H) | exact H
    have Ny220 := Aside0.mk hy220; clear hy220
    have H' := Aside0.mk H
    clear H; have hcz25_0 : wr.cell? ⟨gb193, 0, none⟩ = some (.int .i64 a0_0) := (blk_cell BK193.out 0).trans rfl; have hcz25_1 : wr.cell? ⟨gb193, 1, none⟩ = some (.int .i64 a0_1) := (blk_cell BK193.out 1).trans rfl; have hcz25_2 : wr.cell? ⟨gb193, 2, none⟩ = some (.int .i64 a0_2) := (blk_cell BK193.out 2).trans rfl; have hcz25_3 : wr.cell? ⟨gb193, 3, none⟩ = some (.int .i64 a0_3) := (blk_cell BK193.out 3).trans rfl; have hcz25_4 : wr.cell? ⟨gb193, 4, none⟩ = some (.slice A0_4 l0_4.length c0_4) := (blk_cell BK193.out 4).trans rfl; have hcz25_5 : wr.cell? ⟨gb193, 5, none⟩ = some (.slice A0_5 l0_5.length c0_5) := (blk_cell BK193.out 5).trans rfl; have hcz25_6 : wr.cell? ⟨gb193, 6, none⟩ = some (.slice A0_6 l0_6.length c0_6) := (blk_cell BK193.out 6).trans rfl; have hfz25_0 := blk_frozen BK193.out 0; have hfz25_1 := blk_frozen BK193.out 1; have hfz25_2 := blk_frozen BK193.out 2; have hfz25_3 := blk_frozen BK193.out 3; have hfz25_4 := blk_frozen BK193.out 4; have hfz25_5 := blk_frozen BK193.out 5; have hfz25_6 := blk_frozen BK193.out 6
    go_wp2_with (first | ((with_reducible refine gate_callee (f := 19) rfl ?_); refine goesL_ (some 37) rfl rfl Try.func19 (by kernel_rfl) rfl #[.slice A0_4 l0_4.length c0_4] rfl uM ?_; (with_reducible refine (windbreakref12_list.calls k1 _ _ l0_4 t205 _ ?side1 ?side2 A19.out).mono ?_); (case side1 => exact uC (Kd.C_below HR0_4.out HB.out)); (case side2 => exact HC0_4.out); rintro e w26 ⟨v206, rfl, ho0, hb⟩; refine ⟨_, rfl, ?_⟩; replace HO_6 := Aside0.mk (Kd.R_below (uR HO_6.out) hb); have HO207 := Aside0.mk (Kd.R_lower (Kd.R_new' ho0 (Kd.R_lt (uR HO_5.out))) (below_size uB)); replace HO_5 := ueR HO_5 ho0 hb; replace BK193 := ux BK193 hb; replace HB := uy hb; (try clear hb ho0); obtain ⟨Ao28, co28, eo28⟩ := Kd.R_slice HO207.out; subst eo28) | ((with_reducible refine gate_builtin (b := .append) (xs := #[.tmp 34, .tmp 37]) rfl ?_); at_builtin; refine Kd.R_append_rows (Kd.int .u8) (w0 := w) w.heap.size rfl (.tmp 34) (.tmp 37) 27 5 (.int .u8 0) 1 rfl Try.underlying27 info5 rfl (by decide) (by omega) u5 x5_1 t205 _ _ _ (fun k_ => some k_ ≠ (.slice Ao28 t205.length co28 : Value).ownBlock) (fun _ => False) rfl rfl ?aO ?aR (fun _ _ h => h) (fun _ h => h.elim) ?aF ?aB ?aS ?aL ?_; (case aR => exact uC (Kd.R_reads' HO207.out).2.2); (case aB => exact uB); (case aF => exact (fun k_ hk => Kd.fresh' (Kd.R_lt (uR HO207.out)) k_ hk)); (case aO => exact (uR (Kd.R_mono HO_5.out (fun _ hk => hk.2)))); (case aS => exact (below_size uB)); (case aL => have := LMc20.out; omega); intro v209 w27 ho hb hg hat; rw [← Ny208.out] at ho; replace HO_6 := Aside0.mk (Kd.R_over' (uR HO_6.out) (Kd.R_typed (uR HO_5.out)) (by decide) hg); replace BK193 := Aside0.mk (blk_grown (g := gb193) (o := .cells #[.int .i64 a0_0, .int .i64 a0_1, .int .i64 a0_2, .int .i64 a0_3, .slice A0_4 l0_4.length c0_4, .slice A0_5 l0_5.length c0_5, .slice A0_6 l0_6.length c0_6] 25 (0, 0)) (uK BK193.out) hg (Kd.R_ne HO_5.out BK193.out (by decide))); replace HO207 := Aside0.mk (Kd.R_after (ok := (fun _ => True)) (uR HO207.out) hg hat); replace HB := Aside0.mk (hb); have HO210 := Aside0.mk (ho); clear HO_5; clear ho hb hg hat; have hcz29_0 : w27.cell? ⟨gb193, 0, none⟩ = some (.int .i64 a0_0) := (blk_cell BK193.out 0).trans rfl; have hcz29_1 : w27.cell? ⟨gb193, 1, none⟩ = some (.int .i64 a0_1) := (blk_cell BK193.out 1).trans rfl; have hcz29_2 : w27.cell? ⟨gb193, 2, none⟩ = some (.int .i64 a0_2) := (blk_cell BK193.out 2).trans rfl; have hcz29_3 : w27.cell? ⟨gb193, 3, none⟩ = some (.int .i64 a0_3) := (blk_cell BK193.out 3).trans rfl; have hcz29_4 : w27.cell? ⟨gb193, 4, none⟩ = some (.slice A0_4 l0_4.length c0_4) := (blk_cell BK193.out 4).trans rfl; have hcz29_5 : w27.cell? ⟨gb193, 5, none⟩ = some (.slice A0_5 l0_5.length c0_5) := (blk_cell BK193.out 5).trans rfl; have hcz29_6 : w27.cell? ⟨gb193, 6, none⟩ = some (.slice A0_6 l0_6.length c0_6) := (blk_cell BK193.out 6).trans rfl; have hfz29_0 := blk_frozen BK193.out 0; have hfz29_1 := blk_frozen BK193.out 1; have hfz29_2 := blk_frozen BK193.out 2; have hfz29_3 := blk_frozen BK193.out 3; have hfz29_4 := blk_frozen BK193.out 4; have hfz29_5 := blk_frozen BK193.out 5; have hfz29_6 := blk_frozen BK193.out 6) | ((with_reducible refine gate_callee (f := 19) rfl ?_); refine goesL_ (some 42) rfl rfl Try.func19 (by kernel_rfl) rfl #[.slice A0_5 l0_5.length c0_5] rfl uM ?_; (with_reducible refine (windbreakref12_list.calls k1 _ _ l0_5 t211 _ ?side1 ?side2 A21.out).mono ?_); (case side1 => exact uC (Kd.C_below HR0_5.out HB.out)); (case side2 => exact HC0_5.out); rintro e w30 ⟨v212, rfl, ho0, hb⟩; refine ⟨_, rfl, ?_⟩; replace HO_6 := Aside0.mk (Kd.R_below (uR HO_6.out) hb); have HO213 := Aside0.mk (Kd.R_lower (Kd.R_new' (Kd.R_new' ho0 (Kd.R_lt (uR HO207.out))) (Kd.R_lt (uR HO210.out))) (below_size uB)); replace HO207 := ueR HO207 ho0 hb; replace HO210 := ueR HO210 ho0 hb; replace BK193 := ux BK193 hb; replace HB := uy hb; (try clear hb ho0); obtain ⟨Ao32, co32, eo32⟩ := Kd.R_slice HO213.out; subst eo32) | ((with_reducible refine gate_builtin (b := .append) (xs := #[.tmp 39, .tmp 42]) rfl ?_); at_builtin; refine Kd.R_append_rows (Kd.int .u8) (w0 := w) w.heap.size rfl (.tmp 39) (.tmp 42) 27 5 (.int .u8 0) 1 rfl Try.underlying27 info5 rfl (by decide) (by omega) v209 y208 t211 _ _ _ (fun k_ => some k_ ≠ (.slice Ao28 t205.length co28 : Value).ownBlock ∧ some k_ ≠ (.slice Ao32 t211.length co32 : Value).ownBlock) (fun _ => False) rfl rfl ?aO ?aR (fun _ _ h => h) (fun _ h => h.elim) ?aF ?aB ?aS ?aL ?_; (case aR => exact uC (Kd.R_reads' HO213.out).2.2); (case aB => exact uB); (case aF => exact (fun k_ hk => ⟨Kd.fresh' (Kd.R_lt (uR HO207.out)) k_ hk, Kd.fresh' (Kd.R_lt (uR HO213.out)) k_ hk⟩)); (case aO => exact (uR HO210.out)); (case aS => exact (below_size uB)); (case aL => have := LMc22.out; omega); intro v215 w31 ho hb hg hat; rw [← Ny214.out] at ho; replace HO_6 := Aside0.mk (Kd.R_over' (uR HO_6.out) (Kd.R_typed (uR HO210.out)) (by decide) hg); replace BK193 := Aside0.mk (blk_grown (g := gb193) (o := .cells #[.int .i64 a0_0, .int .i64 a0_1, .int .i64 a0_2, .int .i64 a0_3, .slice A0_4 l0_4.length c0_4, .slice A0_5 l0_5.length c0_5, .slice A0_6 l0_6.length c0_6] 25 (0, 0)) (uK BK193.out) hg (Kd.R_ne HO210.out BK193.out (by decide))); replace HO207 := Aside0.mk (Kd.R_after (ok := (fun k_ => some k_ ≠ (.slice Ao32 t211.length co32 : Value).ownBlock)) (uR (Kd.R_mono HO207.out (fun _ hk => ⟨hk.2, hk.1.2⟩))) hg hat); replace HO213 := Aside0.mk (Kd.R_after (ok := (fun k_ => some k_ ≠ (.slice Ao28 t205.length co28 : Value).ownBlock)) (uR (Kd.R_mono HO213.out (fun _ hk => ⟨hk.1.2, hk.2⟩))) hg hat); replace HB := Aside0.mk (hb); have HO216 := Aside0.mk (ho); clear HO210; clear ho hb hg hat; have hcz33_0 : w31.cell? ⟨gb193, 0, none⟩ = some (.int .i64 a0_0) := (blk_cell BK193.out 0).trans rfl; have hcz33_1 : w31.cell? ⟨gb193, 1, none⟩ = some (.int .i64 a0_1) := (blk_cell BK193.out 1).trans rfl; have hcz33_2 : w31.cell? ⟨gb193, 2, none⟩ = some (.int .i64 a0_2) := (blk_cell BK193.out 2).trans rfl; have hcz33_3 : w31.cell? ⟨gb193, 3, none⟩ = some (.int .i64 a0_3) := (blk_cell BK193.out 3).trans rfl; have hcz33_4 : w31.cell? ⟨gb193, 4, none⟩ = some (.slice A0_4 l0_4.length c0_4) := (blk_cell BK193.out 4).trans rfl; have hcz33_5 : w31.cell? ⟨gb193, 5, none⟩ = some (.slice A0_5 l0_5.length c0_5) := (blk_cell BK193.out 5).trans rfl; have hcz33_6 : w31.cell? ⟨gb193, 6, none⟩ = some (.slice A0_6 l0_6.length c0_6) := (blk_cell BK193.out 6).trans rfl; have hfz33_0 := blk_frozen BK193.out 0; have hfz33_1 := blk_frozen BK193.out 1; have hfz33_2 := blk_frozen BK193.out 2; have hfz33_3 := blk_frozen BK193.out 3; have hfz33_4 := blk_frozen BK193.out 4; have hfz33_5 := blk_frozen BK193.out 5; have hfz33_6 := blk_frozen BK193.out 6) | ((with_reducible refine gate_callee (f := 18) rfl ?_); refine goesL_ (some 49) rfl rfl Try.func18 (by kernel_rfl) rfl #[.int .u64 (IntKind.u64.wrap ((l0_6.length : Int)))] rfl uM ?_; (with_reducible refine (windbreakref09_Number.calls k1 (IntKind.u64.wrap ((l0_6.length : Int))) t217 _ A23.out).mono ?_); rintro e w34 ⟨v218, rfl, ho0, hb⟩; refine ⟨_, rfl, ?_⟩; replace HO_6 := Aside0.mk (Kd.R_below (uR HO_6.out) hb); have HO219 := Aside0.mk (Kd.R_lower (Kd.R_new' (Kd.R_new' (Kd.R_new' ho0 (Kd.R_lt (uR HO207.out))) (Kd.R_lt (uR HO213.out))) (Kd.R_lt (uR HO216.out))) (below_size uB)); replace HO207 := ueR HO207 ho0 hb; replace HO213 := ueR HO213 ho0 hb; replace HO216 := ueR HO216 ho0 hb; replace BK193 := ux BK193 hb; replace HB := uy hb; (try clear hb ho0); obtain ⟨Ao36, co36, eo36⟩ := Kd.R_slice HO219.out; subst eo36) | ((with_reducible refine gate_builtin (b := .append) (xs := #[.tmp 44, .tmp 49]) rfl ?_); at_builtin; refine Kd.R_append_rows (Kd.int .u8) (w0 := w) w.heap.size rfl (.tmp 44) (.tmp 49) 27 5 (.int .u8 0) 1 rfl Try.underlying27 info5 rfl (by decide) (by omega) v215 y214 t217 _ _ _ (fun k_ => some k_ ≠ (.slice Ao28 t205.length co28 : Value).ownBlock ∧ some k_ ≠ (.slice Ao32 t211.length co32 : Value).ownBlock ∧ some k_ ≠ (.slice Ao36 t217.length co36 : Value).ownBlock) (fun _ => False) rfl rfl ?aO ?aR (fun _ _ h => h) (fun _ h => h.elim) ?aF ?aB ?aS ?aL ?_; (case aR => exact uC (Kd.R_reads' HO219.out).2.2); (case aB => exact uB); (case aF => exact (fun k_ hk => ⟨Kd.fresh' (Kd.R_lt (uR HO207.out)) k_ hk, Kd.fresh' (Kd.R_lt (uR HO213.out)) k_ hk, Kd.fresh' (Kd.R_lt (uR HO219.out)) k_ hk⟩)); (case aO => exact (uR (Kd.R_mono HO216.out (fun _ hk => ⟨hk.1.1, ⟨hk.1.2, hk.2⟩⟩)))); (case aS => exact (below_size uB)); (case aL => have := LMc24.out; omega); intro v221 w35 ho hb hg hat; rw [← Ny220.out] at ho; replace HO_6 := Aside0.mk (Kd.R_over' (uR HO_6.out) (Kd.R_typed (uR HO216.out)) (by decide) hg); replace BK193 := Aside0.mk (blk_grown (g := gb193) (o := .cells #[.int .i64 a0_0, .int .i64 a0_1, .int .i64 a0_2, .int .i64 a0_3, .slice A0_4 l0_4.length c0_4, .slice A0_5 l0_5.length c0_5, .slice A0_6 l0_6.length c0_6] 25 (0, 0)) (uK BK193.out) hg (Kd.R_ne HO216.out BK193.out (by decide))); replace HO207 := Aside0.mk (Kd.R_after (ok := (fun k_ => some k_ ≠ (.slice Ao32 t211.length co32 : Value).ownBlock ∧ some k_ ≠ (.slice Ao36 t217.length co36 : Value).ownBlock)) (uR (Kd.R_mono HO207.out (fun _ hk => ⟨⟨hk.1.1, hk.2⟩, hk.1.2⟩))) hg hat); replace HO213 := Aside0.mk (Kd.R_after (ok := (fun k_ => some k_ ≠ (.slice Ao28 t205.length co28 : Value).ownBlock ∧ some k_ ≠ (.slice Ao36 t217.length co36 : Value).ownBlock)) (uR (Kd.R_mono HO213.out (fun _ hk => ⟨⟨hk.1.1, hk.2⟩, hk.1.2⟩))) hg hat); replace HO219 := Aside0.mk (Kd.R_after (ok := (fun k_ => some k_ ≠ (.slice Ao28 t205.length co28 : Value).ownBlock ∧ some k_ ≠ (.slice Ao32 t211.length co32 : Value).ownBlock)) (uR (Kd.R_mono HO219.out (fun _ hk => ⟨⟨hk.1.1.2, hk.1.2⟩, hk.2⟩))) hg hat); replace HB := Aside0.mk (hb); have HO222 := Aside0.mk (ho); clear HO216; clear ho hb hg hat))
    go_loopg [5, 8] k1 (fun kq v5 v8 w' => ∃ (x5_2 : List Int) (x8_2 : Int), v8 = .int .i64 x8_2 ∧ Aside0 (windbreakref12_Encode.l1 kq x5_2 x8_2 a0_0 a0_1 a0_2 a0_3 l0_4 l0_5 l0_6 = some (r1, r2)) ∧ Aside0 (kq ≤ k1) ∧ Aside0 (Kd.R (Kd.int .u8) 5 w' w.heap.size (fun _ => True) v5 x5_2) ∧ Aside0 (w'.heap[gb193]? = some (.cells #[.int .i64 a0_0, .int .i64 a0_1, .int .i64 a0_2, .int .i64 a0_3, (.slice A0_4 l0_4.length c0_4), (.slice A0_5 l0_5.length c0_5), (.slice A0_6 l0_6.length c0_6)] 25 (0, 0))) ∧ Aside0 (Below w.heap.size w w'))
    case atStart => exact ⟨(y220), (0), uG, H', ⟨Nat.le_refl _⟩, ⟨by (with_reducible repeat (first | apply Kd.R_alloc | apply Kd.R_drewN | apply Kd.R_drew)); exact Kd.R_mono HO222.out (fun _ hk => trivial)⟩, ⟨uK BK193.out⟩, ⟨uB⟩⟩
    case round =>
     clear H'
     (try clear c1); (try clear p1); (try clear q1); (try clear hx1); (try clear c2); (try clear p2 p2); (try clear c3); (try clear p6); (try clear c8); (try clear c10); (try clear c10b0); (try clear c11); (try clear c11b0); (try clear c12); (try clear c12b0); (try clear c14); (try clear c17); (try clear c18); (try clear c19); (try clear p19); (try clear q19); (try clear hx19); (try clear c20); (try clear c22); (try clear c24); (try clear hcz25_0 hcz25_1 hcz25_2 hcz25_3 hcz25_4 hcz25_5 hcz25_6); (try clear hcz29_0 hcz29_1 hcz29_2 hcz29_3 hcz29_4 hcz29_5 hcz29_6); (try clear hcz33_0 hcz33_1 hcz33_2 hcz33_3 hcz33_4 hcz33_5 hcz33_6); (try clear hcz5_0 hcz5_1 hcz5_2 hcz5_3 hcz5_4 hcz5_5 hcz5_6); (try clear hcz7_0 hcz7_1 hcz7_2 hcz7_3 hcz7_4 hcz7_5 hcz7_6); (try clear hfz25_0 hfz25_1 hfz25_2 hfz25_3 hfz25_4 hfz25_5 hfz25_6); (try clear hfz29_0 hfz29_1 hfz29_2 hfz29_3 hfz29_4 hfz29_5 hfz29_6); (try clear hfz33_0 hfz33_1 hfz33_2 hfz33_3 hfz33_4 hfz33_5 hfz33_6); (try clear hfz5_0 hfz5_1 hfz5_2 hfz5_3 hfz5_4 hfz5_5 hfz5_6); (try clear hfz7_0 hfz7_1 hfz7_2 hfz7_3 hfz7_4 hfz7_5 hfz7_6); (try clear hx198_0); (try clear p198); (try clear q198)
     obtain ⟨x5_2, x8_2, rfl, HA, HK2, HO_5, BK193, HB⟩ := hrel
     cases gk with
     | zero => exact absurd HA.out (by simp [windbreakref12_Encode.l1])
     | succ k2 =>
      have H := HA.out
      clear HA
      simp only [windbreakref12_Encode.l1] at H
      by_cases c37 : x8_2 < (l0_6.length : Int)
      ·
       rw [if_pos c37] at H
       have c37b0 : decide (x8_2 < (l0_6.length : Int)) = true := decide_eq_true c37
       clear c37
       replace H := uT H; obtain ⟨c38, H⟩ := H
       have c38b0 : decide (0 ≤ x8_2) = true := decide_eq_true c38
       clear c38
       replace H := ub H; obtain ⟨t224, A39, H⟩ := H
       replace H := ub H; obtain ⟨t227, A40, H⟩ := H
       replace H := uT H; obtain ⟨c41, H⟩ := H
       have LMc41 := Aside0.mk c41; clear c41
       obtain ⟨y230, hy230⟩ : ∃ y_ : List Int, y_ = (x5_2 ++ t227) := ⟨_, rfl⟩
       replace H : (windbreakref12_Encode.l1 k2 y230 (wrap64 (x8_2 + 1)) a0_0 a0_1 a0_2 a0_3 l0_4 l0_5 l0_6) = some (r1, r2) := by first | (rw [hy230]; with_reducible exact H) | (have H2_ := (Option.bind_some _ _).symm.trans H; rw [hy230]; with_reducible exact H2_) | (have H2_ := (Option.bind_some _ _).symm.trans H; with_reducible exact H2_) | with_reducible exact H | (rw [hy230]; exact H) | exact H
       have Ny230 := Aside0.mk hy230; clear hy230
       have H' := Aside0.mk H
       clear H; have hcz42_0 : wr.cell? ⟨gb193, 0, none⟩ = some (.int .i64 a0_0) := (blk_cell BK193.out 0).trans rfl; have hcz42_1 : wr.cell? ⟨gb193, 1, none⟩ = some (.int .i64 a0_1) := (blk_cell BK193.out 1).trans rfl; have hcz42_2 : wr.cell? ⟨gb193, 2, none⟩ = some (.int .i64 a0_2) := (blk_cell BK193.out 2).trans rfl; have hcz42_3 : wr.cell? ⟨gb193, 3, none⟩ = some (.int .i64 a0_3) := (blk_cell BK193.out 3).trans rfl; have hcz42_4 : wr.cell? ⟨gb193, 4, none⟩ = some (.slice A0_4 l0_4.length c0_4) := (blk_cell BK193.out 4).trans rfl; have hcz42_5 : wr.cell? ⟨gb193, 5, none⟩ = some (.slice A0_5 l0_5.length c0_5) := (blk_cell BK193.out 5).trans rfl; have hcz42_6 : wr.cell? ⟨gb193, 6, none⟩ = some (.slice A0_6 l0_6.length c0_6) := (blk_cell BK193.out 6).trans rfl; have hfz42_0 := blk_frozen BK193.out 0; have hfz42_1 := blk_frozen BK193.out 1; have hfz42_2 := blk_frozen BK193.out 2; have hfz42_3 := blk_frozen BK193.out 3; have hfz42_4 := blk_frozen BK193.out 4; have hfz42_5 := blk_frozen BK193.out 5; have hfz42_6 := blk_frozen BK193.out 6
       have p223 : 0 ≤ (x8_2 : Int) := uO
       have q223 : x8_2 < (l0_6.length : Int) := uO
       obtain ⟨ad223, A223_0, c223_0, e223, hx223_0, hl223_0, hi223_0⟩ := at_L3 HR0_6.out x8_2 p223 q223
       cases e223
       replace hx223_0 := (HB.out.cell (World.block_lt_of_cell? w _ hx223_0)).trans hx223_0
       have HR223_0 := Aside0.mk hi223_0; have HC223_0 := Aside0.mk hl223_0; clear hi223_0 hl223_0
       replace p223 := eq_true p223
       replace q223 := eq_true q223
       go_wp2_with (first | ((with_reducible refine gate_callee (f := 21) rfl ?_); refine goesL_ (some 64) rfl rfl Try.func21 (by kernel_rfl) rfl #[.slice A223_0 (rd_L3 l0_6 x8_2).length c223_0] rfl uM ?_; (with_reducible refine (windbreakref01_Bytes.calls k2 _ _ (rd_L3 l0_6 x8_2) t224 _ ?side1 ?side2 A39.out).mono ?_); (case side1 => exact uC (Kd.C_below HR223_0.out HB.out)); (case side2 => exact HC223_0.out); rintro e w43 ⟨v225, rfl, ho0, hb⟩; refine ⟨_, rfl, ?_⟩; have HO226 := Aside0.mk (Kd.R_lower (Kd.R_new' ho0 (Kd.R_lt (uR HO_5.out))) (below_size uB)); replace HO_5 := ueR HO_5 ho0 hb; replace BK193 := ux BK193 hb; replace HB := uy hb; (try clear hb ho0); obtain ⟨Ao44, co44, eo44⟩ := Kd.R_slice HO226.out; subst eo44) | ((with_reducible refine gate_callee (f := 20) rfl ?_); refine goesL_ (some 65) rfl rfl Try.func20 (by kernel_rfl) rfl #[.slice Ao44 t224.length co44] rfl uM ?_; (with_reducible refine (windbreakref09_Bytes.calls k2 _ _ t224 t227 _ ?side1 ?side2 A40.out).mono ?_); (case side1 => exact uC (Kd.R_reads' HO226.out).2.2); (case side2 => exact (Kd.R_reads' HO226.out).2.1); rintro e w45 ⟨v228, rfl, ho0, hb⟩; refine ⟨_, rfl, ?_⟩; have HO229 := Aside0.mk (Kd.R_lower (Kd.R_new' (Kd.R_new' ho0 (Kd.R_lt (uR HO_5.out))) (Kd.R_lt (uR HO226.out))) (below_size uB)); replace HO_5 := ueR HO_5 ho0 hb; replace HO226 := ueR HO226 ho0 hb; replace BK193 := ux BK193 hb; replace HB := uy hb; (try clear hb ho0); obtain ⟨Ao47, co47, eo47⟩ := Kd.R_slice HO229.out; subst eo47) | ((with_reducible refine gate_builtin (b := .append) (xs := #[.tmp 58, .tmp 65]) rfl ?_); at_builtin; refine Kd.R_append_rows (Kd.int .u8) (w0 := w) w.heap.size rfl (.tmp 58) (.tmp 65) 27 5 (.int .u8 0) 1 rfl Try.underlying27 info5 rfl (by decide) (by omega) u5 x5_2 t227 _ _ _ (fun k_ => some k_ ≠ (.slice Ao44 t224.length co44 : Value).ownBlock ∧ some k_ ≠ (.slice Ao47 t227.length co47 : Value).ownBlock) (fun _ => False) rfl rfl ?aO ?aR (fun _ _ h => h) (fun _ h => h.elim) ?aF ?aB ?aS ?aL ?_; (case aR => exact uC (Kd.R_reads' HO229.out).2.2); (case aB => exact uB); (case aF => exact (fun k_ hk => ⟨Kd.fresh' (Kd.R_lt (uR HO226.out)) k_ hk, Kd.fresh' (Kd.R_lt (uR HO229.out)) k_ hk⟩)); (case aO => exact (uR (Kd.R_mono HO_5.out (fun _ hk => ⟨hk.1.2, hk.2⟩)))); (case aS => exact (below_size uB)); (case aL => have := LMc41.out; omega); intro v231 w46 ho hb hg hat; rw [← Ny230.out] at ho; replace BK193 := Aside0.mk (blk_grown (g := gb193) (o := .cells #[.int .i64 a0_0, .int .i64 a0_1, .int .i64 a0_2, .int .i64 a0_3, .slice A0_4 l0_4.length c0_4, .slice A0_5 l0_5.length c0_5, .slice (some ad223) l0_6.length c0_6] 25 (0, 0)) (uK BK193.out) hg (Kd.R_ne HO_5.out BK193.out (by decide))); replace HO226 := Aside0.mk (Kd.R_after (ok := (fun k_ => some k_ ≠ (.slice Ao47 t227.length co47 : Value).ownBlock)) (uR (Kd.R_mono HO226.out (fun _ hk => ⟨hk.2, hk.1.2⟩))) hg hat); replace HO229 := Aside0.mk (Kd.R_after (ok := (fun k_ => some k_ ≠ (.slice Ao44 t224.length co44 : Value).ownBlock)) (uR (Kd.R_mono HO229.out (fun _ hk => ⟨hk.2, hk.1.2⟩))) hg hat); replace HB := Aside0.mk (hb); have HO232 := Aside0.mk (ho); clear HO_5; clear ho hb hg hat))
       go_roundg k2
       case measure => have := HK1.out; have := HK2.out; omega
       case rel => exact ⟨(y230), (wrap64 (x8_2 + 1)), uG, H', ⟨by have := HK1.out; have := HK2.out; omega⟩, ⟨by (with_reducible repeat (first | apply Kd.R_alloc | apply Kd.R_drewN | apply Kd.R_drew)); exact Kd.R_mono HO232.out (fun _ hk => trivial)⟩, ⟨uK BK193.out⟩, ⟨uB⟩⟩
      rw [if_neg c37] at H
      have c37b0 : decide (x8_2 < (l0_6.length : Int)) = false := decide_eq_false c37
      clear c37
      by_cases c48 : (x5_2.length : Int) > 1048576
      ·
       rw [if_pos c48] at H
       have c48b0 : decide (1048576 < (x5_2.length : Int)) = true := decide_eq_true c48
       have c48b1 : decide (1048576 < x5_2.length) = true := decide_eq_true (by omega)
       clear c48
       simp only [Option.some.injEq, Prod.mk.injEq] at H
       obtain ⟨rfl, rfl⟩ := H
       have hcz49_0 : wr.cell? ⟨gb193, 0, none⟩ = some (.int .i64 a0_0) := (blk_cell BK193.out 0).trans rfl; have hcz49_1 : wr.cell? ⟨gb193, 1, none⟩ = some (.int .i64 a0_1) := (blk_cell BK193.out 1).trans rfl; have hcz49_2 : wr.cell? ⟨gb193, 2, none⟩ = some (.int .i64 a0_2) := (blk_cell BK193.out 2).trans rfl; have hcz49_3 : wr.cell? ⟨gb193, 3, none⟩ = some (.int .i64 a0_3) := (blk_cell BK193.out 3).trans rfl; have hcz49_4 : wr.cell? ⟨gb193, 4, none⟩ = some (.slice A0_4 l0_4.length c0_4) := (blk_cell BK193.out 4).trans rfl; have hcz49_5 : wr.cell? ⟨gb193, 5, none⟩ = some (.slice A0_5 l0_5.length c0_5) := (blk_cell BK193.out 5).trans rfl; have hcz49_6 : wr.cell? ⟨gb193, 6, none⟩ = some (.slice A0_6 l0_6.length c0_6) := (blk_cell BK193.out 6).trans rfl; have hfz49_0 := blk_frozen BK193.out 0; have hfz49_1 := blk_frozen BK193.out 1; have hfz49_2 := blk_frozen BK193.out 2; have hfz49_3 := blk_frozen BK193.out 3; have hfz49_4 := blk_frozen BK193.out 4; have hfz49_5 := blk_frozen BK193.out 5; have hfz49_6 := blk_frozen BK193.out 6
       obtain ⟨Ao50, co50, eo50⟩ := Kd.R_slice HO_5.out
       subst eo50
       go_wp2
       go_ret2
       exact ⟨_, by first | rfl | (simp [errW_none, errW_some] <;> rfl) | (simp [*, errW_none, errW_some] <;> rfl), by first | exact Kd.R_nil _ _ _ _ _ | exact Kd.N_nil _ _ _ _ _ | exact Kd.V_nil _ _ _ _ _ | exact Kd.Q_nil _ _ _ _ _ | exact Kd.S_nil _ _ _ _ _, uB⟩
      rw [if_neg c48] at H
      have c48b0 : decide (1048576 < (x5_2.length : Int)) = false := decide_eq_false c48
      have c48b1 : decide (1048576 < x5_2.length) = false := decide_eq_false (by omega)
      clear c48
      simp only [Option.some.injEq, Prod.mk.injEq] at H
      obtain ⟨rfl, rfl⟩ := H
      have hcz51_0 : wr.cell? ⟨gb193, 0, none⟩ = some (.int .i64 a0_0) := (blk_cell BK193.out 0).trans rfl; have hcz51_1 : wr.cell? ⟨gb193, 1, none⟩ = some (.int .i64 a0_1) := (blk_cell BK193.out 1).trans rfl; have hcz51_2 : wr.cell? ⟨gb193, 2, none⟩ = some (.int .i64 a0_2) := (blk_cell BK193.out 2).trans rfl; have hcz51_3 : wr.cell? ⟨gb193, 3, none⟩ = some (.int .i64 a0_3) := (blk_cell BK193.out 3).trans rfl; have hcz51_4 : wr.cell? ⟨gb193, 4, none⟩ = some (.slice A0_4 l0_4.length c0_4) := (blk_cell BK193.out 4).trans rfl; have hcz51_5 : wr.cell? ⟨gb193, 5, none⟩ = some (.slice A0_5 l0_5.length c0_5) := (blk_cell BK193.out 5).trans rfl; have hcz51_6 : wr.cell? ⟨gb193, 6, none⟩ = some (.slice A0_6 l0_6.length c0_6) := (blk_cell BK193.out 6).trans rfl; have hfz51_0 := blk_frozen BK193.out 0; have hfz51_1 := blk_frozen BK193.out 1; have hfz51_2 := blk_frozen BK193.out 2; have hfz51_3 := blk_frozen BK193.out 3; have hfz51_4 := blk_frozen BK193.out 4; have hfz51_5 := blk_frozen BK193.out 5; have hfz51_6 := blk_frozen BK193.out 6
      obtain ⟨Ao52, co52, eo52⟩ := Kd.R_slice HO_5.out
      subst eo52
      go_wp2
      go_ret2
      exact ⟨_, uF, uR HO_5.out, uB⟩
 replace c3 := Bool.eq_false_iff.mpr c3
 subst c3
 have H1 : (some (([] : List Int), 16)) = some (r1, r2) := by rw [if_neg (show ¬ (false = true) by decide)] at H; exact H
 clear H; have H := H1; clear H1
 simp only [Option.some.injEq, Prod.mk.injEq] at H
 obtain ⟨rfl, rfl⟩ := H
 go_enter Try.func8, Try.ntmps8
 go_wp2_with (first | ((with_reducible refine gate_dst (N := 1) rfl ?_); refine box_event ?hg (N := 1) ?hd (cs := #[.int .i64 a0_0, .int .i64 a0_1, .int .i64 a0_2, .int .i64 a0_3, .slice A0_4 l0_4.length c0_4, .slice A0_5 l0_5.length c0_5, .slice A0_6 l0_6.length c0_6]) (t := 25) ?hr ?_; (case hd => rfl); (case hg => rfl); (case hr => first | (go_simp; done) | (go_simp; rfl)); intro gb193 hg w53 hbox hb; have BK193 := Aside0.mk (hbox); have GW193 := us hg; have GE193 := us hg; replace HB := uy hb; clear hb hbox hg; have hcz54_0 : w53.cell? ⟨gb193, 0, none⟩ = some (.int .i64 a0_0) := (blk_cell BK193.out 0).trans rfl; have hcz54_1 : w53.cell? ⟨gb193, 1, none⟩ = some (.int .i64 a0_1) := (blk_cell BK193.out 1).trans rfl; have hcz54_2 : w53.cell? ⟨gb193, 2, none⟩ = some (.int .i64 a0_2) := (blk_cell BK193.out 2).trans rfl; have hcz54_3 : w53.cell? ⟨gb193, 3, none⟩ = some (.int .i64 a0_3) := (blk_cell BK193.out 3).trans rfl; have hcz54_4 : w53.cell? ⟨gb193, 4, none⟩ = some (.slice A0_4 l0_4.length c0_4) := (blk_cell BK193.out 4).trans rfl; have hcz54_5 : w53.cell? ⟨gb193, 5, none⟩ = some (.slice A0_5 l0_5.length c0_5) := (blk_cell BK193.out 5).trans rfl; have hcz54_6 : w53.cell? ⟨gb193, 6, none⟩ = some (.slice A0_6 l0_6.length c0_6) := (blk_cell BK193.out 6).trans rfl; have hfz54_0 := blk_frozen BK193.out 0; have hfz54_1 := blk_frozen BK193.out 1; have hfz54_2 := blk_frozen BK193.out 2; have hfz54_3 := blk_frozen BK193.out 3; have hfz54_4 := blk_frozen BK193.out 4; have hfz54_5 := blk_frozen BK193.out 5; have hfz54_6 := blk_frozen BK193.out 6) | ((with_reducible refine gate_callee (f := 17) rfl ?_); refine goesL_ (some 10) rfl rfl Try.func17 (by kernel_rfl) rfl #[.agg #[.int .i64 a0_0, .int .i64 a0_1, .int .i64 a0_2, .int .i64 a0_3, .slice A0_4 l0_4.length c0_4, .slice A0_5 l0_5.length c0_5, .slice A0_6 l0_6.length c0_6]] rfl uM ?_; (with_reducible refine (windbreakref12_Right.calls a0_0 a0_1 a0_2 a0_3 _ _ l0_4 _ _ l0_5 _ _ l0_6 false _ ?side1 ?side2 ?side3 ?side4 ?side5 ?side6 A2.out).mono ?_); (case side1 => exact uC (Kd.C_below HR0_4.out HB.out)); (case side2 => exact HC0_4.out); (case side3 => exact uC (Kd.C_below HR0_5.out HB.out)); (case side4 => exact HC0_5.out); (case side5 => exact uC (Kd.C_below HR0_6.out HB.out)); (case side6 => exact HC0_6.out); rintro e w55 ⟨rfl, hb⟩; refine ⟨_, rfl, ?_⟩; replace BK193 := ux BK193 hb; replace HB := uy hb; (try clear hb)))
 go_ret2
 exact ⟨_, by first | rfl | (simp [errW_none, errW_some] <;> rfl) | (simp [*, errW_none, errW_some] <;> rfl), by first | exact Kd.R_nil _ _ _ _ _ | exact Kd.N_nil _ _ _ _ _ | exact Kd.V_nil _ _ _ _ _ | exact Kd.Q_nil _ _ _ _ _ | exact Kd.S_nil _ _ _ _ _, uB⟩
end Go.Proofs.Ytanmfddlncdncab.F
end
section
namespace Go.Proofs.Ytanmfddlncdncab.F
open Go.RowKit Go.Proofs.YtanmfddlncdncabW.PrintWords Go.Proofs.YtanmfddlncdncabW.PrintLast Go.Proofs.YtanmfddlncdncabW.PrintMore
attribute [local go_sem] max2_int min2_int max_two min_two max_three min_three max_four min_four
set_option linter.unusedVariables false
set_option linter.unusedSimpArgs false
def windbreaklaw12_WireEncodes.f (k : Nat) (a0_0 : Int) (a0_1 : Int) (a0_2 : Int) (a0_3 : Int) (l0_4 : List Int) (l0_5 : List Int) (l0_6 : List (List Int)) : Option (Bool) := (windbreaklaw12_awake.f k).bind fun t234 => ((wire_Encode.f k a0_0 a0_1 a0_2 a0_3 l0_4 l0_5 l0_6).bind fun bt235 => ((windbreakref12_Encode.f k a0_0 a0_1 a0_2 a0_3 l0_4 l0_5 l0_6).bind fun bt239 => (if t234 = true then (if (strOfNums bt235.1).toList = (strOfNums bt239.1).toList then (some (bt235.2 == bt239.2)) else (some false)) else (some false))))
set_option maxHeartbeats 8000000 in
set_option maxRecDepth 100000 in
theorem windbreaklaw12_WireEncodes.calls (k : Nat) (a0_0 : Int) (a0_1 : Int) (a0_2 : Int) (a0_3 : Int) (A0_4 : Option Addr) (c0_4 : Nat) (l0_4 : List Int) (A0_5 : Option Addr) (c0_5 : Nat) (l0_5 : List Int) (A0_6 : Option Addr) (c0_6 : Nat) (l0_6 : List (List Int)) (r : Bool) (w : World) (hr0_4 : Kd.C (Kd.int .i64) w A0_4 l0_4.length l0_4) (hc0_4 : l0_4.length ≤ c0_4) (hr0_5 : Kd.C (Kd.int .i64) w A0_5 l0_5.length l0_5) (hc0_5 : l0_5.length ≤ c0_5) (hr0_6 : Kd.C (Kd.slice 37 (Kd.int .u64)) w A0_6 l0_6.length l0_6) (hc0_6 : l0_6.length ≤ c0_6) (h : windbreaklaw12_WireEncodes.f k a0_0 a0_1 a0_2 a0_3 l0_4 l0_5 l0_6 = some r) :
  Calls Try.prog 3 #[.agg #[.int .i64 a0_0, .int .i64 a0_1, .int .i64 a0_2, .int .i64 a0_3, .slice A0_4 l0_4.length c0_4, .slice A0_5 l0_5.length c0_5, .slice A0_6 l0_6.length c0_6]] w fun e w' => e = .returned (.bool r) ∧ Below w.heap.size w w' := by
 have hu25 := Try.underlying25
 have HR0_4 := Aside0.mk hr0_4; have HC0_4 := Aside0.mk hc0_4; clear hr0_4 hc0_4; have HR0_5 := Aside0.mk hr0_5; have HC0_5 := Aside0.mk hc0_5; clear hr0_5 hc0_5; have HR0_6 := Aside0.mk hr0_6; have HC0_6 := Aside0.mk hc0_6; clear hr0_6 hc0_6
 have HB := Aside0.mk (Below.refl w.heap.size w)
 have H : ((windbreaklaw12_awake.f k).bind fun t234 => ((wire_Encode.f k a0_0 a0_1 a0_2 a0_3 l0_4 l0_5 l0_6).bind fun bt235 => ((windbreakref12_Encode.f k a0_0 a0_1 a0_2 a0_3 l0_4 l0_5 l0_6).bind fun bt239 => (if t234 = true then (if (strOfNums bt235.1).toList = (strOfNums bt239.1).toList then (some (bt235.2 == bt239.2)) else (some false)) else (some false))))) = some r := h
 clear h
 replace H := ub H; obtain ⟨t234, A2, H⟩ := H
 replace H := ub H; obtain ⟨⟨t235, t238⟩, A3, H⟩ := H
 (try dsimp only at H)
 replace H := ub H; obtain ⟨⟨t239, t242⟩, A4, H⟩ := H
 (try dsimp only at H)
 by_cases c5 : t234 = true
 ·
  subst c5
  have H1 : (if (strOfNums t235).toList = (strOfNums t239).toList then (some (t238 == t242)) else (some false)) = some r := by rw [if_pos rfl] at H; exact H
  clear H; have H := H1; clear H1
  by_cases c6 : (strOfNums t235).toList = (strOfNums t239).toList
  ·
   rw [if_pos c6] at H
   have c6b0 : ((strOfNums t235).toList == (strOfNums t239).toList) = true := beq_iff_eq.mpr c6
   have c6b1 : ((strOfNums t235).toList != (strOfNums t239).toList) = false := bne_eq_false_iff_eq.mpr c6
   clear c6
   obtain rfl := Option.some.inj H
   go_enter Try.func3, Try.ntmps3
   go_wp2_with (first | ((with_reducible refine gate_dst (N := 1) rfl ?_); refine box_event ?hg (N := 1) ?hd (cs := #[.int .i64 a0_0, .int .i64 a0_1, .int .i64 a0_2, .int .i64 a0_3, .slice A0_4 l0_4.length c0_4, .slice A0_5 l0_5.length c0_5, .slice A0_6 l0_6.length c0_6]) (t := 25) ?hr ?_; (case hd => rfl); (case hg => rfl); (case hr => first | (go_simp; done) | (go_simp; rfl)); intro gb233 hg w7 hbox hb; have BK233 := Aside0.mk (hbox); have GW233 := us hg; have GE233 := us hg; replace HB := uy hb; clear hb hbox hg) | ((with_reducible refine gate_callee (f := 6) rfl ?_); refine goesL_ (some 8) rfl rfl Try.func6 (by kernel_rfl) rfl #[] rfl uM ?_; (with_reducible refine (windbreaklaw12_awake.calls k  true _ A2.out).mono ?_); rintro e w8 ⟨rfl, hb⟩; refine ⟨_, rfl, ?_⟩; replace BK233 := ux BK233 hb; replace HB := uy hb; (try clear hb); have hcz9_0 : w8.cell? ⟨gb233, 0, none⟩ = some (.int .i64 a0_0) := (blk_cell BK233.out 0).trans rfl; have hcz9_1 : w8.cell? ⟨gb233, 1, none⟩ = some (.int .i64 a0_1) := (blk_cell BK233.out 1).trans rfl; have hcz9_2 : w8.cell? ⟨gb233, 2, none⟩ = some (.int .i64 a0_2) := (blk_cell BK233.out 2).trans rfl; have hcz9_3 : w8.cell? ⟨gb233, 3, none⟩ = some (.int .i64 a0_3) := (blk_cell BK233.out 3).trans rfl; have hcz9_4 : w8.cell? ⟨gb233, 4, none⟩ = some (.slice A0_4 l0_4.length c0_4) := (blk_cell BK233.out 4).trans rfl; have hcz9_5 : w8.cell? ⟨gb233, 5, none⟩ = some (.slice A0_5 l0_5.length c0_5) := (blk_cell BK233.out 5).trans rfl; have hcz9_6 : w8.cell? ⟨gb233, 6, none⟩ = some (.slice A0_6 l0_6.length c0_6) := (blk_cell BK233.out 6).trans rfl; have hfz9_0 := blk_frozen BK233.out 0; have hfz9_1 := blk_frozen BK233.out 1; have hfz9_2 := blk_frozen BK233.out 2; have hfz9_3 := blk_frozen BK233.out 3; have hfz9_4 := blk_frozen BK233.out 4; have hfz9_5 := blk_frozen BK233.out 5; have hfz9_6 := blk_frozen BK233.out 6) | ((with_reducible refine gate_callee (f := 7) rfl ?_); refine goesL_ (some 11) rfl rfl Try.func7 (by kernel_rfl) rfl #[.agg #[.int .i64 a0_0, .int .i64 a0_1, .int .i64 a0_2, .int .i64 a0_3, .slice A0_4 l0_4.length c0_4, .slice A0_5 l0_5.length c0_5, .slice A0_6 l0_6.length c0_6]] rfl uM ?_; (with_reducible refine (wire_Encode.calls k a0_0 a0_1 a0_2 a0_3 _ _ l0_4 _ _ l0_5 _ _ l0_6 t235 t238 _ ?side1 ?side2 ?side3 ?side4 ?side5 ?side6 A3.out).mono ?_); (case side1 => exact uC (Kd.C_below HR0_4.out HB.out)); (case side2 => exact HC0_4.out); (case side3 => exact uC (Kd.C_below HR0_5.out HB.out)); (case side4 => exact HC0_5.out); (case side5 => exact uC (Kd.C_below HR0_6.out HB.out)); (case side6 => exact HC0_6.out); rintro e w10 ⟨v236, rfl, ho0, hb⟩; refine ⟨_, rfl, ?_⟩; have HO237 := Aside0.mk (Kd.R_lower ho0 (below_size uB)); replace BK233 := ux BK233 hb; replace HB := uy hb; (try clear hb ho0); have hcz11_0 : w10.cell? ⟨gb233, 0, none⟩ = some (.int .i64 a0_0) := (blk_cell BK233.out 0).trans rfl; have hcz11_1 : w10.cell? ⟨gb233, 1, none⟩ = some (.int .i64 a0_1) := (blk_cell BK233.out 1).trans rfl; have hcz11_2 : w10.cell? ⟨gb233, 2, none⟩ = some (.int .i64 a0_2) := (blk_cell BK233.out 2).trans rfl; have hcz11_3 : w10.cell? ⟨gb233, 3, none⟩ = some (.int .i64 a0_3) := (blk_cell BK233.out 3).trans rfl; have hcz11_4 : w10.cell? ⟨gb233, 4, none⟩ = some (.slice A0_4 l0_4.length c0_4) := (blk_cell BK233.out 4).trans rfl; have hcz11_5 : w10.cell? ⟨gb233, 5, none⟩ = some (.slice A0_5 l0_5.length c0_5) := (blk_cell BK233.out 5).trans rfl; have hcz11_6 : w10.cell? ⟨gb233, 6, none⟩ = some (.slice A0_6 l0_6.length c0_6) := (blk_cell BK233.out 6).trans rfl; have hfz11_0 := blk_frozen BK233.out 0; have hfz11_1 := blk_frozen BK233.out 1; have hfz11_2 := blk_frozen BK233.out 2; have hfz11_3 := blk_frozen BK233.out 3; have hfz11_4 := blk_frozen BK233.out 4; have hfz11_5 := blk_frozen BK233.out 5; have hfz11_6 := blk_frozen BK233.out 6) | ((with_reducible refine gate_callee (f := 8) rfl ?_); refine goesL_ (some 16) rfl rfl Try.func8 (by kernel_rfl) rfl #[.agg #[.int .i64 a0_0, .int .i64 a0_1, .int .i64 a0_2, .int .i64 a0_3, .slice A0_4 l0_4.length c0_4, .slice A0_5 l0_5.length c0_5, .slice A0_6 l0_6.length c0_6]] rfl uM ?_; (with_reducible refine (windbreakref12_Encode.calls k a0_0 a0_1 a0_2 a0_3 _ _ l0_4 _ _ l0_5 _ _ l0_6 t239 t242 _ ?side1 ?side2 ?side3 ?side4 ?side5 ?side6 A4.out).mono ?_); (case side1 => exact uC (Kd.C_below HR0_4.out HB.out)); (case side2 => exact HC0_4.out); (case side3 => exact uC (Kd.C_below HR0_5.out HB.out)); (case side4 => exact HC0_5.out); (case side5 => exact uC (Kd.C_below HR0_6.out HB.out)); (case side6 => exact HC0_6.out); rintro e w12 ⟨v240, rfl, ho0, hb⟩; refine ⟨_, rfl, ?_⟩; have HO241 := Aside0.mk (Kd.R_lower (Kd.R_new' ho0 (Kd.R_lt (uR HO237.out))) (below_size uB)); replace HO237 := ueR HO237 ho0 hb; replace BK233 := ux BK233 hb; replace HB := uy hb; (try clear hb ho0); have hcv13 := own_string (P := Try.prog) Try.underlying27 Try.underlying5 Try.underlying9 (Kd.own_of_R HO237.out); have hcv14 := own_string (P := Try.prog) Try.underlying27 Try.underlying5 Try.underlying9 (Kd.own_of_R HO241.out)))
   go_ret
   exact ⟨uF, uB⟩
  rw [if_neg c6] at H
  have c6b0 : ((strOfNums t235).toList == (strOfNums t239).toList) = false := beq_eq_false_iff_ne.mpr c6
  have c6b1 : ((strOfNums t235).toList != (strOfNums t239).toList) = true := bne_iff_ne.mpr c6
  obtain rfl := Option.some.inj H
  go_enter Try.func3, Try.ntmps3
  go_wp2_with (first | ((with_reducible refine gate_dst (N := 1) rfl ?_); refine box_event ?hg (N := 1) ?hd (cs := #[.int .i64 a0_0, .int .i64 a0_1, .int .i64 a0_2, .int .i64 a0_3, .slice A0_4 l0_4.length c0_4, .slice A0_5 l0_5.length c0_5, .slice A0_6 l0_6.length c0_6]) (t := 25) ?hr ?_; (case hd => rfl); (case hg => rfl); (case hr => first | (go_simp; done) | (go_simp; rfl)); intro gb233 hg w15 hbox hb; have BK233 := Aside0.mk (hbox); have GW233 := us hg; have GE233 := us hg; replace HB := uy hb; clear hb hbox hg) | ((with_reducible refine gate_callee (f := 6) rfl ?_); refine goesL_ (some 8) rfl rfl Try.func6 (by kernel_rfl) rfl #[] rfl uM ?_; (with_reducible refine (windbreaklaw12_awake.calls k  true _ A2.out).mono ?_); rintro e w16 ⟨rfl, hb⟩; refine ⟨_, rfl, ?_⟩; replace BK233 := ux BK233 hb; replace HB := uy hb; (try clear hb); have hcz17_0 : w16.cell? ⟨gb233, 0, none⟩ = some (.int .i64 a0_0) := (blk_cell BK233.out 0).trans rfl; have hcz17_1 : w16.cell? ⟨gb233, 1, none⟩ = some (.int .i64 a0_1) := (blk_cell BK233.out 1).trans rfl; have hcz17_2 : w16.cell? ⟨gb233, 2, none⟩ = some (.int .i64 a0_2) := (blk_cell BK233.out 2).trans rfl; have hcz17_3 : w16.cell? ⟨gb233, 3, none⟩ = some (.int .i64 a0_3) := (blk_cell BK233.out 3).trans rfl; have hcz17_4 : w16.cell? ⟨gb233, 4, none⟩ = some (.slice A0_4 l0_4.length c0_4) := (blk_cell BK233.out 4).trans rfl; have hcz17_5 : w16.cell? ⟨gb233, 5, none⟩ = some (.slice A0_5 l0_5.length c0_5) := (blk_cell BK233.out 5).trans rfl; have hcz17_6 : w16.cell? ⟨gb233, 6, none⟩ = some (.slice A0_6 l0_6.length c0_6) := (blk_cell BK233.out 6).trans rfl; have hfz17_0 := blk_frozen BK233.out 0; have hfz17_1 := blk_frozen BK233.out 1; have hfz17_2 := blk_frozen BK233.out 2; have hfz17_3 := blk_frozen BK233.out 3; have hfz17_4 := blk_frozen BK233.out 4; have hfz17_5 := blk_frozen BK233.out 5; have hfz17_6 := blk_frozen BK233.out 6) | ((with_reducible refine gate_callee (f := 7) rfl ?_); refine goesL_ (some 11) rfl rfl Try.func7 (by kernel_rfl) rfl #[.agg #[.int .i64 a0_0, .int .i64 a0_1, .int .i64 a0_2, .int .i64 a0_3, .slice A0_4 l0_4.length c0_4, .slice A0_5 l0_5.length c0_5, .slice A0_6 l0_6.length c0_6]] rfl uM ?_; (with_reducible refine (wire_Encode.calls k a0_0 a0_1 a0_2 a0_3 _ _ l0_4 _ _ l0_5 _ _ l0_6 t235 t238 _ ?side1 ?side2 ?side3 ?side4 ?side5 ?side6 A3.out).mono ?_); (case side1 => exact uC (Kd.C_below HR0_4.out HB.out)); (case side2 => exact HC0_4.out); (case side3 => exact uC (Kd.C_below HR0_5.out HB.out)); (case side4 => exact HC0_5.out); (case side5 => exact uC (Kd.C_below HR0_6.out HB.out)); (case side6 => exact HC0_6.out); rintro e w18 ⟨v236, rfl, ho0, hb⟩; refine ⟨_, rfl, ?_⟩; have HO237 := Aside0.mk (Kd.R_lower ho0 (below_size uB)); replace BK233 := ux BK233 hb; replace HB := uy hb; (try clear hb ho0); have hcz19_0 : w18.cell? ⟨gb233, 0, none⟩ = some (.int .i64 a0_0) := (blk_cell BK233.out 0).trans rfl; have hcz19_1 : w18.cell? ⟨gb233, 1, none⟩ = some (.int .i64 a0_1) := (blk_cell BK233.out 1).trans rfl; have hcz19_2 : w18.cell? ⟨gb233, 2, none⟩ = some (.int .i64 a0_2) := (blk_cell BK233.out 2).trans rfl; have hcz19_3 : w18.cell? ⟨gb233, 3, none⟩ = some (.int .i64 a0_3) := (blk_cell BK233.out 3).trans rfl; have hcz19_4 : w18.cell? ⟨gb233, 4, none⟩ = some (.slice A0_4 l0_4.length c0_4) := (blk_cell BK233.out 4).trans rfl; have hcz19_5 : w18.cell? ⟨gb233, 5, none⟩ = some (.slice A0_5 l0_5.length c0_5) := (blk_cell BK233.out 5).trans rfl; have hcz19_6 : w18.cell? ⟨gb233, 6, none⟩ = some (.slice A0_6 l0_6.length c0_6) := (blk_cell BK233.out 6).trans rfl; have hfz19_0 := blk_frozen BK233.out 0; have hfz19_1 := blk_frozen BK233.out 1; have hfz19_2 := blk_frozen BK233.out 2; have hfz19_3 := blk_frozen BK233.out 3; have hfz19_4 := blk_frozen BK233.out 4; have hfz19_5 := blk_frozen BK233.out 5; have hfz19_6 := blk_frozen BK233.out 6) | ((with_reducible refine gate_callee (f := 8) rfl ?_); refine goesL_ (some 16) rfl rfl Try.func8 (by kernel_rfl) rfl #[.agg #[.int .i64 a0_0, .int .i64 a0_1, .int .i64 a0_2, .int .i64 a0_3, .slice A0_4 l0_4.length c0_4, .slice A0_5 l0_5.length c0_5, .slice A0_6 l0_6.length c0_6]] rfl uM ?_; (with_reducible refine (windbreakref12_Encode.calls k a0_0 a0_1 a0_2 a0_3 _ _ l0_4 _ _ l0_5 _ _ l0_6 t239 t242 _ ?side1 ?side2 ?side3 ?side4 ?side5 ?side6 A4.out).mono ?_); (case side1 => exact uC (Kd.C_below HR0_4.out HB.out)); (case side2 => exact HC0_4.out); (case side3 => exact uC (Kd.C_below HR0_5.out HB.out)); (case side4 => exact HC0_5.out); (case side5 => exact uC (Kd.C_below HR0_6.out HB.out)); (case side6 => exact HC0_6.out); rintro e w20 ⟨v240, rfl, ho0, hb⟩; refine ⟨_, rfl, ?_⟩; have HO241 := Aside0.mk (Kd.R_lower (Kd.R_new' ho0 (Kd.R_lt (uR HO237.out))) (below_size uB)); replace HO237 := ueR HO237 ho0 hb; replace BK233 := ux BK233 hb; replace HB := uy hb; (try clear hb ho0); have hcv21 := own_string (P := Try.prog) Try.underlying27 Try.underlying5 Try.underlying9 (Kd.own_of_R HO237.out); have hcv22 := own_string (P := Try.prog) Try.underlying27 Try.underlying5 Try.underlying9 (Kd.own_of_R HO241.out)))
  go_ret
  exact ⟨uF, uB⟩
 replace c5 := Bool.eq_false_iff.mpr c5
 subst c5
 have H1 : (some false) = some r := by rw [if_neg (show ¬ (false = true) by decide)] at H; exact H
 clear H; have H := H1; clear H1
 obtain rfl := Option.some.inj H
 go_enter Try.func3, Try.ntmps3
 go_wp2_with (first | ((with_reducible refine gate_dst (N := 1) rfl ?_); refine box_event ?hg (N := 1) ?hd (cs := #[.int .i64 a0_0, .int .i64 a0_1, .int .i64 a0_2, .int .i64 a0_3, .slice A0_4 l0_4.length c0_4, .slice A0_5 l0_5.length c0_5, .slice A0_6 l0_6.length c0_6]) (t := 25) ?hr ?_; (case hd => rfl); (case hg => rfl); (case hr => first | (go_simp; done) | (go_simp; rfl)); intro gb233 hg w23 hbox hb; have BK233 := Aside0.mk (hbox); have GW233 := us hg; have GE233 := us hg; replace HB := uy hb; clear hb hbox hg) | ((with_reducible refine gate_callee (f := 6) rfl ?_); refine goesL_ (some 8) rfl rfl Try.func6 (by kernel_rfl) rfl #[] rfl uM ?_; (with_reducible refine (windbreaklaw12_awake.calls k  false _ A2.out).mono ?_); rintro e w24 ⟨rfl, hb⟩; refine ⟨_, rfl, ?_⟩; replace BK233 := ux BK233 hb; replace HB := uy hb; (try clear hb); have hcz25_0 : w24.cell? ⟨gb233, 0, none⟩ = some (.int .i64 a0_0) := (blk_cell BK233.out 0).trans rfl; have hcz25_1 : w24.cell? ⟨gb233, 1, none⟩ = some (.int .i64 a0_1) := (blk_cell BK233.out 1).trans rfl; have hcz25_2 : w24.cell? ⟨gb233, 2, none⟩ = some (.int .i64 a0_2) := (blk_cell BK233.out 2).trans rfl; have hcz25_3 : w24.cell? ⟨gb233, 3, none⟩ = some (.int .i64 a0_3) := (blk_cell BK233.out 3).trans rfl; have hcz25_4 : w24.cell? ⟨gb233, 4, none⟩ = some (.slice A0_4 l0_4.length c0_4) := (blk_cell BK233.out 4).trans rfl; have hcz25_5 : w24.cell? ⟨gb233, 5, none⟩ = some (.slice A0_5 l0_5.length c0_5) := (blk_cell BK233.out 5).trans rfl; have hcz25_6 : w24.cell? ⟨gb233, 6, none⟩ = some (.slice A0_6 l0_6.length c0_6) := (blk_cell BK233.out 6).trans rfl; have hfz25_0 := blk_frozen BK233.out 0; have hfz25_1 := blk_frozen BK233.out 1; have hfz25_2 := blk_frozen BK233.out 2; have hfz25_3 := blk_frozen BK233.out 3; have hfz25_4 := blk_frozen BK233.out 4; have hfz25_5 := blk_frozen BK233.out 5; have hfz25_6 := blk_frozen BK233.out 6) | ((with_reducible refine gate_callee (f := 7) rfl ?_); refine goesL_ (some 11) rfl rfl Try.func7 (by kernel_rfl) rfl #[.agg #[.int .i64 a0_0, .int .i64 a0_1, .int .i64 a0_2, .int .i64 a0_3, .slice A0_4 l0_4.length c0_4, .slice A0_5 l0_5.length c0_5, .slice A0_6 l0_6.length c0_6]] rfl uM ?_; (with_reducible refine (wire_Encode.calls k a0_0 a0_1 a0_2 a0_3 _ _ l0_4 _ _ l0_5 _ _ l0_6 t235 t238 _ ?side1 ?side2 ?side3 ?side4 ?side5 ?side6 A3.out).mono ?_); (case side1 => exact uC (Kd.C_below HR0_4.out HB.out)); (case side2 => exact HC0_4.out); (case side3 => exact uC (Kd.C_below HR0_5.out HB.out)); (case side4 => exact HC0_5.out); (case side5 => exact uC (Kd.C_below HR0_6.out HB.out)); (case side6 => exact HC0_6.out); rintro e w26 ⟨v236, rfl, ho0, hb⟩; refine ⟨_, rfl, ?_⟩; have HO237 := Aside0.mk (Kd.R_lower ho0 (below_size uB)); replace BK233 := ux BK233 hb; replace HB := uy hb; (try clear hb ho0); have hcz27_0 : w26.cell? ⟨gb233, 0, none⟩ = some (.int .i64 a0_0) := (blk_cell BK233.out 0).trans rfl; have hcz27_1 : w26.cell? ⟨gb233, 1, none⟩ = some (.int .i64 a0_1) := (blk_cell BK233.out 1).trans rfl; have hcz27_2 : w26.cell? ⟨gb233, 2, none⟩ = some (.int .i64 a0_2) := (blk_cell BK233.out 2).trans rfl; have hcz27_3 : w26.cell? ⟨gb233, 3, none⟩ = some (.int .i64 a0_3) := (blk_cell BK233.out 3).trans rfl; have hcz27_4 : w26.cell? ⟨gb233, 4, none⟩ = some (.slice A0_4 l0_4.length c0_4) := (blk_cell BK233.out 4).trans rfl; have hcz27_5 : w26.cell? ⟨gb233, 5, none⟩ = some (.slice A0_5 l0_5.length c0_5) := (blk_cell BK233.out 5).trans rfl; have hcz27_6 : w26.cell? ⟨gb233, 6, none⟩ = some (.slice A0_6 l0_6.length c0_6) := (blk_cell BK233.out 6).trans rfl; have hfz27_0 := blk_frozen BK233.out 0; have hfz27_1 := blk_frozen BK233.out 1; have hfz27_2 := blk_frozen BK233.out 2; have hfz27_3 := blk_frozen BK233.out 3; have hfz27_4 := blk_frozen BK233.out 4; have hfz27_5 := blk_frozen BK233.out 5; have hfz27_6 := blk_frozen BK233.out 6) | ((with_reducible refine gate_callee (f := 8) rfl ?_); refine goesL_ (some 16) rfl rfl Try.func8 (by kernel_rfl) rfl #[.agg #[.int .i64 a0_0, .int .i64 a0_1, .int .i64 a0_2, .int .i64 a0_3, .slice A0_4 l0_4.length c0_4, .slice A0_5 l0_5.length c0_5, .slice A0_6 l0_6.length c0_6]] rfl uM ?_; (with_reducible refine (windbreakref12_Encode.calls k a0_0 a0_1 a0_2 a0_3 _ _ l0_4 _ _ l0_5 _ _ l0_6 t239 t242 _ ?side1 ?side2 ?side3 ?side4 ?side5 ?side6 A4.out).mono ?_); (case side1 => exact uC (Kd.C_below HR0_4.out HB.out)); (case side2 => exact HC0_4.out); (case side3 => exact uC (Kd.C_below HR0_5.out HB.out)); (case side4 => exact HC0_5.out); (case side5 => exact uC (Kd.C_below HR0_6.out HB.out)); (case side6 => exact HC0_6.out); rintro e w28 ⟨v240, rfl, ho0, hb⟩; refine ⟨_, rfl, ?_⟩; have HO241 := Aside0.mk (Kd.R_lower (Kd.R_new' ho0 (Kd.R_lt (uR HO237.out))) (below_size uB)); replace HO237 := ueR HO237 ho0 hb; replace BK233 := ux BK233 hb; replace HB := uy hb; (try clear hb ho0)))
 go_ret
 exact ⟨uF, uB⟩
end Go.Proofs.Ytanmfddlncdncab.F
end
section
namespace Go.Proofs.Ytanmfddlncdncab.F
open Go.RowKit Go.Proofs.YtanmfddlncdncabW.PrintWords Go.Proofs.YtanmfddlncdncabW.PrintLast Go.Proofs.YtanmfddlncdncabW.PrintMore
set_option linter.unusedVariables false
set_option linter.unusedSimpArgs false
theorem msg_parts {w : World} {cs : Array Value} {x : Int × Int × Int × Int × List Int × List Int × List (List Int)} (h : (Kd.pair (Kd.int .i64) (Kd.pair (Kd.int .i64) (Kd.pair (Kd.int .i64) (Kd.pair (Kd.int .i64) (Kd.pair (Kd.slice 3 (Kd.int .i64)) (Kd.pair (Kd.slice 3 (Kd.int .i64)) (Kd.slice 41 (Kd.slice 37 (Kd.int .u64))))))))).K w x cs.toList) : ∃ A4 c4 A5 c5 A6 c6, cs = #[.int .i64 x.1, .int .i64 x.2.1, .int .i64 x.2.2.1, .int .i64 x.2.2.2.1, .slice A4 x.2.2.2.2.1.length c4, .slice A5 x.2.2.2.2.2.1.length c5, .slice A6 x.2.2.2.2.2.2.length c6] ∧ x.2.2.2.2.1.length ≤ c4 ∧ Kd.C (Kd.int .i64) w A4 x.2.2.2.2.1.length x.2.2.2.2.1 ∧ x.2.2.2.2.2.1.length ≤ c5 ∧ Kd.C (Kd.int .i64) w A5 x.2.2.2.2.2.1.length x.2.2.2.2.2.1 ∧ x.2.2.2.2.2.2.length ≤ c6 ∧ Kd.C (Kd.slice 37 (Kd.int .u64)) w A6 x.2.2.2.2.2.2.length x.2.2.2.2.2.2 := by
  obtain ⟨_, _, e, rfl, _, _, rfl, rfl, _, _, rfl, rfl, _, _, rfl, rfl, _, _, rfl, ⟨A4, c4, rfl, l4, r4⟩, _, _, rfl, ⟨A5, c5, rfl, l5, r5⟩, ⟨A6, c6, rfl, l6, r6⟩⟩ := h
  refine ⟨A4, c4, A5, c5, A6, c6, ?_, l4, r4, l5, r5, l6, r6⟩
  rw [← Array.toList_inj]
  exact e
def windbreaklaw12_WireEncodes.Pure : Prop := ∀ x0 : Int × Int × Int × Int × List Int × List Int × List (List Int), (∀ a ∈ x0.2.2.2.2.2.2, a.length ≤ maxLen ∧ ∀ y ∈ a, (Lit.int .u64 y).wf = true) → ∃ k, windbreaklaw12_WireEncodes.f k x0.1 x0.2.1 x0.2.2.1 x0.2.2.2.1 x0.2.2.2.2.1 x0.2.2.2.2.2.1 x0.2.2.2.2.2.2 = some true
theorem windbreaklaw12_WireEncodes.row (hp : windbreaklaw12_WireEncodes.Pure) (w : World) (cs0 : Array Value) (x0 : Int × Int × Int × Int × List Int × List Int × List (List Int)) (h0 : (Kd.pair (Kd.int .i64) (Kd.pair (Kd.int .i64) (Kd.pair (Kd.int .i64) (Kd.pair (Kd.int .i64) (Kd.pair (Kd.slice 3 (Kd.int .i64)) (Kd.pair (Kd.slice 3 (Kd.int .i64)) (Kd.slice 41 (Kd.slice 37 (Kd.int .u64))))))))).K w x0 cs0.toList) (o0 : (Lit.int .i64 x0.1).wf = true ∧ (Lit.int .i64 x0.2.1).wf = true ∧ (Lit.int .i64 x0.2.2.1).wf = true ∧ (Lit.int .i64 x0.2.2.2.1).wf = true ∧ (x0.2.2.2.2.1.length ≤ maxLen ∧ ∀ x ∈ x0.2.2.2.2.1, (Lit.int .i64 x).wf = true) ∧ (x0.2.2.2.2.2.1.length ≤ maxLen ∧ ∀ x ∈ x0.2.2.2.2.2.1, (Lit.int .i64 x).wf = true) ∧ (x0.2.2.2.2.2.2.length ≤ maxLen ∧ ∀ x ∈ x0.2.2.2.2.2.2, (x.length ≤ maxLen ∧ ∀ y ∈ x, (Lit.int .u64 y).wf = true))) :
    Calls Try.prog 3 #[.agg cs0] w fun e w' => e = .returned (.bool true) ∧ Below w.heap.size w w' := by
  obtain ⟨k, h⟩ := hp x0 o0.2.2.2.2.2.2.2
  obtain ⟨A04, c04, A05, c05, A06, c06, rfl, l04, r04, l05, r05, l06, r06⟩ := msg_parts h0
  exact windbreaklaw12_WireEncodes.calls k _ _ _ _ A04 c04 _ A05 c05 _ A06 c06 _ true w r04 l04 r05 l05 r06 l06 h
end Go.Proofs.Ytanmfddlncdncab.F
end
section
namespace Go.Proofs.Ytanmfddlncdncab.Z
open Go.RowKit Go.Proofs.YtanmfddlncdncabW.PrintWords
set_option linter.unusedSimpArgs false
set_option linter.unusedVariables false
def Evt {α : Type} (g : Nat → Option α) (r : α) : Prop := ∃ n, ∀ k, n ≤ k → g k = some r
theorem Evt.pure {α : Type} (r : α) : Evt (fun _ => some r) r := ⟨0, fun _ _ => rfl⟩
theorem Evt.bind {α β : Type} {g : Nat → Option α} {h : α → Nat → Option β} {a : α} {b : β} (h1 : Evt g a) (h2 : Evt (h a) b) : Evt (fun k => (g k).bind fun x => h x k) b := by
  obtain ⟨n, hn⟩ := h1
  obtain ⟨m, hm⟩ := h2
  exact ⟨n + m, fun k hk => by simp only [hn k (by omega), Option.bind_some]; exact hm k (by omega)⟩
theorem Evt.succ {α : Type} {g : Nat → Option α} {r : α} (h : Evt (fun k => g (k + 1)) r) : Evt g r := by
  obtain ⟨n, hn⟩ := h
  refine ⟨n + 1, fun k hk => ?_⟩
  obtain ⟨m, rfl⟩ : ∃ m, k = m + 1 := ⟨k - 1, by omega⟩
  exact hn m (by omega)
theorem Evt.get {α : Type} {g : Nat → Option α} {r : α} (h : Evt g r) : ∃ k, g k = some r := by
  obtain ⟨n, hn⟩ := h
  exact ⟨n, hn n (Nat.le_refl _)⟩
theorem Evt.congr {α : Type} {g g' : Nat → Option α} {r r' : α} (h : Evt g r) (hg : ∀ k, g' k = g k) (hr : r = r') : Evt g' r' := by
  subst hr
  obtain ⟨n, hn⟩ := h
  exact ⟨n, fun k hk => (hg k).trans (hn k hk)⟩
theorem Evt.ite_pos {α : Type} {c : Prop} [Decidable c] {g h : Nat → Option α} {r : α} (hc : c) (hg : Evt g r) : Evt (fun k => if c then g k else h k) r := by
  obtain ⟨n, hn⟩ := hg
  exact ⟨n, fun k hk => (if_pos hc).trans (hn k hk)⟩
theorem Evt.ite_neg {α : Type} {c : Prop} [Decidable c] {g h : Nat → Option α} {r : α} (hc : ¬ c) (hg : Evt h r) : Evt (fun k => if c then g k else h k) r := by
  obtain ⟨n, hn⟩ := hg
  exact ⟨n, fun k hk => (if_neg hc).trans (hn k hk)⟩
theorem w64 {x : Int} (h0 : -9223372036854775808 ≤ x) (h1 : x < 9223372036854775808) : wrap64 x = x := by unfold wrap64; omega
theorem wu64 (x : Int) : IntKind.u64.wrap x = x % 18446744073709551616 := by simp [IntKind.wrap, IntKind.bits, IntKind.signed]
theorem wu64_of {x : Int} (h0 : 0 ≤ x) (h1 : x < 18446744073709551616) : IntKind.u64.wrap x = x := by rw [wu64]; omega
theorem wf_u64 {x : Int} (h : (Lit.int .u64 x).wf = true) : 0 ≤ x ∧ x < 18446744073709551616 := by
  simp [Lit.wf, IntKind.min, IntKind.max, IntKind.bits, IntKind.signed] at h
  omega
theorem rd_getD (l : List Int) (i : Int) : rd l i = l.getD i.toNat 0 := rfl
theorem rd_nat (l : List Int) (i : Nat) : rd l (i : Int) = l.getD i 0 := rfl
def val (B : Int) : List Int → Int
  | [] => 0
  | d :: l => d + B * val B l
def Dig (B : Int) (l : List Int) : Prop := ∀ x, x ∈ l → 0 ≤ x ∧ x < B
def Can (l : List Int) : Prop := ∀ h : l ≠ [], l.getLast h ≠ 0
def strip : List Int → List Int
  | [] => []
  | d :: l => if strip l = [] then (if d = 0 then [] else [d]) else d :: strip l
theorem Dig.nil {B : Int} : Dig B [] := fun _ h => by simp at h
theorem Dig.cons {B d : Int} {l : List Int} : Dig B (d :: l) ↔ (0 ≤ d ∧ d < B) ∧ Dig B l := by
  unfold Dig
  simp
theorem Dig.append {B : Int} {l m : List Int} : Dig B (l ++ m) ↔ Dig B l ∧ Dig B m := by
  unfold Dig
  constructor
  · intro h
    exact ⟨fun x hx => h x (by simp [hx]), fun x hx => h x (by simp [hx])⟩
  · intro h x hx
    rcases List.mem_append.1 hx with hx | hx
    · exact h.1 x hx
    · exact h.2 x hx
theorem Dig.take {B : Int} {l : List Int} (h : Dig B l) (n : Nat) : Dig B (l.take n) := fun x hx => h x (List.mem_of_mem_take hx)
theorem Dig.drop {B : Int} {l : List Int} (h : Dig B l) (n : Nat) : Dig B (l.drop n) := fun x hx => h x (List.mem_of_mem_drop hx)
theorem Dig.getD {B : Int} {l : List Int} (h : Dig B l) (hB : 0 < B) (i : Nat) : 0 ≤ l.getD i 0 ∧ l.getD i 0 < B := by
  rw [List.getD_eq_getElem?_getD]
  cases he : l[i]? with
  | none => simp; omega
  | some x => simpa using h x (List.mem_of_getElem? he)
theorem val_append (B : Int) (l m : List Int) : val B (l ++ m) = val B l + B ^ l.length * val B m := by
  induction l with
  | nil => simp [val]
  | cons d l ih => simp only [List.cons_append, val, ih, List.length_cons, Int.pow_succ]; grind
theorem val_nonneg {B : Int} (hB : 0 < B) {l : List Int} (h : Dig B l) : 0 ≤ val B l := by
  induction l with
  | nil => simp [val]
  | cons d l ih =>
    have h' := Dig.cons.1 h
    have h1 := ih h'.2
    have : 0 ≤ B * val B l := Int.mul_nonneg (by omega) h1
    simp only [val]
    omega
theorem val_lt {B : Int} (hB : 0 < B) {l : List Int} (h : Dig B l) : val B l < B ^ l.length := by
  induction l with
  | nil => simp [val]
  | cons d l ih =>
    have h' := Dig.cons.1 h
    have h1 := ih h'.2
    have h2 : B * val B l ≤ B * (B ^ l.length - 1) := Int.mul_le_mul_of_nonneg_left (by omega) (by omega)
    have h3 : B * (B ^ l.length - 1) = B * B ^ l.length - B := by grind
    simp only [val, List.length_cons, Int.pow_succ]
    have h4 : B ^ l.length * B = B * B ^ l.length := Int.mul_comm _ _
    omega
theorem Can.nil : Can [] := fun h => absurd rfl h
theorem Can.tail {d : Int} {l : List Int} (h : Can (d :: l)) : Can l := by
  intro hl
  have := h (by simp)
  rwa [List.getLast_cons hl] at this
theorem Can.one {d : Int} (h : d ≠ 0) : Can [d] := fun _ => by simpa using h
theorem Can.cons {d : Int} {l : List Int} (h : Can l) (hl : l ≠ []) : Can (d :: l) := by
  intro _
  rw [List.getLast_cons hl]
  exact h hl
theorem val_pos {B : Int} (hB : 0 < B) {l : List Int} (h : Dig B l) (hc : Can l) (hl : l ≠ []) : B ^ (l.length - 1) ≤ val B l := by
  induction l with
  | nil => exact absurd rfl hl
  | cons d l ih =>
    have h' := Dig.cons.1 h
    by_cases e : l = []
    · subst e
      have := hc (by simp)
      simp [val] at this ⊢
      omega
    · have h1 := ih h'.2 hc.tail e
      have h2 : l.length - 1 + 1 = l.length := by have := List.length_pos_iff.2 e; omega
      simp only [val, List.length_cons, Nat.add_sub_cancel]
      rw [← h2, Int.pow_succ, Int.mul_comm]
      have : B * B ^ (l.length - 1) ≤ B * val B l := Int.mul_le_mul_of_nonneg_left h1 (by omega)
      omega
theorem val_zero {B : Int} (hB : 0 < B) {l : List Int} (h : Dig B l) (hc : Can l) (h0 : val B l = 0) : l = [] := by
  by_cases e : l = []
  · exact e
  · have := val_pos hB h hc e
    have h2 : 0 < B ^ (l.length - 1) := Int.pow_pos hB
    omega
theorem val_inj {B : Int} (hB : 0 < B) {l m : List Int} (hl : Dig B l) (hm : Dig B m) (cl : Can l) (cm : Can m) (h : val B l = val B m) : l = m := by
  induction l generalizing m with
  | nil => exact (val_zero hB hm cm h.symm).symm
  | cons d l ih =>
    cases m with
    | nil => exact val_zero hB hl cl h
    | cons e m =>
      have h1 := Dig.cons.1 hl
      have h2 := Dig.cons.1 hm
      simp only [val] at h
      have h3 : d = e := by
        have a1 : (d + B * val B l) % B = d := by rw [Int.add_mul_emod_self_left]; exact Int.emod_eq_of_lt h1.1.1 h1.1.2
        have a2 : (e + B * val B m) % B = e := by rw [Int.add_mul_emod_self_left]; exact Int.emod_eq_of_lt h2.1.1 h2.1.2
        rw [← a1, ← a2, h]
      subst h3
      have h4 : val B l = val B m := by
        have : B * val B l = B * val B m := by omega
        exact Int.eq_of_mul_eq_mul_left (by omega) this
      rw [ih h1.2 h2.2 cl.tail cm.tail h4]
theorem strip_val (B : Int) (l : List Int) : val B (strip l) = val B l := by
  induction l with
  | nil => rfl
  | cons d l ih =>
    simp only [strip]
    split
    · rename_i h
      rw [h] at ih
      simp only [val] at ih
      split
      · rename_i h0; simp [val, ← ih, h0]
      · simp [val, ← ih]
    · simp [val, ih]
theorem strip_can (l : List Int) : Can (strip l) := by
  induction l with
  | nil => exact Can.nil
  | cons d l ih =>
    simp only [strip]
    split
    · split
      · exact Can.nil
      · rename_i h; exact Can.one h
    · rename_i h; exact ih.cons h
theorem strip_dig {B : Int} {l : List Int} (h : Dig B l) : Dig B (strip l) := by
  induction l with
  | nil => exact Dig.nil
  | cons d l ih =>
    have h' := Dig.cons.1 h
    simp only [strip]
    split
    · split
      · exact Dig.nil
      · exact Dig.cons.2 ⟨h'.1, Dig.nil⟩
    · exact Dig.cons.2 ⟨h'.1, ih h'.2⟩
theorem strip_of_can {l : List Int} (h : Can l) : strip l = l := by
  induction l with
  | nil => rfl
  | cons d l ih =>
    simp only [strip]
    rw [ih h.tail]
    split
    · rename_i e
      subst e
      have := h (by simp)
      simp at this
      simp [this]
    · rfl
theorem strip_snoc_zero (l : List Int) : strip (l ++ [0]) = strip l := by
  induction l with
  | nil => simp [strip]
  | cons d l ih => simp only [List.cons_append, strip, ih]
theorem strip_snoc {l : List Int} {d : Int} (h : d ≠ 0) : strip (l ++ [d]) = l ++ [d] := by
  apply strip_of_can
  intro hl
  simpa using h
def rightB (l : List Int) : Bool := decide (l.length ≤ 64) && ((l.length == 0) || (l.getD (l.length - 1) 0 != 0))
theorem can_iff (l : List Int) : Can l ↔ ((l.length == 0) || (l.getD (l.length - 1) 0 != 0)) = true := by
  cases l with
  | nil => simp [Can]
  | cons d l =>
    have h : (d :: l).getLast (by simp) = (d :: l).getD ((d :: l).length - 1) 0 := by
      rw [List.getLast_eq_getElem]
      simp
    unfold Can
    simp only [List.length_cons, Nat.add_one_ne_zero, beq_iff_eq, Bool.or_eq_true, bne_iff_ne, false_or]
    constructor
    · intro hc
      have := hc (by simp)
      rw [h] at this
      exact this
    · intro hc _
      rw [h]
      exact hc
theorem rightB_iff (l : List Int) : rightB l = true ↔ l.length ≤ 64 ∧ Can l := by
  unfold rightB
  rw [Bool.and_eq_true, decide_eq_true_iff, ← can_iff]
def encN (n : Nat) : List Int := if n < 128 then [(n : Int)] else ((n % 128 + 128 : Nat) : Int) :: encN (n / 128)
termination_by n
decreasing_by omega
theorem encN_small {n : Nat} (h : n < 128) : encN n = [(n : Int)] := by rw [encN, if_pos h]
theorem encN_big {n : Nat} (h : ¬ n < 128) : encN n = ((n % 128 + 128 : Nat) : Int) :: encN (n / 128) := by rw [encN, if_neg h]
theorem encN_pos (n : Nat) : 0 < (encN n).length := by
  by_cases h : n < 128
  · rw [encN_small h]; simp
  · rw [encN_big h]; simp
theorem encN_len (n : Nat) (d : Nat) (h : n < 128 ^ (d + 1)) : (encN n).length ≤ d + 1 := by
  induction d generalizing n with
  | zero => rw [encN_small (by simpa using h)]; simp
  | succ d ih =>
    by_cases h1 : n < 128
    · rw [encN_small h1]; simp
    · rw [encN_big h1]
      have := ih (n / 128) (by rw [Nat.div_lt_iff_lt_mul (by omega)]; rw [Nat.pow_succ] at h; exact h)
      simp
      omega
def encL (l : List Int) : List Int := l.flatMap fun x => encN x.toNat
theorem encL_nil : encL [] = [] := rfl
theorem encL_cons (x : Int) (l : List Int) : encL (x :: l) = encN x.toNat ++ encL l := by simp [encL]
def toD (B : Nat) (v : Nat) : List Int := if h : 2 ≤ B ∧ 0 < v then ((v % B : Nat) : Int) :: toD B (v / B) else []
termination_by v
decreasing_by exact Nat.div_lt_self h.2 (by omega)
theorem toD_zero (B : Nat) : toD B 0 = [] := by rw [toD]; simp
theorem toD_pos {B v : Nat} (hB : 2 ≤ B) (hv : 0 < v) : toD B v = ((v % B : Nat) : Int) :: toD B (v / B) := by rw [toD]; simp [hB, hv]
theorem toD_dig {B : Nat} (hB : 2 ≤ B) (v : Nat) : Dig (B : Int) (toD B v) := by
  induction v using Nat.strongRecOn with
  | _ v ih =>
    by_cases hv : v = 0
    · subst hv; rw [toD_zero]; exact Dig.nil
    · rw [toD_pos hB (by omega)]
      have := Nat.mod_lt v (show B > 0 by omega)
      exact Dig.cons.2 ⟨by omega, ih _ (Nat.div_lt_self (by omega) (by omega))⟩
theorem toD_eq_nil {B v : Nat} (hB : 2 ≤ B) : toD B v = [] ↔ v = 0 := by
  constructor
  · intro h
    by_cases hv : v = 0
    · exact hv
    · rw [toD_pos hB (by omega)] at h; cases h
  · rintro rfl; exact toD_zero B
theorem toD_can {B : Nat} (hB : 2 ≤ B) (v : Nat) : Can (toD B v) := by
  induction v using Nat.strongRecOn with
  | _ v ih =>
    by_cases hv : v = 0
    · subst hv; rw [toD_zero]; exact Can.nil
    · rw [toD_pos hB (by omega)]
      by_cases hq : v / B = 0
      · rw [hq, toD_zero]
        have hlt : v < B := (Nat.div_eq_zero_iff_lt (by omega)).1 hq
        rw [Nat.mod_eq_of_lt hlt]
        exact Can.one (by omega)
      · exact (ih _ (Nat.div_lt_self (by omega) (by omega))).cons (fun e => hq ((toD_eq_nil hB).1 e))
theorem val_toD {B : Nat} (hB : 2 ≤ B) (v : Nat) : val (B : Int) (toD B v) = (v : Int) := by
  induction v using Nat.strongRecOn with
  | _ v ih =>
    by_cases hv : v = 0
    · subst hv; rw [toD_zero]; rfl
    · rw [toD_pos hB (by omega)]
      simp only [val]
      rw [ih _ (Nat.div_lt_self (by omega) (by omega))]
      have h2 := Nat.mod_add_div v B
      have h3 : ((v % B + B * (v / B) : Nat) : Int) = (v : Int) := by rw [h2]
      simpa using h3
theorem strip_toD {B : Nat} (hB : 2 ≤ B) {l : List Int} (h : Dig (B : Int) l) : strip l = toD B (val (B : Int) l).toNat := by
  have h0 : (0 : Int) < (B : Int) := by omega
  refine val_inj h0 (strip_dig h) (toD_dig hB _) (strip_can l) (toD_can hB _) ?_
  rw [strip_val, val_toD hB]
  have := val_nonneg h0 h
  omega
theorem can_toD {B : Nat} (hB : 2 ≤ B) {l : List Int} (h : Dig (B : Int) l) (hc : Can l) : l = toD B (val (B : Int) l).toNat := by
  rw [← strip_toD hB h, strip_of_can hc]
theorem pow_cast (B n : Nat) : ((B : Int)) ^ n = ((B ^ n : Nat) : Int) := by simp
theorem toD_len_le {B : Nat} (hB : 2 ≤ B) {v n : Nat} (h : v < B ^ n) : (toD B v).length ≤ n := by
  by_cases hv : v = 0
  · subst hv; rw [toD_zero]; simp
  · have h1 := val_pos (show (0 : Int) < (B : Int) by omega) (toD_dig hB v) (toD_can hB v) (fun e => hv ((toD_eq_nil hB).1 e))
    rw [val_toD hB, pow_cast] at h1
    have h2 : B ^ ((toD B v).length - 1) ≤ v := by omega
    have h3 : B ^ ((toD B v).length - 1) < B ^ n := by omega
    have h4 := (Nat.pow_lt_pow_iff_right (show 1 < B by omega)).1 h3
    omega
theorem toD_lt_pow {B : Nat} (hB : 2 ≤ B) (v : Nat) : v < B ^ (toD B v).length := by
  have h1 := val_lt (show (0 : Int) < (B : Int) by omega) (toD_dig hB v)
  rw [val_toD hB, pow_cast] at h1
  omega
theorem toD_len_iff {B : Nat} (hB : 2 ≤ B) (v n : Nat) : (toD B v).length ≤ n ↔ v < B ^ n :=
  ⟨fun h => Nat.lt_of_lt_of_le (toD_lt_pow hB v) (Nat.pow_le_pow_right (by omega) h), toD_len_le hB⟩
def b64 : Nat := 18446744073709551616
def b16 : Nat := 65536
theorem b64_two : 2 ≤ b64 := by decide
theorem b16_two : 2 ≤ b16 := by decide
theorem b64_pow : b64 = b16 ^ 4 := by decide
def num (l : List Int) : Nat := (val (b64 : Int) l).toNat
def num16 (l : List Int) : Nat := (val (b16 : Int) l).toNat
abbrev limbs (v : Nat) : List Int := toD b64 v
abbrev digs (v : Nat) : List Int := toD b16 v
theorem b64_pos : (0 : Int) < (b64 : Int) := by decide
theorem num_val {l : List Int} (h : Dig (b64 : Int) l) : (num l : Int) = val (b64 : Int) l := by
  have := val_nonneg b64_pos h
  unfold num; omega
theorem limbs_num {l : List Int} (h : Dig (b64 : Int) l) (hc : Can l) : limbs (num l) = l := (can_toD b64_two h hc).symm
theorem strip_digs {l : List Int} (h : Dig (b16 : Int) l) : strip l = digs (num16 l) := strip_toD b16_two h
theorem dig_of_wf {l : List Int} (h : ∀ x ∈ l, (Lit.int .u64 x).wf = true) : Dig (b64 : Int) l := fun x hx => wf_u64 (h x hx)
theorem num_lt {l : List Int} (h : Dig (b64 : Int) l) : num l < b64 ^ l.length := by
  have h1 := val_lt b64_pos h
  rw [← num_val h, pow_cast] at h1
  omega
def thousand : Nat := 1000
def lim : Nat := b64 ^ thousand
theorem lim_pow {n : Nat} (h : n ≤ 1000) : b64 ^ n ≤ lim := Nat.pow_le_pow_right (by decide) (show n ≤ thousand from h)
theorem num_lt_lim {l : List Int} (h : Dig (b64 : Int) l) (hl : l.length ≤ 1000) : num l < lim := Nat.lt_of_lt_of_le (num_lt h) (lim_pow hl)
theorem digs_len {v : Nat} (hv : v < lim) : (digs v).length ≤ 4000 := by
  have h : lim = b16 ^ (4 * thousand) := by
    unfold lim
    rw [b64_pow, ← Nat.pow_mul]
  rw [h] at hv
  have h2 := toD_len_le b16_two hv
  exact Nat.le_trans h2 (by decide)
theorem b64_pow2 (m : Nat) : b64 ^ m = 2 ^ (64 * m) := by
  have h : b64 = 2 ^ 64 := by decide
  rw [h, ← Nat.pow_mul]
theorem val_base (l : List Int) (hl : Dig (b64 : Int) l) : ∃ m, Dig (b16 : Int) m ∧ m.length = 4 * l.length ∧ val (b16 : Int) m = val (b64 : Int) l ∧ m = l.flatMap (fun x => [x % 65536, x / 65536 % 65536, x / 65536 / 65536 % 65536, x / 65536 / 65536 / 65536 % 65536]) := by
  induction l with
  | nil => exact ⟨[], Dig.nil, rfl, rfl, rfl⟩
  | cons d l ih =>
    have h1 := Dig.cons.1 hl
    obtain ⟨m, hm, hlen, hv, he⟩ := ih h1.2
    refine ⟨[d % 65536, d / 65536 % 65536, d / 65536 / 65536 % 65536, d / 65536 / 65536 / 65536 % 65536] ++ m, ?_, ?_, ?_, ?_⟩
    · refine Dig.append.2 ⟨?_, hm⟩
      intro x hx
      simp only [List.mem_cons, List.not_mem_nil, or_false] at hx
      simp only [b16]
      omega
    · simp only [List.length_append, List.length_cons, List.length_nil, hlen]; omega
    · rw [val_append, hv]
      have h2 := h1.1
      simp only [b64] at h2 ⊢
      simp only [val, b16, List.length_cons, List.length_nil]
      omega
    · simp only [List.flatMap_cons, ← he]
def bl (n : Nat) : Nat := if n = 0 then 0 else n.log2 + 1
theorem bl_lt (n : Nat) : n < 2 ^ bl n := by
  unfold bl
  by_cases h : n = 0
  · subst h; decide
  · rw [if_neg h]; exact Nat.lt_log2_self
theorem bl_ge {n : Nat} (h : n ≠ 0) : 2 ^ (bl n - 1) ≤ n := by
  unfold bl
  rw [if_neg h, Nat.add_sub_cancel]
  exact Nat.log2_self_le h
theorem bl_pos {n : Nat} (h : n ≠ 0) : 0 < bl n := by unfold bl; rw [if_neg h]; omega
theorem bl_unique {n m : Nat} (h1 : n < 2 ^ m) (h2 : m = 0 ∨ 2 ^ (m - 1) ≤ n) : bl n = m := by
  by_cases h : n = 0
  · subst h
    rcases h2 with h2 | h2
    · rw [h2]; rfl
    · have := Nat.pow_pos (a := 2) (n := m - 1) (by decide)
      omega
  · have a1 := bl_lt n
    have a2 := bl_ge h
    have a3 := bl_pos h
    have hm : 0 < m := by
      by_cases e : m = 0
      · subst e; simp at h1; omega
      · omega
    have b1 : bl n - 1 < m := (Nat.pow_lt_pow_iff_right (a := 2) (by decide)).1 (by omega)
    have b2 : m - 1 < bl n := by
      rcases h2 with h2 | h2
      · omega
      · exact (Nat.pow_lt_pow_iff_right (a := 2) (by decide)).1 (by omega)
    omega
theorem bl_shift (n s : Nat) (h : n / 2 ^ s ≠ 0) : bl n = s + bl (n / 2 ^ s) := by
  have a1 := bl_lt (n / 2 ^ s)
  have a2 := bl_ge h
  have a3 := bl_pos h
  have hp : 0 < 2 ^ s := Nat.pow_pos (by decide)
  refine bl_unique ?_ (Or.inr ?_)
  · rw [Nat.pow_add]
    have := Nat.lt_mul_of_div_lt a1 hp
    rw [Nat.mul_comm]
    exact this
  · rw [show s + bl (n / 2 ^ s) - 1 = s + (bl (n / 2 ^ s) - 1) from by omega, Nat.pow_add]
    have := Nat.mul_le_mul_left (2 ^ s) a2
    exact Nat.le_trans this (Nat.mul_div_le n (2 ^ s))
theorem bl_le {x m : Nat} (h : x < 2 ^ m) : bl x ≤ m := by
  by_cases hx : x = 0
  · subst hx; exact Nat.zero_le _
  · have a2 := bl_ge hx
    have a3 := bl_pos hx
    have : bl x - 1 < m := (Nat.pow_lt_pow_iff_right (a := 2) (by decide)).1 (by omega)
    omega
theorem bl_le8 {x : Nat} (h : x < 256) : bl x ≤ 8 := bl_le h
def bitsV (a : List Int) : Int := if rightB a = true ∧ a.length ≠ 0 then 64 * ((a.length : Int) - 1) + ((bl (a.getD (a.length - 1) 0).toNat : Nat) : Int) else 0
end Go.Proofs.Ytanmfddlncdncab.Z
end
section
namespace Go.Proofs.Ytanmfddlncdncab.Z
open Go.RowKit Go.Proofs.Ytanmfddlncdncab.F Go.Proofs.YtanmfddlncdncabW.PrintWords
set_option linter.unusedSimpArgs false
set_option linter.unusedVariables false
theorem nat_Right_eq {l : List Int} (h : l.length ≤ maxLen) : nat_Right.f l = some (rightB l) := by
  unfold maxLen at h
  unfold nat_Right.f rightB
  by_cases h1 : l.length ≤ 64
  · rw [if_pos (by omega)]
    by_cases h2 : l.length = 0
    · rw [if_pos (by omega)]
      simp [h1, h2]
    · rw [if_neg (by omega), w64 (by omega) (by omega), if_pos (by omega), if_pos (by omega), rd_getD]
      rw [show ((l.length : Int) - 1).toNat = l.length - 1 from by omega]
      have h3 : (l.length == 0) = false := by simpa using h2
      rw [h3]
      simp [h1]
  · rw [if_neg (by omega)]
    simp [h1]
theorem windbreakref01_cut_loop (l : List Int) (h : l.length ≤ maxLen) : ∀ n : Nat, n ≤ l.length → Evt (fun k => windbreakref01_cut.l0 k l (n : Int)) (strip (l.take n)) := by
  unfold maxLen at h
  intro n
  induction n with
  | zero =>
    intro _
    refine Evt.succ ?_
    simp only [windbreakref01_cut.l0]
    refine Evt.ite_neg (by omega) (Evt.ite_pos (by omega) (Evt.ite_pos (by omega) ?_))
    simp [strip]
    exact Evt.pure _
  | succ n ih =>
    intro hn
    refine Evt.succ ?_
    simp only [windbreakref01_cut.l0]
    rw [w64 (by omega) (by omega), show ((n + 1 : Nat) : Int) - 1 = (n : Int) from by omega]
    refine Evt.ite_pos (by omega) (Evt.ite_pos (by omega) (Evt.ite_pos (by omega) ?_))
    rw [rd_nat, List.take_succ_eq_append_getElem (show n < l.length by omega)]
    have hg : l.getD n 0 = l[n] := by simp [show n < l.length by omega]
    rw [hg]
    by_cases h0 : l[n] = 0
    · rw [h0, strip_snoc_zero]
      exact Evt.ite_pos rfl (ih (by omega))
    · rw [strip_snoc h0]
      refine Evt.ite_neg h0 (Evt.ite_pos (by omega) (Evt.ite_pos (by omega) ?_))
      rw [← List.take_succ_eq_append_getElem (show n < l.length by omega)]
      exact Evt.pure _
theorem windbreakref01_cut_ev (l : List Int) (h : l.length ≤ maxLen) : Evt (fun k => windbreakref01_cut.f k l) (strip l) := by
  have := windbreakref01_cut_loop l h l.length (Nat.le_refl _)
  exact this.congr (fun k => rfl) (by rw [List.take_length])
def dg (x : Int) : List Int := [x % 65536, x / 65536 % 65536, x / 65536 / 65536 % 65536, x / 65536 / 65536 / 65536 % 65536]
theorem wdiv {x : Int} (h0 : 0 ≤ x) (h1 : x < 18446744073709551616) (c : Int) (hc : 0 < c) : IntKind.u64.wrap (Int.tdiv x c) = x / c := by
  rw [Int.tdiv_eq_ediv_of_nonneg h0]
  have h2 := Int.ediv_nonneg h0 (Int.le_of_lt hc)
  have h3 := Int.ediv_le_self c h0
  exact wu64_of h2 (by omega)
theorem in_step (a d : List Int) (i : Nat) (x : Int) (hx : 0 ≤ x ∧ x < 18446744073709551616) (hd : d.length ≤ 1000000) (hi : i ≤ 1000000) {r : List Int}
    (h : Evt (fun k => windbreakref01_In.l0 k a (d ++ dg x) ((i + 1 : Nat) : Int)) r) : Evt (fun k => windbreakref01_In.l1 k a d (i : Int) x 0) r := by
  refine Evt.succ ?_
  simp only [windbreakref01_In.l1]
  refine Evt.ite_pos (by omega) (Evt.ite_pos (by omega) ?_)
  rw [Int.tmod_eq_emod_of_nonneg hx.1, wdiv hx.1 hx.2 65536 (by omega), w64 (by omega) (by omega)]
  refine Evt.succ ?_
  simp only [windbreakref01_In.l1]
  refine Evt.ite_pos (by omega) (Evt.ite_pos (by simp; omega) ?_)
  rw [Int.tmod_eq_emod_of_nonneg (show 0 ≤ x / 65536 by omega), wdiv (show 0 ≤ x / 65536 by omega) (by omega) 65536 (by omega), w64 (by omega) (by omega)]
  refine Evt.succ ?_
  simp only [windbreakref01_In.l1]
  refine Evt.ite_pos (by omega) (Evt.ite_pos (by simp; omega) ?_)
  rw [Int.tmod_eq_emod_of_nonneg (show 0 ≤ x / 65536 / 65536 by omega), wdiv (show 0 ≤ x / 65536 / 65536 by omega) (by omega) 65536 (by omega), w64 (by omega) (by omega)]
  refine Evt.succ ?_
  simp only [windbreakref01_In.l1]
  refine Evt.ite_pos (by omega) (Evt.ite_pos (by simp; omega) ?_)
  rw [Int.tmod_eq_emod_of_nonneg (show 0 ≤ x / 65536 / 65536 / 65536 by omega), wdiv (show 0 ≤ x / 65536 / 65536 / 65536 by omega) (by omega) 65536 (by omega), w64 (by omega) (by omega)]
  refine Evt.succ ?_
  simp only [windbreakref01_In.l1]
  refine Evt.ite_neg (by omega) ?_
  rw [w64 (by omega) (by omega)]
  refine h.congr (fun k => ?_) rfl
  simp [dg]
theorem in_loop (a : List Int) (ha : a.length ≤ 1000) (hd : Dig (b64 : Int) a) (n : Nat) : ∀ i : Nat, i ≤ a.length → a.length - i = n → Evt (fun k => windbreakref01_In.l0 k a ((a.take i).flatMap dg) (i : Int)) (strip (a.flatMap dg)) := by
  have hlen : ∀ l : List Int, (l.flatMap dg).length = 4 * l.length := by
    intro l
    induction l with
    | nil => rfl
    | cons x l ih => simp only [List.flatMap_cons, List.length_append, ih, dg, List.length_cons, List.length_nil]; omega
  induction n with
  | zero =>
    intro i hi hn
    refine Evt.succ ?_
    simp only [windbreakref01_In.l0]
    refine Evt.ite_neg (by omega) ?_
    rw [List.take_of_length_le (by omega)]
    refine Evt.bind (windbreakref01_cut_ev _ (by rw [hlen]; simp [maxLen]; omega)) (h := fun t _ => some t) (Evt.pure _)
  | succ n ih =>
    intro i hi hn
    have hlt : i < a.length := by omega
    refine Evt.succ ?_
    simp only [windbreakref01_In.l0]
    refine Evt.ite_pos (by omega) (Evt.ite_pos (by omega) ?_)
    have hx : rd a (i : Int) = a[i] := by simp [rd_nat, hlt]
    have hr := hd a[i] (List.getElem_mem hlt)
    rw [hx]
    refine in_step a _ i _ hr (by rw [hlen, List.length_take]; omega) (by omega) ?_
    have := ih (i + 1) (by omega) (by omega)
    rw [List.take_succ_eq_append_getElem hlt, List.flatMap_append] at this
    refine this.congr (fun k => ?_) rfl
    simp
theorem ref_In_ev (a : List Int) (ha : a.length ≤ 1000) (hd : Dig (b64 : Int) a) : Evt (fun k => windbreakref01_In.f k a) (digs (num a)) := by
  have h := in_loop a ha hd a.length 0 (Nat.zero_le _) (by omega)
  obtain ⟨m, hm, _, hv, he⟩ := val_base a hd
  refine h.congr (fun k => rfl) ?_
  have e2 : a.flatMap dg = m := he.symm
  rw [e2, strip_digs hm]
  unfold num16 num
  rw [hv]
theorem windbreakref01_Right_eq {l : List Int} (h : l.length ≤ maxLen) : windbreakref01_Right.f l = some (rightB l) := by
  unfold maxLen at h
  unfold windbreakref01_Right.f rightB
  by_cases h1 : l.length ≤ 64
  · rw [if_pos (by omega)]
    by_cases h2 : l.length = 0
    · rw [if_pos (by omega)]
      simp [h1, h2]
    · rw [if_neg (by omega), w64 (by omega) (by omega), if_pos (by omega), if_pos (by omega), rd_getD]
      rw [show ((l.length : Int) - 1).toNat = l.length - 1 from by omega]
      have h3 : (l.length == 0) = false := by simpa using h2
      rw [h3]
      simp [h1]
  · rw [if_neg (by omega)]
    simp [h1]
end Go.Proofs.Ytanmfddlncdncab.Z
end
section
namespace Go.Proofs.Ytanmfddlncdncab.Z
open Go.RowKit Go.Proofs.Ytanmfddlncdncab.F Go.Proofs.YtanmfddlncdncabW.PrintWords Go.Proofs.YtanmfddlncdncabW.PrintMore
set_option linter.unusedSimpArgs false
set_option linter.unusedVariables false
theorem shl_u64 (x : Int) (s : Nat) (hs : s ≤ 64) : shl .u64 x (s : Int) = (x * 2 ^ s) % 18446744073709551616 := by
  unfold shl
  rw [wu64]
  simp only [IntKind.bits, Int.toNat_natCast]
  rw [show min s 64 = s from by omega]
theorem shr_u64 (x : Int) (s : Nat) (hs : s ≤ 64) : shr .u64 x (s : Int) = x / 2 ^ s := by
  unfold shr
  simp only [IntKind.bits, Int.toNat_natCast]
  rw [show min s 64 = s from by omega]
end Go.Proofs.Ytanmfddlncdncab.Z
end
section
namespace Go.Proofs.Ytanmfddlncdncab.Z
open Go.RowKit Go.Proofs.Ytanmfddlncdncab.F Go.Proofs.YtanmfddlncdncabW.PrintWords
set_option linter.unusedSimpArgs false
set_option linter.unusedVariables false
theorem len8 : ∀ n : Fin 256, bt (⟨#[0, 1, 2, 2, 3, 3, 3, 3, 4, 4, 4, 4, 4, 4, 4, 4, 5, 5, 5, 5, 5, 5, 5, 5, 5, 5, 5, 5, 5, 5, 5, 5, 6, 6, 6, 6, 6, 6, 6, 6, 6, 6, 6, 6, 6, 6, 6, 6, 6, 6, 6, 6, 6, 6, 6, 6, 6, 6, 6, 6, 6, 6, 6, 6, 7, 7, 7, 7, 7, 7, 7, 7, 7, 7, 7, 7, 7, 7, 7, 7, 7, 7, 7, 7, 7, 7, 7, 7, 7, 7, 7, 7, 7, 7, 7, 7, 7, 7, 7, 7, 7, 7, 7, 7, 7, 7, 7, 7, 7, 7, 7, 7, 7, 7, 7, 7, 7, 7, 7, 7, 7, 7, 7, 7, 7, 7, 7, 7, 8, 8, 8, 8, 8, 8, 8, 8, 8, 8, 8, 8, 8, 8, 8, 8, 8, 8, 8, 8, 8, 8, 8, 8, 8, 8, 8, 8, 8, 8, 8, 8, 8, 8, 8, 8, 8, 8, 8, 8, 8, 8, 8, 8, 8, 8, 8, 8, 8, 8, 8, 8, 8, 8, 8, 8, 8, 8, 8, 8, 8, 8, 8, 8, 8, 8, 8, 8, 8, 8, 8, 8, 8, 8, 8, 8, 8, 8, 8, 8, 8, 8, 8, 8, 8, 8, 8, 8, 8, 8, 8, 8, 8, 8, 8, 8, 8, 8, 8, 8, 8, 8, 8, 8, 8, 8, 8, 8, 8, 8, 8, 8, 8, 8, 8, 8, 8, 8, 8, 8, 8, 8, 8, 8, 8, 8, 8, 8]⟩ : ByteArray) ((n.val : Nat) : Int) = ((bl n.val : Nat) : Int) := by decide +kernel
theorem len8_at {x : Int} (h0 : 0 ≤ x) (h1 : x < 256) : bt (⟨#[0, 1, 2, 2, 3, 3, 3, 3, 4, 4, 4, 4, 4, 4, 4, 4, 5, 5, 5, 5, 5, 5, 5, 5, 5, 5, 5, 5, 5, 5, 5, 5, 6, 6, 6, 6, 6, 6, 6, 6, 6, 6, 6, 6, 6, 6, 6, 6, 6, 6, 6, 6, 6, 6, 6, 6, 6, 6, 6, 6, 6, 6, 6, 6, 7, 7, 7, 7, 7, 7, 7, 7, 7, 7, 7, 7, 7, 7, 7, 7, 7, 7, 7, 7, 7, 7, 7, 7, 7, 7, 7, 7, 7, 7, 7, 7, 7, 7, 7, 7, 7, 7, 7, 7, 7, 7, 7, 7, 7, 7, 7, 7, 7, 7, 7, 7, 7, 7, 7, 7, 7, 7, 7, 7, 7, 7, 7, 7, 8, 8, 8, 8, 8, 8, 8, 8, 8, 8, 8, 8, 8, 8, 8, 8, 8, 8, 8, 8, 8, 8, 8, 8, 8, 8, 8, 8, 8, 8, 8, 8, 8, 8, 8, 8, 8, 8, 8, 8, 8, 8, 8, 8, 8, 8, 8, 8, 8, 8, 8, 8, 8, 8, 8, 8, 8, 8, 8, 8, 8, 8, 8, 8, 8, 8, 8, 8, 8, 8, 8, 8, 8, 8, 8, 8, 8, 8, 8, 8, 8, 8, 8, 8, 8, 8, 8, 8, 8, 8, 8, 8, 8, 8, 8, 8, 8, 8, 8, 8, 8, 8, 8, 8, 8, 8, 8, 8, 8, 8, 8, 8, 8, 8, 8, 8, 8, 8, 8, 8, 8, 8, 8, 8, 8, 8, 8, 8]⟩ : ByteArray) x = ((bl x.toNat : Nat) : Int) := by
  obtain ⟨n, rfl⟩ := Int.eq_ofNat_of_zero_le h0
  exact len8 ⟨n, by omega⟩
set_option maxRecDepth 100000 in
theorem len64_j {x : Int} (h0 : 0 ≤ x) (h1 : x < 4294967296) (c : Int) (hc : 0 ≤ c ∧ c ≤ 1000) : Evt (fun k => bits_Len64.j0 k x c) (c + ((bl x.toNat : Nat) : Int)) := by
  have key : ∀ (s : Nat) (y : Int), 0 ≤ y → y < 256 → (s ≤ 24) → (y = 0 → s = 0) → y = x / 2 ^ s → ((bl x.toNat : Nat) : Int) = (s : Int) + ((bl y.toNat : Nat) : Int) := by
    intro s y hy0 hy1 hs hz he
    have : bl x.toNat = s + bl y.toNat := by
      by_cases h : y = 0
      · have hs0 := hz h
        subst hs0
        simp at he
        rw [he, Nat.zero_add]
      · have e : y.toNat = x.toNat / 2 ^ s := by
          rw [he]
          have h2 : x = ((x.toNat : Nat) : Int) := by omega
          rw [h2]
          have h3 : ((2 : Int) ^ s) = ((2 ^ s : Nat) : Int) := by simp
          rw [h3, ← Int.natCast_ediv, Int.toNat_natCast, Int.toNat_natCast]
        rw [e]
        exact bl_shift x.toNat s (by rw [← e]; omega)
    omega
  refine Evt.succ ?_
  simp only [bits_Len64.j0]
  by_cases c1 : x ≥ 65536
  · refine Evt.ite_pos c1 ?_
    by_cases c2 : x / 65536 ≥ 256
    · refine Evt.ite_pos c2 (Evt.ite_pos (by omega) (Evt.ite_pos (by omega) ?_))
      have e : x / 65536 / 256 % 256 = x / 65536 / 256 := by omega
      rw [e, len8_at (by omega) (by omega)]
      have k1 := key 24 (x / 65536 / 256) (by omega) (by omega) (by omega) (by omega) (by rw [Int.ediv_ediv_of_nonneg (by omega)]; rfl)
      have k2 := bl_le8 (x := (x / 65536 / 256).toNat) (by omega)
      rw [w64 (show -9223372036854775808 ≤ c + 16 by omega) (by omega), w64 (show -9223372036854775808 ≤ c + 16 + 8 by omega) (by omega), w64 (show -9223372036854775808 ≤ ((bl (x / 65536 / 256).toNat : Nat) : Int) by omega) (by omega), w64 (by omega) (by omega), k1]
      refine (Evt.pure _).congr (fun k => rfl) (by omega)
    · refine Evt.ite_neg c2 (Evt.ite_pos (by omega) (Evt.ite_pos (by omega) ?_))
      have e : x / 65536 % 256 = x / 65536 := by omega
      rw [e, len8_at (by omega) (by omega)]
      have k1 := key 16 (x / 65536) (by omega) (by omega) (by omega) (by omega) rfl
      have k2 := bl_le8 (x := (x / 65536).toNat) (by omega)
      rw [w64 (show -9223372036854775808 ≤ c + 16 by omega) (by omega), w64 (show -9223372036854775808 ≤ ((bl (x / 65536).toNat : Nat) : Int) by omega) (by omega), w64 (by omega) (by omega), k1]
      refine (Evt.pure _).congr (fun k => rfl) (by omega)
  · refine Evt.ite_neg c1 ?_
    by_cases c2 : x ≥ 256
    · refine Evt.ite_pos c2 (Evt.ite_pos (by omega) (Evt.ite_pos (by omega) ?_))
      have e : x / 256 % 256 = x / 256 := by omega
      rw [e, len8_at (by omega) (by omega)]
      have k1 := key 8 (x / 256) (by omega) (by omega) (by omega) (by omega) rfl
      have k2 := bl_le8 (x := (x / 256).toNat) (by omega)
      rw [w64 (show -9223372036854775808 ≤ c + 8 by omega) (by omega), w64 (show -9223372036854775808 ≤ ((bl (x / 256).toNat : Nat) : Int) by omega) (by omega), w64 (by omega) (by omega), k1]
      refine (Evt.pure _).congr (fun k => rfl) (by omega)
    · refine Evt.ite_neg c2 (Evt.ite_pos (by omega) (Evt.ite_pos (by omega) ?_))
      have e : x % 256 = x := by omega
      rw [e, len8_at (by omega) (by omega)]
      have k2 := bl_le8 (x := x.toNat) (by omega)
      rw [w64 (show -9223372036854775808 ≤ ((bl x.toNat : Nat) : Int) by omega) (by omega), w64 (by omega) (by omega)]
      exact Evt.pure _
theorem bits_Len64_ev {x : Int} (h0 : 0 ≤ x) (h1 : x < 18446744073709551616) : Evt (fun k => bits_Len64.f k x) ((bl x.toNat : Nat) : Int) := by
  unfold bits_Len64.f
  by_cases c1 : x ≥ 4294967296
  · refine Evt.ite_pos c1 ?_
    refine (len64_j (x := x / 4294967296) (by omega) (by omega) 32 (by omega)).congr (fun k => rfl) ?_
    have e : (x / 4294967296).toNat = x.toNat / 2 ^ 32 := by omega
    have := bl_shift x.toNat 32 (by omega)
    rw [e]
    omega
  · refine Evt.ite_neg c1 ?_
    exact (len64_j (x := x) (by omega) (by omega) 0 (by omega)).congr (fun k => rfl) (by omega)
theorem nat_Bits_ev (a : List Int) (ha : a.length ≤ maxLen) (da : Dig (b64 : Int) a) : Evt (fun k => nat_Bits.f k a) (bitsV a) := by
  unfold nat_Bits.f bitsV
  rw [nat_Right_eq ha]
  simp only [Option.bind_some]
  cases hA : rightB a with
  | true =>
    obtain ⟨h1, c1⟩ := (rightB_iff a).1 hA
    refine Evt.ite_pos rfl ?_
    by_cases h0 : a.length = 0
    · rw [if_neg (fun h => h.2 h0)]
      exact Evt.ite_pos (by omega) (Evt.pure _)
    · rw [if_pos (show true = true ∧ a.length ≠ 0 from ⟨rfl, h0⟩)]
      rw [w64 (show -9223372036854775808 ≤ (a.length : Int) - 1 by omega) (by omega)]
      refine Evt.ite_neg (by omega) (Evt.ite_pos (by omega) (Evt.ite_pos (by omega) ?_))
      rw [rd_getD, show ((a.length : Int) - 1).toNat = a.length - 1 from by omega]
      have hr := da.getD b64_pos (a.length - 1)
      simp only [b64] at hr
      refine Evt.bind (bits_Len64_ev hr.1 hr.2) ?_
      have hb := bl_le (x := (a.getD (a.length - 1) 0).toNat) (m := 64) (by omega)
      rw [w64 (show -9223372036854775808 ≤ 64 * ((a.length : Int) - 1) by omega) (by omega), w64 (by omega) (by omega)]
      exact Evt.pure _
  | false =>
    rw [if_neg (by simp)]
    exact Evt.ite_neg (by simp) (Evt.pure _)
end Go.Proofs.Ytanmfddlncdncab.Z
end
section
namespace Go.Proofs.Ytanmfddlncdncab.Z
open Go.RowKit Go.Proofs.YtanmfddlncdncabW.PrintWords
set_option linter.unusedSimpArgs false
set_option linter.unusedVariables false
def b8 : Nat := 256
theorem b8_two : 2 ≤ b8 := by decide
abbrev byts (v : Nat) : List Int := toD b8 v
theorem b8_pow2 (m : Nat) : b8 ^ m = 2 ^ (8 * m) := by
  have h : b8 = 2 ^ 8 := by decide
  rw [h, ← Nat.pow_mul]
theorem toD_getD {B : Nat} (hB : 2 ≤ B) (i : Nat) : ∀ v : Nat, (toD B v).getD i 0 = ((v / B ^ i % B : Nat) : Int) := by
  induction i with
  | zero =>
    intro v
    by_cases hv : v = 0
    · subst hv; rw [toD_zero]; simp
    · rw [toD_pos hB (by omega)]; simp
  | succ i ih =>
    intro v
    by_cases hv : v = 0
    · subst hv; rw [toD_zero]; simp
    · rw [toD_pos hB (by omega), List.getD_cons_succ, ih, Nat.div_div_eq_div_mul, Nat.pow_succ, Nat.mul_comm (B ^ i)]
theorem byts_len_iff (v m : Nat) : (byts v).length ≤ m ↔ bl v ≤ 8 * m := by
  rw [toD_len_iff b8_two, b8_pow2]
  exact ⟨bl_le, fun h => Nat.lt_of_lt_of_le (bl_lt v) (Nat.pow_le_pow_right (by decide) h)⟩
theorem byts_len (v : Nat) : (byts v).length = (bl v + 7) / 8 := by
  have h1 := (byts_len_iff v ((bl v + 7) / 8)).2 (by omega)
  have h2 := (byts_len_iff v (byts v).length).1 (Nat.le_refl _)
  omega
theorem limb_at {a : List Int} (da : Dig (b64 : Int) a) (ca : Can a) (i : Nat) : a.getD i 0 = ((num a / b64 ^ i % b64 : Nat) : Int) := by
  have h := toD_getD b64_two i (num a)
  rw [show toD b64 (num a) = a from limbs_num da ca] at h
  exact h
theorem can_last {a : List Int} (ca : Can a) (h0 : a.length ≠ 0) : a.getD (a.length - 1) 0 ≠ 0 := by
  have h : a ≠ [] := fun e => h0 (by rw [e]; rfl)
  have h2 := ca h
  rw [List.getLast_eq_getElem] at h2
  rw [List.getD_eq_getElem?_getD, List.getElem?_eq_getElem (show a.length - 1 < a.length by omega)]
  exact h2
theorem bitsV_bl {a : List Int} (da : Dig (b64 : Int) a) (hA : rightB a = true) : bitsV a = ((bl (num a) : Nat) : Int) := by
  obtain ⟨h1, ca⟩ := (rightB_iff a).1 hA
  unfold bitsV
  by_cases h0 : a.length = 0
  · rw [if_neg (fun h => h.2 h0)]
    have e : a = [] := List.length_eq_zero_iff.1 h0
    subst e
    rfl
  · rw [if_pos ⟨hA, h0⟩]
    have e := limb_at da ca (a.length - 1)
    have hlt := num_lt da
    have hne := can_last ca h0
    have hl : num a / b64 ^ (a.length - 1) < b64 := by
      apply Nat.div_lt_of_lt_mul
      rw [← Nat.pow_succ, show (a.length - 1).succ = a.length from by omega]
      exact hlt
    rw [Nat.mod_eq_of_lt hl] at e
    rw [e] at hne ⊢
    rw [b64_pow2] at hne ⊢
    have h2 := bl_shift (num a) (64 * (a.length - 1)) (fun hh => hne (by rw [hh]; rfl))
    rw [h2, Int.toNat_natCast]
    omega
theorem byte_of (v q r : Nat) (hr : r < 8) : v / b64 ^ q % b64 / 2 ^ (8 * r) % 256 = v / b8 ^ (8 * q + r) % b8 := by
  have h : b64 = 2 ^ (8 * r) * 2 ^ (64 - 8 * r) := by
    rw [← Nat.pow_add, show 8 * r + (64 - 8 * r) = 64 from by omega]; decide
  have hd : (256 : Nat) ∣ 2 ^ (64 - 8 * r) := Nat.pow_dvd_pow 2 (show 8 ≤ 64 - 8 * r by omega)
  have e1 : v / b64 ^ q % b64 / 2 ^ (8 * r) = v / b64 ^ q / 2 ^ (8 * r) % 2 ^ (64 - 8 * r) := by
    generalize v / b64 ^ q = x
    rw [h, Nat.mod_mul_right_div_self]
  rw [e1, Nat.mod_mod_of_dvd _ hd, Nat.div_div_eq_div_mul, b64_pow2, b8_pow2, ← Nat.pow_add, show 64 * q + 8 * r = 8 * (8 * q + r) from by omega]
  rfl
theorem byts_num_len {a : List Int} (da : Dig (b64 : Int) a) : (byts (num a)).length ≤ 8 * a.length := by
  rw [byts_len_iff]
  apply bl_le
  have := num_lt da
  rw [b64_pow2] at this
  rw [show 8 * (8 * a.length) = 64 * a.length from by omega]
  exact this
theorem tdiv_nat (i : Nat) (c : Nat) : Int.tdiv (i : Int) (c : Int) = ((i / c : Nat) : Int) := by
  rw [Int.tdiv_eq_ediv_of_nonneg (by omega)]; simp
theorem tmod_nat (i : Nat) (c : Nat) : Int.tmod (i : Int) (c : Int) = ((i % c : Nat) : Int) := by
  rw [Int.tmod_eq_emod_of_nonneg (by omega)]; simp
def bytesV (a : List Int) : List Int := if rightB a = true then (byts (num a)).reverse else []
end Go.Proofs.Ytanmfddlncdncab.Z
end
section
namespace Go.Proofs.Ytanmfddlncdncab.Z
open Go.RowKit Go.Proofs.Ytanmfddlncdncab.F Go.Proofs.YtanmfddlncdncabW.PrintWords
set_option linter.unusedSimpArgs false
set_option linter.unusedVariables false
theorem set_back (n i : Nat) (h : i < n) (T : List Int) (x : Int) : (List.replicate (n - i) (0 : Int) ++ T).set (n - 1 - i) x = List.replicate (n - (i + 1)) 0 ++ (x :: T) := by
  obtain ⟨m, hm⟩ : ∃ m, n - i = m + 1 := ⟨n - i - 1, by omega⟩
  rw [hm, show n - 1 - i = m from by omega, show n - (i + 1) = m from by omega, List.replicate_succ', List.append_assoc, List.set_append_right _ _ (by simp)]
  simp
theorem nat_Bytes_loop (a : List Int) (da : Dig (b64 : Int) a) (ca : Can a) (ha : a.length ≤ 64) (m : Nat) : ∀ i : Nat, i ≤ (byts (num a)).length → (byts (num a)).length - i = m →
    Evt (fun k => nat_Bytes.l0 k a ((byts (num a)).length : Int) (List.replicate ((byts (num a)).length - i) 0 ++ ((byts (num a)).take i).reverse) ((byts (num a)).length : Int) (i : Int)) (byts (num a)).reverse := by
  have hn := byts_num_len da
  induction m with
  | zero =>
    intro i hi hm
    refine Evt.succ ?_
    simp only [nat_Bytes.l0]
    refine Evt.ite_neg (by omega) ?_
    rw [show (byts (num a)).length - i = 0 from hm, List.take_of_length_le (by omega)]
    exact Evt.pure _
  | succ m ih =>
    intro i hi hm
    have hlt : i < (byts (num a)).length := by omega
    refine Evt.succ ?_
    simp only [nat_Bytes.l0]
    have e1 : wrap64 (Int.tdiv (i : Int) 8) = ((i / 8 : Nat) : Int) := by
      rw [show (8 : Int) = ((8 : Nat) : Int) from rfl, tdiv_nat]
      exact w64 (by omega) (by omega)
    have e2 : wrap64 (8 * Int.tmod (i : Int) 8) = ((8 * (i % 8) : Nat) : Int) := by
      rw [show Int.tmod (i : Int) 8 = Int.tmod (i : Int) ((8 : Nat) : Int) from rfl, tmod_nat, w64 (by omega) (by omega)]
      omega
    have e3 : wrap64 (wrap64 (((byts (num a)).length : Int) - 1) - (i : Int)) = (((byts (num a)).length - 1 - i : Nat) : Int) := by
      rw [w64 (show -9223372036854775808 ≤ ((byts (num a)).length : Int) - 1 by omega) (by omega), w64 (by omega) (by omega)]
      omega
    rw [e1, e2, e3, w64 (show -9223372036854775808 ≤ (i : Int) + 1 by omega) (by omega)]
    refine Evt.ite_pos (by omega) (Evt.ite_pos (by omega) (Evt.ite_pos (by omega) (Evt.ite_pos (by omega) (Evt.ite_pos (by omega) (Evt.ite_pos (by simp; omega) ?_)))))
    rw [Int.toNat_natCast, set_back _ _ hlt, rd_nat, shr_u64 _ _ (by omega), limb_at da ca]
    have h := ih (i + 1) hlt (by omega)
    refine h.congr (fun k => ?_) rfl
    have hv : ((num a / b64 ^ (i / 8) % b64 : Nat) : Int) / 2 ^ (8 * (i % 8)) % 256 = (byts (num a))[i] := by
      have g := toD_getD b8_two i (num a)
      rw [List.getD_eq_getElem?_getD, List.getElem?_eq_getElem hlt] at g
      rw [show (byts (num a))[i] = ((num a / b8 ^ i % b8 : Nat) : Int) from g]
      have hb := byte_of (num a) (i / 8) (i % 8) (by omega)
      rw [show 8 * (i / 8) + i % 8 = i from by omega] at hb
      rw [← hb]
      simp
    rw [hv, List.take_succ_eq_append_getElem hlt, List.reverse_append]
    rfl
theorem nat_Bytes_ev (a : List Int) (ha : a.length ≤ maxLen) (da : Dig (b64 : Int) a) : Evt (fun k => nat_Bytes.f k a) (bytesV a) := by
  unfold nat_Bytes.f bytesV
  rw [nat_Right_eq ha]
  simp only [Option.bind_some]
  cases hA : rightB a with
  | true =>
    obtain ⟨h1, c1⟩ := (rightB_iff a).1 hA
    rw [if_pos rfl]
    refine Evt.ite_pos rfl ?_
    refine Evt.bind (nat_Bits_ev a ha da) ?_
    rw [bitsV_bl da hA]
    have hl := byts_len (num a)
    have hn := byts_num_len da
    have hb := (byts_len_iff (num a) (byts (num a)).length).1 (Nat.le_refl _)
    have e : wrap64 (Int.tdiv (wrap64 (((bl (num a) : Nat) : Int) + 7)) 8) = ((byts (num a)).length : Int) := by
      rw [w64 (show -9223372036854775808 ≤ ((bl (num a) : Nat) : Int) + 7 by omega) (by omega), show ((bl (num a) : Nat) : Int) + 7 = ((bl (num a) + 7 : Nat) : Int) from by omega, show (8 : Int) = ((8 : Nat) : Int) from rfl, tdiv_nat, w64 (by omega) (by omega), hl]
    rw [e]
    refine Evt.ite_pos (by omega) (Evt.ite_pos (by omega) ?_)
    have h := nat_Bytes_loop a da c1 h1 (byts (num a)).length 0 (Nat.zero_le _) (by omega)
    refine h.congr (fun k => ?_) rfl
    simp
  | false =>
    rw [if_neg (by simp)]
    exact Evt.ite_neg (by simp) (Evt.pure _)
theorem or128 : ∀ a : Fin 256, Go.bits .or .u8 ((a.val : Nat) : Int) 128 = ((a.val % 128 + 128 : Nat) : Int) := by decide +kernel
theorem codec_Number_loop (n : Nat) : ∀ xs : List Int, n < 2 ^ 64 → xs.length + (encN n).length < 140737488355328 → Evt (fun k => codec_Number.l0 k (n : Int) xs) (xs ++ encN n) := by
  induction n using Nat.strongRecOn with
  | ind n ih =>
    intro xs hn hl
    refine Evt.succ ?_
    simp only [codec_Number.l0]
    have hp := encN_pos n
    by_cases h : n < 128
    · rw [encN_small h] at hl ⊢
      refine Evt.ite_neg (by omega) (Evt.ite_pos (by simp at hl; omega) ((Evt.pure _).congr (fun k => rfl) ?_))
      rw [show (n : Int) % 256 = (n : Int) from by omega]
    · rw [encN_big h] at hl ⊢
      refine Evt.ite_pos (by omega) (Evt.ite_pos (by simp at hl; omega) ?_)
      have e := or128 ⟨n % 256, Nat.mod_lt _ (by omega)⟩
      simp only [] at e
      rw [show (n : Int) % 256 = ((n % 256 : Nat) : Int) from by omega, e, show (n : Int) / 128 = ((n / 128 : Nat) : Int) from by omega, show n % 256 % 128 = n % 128 from by omega]
      have h2 := ih (n / 128) (by omega) (xs ++ [((n % 128 + 128 : Nat) : Int)]) (by omega) (by simp at hl ⊢; omega)
      rw [List.append_assoc] at h2
      exact h2
theorem encN_ten {n : Nat} (h : n < 2 ^ 64) : (encN n).length ≤ 10 := encN_len n 9 (Nat.lt_of_lt_of_le h (by decide))
theorem codec_Number_ev (n : Nat) (h : n < 2 ^ 64) : Evt (fun k => codec_Number.f k (n : Int)) (encN n) := codec_Number_loop n [] h (by have := encN_ten h; simp; omega)
theorem ref_Number_loop (n : Nat) : ∀ xs : List Int, n < 2 ^ 64 → xs.length + (encN n).length < 140737488355328 → Evt (fun k => windbreakref09_Number.l0 k (n : Int) xs) (xs ++ encN n) := by
  induction n using Nat.strongRecOn with
  | ind n ih =>
    intro xs hn hl
    refine Evt.succ ?_
    simp only [windbreakref09_Number.l0]
    have hp := encN_pos n
    by_cases h : n < 128
    · rw [encN_small h] at hl ⊢
      refine Evt.ite_neg (by omega) (Evt.ite_pos (by simp at hl; omega) ((Evt.pure _).congr (fun k => rfl) ?_))
      rw [show (n : Int) % 256 = (n : Int) from by omega]
    · rw [encN_big h] at hl ⊢
      refine Evt.ite_pos (by omega) (Evt.ite_pos (by simp at hl; omega) ?_)
      have e1 : IntKind.u64.wrap (Int.tmod (n : Int) 128 + 128) % 256 = ((n % 128 + 128 : Nat) : Int) := by
        rw [show (128 : Int) = ((128 : Nat) : Int) from rfl, tmod_nat, wu64_of (by omega) (by omega)]
        omega
      have e2 : IntKind.u64.wrap (Int.tdiv (n : Int) 128) = ((n / 128 : Nat) : Int) := by
        rw [show (128 : Int) = ((128 : Nat) : Int) from rfl, tdiv_nat, wu64_of (by omega) (by omega)]
      rw [e1, e2]
      have h2 := ih (n / 128) (by omega) (xs ++ [((n % 128 + 128 : Nat) : Int)]) (by omega) (by simp at hl ⊢; omega)
      rw [List.append_assoc] at h2
      exact h2
theorem ref_Number_ev (n : Nat) (h : n < 2 ^ 64) : Evt (fun k => windbreakref09_Number.f k (n : Int)) (encN n) := ref_Number_loop n [] h (by have := encN_ten h; simp; omega)
def encY (b : List Int) : List Int := encN b.length ++ b
theorem codec_Bytes_ev (b : List Int) (h : b.length < 1000000) : Evt (fun k => codec_Bytes.f k b) (encY b) := by
  unfold codec_Bytes.f
  rw [wu64_of (by omega) (by omega)]
  refine Evt.bind (codec_Number_ev b.length (by omega)) ?_
  have := encN_ten (n := b.length) (by omega)
  exact Evt.ite_pos (by omega) (Evt.pure _)
theorem ref_Bytes9_ev (b : List Int) (h : b.length < 1000000) : Evt (fun k => windbreakref09_Bytes.f k b) (encY b) := by
  unfold windbreakref09_Bytes.f
  rw [wu64_of (by omega) (by omega)]
  refine Evt.bind (ref_Number_ev b.length (by omega)) ?_
  have := encN_ten (n := b.length) (by omega)
  exact Evt.ite_pos (by omega) (Evt.pure _)
def natB (a : List Int) : Bool := rightB a && decide (a.length ≤ 4)
def rightV (a0 a1 a2 a3 : Int) (l4 l5 : List Int) (l6 : List (List Int)) : Bool :=
  decide (1 ≤ a0 ∧ a0 < 12 ∧ wire_ok a1 = true ∧ wire_ok a2 = true ∧ wire_ok a3 = true) && (wire_noughts (wire_kindOf a0.toNat).1 a1 a2 a3 && (wire_may l4.length (wire_kindOf a0.toNat).2.1 (wire_ints.f l4) && (wire_may l5.length (wire_kindOf a0.toNat).2.2.1 (wire_ints.f l5) && (wire_may l6.length (wire_kindOf a0.toNat).2.2.2 (l6.all natB) && (wire_incr l5 && wire_last a0 a3 l4 l6)))))
theorem nats_one {a : List Int} (h : a.length ≤ maxLen) : wire_nats.one a = some (natB a) := by
  unfold wire_nats.one natB
  rw [nat_Right_eq h, Option.bind_some, show decide ((a.length : Int) ≤ 4) = decide (a.length ≤ 4) from by rw [Bool.eq_iff_iff]; simp; omega]
theorem nats_f {l : List (List Int)} (h : ∀ a ∈ l, a.length ≤ maxLen) : wire_nats.f l = some (l.all natB) := by
  induction l with
  | nil => rfl
  | cons a l ih =>
    rw [wire_nats.f, nats_one (h a (by simp)), Option.bind_some, List.all_cons]
    cases hb : natB a with
    | true => rw [if_pos rfl, ih (fun x hx => h x (by simp [hx]))]; rfl
    | false => rfl
theorem wire_Right_eq (a0 a1 a2 a3 : Int) (l4 l5 : List Int) (l6 : List (List Int)) (h : ∀ a ∈ l6, a.length ≤ maxLen) : wire_Right.f a0 a1 a2 a3 l4 l5 l6 = some (rightV a0 a1 a2 a3 l4 l5 l6) := by
  unfold wire_Right.f rightV
  by_cases c0 : 1 ≤ a0 ∧ a0 < 12 ∧ wire_ok a1 = true ∧ wire_ok a2 = true ∧ wire_ok a3 = true
  · rw [if_pos c0, decide_eq_true c0, Bool.true_and]
    unfold wire_Right.g
    generalize wire_noughts (wire_kindOf a0.toNat).1 a1 a2 a3 = b1
    generalize wire_may l4.length (wire_kindOf a0.toNat).2.1 (wire_ints.f l4) = b2
    generalize wire_may l5.length (wire_kindOf a0.toNat).2.2.1 (wire_ints.f l5) = b3
    rw [nats_f h, Option.bind_some]
    generalize wire_may l6.length (wire_kindOf a0.toNat).2.2.2 (l6.all natB) = b4
    cases b1 <;> cases b2 <;> cases b3 <;> cases b4 <;> rfl
  · rw [if_neg c0, decide_eq_false c0]
    rfl
theorem right_parts {a0 a1 a2 a3 : Int} {l4 l5 : List Int} {l6 : List (List Int)} (h : rightV a0 a1 a2 a3 l4 l5 l6 = true) :
    (0 ≤ a0 ∧ a0 ≤ 1073741824) ∧ (0 ≤ a1 ∧ a1 ≤ 1073741824) ∧ (0 ≤ a2 ∧ a2 ≤ 1073741824) ∧ (0 ≤ a3 ∧ a3 ≤ 1073741824) ∧ l4.length ≤ 16384 ∧ l5.length ≤ 16384 ∧ l6.length ≤ 16384 ∧ (∀ x ∈ l4, 0 ≤ x ∧ x ≤ 1073741824) ∧ (∀ x ∈ l5, 0 ≤ x ∧ x ≤ 1073741824) ∧ (∀ a ∈ l6, rightB a = true ∧ a.length ≤ 4) := by
  unfold rightV at h
  simp only [Bool.and_eq_true, decide_eq_true_eq] at h
  obtain ⟨⟨k1, k2, o1, o2, o3⟩, h1, h2, h3, h4, h5⟩ := h
  unfold wire_may at h2 h3 h4
  unfold wire_ok at o1 o2 o3
  unfold wire_ints.f at h2 h3
  simp only [Bool.and_eq_true, decide_eq_true_eq, List.all_eq_true] at h2 h3 h4 o1 o2 o3
  refine ⟨⟨by omega, by omega⟩, o1, o2, o3, h2.1.1, h3.1.1, h4.1.1, h2.2, h3.2, fun a ha => ?_⟩
  have := h4.2 a ha
  unfold natB at this
  simpa [Bool.and_eq_true] using this
def encB (l : List (List Int)) : List Int := l.flatMap fun a => encY (bytesV a)
theorem encB_cons (a : List Int) (l : List (List Int)) : encB (a :: l) = encY (bytesV a) ++ encB l := by simp [encB]
def encM (a0 a1 a2 a3 : Int) (l4 l5 : List Int) (l6 : List (List Int)) : List Int :=
  encL [a0, a1, a2, a3] ++ (encN l4.length ++ encL l4) ++ (encN l5.length ++ encL l5) ++ encN l6.length ++ encB l6
def encodeV (a0 a1 a2 a3 : Int) (l4 l5 : List Int) (l6 : List (List Int)) : List Int × Int :=
  if rightV a0 a1 a2 a3 l4 l5 l6 = true then (if (encM a0 a1 a2 a3 l4 l5 l6).length > 1048576 then ([], 16) else (encM a0 a1 a2 a3 l4 l5 l6, 0)) else ([], 16)
theorem encL_len {l : List Int} (h : ∀ x ∈ l, 0 ≤ x ∧ x ≤ 1073741824) : (encL l).length ≤ 10 * l.length := by
  induction l with
  | nil => simp [encL]
  | cons x l ih =>
    have hx := h x (by simp)
    have := encN_ten (n := x.toNat) (by omega)
    have := ih (fun y hy => h y (by simp [hy]))
    rw [encL_cons]
    simp
    omega
theorem bytesV_len {a : List Int} (da : Dig (b64 : Int) a) (hr : rightB a = true) (h4 : a.length ≤ 4) : (bytesV a).length ≤ 32 := by
  unfold bytesV
  rw [if_pos hr, List.length_reverse]
  have := byts_num_len da
  omega
theorem wire_nums_ev (l : List Int) : ∀ xs : List Int, (∀ x ∈ l, 0 ≤ x ∧ x ≤ 1073741824) → xs.length + 10 * l.length < 100000000 → Evt (fun k => wire_Encode.nums k l xs) (xs ++ encL l) := by
  induction l with
  | nil => intro xs _ _; exact (Evt.pure _).congr (fun k => rfl) (by simp [encL])
  | cons n l ih =>
    intro xs h hl
    obtain ⟨h0, h1⟩ := h n (by simp)
    obtain ⟨m, rfl⟩ := Int.eq_ofNat_of_zero_le h0
    simp only [wire_Encode.nums]
    rw [wu64_of (by omega) (by omega)]
    refine Evt.bind (codec_Number_ev m (by omega)) ?_
    have h2 := encN_ten (n := m) (by omega)
    simp at hl
    refine Evt.ite_pos (by omega) ?_
    have h3 := ih (xs ++ encN m) (fun x hx => h x (by simp [hx])) (by simp; omega)
    rw [encL_cons, Int.toNat_natCast]
    rw [List.append_assoc] at h3
    exact h3
theorem wire_nats_ev (l : List (List Int)) : ∀ xs : List Int, (∀ a ∈ l, a.length ≤ maxLen ∧ Dig (b64 : Int) a ∧ rightB a = true ∧ a.length ≤ 4) → xs.length + 42 * l.length < 100000000 → Evt (fun k => wire_Encode.nats k l xs) (xs ++ encB l) := by
  induction l with
  | nil => intro xs _ _; exact (Evt.pure _).congr (fun k => rfl) (by simp [encB])
  | cons a l ih =>
    intro xs h hl
    obtain ⟨h0, h1, h2, h3⟩ := h a (by simp)
    have h4 := bytesV_len h1 h2 h3
    have h5 := encN_ten (n := (bytesV a).length) (by omega)
    have h6 : (encY (bytesV a)).length ≤ 42 := by unfold encY; simp; omega
    simp at hl
    simp only [wire_Encode.nats]
    refine Evt.bind (nat_Bytes_ev a h0 h1) (Evt.bind (codec_Bytes_ev _ (by omega)) (Evt.ite_pos (by omega) ?_))
    have h7 := ih (xs ++ encY (bytesV a)) (fun x hx => h x (by simp [hx])) (by simp; omega)
    rw [encB_cons]
    rw [List.append_assoc] at h7
    exact h7
theorem wire_Encode_ev (a0 a1 a2 a3 : Int) (l4 l5 : List Int) (l6 : List (List Int)) (h : ∀ a ∈ l6, a.length ≤ maxLen ∧ Dig (b64 : Int) a) : Evt (fun k => wire_Encode.f k a0 a1 a2 a3 l4 l5 l6) (encodeV a0 a1 a2 a3 l4 l5 l6) := by
  unfold wire_Encode.f encodeV
  rw [wire_Right_eq _ _ _ _ _ _ _ (fun a ha => (h a ha).1)]
  simp only [Option.bind_some]
  cases hR : rightV a0 a1 a2 a3 l4 l5 l6 with
  | false => rw [if_neg (by decide)]; exact Evt.ite_neg (by decide) (Evt.pure _)
  | true =>
    rw [if_pos rfl]
    obtain ⟨o0, o1, o2, o3, n4, n5, n6, h4, h5, h6⟩ := right_parts hR
    have b4 := encL_len h4
    have b5 := encL_len h5
    have b0 := encL_len (l := [a0, a1, a2, a3]) (by intro x hx; simp at hx; rcases hx with rfl | rfl | rfl | rfl <;> assumption)
    have t4 := encN_ten (n := l4.length) (by omega)
    have t5 := encN_ten (n := l5.length) (by omega)
    have t6 := encN_ten (n := l6.length) (by omega)
    simp only [List.length_cons, List.length_nil] at b0
    refine Evt.ite_pos rfl ?_
    have s1 := wire_nums_ev [a0, a1, a2, a3] [] (by intro x hx; simp at hx; rcases hx with rfl | rfl | rfl | rfl <;> assumption) (by simp)
    rw [List.nil_append] at s1
    refine Evt.bind s1 ?_
    have s2 : Evt (fun k => wire_Encode.lists k [l4, l5] (encL [a0, a1, a2, a3])) (encL [a0, a1, a2, a3] ++ (encN l4.length ++ encL l4) ++ (encN l5.length ++ encL l5)) := by
      simp only [wire_Encode.lists]
      have e4 := wire_nums_ev ((l4.length : Int) :: l4) (encL [a0, a1, a2, a3]) (by intro x hx; rcases List.mem_cons.1 hx with rfl | hx; exact ⟨by omega, by omega⟩; exact h4 x hx) (by simp; omega)
      rw [encL_cons (l4.length : Int) l4, Int.toNat_natCast] at e4
      refine Evt.bind e4 ?_
      have e5 := wire_nums_ev ((l5.length : Int) :: l5) (encL [a0, a1, a2, a3] ++ (encN l4.length ++ encL l4)) (by intro x hx; rcases List.mem_cons.1 hx with rfl | hx; exact ⟨by omega, by omega⟩; exact h5 x hx) (by simp; omega)
      rw [encL_cons (l5.length : Int) l5, Int.toNat_natCast] at e5
      exact Evt.bind e5 (Evt.pure _)
    refine Evt.bind s2 ?_
    have s3 := wire_nums_ev [(l6.length : Int)] (encL [a0, a1, a2, a3] ++ (encN l4.length ++ encL l4) ++ (encN l5.length ++ encL l5)) (by intro x hx; simp at hx; subst hx; exact ⟨by omega, by omega⟩) (by simp; omega)
    rw [encL_cons (l6.length : Int) [], encL_nil, List.append_nil, Int.toNat_natCast] at s3
    refine Evt.bind s3 ?_
    have s4 := wire_nats_ev l6 (encL [a0, a1, a2, a3] ++ (encN l4.length ++ encL l4) ++ (encN l5.length ++ encL l5) ++ encN l6.length) (fun a ha => ⟨(h a ha).1, (h a ha).2, h6 a ha⟩) (by simp; omega)
    refine Evt.bind s4 ?_
    exact Evt.pure _
theorem awake12_enc : encodeV 2 4 2 0 [] [] [] = ([2, 4, 2, 0, 0, 0, 0], 0) := by
  have e : encM 2 4 2 0 [] [] [] = [2, 4, 2, 0, 0, 0, 0] := by
    simp [encM, encL, encN_small, encB]
  have hR : rightV 2 4 2 0 [] [] [] = true := by decide
  unfold encodeV
  rw [e, if_pos hR]
  rfl
theorem awake12_ev : Evt (fun k => windbreaklaw12_awake.f k) true := by
  unfold windbreaklaw12_awake.f
  have h := wire_Encode_ev 2 4 2 0 [] [] [] (fun a ha => by simp at ha)
  rw [awake12_enc] at h
  refine Evt.bind h (Evt.ite_pos rfl ((Evt.pure _).congr (fun k => rfl) ?_))
  simp
theorem byts_step {u x : Nat} (hx : x < 65536) (h : 0 < u) : (byts (u * 65536 + x)).reverse = (byts u).reverse ++ [((x / 256 : Nat) : Int)] ++ [((x % 256 : Nat) : Int)] := by
  rw [show byts (u * 65536 + x) = (((u * 65536 + x) % b8 : Nat) : Int) :: toD b8 ((u * 65536 + x) / b8) from toD_pos b8_two (by omega)]
  rw [toD_pos b8_two (v := (u * 65536 + x) / b8) (by simp only [b8]; omega)]
  rw [show (u * 65536 + x) % b8 = x % 256 from by simp only [b8]; omega, show (u * 65536 + x) / b8 % b8 = x / 256 from by simp only [b8]; omega, show (u * 65536 + x) / b8 / b8 = u from by simp only [b8]; omega]
  simp
theorem byts_two {x : Nat} (hx : x < 65536) (h : 255 < x) : (byts x).reverse = [((x / 256 : Nat) : Int)] ++ [((x % 256 : Nat) : Int)] := by
  rw [show byts x = ((x % b8 : Nat) : Int) :: toD b8 (x / b8) from toD_pos b8_two (by omega)]
  rw [toD_pos b8_two (v := x / b8) (by simp only [b8]; omega)]
  rw [show x / b8 / b8 = 0 from by simp only [b8]; omega, toD_zero, show x / b8 % b8 = x / 256 from by simp only [b8]; omega]
  simp [b8]
theorem byts_one {x : Nat} (h0 : 0 < x) (h : x ≤ 255) : (byts x).reverse = [((x % 256 : Nat) : Int)] := by
  rw [show byts x = ((x % b8 : Nat) : Int) :: toD b8 (x / b8) from toD_pos b8_two h0]
  rw [show x / b8 = 0 from by simp only [b8]; omega, toD_zero]
  simp [b8]
theorem ref_Bytes_loop (v : Nat) (hv : v < lim) : ∀ i : Nat, i ≤ (digs v).length →
    Evt (fun k => windbreakref01_Bytes.l0 k (digs v) (byts (v / b16 ^ i)).reverse ((i : Int) - 1)) (byts v).reverse := by
  have hd := digs_len hv
  intro i
  induction i with
  | zero =>
    intro _
    refine Evt.succ ?_
    simp only [windbreakref01_Bytes.l0]
    refine Evt.ite_neg (by omega) ?_
    simp only [Nat.pow_zero, Nat.div_one]
    exact Evt.pure _
  | succ i ih =>
    intro hi
    have hs := ih (by omega)
    refine Evt.succ ?_
    simp only [windbreakref01_Bytes.l0]
    rw [show ((i + 1 : Nat) : Int) - 1 = (i : Int) from by omega, rd_nat, toD_getD b16_two, w64 (by omega) (by omega)]
    have hx : v / b16 ^ i % b16 < 65536 := Nat.mod_lt _ (by decide)
    have hu : v / b16 ^ i = v / b16 ^ (i + 1) * 65536 + v / b16 ^ i % b16 := by
      rw [Nat.pow_succ, ← Nat.div_div_eq_div_mul]
      have := Nat.div_add_mod (v / b16 ^ i) b16
      simp only [b16] at this ⊢
      omega
    obtain ⟨N, hN⟩ : ∃ N : Nat, N = 8000 := ⟨_, rfl⟩
    have hlen : (byts (v / b16 ^ (i + 1))).length ≤ N := by
      refine toD_len_le b8_two ?_
      have h1 : v / b16 ^ (i + 1) ≤ v := Nat.div_le_self _ _
      have h2 : v < b16 ^ (digs v).length := toD_lt_pow b16_two v
      have h3 : b16 ^ (digs v).length ≤ b8 ^ N := by
        rw [show b16 = b8 ^ 2 from by decide, ← Nat.pow_mul]
        exact Nat.pow_le_pow_right (by decide) (by omega)
      exact Nat.lt_of_le_of_lt h1 (Nat.lt_of_lt_of_le h2 h3)
    have ht : i + 1 = (digs v).length → 0 < v / b16 ^ i % b16 := by
      intro he
      have e0 : (toD b16 v).length = i + 1 := he.symm
      have h1 := can_last (toD_can b16_two v) (show (toD b16 v).length ≠ 0 by omega)
      rw [show (toD b16 v).length - 1 = i from by omega, toD_getD b16_two] at h1
      omega
    have hz : v / b16 ^ (i + 1) = 0 → i + 1 = (digs v).length := by
      intro he
      have h1 : v < b16 ^ (i + 1) := (Nat.div_eq_zero_iff_lt (Nat.pow_pos (by decide))).1 he
      have h2 := toD_len_le b16_two h1
      have h3 : (digs v).length = (toD b16 v).length := rfl
      omega
    rw [hu] at hs
    generalize v / b16 ^ i % b16 = x at *
    generalize v / b16 ^ (i + 1) = u at *
    have ed : IntKind.u64.wrap (Int.tdiv (x : Int) 256) % 256 = ((x / 256 : Nat) : Int) := by
      rw [show (256 : Int) = ((256 : Nat) : Int) from rfl, tdiv_nat, wu64_of (by omega) (by omega)]
      omega
    have em : Int.tmod (x : Int) 256 % 256 = ((x % 256 : Nat) : Int) := by
      rw [show (256 : Int) = ((256 : Nat) : Int) from rfl, tmod_nat]
      omega
    rw [ed, em]
    refine Evt.ite_pos (by omega) ?_
    by_cases h0 : u = 0
    · subst h0
      have hx0 := ht (hz rfl)
      rw [show byts 0 = [] from toD_zero b8]
      refine Evt.ite_neg (by simp) (Evt.ite_pos (by omega) (Evt.ite_pos (by omega) ?_))
      rw [Nat.zero_mul, Nat.zero_add] at hs
      by_cases h1 : (x : Int) > 255
      · refine Evt.ite_pos h1 (Evt.ite_pos (by simp) ?_)
        rw [byts_two hx (by omega)] at hs
        refine Evt.bind (Evt.pure _) (Evt.ite_pos (by simp) ?_)
        exact hs
      · refine Evt.ite_neg h1 (Evt.ite_pos (by simp) ?_)
        rw [byts_one hx0 (by omega)] at hs
        exact hs
    · have hp : 0 < (byts u).length := by
        refine List.length_pos_iff.2 (fun e => h0 ((toD_eq_nil b8_two).1 e))
      refine Evt.ite_pos (by simp; omega) (Evt.ite_pos (by omega) (Evt.ite_pos (by omega) (Evt.ite_pos (by simp; omega) ?_)))
      rw [byts_step hx (by omega)] at hs
      refine Evt.bind (Evt.pure _) (Evt.ite_pos (by simp; omega) ?_)
      exact hs
theorem ref_Bytes_ev (a : List Int) (ha : a.length ≤ maxLen) (da : Dig (b64 : Int) a) : Evt (fun k => windbreakref01_Bytes.f k a) (bytesV a) := by
  unfold windbreakref01_Bytes.f bytesV
  rw [windbreakref01_Right_eq ha]
  simp only [Option.bind_some]
  cases hA : rightB a with
  | true =>
    obtain ⟨h1, c1⟩ := (rightB_iff a).1 hA
    rw [if_pos rfl]
    refine Evt.ite_pos rfl ?_
    refine Evt.bind (ref_In_ev a (by omega) da) ?_
    have hv := num_lt_lim da (by omega)
    have hd := digs_len hv
    have hl := ref_Bytes_loop (num a) hv (digs (num a)).length (Nat.le_refl _)
    rw [(Nat.div_eq_zero_iff_lt (Nat.pow_pos (by decide))).2 (toD_lt_pow b16_two (num a)), show byts 0 = [] from toD_zero b8] at hl
    rw [w64 (by omega) (by omega)]
    exact hl
  | false =>
    rw [if_neg (by simp)]
    exact Evt.ite_neg (by simp) (Evt.pure _)
theorem drop_getD {l : List Int} {i : Nat} (h : i < l.length) : l.drop i = l.getD i 0 :: l.drop (i + 1) := by
  rw [List.drop_eq_getElem_cons h, List.getD_eq_getElem?_getD, List.getElem?_eq_getElem h]
  rfl
theorem ref_list_loop (l : List Int) (hb : l.length ≤ 100000) (h : ∀ x ∈ l, 0 ≤ x ∧ x ≤ 1073741824) (d : Nat) : ∀ (i : Nat) (xs : List Int), i ≤ l.length → l.length - i = d → xs.length + 10 * d < 100000000 → Evt (fun k => windbreakref12_list.l0 k l xs (i : Int)) (xs ++ encL (l.drop i)) := by
  induction d with
  | zero =>
    intro i xs hi hd hl
    refine Evt.succ ?_
    simp only [windbreakref12_list.l0]
    refine Evt.ite_neg (by omega) ((Evt.pure _).congr (fun k => rfl) ?_)
    rw [List.drop_of_length_le (by omega), encL_nil, List.append_nil]
  | succ d ih =>
    intro i xs hi hd hl
    have hlt : i < l.length := by omega
    refine Evt.succ ?_
    simp only [windbreakref12_list.l0]
    refine Evt.ite_pos (by omega) (Evt.ite_pos (by omega) ?_)
    have hx : 0 ≤ l.getD i 0 ∧ l.getD i 0 ≤ 1073741824 := by
      rw [List.getD_eq_getElem?_getD, List.getElem?_eq_getElem hlt]
      exact h _ (List.getElem_mem hlt)
    rw [rd_nat, drop_getD hlt, encL_cons]
    obtain ⟨m, hm⟩ := Int.eq_ofNat_of_zero_le hx.1
    rw [hm] at hx ⊢
    rw [wu64_of (by omega) (by omega), w64 (by omega) (by omega), Int.toNat_natCast]
    refine Evt.bind (ref_Number_ev m (by omega)) ?_
    have h2 := encN_ten (n := m) (by omega)
    refine Evt.ite_pos (by omega) ?_
    have h3 := ih (i + 1) (xs ++ encN m) (by omega) (by omega) (by simp; omega)
    rw [List.append_assoc] at h3
    exact h3
theorem ref_list_ev (l : List Int) (hb : l.length ≤ 16384) (h : ∀ x ∈ l, 0 ≤ x ∧ x ≤ 1073741824) : Evt (fun k => windbreakref12_list.f k l) (encN l.length ++ encL l) := by
  unfold windbreakref12_list.f
  rw [wu64_of (by omega) (by omega)]
  refine Evt.bind (ref_Number_ev l.length (by omega)) ?_
  have h2 := encN_ten (n := l.length) (by omega)
  exact ref_list_loop l (by omega) h l.length 0 _ (by omega) (by omega) (by omega)
theorem drop_getD2 {l : List (List Int)} {i : Nat} (h : i < l.length) : l.drop i = l.getD i [] :: l.drop (i + 1) := by
  rw [List.drop_eq_getElem_cons h, List.getD_eq_getElem?_getD, List.getElem?_eq_getElem h]
  rfl
theorem ref_Enc_l1 (a0 a1 a2 a3 : Int) (l4 l5 : List Int) (l : List (List Int)) (hb : l.length ≤ 100000) (h : ∀ a ∈ l, a.length ≤ maxLen ∧ Dig (b64 : Int) a ∧ rightB a = true ∧ a.length ≤ 4) (d : Nat) : ∀ (i : Nat) (xs : List Int), i ≤ l.length → l.length - i = d → xs.length + 42 * d < 100000000 →
    Evt (fun k => windbreakref12_Encode.l1 k xs (i : Int) a0 a1 a2 a3 l4 l5 l) (if (xs ++ encB (l.drop i)).length > 1048576 then ([], 16) else (xs ++ encB (l.drop i), 0)) := by
  induction d with
  | zero =>
    intro i xs hi hd hl
    refine Evt.succ ?_
    simp only [windbreakref12_Encode.l1]
    refine Evt.ite_neg (by omega) ?_
    rw [List.drop_of_length_le (by omega), show encB [] = [] from rfl, List.append_nil]
    by_cases hg : xs.length > 1048576
    · rw [if_pos hg]
      exact Evt.ite_pos (by omega) (Evt.pure _)
    · rw [if_neg hg]
      exact Evt.ite_neg (by omega) (Evt.pure _)
  | succ d ih =>
    intro i xs hi hd hl
    have hlt : i < l.length := by omega
    refine Evt.succ ?_
    simp only [windbreakref12_Encode.l1]
    refine Evt.ite_pos (by omega) (Evt.ite_pos (by omega) ?_)
    have hx : l.getD i [] ∈ l := by
      rw [List.getD_eq_getElem?_getD, List.getElem?_eq_getElem hlt]
      exact List.getElem_mem hlt
    rw [show rd_L3 l (i : Int) = l.getD i [] from rfl, drop_getD2 hlt, encB_cons]
    obtain ⟨h0, h1, h2, h3⟩ := h _ hx
    generalize l.getD i [] = a at h0 h1 h2 h3 ⊢
    have h4 := bytesV_len h1 h2 h3
    have h5 := encN_ten (n := (bytesV a).length) (by omega)
    have h6 : (encY (bytesV a)).length ≤ 42 := by unfold encY; simp; omega
    rw [w64 (by omega) (by omega)]
    refine Evt.bind (ref_Bytes_ev a h0 h1) (Evt.bind (ref_Bytes9_ev _ (by omega)) (Evt.ite_pos (by omega) ?_))
    have h7 := ih (i + 1) (xs ++ encY (bytesV a)) (by omega) (by omega) (by simp; omega)
    rw [List.append_assoc] at h7
    exact h7
theorem ref_Enc_l0 (a0 a1 a2 a3 : Int) (l4 l5 : List Int) (l6 : List (List Int)) (r : List Int × Int) (L : List Int) (hL : L.length = 4) (h : ∀ x ∈ L, 0 ≤ x ∧ x ≤ 1073741824) (fin : ∀ j : Nat, Evt (fun k => windbreakref12_Encode.l0 k (encL L) L 4 a0 a1 a2 a3 l4 l5 l6) r) (d : Nat) : ∀ (i : Nat) (xs : List Int), i ≤ 4 → 4 - i = d → xs ++ encL (L.drop i) = encL L → xs.length ≤ 40 → Evt (fun k => windbreakref12_Encode.l0 k xs L (i : Int) a0 a1 a2 a3 l4 l5 l6) r := by
  induction d with
  | zero =>
    intro i xs hi hd hx hl
    obtain rfl : i = 4 := by omega
    rw [List.drop_of_length_le (by omega), encL_nil, List.append_nil] at hx
    subst hx
    exact fin 0
  | succ d ih =>
    intro i xs hi hd hx hl
    have hlt : i < L.length := by omega
    refine Evt.succ ?_
    simp only [windbreakref12_Encode.l0]
    refine Evt.ite_pos (by omega) (Evt.ite_pos (by omega) (Evt.ite_pos (by omega) ?_))
    rw [drop_getD hlt, encL_cons] at hx
    have hm : 0 ≤ L.getD i 0 ∧ L.getD i 0 ≤ 1073741824 := by
      rw [List.getD_eq_getElem?_getD, List.getElem?_eq_getElem hlt]
      exact h _ (List.getElem_mem hlt)
    rw [rd_nat]
    generalize L.getD i 0 = x at hx hm ⊢
    obtain ⟨m, rfl⟩ := Int.eq_ofNat_of_zero_le hm.1
    rw [Int.toNat_natCast] at hx
    rw [wu64_of (by omega) (by omega), w64 (by omega) (by omega)]
    refine Evt.bind (ref_Number_ev m (by omega)) ?_
    have h2 := encN_ten (n := m) (by omega)
    refine Evt.ite_pos (by omega) ?_
    have hlen := congrArg List.length hx
    have b0 := encL_len h
    rw [hL] at b0
    refine ih (i + 1) (xs ++ encN m) (by omega) (by omega) (by rw [List.append_assoc]; exact hx) ?_
    simp at hlen ⊢
    omega
theorem ref_Encode_ev (a0 a1 a2 a3 : Int) (l4 l5 : List Int) (l6 : List (List Int)) (h : ∀ a ∈ l6, a.length ≤ maxLen ∧ Dig (b64 : Int) a) : Evt (fun k => windbreakref12_Encode.f k a0 a1 a2 a3 l4 l5 l6) (encodeV a0 a1 a2 a3 l4 l5 l6) := by
  unfold windbreakref12_Encode.f encodeV windbreakref12_Right.f
  rw [wire_Right_eq _ _ _ _ _ _ _ (fun a ha => (h a ha).1)]
  simp only [Option.bind_some]
  cases hR : rightV a0 a1 a2 a3 l4 l5 l6 with
  | false => rw [if_neg (by decide)]; exact Evt.ite_neg (by decide) (Evt.pure _)
  | true =>
    rw [if_pos rfl]
    obtain ⟨o0, o1, o2, o3, n4, n5, n6, h4, h5, h6⟩ := right_parts hR
    have b4 := encL_len h4
    have b5 := encL_len h5
    have hm : ∀ x ∈ [a0, a1, a2, a3], 0 ≤ x ∧ x ≤ 1073741824 := by intro x hx; simp at hx; rcases hx with rfl | rfl | rfl | rfl <;> assumption
    have b0 := encL_len hm
    have t4 := encN_ten (n := l4.length) (by omega)
    have t5 := encN_ten (n := l5.length) (by omega)
    have t6 := encN_ten (n := l6.length) (by omega)
    simp only [List.length_cons, List.length_nil] at b0
    refine Evt.ite_pos rfl ?_
    refine ref_Enc_l0 a0 a1 a2 a3 l4 l5 l6 _ [a0, a1, a2, a3] rfl hm (fun _ => ?_) 4 0 [] (by omega) (by omega) (by simp) (by simp)
    refine Evt.succ ?_
    simp only [windbreakref12_Encode.l0]
    refine Evt.ite_neg (by omega) ?_
    refine Evt.bind (ref_list_ev l4 n4 h4) (Evt.ite_pos (by simp; omega) ?_)
    refine Evt.bind (Evt.pure _) (Evt.bind (ref_list_ev l5 n5 h5) (Evt.ite_pos (by simp; omega) ?_))
    refine Evt.bind (Evt.pure _) ?_
    rw [wu64_of (by omega) (by omega)]
    refine Evt.bind (ref_Number_ev l6.length (by omega)) (Evt.ite_pos (by simp; omega) ?_)
    exact ref_Enc_l1 a0 a1 a2 a3 l4 l5 l6 (by omega) (fun a ha => ⟨(h a ha).1, (h a ha).2, h6 a ha⟩) l6.length 0 _ (by omega) (by omega) (by simp; omega)
end Go.Proofs.Ytanmfddlncdncab.Z
end
section
namespace Go.Proofs.Ytanmfddlncdncab.Pure
open Go.RowKit Go.Proofs.Ytanmfddlncdncab.F Go.Proofs.Ytanmfddlncdncab.Z
set_option linter.unusedSimpArgs false
set_option linter.unusedVariables false
theorem WireEncodes : windbreaklaw12_WireEncodes.Pure := by
  intro x hx
  apply Evt.get
  have hd : ∀ a ∈ x.2.2.2.2.2.2, a.length ≤ maxLen ∧ Dig (b64 : Int) a := fun a ha => ⟨(hx a ha).1, dig_of_wf (hx a ha).2⟩
  unfold windbreaklaw12_WireEncodes.f
  refine Evt.bind awake12_ev ?_
  refine Evt.bind (wire_Encode_ev x.1 x.2.1 x.2.2.1 x.2.2.2.1 x.2.2.2.2.1 x.2.2.2.2.2.1 x.2.2.2.2.2.2 hd) ?_
  refine Evt.bind (ref_Encode_ev x.1 x.2.1 x.2.2.1 x.2.2.2.1 x.2.2.2.2.1 x.2.2.2.2.2.1 x.2.2.2.2.2.2 hd) ?_
  refine Evt.ite_pos rfl (Evt.ite_pos rfl ((Evt.pure _).congr (fun k => rfl) ?_))
  simp
end Go.Proofs.Ytanmfddlncdncab.Pure
end
section
namespace Go.Proofs.YtanmfddlncdncabW.PrintWords
open Go.ChangeShapes Go.WideShapes
end Go.Proofs.YtanmfddlncdncabW.PrintWords
end
section
namespace Go.Proofs.Ytanmfddlncdncab.wireEncodes
open Go.ChangeShapes Go.WideShapes Go.ChangeAt Go.RowKit Go.Proofs.Ytanmfddlncdncab.F Go.Proofs.YtanmfddlncdncabW.PrintWords
set_option linter.unusedSimpArgs false
open Go.ChangeMaps (open_string shut_string)
set_option linter.unusedVariables false
theorem own : ownKnob Try.prog.godebug = none := by kernel_rfl
theorem laidOut : laidOutB Try.prog = true := by kernel_rfl
set_option maxRecDepth 100000 in
theorem lifted (os : Os) (started : os.Started) (H : Type) (enc : TypeId × Value → H) :
    ReturnsInHanded {} Try.checked os 3 .any (Rows.wireEncodesSpec.pre6 enc Try.prog Try.f3 Rows.wireEncodesRow.domain false) (Rows.wireEncodesSpec.post enc Try.prog Try.f3 false true false false) := by
  refine returnsInHanded_of_change_sized (C := Try.checked) own started (by kernel_rfl) Try.func3
    (ChangeSpec.witness6 (enc := enc) (C := Try.checked) false ⟨#[], #[.agg #[.int .i64 0, .int .i64 0, .int .i64 0, .int .i64 0, .slice none 0 0, .slice none 0 0, .slice none 0 0]], []⟩ 8 (by kernel_rfl) (by kernel_rfl) (by kernel_rfl) (by kernel_rfl)) ?_
  intro W base args ds gs before hval0 hW hcnd hsz0 _
  have hsz : (DataW.weightsEach Try.prog (Try.f3.params.toList ++ Rows.wireEncodesSpec.plain.varTypes Try.prog) (ds ++ gs)).all (· ≤ reachBytes) = true := hsz0
  have hval : ∀ (j : Nat) t v, Try.f3.params[j]? = some t → args[j]? = some v → Value.okWide Try.prog W .any base t v := hval0
  have hW' := hW
  obtain ⟨p, q, hA0, hV, rfl, hfz, hnd⟩ := hW
  have hA : DataW.TrodAll enc Try.prog W 0 (fun _ => true) true Try.f3.params.toList args.toList ds p := hA0
  rw [Try.params3] at hA hval hsz
  obtain ⟨v0, vs0, d0, ds0, p0, q0, hargs, rfl, rfl, h0, r0⟩ := trodAll_cons hA
  obtain ⟨rfl, rfl, rfl⟩ := trodAll_nil r0
  obtain rfl : args = #[v0] := by cases args; simp_all
  obtain ⟨rfl, rfl⟩ := trodVars_none hV
  obtain ⟨cs0, rfl, _⟩ := okWide_struct Try.underlying25 (hval 0 25 v0 rfl rfl)
  have k0 := h0
  have lt0 : ∀ x ∈ p0, x.block < W.heap.size := by obtain ⟨m, hm⟩ := k0; exact DataW.trod_lt m _ _ _ hm
  obtain ⟨m0, hm0⟩ := h0
  obtain ⟨x0, hK0, ok0⟩ := (Opens.struct7 Try.underlying25 (by kernel_rfl) rfl (by kernel_rfl) rfl (by kernel_rfl) rfl (by kernel_rfl) rfl (by kernel_rfl) rfl (by kernel_rfl) rfl (by kernel_rfl) rfl (by kernel_rfl) (Opens.int Try.underlying3) (Opens.int Try.underlying3) (Opens.int Try.underlying3) (Opens.int Try.underlying3) (Opens.slice Try.underlying22 (by kernel_rfl) (Opens.int Try.underlying3)) (Opens.slice Try.underlying22 (by kernel_rfl) (Opens.int Try.underlying3)) (Opens.slice Try.underlying23 (by kernel_rfl) (Opens.slice Try.underlying41 (by kernel_rfl) (Opens.int Try.underlying37)))) enc W true m0 _ _ hm0
  clear hA0 hval0 hsz0 hsz
  refine (F.windbreaklaw12_WireEncodes.row Pure.WireEncodes W cs0 x0 hK0 ok0).mono fun e W' ⟨he, bel⟩ => ?_
  subst he
  exact ⟨_, rfl, _, _, _, [], _, [], hW', trodAll_mk1 (shut_bool Try.underlying4 _), (trodAll_cons_mk (Below.trod laidOut (by kernel_rfl) (of_decide_eq_true (by kernel_rfl)) k0 bel lt0) trodAll_mk0), rfl, bel.frame _, fun h => by cases h⟩
theorem over : Rows.wireEncodesRow.holds Try.pinned (OpenSpec.ofChange Rows.wireEncodesSpec) :=
  OpenClaim.holds_of_wide 3 Try.f3 rfl rfl rfl rfl rfl rfl rfl ⟨rfl, rfl, rfl, rfl, rfl⟩ rfl rfl rfl rfl rfl (by kernel_rfl) Try.func3 (by kernel_rfl)
    (of_decide_eq_true (by kernel_rfl)) (by unfold Func.isWrapper; first | (rw [if_pos (by decide +kernel)]; kernel_rfl) | (rw [if_neg (by decide +kernel)]; exact ⟨rfl, rfl⟩))
    (fun os started H enc _ => lifted os started H enc)
theorem proved : Rows.WireEncodesSaid := over
#print axioms proved
end Go.Proofs.Ytanmfddlncdncab.wireEncodes
namespace Go.Proofs.Ytanmfddlncdncab
theorem wireEncodes_holds : Rows.WireEncodesSaid := wireEncodes.proved
end Go.Proofs.Ytanmfddlncdncab
end
