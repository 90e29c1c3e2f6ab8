/- Proved: the law PrimeChecks of layer 5: whether any two numbers are a key is the document's answer; for every input, without a condition. -/
import Derived.Test.YtgeanpnkllnipaaMPrimeChecksb
section
namespace Go.Proofs.Ytgeanpnkllnipaa.F
open Go.RowKit Go.Proofs.YtgeanpnkllnipaaW.PrintWords Go.Proofs.YtgeanpnkllnipaaW.PrintLast Go.Proofs.YtgeanpnkllnipaaW.PrintMore
set_option linter.unusedVariables false
set_option linter.unusedSimpArgs false
open Go.Proofs.Ytgeanpnkllnipaa.Z (Dig b64 num limbs)
theorem run_store_func {P : Program} {w : World} {a : Addr} (f : Fn) (x y : Array Value) {m : Mode} : (store a (.func f x y) m).run P w = stored P w a (.func f x y) m := run_store P w a _ m rfl
attribute [local go_sem] run_store_func
def limbB (l : List Int) : Bool := l.all fun x => decide (0 ≤ x ∧ x < 18446744073709551616)
theorem limbB_dig {l : List Int} (h : limbB l = true) : Dig (b64 : Int) l := fun x hx => of_decide_eq_true (List.all_eq_true.1 h x hx)
theorem dig_limbB {l : List Int} (h : Dig (b64 : Int) l) : limbB l = true := List.all_eq_true.2 (fun x hx => decide_eq_true (h x hx))
def nat_product.f (l0 l1 : List Int) : Option (List Int) := if (decide (l0.length ≤ 400) && decide (l1.length ≤ 400) && limbB l0 && limbB l1) = true then some (limbs (num l0 * num l1)) else none
set_option maxHeartbeats 8000000 in
set_option maxRecDepth 100000 in
theorem nat_product.calls (A0 : Option Addr) (c0 : Nat) (l0 : List Int) (A1 : Option Addr) (c1 : Nat) (l1 : List Int) (r : List Int) (w : World) (hr0 : Kd.C (Kd.int .u64) w A0 l0.length l0) (hc0 : l0.length ≤ c0) (hr1 : Kd.C (Kd.int .u64) w A1 l1.length l1) (hc1 : l1.length ≤ c1) (h : nat_product.f l0 l1 = some r) :
    Calls Try.prog 89 #[.slice A0 l0.length c0, .slice A1 l1.length c1] w fun e w' => ∃ v0_ : Value, e = .returned (v0_) ∧ Kd.R (Kd.int .u64) 47 w' w.heap.size (fun _ => True) v0_ r ∧ Below w.heap.size w w' := by
  unfold nat_product.f at h
  by_cases hh : (decide (l0.length ≤ 400) && decide (l1.length ≤ 400) && limbB l0 && limbB l1) = true
  · rw [if_pos hh] at h
    obtain rfl := Option.some.inj h
    simp only [Bool.and_eq_true, decide_eq_true_eq] at hh
    obtain ⟨⟨⟨h0, h1⟩, d0⟩, d1⟩ := hh
    clear h
    have HH := Aside0.mk (show ∀ W : World, Below w.heap.size w W → W.heap[w.heap.size]? = some (hobj w.heap.size) → Halved w.heap.size A0 c0 l0 A1 c1 l1 W from fun W hb hg =>
      halves_all w.heap.size (l0.length + l1.length) A0 c0 l0 A1 c1 l1 W (Nat.le_refl _) h0 h1 (limbB_dig d0) (limbB_dig d1) (Kd.C_below hr0 hb) hc0 (Kd.C_below hr1 hb) hc1 hg)
    clear hr0 hc0 hr1 hc1 h0 h1 d0 d1
    unfold Halved at HH
    have hnew := blk_new w (hobj w.heap.size)
    have HB := Aside0.mk (below_alloc (Below.refl w.heap.size w) (hobj w.heap.size))
    have HNEW := Aside0.mk hnew
    have hcell := (blk_cell hnew 0).trans rfl
    clear hnew
    unfold hobj hval at HB HNEW hcell
    go_enter Try.func89, Try.ntmps89
    go_wp2_with (go_at_call 102; (refine (HH.out _ HB.out HNEW.out).mono ?_); rintro e w2 ⟨v, rfl, hR, hb⟩; have HR := Aside0.mk hR; have HB2 := Aside0.mk hb; clear hR hb)
    go_ret
    exact ⟨_, rfl, Kd.R_lower HR.out HB.out.size, below_step HB.out HB2.out⟩
  · rw [if_neg hh] at h
    cases h
end Go.Proofs.Ytgeanpnkllnipaa.F
end
section
namespace Go.Proofs.Ytgeanpnkllnipaa.F
open Go.RowKit Go.Proofs.YtgeanpnkllnipaaW.PrintWords Go.Proofs.YtgeanpnkllnipaaW.PrintLast Go.Proofs.YtgeanpnkllnipaaW.PrintMore
attribute [local go_sem] max2_int min2_int max_two min_two max_three min_three max_four min_four
set_option linter.unusedVariables false
set_option linter.unusedSimpArgs false
def nat_Mul.f (k : Nat) (l0 : List Int) (l1 : List Int) : Option (List Int × Int) := (nat_right.f (([l0, l1] : List (List Int)))).bind fun t409 => (if t409 = true then ((nat_product.f l0 l1).bind fun t410 => ((nat_told.f k t410).bind fun bt413 => (some (bt413.1, bt413.2)))) else (some (([] : List Int), 1)))
set_option maxHeartbeats 8000000 in
set_option maxRecDepth 100000 in
theorem nat_Mul.calls (k : Nat) (P0_ : Nat → Prop) (A0 : Option Addr) (c0 : Nat) (l0 : List Int) (P1_ : Nat → Prop) (A1 : Option Addr) (c1 : Nat) (l1 : List Int) (r1 : List Int) (r2 : Int) (w : World) (hs0 : Kd.V (Kd.int .u64) 47 w w.heap.size (fun k_ => P0_ k_) (.slice A0 l0.length c0) l0) (hs1 : Kd.V (Kd.int .u64) 47 w w.heap.size (fun k_ => P1_ k_) (.slice A1 l1.length c1) l1) (h : nat_Mul.f k l0 l1 = some (r1, r2)) :
  Calls Try.prog 63 #[.slice A0 l0.length c0, .slice A1 l1.length c1] w fun e w' => ∃ v0_ : Value, e = .returned (.tuple #[v0_, .int .i64 r2]) ∧ Kd.R (Kd.int .u64) 47 w' w.heap.size (fun k_ => (w.heap.size ≤ k_)) v0_ r1 ∧ Below w.heap.size w w' := by
 have HO0 := Aside0.mk (show Kd.V (Kd.int .u64) 47 w w.heap.size (fun k_ => ((P0_ k_ ∨ P1_ k_) ∨ w.heap.size ≤ k_)) (.slice A0 l0.length c0) l0 from Kd.V_mono hs0 (fun k_ hk => .inl (.inl hk)))
 have HO1 := Aside0.mk (show Kd.V (Kd.int .u64) 47 w w.heap.size (fun k_ => ((P0_ k_ ∨ P1_ k_) ∨ w.heap.size ≤ k_)) (.slice A1 l1.length c1) l1 from Kd.V_mono hs1 (fun k_ hk => .inl (.inr hk)))
 have HB := Aside0.mk (Below.refl w.heap.size w)
 have H : ((nat_right.f (([l0, l1] : List (List Int)))).bind fun t409 => (if t409 = true then ((nat_product.f l0 l1).bind fun t410 => ((nat_told.f k t410).bind fun bt413 => (some (bt413.1, bt413.2)))) else (some (([] : List Int), 1)))) = some (r1, r2) := h
 clear h
 obtain ⟨y406, hy406⟩ : ∃ y_ : List (List Int), y_ = (([l0, l1] : List (List Int))) := ⟨_, rfl⟩
 replace H : ((nat_right.f y406).bind fun t409 => (if t409 = true then ((nat_product.f l0 l1).bind fun t410 => ((nat_told.f k t410).bind fun bt413 => (some (bt413.1, bt413.2)))) else (some (([] : List Int), 1)))) = some (r1, r2) := by first | (rw [hy406]; with_reducible exact H) | (have H2_ := (Option.bind_some _ _).symm.trans H; rw [hy406]; with_reducible exact H2_) | (have H2_ := (Option.bind_some _ _).symm.trans H; with_reducible exact H2_) | with_reducible exact H | (rw [hy406]; exact H) | exact H
 have Ny406 := Aside0.mk hy406; clear hy406
 replace H := ub H; obtain ⟨t409, A3, H⟩ := H
 by_cases c4 : t409 = true
 ·
  subst c4
  have H1 : ((nat_product.f l0 l1).bind fun t410 => ((nat_told.f k t410).bind fun bt413 => (some (bt413.1, bt413.2)))) = some (r1, r2) := by rw [if_pos rfl] at H; exact H
  clear H; have H := H1; clear H1
  replace H := ub H; obtain ⟨t410, A5, H⟩ := H
  replace H := ub H; obtain ⟨⟨t413, t416⟩, A6, H⟩ := H
  (try dsimp only at H)
  simp only [Option.some.injEq, Prod.mk.injEq] at H
  obtain ⟨rfl, rfl⟩ := H
  go_enter Try.func63, Try.ntmps63
  go_wp2_with (first | ((with_reducible refine gate_dst (N := 8) rfl ?_); refine Kd.N_lit (Kd.slice 47 (Kd.int .u64)) _ 29 ?hg (N' := 8) ?hd (xs := ([l0, l1] : List (List Int))) (inner := [.slice A0 l0.length c0, .slice A1 l1.length c1]) (ok := (fun k_ => ((P0_ k_ ∨ P1_ k_) ∨ w.heap.size ≤ k_))) (okp := (fun k_ => ((P0_ k_ ∨ P1_ k_) ∨ w.heap.size ≤ k_))) ?hr ?hp (fun _ hk => hk) ((show ∀ k_, w.heap.size ≤ k_ → (fun k_ => ((P0_ k_ ∨ P1_ k_) ∨ w.heap.size ≤ k_)) k_ from fun k_ hk => (.inr (Nat.le_trans (below_size uB) hk))) _ (Nat.le_refl _)) (Below.refl _ _) (Nat.le_refl _) (by simp) ?_; (case hd => rfl); (case hg => rfl); (case hr => first | (go_simp; done) | (go_simp; rfl) | (go_simp; simp only [u64_u8]; done) | (go_simp; simp only [u64_u8]; rfl)); (case hp => exact (Reps.one (show Kd.FK (Kd.slice 47 (Kd.int .u64)) _ _ l0 [.slice A0 l0.length c0] from (Kd.FK_slice_mk (Kd.V_reads' (Kd.V_mono (ok' := (fun k_ => ((P0_ k_ ∨ P1_ k_) ∨ w.heap.size ≤ k_))) (HO0.out) (fun k_ hk => hk))).2.1 (Kd.V_F (Kd.V_mono (ok' := (fun k_ => ((P0_ k_ ∨ P1_ k_) ∨ w.heap.size ≤ k_))) (HO0.out) (fun k_ hk => hk))))) (Reps.one (show Kd.FK (Kd.slice 47 (Kd.int .u64)) _ _ l1 [.slice A1 l1.length c1] from (Kd.FK_slice_mk (Kd.V_reads' (Kd.V_mono (ok' := (fun k_ => ((P0_ k_ ∨ P1_ k_) ∨ w.heap.size ≤ k_))) (HO1.out) (fun k_ hk => hk))).2.1 (Kd.V_F (Kd.V_mono (ok' := (fun k_ => ((P0_ k_ ∨ P1_ k_) ∨ w.heap.size ≤ k_))) (HO1.out) (fun k_ hk => hk))))) (Reps.none _ _)))); intro v407 w7 ho8 hb hg_ hnew_; clear hg_ hnew_; (first | rw [← Ny406.out] at ho8 | (simp only [Int.reduceToNat] at ho8; rw [← Ny406.out] at ho8)); replace HO0 := Aside0.mk (Kd.V_elder' (uV HO0.out) (Kd.N_base ho8) hb); replace HO1 := Aside0.mk (Kd.V_elder' (uV HO1.out) (Kd.N_base ho8) hb); have HO408 := Aside0.mk (Kd.N_lower ho8 (below_size uB)); replace HB := uy hb; clear hb ho8; obtain ⟨Ao9, co9, eo9⟩ := Kd.N_slice HO408.out; subst eo9) | ((with_reducible refine gate_callee (f := 74) rfl ?_); refine goesL_ (some 9) rfl rfl Try.func74 (by kernel_rfl) rfl #[.slice Ao9 y406.length co9] rfl uM ?_; (with_reducible refine (nat_right.calls _ _ y406 true _ ?side1 ?side2 A3.out).mono ?_); (case side1 => exact uC (Kd.N_reads' HO408.out).2.2); (case side2 => exact (Kd.N_reads' HO408.out).2.1); rintro e w' ⟨rfl, ⟨nd, rfl⟩⟩; refine ⟨_, rfl, ?_⟩) | ((with_reducible refine gate_callee (f := 89) rfl ?_); refine goesL_ (some 13) rfl rfl Try.func89 (by kernel_rfl) rfl #[.slice A0 l0.length c0, .slice A1 l1.length c1] rfl uM ?_; (with_reducible refine (nat_product.calls _ _ l0 _ _ l1 t410 _ ?side1 ?side2 ?side3 ?side4 A5.out).mono ?_); (case side1 => exact uC (Kd.V_reads' HO0.out).2.2); (case side2 => exact (Kd.V_reads' HO0.out).2.1); (case side3 => exact uC (Kd.V_reads' HO1.out).2.2); (case side4 => exact (Kd.V_reads' HO1.out).2.1); rintro e w10 ⟨v411, rfl, ho0, hb⟩; refine ⟨_, rfl, ?_⟩; replace HO0 := ueV HO0 ho0 hb; replace HO1 := ueV HO1 ho0 hb; replace HO408 := ueN HO408 ho0 hb; have HO412 := Aside0.mk (Kd.R_lower (Kd.R_newM (M := fun k_ => (w.heap.size ≤ k_)) ho0 (below_size uB) (fun k_ h_ => h_)) (below_size uB)); replace HB := uy hb; (try clear hb ho0); obtain ⟨Ao11, co11, eo11⟩ := Kd.R_slice HO412.out; subst eo11) | ((with_reducible refine gate_callee (f := 76) rfl ?_); refine goesL_ (some 14) rfl rfl Try.func76 (by kernel_rfl) rfl #[.slice Ao11 t410.length co11] rfl uM ?_; (with_reducible refine (nat_told.calls k (fun k_ => some k_ = (.slice Ao11 t410.length co11 : Value).ownBlock) (.slice Ao11 t410.length co11) t410 t413 t416 w _ ?side1 ?side2 A6.out).mono ?_); (case side1 => repeat (first | (with_reducible first | exact HB.out | apply below_alloc | apply pw_below_drewN | apply below_drew1) | exact HB.out)); (case side2 => exact Kd.R_tight rfl HO412.out); rintro e w12 ⟨v414, rfl, ho0, hb, hkp⟩; refine ⟨_, rfl, ?_⟩; replace HO0 := Aside0.mk (Kd.V_mono (ok' := fun k_ => ((P0_ k_ ∨ P1_ k_) ∨ w.heap.size ≤ k_) ∧ some k_ ≠ (.slice Ao9 y406.length co9 : Value).ownBlock ∧ some k_ ≠ (v414 : Value).ownBlock) (Kd.V_keptB (HO0.out) hkp (fun k_ hk_ hs_ => (hk_.2) hs_)) (fun k_ hk_ => ⟨hk_.1.1.1, hk_.1.1.2, fun e_ => Or.elim (ho0.1 k_ e_.symm) (fun hs_ => hk_.2.1 hs_) (fun hn_ => Nat.not_le.2 hk_.2.2 hn_)⟩)); replace HO1 := Aside0.mk (Kd.V_mono (ok' := fun k_ => ((P0_ k_ ∨ P1_ k_) ∨ w.heap.size ≤ k_) ∧ some k_ ≠ (.slice Ao9 y406.length co9 : Value).ownBlock ∧ some k_ ≠ (v414 : Value).ownBlock) (Kd.V_keptB (HO1.out) hkp (fun k_ hk_ hs_ => (hk_.2) hs_)) (fun k_ hk_ => ⟨hk_.1.1.1, hk_.1.1.2, fun e_ => Or.elim (ho0.1 k_ e_.symm) (fun hs_ => hk_.2.1 hs_) (fun hn_ => Nat.not_le.2 hk_.2.2 hn_)⟩)); replace HO408 := Aside0.mk (Kd.N_mono (ok' := fun k_ => ((P0_ k_ ∨ P1_ k_) ∨ w.heap.size ≤ k_) ∧ some k_ ≠ (v414 : Value).ownBlock) (Kd.N_keptB (HO408.out) hkp (fun k_ hk_ hs_ => (hk_.2) hs_)) (fun k_ hk_ => ⟨hk_.1.1, fun e_ => Or.elim (ho0.1 k_ e_.symm) (fun hs_ => hk_.2.1 hs_) (fun hn_ => Nat.not_le.2 hk_.2.2 hn_)⟩)); have HO415 := Aside0.mk (Kd.R_mono (ok' := fun k_ => (w.heap.size ≤ k_)) ho0 (fun k_ hk_ => Or.elim hk_ (fun hs_ => (HO412.out.1 k_ (hs_).symm).1) (fun hn_ => (Nat.le_trans (below_size uB) hn_)))); replace HB := Aside0.mk (hb); clear HO412; (try clear hb); (try clear hkp); (try clear ho0)))
  go_ret2
  exact ⟨_, uF, uR HO415.out, uB⟩
 replace c4 := Bool.eq_false_iff.mpr c4
 subst c4
 have H1 : (some (([] : List Int), 1)) = some (r1, r2) := by rw [if_neg (show ¬ (false = true) by decide)] at H; exact H
 clear H; have H := H1; clear H1
 simp only [Option.some.injEq, Prod.mk.injEq] at H
 obtain ⟨rfl, rfl⟩ := H
 go_enter Try.func63, Try.ntmps63
 go_wp2_with (first | ((with_reducible refine gate_dst (N := 8) rfl ?_); refine Kd.N_lit (Kd.slice 47 (Kd.int .u64)) _ 29 ?hg (N' := 8) ?hd (xs := ([l0, l1] : List (List Int))) (inner := [.slice A0 l0.length c0, .slice A1 l1.length c1]) (ok := (fun k_ => ((P0_ k_ ∨ P1_ k_) ∨ w.heap.size ≤ k_))) (okp := (fun k_ => ((P0_ k_ ∨ P1_ k_) ∨ w.heap.size ≤ k_))) ?hr ?hp (fun _ hk => hk) ((show ∀ k_, w.heap.size ≤ k_ → (fun k_ => ((P0_ k_ ∨ P1_ k_) ∨ w.heap.size ≤ k_)) k_ from fun k_ hk => (.inr (Nat.le_trans (below_size uB) hk))) _ (Nat.le_refl _)) (Below.refl _ _) (Nat.le_refl _) (by simp) ?_; (case hd => rfl); (case hg => rfl); (case hr => first | (go_simp; done) | (go_simp; rfl) | (go_simp; simp only [u64_u8]; done) | (go_simp; simp only [u64_u8]; rfl)); (case hp => exact (Reps.one (show Kd.FK (Kd.slice 47 (Kd.int .u64)) _ _ l0 [.slice A0 l0.length c0] from (Kd.FK_slice_mk (Kd.V_reads' (Kd.V_mono (ok' := (fun k_ => ((P0_ k_ ∨ P1_ k_) ∨ w.heap.size ≤ k_))) (HO0.out) (fun k_ hk => hk))).2.1 (Kd.V_F (Kd.V_mono (ok' := (fun k_ => ((P0_ k_ ∨ P1_ k_) ∨ w.heap.size ≤ k_))) (HO0.out) (fun k_ hk => hk))))) (Reps.one (show Kd.FK (Kd.slice 47 (Kd.int .u64)) _ _ l1 [.slice A1 l1.length c1] from (Kd.FK_slice_mk (Kd.V_reads' (Kd.V_mono (ok' := (fun k_ => ((P0_ k_ ∨ P1_ k_) ∨ w.heap.size ≤ k_))) (HO1.out) (fun k_ hk => hk))).2.1 (Kd.V_F (Kd.V_mono (ok' := (fun k_ => ((P0_ k_ ∨ P1_ k_) ∨ w.heap.size ≤ k_))) (HO1.out) (fun k_ hk => hk))))) (Reps.none _ _)))); intro v407 w13 ho14 hb hg_ hnew_; clear hg_ hnew_; (first | rw [← Ny406.out] at ho14 | (simp only [Int.reduceToNat] at ho14; rw [← Ny406.out] at ho14)); replace HO0 := Aside0.mk (Kd.V_elder' (uV HO0.out) (Kd.N_base ho14) hb); replace HO1 := Aside0.mk (Kd.V_elder' (uV HO1.out) (Kd.N_base ho14) hb); have HO408 := Aside0.mk (Kd.N_lower ho14 (below_size uB)); replace HB := uy hb; clear hb ho14; obtain ⟨Ao15, co15, eo15⟩ := Kd.N_slice HO408.out; subst eo15) | ((with_reducible refine gate_callee (f := 74) rfl ?_); refine goesL_ (some 9) rfl rfl Try.func74 (by kernel_rfl) rfl #[.slice Ao15 y406.length co15] rfl uM ?_; (with_reducible refine (nat_right.calls _ _ y406 false _ ?side1 ?side2 A3.out).mono ?_); (case side1 => exact uC (Kd.N_reads' HO408.out).2.2); (case side2 => exact (Kd.N_reads' HO408.out).2.1); rintro e w' ⟨rfl, ⟨nd, rfl⟩⟩; refine ⟨_, rfl, ?_⟩))
 go_ret2
 exact ⟨_, uF, uI, uB⟩
end Go.Proofs.Ytgeanpnkllnipaa.F
end
section
namespace Go.Proofs.Ytgeanpnkllnipaa.F
open Go.RowKit Go.Proofs.YtgeanpnkllnipaaW.PrintWords Go.Proofs.YtgeanpnkllnipaaW.PrintLast Go.Proofs.YtgeanpnkllnipaaW.PrintMore
attribute [local go_sem] max2_int min2_int max_two min_two max_three min_three max_four min_four
set_option linter.unusedVariables false
set_option linter.unusedSimpArgs false
mutual
def bits_Div64.j2 : Nat → Int → Int → Int → Int → Int → Int → Int → Int → Option (Int × Int)
 | 0, _, _, _, _, _, _, _, _ => none
 | k + 1, x2, x8, x9, x10, x11, x13, x14, x15 => if x9 = 0 then (none) else (bits_Div64.l1 k x2 x8 x9 x10 x14 x15 (IntKind.u64.wrap ((IntKind.u64.wrap ((IntKind.u64.wrap ((IntKind.u64.wrap (x11 * 4294967296)) + x13)) - (IntKind.u64.wrap (x15 * x2)))) - (IntKind.u64.wrap ((IntKind.u64.wrap (Int.tdiv (IntKind.u64.wrap ((IntKind.u64.wrap ((IntKind.u64.wrap (x11 * 4294967296)) + x13)) - (IntKind.u64.wrap (x15 * x2)))) x9)) * x9)))) (IntKind.u64.wrap ((IntKind.u64.wrap ((IntKind.u64.wrap (x11 * 4294967296)) + x13)) - (IntKind.u64.wrap (x15 * x2)))) (IntKind.u64.wrap (Int.tdiv (IntKind.u64.wrap ((IntKind.u64.wrap ((IntKind.u64.wrap (x11 * 4294967296)) + x13)) - (IntKind.u64.wrap (x15 * x2)))) x9)))
def bits_Div64.l1 : Nat → Int → Int → Int → Int → Int → Int → Int → Int → Int → Option (Int × Int)
 | 0, _, _, _, _, _, _, _, _, _ => none
 | k + 1, x2, x8, x9, x10, x14, x15, x16, x17, x18 => if x18 ≥ 4294967296 then (bits_Div64.j4 k x2 x8 x9 x10 x14 x15 x16 x17 x18 true) else (bits_Div64.j4 k x2 x8 x9 x10 x14 x15 x16 x17 x18 (decide ((IntKind.u64.wrap (x18 * x10)) > (IntKind.u64.wrap ((IntKind.u64.wrap (4294967296 * x16)) + x14)))))
def bits_Div64.j4 : Nat → Int → Int → Int → Int → Int → Int → Int → Int → Int → Bool → Option (Int × Int)
 | 0, _, _, _, _, _, _, _, _, _, _ => none
 | k + 1, x2, x8, x9, x10, x14, x15, x16, x17, x18, x113 => if x113 = true then (if (IntKind.u64.wrap (x16 + x9)) ≥ 4294967296 then (if 0 ≤ x8 then (some (IntKind.u64.wrap ((IntKind.u64.wrap (x15 * 4294967296)) + (IntKind.u64.wrap (x18 - 1))), shr .u64 (IntKind.u64.wrap ((IntKind.u64.wrap ((IntKind.u64.wrap (x17 * 4294967296)) + x14)) - (IntKind.u64.wrap ((IntKind.u64.wrap (x18 - 1)) * x2)))) x8)) else (none)) else (bits_Div64.l1 k x2 x8 x9 x10 x14 x15 (IntKind.u64.wrap (x16 + x9)) x17 (IntKind.u64.wrap (x18 - 1)))) else (if 0 ≤ x8 then (some (IntKind.u64.wrap ((IntKind.u64.wrap (x15 * 4294967296)) + x18), shr .u64 (IntKind.u64.wrap ((IntKind.u64.wrap ((IntKind.u64.wrap (x17 * 4294967296)) + x14)) - (IntKind.u64.wrap (x18 * x2)))) x8)) else (none))
def bits_Div64.l0 : Nat → Int → Int → Int → Int → Int → Int → Int → Int → Int → Option (Int × Int)
 | 0, _, _, _, _, _, _, _, _, _ => none
 | k + 1, x2, x8, x9, x10, x11, x13, x14, x15, x16 => if x15 ≥ 4294967296 then (bits_Div64.j1 k x2 x8 x9 x10 x11 x13 x14 x15 x16 true) else (bits_Div64.j1 k x2 x8 x9 x10 x11 x13 x14 x15 x16 (decide ((IntKind.u64.wrap (x15 * x10)) > (IntKind.u64.wrap ((IntKind.u64.wrap (4294967296 * x16)) + x13)))))
def bits_Div64.j1 : Nat → Int → Int → Int → Int → Int → Int → Int → Int → Int → Bool → Option (Int × Int)
 | 0, _, _, _, _, _, _, _, _, _, _ => none
 | k + 1, x2, x8, x9, x10, x11, x13, x14, x15, x16, x78 => if x78 = true then (if (IntKind.u64.wrap (x16 + x9)) ≥ 4294967296 then (bits_Div64.j2 k x2 x8 x9 x10 x11 x13 x14 (IntKind.u64.wrap (x15 - 1))) else (bits_Div64.l0 k x2 x8 x9 x10 x11 x13 x14 (IntKind.u64.wrap (x15 - 1)) (IntKind.u64.wrap (x16 + x9)))) else (bits_Div64.j2 k x2 x8 x9 x10 x11 x13 x14 x15)
end
def bits_Div64.f (k : Nat) (a0 : Int) (a1 : Int) (a2 : Int) : Option (Int × Int) := if a2 = 0 then (none) else (if a2 ≤ a0 then (none) else (if a0 = 0 then (some (IntKind.u64.wrap (Int.tdiv a1 a2), Int.tmod a1 a2)) else ((bits_LeadingZeros64.f k a2).bind fun t424 => (if 0 ≤ (IntKind.u64.wrap (t424)) then (if 0 ≤ (IntKind.u64.wrap (64 - (IntKind.u64.wrap (t424)))) then (if ((shl .u64 a2 (IntKind.u64.wrap (t424))) / 4294967296) = 0 then (none) else (bits_Div64.l0 k (shl .u64 a2 (IntKind.u64.wrap (t424))) (IntKind.u64.wrap (t424)) ((shl .u64 a2 (IntKind.u64.wrap (t424))) / 4294967296) (Go.bits .and .u64 (shl .u64 a2 (IntKind.u64.wrap (t424))) 4294967295) (Go.bits .or .u64 (shl .u64 a0 (IntKind.u64.wrap (t424))) (shr .u64 a1 (IntKind.u64.wrap (64 - (IntKind.u64.wrap (t424)))))) ((shl .u64 a1 (IntKind.u64.wrap (t424))) / 4294967296) (Go.bits .and .u64 (shl .u64 a1 (IntKind.u64.wrap (t424))) 4294967295) (IntKind.u64.wrap (Int.tdiv (Go.bits .or .u64 (shl .u64 a0 (IntKind.u64.wrap (t424))) (shr .u64 a1 (IntKind.u64.wrap (64 - (IntKind.u64.wrap (t424)))))) ((shl .u64 a2 (IntKind.u64.wrap (t424))) / 4294967296))) (IntKind.u64.wrap ((Go.bits .or .u64 (shl .u64 a0 (IntKind.u64.wrap (t424))) (shr .u64 a1 (IntKind.u64.wrap (64 - (IntKind.u64.wrap (t424)))))) - (IntKind.u64.wrap ((IntKind.u64.wrap (Int.tdiv (Go.bits .or .u64 (shl .u64 a0 (IntKind.u64.wrap (t424))) (shr .u64 a1 (IntKind.u64.wrap (64 - (IntKind.u64.wrap (t424)))))) ((shl .u64 a2 (IntKind.u64.wrap (t424))) / 4294967296))) * ((shl .u64 a2 (IntKind.u64.wrap (t424))) / 4294967296))))))) else (none)) else (none)))))
set_option maxHeartbeats 8000000 in
set_option maxRecDepth 100000 in
theorem bits_Div64.calls (k : Nat) (a0 : Int) (a1 : Int) (a2 : Int) (r1 : Int) (r2 : Int) (w : World) (h : bits_Div64.f k a0 a1 a2 = some (r1, r2)) :
  Calls Try.prog 114 #[.int .u64 a0, .int .u64 a1, .int .u64 a2] w fun e w' => e = .returned (.tuple #[.int .u64 r1, .int .u64 r2]) ∧ Drawn0 w w' := by
 have H : (if a2 = 0 then (none) else (if a2 ≤ a0 then (none) else (if a0 = 0 then (some (IntKind.u64.wrap (Int.tdiv a1 a2), Int.tmod a1 a2)) else ((bits_LeadingZeros64.f k a2).bind fun t424 => (if 0 ≤ (IntKind.u64.wrap (t424)) then (if 0 ≤ (IntKind.u64.wrap (64 - (IntKind.u64.wrap (t424)))) then (if ((shl .u64 a2 (IntKind.u64.wrap (t424))) / 4294967296) = 0 then (none) else (bits_Div64.l0 k (shl .u64 a2 (IntKind.u64.wrap (t424))) (IntKind.u64.wrap (t424)) ((shl .u64 a2 (IntKind.u64.wrap (t424))) / 4294967296) (Go.bits .and .u64 (shl .u64 a2 (IntKind.u64.wrap (t424))) 4294967295) (Go.bits .or .u64 (shl .u64 a0 (IntKind.u64.wrap (t424))) (shr .u64 a1 (IntKind.u64.wrap (64 - (IntKind.u64.wrap (t424)))))) ((shl .u64 a1 (IntKind.u64.wrap (t424))) / 4294967296) (Go.bits .and .u64 (shl .u64 a1 (IntKind.u64.wrap (t424))) 4294967295) (IntKind.u64.wrap (Int.tdiv (Go.bits .or .u64 (shl .u64 a0 (IntKind.u64.wrap (t424))) (shr .u64 a1 (IntKind.u64.wrap (64 - (IntKind.u64.wrap (t424)))))) ((shl .u64 a2 (IntKind.u64.wrap (t424))) / 4294967296))) (IntKind.u64.wrap ((Go.bits .or .u64 (shl .u64 a0 (IntKind.u64.wrap (t424))) (shr .u64 a1 (IntKind.u64.wrap (64 - (IntKind.u64.wrap (t424)))))) - (IntKind.u64.wrap ((IntKind.u64.wrap (Int.tdiv (Go.bits .or .u64 (shl .u64 a0 (IntKind.u64.wrap (t424))) (shr .u64 a1 (IntKind.u64.wrap (64 - (IntKind.u64.wrap (t424)))))) ((shl .u64 a2 (IntKind.u64.wrap (t424))) / 4294967296))) * ((shl .u64 a2 (IntKind.u64.wrap (t424))) / 4294967296))))))) else (none)) else (none)))))) = some (r1, r2) := h
 clear h
 replace H := uE H; obtain ⟨c4, H⟩ := H
 have c4b0 : (a2 == 0) = false := beq_eq_false_iff_ne.mpr c4
 have c4b1 : (a2 != 0) = true := bne_iff_ne.mpr c4
 replace H := uE H; obtain ⟨c5, H⟩ := H
 have c5b0 : decide (a2 ≤ a0) = false := decide_eq_false c5
 clear c5
 by_cases c6 : a0 = 0
 ·
  rw [if_pos c6] at H
  have c6b0 : (a0 == 0) = true := beq_iff_eq.mpr c6
  have c6b1 : (a0 != 0) = false := bne_eq_false_iff_eq.mpr c6
  clear c6
  simp only [Option.some.injEq, Prod.mk.injEq] at H
  obtain ⟨rfl, rfl⟩ := H
  go_enter Try.func114, Try.ntmps114
  go_wp2
  repeat (go_quiet (fail); try go_wp2)
  go_ret2
  exact ⟨by first | rfl | (simp; done) | (simp [*]; done), by repeat (first | exact Drawn0.refl _ | apply Drawn0.step)⟩
 rw [if_neg c6] at H
 have c6b0 : (a0 == 0) = false := beq_eq_false_iff_ne.mpr c6
 have c6b1 : (a0 != 0) = true := bne_iff_ne.mpr c6
 replace H := ub H; obtain ⟨t424, A7, H⟩ := H
 obtain ⟨ji8, hji8⟩ : ∃ j_ : Int, (IntKind.u64.wrap (t424)) = j_ := ⟨_, rfl⟩
 first | rw [hji8] at H | simp only [hji8] at H
 (try rw [hji8] at A7)
 replace H := uT H; obtain ⟨c9, H⟩ := H
 have c9b0 := eq_true c9
 have c9b1 : decide (0 ≤ (ji8)) = true := decide_eq_true c9
 clear c9
 obtain ⟨ji10, hji10⟩ : ∃ j_ : Int, (shl .u64 a2 (ji8)) = j_ := ⟨_, rfl⟩
 first | rw [hji10] at H | simp only [hji10] at H
 (try rw [hji10] at A7)
 have hji10_ : (IntKind.u64.wrap (a2 * 2 ^ min (ji8).toNat 64)) = ji10 := hji10
 have hji10z : (ji8) ≤ 64 → (IntKind.u64.wrap (a2 * 2 ^ (ji8).toNat)) = ji10 := shl_small hji10
 have c11b0 := eq_true (uO : 0 ≤ (ji8))
 obtain ⟨ji12, hji12⟩ : ∃ j_ : Int, (shl .u64 a0 (ji8)) = j_ := ⟨_, rfl⟩
 first | rw [hji12] at H | simp only [hji12] at H
 (try rw [hji12] at A7)
 have hji12_ : (IntKind.u64.wrap (a0 * 2 ^ min (ji8).toNat 64)) = ji12 := hji12
 have hji12z : (ji8) ≤ 64 → (IntKind.u64.wrap (a0 * 2 ^ (ji8).toNat)) = ji12 := shl_small hji12
 obtain ⟨ji13, hji13⟩ : ∃ j_ : Int, (IntKind.u64.wrap (64 - (ji8))) = j_ := ⟨_, rfl⟩
 first | rw [hji13] at H | simp only [hji13] at H
 (try rw [hji13] at A7)
 replace H := uT H; obtain ⟨c14, H⟩ := H
 have c14b0 := eq_true c14
 have c14b1 : decide (0 ≤ (ji13)) = true := decide_eq_true c14
 clear c14
 obtain ⟨ji15, hji15⟩ : ∃ j_ : Int, (shr .u64 a1 (ji13)) = j_ := ⟨_, rfl⟩
 first | rw [hji15] at H | simp only [hji15] at H
 (try rw [hji15] at A7)
 have hji15_ : (a1 / 2 ^ min (ji13).toNat 64) = ji15 := hji15
 have hji15z : (ji13) ≤ 64 → (a1 / 2 ^ (ji13).toNat) = ji15 := shr_small hji15
 have c16b0 := eq_true (uO : 0 ≤ (ji8))
 obtain ⟨ji17, hji17⟩ : ∃ j_ : Int, (shl .u64 a1 (ji8)) = j_ := ⟨_, rfl⟩
 first | rw [hji17] at H | simp only [hji17] at H
 (try rw [hji17] at A7)
 have hji17_ : (IntKind.u64.wrap (a1 * 2 ^ min (ji8).toNat 64)) = ji17 := hji17
 have hji17z : (ji8) ≤ 64 → (IntKind.u64.wrap (a1 * 2 ^ (ji8).toNat)) = ji17 := shl_small hji17
 replace H := uE H; obtain ⟨c18, H⟩ := H
 have c18b0 : (((ji10) / 4294967296) == 0) = false := beq_eq_false_iff_ne.mpr c18
 have c18b1 : (((ji10) / 4294967296) != 0) = true := bne_iff_ne.mpr c18
 have HC19 := Aside0.mk H; clear H
 go_enter Try.func114, Try.ntmps114
 go_upto_block 0 with (first | (go_at_call 115; (with_reducible refine (bits_LeadingZeros64.calls k a2 t424 _ A7.out).mono ?_); rintro e w' ⟨rfl, ⟨nd, rfl⟩⟩; (try first | exact ⟨rfl, _, World.drewN_drewN _ _ _⟩ | exact ⟨rfl, _, Eq.trans (World.drewN_drewN _ _ _) (congrArg (World.drewN _) (Nat.add_assoc _ _ _))⟩)))
 repeat (go_quiet (first | (go_at_call 115; (with_reducible refine (bits_LeadingZeros64.calls k a2 t424 _ A7.out).mono ?_); rintro e w' ⟨rfl, ⟨nd, rfl⟩⟩; (try first | exact ⟨rfl, _, World.drewN_drewN _ _ _⟩ | exact ⟨rfl, _, Eq.trans (World.drewN_drewN _ _ _) (congrArg (World.drewN _) (Nat.add_assoc _ _ _))⟩))); go_upto_block 0 with (first | (go_at_call 115; (with_reducible refine (bits_LeadingZeros64.calls k a2 t424 _ A7.out).mono ?_); rintro e w' ⟨rfl, ⟨nd, rfl⟩⟩; (try first | exact ⟨rfl, _, World.drewN_drewN _ _ _⟩ | exact ⟨rfl, _, Eq.trans (World.drewN_drewN _ _ _) (congrArg (World.drewN _) (Nat.add_assoc _ _ _))⟩))))
 (try simp only [Act.put, List.setIfInBounds_toArray, List.set_cons_zero, List.set_cons_succ])
 go_cut [15] (fun v15 wc => ∃ (kq : Nat) (x15_18 : Int), v15 = .int .u64 x15_18 ∧ Aside0 (bits_Div64.j2 kq ji10 ji8 ((ji10) / 4294967296) (Go.bits .and .u64 (ji10) 4294967295) (Go.bits .or .u64 (ji12) (ji15)) ((ji17) / 4294967296) (Go.bits .and .u64 (ji17) 4294967295) x15_18 = some (r1, r2)) ∧ Aside0 (kq ≤ k) ∧ Drawn0 w wc)
 case first =>
  have H := HC19.out
  clear HC19
  have H' := Aside0.mk H
  clear H
  go_wp2
  repeat (go_quiet (fail); try go_wp2)
  go_loopg [15, 16] k (fun kq v15 v16 w' => ∃ (x15_1 : Int) (x16_1 : Int), v15 = .int .u64 x15_1 ∧ v16 = .int .u64 x16_1 ∧ Aside0 (bits_Div64.l0 kq ji10 ji8 ((ji10) / 4294967296) (Go.bits .and .u64 (ji10) 4294967295) (Go.bits .or .u64 (ji12) (ji15)) ((ji17) / 4294967296) (Go.bits .and .u64 (ji17) 4294967295) x15_1 x16_1 = some (r1, r2)) ∧ Aside0 (kq ≤ k) ∧ Drawn0 w w')
  case atStart => exact ⟨(IntKind.u64.wrap (Int.tdiv (Go.bits .or .u64 (ji12) (ji15)) ((ji10) / 4294967296))), (IntKind.u64.wrap ((Go.bits .or .u64 (ji12) (ji15)) - (IntKind.u64.wrap ((IntKind.u64.wrap (Int.tdiv (Go.bits .or .u64 (ji12) (ji15)) ((ji10) / 4294967296))) * ((ji10) / 4294967296))))), (by first | rfl | (simp; done) | (simp only [← hji10, ← hji12, ← hji15] <;> (first | rfl | simp)) | (simp [*]; done)), (by first | rfl | (simp; done) | (simp only [← hji10, ← hji12, ← hji15] <;> (first | rfl | simp)) | (simp [*]; done)), H', ⟨Nat.le_refl _⟩, by repeat (first | exact Drawn0.refl _ | apply Drawn0.step)⟩
  case round =>
   clear H'
   (try clear c1); (try clear p2); (try clear c4); (try clear c4b0); (try clear c4b1); (try clear c5); (try clear c5b0); (try clear c6); (try clear c6b0); (try clear c6b1); (try clear c9); (try clear c9b0); (try clear c9b1); (try clear c11); (try clear c11b0); (try clear c14); (try clear c14b0); (try clear c14b1); (try clear c16); (try clear c16b0); (try clear c18); (try clear c18b0); (try clear c18b1)
   obtain ⟨x15_1, x16_1, rfl, rfl, HA, HK1, ⟨m1, rfl⟩⟩ := hrel
   cases gk with
   | zero => exact absurd HA.out (by simp [bits_Div64.l0])
   | succ k1 =>
    have H := HA.out
    clear HA
    simp only [bits_Div64.l0] at H
    have HC20 := Aside0.mk H; clear H
    go_upto_region 17 with (fail)
    repeat (go_quiet (fail); go_upto_region 17 with (fail))
    go_cut [78] (fun v78 wc => ∃ (kq : Nat) (x78_19 : Bool), v78 = .bool x78_19 ∧ Aside0 (bits_Div64.j1 kq ji10 ji8 ((ji10) / 4294967296) (Go.bits .and .u64 (ji10) 4294967295) (Go.bits .or .u64 (ji12) (ji15)) ((ji17) / 4294967296) (Go.bits .and .u64 (ji17) 4294967295) x15_1 x16_1 x78_19 = some (r1, r2)) ∧ Aside0 (kq ≤ k1) ∧ Drawn0 w wc)
    case first =>
     have H := HC20.out
     clear HC20
     by_cases c21 : x15_1 ≥ 4294967296
     ·
      rw [if_pos c21] at H
      have c21b0 : decide (4294967296 ≤ x15_1) = true := decide_eq_true c21
      clear c21
      (first | rw [c21b0] | (simp only [i64_w, i32_w]; rw [c21b0]) | skip)
      have H' := Aside0.mk H
      clear H
      go_wp2
      repeat (go_quiet (fail); try go_wp2)
      go_meet
      case rel => exact ⟨_, (true), uG, H', ⟨by have := HK1.out; first | omega | exact Nat.le_refl _⟩, by repeat (first | exact Drawn0.refl _ | apply Drawn0.step)⟩
     rw [if_neg c21] at H
     have c21b0 : decide (4294967296 ≤ x15_1) = false := decide_eq_false c21
     clear c21
     (first | rw [c21b0] | (simp only [i64_w, i32_w]; rw [c21b0]) | skip)
     have H' := Aside0.mk H
     clear H
     go_wp2
     repeat (go_quiet (fail); try go_wp2)
     go_meet
     case rel => exact ⟨_, (decide ((IntKind.u64.wrap (x15_1 * (Go.bits .and .u64 (ji10) 4294967295))) > (IntKind.u64.wrap ((IntKind.u64.wrap (4294967296 * x16_1)) + ((ji17) / 4294967296))))), (by first | rfl | (simp; done) | (simp only [← hji10, ← hji17] <;> (first | rfl | simp)) | (simp [*]; done)), H', ⟨by have := HK1.out; first | omega | exact Nat.le_refl _⟩, by repeat (first | exact Drawn0.refl _ | apply Drawn0.step)⟩
    case rest =>
     clear HC20; (try clear c1); (try clear c2); (try clear p2); (try clear c4); (try clear c4b0); (try clear c4b1); (try clear c5); (try clear c5b0); (try clear c6); (try clear c6b0); (try clear c6b1); (try clear c9); (try clear c9b0); (try clear c9b1); (try clear c11); (try clear c11b0); (try clear c14); (try clear c14b0); (try clear c14b1); (try clear c16); (try clear c16b0); (try clear c18); (try clear c18b0); (try clear c18b1); (try clear c21); (try clear c21b0); (try clear p2)
     obtain ⟨kq, x78_19, rfl, HA, HJ19, ⟨mc19, rfl⟩⟩ := hcut
     cases kq with
     | zero => exact absurd HA.out (by simp [bits_Div64.j1])
     | succ kj19 =>
      have H := HA.out
      clear HA
      simp only [bits_Div64.j1] at H
      by_cases c22 : x78_19 = true
      ·
       subst c22
       have H1 : (if (IntKind.u64.wrap (x16_1 + ((ji10) / 4294967296))) ≥ 4294967296 then (bits_Div64.j2 kj19 ji10 ji8 ((ji10) / 4294967296) (Go.bits .and .u64 (ji10) 4294967295) (Go.bits .or .u64 (ji12) (ji15)) ((ji17) / 4294967296) (Go.bits .and .u64 (ji17) 4294967295) (IntKind.u64.wrap (x15_1 - 1))) else (bits_Div64.l0 kj19 ji10 ji8 ((ji10) / 4294967296) (Go.bits .and .u64 (ji10) 4294967295) (Go.bits .or .u64 (ji12) (ji15)) ((ji17) / 4294967296) (Go.bits .and .u64 (ji17) 4294967295) (IntKind.u64.wrap (x15_1 - 1)) (IntKind.u64.wrap (x16_1 + ((ji10) / 4294967296))))) = some (r1, r2) := by rw [if_pos rfl] at H; exact H
       clear H; have H := H1; clear H1
       by_cases c23 : (IntKind.u64.wrap (x16_1 + ((ji10) / 4294967296))) ≥ 4294967296
       ·
        rw [if_pos c23] at H
        have c23b0 : decide (4294967296 ≤ (IntKind.u64.wrap (x16_1 + ((ji10) / 4294967296)))) = true := decide_eq_true c23
        clear c23
        have H' := Aside0.mk H
        clear H
        go_wp2
        repeat (go_quiet (fail); try go_wp2)
        go_meet
        case rel => exact ⟨_, (IntKind.u64.wrap (x15_1 - 1)), uG, H', ⟨by have := HK1.out; have := HJ19.out; first | omega | exact Nat.le_refl _⟩, by repeat (first | exact Drawn0.refl _ | apply Drawn0.step)⟩
       rw [if_neg c23] at H
       have c23b0 : decide (4294967296 ≤ (IntKind.u64.wrap (x16_1 + ((ji10) / 4294967296)))) = false := decide_eq_false c23
       clear c23
       have H' := Aside0.mk H
       clear H
       go_wp2
       repeat (go_quiet (fail); try go_wp2)
       first | go_roundg kj19 | ((try simp only [← hji17] at H'); simp only [← hji17]; go_roundg kj19) | ((try simp only [← hji15] at H'); simp only [← hji15]; go_roundg kj19) | ((try simp only [← hji13] at H'); simp only [← hji13]; go_roundg kj19) | ((try simp only [← hji12] at H'); simp only [← hji12]; go_roundg kj19) | ((try simp only [← hji10] at H'); simp only [← hji10]; go_roundg kj19) | ((try simp only [← hji8] at H'); simp only [← hji8]; go_roundg kj19)
       case measure => have := HK1.out; have := HJ19.out; omega
       case rel => first | exact ⟨(IntKind.u64.wrap (x15_1 - 1)), (IntKind.u64.wrap (x16_1 + ((ji10) / 4294967296))), uG, (by first | rfl | (simp; done) | (simp only [← hji10] <;> (first | rfl | simp)) | (simp [*]; done)), H', ⟨by have := HK1.out; have := HJ19.out; omega⟩, by repeat (first | exact Drawn0.refl _ | apply Drawn0.step)⟩ | (simp only [← hji17] at H'; exact ⟨(IntKind.u64.wrap (x15_1 - 1)), (IntKind.u64.wrap (x16_1 + ((ji10) / 4294967296))), uG, (by first | rfl | (simp; done) | (simp only [← hji10] <;> (first | rfl | simp)) | (simp [*]; done)), H', ⟨by have := HK1.out; have := HJ19.out; omega⟩, by repeat (first | exact Drawn0.refl _ | apply Drawn0.step)⟩) | (simp only [← hji15] at H'; exact ⟨(IntKind.u64.wrap (x15_1 - 1)), (IntKind.u64.wrap (x16_1 + ((ji10) / 4294967296))), uG, (by first | rfl | (simp; done) | (simp only [← hji10] <;> (first | rfl | simp)) | (simp [*]; done)), H', ⟨by have := HK1.out; have := HJ19.out; omega⟩, by repeat (first | exact Drawn0.refl _ | apply Drawn0.step)⟩) | (simp only [← hji13] at H'; exact ⟨(IntKind.u64.wrap (x15_1 - 1)), (IntKind.u64.wrap (x16_1 + ((ji10) / 4294967296))), uG, (by first | rfl | (simp; done) | (simp only [← hji10] <;> (first | rfl | simp)) | (simp [*]; done)), H', ⟨by have := HK1.out; have := HJ19.out; omega⟩, by repeat (first | exact Drawn0.refl _ | apply Drawn0.step)⟩) | (simp only [← hji12] at H'; exact ⟨(IntKind.u64.wrap (x15_1 - 1)), (IntKind.u64.wrap (x16_1 + ((ji10) / 4294967296))), uG, (by first | rfl | (simp; done) | (simp only [← hji10] <;> (first | rfl | simp)) | (simp [*]; done)), H', ⟨by have := HK1.out; have := HJ19.out; omega⟩, by repeat (first | exact Drawn0.refl _ | apply Drawn0.step)⟩) | (simp only [← hji10] at H'; exact ⟨(IntKind.u64.wrap (x15_1 - 1)), (IntKind.u64.wrap (x16_1 + ((ji10) / 4294967296))), uG, (by first | rfl | (simp; done) | (simp only [← hji10] <;> (first | rfl | simp)) | (simp [*]; done)), H', ⟨by have := HK1.out; have := HJ19.out; omega⟩, by repeat (first | exact Drawn0.refl _ | apply Drawn0.step)⟩) | (simp only [← hji8] at H'; exact ⟨(IntKind.u64.wrap (x15_1 - 1)), (IntKind.u64.wrap (x16_1 + ((ji10) / 4294967296))), uG, (by first | rfl | (simp; done) | (simp only [← hji10] <;> (first | rfl | simp)) | (simp [*]; done)), H', ⟨by have := HK1.out; have := HJ19.out; omega⟩, by repeat (first | exact Drawn0.refl _ | apply Drawn0.step)⟩)
      replace c22 := Bool.eq_false_iff.mpr c22
      subst c22
      have H1 : (bits_Div64.j2 kj19 ji10 ji8 ((ji10) / 4294967296) (Go.bits .and .u64 (ji10) 4294967295) (Go.bits .or .u64 (ji12) (ji15)) ((ji17) / 4294967296) (Go.bits .and .u64 (ji17) 4294967295) x15_1) = some (r1, r2) := by rw [if_neg (show ¬ (false = true) by decide)] at H; exact H
      clear H; have H := H1; clear H1
      have H' := Aside0.mk H
      clear H
      go_wp2
      repeat (go_quiet (fail); try go_wp2)
      go_meet
      case rel => exact ⟨_, (x15_1), uG, H', ⟨by have := HK1.out; have := HJ19.out; first | omega | exact Nat.le_refl _⟩, by repeat (first | exact Drawn0.refl _ | apply Drawn0.step)⟩
 case rest =>
  clear HC19; (try clear c1); (try clear c2); (try clear p2); (try clear c4); (try clear c4b0); (try clear c4b1); (try clear c5); (try clear c5b0); (try clear c6); (try clear c6b0); (try clear c6b1); (try clear c9); (try clear c9b0); (try clear c9b1); (try clear c11); (try clear c11b0); (try clear c14); (try clear c14b0); (try clear c14b1); (try clear c16); (try clear c16b0); (try clear c18); (try clear c18b0); (try clear c18b1); (try clear c19); (try clear c21); (try clear c21b0); (try clear c22); (try clear c23); (try clear c23b0); (try clear p2)
  obtain ⟨kq, x15_18, rfl, HA, HJ18, ⟨mc18, rfl⟩⟩ := hcut
  cases kq with
  | zero => exact absurd HA.out (by simp [bits_Div64.j2])
  | succ kj18 =>
   have H := HA.out
   clear HA
   simp only [bits_Div64.j2] at H
   replace H := uE H; obtain ⟨c24, H⟩ := H
   have c24b0 : (((ji10) / 4294967296) == 0) = false := beq_eq_false_iff_ne.mpr c24
   have c24b1 : (((ji10) / 4294967296) != 0) = true := bne_iff_ne.mpr c24
   have H' := Aside0.mk H
   clear H
   go_wp2
   repeat (go_quiet (fail); try go_wp2)
   go_loopg [16, 18] kj18 (fun kq v16 v18 w' => ∃ (x16_2 : Int) (x18_2 : Int), v16 = .int .u64 x16_2 ∧ v18 = .int .u64 x18_2 ∧ Aside0 (bits_Div64.l1 kq ji10 ji8 ((ji10) / 4294967296) (Go.bits .and .u64 (ji10) 4294967295) (Go.bits .and .u64 (ji17) 4294967295) x15_18 x16_2 (IntKind.u64.wrap ((IntKind.u64.wrap ((IntKind.u64.wrap ((Go.bits .or .u64 (ji12) (ji15)) * 4294967296)) + ((ji17) / 4294967296))) - (IntKind.u64.wrap (x15_18 * ji10)))) x18_2 = some (r1, r2)) ∧ Aside0 (kq ≤ kj18) ∧ Drawn0 w w')
   case atStart => exact ⟨(IntKind.u64.wrap ((IntKind.u64.wrap ((IntKind.u64.wrap ((IntKind.u64.wrap ((Go.bits .or .u64 (ji12) (ji15)) * 4294967296)) + ((ji17) / 4294967296))) - (IntKind.u64.wrap (x15_18 * ji10)))) - (IntKind.u64.wrap ((IntKind.u64.wrap (Int.tdiv (IntKind.u64.wrap ((IntKind.u64.wrap ((IntKind.u64.wrap ((Go.bits .or .u64 (ji12) (ji15)) * 4294967296)) + ((ji17) / 4294967296))) - (IntKind.u64.wrap (x15_18 * ji10)))) ((ji10) / 4294967296))) * ((ji10) / 4294967296))))), (IntKind.u64.wrap (Int.tdiv (IntKind.u64.wrap ((IntKind.u64.wrap ((IntKind.u64.wrap ((Go.bits .or .u64 (ji12) (ji15)) * 4294967296)) + ((ji17) / 4294967296))) - (IntKind.u64.wrap (x15_18 * ji10)))) ((ji10) / 4294967296))), (by first | rfl | (simp; done) | (simp only [← hji10, ← hji12, ← hji15, ← hji17] <;> (first | rfl | simp)) | (simp [*]; done)), (by first | rfl | (simp; done) | (simp only [← hji10, ← hji12, ← hji15, ← hji17] <;> (first | rfl | simp)) | (simp [*]; done)), H', ⟨Nat.le_refl _⟩, by repeat (first | exact Drawn0.refl _ | apply Drawn0.step)⟩
   case round =>
    clear H'
    (try clear c1); (try clear c2); (try clear p2); (try clear c4); (try clear c4b0); (try clear c4b1); (try clear c5); (try clear c5b0); (try clear c6); (try clear c6b0); (try clear c6b1); (try clear c9); (try clear c9b0); (try clear c9b1); (try clear c11); (try clear c11b0); (try clear c14); (try clear c14b0); (try clear c14b1); (try clear c16); (try clear c16b0); (try clear c18); (try clear c18b0); (try clear c18b1); (try clear c19); (try clear c21); (try clear c21b0); (try clear c22); (try clear c23); (try clear c23b0); (try clear c24); (try clear c24b0); (try clear c24b1); (try clear p2)
    obtain ⟨x16_2, x18_2, rfl, rfl, HA, HK2, ⟨m2, rfl⟩⟩ := hrel
    cases gk with
    | zero => exact absurd HA.out (by simp [bits_Div64.l1])
    | succ k2 =>
     have H := HA.out
     clear HA
     simp only [bits_Div64.l1] at H
     have HC25 := Aside0.mk H; clear H
     go_upto_region 24 with (fail)
     repeat (go_quiet (fail); go_upto_region 24 with (fail))
     go_cut [113] (fun v113 wc => ∃ (kq : Nat) (x113_24 : Bool), v113 = .bool x113_24 ∧ Aside0 (bits_Div64.j4 kq ji10 ji8 ((ji10) / 4294967296) (Go.bits .and .u64 (ji10) 4294967295) (Go.bits .and .u64 (ji17) 4294967295) x15_18 x16_2 (IntKind.u64.wrap ((IntKind.u64.wrap ((IntKind.u64.wrap ((Go.bits .or .u64 (ji12) (ji15)) * 4294967296)) + ((ji17) / 4294967296))) - (IntKind.u64.wrap (x15_18 * ji10)))) x18_2 x113_24 = some (r1, r2)) ∧ Aside0 (kq ≤ k2) ∧ Drawn0 w wc)
     case first =>
      have H := HC25.out
      clear HC25
      by_cases c26 : x18_2 ≥ 4294967296
      ·
       rw [if_pos c26] at H
       have c26b0 : decide (4294967296 ≤ x18_2) = true := decide_eq_true c26
       clear c26
       (first | rw [c26b0] | (simp only [i64_w, i32_w]; rw [c26b0]) | skip)
       have H' := Aside0.mk H
       clear H
       go_wp2
       repeat (go_quiet (fail); try go_wp2)
       go_meet
       case rel => exact ⟨_, (true), uG, H', ⟨by have := HJ18.out; have := HK2.out; first | omega | exact Nat.le_refl _⟩, by repeat (first | exact Drawn0.refl _ | apply Drawn0.step)⟩
      rw [if_neg c26] at H
      have c26b0 : decide (4294967296 ≤ x18_2) = false := decide_eq_false c26
      clear c26
      (first | rw [c26b0] | (simp only [i64_w, i32_w]; rw [c26b0]) | skip)
      have H' := Aside0.mk H
      clear H
      go_wp2
      repeat (go_quiet (fail); try go_wp2)
      go_meet
      case rel => exact ⟨_, (decide ((IntKind.u64.wrap (x18_2 * (Go.bits .and .u64 (ji10) 4294967295))) > (IntKind.u64.wrap ((IntKind.u64.wrap (4294967296 * x16_2)) + (Go.bits .and .u64 (ji17) 4294967295))))), (by first | rfl | (simp; done) | (simp only [← hji10, ← hji17] <;> (first | rfl | simp)) | (simp [*]; done)), H', ⟨by have := HJ18.out; have := HK2.out; first | omega | exact Nat.le_refl _⟩, by repeat (first | exact Drawn0.refl _ | apply Drawn0.step)⟩
     case rest =>
      clear HC25; (try clear c1); (try clear c2); (try clear p2); (try clear c4); (try clear c4b0); (try clear c4b1); (try clear c5); (try clear c5b0); (try clear c6); (try clear c6b0); (try clear c6b1); (try clear c9); (try clear c9b0); (try clear c9b1); (try clear c11); (try clear c11b0); (try clear c14); (try clear c14b0); (try clear c14b1); (try clear c16); (try clear c16b0); (try clear c18); (try clear c18b0); (try clear c18b1); (try clear c19); (try clear c21); (try clear c21b0); (try clear c22); (try clear c23); (try clear c23b0); (try clear c24); (try clear c24b0); (try clear c24b1); (try clear c26); (try clear c26b0); (try clear p2)
      obtain ⟨kq, x113_24, rfl, HA, HJ24, ⟨mc24, rfl⟩⟩ := hcut
      cases kq with
      | zero => exact absurd HA.out (by simp [bits_Div64.j4])
      | succ kj24 =>
       have H := HA.out
       clear HA
       simp only [bits_Div64.j4] at H
       by_cases c27 : x113_24 = true
       ·
        subst c27
        have H1 : (if (IntKind.u64.wrap (x16_2 + ((ji10) / 4294967296))) ≥ 4294967296 then (if 0 ≤ ji8 then (some (IntKind.u64.wrap ((IntKind.u64.wrap (x15_18 * 4294967296)) + (IntKind.u64.wrap (x18_2 - 1))), shr .u64 (IntKind.u64.wrap ((IntKind.u64.wrap ((IntKind.u64.wrap ((IntKind.u64.wrap ((IntKind.u64.wrap ((IntKind.u64.wrap ((Go.bits .or .u64 (ji12) (ji15)) * 4294967296)) + ((ji17) / 4294967296))) - (IntKind.u64.wrap (x15_18 * ji10)))) * 4294967296)) + (Go.bits .and .u64 (ji17) 4294967295))) - (IntKind.u64.wrap ((IntKind.u64.wrap (x18_2 - 1)) * ji10)))) ji8)) else (none)) else (bits_Div64.l1 kj24 ji10 ji8 ((ji10) / 4294967296) (Go.bits .and .u64 (ji10) 4294967295) (Go.bits .and .u64 (ji17) 4294967295) x15_18 (IntKind.u64.wrap (x16_2 + ((ji10) / 4294967296))) (IntKind.u64.wrap ((IntKind.u64.wrap ((IntKind.u64.wrap ((Go.bits .or .u64 (ji12) (ji15)) * 4294967296)) + ((ji17) / 4294967296))) - (IntKind.u64.wrap (x15_18 * ji10)))) (IntKind.u64.wrap (x18_2 - 1)))) = some (r1, r2) := by rw [if_pos rfl] at H; exact H
        clear H; have H := H1; clear H1
        by_cases c28 : (IntKind.u64.wrap (x16_2 + ((ji10) / 4294967296))) ≥ 4294967296
        ·
         rw [if_pos c28] at H
         have c28b0 : decide (4294967296 ≤ (IntKind.u64.wrap (x16_2 + ((ji10) / 4294967296)))) = true := decide_eq_true c28
         clear c28
         replace H := uT H; obtain ⟨c29, H⟩ := H
         have c29b0 := eq_true c29
         have c29b1 : decide (0 ≤ ji8) = true := decide_eq_true c29
         clear c29
         obtain ⟨ji30, hji30⟩ : ∃ j_ : Int, (shr .u64 (IntKind.u64.wrap ((IntKind.u64.wrap ((IntKind.u64.wrap ((IntKind.u64.wrap ((IntKind.u64.wrap ((IntKind.u64.wrap ((Go.bits .or .u64 (ji12) (ji15)) * 4294967296)) + ((ji17) / 4294967296))) - (IntKind.u64.wrap (x15_18 * ji10)))) * 4294967296)) + (Go.bits .and .u64 (ji17) 4294967295))) - (IntKind.u64.wrap ((IntKind.u64.wrap (x18_2 - 1)) * ji10)))) ji8) = j_ := ⟨_, rfl⟩
         first | rw [hji30] at H | simp only [hji30] at H
         have hji30_ : ((IntKind.u64.wrap ((IntKind.u64.wrap ((IntKind.u64.wrap ((IntKind.u64.wrap ((IntKind.u64.wrap ((IntKind.u64.wrap ((Go.bits .or .u64 (ji12) (ji15)) * 4294967296)) + ((ji17) / 4294967296))) - (IntKind.u64.wrap (x15_18 * ji10)))) * 4294967296)) + (Go.bits .and .u64 (ji17) 4294967295))) - (IntKind.u64.wrap ((IntKind.u64.wrap (x18_2 - 1)) * ji10)))) / 2 ^ min ji8.toNat 64) = ji30 := hji30
         have hji30z : ji8 ≤ 64 → ((IntKind.u64.wrap ((IntKind.u64.wrap ((IntKind.u64.wrap ((IntKind.u64.wrap ((IntKind.u64.wrap ((IntKind.u64.wrap ((Go.bits .or .u64 (ji12) (ji15)) * 4294967296)) + ((ji17) / 4294967296))) - (IntKind.u64.wrap (x15_18 * ji10)))) * 4294967296)) + (Go.bits .and .u64 (ji17) 4294967295))) - (IntKind.u64.wrap ((IntKind.u64.wrap (x18_2 - 1)) * ji10)))) / 2 ^ ji8.toNat) = ji30 := shr_small hji30
         simp only [Option.some.injEq, Prod.mk.injEq] at H
         obtain ⟨rfl, rfl⟩ := H
         go_wp2
         repeat (go_quiet (fail); try go_wp2)
         go_ret2
         exact ⟨by first | rfl | (simp; done) | (simp only [← hji8, ← hji10, ← hji12, ← hji13, ← hji15, ← hji17, ← hji30] <;> (first | rfl | simp)) | (simp [*]; done), by repeat (first | exact Drawn0.refl _ | apply Drawn0.step)⟩
        rw [if_neg c28] at H
        have c28b0 : decide (4294967296 ≤ (IntKind.u64.wrap (x16_2 + ((ji10) / 4294967296)))) = false := decide_eq_false c28
        clear c28
        have H' := Aside0.mk H
        clear H
        go_wp2
        repeat (go_quiet (fail); try go_wp2)
        first | go_roundg kj24 | ((try simp only [← hji30] at H'); simp only [← hji30]; go_roundg kj24) | ((try simp only [← hji17] at H'); simp only [← hji17]; go_roundg kj24) | ((try simp only [← hji15] at H'); simp only [← hji15]; go_roundg kj24) | ((try simp only [← hji13] at H'); simp only [← hji13]; go_roundg kj24) | ((try simp only [← hji12] at H'); simp only [← hji12]; go_roundg kj24) | ((try simp only [← hji10] at H'); simp only [← hji10]; go_roundg kj24)
        case measure => have := HJ18.out; have := HK2.out; have := HJ24.out; omega
        case rel => first | exact ⟨(IntKind.u64.wrap (x16_2 + ((ji10) / 4294967296))), (IntKind.u64.wrap (x18_2 - 1)), (by first | rfl | (simp; done) | (simp only [← hji10] <;> (first | rfl | simp)) | (simp [*]; done)), uG, H', ⟨by have := HJ18.out; have := HK2.out; have := HJ24.out; omega⟩, by repeat (first | exact Drawn0.refl _ | apply Drawn0.step)⟩ | (simp only [← hji30] at H'; exact ⟨(IntKind.u64.wrap (x16_2 + ((ji10) / 4294967296))), (IntKind.u64.wrap (x18_2 - 1)), (by first | rfl | (simp; done) | (simp only [← hji10] <;> (first | rfl | simp)) | (simp [*]; done)), uG, H', ⟨by have := HJ18.out; have := HK2.out; have := HJ24.out; omega⟩, by repeat (first | exact Drawn0.refl _ | apply Drawn0.step)⟩) | (simp only [← hji17] at H'; exact ⟨(IntKind.u64.wrap (x16_2 + ((ji10) / 4294967296))), (IntKind.u64.wrap (x18_2 - 1)), (by first | rfl | (simp; done) | (simp only [← hji10] <;> (first | rfl | simp)) | (simp [*]; done)), uG, H', ⟨by have := HJ18.out; have := HK2.out; have := HJ24.out; omega⟩, by repeat (first | exact Drawn0.refl _ | apply Drawn0.step)⟩) | (simp only [← hji15] at H'; exact ⟨(IntKind.u64.wrap (x16_2 + ((ji10) / 4294967296))), (IntKind.u64.wrap (x18_2 - 1)), (by first | rfl | (simp; done) | (simp only [← hji10] <;> (first | rfl | simp)) | (simp [*]; done)), uG, H', ⟨by have := HJ18.out; have := HK2.out; have := HJ24.out; omega⟩, by repeat (first | exact Drawn0.refl _ | apply Drawn0.step)⟩) | (simp only [← hji13] at H'; exact ⟨(IntKind.u64.wrap (x16_2 + ((ji10) / 4294967296))), (IntKind.u64.wrap (x18_2 - 1)), (by first | rfl | (simp; done) | (simp only [← hji10] <;> (first | rfl | simp)) | (simp [*]; done)), uG, H', ⟨by have := HJ18.out; have := HK2.out; have := HJ24.out; omega⟩, by repeat (first | exact Drawn0.refl _ | apply Drawn0.step)⟩) | (simp only [← hji12] at H'; exact ⟨(IntKind.u64.wrap (x16_2 + ((ji10) / 4294967296))), (IntKind.u64.wrap (x18_2 - 1)), (by first | rfl | (simp; done) | (simp only [← hji10] <;> (first | rfl | simp)) | (simp [*]; done)), uG, H', ⟨by have := HJ18.out; have := HK2.out; have := HJ24.out; omega⟩, by repeat (first | exact Drawn0.refl _ | apply Drawn0.step)⟩) | (simp only [← hji10] at H'; exact ⟨(IntKind.u64.wrap (x16_2 + ((ji10) / 4294967296))), (IntKind.u64.wrap (x18_2 - 1)), (by first | rfl | (simp; done) | (simp only [← hji10] <;> (first | rfl | simp)) | (simp [*]; done)), uG, H', ⟨by have := HJ18.out; have := HK2.out; have := HJ24.out; omega⟩, by repeat (first | exact Drawn0.refl _ | apply Drawn0.step)⟩)
       replace c27 := Bool.eq_false_iff.mpr c27
       subst c27
       have H1 : (if 0 ≤ ji8 then (some (IntKind.u64.wrap ((IntKind.u64.wrap (x15_18 * 4294967296)) + x18_2), shr .u64 (IntKind.u64.wrap ((IntKind.u64.wrap ((IntKind.u64.wrap ((IntKind.u64.wrap ((IntKind.u64.wrap ((IntKind.u64.wrap ((Go.bits .or .u64 (ji12) (ji15)) * 4294967296)) + ((ji17) / 4294967296))) - (IntKind.u64.wrap (x15_18 * ji10)))) * 4294967296)) + (Go.bits .and .u64 (ji17) 4294967295))) - (IntKind.u64.wrap (x18_2 * ji10)))) ji8)) else (none)) = some (r1, r2) := by rw [if_neg (show ¬ (false = true) by decide)] at H; exact H
       clear H; have H := H1; clear H1
       replace H := uT H; obtain ⟨c31, H⟩ := H
       have c31b0 := eq_true c31
       have c31b1 : decide (0 ≤ ji8) = true := decide_eq_true c31
       clear c31
       obtain ⟨ji32, hji32⟩ : ∃ j_ : Int, (shr .u64 (IntKind.u64.wrap ((IntKind.u64.wrap ((IntKind.u64.wrap ((IntKind.u64.wrap ((IntKind.u64.wrap ((IntKind.u64.wrap ((Go.bits .or .u64 (ji12) (ji15)) * 4294967296)) + ((ji17) / 4294967296))) - (IntKind.u64.wrap (x15_18 * ji10)))) * 4294967296)) + (Go.bits .and .u64 (ji17) 4294967295))) - (IntKind.u64.wrap (x18_2 * ji10)))) ji8) = j_ := ⟨_, rfl⟩
       first | rw [hji32] at H | simp only [hji32] at H
       have hji32_ : ((IntKind.u64.wrap ((IntKind.u64.wrap ((IntKind.u64.wrap ((IntKind.u64.wrap ((IntKind.u64.wrap ((IntKind.u64.wrap ((Go.bits .or .u64 (ji12) (ji15)) * 4294967296)) + ((ji17) / 4294967296))) - (IntKind.u64.wrap (x15_18 * ji10)))) * 4294967296)) + (Go.bits .and .u64 (ji17) 4294967295))) - (IntKind.u64.wrap (x18_2 * ji10)))) / 2 ^ min ji8.toNat 64) = ji32 := hji32
       have hji32z : ji8 ≤ 64 → ((IntKind.u64.wrap ((IntKind.u64.wrap ((IntKind.u64.wrap ((IntKind.u64.wrap ((IntKind.u64.wrap ((IntKind.u64.wrap ((Go.bits .or .u64 (ji12) (ji15)) * 4294967296)) + ((ji17) / 4294967296))) - (IntKind.u64.wrap (x15_18 * ji10)))) * 4294967296)) + (Go.bits .and .u64 (ji17) 4294967295))) - (IntKind.u64.wrap (x18_2 * ji10)))) / 2 ^ ji8.toNat) = ji32 := shr_small hji32
       simp only [Option.some.injEq, Prod.mk.injEq] at H
       obtain ⟨rfl, rfl⟩ := H
       go_wp2
       repeat (go_quiet (fail); try go_wp2)
       go_ret2
       exact ⟨by first | rfl | (simp; done) | (simp only [← hji8, ← hji10, ← hji12, ← hji13, ← hji15, ← hji17, ← hji32] <;> (first | rfl | simp)) | (simp [*]; done), by repeat (first | exact Drawn0.refl _ | apply Drawn0.step)⟩
end Go.Proofs.Ytgeanpnkllnipaa.F
end
section
namespace Go.Proofs.Ytgeanpnkllnipaa.F
open Go.RowKit Go.Proofs.YtgeanpnkllnipaaW.PrintWords Go.Proofs.YtgeanpnkllnipaaW.PrintLast Go.Proofs.YtgeanpnkllnipaaW.PrintMore
attribute [local go_sem] max2_int min2_int max_two min_two max_three min_three max_four min_four
set_option linter.unusedVariables false
set_option linter.unusedSimpArgs false
def nat_short.l0 : Nat → List Int → Int → List Int → Int → Int → Option (List Int × Int)
 | 0, _, _, _, _, _ => none
 | k + 1, x0, x1, x6, x7, x8 => if x8 ≥ 0 then (if 0 ≤ x8 then (if x8 < (x0.length : Int) then ((bits_Div64.f k x7 (rd x0 x8) x1).bind fun bt429 => (if x8 < (x6.length : Int) then (nat_short.l0 k x0 x1 (x6.set (x8 : Int).toNat bt429.1) bt429.2 (wrap64 (x8 - 1))) else (none))) else (none)) else (none)) else ((nat_trim.f k x6).bind fun t432 => (some (t432, x7)))
def nat_short.f (k : Nat) (l0 : List Int) (a1 : Int) : Option (List Int × Int) := if 0 ≤ (l0.length : Int) then (if ((l0.length : Int) : Int).toNat ≤ 35184372088832 then (nat_short.l0 k l0 a1 (List.replicate ((l0.length : Int) : Int).toNat 0) 0 (wrap64 ((l0.length : Int) - 1))) else (none)) else (none)
set_option maxHeartbeats 8000000 in
set_option maxRecDepth 100000 in
theorem nat_short.calls (k : Nat) (A0 : Option Addr) (c0 : Nat) (l0 : List Int) (a1 : Int) (r1 : List Int) (r2 : Int) (w : World) (hr0 : Kd.C (Kd.int .u64) w A0 l0.length l0) (hc0 : l0.length ≤ c0) (h : nat_short.f k l0 a1 = some (r1, r2)) :
  Calls Try.prog 108 #[.slice A0 l0.length c0, .int .u64 a1] w fun e w' => ∃ v0_ : Value, e = .returned (.tuple #[v0_, .int .u64 r2]) ∧ Kd.R (Kd.int .u64) 47 w' w.heap.size (fun _ => True) v0_ r1 ∧ Below w.heap.size w w' := by
 have HR0 := Aside0.mk hr0; have HC0 := Aside0.mk hc0; clear hr0 hc0
 have HB := Aside0.mk (Below.refl w.heap.size w)
 have H : (if 0 ≤ (l0.length : Int) then (if ((l0.length : Int) : Int).toNat ≤ 35184372088832 then (nat_short.l0 k l0 a1 (List.replicate ((l0.length : Int) : Int).toNat 0) 0 (wrap64 ((l0.length : Int) - 1))) else (none)) else (none)) = some (r1, r2) := h
 clear h
 replace H := uT H; obtain ⟨c3, H⟩ := H
 have c3b0 := eq_true c3
 have c3b1 : decide (0 ≤ (l0.length : Int)) = true := decide_eq_true c3
 clear c3
 replace H := uT H; obtain ⟨c4, H⟩ := H
 have c4b0 := eq_true c4
 have c4b1 : decide (((l0.length : Int) : Int).toNat ≤ 35184372088832) = true := decide_eq_true c4
 clear c4
 obtain ⟨y425, hy425⟩ : ∃ y_ : List Int, y_ = (List.replicate ((l0.length : Int) : Int).toNat 0) := ⟨_, rfl⟩
 replace H : (nat_short.l0 k l0 a1 y425 0 (wrap64 ((l0.length : Int) - 1))) = some (r1, r2) := by first | (rw [hy425]; with_reducible exact H) | (have H2_ := (Option.bind_some _ _).symm.trans H; rw [hy425]; with_reducible exact H2_) | (have H2_ := (Option.bind_some _ _).symm.trans H; with_reducible exact H2_) | with_reducible exact H | (rw [hy425]; exact H) | exact H
 have Ny425 := Aside0.mk hy425; clear hy425
 have H' := Aside0.mk H
 clear H
 go_enter Try.func108, Try.ntmps108
 go_wp2_with (first | ((with_reducible refine gate_dst (N := 11) rfl ?_); refine Kd.R_make (Kd.int .u64) _ 47 rfl (N := 11) rfl 29 _ _ rfl (l0.length : Int) rfl rfl Try.underlying29 (.int .u64 0) 8 info47 rfl (by decide) (by omega) 0 (ok := fun _ => True) (okp := fun _ => True) rfl (fun _ hk => hk) trivial uO (Nat.le_trans (Nat.mul_le_mul_right _ (uO : (l0.length : Int).toNat ≤ 35184372088832)) (by omega)) (Below.refl _ _) (Nat.le_refl _) ?_; intro v426 w5 ho6 hb hg_ hnew_; clear hg_ hnew_; (first | rw [← Ny425.out] at ho6 | (simp only [Int.reduceToNat] at ho6; rw [← Ny425.out] at ho6)); have HO427 := Aside0.mk (Kd.R_lower ho6 (below_size uB)); replace HB := uy hb; clear hb ho6))
 go_loopg [7, 8] k (fun kq v7 v8 w' => ∃ (x6_1 : List Int) (x7_1 : Int) (x8_1 : Int), v7 = .int .u64 x7_1 ∧ v8 = .int .i64 x8_1 ∧ Aside0 (nat_short.l0 kq l0 a1 x6_1 x7_1 x8_1 = some (r1, r2)) ∧ Aside0 (kq ≤ k) ∧ Aside0 (Kd.R (Kd.int .u64) 47 w' w.heap.size (fun _ => True) v426 x6_1) ∧ Aside0 (Below w.heap.size w w'))
 case atStart => exact ⟨(y425), (0), (wrap64 ((l0.length : Int) - 1)), uG, uG, H', ⟨Nat.le_refl _⟩, ⟨uR HO427.out⟩, ⟨uB⟩⟩
 case round =>
  clear H'
  (try clear c1); (try clear p2); (try clear c3); (try clear c3b0); (try clear c3b1); (try clear c4); (try clear c4b0); (try clear c4b1); (try clear p6)
  obtain ⟨x6_1, x7_1, x8_1, rfl, rfl, HA, HK1, HO_6, HB⟩ := hrel
  cases gk with
  | zero => exact absurd HA.out (by simp [nat_short.l0])
  | succ k1 =>
   have H := HA.out
   clear HA
   simp only [nat_short.l0] at H
   by_cases c7 : x8_1 ≥ 0
   ·
    rw [if_pos c7] at H
    have c7b0 : decide (0 ≤ x8_1) = true := decide_eq_true c7
    clear c7
    replace H := uT H; obtain ⟨c8, H⟩ := H
    have c8b0 : decide (0 ≤ x8_1) = true := decide_eq_true c8
    clear c8
    replace H := uT H; obtain ⟨c9, H⟩ := H
    have c9b0 : decide (x8_1 < (l0.length : Int)) = true := decide_eq_true c9
    clear c9
    replace H := ub H; obtain ⟨⟨t429, t430⟩, A10, H⟩ := H
    (try dsimp only at H)
    replace H := uT H; obtain ⟨c11, H⟩ := H
    have c11b0 : decide (x8_1 < (x6_1.length : Int)) = true := decide_eq_true c11
    clear c11
    obtain ⟨y431, hy431⟩ : ∃ y_ : List Int, y_ = (x6_1.set (x8_1 : Int).toNat t429) := ⟨_, rfl⟩
    replace H : (nat_short.l0 k1 l0 a1 y431 t430 (wrap64 (x8_1 - 1))) = some (r1, r2) := by first | (rw [hy431]; with_reducible exact H) | (have H2_ := (Option.bind_some _ _).symm.trans H; rw [hy431]; with_reducible exact H2_) | (have H2_ := (Option.bind_some _ _).symm.trans H; with_reducible exact H2_) | with_reducible exact H | (rw [hy431]; exact H) | exact H
    have Ny431 := Aside0.mk hy431; clear hy431
    have H' := Aside0.mk H
    clear H
    have p428 : 0 ≤ (x8_1 : Int) := uO
    have q428 : x8_1 < (l0.length : Int) := uO
    obtain ⟨ad428, e428, hx428_0⟩ := Kd.at_int HR0.out x8_1 p428 q428
    cases e428
    replace hx428_0 := (HB.out.cell (World.block_lt_of_cell? w _ hx428_0)).trans hx428_0
    replace p428 := eq_true p428
    replace q428 := eq_true q428
    go_wp2_with (first | ((with_reducible refine gate_callee (f := 114) rfl ?_); refine goesL_ (some 28) rfl rfl Try.func114 (by kernel_rfl) rfl #[.int .u64 x7_1, .int .u64 (rd l0 x8_1), .int .u64 a1] rfl uM ?_; (with_reducible refine (bits_Div64.calls k1 x7_1 (rd l0 x8_1) a1 t429 t430 _ A10.out).mono ?_); rintro e w' ⟨rfl, ⟨nd, rfl⟩⟩; refine ⟨_, rfl, ?_⟩; (try (rw [drewN_self wr]; generalize hq_ : World.drewN wr _ = wr; replace HO_6 : Aside0 (Kd.R (Kd.int .u64) 47 wr w.heap.size (fun _ => True) v426 x6_1) := ⟨by rw [← hq_]; exact (uR HO_6.out)⟩; replace HB : Aside0 (Below w.heap.size w wr) := ⟨by rw [← hq_]; exact uB⟩; clear hq_)); have p12 : 0 ≤ (x8_1 : Int) := uO; have q12 : (x8_1 : Int) < ((x6_1.length : Int) : Int) := uO; obtain ⟨go12, co12, eo12, gb12, gl12, cl12, HG12⟩ := Kd.R_form HO_6.out (by omega); (first | cases eo12 | (injection eo12 with ea_ en_ ec_; (first | subst ea_ | (injection ea_ with ea_; subst ea_)); subst ec_; clear en_)); have GB12 := Aside0.mk gb12; have GG12 := Aside0.mk HG12; clear gb12 gl12 HG12; obtain ⟨hx12_0, hf12_0⟩ := Kd.R_celln 0 HO_6.out (x8_1 : Int) p12 q12; replace p12 := eq_true p12; replace q12 := eq_true q12; obtain ⟨hy13_, hz13_⟩ := Kd.R_celln 0 HO_6.out (x8_1 : Int) uO uO; have HP13 := Kd.R_putg HO_6.out (x8_1 : Int) t429) | ((with_reducible refine gate_store (t := 47) (p := 31) rfl ?_); refine store_event (t := 47) (p := 31) (v := ?vo_w14) (w1 := (wr.setCell ⟨go12, (x8_1 : Int).toNat, none⟩ (.int .u64 t429))) ?hg ?ho ?hn ?hr ?_; (case ho => rfl); (case hg => rfl); (case hn => rfl); (case hr => first | (go_simp; done) | (go_simp; rfl) | (obtain ⟨hy_, hz_⟩ := Kd.R_celln 0 HO_6.out (x8_1 : Int) uO uO; (try simp only [Go.IntWalk.toNatUp] at hy_ hz_); (try simp only [Int.reduceToNat, Int.toNat_zero, Int.toNat_ofNat] at hy_ hz_); first | (go_simp; done) | (go_simp; rfl))); intro w14 hw; have hg : wr.grownBy w14 (some go12) := (by rw [hw]; exact HP13.2); have hp_ : Kd.R (Kd.int .u64) 47 w14 w.heap.size (fun _ => True) (.slice (some ⟨go12, 0, none⟩) x6_1.length co12) y431 := (by rw [hw, Ny431.out]; exact HP13.1); clear HP13; replace HO_6 := Aside0.mk (hp_); replace HB := Aside0.mk ((by rw [hw]; exact below_set (HB.out) GB12.out : Below w.heap.size w w14)); clear hg hw hp_))
    go_roundg k1
    case measure => have := HK1.out; omega
    case rel => exact ⟨(y431), (t430), (wrap64 (x8_1 - 1)), uG, uG, H', ⟨by have := HK1.out; omega⟩, ⟨uR HO_6.out⟩, ⟨uB⟩⟩
   rw [if_neg c7] at H
   have c7b0 : decide (0 ≤ x8_1) = false := decide_eq_false c7
   clear c7
   replace H := ub H; obtain ⟨t432, A15, H⟩ := H
   simp only [Option.some.injEq, Prod.mk.injEq] at H
   obtain ⟨rfl, rfl⟩ := H
   obtain ⟨Ao16, co16, eo16⟩ := Kd.R_slice HO_6.out
   subst eo16
   go_wp2_with (first | ((with_reducible refine gate_callee (f := 87) rfl ?_); refine goesL_ (some 33) rfl rfl Try.func87 (by kernel_rfl) rfl #[.slice Ao16 x6_1.length co16] rfl uM ?_; (with_reducible refine (nat_trim.calls k1 (fun k_ => some k_ = (.slice Ao16 x6_1.length co16 : Value).ownBlock) (.slice Ao16 x6_1.length co16) x6_1 t432 w _ ?side1 ?side2 A15.out).mono ?_); (case side1 => repeat (first | (with_reducible first | exact HB.out | apply below_alloc | apply pw_below_drewN | apply below_drew1) | exact HB.out)); (case side2 => exact Kd.R_tight rfl HO_6.out); rintro e w17 ⟨v433, rfl, ho0, hb, hkp⟩; refine ⟨_, rfl, ?_⟩; have HO434 := Aside0.mk (Kd.R_mono (ok' := fun k_ => True) ho0 (fun k_ hk_ => trivial)); replace HB := Aside0.mk (hb); clear HO_6; (try clear hb); (try clear hkp); (try clear ho0)))
   go_ret2
   exact ⟨_, uF, uR HO434.out, uB⟩
end Go.Proofs.Ytgeanpnkllnipaa.F
end
section
namespace Go.Proofs.Ytgeanpnkllnipaa.F
open Go.RowKit Go.Proofs.YtgeanpnkllnipaaW.PrintWords Go.Proofs.YtgeanpnkllnipaaW.PrintLast Go.Proofs.YtgeanpnkllnipaaW.PrintMore
attribute [local go_sem] max2_int min2_int max_two min_two max_three min_three max_four min_four
set_option linter.unusedVariables false
set_option linter.unusedSimpArgs false
mutual
def nat_guess.l0 : Nat → Int → Int → Int → Int → Int → Option (Int)
 | 0, _, _, _, _, _ => none
 | k + 1, x2, x3, x4, x11, x12 => (bits_Mul64.f x11 x4).bind fun bt444 => (if bt444.1 < x12 then (nat_guess.j1 k x2 x3 x4 x11 x12 true) else (if bt444.1 = x12 then (nat_guess.j1 k x2 x3 x4 x11 x12 (decide (bt444.2 ≤ x2))) else (nat_guess.j1 k x2 x3 x4 x11 x12 false)))
def nat_guess.j1 : Nat → Int → Int → Int → Int → Int → Bool → Option (Int)
 | 0, _, _, _, _, _, _ => none
 | k + 1, x2, x3, x4, x11, x12, x44 => if x44 = true then (some x11) else (if (IntKind.u64.wrap (x12 + x3)) < x12 then (some (IntKind.u64.wrap (x11 - 1))) else (nat_guess.l0 k x2 x3 x4 (IntKind.u64.wrap (x11 - 1)) (IntKind.u64.wrap (x12 + x3))))
end
def nat_guess.f (k : Nat) (a0 : Int) (a1 : Int) (a2 : Int) (a3 : Int) (a4 : Int) : Option (Int) := if a0 ≥ a3 then (some 18446744073709551615) else ((bits_Div64.f k a0 a1 a3).bind fun bt442 => (nat_guess.l0 k a2 a3 a4 bt442.1 bt442.2))
set_option maxHeartbeats 8000000 in
set_option maxRecDepth 100000 in
theorem nat_guess.calls (k : Nat) (a0 : Int) (a1 : Int) (a2 : Int) (a3 : Int) (a4 : Int) (r : Int) (w : World) (h : nat_guess.f k a0 a1 a2 a3 a4 = some r) :
  Calls Try.prog 117 #[.int .u64 a0, .int .u64 a1, .int .u64 a2, .int .u64 a3, .int .u64 a4] w fun e w' => e = .returned (.int .u64 r) ∧ Drawn0 w w' := by
 have H : (if a0 ≥ a3 then (some 18446744073709551615) else ((bits_Div64.f k a0 a1 a3).bind fun bt442 => (nat_guess.l0 k a2 a3 a4 bt442.1 bt442.2))) = some r := h
 clear h
 by_cases c6 : a0 ≥ a3
 ·
  rw [if_pos c6] at H
  have c6b0 : decide (a3 ≤ a0) = true := decide_eq_true c6
  clear c6
  obtain rfl := Option.some.inj H
  go_enter Try.func117, Try.ntmps117
  go_wp2
  go_ret
  exact ⟨by first | rfl | (simp; done) | (simp [*]; done), by repeat (first | exact Drawn0.refl _ | apply Drawn0.step)⟩
 rw [if_neg c6] at H
 have c6b0 : decide (a3 ≤ a0) = false := decide_eq_false c6
 clear c6
 replace H := ub H; obtain ⟨⟨t442, t443⟩, A7, H⟩ := H
 (try dsimp only at H)
 have H' := Aside0.mk H
 clear H
 go_enter Try.func117, Try.ntmps117
 go_wp2_with (first | ((with_reducible refine gate_callee (f := 114) rfl ?_); refine goesL_ (some 23) rfl rfl Try.func114 (by kernel_rfl) rfl #[.int .u64 a0, .int .u64 a1, .int .u64 a3] rfl uM ?_; (with_reducible refine (bits_Div64.calls k a0 a1 a3 t442 t443 _ A7.out).mono ?_); rintro e w' ⟨rfl, ⟨nd, rfl⟩⟩; refine ⟨_, rfl, ?_⟩))
 go_loopg [11, 12] k (fun kq v11 v12 w' => ∃ (x11_1 : Int) (x12_1 : Int), v11 = .int .u64 x11_1 ∧ v12 = .int .u64 x12_1 ∧ Aside0 (nat_guess.l0 kq a2 a3 a4 x11_1 x12_1 = some r) ∧ Aside0 (kq ≤ k) ∧ Drawn0 w w')
 case atStart => exact ⟨(t442), (t443), uG, uG, H', ⟨Nat.le_refl _⟩, by repeat (first | exact Drawn0.refl _ | apply Drawn0.step)⟩
 case round =>
  clear H'
  (try clear c1); (try clear p2); (try clear c6); (try clear c6b0)
  obtain ⟨x11_1, x12_1, rfl, rfl, HA, HK1, ⟨m1, rfl⟩⟩ := hrel
  cases gk with
  | zero => exact absurd HA.out (by simp [nat_guess.l0])
  | succ k1 =>
   have H := HA.out
   clear HA
   simp only [nat_guess.l0] at H
   replace H := ub H; obtain ⟨⟨t444, t445⟩, A8, H⟩ := H
   (try dsimp only at H)
   have HC9 := Aside0.mk H; clear H
   go_upto_region 5 with (first | ((with_reducible refine gate_callee (f := 112) rfl ?_); refine goesL_ (some 29) rfl rfl Try.func112 (by kernel_rfl) rfl #[.int .u64 x11_1, .int .u64 a4] rfl uM ?_; (with_reducible refine (bits_Mul64.calls x11_1 a4 t444 t445 _ A8.out).mono ?_); rintro e w' ⟨rfl, ⟨nd, rfl⟩⟩; refine ⟨_, rfl, ?_⟩))
   (try simp only [Act.put, List.setIfInBounds_toArray, List.set_cons_zero, List.set_cons_succ])
   go_cut [44] (fun v44 wc => ∃ (kq : Nat) (x44_8 : Bool), v44 = .bool x44_8 ∧ Aside0 (nat_guess.j1 kq a2 a3 a4 x11_1 x12_1 x44_8 = some r) ∧ Aside0 (kq ≤ k1) ∧ Drawn0 w wc)
   case first =>
    have H := HC9.out
    clear HC9
    by_cases c10 : t444 < x12_1
    ·
     rw [if_pos c10] at H
     have c10b0 : decide (t444 < x12_1) = true := decide_eq_true c10
     clear c10
     (first | rw [c10b0] | (simp only [i64_w, i32_w]; rw [c10b0]) | skip)
     have H' := Aside0.mk H
     clear H
     go_wp2
     go_meet
     case rel => exact ⟨_, (true), uG, H', ⟨by have := HK1.out; first | omega | exact Nat.le_refl _⟩, by repeat (first | exact Drawn0.refl _ | apply Drawn0.step)⟩
    rw [if_neg c10] at H
    have c10b0 : decide (t444 < x12_1) = false := decide_eq_false c10
    clear c10
    (first | rw [c10b0] | (simp only [i64_w, i32_w]; rw [c10b0]) | skip)
    by_cases c11 : t444 = x12_1
    ·
     rw [if_pos c11] at H
     have c11b0 : (t444 == x12_1) = true := beq_iff_eq.mpr c11
     have c11b1 : (t444 != x12_1) = false := bne_eq_false_iff_eq.mpr c11
     clear c11
     have H' := Aside0.mk H
     clear H
     go_wp2
     go_meet
     case rel => exact ⟨_, (decide (t445 ≤ a2)), uG, H', ⟨by have := HK1.out; first | omega | exact Nat.le_refl _⟩, by repeat (first | exact Drawn0.refl _ | apply Drawn0.step)⟩
    rw [if_neg c11] at H
    have c11b0 : (t444 == x12_1) = false := beq_eq_false_iff_ne.mpr c11
    have c11b1 : (t444 != x12_1) = true := bne_iff_ne.mpr c11
    have H' := Aside0.mk H
    clear H
    go_wp2
    go_meet
    case rel => exact ⟨_, (false), uG, H', ⟨by have := HK1.out; first | omega | exact Nat.le_refl _⟩, by repeat (first | exact Drawn0.refl _ | apply Drawn0.step)⟩
   case rest =>
    clear HC9; (try clear c1); (try clear p2); (try clear c6); (try clear c6b0); (try clear c10); (try clear c10b0); (try clear c11); (try clear c11b0); (try clear c11b1); (try clear p2)
    obtain ⟨kq, x44_8, rfl, HA, HJ8, ⟨mc8, rfl⟩⟩ := hcut
    cases kq with
    | zero => exact absurd HA.out (by simp [nat_guess.j1])
    | succ kj8 =>
     have H := HA.out
     clear HA
     simp only [nat_guess.j1] at H
     by_cases c12 : x44_8 = true
     ·
      subst c12
      have H1 : (some x11_1) = some r := by rw [if_pos rfl] at H; exact H
      clear H; have H := H1; clear H1
      obtain rfl := Option.some.inj H
      go_wp2
      go_ret
      exact ⟨by first | rfl | (simp; done) | (simp [*]; done), by repeat (first | exact Drawn0.refl _ | apply Drawn0.step)⟩
     replace c12 := Bool.eq_false_iff.mpr c12
     subst c12
     have H1 : (if (IntKind.u64.wrap (x12_1 + a3)) < x12_1 then (some (IntKind.u64.wrap (x11_1 - 1))) else (nat_guess.l0 kj8 a2 a3 a4 (IntKind.u64.wrap (x11_1 - 1)) (IntKind.u64.wrap (x12_1 + a3)))) = some r := by rw [if_neg (show ¬ (false = true) by decide)] at H; exact H
     clear H; have H := H1; clear H1
     by_cases c13 : (IntKind.u64.wrap (x12_1 + a3)) < x12_1
     ·
      rw [if_pos c13] at H
      have c13b0 : decide ((IntKind.u64.wrap (x12_1 + a3)) < x12_1) = true := decide_eq_true c13
      clear c13
      obtain rfl := Option.some.inj H
      go_wp2
      go_ret
      exact ⟨by first | rfl | (simp; done) | (simp [*]; done), by repeat (first | exact Drawn0.refl _ | apply Drawn0.step)⟩
     rw [if_neg c13] at H
     have c13b0 : decide ((IntKind.u64.wrap (x12_1 + a3)) < x12_1) = false := decide_eq_false c13
     clear c13
     have H' := Aside0.mk H
     clear H
     go_wp2
     go_roundg kj8
     case measure => have := HK1.out; have := HJ8.out; omega
     case rel => exact ⟨(IntKind.u64.wrap (x11_1 - 1)), (IntKind.u64.wrap (x12_1 + a3)), uG, uG, H', ⟨by have := HK1.out; have := HJ8.out; omega⟩, by repeat (first | exact Drawn0.refl _ | apply Drawn0.step)⟩
end Go.Proofs.Ytgeanpnkllnipaa.F
end
section
namespace Go.Proofs.Ytgeanpnkllnipaa.F
open Go.RowKit Go.Proofs.YtgeanpnkllnipaaW.PrintWords Go.Proofs.YtgeanpnkllnipaaW.PrintLast Go.Proofs.YtgeanpnkllnipaaW.PrintMore
attribute [local go_sem] max2_int min2_int max_two min_two max_three min_three max_four min_four
set_option linter.unusedVariables false
set_option linter.unusedSimpArgs false
mutual
def nat_long.l0 : Nat → Int → List Int → List Int → Int → List Int → Int → Option (List Int × List Int)
 | 0, _, _, _, _, _, _ => none
 | k + 1, x6, x7, x8, x9, x10, x11 => if x11 ≥ 0 then (if 0 ≤ (wrap64 (x11 + x9)) then (if (wrap64 (x11 + x9)) < (x7.length : Int) then (if 0 ≤ (wrap64 ((wrap64 (x11 + x9)) - 1)) then (if (wrap64 ((wrap64 (x11 + x9)) - 1)) < (x7.length : Int) then (if 0 ≤ (wrap64 ((wrap64 (x11 + x9)) - 2)) then (if (wrap64 ((wrap64 (x11 + x9)) - 2)) < (x7.length : Int) then (if 0 ≤ (wrap64 (x9 - 1)) then (if (wrap64 (x9 - 1)) < (x8.length : Int) then (if 0 ≤ (wrap64 (x9 - 2)) then (if (wrap64 (x9 - 2)) < (x8.length : Int) then ((nat_guess.f k (rd x7 (wrap64 (x11 + x9))) (rd x7 (wrap64 ((wrap64 (x11 + x9)) - 1))) (rd x7 (wrap64 ((wrap64 (x11 + x9)) - 2))) (rd x8 (wrap64 (x9 - 1))) (rd x8 (wrap64 (x9 - 2)))).bind fun t465 => (if 0 ≤ x11 then (if x11 ≤ (wrap64 ((wrap64 (x11 + x9)) + 1)) then (if (wrap64 ((wrap64 (x11 + x9)) + 1)) ≤ (x7.length : Int) then (nat_long.l1 k x6 x7 x8 x9 x10 x11 t465 ((x7.take ((wrap64 ((wrap64 (x11 + x9)) + 1)) : Int).toNat).drop (x11 : Int).toNat)) else (none)) else (none)) else (none))) else (none)) else (none)) else (none)) else (none)) else (none)) else (none)) else (none)) else (none)) else (none)) else (none)) else ((nat_trim.f k x7).bind fun t488 => (if 0 ≤ (t488.length : Int) then (if ((t488.length : Int) : Int).toNat ≤ 35184372088832 then (nat_long.l2 k x6 x10 t488 (List.replicate ((t488.length : Int) : Int).toNat 0) (t488.length : Int) 0) else (none)) else (none)))
def nat_long.l1 : Nat → Int → List Int → List Int → Int → List Int → Int → Int → List Int → Option (List Int × List Int)
 | 0, _, _, _, _, _, _, _, _ => none
 | k + 1, x6, x7, x8, x9, x10, x11, x12, x13 => (nat_Of.f k x12).bind fun t470 => ((nat_school.f k x8 t470).bind fun t473 => ((api_Nat_uint64.f x13).bind fun t476 => ((nat_trim.f k t476).bind fun t479 => ((nat_compare.f k t479 t473).bind fun t482 => (if t482 ≥ 0 then ((nat_less.f k x13 t473).bind fun t483 => (if t483.length = x13.length then (if 0 ≤ x11 then (if x11 < (x10.length : Int) then (nat_long.l0 k x6 (x7.take (x11 : Int).toNat ++ (t483 ++ x7.drop ((x11 : Int).toNat + x13.length))) x8 x9 (x10.set (x11 : Int).toNat x12) (wrap64 (x11 - 1))) else (none)) else (none)) else (none))) else (nat_long.l1 k x6 x7 x8 x9 x10 x11 (IntKind.u64.wrap (x12 - 1)) x13))))))
def nat_long.l2 : Nat → Int → List Int → List Int → List Int → Int → Int → Option (List Int × List Int)
 | 0, _, _, _, _, _, _ => none
 | k + 1, x6, x10, x15, x16, x112, x113 => if x113 < x112 then (if 0 ≤ x113 then (if x113 < (x15.length : Int) then (if 0 ≤ x6 then (if x113 < (x16.length : Int) then ((some (x16.set (x113 : Int).toNat (shr .u64 (rd x15 x113) x6) : List Int)).bind fun y495 => (if x6 > 0 then (if (wrap64 (x113 + 1)) < (x15.length : Int) then (if 0 ≤ (wrap64 (x113 + 1)) then (if 0 ≤ (IntKind.u64.wrap (64 - x6)) then (nat_long.l2 k x6 x10 x15 (y495.set (x113 : Int).toNat (Go.bits .or .u64 (rd y495 x113) (shl .u64 (rd x15 (wrap64 (x113 + 1))) (IntKind.u64.wrap (64 - x6))))) x112 (wrap64 (x113 + 1))) else (none)) else (none)) else (nat_long.l2 k x6 x10 x15 y495 x112 (wrap64 (x113 + 1)))) else (nat_long.l2 k x6 x10 x15 y495 x112 (wrap64 (x113 + 1))))) else (none)) else (none)) else (none)) else (none)) else ((nat_trim.f k x10).bind fun t499 => ((nat_trim.f k x16).bind fun t502 => (some (t499, t502))))
end
def nat_long.f (k : Nat) (l0 : List Int) (l1 : List Int) : Option (List Int × List Int) := if 0 ≤ (wrap64 ((l1.length : Int) - 1)) then (if (wrap64 ((l1.length : Int) - 1)) < (l1.length : Int) then ((bits_LeadingZeros64.f k (rd l1 (wrap64 ((l1.length : Int) - 1)))).bind fun t447 => ((nat_up.f k l0 (IntKind.u64.wrap (t447))).bind fun t448 => ((nat_up.f k l1 (IntKind.u64.wrap (t447))).bind fun t451 => ((nat_trim.f k t451).bind fun t454 => (if 0 ≤ (wrap64 ((t448.length : Int) - (t454.length : Int))) then (if (wrap64 ((t448.length : Int) - (t454.length : Int)) : Int).toNat ≤ 35184372088832 then ((some (List.replicate (wrap64 ((t448.length : Int) - (t454.length : Int)) : Int).toNat 0 : List Int)).bind fun y457 => (nat_long.l0 k (IntKind.u64.wrap (t447)) t448 t454 (t454.length : Int) y457 (wrap64 ((y457.length : Int) - 1)))) else (none)) else (none)))))) else (none)) else (none)
def nat_long.T8 : Bool × List (List Nat × List Nat) := (true, [([], []), ([], []), ([], []), ([1, 2], [1, 2]), ([0, 3], [0, 3]), ([4], [4]), ([], []), ([], []), ([], []), ([7, 8], [7, 8]), ([9], [9]), ([6, 10], [6, 10]), ([11], [11]), ([], []), ([], []), ([], []), ([14, 15], [14, 15]), ([16], [16]), ([13, 17], [13, 17]), ([18], [18]), ([], []), ([], []), ([21], [21]), ([20, 22], [20, 22]), ([23], [23]), ([], []), ([], []), ([26], [26]), ([25, 27], [25, 27]), ([28], [28]), ([5, 12, 19, 24, 29], [5, 12, 19, 24, 29]), ([30, 30, 0, 1, 2, 3, 4, 5, 6, 7, 8, 9, 10, 11, 12, 13, 14, 15, 16, 17, 18, 19, 20, 21, 22, 23, 24, 25, 26, 27, 28, 29, 30], [30])])
def nat_long.B8 : List Nat := [0, 0, 0, 6, 15, 31, 0, 0, 0, 384, 896, 1984, 4032, 0, 0, 0, 49152, 114688, 253952, 516096, 0, 0, 2097152, 7340032, 15728640, 0, 0, 67108864, 234881024, 503316480, 1073741823, 2147483647]
theorem nat_long.tab8 : rtab .any (opsOf Try.f109 8) = nat_long.T8 := by kernel_rfl
theorem nat_long.bits8 : waitsOk nat_long.T8.2 nat_long.B8 = true := by kernel_rfl
def nat_long.T22 : Bool × List (List Nat × List Nat) := (true, [([], []), ([], []), ([0, 1], [0, 1]), ([2], [2]), ([], []), ([], []), ([5], [5]), ([4, 6], [4, 6]), ([7], [7]), ([], []), ([9], [9]), ([8, 10], [8, 10]), ([3, 11], [3, 11]), ([0, 1, 0, 1, 2, 3, 4, 5, 6, 7, 8, 9, 10, 11, 12], [0, 1]), ([13, 12, 0, 1, 2, 3, 4, 5, 6, 7, 8, 9, 10, 11, 12], [12, 13])])
def nat_long.B22 : List Nat := [0, 0, 3, 7, 0, 0, 32, 112, 240, 0, 512, 2032, 4095, 8191, 16383]
theorem nat_long.tab22 : rtab .any (opsOf Try.f109 22) = nat_long.T22 := by kernel_rfl
theorem nat_long.bits22 : waitsOk nat_long.T22.2 nat_long.B22 = true := by kernel_rfl
set_option maxHeartbeats 8000000 in
set_option maxRecDepth 100000 in
theorem nat_long.calls (k : Nat) (A0 : Option Addr) (c0 : Nat) (l0 : List Int) (A1 : Option Addr) (c1 : Nat) (l1 : List Int) (r1 : List Int) (r2 : List Int) (w : World) (hr0 : Kd.C (Kd.int .u64) w A0 l0.length l0) (hc0 : l0.length ≤ c0) (hr1 : Kd.C (Kd.int .u64) w A1 l1.length l1) (hc1 : l1.length ≤ c1) (h : nat_long.f k l0 l1 = some (r1, r2)) :
  Calls Try.prog 109 #[.slice A0 l0.length c0, .slice A1 l1.length c1] w fun e w' => ∃ v0_ v1_ : Value, e = .returned (.tuple #[v0_, v1_]) ∧ Kd.R (Kd.int .u64) 47 w' w.heap.size (fun k_ => some k_ ≠ (v1_ : Value).ownBlock) v0_ r1 ∧ Kd.R (Kd.int .u64) 47 w' w.heap.size (fun k_ => some k_ ≠ (v0_ : Value).ownBlock) v1_ r2 ∧ Below w.heap.size w w' := by
 have HR0 := Aside0.mk hr0; have HC0 := Aside0.mk hc0; clear hr0 hc0; have HR1 := Aside0.mk hr1; have HC1 := Aside0.mk hc1; clear hr1 hc1
 have HB := Aside0.mk (Below.refl w.heap.size w)
 have H : (if 0 ≤ (wrap64 ((l1.length : Int) - 1)) then (if (wrap64 ((l1.length : Int) - 1)) < (l1.length : Int) then ((bits_LeadingZeros64.f k (rd l1 (wrap64 ((l1.length : Int) - 1)))).bind fun t447 => ((nat_up.f k l0 (IntKind.u64.wrap (t447))).bind fun t448 => ((nat_up.f k l1 (IntKind.u64.wrap (t447))).bind fun t451 => ((nat_trim.f k t451).bind fun t454 => (if 0 ≤ (wrap64 ((t448.length : Int) - (t454.length : Int))) then (if (wrap64 ((t448.length : Int) - (t454.length : Int)) : Int).toNat ≤ 35184372088832 then ((some (List.replicate (wrap64 ((t448.length : Int) - (t454.length : Int)) : Int).toNat 0 : List Int)).bind fun y457 => (nat_long.l0 k (IntKind.u64.wrap (t447)) t448 t454 (t454.length : Int) y457 (wrap64 ((y457.length : Int) - 1)))) else (none)) else (none)))))) else (none)) else (none)) = some (r1, r2) := h
 clear h
 obtain ⟨ji3, hji3⟩ : ∃ j_ : Int, (wrap64 ((l1.length : Int) - 1)) = j_ := ⟨_, rfl⟩
 first | rw [hji3] at H | simp only [hji3] at H
 have hji3w : (IntKind.i64.wrap ((l1.length : Int) - 1)) = ji3 := (i64_w _).trans hji3
 replace H := uT H; obtain ⟨c4, H⟩ := H
 have c4b0 : decide (0 ≤ (ji3)) = true := decide_eq_true c4
 clear c4
 replace H := uT H; obtain ⟨c5, H⟩ := H
 have c5b0 : decide ((ji3) < (l1.length : Int)) = true := decide_eq_true c5
 clear c5
 replace H := ub H; obtain ⟨t447, A6, H⟩ := H
 replace H := ub H; obtain ⟨t448, A7, H⟩ := H
 replace H := ub H; obtain ⟨t451, A8, H⟩ := H
 replace H := ub H; obtain ⟨t454, A9, H⟩ := H
 obtain ⟨ji10, hji10⟩ : ∃ j_ : Int, (wrap64 ((t448.length : Int) - (t454.length : Int))) = j_ := ⟨_, rfl⟩
 first | rw [hji10] at H | simp only [hji10] at H
 (try rw [hji10] at A6)
 (try rw [hji10] at A7)
 (try rw [hji10] at A8)
 (try rw [hji10] at A9)
 have hji10w : (IntKind.i64.wrap ((t448.length : Int) - (t454.length : Int))) = ji10 := (i64_w _).trans hji10
 replace H := uT H; obtain ⟨c11, H⟩ := H
 have c11b0 := eq_true c11
 have c11b1 : decide (0 ≤ (ji10)) = true := decide_eq_true c11
 clear c11
 replace H := uT H; obtain ⟨c12, H⟩ := H
 have c12b0 := eq_true c12
 have c12b1 : decide ((ji10 : Int).toNat ≤ 35184372088832) = true := decide_eq_true c12
 clear c12
 obtain ⟨y457, hy457⟩ : ∃ y_ : List Int, y_ = (List.replicate (ji10 : Int).toNat 0) := ⟨_, rfl⟩
 replace H : (nat_long.l0 k (IntKind.u64.wrap (t447)) t448 t454 (t454.length : Int) y457 (wrap64 ((y457.length : Int) - 1))) = some (r1, r2) := by first | (rw [hy457]; with_reducible exact H) | (have H2_ := (Option.bind_some _ _).symm.trans H; rw [hy457]; with_reducible exact H2_) | (have H2_ := (Option.bind_some _ _).symm.trans H; with_reducible exact H2_) | with_reducible exact H | (rw [hy457]; exact H) | exact H
 have Ny457 := Aside0.mk hy457; clear hy457
 have H' := Aside0.mk H
 clear H
 have p446 : 0 ≤ ((ji3) : Int) := uO
 have q446 : (ji3) < (l1.length : Int) := uO
 obtain ⟨ad446, e446, hx446_0⟩ := Kd.at_int HR1.out (ji3) p446 q446
 cases e446
 replace p446 := eq_true p446
 replace q446 := eq_true q446
 go_enter Try.func109, Try.ntmps109
 go_wp2_with (first | ((with_reducible refine gate_callee (f := 115) rfl ?_); refine goesL_ (some 24) rfl rfl Try.func115 (by kernel_rfl) rfl #[.int .u64 (rd l1 (ji3))] rfl (by (try simp only [List.map_toArray, List.map_cons, List.map_nil]); first | done | (simp only [hji3]; rfl) | rfl | (simp only [List.length_drop, List.length_take]; rfl)) ?_; (with_reducible refine (bits_LeadingZeros64.calls k (rd l1 (ji3)) t447 _ A6.out).mono ?_); rintro e w' ⟨rfl, ⟨nd, rfl⟩⟩; refine ⟨_, rfl, ?_⟩) | ((with_reducible refine gate_callee (f := 116) rfl ?_); refine goesL_ (some 28) rfl rfl Try.func116 (by kernel_rfl) rfl #[.slice A0 l0.length c0, .int .u64 (IntKind.u64.wrap (t447))] rfl uM ?_; (with_reducible refine (nat_up.calls k _ _ l0 (IntKind.u64.wrap (t447)) t448 _ ?side1 ?side2 A7.out).mono ?_); (case side1 => exact uC HR0.out); (case side2 => exact HC0.out); rintro e w13 ⟨v449, rfl, ho0, hb⟩; refine ⟨_, rfl, ?_⟩; have HO450 := Aside0.mk (Kd.R_lower ho0 (below_size uB)); replace HB := uy hb; (try clear hb ho0)) | ((with_reducible refine gate_callee (f := 116) rfl ?_); refine goesL_ (some 31) rfl rfl Try.func116 (by kernel_rfl) rfl #[.slice (some ad446) l1.length c1, .int .u64 (IntKind.u64.wrap (t447))] rfl uM ?_; (with_reducible refine (nat_up.calls k _ _ l1 (IntKind.u64.wrap (t447)) t451 _ ?side1 ?side2 A8.out).mono ?_); (case side1 => exact uC (Kd.C_below HR1.out HB.out)); (case side2 => exact HC1.out); rintro e w14 ⟨v452, rfl, ho0, hb⟩; refine ⟨_, rfl, ?_⟩; have HO453 := Aside0.mk (Kd.R_lower (Kd.R_new' ho0 (Kd.R_lt (uR HO450.out))) (below_size uB)); replace HO450 := ueR HO450 ho0 hb; replace HB := uy hb; (try clear hb ho0); obtain ⟨Ao15, co15, eo15⟩ := Kd.R_slice HO453.out; subst eo15) | ((with_reducible refine gate_callee (f := 87) rfl ?_); refine goesL_ (some 32) rfl rfl Try.func87 (by kernel_rfl) rfl #[.slice Ao15 t451.length co15] rfl uM ?_; (with_reducible refine (nat_trim.calls k (fun k_ => some k_ = (.slice Ao15 t451.length co15 : Value).ownBlock) (.slice Ao15 t451.length co15) t451 t454 w _ ?side1 ?side2 A9.out).mono ?_); (case side1 => repeat (first | (with_reducible first | exact HB.out | apply below_alloc | apply pw_below_drewN | apply below_drew1) | exact HB.out)); (case side2 => exact Kd.R_tight rfl HO453.out); rintro e w16 ⟨v455, rfl, ho0, hb, hkp⟩; refine ⟨_, rfl, ?_⟩; have HO456 := Aside0.mk (Kd.R_mono (ok' := fun k_ => some k_ ≠ (v449 : Value).ownBlock) ho0 (fun k_ hk_ => Or.elim hk_ (fun hs_ => fun e_ => (((HO450.out).1 k_ e_.symm).2) hs_) (fun hn_ => (Kd.fresh' (Kd.R_lt (uR HO450.out)) k_ hn_)))); replace HO450 := Aside0.mk (Kd.R_mono (ok' := fun k_ => some k_ ≠ (v455 : Value).ownBlock) (Kd.R_keptB (HO450.out) hkp (fun k_ hk_ hs_ => (hk_.2) hs_)) (fun k_ hk_ => fun e_ => Or.elim (ho0.1 k_ e_.symm) (fun hs_ => hk_.2.1 hs_) (fun hn_ => Nat.not_le.2 hk_.2.2 hn_))); replace HB := Aside0.mk (hb); clear HO453; (try clear hb); (try clear hkp); (try clear ho0); obtain ⟨Ao17, co17, eo17⟩ := Kd.R_slice HO456.out; subst eo17; obtain ⟨Ao18, co18, eo18⟩ := Kd.R_slice HO450.out; subst eo18) | ((with_reducible refine gate_dst (N := 39) rfl ?_); (try (refine gate_guard (by rfl) ?_; dsimp only)); refine Kd.R_make (Kd.int .u64) _ 47 rfl (N := 39) rfl 29 _ _ rfl ji10 rfl rfl Try.underlying29 (.int .u64 0) 8 info47 rfl (by decide) (by omega) 0 (ok := fun _ => True) (okp := fun _ => True) rfl (fun _ hk => hk) trivial uO (Nat.le_trans (Nat.mul_le_mul_right _ (uO : ji10.toNat ≤ 35184372088832)) (by omega)) (Below.refl _ _) (Nat.le_refl _) ?_; intro v458 w19 ho20 hb hg_ hnew_; clear hg_ hnew_; (first | rw [← Ny457.out] at ho20 | (simp only [Int.reduceToNat] at ho20; rw [← Ny457.out] at ho20)); have HO459 := Aside0.mk (Kd.R_lower (Kd.R_new' (Kd.R_new' ho20 (Kd.R_lt (uR HO450.out))) (Kd.R_lt (uR HO456.out))) (below_size uB)); replace HO450 := ueR HO450 ho20 hb; replace HO456 := ueR HO456 ho20 hb; replace HB := uy hb; clear hb ho20; obtain ⟨Ao21, co21, eo21⟩ := Kd.R_slice HO459.out; subst eo21))
 go_loopg [11] k (fun kq v11 w' => ∃ (x7_1 : List Int) (x10_1 : List Int) (x11_1 : Int), v11 = .int .i64 x11_1 ∧ Aside0 (nat_long.l0 kq (IntKind.u64.wrap (t447)) x7_1 t454 (t454.length : Int) x10_1 x11_1 = some (r1, r2)) ∧ Aside0 (kq ≤ k) ∧ Aside0 (Kd.R (Kd.int .u64) 47 w' w.heap.size (fun k_ => some k_ ≠ ((.slice Ao17 t454.length co17) : Value).ownBlock ∧ some k_ ≠ ((.slice Ao21 y457.length co21) : Value).ownBlock) (.slice Ao18 t448.length co18) x7_1) ∧ Aside0 (Kd.R (Kd.int .u64) 47 w' w.heap.size (fun k_ => some k_ ≠ ((.slice Ao18 t448.length co18) : Value).ownBlock ∧ some k_ ≠ ((.slice Ao21 y457.length co21) : Value).ownBlock) (.slice Ao17 t454.length co17) t454) ∧ Aside0 (Kd.R (Kd.int .u64) 47 w' w.heap.size (fun k_ => some k_ ≠ ((.slice Ao18 t448.length co18) : Value).ownBlock ∧ some k_ ≠ ((.slice Ao17 t454.length co17) : Value).ownBlock) (.slice Ao21 y457.length co21) x10_1) ∧ Aside0 (Below w.heap.size w w'))
 case atStart => exact ⟨(t448), (y457), (wrap64 ((y457.length : Int) - 1)), uG, H', ⟨Nat.le_refl _⟩, ⟨uR HO450.out⟩, ⟨uR HO456.out⟩, ⟨by (with_reducible repeat (first | apply Kd.R_alloc | apply Kd.R_drewN | apply Kd.R_drew)); exact Kd.R_mono HO459.out (fun _ hk => ⟨hk.1.2, hk.2⟩)⟩, ⟨uB⟩⟩
 case round =>
  clear H'
  (try clear c1); (try clear p2); (try clear c4); (try clear c4b0); (try clear p4); (try clear q4); (try clear hx4); (try clear c5); (try clear c5b0); (try clear p6); (try clear c8); (try clear c10); (try clear c11); (try clear c11b0); (try clear c11b1); (try clear c12); (try clear c12b0); (try clear c12b1); (try clear hx446_0); (try clear p446); (try clear q446)
  obtain ⟨x7_1, x10_1, x11_1, rfl, HA, HK1, HO_7, HO_8, HO_10, HB⟩ := hrel
  have hl7_1 := (Kd.R_reads' HO_7.out).1
  rw [hl7_1] at HO_7
  (try simp only [hl7_1])
  (try simp only [hl7_1] at HO_8)
  (try simp only [hl7_1] at HO_10)
  have hl10_1 := (Kd.R_reads' HO_10.out).1
  rw [hl10_1] at HO_10
  (try simp only [hl10_1])
  (try simp only [hl10_1] at HO_7)
  (try simp only [hl10_1] at HO_8)
  cases gk with
  | zero => exact absurd HA.out (by simp [nat_long.l0])
  | succ k1 =>
   have H := HA.out
   clear HA
   simp only [nat_long.l0] at H
   by_cases c22 : x11_1 ≥ 0
   ·
    rw [if_pos c22] at H
    have c22b0 : decide (0 ≤ x11_1) = true := decide_eq_true c22
    clear c22
    obtain ⟨ji23, hji23⟩ : ∃ j_ : Int, (wrap64 (x11_1 + (t454.length : Int))) = j_ := ⟨_, rfl⟩
    first | rw [hji23] at H | simp only [hji23] at H
    have hji23w : (IntKind.i64.wrap (x11_1 + (t454.length : Int))) = ji23 := (i64_w _).trans hji23
    replace H := uT H; obtain ⟨c24, H⟩ := H
    have c24b0 : decide (0 ≤ (ji23)) = true := decide_eq_true c24
    clear c24
    replace H := uT H; obtain ⟨c25, H⟩ := H
    have c25b0 : decide ((ji23) < (x7_1.length : Int)) = true := decide_eq_true c25
    (try (have c25b0h0 := c25b0; simp only [hl7_1] at c25b0h0))
    (try (have c25b0h1 := c25b0; simp only [hl10_1] at c25b0h1))
    clear c25
    obtain ⟨ji26, hji26⟩ : ∃ j_ : Int, (wrap64 ((ji23) - 1)) = j_ := ⟨_, rfl⟩
    first | rw [hji26] at H | simp only [hji26] at H
    have hji26w : (IntKind.i64.wrap ((ji23) - 1)) = ji26 := (i64_w _).trans hji26
    replace H := uT H; obtain ⟨c27, H⟩ := H
    have c27b0 : decide (0 ≤ (ji26)) = true := decide_eq_true c27
    clear c27
    replace H := uT H; obtain ⟨c28, H⟩ := H
    have c28b0 : decide ((ji26) < (x7_1.length : Int)) = true := decide_eq_true c28
    (try (have c28b0h0 := c28b0; simp only [hl7_1] at c28b0h0))
    (try (have c28b0h1 := c28b0; simp only [hl10_1] at c28b0h1))
    clear c28
    obtain ⟨ji29, hji29⟩ : ∃ j_ : Int, (wrap64 ((ji23) - 2)) = j_ := ⟨_, rfl⟩
    first | rw [hji29] at H | simp only [hji29] at H
    have hji29w : (IntKind.i64.wrap ((ji23) - 2)) = ji29 := (i64_w _).trans hji29
    replace H := uT H; obtain ⟨c30, H⟩ := H
    have c30b0 : decide (0 ≤ (ji29)) = true := decide_eq_true c30
    clear c30
    replace H := uT H; obtain ⟨c31, H⟩ := H
    have c31b0 : decide ((ji29) < (x7_1.length : Int)) = true := decide_eq_true c31
    (try (have c31b0h0 := c31b0; simp only [hl7_1] at c31b0h0))
    (try (have c31b0h1 := c31b0; simp only [hl10_1] at c31b0h1))
    clear c31
    obtain ⟨ji32, hji32⟩ : ∃ j_ : Int, (wrap64 ((t454.length : Int) - 1)) = j_ := ⟨_, rfl⟩
    first | rw [hji32] at H | simp only [hji32] at H
    have hji32w : (IntKind.i64.wrap ((t454.length : Int) - 1)) = ji32 := (i64_w _).trans hji32
    replace H := uT H; obtain ⟨c33, H⟩ := H
    have c33b0 : decide (0 ≤ (ji32)) = true := decide_eq_true c33
    clear c33
    replace H := uT H; obtain ⟨c34, H⟩ := H
    have c34b0 : decide ((ji32) < (t454.length : Int)) = true := decide_eq_true c34
    (try (have c34b0h0 := c34b0; simp only [hl7_1] at c34b0h0))
    (try (have c34b0h1 := c34b0; simp only [hl10_1] at c34b0h1))
    clear c34
    obtain ⟨ji35, hji35⟩ : ∃ j_ : Int, (wrap64 ((t454.length : Int) - 2)) = j_ := ⟨_, rfl⟩
    first | rw [hji35] at H | simp only [hji35] at H
    have hji35w : (IntKind.i64.wrap ((t454.length : Int) - 2)) = ji35 := (i64_w _).trans hji35
    replace H := uT H; obtain ⟨c36, H⟩ := H
    have c36b0 : decide (0 ≤ (ji35)) = true := decide_eq_true c36
    clear c36
    replace H := uT H; obtain ⟨c37, H⟩ := H
    have c37b0 : decide ((ji35) < (t454.length : Int)) = true := decide_eq_true c37
    (try (have c37b0h0 := c37b0; simp only [hl7_1] at c37b0h0))
    (try (have c37b0h1 := c37b0; simp only [hl10_1] at c37b0h1))
    clear c37
    replace H := ub H; obtain ⟨t465, A38, H⟩ := H
    replace H := uT H; obtain ⟨c39, H⟩ := H
    have c39b0 := eq_true c39
    have c39b1 : decide (0 ≤ x11_1) = true := decide_eq_true c39
    clear c39
    replace H := uT H; obtain ⟨c40, H⟩ := H
    have c40b0 := eq_true c40
    have c40b1 : decide (x11_1 ≤ (wrap64 ((ji23) + 1))) = true := decide_eq_true c40
    replace H := uT H; obtain ⟨c41, H⟩ := H
    have c41b0 := eq_true c41
    have c41b1 : decide ((wrap64 ((ji23) + 1)) ≤ (x7_1.length : Int)) = true := decide_eq_true c41
    obtain ⟨y466, hy466⟩ : ∃ y_ : List Int, y_ = ((x7_1.take ((wrap64 ((ji23) + 1)) : Int).toNat).drop (x11_1 : Int).toNat) := ⟨_, rfl⟩
    replace H : (nat_long.l1 k1 (IntKind.u64.wrap (t447)) x7_1 t454 (t454.length : Int) x10_1 x11_1 t465 y466) = some (r1, r2) := by first | (rw [hy466]; with_reducible exact H) | (have H2_ := (Option.bind_some _ _).symm.trans H; rw [hy466]; with_reducible exact H2_) | (have H2_ := (Option.bind_some _ _).symm.trans H; with_reducible exact H2_) | with_reducible exact H | (rw [hy466]; exact H) | exact H
    have Ny466 := Aside0.mk hy466; clear hy466
    have H' := Aside0.mk H
    clear H
    try go_wp2
    replace HO_7 := Aside0.mk (Kd.R_drew HO_7.out); replace HO_8 := Aside0.mk (Kd.R_drew HO_8.out); replace HO_10 := Aside0.mk (Kd.R_drew HO_10.out); replace HB := Aside0.mk (below_drew1 HB.out)
    have p460 : 0 ≤ ((ji23) : Int) := uO
    have q460 : (ji23) < (x7_1.length : Int) := uO
    obtain ⟨ad460, e460, hx460_0⟩ := Kd.at_int (Kd.R_reads' HO_7.out).2.2 (ji23) p460 q460
    cases e460
    replace p460 := eq_true p460
    replace q460 := eq_true q460
    have p461 : 0 ≤ ((ji26) : Int) := uO
    have q461 : (ji26) < (x7_1.length : Int) := uO
    obtain ⟨ad461, e461, hx461_0⟩ := Kd.at_int (Kd.R_reads' HO_7.out).2.2 (ji26) p461 q461
    obtain rfl : ad460 = ad461 := (by injection e461)
    replace p461 := eq_true p461
    replace q461 := eq_true q461
    have p462 : 0 ≤ ((ji29) : Int) := uO
    have q462 : (ji29) < (x7_1.length : Int) := uO
    obtain ⟨ad462, e462, hx462_0⟩ := Kd.at_int (Kd.R_reads' HO_7.out).2.2 (ji29) p462 q462
    obtain rfl : ad460 = ad462 := (by injection e462)
    replace p462 := eq_true p462
    replace q462 := eq_true q462
    have p463 : 0 ≤ ((ji32) : Int) := uO
    have q463 : (ji32) < (t454.length : Int) := uO
    obtain ⟨ad463, e463, hx463_0⟩ := Kd.at_int (Kd.R_reads' HO_8.out).2.2 (ji32) p463 q463
    cases e463
    replace p463 := eq_true p463
    replace q463 := eq_true q463
    have p464 : 0 ≤ ((ji35) : Int) := uO
    have q464 : (ji35) < (t454.length : Int) := uO
    obtain ⟨ad464, e464, hx464_0⟩ := Kd.at_int (Kd.R_reads' HO_8.out).2.2 (ji35) p464 q464
    obtain rfl : ad463 = ad464 := (by injection e464)
    replace p464 := eq_true p464
    replace q464 := eq_true q464
    refine start_ (n := 32) (S := fun w' => w'.cell? (ad460.add ((ji23)).toNat) = some (.int .u64 (rd x7_1 (ji23))) ∧ w'.cell? (ad460.add ((ji26)).toNat) = some (.int .u64 (rd x7_1 (ji26))) ∧ w'.cell? (ad460.add ((ji29)).toNat) = some (.int .u64 (rd x7_1 (ji29))) ∧ w'.cell? (ad463.add ((ji32)).toNat) = some (.int .u64 (rd t454 (ji32))) ∧ w'.cell? (ad463.add ((ji35)).toNat) = some (.int .u64 (rd t454 (ji35)))) (ds := []) #[false,false,false,false,false,false,false,false,false,false,false,false,false,false,false,false,false,false,false,false,false,false,false,false,false,false,false,false,false,false,false,false] (by kernel_rfl) rfl rfl ⟨hx460_0, hx461_0, hx462_0, hx463_0, hx464_0⟩ (fun hHeld => ?_); refine with_tabW nat_long.tab8 nat_long.bits8 (fun HT_ HW_ => ?_)
    generalize wr.drew = w42 at HO_7 HO_8 HO_10 HB hx460_0 hx461_0 hx462_0 hx463_0 hx464_0 hHeld ⊢
    refine pure_ (i := 0) (N := some 47) (v := ?_) (a' := ?_) #[true,false,false,false,false,false,false,false,false,false,false,false,false,false,false,false,false,false,false,false,false,false,false,false,false,false,false,false,false,false,false,false] rfl rfl (any_of HT_.out (by kernel_rfl)) (fun _ _ _ h => h) (Or.inl ⟨by rfl, ?_⟩) ?_ ?_
    rotate_left
    ·
     intro w'
     go_simp
     with_reducible rfl
    rotate_left
    · exact uQ
    refine pure_ (i := 1) (N := some 48) (v := ?_) (a' := ?_) #[true,true,false,false,false,false,false,false,false,false,false,false,false,false,false,false,false,false,false,false,false,false,false,false,false,false,false,false,false,false,false,false] rfl rfl (any_of HT_.out (by kernel_rfl)) (fun _ _ _ h => h) (Or.inl ⟨by rfl, ?_⟩) ?_ ?_
    rotate_left
    ·
     intro w'
     go_simp
     with_reducible rfl
    rotate_left
    · exact uQ
    refine pure_ (i := 2) (N := some 49) (v := ?_) (a' := ?_) #[true,true,true,false,false,false,false,false,false,false,false,false,false,false,false,false,false,false,false,false,false,false,false,false,false,false,false,false,false,false,false,false] rfl rfl (any_of HT_.out (by kernel_rfl)) (fun _ _ _ h => h) (Or.inl ⟨by rfl, ?_⟩) ?_ ?_
    rotate_left
    ·
     intro w'
     go_simp
     with_reducible rfl
    rotate_left
    · exact uQ
    refine pure_ (i := 3) (N := some 50) (v := ?_) (a' := ?_) #[true,true,true,true,false,false,false,false,false,false,false,false,false,false,false,false,false,false,false,false,false,false,false,false,false,false,false,false,false,false,false,false] rfl rfl (any_of HT_.out (by kernel_rfl)) (fun _ _ _ h => h) (Or.inl ⟨by rfl, ?_⟩) ?_ ?_
    rotate_left
    ·
     intro w'
     go_simp
     with_reducible rfl
    rotate_left
    · exact uQ
    refine pure_ (i := 4) (N := some 51) (v := ?_) (a' := ?_) #[true,true,true,true,true,false,false,false,false,false,false,false,false,false,false,false,false,false,false,false,false,false,false,false,false,false,false,false,false,false,false,false] rfl rfl (any_of HT_.out (by kernel_rfl)) (fun _ _ _ h => h) (Or.inl ⟨by rfl, ?_⟩) ?_ ?_
    rotate_left
    ·
     intro w'
     go_simp
     with_reducible rfl
    rotate_left
    · exact uQ
    refine pure_ (i := 6) (N := some 53) (v := ?_) (a' := ?_) #[true,true,true,true,true,false,true,false,false,false,false,false,false,false,false,false,false,false,false,false,false,false,false,false,false,false,false,false,false,false,false,false] rfl rfl (any_of HT_.out (by kernel_rfl)) (fun _ _ _ h => h) (Or.inl ⟨by rfl, ?_⟩) ?_ ?_
    rotate_left
    ·
     intro w'
     go_simp
     with_reducible rfl
    rotate_left
    · exact uQ
    refine pure_ (i := 7) (N := some 54) (v := ?_) (a' := ?_) #[true,true,true,true,true,false,true,true,false,false,false,false,false,false,false,false,false,false,false,false,false,false,false,false,false,false,false,false,false,false,false,false] rfl rfl (any_of HT_.out (by kernel_rfl)) (fun _ _ _ h => h) (Or.inl ⟨by rfl, ?_⟩) ?_ ?_
    rotate_left
    ·
     intro w'
     go_simp
     with_reducible rfl
    rotate_left
    · exact uQ
    refine pure_ (i := 8) (N := some 55) (v := ?_) (a' := ?_) #[true,true,true,true,true,false,true,true,true,false,false,false,false,false,false,false,false,false,false,false,false,false,false,false,false,false,false,false,false,false,false,false] rfl rfl (any_of HT_.out (by kernel_rfl)) (fun _ _ _ h => h) (Or.inl ⟨by rfl, ?_⟩) ?_ ?_
    rotate_left
    ·
     intro w'
     go_simp
     with_reducible rfl
    rotate_left
    · exact uQ
    refine pure_ (i := 9) (N := some 56) (v := ?_) (a' := ?_) #[true,true,true,true,true,false,true,true,true,true,false,false,false,false,false,false,false,false,false,false,false,false,false,false,false,false,false,false,false,false,false,false] rfl rfl (any_of HT_.out (by kernel_rfl)) (fun _ _ _ h => h) (Or.inl ⟨by rfl, ?_⟩) ?_ ?_
    rotate_left
    ·
     intro w'
     go_simp
     with_reducible rfl
    rotate_left
    · exact uQ
    refine pure_ (i := 10) (N := some 57) (v := ?_) (a' := ?_) #[true,true,true,true,true,false,true,true,true,true,true,false,false,false,false,false,false,false,false,false,false,false,false,false,false,false,false,false,false,false,false,false] rfl rfl (any_of HT_.out (by kernel_rfl)) (fun _ _ _ h => h) (Or.inl ⟨by rfl, ?_⟩) ?_ ?_
    rotate_left
    ·
     intro w'
     go_simp
     with_reducible rfl
    rotate_left
    · exact uQ
    refine pure_ (i := 11) (N := some 58) (v := ?_) (a' := ?_) #[true,true,true,true,true,false,true,true,true,true,true,true,false,false,false,false,false,false,false,false,false,false,false,false,false,false,false,false,false,false,false,false] rfl rfl (any_of HT_.out (by kernel_rfl)) (fun _ _ _ h => h) (Or.inl ⟨by rfl, ?_⟩) ?_ ?_
    rotate_left
    ·
     intro w'
     go_simp
     with_reducible rfl
    rotate_left
    · exact uQ
    refine pure_ (i := 13) (N := some 60) (v := ?_) (a' := ?_) #[true,true,true,true,true,false,true,true,true,true,true,true,false,true,false,false,false,false,false,false,false,false,false,false,false,false,false,false,false,false,false,false] rfl rfl (any_of HT_.out (by kernel_rfl)) (fun _ _ _ h => h) (Or.inl ⟨by rfl, ?_⟩) ?_ ?_
    rotate_left
    ·
     intro w'
     go_simp
     with_reducible rfl
    rotate_left
    · exact uQ
    refine pure_ (i := 14) (N := some 61) (v := ?_) (a' := ?_) #[true,true,true,true,true,false,true,true,true,true,true,true,false,true,true,false,false,false,false,false,false,false,false,false,false,false,false,false,false,false,false,false] rfl rfl (any_of HT_.out (by kernel_rfl)) (fun _ _ _ h => h) (Or.inl ⟨by rfl, ?_⟩) ?_ ?_
    rotate_left
    ·
     intro w'
     go_simp
     with_reducible rfl
    rotate_left
    · exact uQ
    refine pure_ (i := 15) (N := some 62) (v := ?_) (a' := ?_) #[true,true,true,true,true,false,true,true,true,true,true,true,false,true,true,true,false,false,false,false,false,false,false,false,false,false,false,false,false,false,false,false] rfl rfl (any_of HT_.out (by kernel_rfl)) (fun _ _ _ h => h) (Or.inl ⟨by rfl, ?_⟩) ?_ ?_
    rotate_left
    ·
     intro w'
     go_simp
     with_reducible rfl
    rotate_left
    · exact uQ
    refine pure_ (i := 16) (N := some 63) (v := ?_) (a' := ?_) #[true,true,true,true,true,false,true,true,true,true,true,true,false,true,true,true,true,false,false,false,false,false,false,false,false,false,false,false,false,false,false,false] rfl rfl (any_of HT_.out (by kernel_rfl)) (fun _ _ _ h => h) (Or.inl ⟨by rfl, ?_⟩) ?_ ?_
    rotate_left
    ·
     intro w'
     go_simp
     with_reducible rfl
    rotate_left
    · exact uQ
    refine pure_ (i := 17) (N := some 64) (v := ?_) (a' := ?_) #[true,true,true,true,true,false,true,true,true,true,true,true,false,true,true,true,true,true,false,false,false,false,false,false,false,false,false,false,false,false,false,false] rfl rfl (any_of HT_.out (by kernel_rfl)) (fun _ _ _ h => h) (Or.inl ⟨by rfl, ?_⟩) ?_ ?_
    rotate_left
    ·
     intro w'
     go_simp
     with_reducible rfl
    rotate_left
    · exact uQ
    refine pure_ (i := 18) (N := some 65) (v := ?_) (a' := ?_) #[true,true,true,true,true,false,true,true,true,true,true,true,false,true,true,true,true,true,true,false,false,false,false,false,false,false,false,false,false,false,false,false] rfl rfl (any_of HT_.out (by kernel_rfl)) (fun _ _ _ h => h) (Or.inl ⟨by rfl, ?_⟩) ?_ ?_
    rotate_left
    ·
     intro w'
     go_simp
     with_reducible rfl
    rotate_left
    · exact uQ
    refine pure_ (i := 20) (N := some 67) (v := ?_) (a' := ?_) #[true,true,true,true,true,false,true,true,true,true,true,true,false,true,true,true,true,true,true,false,true,false,false,false,false,false,false,false,false,false,false,false] rfl rfl (any_of HT_.out (by kernel_rfl)) (fun _ _ _ h => h) (Or.inl ⟨by rfl, ?_⟩) ?_ ?_
    rotate_left
    ·
     intro w'
     go_simp
     with_reducible rfl
    rotate_left
    · exact uQ
    refine pure_ (i := 21) (N := some 68) (v := ?_) (a' := ?_) #[true,true,true,true,true,false,true,true,true,true,true,true,false,true,true,true,true,true,true,false,true,true,false,false,false,false,false,false,false,false,false,false] rfl rfl (any_of HT_.out (by kernel_rfl)) (fun _ _ _ h => h) (Or.inl ⟨by rfl, ?_⟩) ?_ ?_
    rotate_left
    ·
     intro w'
     go_simp
     with_reducible rfl
    rotate_left
    · exact uQ
    refine pure_ (i := 22) (N := some 69) (v := ?_) (a' := ?_) #[true,true,true,true,true,false,true,true,true,true,true,true,false,true,true,true,true,true,true,false,true,true,true,false,false,false,false,false,false,false,false,false] rfl rfl (any_of HT_.out (by kernel_rfl)) (fun _ _ _ h => h) (Or.inl ⟨by rfl, ?_⟩) ?_ ?_
    rotate_left
    ·
     intro w'
     go_simp
     with_reducible rfl
    rotate_left
    · exact uQ
    refine pure_ (i := 23) (N := some 70) (v := ?_) (a' := ?_) #[true,true,true,true,true,false,true,true,true,true,true,true,false,true,true,true,true,true,true,false,true,true,true,true,false,false,false,false,false,false,false,false] rfl rfl (any_of HT_.out (by kernel_rfl)) (fun _ _ _ h => h) (Or.inl ⟨by rfl, ?_⟩) ?_ ?_
    rotate_left
    ·
     intro w'
     go_simp
     with_reducible rfl
    rotate_left
    · exact uQ
    refine pure_ (i := 25) (N := some 72) (v := ?_) (a' := ?_) #[true,true,true,true,true,false,true,true,true,true,true,true,false,true,true,true,true,true,true,false,true,true,true,true,false,true,false,false,false,false,false,false] rfl rfl (any_of HT_.out (by kernel_rfl)) (fun _ _ _ h => h) (Or.inl ⟨by rfl, ?_⟩) ?_ ?_
    rotate_left
    ·
     intro w'
     go_simp
     with_reducible rfl
    rotate_left
    · exact uQ
    refine pure_ (i := 26) (N := some 73) (v := ?_) (a' := ?_) #[true,true,true,true,true,false,true,true,true,true,true,true,false,true,true,true,true,true,true,false,true,true,true,true,false,true,true,false,false,false,false,false] rfl rfl (any_of HT_.out (by kernel_rfl)) (fun _ _ _ h => h) (Or.inl ⟨by rfl, ?_⟩) ?_ ?_
    rotate_left
    ·
     intro w'
     go_simp
     with_reducible rfl
    rotate_left
    · exact uQ
    refine pure_ (i := 27) (N := some 74) (v := ?_) (a' := ?_) #[true,true,true,true,true,false,true,true,true,true,true,true,false,true,true,true,true,true,true,false,true,true,true,true,false,true,true,true,false,false,false,false] rfl rfl (any_of HT_.out (by kernel_rfl)) (fun _ _ _ h => h) (Or.inl ⟨by rfl, ?_⟩) ?_ ?_
    rotate_left
    ·
     intro w'
     go_simp
     with_reducible rfl
    rotate_left
    · exact uQ
    refine pure_ (i := 28) (N := some 75) (v := ?_) (a' := ?_) #[true,true,true,true,true,false,true,true,true,true,true,true,false,true,true,true,true,true,true,false,true,true,true,true,false,true,true,true,true,false,false,false] rfl rfl (any_of HT_.out (by kernel_rfl)) (fun _ _ _ h => h) (Or.inl ⟨by rfl, ?_⟩) ?_ ?_
    rotate_left
    ·
     intro w'
     go_simp
     with_reducible rfl
    rotate_left
    · exact uQ
    refine take_ (i := 5) (N := some 52) (v := ?_) (a' := ?_) #[true,true,true,true,true,true,true,true,true,true,true,true,false,true,true,true,true,true,true,false,true,true,true,true,false,true,true,true,true,false,false,false] rfl rfl (take_ofW HT_.out HW_.out (by kernel_rfl)) (fun _ _ _ h => h) (Or.inl ⟨by rfl, ?_⟩) hHeld ?_ ?_
    rotate_left
    ·
     rintro w' ⟨s0, s1, s2, s3, s4⟩
     go_simp
     with_reducible rfl
    rotate_left
    · exact uQ
    refine take_ (i := 12) (N := some 59) (v := ?_) (a' := ?_) #[true,true,true,true,true,true,true,true,true,true,true,true,true,true,true,true,true,true,true,false,true,true,true,true,false,true,true,true,true,false,false,false] rfl rfl (take_ofW HT_.out HW_.out (by kernel_rfl)) (fun _ _ _ h => h) (Or.inl ⟨by rfl, ?_⟩) hHeld ?_ ?_
    rotate_left
    ·
     rintro w' ⟨s0, s1, s2, s3, s4⟩
     go_simp
     with_reducible rfl
    rotate_left
    · exact uQ
    refine take_ (i := 19) (N := some 66) (v := ?_) (a' := ?_) #[true,true,true,true,true,true,true,true,true,true,true,true,true,true,true,true,true,true,true,true,true,true,true,true,false,true,true,true,true,false,false,false] rfl rfl (take_ofW HT_.out HW_.out (by kernel_rfl)) (fun _ _ _ h => h) (Or.inl ⟨by rfl, ?_⟩) hHeld ?_ ?_
    rotate_left
    ·
     rintro w' ⟨s0, s1, s2, s3, s4⟩
     go_simp
     with_reducible rfl
    rotate_left
    · exact uQ
    refine take_ (i := 24) (N := some 71) (v := ?_) (a' := ?_) #[true,true,true,true,true,true,true,true,true,true,true,true,true,true,true,true,true,true,true,true,true,true,true,true,true,true,true,true,true,false,false,false] rfl rfl (take_ofW HT_.out HW_.out (by kernel_rfl)) (fun _ _ _ h => h) (Or.inl ⟨by rfl, ?_⟩) hHeld ?_ ?_
    rotate_left
    ·
     rintro w' ⟨s0, s1, s2, s3, s4⟩
     go_simp
     with_reducible rfl
    rotate_left
    · exact uQ
    refine take_ (i := 29) (N := some 76) (v := ?_) (a' := ?_) #[true,true,true,true,true,true,true,true,true,true,true,true,true,true,true,true,true,true,true,true,true,true,true,true,true,true,true,true,true,true,false,false] rfl rfl (take_ofW HT_.out HW_.out (by kernel_rfl)) (fun _ _ _ h => h) (Or.inl ⟨by rfl, ?_⟩) hHeld ?_ ?_
    rotate_left
    ·
     rintro w' ⟨s0, s1, s2, s3, s4⟩
     go_simp
     with_reducible rfl
    rotate_left
    · exact uQ
    refine one_ (i := 30) (N := some 77) #[true,true,true,true,true,true,true,true,true,true,true,true,true,true,true,true,true,true,true,true,true,true,true,true,true,true,true,true,true,true,true,false] rfl rfl (one_of HT_.out (by kernel_rfl)) (by decide) (fun K hK => ?_)
    refine goes_ Try.func117 (by kernel_rfl) rfl #[.int .u64 (rd x7_1 (ji23)), .int .u64 (rd x7_1 (ji26)), .int .u64 (rd x7_1 (ji29)), .int .u64 (rd t454 (ji32)), .int .u64 (rd t454 (ji35))] (by rfl) rfl rfl (by (try simp only [List.map_toArray, List.map_cons, List.map_nil]); first | done | (simp only [hji23, hji26, hji29, hji32, hji35]; rfl) | rfl | (simp only [List.length_drop, List.length_take]; rfl)) ?_
    with_reducible refine (nat_guess.calls k1 (rd x7_1 (ji23)) (rd x7_1 (ji26)) (rd x7_1 (ji29)) (rd t454 (ji32)) (rd t454 (ji35)) t465 _ A38.out).mono ?_
    rintro e w' ⟨rfl, ⟨nd, rfl⟩⟩
    refine ⟨_, rfl, ?_⟩; refine hK.out _ _ ⟨hHeld.1, hHeld.2.1, hHeld.2.2.1, hHeld.2.2.2.1, hHeld.2.2.2.2⟩ (fun hHeld => ?_); clear hK K; refine norm_ (a' := ?_) ?_ ?_; rotate_left
    · exact (show Act.put _ (some 77) _ = _ from uQ)
    refine pure_ (i := 31) (N := some 12) (v := ?_) (a' := ?_) #[true,true,true,true,true,true,true,true,true,true,true,true,true,true,true,true,true,true,true,true,true,true,true,true,true,true,true,true,true,true,true,true] rfl rfl (any_of HT_.out (by kernel_rfl)) (fun _ _ _ h => h) (Or.inl ⟨by rfl, ?_⟩) ?_ ?_
    rotate_left
    ·
     intro w'
     go_simp
     with_reducible rfl
    rotate_left
    · exact uQ
    refine done_ (done_of HT_.out (by kernel_rfl)) ?_
    have q43 : ((wrap64 ((ji23) + 1)) : Int) ≤ ((x7_1.length : Int) : Int) := uO
    obtain ⟨i043, hi043, _, hsz43, _⟩ := info_parts info47
    have hroom43 : x7_1.length ≤ co18 := (Kd.R_reads' HO_7.out).2.1
    have hC43 : Kd.C (Kd.int .u64) _ (some ad460) x7_1.length x7_1 := (Kd.R_reads' HO_7.out).2.2
    have ql43 : (x11_1 : Int) ≤ ((wrap64 ((ji23) + 1)) : Int) := uO
    have q043 : (0 : Int) ≤ (x11_1 : Int) := uO
    have hcut43 := cut_mid (P := Try.prog) 29 47 .i64 .i64 Try.underlying29 hi043 1 hsz43 (some ad460) x7_1.length co18 x11_1 (wrap64 ((ji23) + 1)) q043 ql43 q43 hroom43
    have hr43 := Kd.C_mid (lo := (x11_1 : Int).toNat) (hi := ((wrap64 ((ji23) + 1)) : Int).toNat) (c := co18) hC43 (by omega) (by omega) hroom43
    obtain ⟨A43, hA43⟩ : ∃ A1, A1 = (if co18 = (x11_1 : Int).toNat then (some ad460) else ((some ad460) : Option Addr).map (·.add ((x11_1 : Int).toNat * 1))) := ⟨_, rfl⟩
    obtain ⟨c43, hc43⟩ : ∃ c1, c1 = co18 - (x11_1 : Int).toNat := ⟨_, rfl⟩
    have hy43 : y466.length = ((wrap64 ((ji23) + 1)) : Int).toNat - (x11_1 : Int).toNat := (by rw [Ny466.out, List.length_drop, List.length_take] <;> omega)
    rw [show ((x7_1).take ((wrap64 ((ji23) + 1)) : Int).toNat).drop (x11_1 : Int).toNat = y466 from Ny466.out.symm] at hr43
    replace hr43 : Kd.C (Kd.int .u64) _ A43 y466.length y466 := (by rw [hA43]; exact hr43)
    rw [← hy43, ← hA43, ← hc43] at hcut43
    have HR469 := Aside0.mk hr43
    have HC469 := Aside0.mk (show y466.length ≤ c43 from by rw [hy43, hc43]; exact Nat.sub_le_sub_right (Nat.le_trans (by omega) hroom43) _)
    clear hr43 hC43 hroom43 hi043 hsz43 hc43; have KY43 := Aside0.mk hy43; have KA43 := Aside0.mk hA43; clear hy43 hA43
    have KL43 := Aside0.mk (show ((wrap64 ((ji23) + 1)) : Int).toNat ≤ x7_1.length from by omega)
    have KM43 := Aside0.mk (show (x11_1 : Int).toNat ≤ ((wrap64 ((ji23) + 1)) : Int).toNat from by omega)
    replace q43 := eq_true q43
    try go_wp2
    go_loopg [12] k1 (fun kq v12 w' => ∃ (x12_2 : Int), v12 = .int .u64 x12_2 ∧ Aside0 (nat_long.l1 kq (IntKind.u64.wrap (t447)) x7_1 t454 (t454.length : Int) x10_1 x11_1 x12_2 y466 = some (r1, r2)) ∧ Aside0 (kq ≤ k1) ∧ Aside0 (Kd.R (Kd.int .u64) 47 w' w.heap.size (fun k_ => some k_ ≠ ((.slice (some ad463) t454.length co17) : Value).ownBlock ∧ some k_ ≠ ((.slice Ao21 x10_1.length co21) : Value).ownBlock) (.slice (some ad460) x7_1.length co18) x7_1) ∧ Aside0 (Kd.R (Kd.int .u64) 47 w' w.heap.size (fun k_ => some k_ ≠ ((.slice (some ad460) x7_1.length co18) : Value).ownBlock ∧ some k_ ≠ ((.slice Ao21 x10_1.length co21) : Value).ownBlock) (.slice (some ad463) t454.length co17) t454) ∧ Aside0 (Kd.R (Kd.int .u64) 47 w' w.heap.size (fun k_ => some k_ ≠ ((.slice (some ad460) x7_1.length co18) : Value).ownBlock ∧ some k_ ≠ ((.slice (some ad463) t454.length co17) : Value).ownBlock) (.slice Ao21 x10_1.length co21) x10_1) ∧ Aside0 (Kd.C (Kd.int .u64) w' A43 y466.length y466) ∧ Aside0 (Below w.heap.size w w'))
    case atStart => exact ⟨(t465), uG, H', ⟨Nat.le_refl _⟩, ⟨by (try simp only [hl7_1]); (try simp only [hl10_1]); (with_reducible repeat (first | apply Kd.R_alloc | apply Kd.R_drewN | apply Kd.R_drew)); exact HO_7.out⟩, ⟨by (try simp only [hl7_1]); (try simp only [hl10_1]); (with_reducible repeat (first | apply Kd.R_alloc | apply Kd.R_drewN | apply Kd.R_drew)); exact HO_8.out⟩, ⟨by (try simp only [hl7_1]); (try simp only [hl10_1]); (with_reducible repeat (first | apply Kd.R_alloc | apply Kd.R_drewN | apply Kd.R_drew)); exact HO_10.out⟩, ⟨by repeat (first | (with_reducible exact HR469.out) | (with_reducible refine Kd.C_alloc ?_ _) | (with_reducible refine Kd.C_drewN ?_ _) | (with_reducible refine Kd.C_drew ?_) | exact HR469.out)⟩, ⟨uB⟩⟩
    case round =>
     clear H'
     (try clear c1); (try clear c2); (try clear p2 p2); (try clear c3); (try clear c4); (try clear c4b0); (try clear p4 p4); (try clear q4 q4); (try clear hx4); (try clear c5); (try clear c5b0); (try clear p6 p6); (try clear c8); (try clear c10); (try clear c11); (try clear c11b0); (try clear c11b1); (try clear c12); (try clear c12b0); (try clear c12b1); (try clear c22); (try clear c22b0); (try clear c24); (try clear c24b0); (try clear c25); (try clear c25b0); (try clear c27); (try clear c27b0); (try clear c28); (try clear c28b0); (try clear c30); (try clear c30b0); (try clear c31); (try clear c31b0); (try clear c33); (try clear c33b0); (try clear c34); (try clear c34b0); (try clear c36); (try clear c36b0); (try clear c37); (try clear c37b0); (try clear c39); (try clear c39b0); (try clear c39b1); (try clear c40); (try clear c40b0); (try clear c40b1); (try clear c41); (try clear c41b0); (try clear c41b1); (try clear c43); (try clear q43 q43); (try clear hx446_0); (try clear hx460_0); (try clear hx461_0); (try clear hx462_0); (try clear hx463_0); (try clear hx464_0); (try clear p446); (try clear p460); (try clear p461); (try clear p462); (try clear p463); (try clear p464); (try clear q043); (try clear q446); (try clear q460); (try clear q461); (try clear q462); (try clear q463); (try clear q464)
     obtain ⟨x12_2, rfl, HA, HK2, HO_7, HO_8, HO_10, HR469, HB⟩ := hrel
     cases gk with
     | zero => exact absurd HA.out (by simp [nat_long.l1])
     | succ k2 =>
      have H := HA.out
      clear HA
      simp only [nat_long.l1] at H
      replace H := ub H; obtain ⟨t470, A44, H⟩ := H
      replace H := ub H; obtain ⟨t473, A45, H⟩ := H
      replace H := ub H; obtain ⟨t476, A46, H⟩ := H
      replace H := ub H; obtain ⟨t479, A47, H⟩ := H
      replace H := ub H; obtain ⟨t482, A48, H⟩ := H
      by_cases c49 : t482 ≥ 0
      ·
       rw [if_pos c49] at H
       have c49b0 : decide (0 ≤ t482) = true := decide_eq_true c49
       clear c49
       replace H := ub H; obtain ⟨t483, A50, H⟩ := H
       replace H := uT H; obtain ⟨c51, H⟩ := H
       have c51b0 := eq_true c51
       have c51b1 : decide (t483.length = y466.length) = true := decide_eq_true c51
       clear c51
       obtain ⟨y486, hy486⟩ : ∃ y_ : List Int, y_ = (x7_1.take (x11_1 : Int).toNat ++ (t483 ++ x7_1.drop ((x11_1 : Int).toNat + y466.length))) := ⟨_, rfl⟩
       replace H : (if 0 ≤ x11_1 then (if x11_1 < (x10_1.length : Int) then (nat_long.l0 k2 (IntKind.u64.wrap (t447)) y486 t454 (t454.length : Int) (x10_1.set (x11_1 : Int).toNat x12_2) (wrap64 (x11_1 - 1))) else (none)) else (none)) = some (r1, r2) := by first | (rw [hy486]; with_reducible exact H) | (have H2_ := (Option.bind_some _ _).symm.trans H; rw [hy486]; with_reducible exact H2_) | (have H2_ := (Option.bind_some _ _).symm.trans H; with_reducible exact H2_) | with_reducible exact H | (rw [hy486]; exact H) | exact H
       have Ny486 := Aside0.mk hy486; clear hy486
       replace H := uT H; obtain ⟨c52, H⟩ := H
       have c52b0 : decide (0 ≤ x11_1) = true := decide_eq_true c52
       clear c52
       replace H := uT H; obtain ⟨c53, H⟩ := H
       have c53b0 : decide (x11_1 < (x10_1.length : Int)) = true := decide_eq_true c53
       (try (have c53b0h0 := c53b0; simp only [hl7_1] at c53b0h0))
       (try (have c53b0h1 := c53b0; simp only [hl10_1] at c53b0h1))
       clear c53
       obtain ⟨y487, hy487⟩ : ∃ y_ : List Int, y_ = (x10_1.set (x11_1 : Int).toNat x12_2) := ⟨_, rfl⟩
       replace H : (nat_long.l0 k2 (IntKind.u64.wrap (t447)) y486 t454 (t454.length : Int) y487 (wrap64 (x11_1 - 1))) = some (r1, r2) := by first | (rw [hy487]; with_reducible exact H) | (have H2_ := (Option.bind_some _ _).symm.trans H; rw [hy487]; with_reducible exact H2_) | (have H2_ := (Option.bind_some _ _).symm.trans H; with_reducible exact H2_) | with_reducible exact H | (rw [hy487]; exact H) | exact H
       have Ny487 := Aside0.mk hy487; clear hy487
       have H' := Aside0.mk H
       clear H
       go_wp2_with (first | ((with_reducible refine gate_callee (f := 55) rfl ?_); refine goesL_ (some 87) rfl rfl Try.func55 (by kernel_rfl) rfl #[.int .u64 x12_2] rfl uM ?_; (with_reducible refine (nat_Of.calls k2 x12_2 t470 _ A44.out).mono ?_); rintro e w55 ⟨v471, rfl, ho0, hb⟩; refine ⟨_, rfl, ?_⟩; have HO472 := Aside0.mk (Kd.R_lower (Kd.R_new' (Kd.R_new' (Kd.R_new' ho0 (Kd.R_lt (uR HO_7.out))) (Kd.R_lt (uR HO_8.out))) (Kd.R_lt (uR HO_10.out))) (below_size uB)); replace HO_7 := ueR HO_7 ho0 hb; replace HO_8 := ueR HO_8 ho0 hb; replace HO_10 := ueR HO_10 ho0 hb; replace HR469 := Aside0.mk (Kd.C_below (by repeat (first | (with_reducible exact HR469.out) | (with_reducible refine Kd.C_alloc ?_ _) | (with_reducible refine Kd.C_drewN ?_ _) | (with_reducible refine Kd.C_drew ?_) | exact HR469.out)) hb); replace HB := uy hb; (try clear hb); (try clear hb2); (try clear hk); (try clear hi); (try clear ho0); obtain ⟨Ao56, co56, eo56⟩ := Kd.R_slice HO472.out; subst eo56) | ((with_reducible refine gate_callee (f := 103) rfl ?_); refine goesL_ (some 88) rfl rfl Try.func103 (by kernel_rfl) rfl #[.slice (some ad463) t454.length co17, .slice Ao56 t470.length co56] rfl uM ?_; (with_reducible refine (nat_school.calls k2 _ _ t454 _ _ t470 t473 _ ?side1 ?side2 ?side3 ?side4 A45.out).mono ?_); (case side1 => exact uC (Kd.R_reads' HO_8.out).2.2); (case side2 => exact (Kd.R_reads' HO_8.out).2.1); (case side3 => exact uC (Kd.R_reads' HO472.out).2.2); (case side4 => exact (Kd.R_reads' HO472.out).2.1); rintro e w57 ⟨v474, rfl, ho0, hb⟩; refine ⟨_, rfl, ?_⟩; have HO475 := Aside0.mk (Kd.R_lower (Kd.R_new' (Kd.R_new' (Kd.R_new' (Kd.R_new' ho0 (Kd.R_lt (uR HO_7.out))) (Kd.R_lt (uR HO_8.out))) (Kd.R_lt (uR HO_10.out))) (Kd.R_lt (uR HO472.out))) (below_size uB)); replace HO_7 := ueR HO_7 ho0 hb; replace HO_8 := ueR HO_8 ho0 hb; replace HO_10 := ueR HO_10 ho0 hb; replace HO472 := ueR HO472 ho0 hb; replace HR469 := Aside0.mk (Kd.C_below (by repeat (first | (with_reducible exact HR469.out) | (with_reducible refine Kd.C_alloc ?_ _) | (with_reducible refine Kd.C_drewN ?_ _) | (with_reducible refine Kd.C_drew ?_) | exact HR469.out)) hb); replace HB := uy hb; (try clear hb); (try clear hb2); (try clear hk); (try clear hi); (try clear ho0)) | ((with_reducible refine gate_callee (f := 90) rfl ?_); refine goesL_ (some 90) rfl rfl Try.func90 (by kernel_rfl) rfl #[.slice A43 y466.length c43] rfl uM ?_; (with_reducible refine (api_Nat_uint64.calls _ _ y466 t476 _ ?side1 ?side2 A46.out).mono ?_); (case side1 => repeat (first | exact (by repeat (first | (with_reducible exact HR469.out) | (with_reducible refine Kd.C_alloc ?_ _) | (with_reducible refine Kd.C_drewN ?_ _) | (with_reducible refine Kd.C_drew ?_) | exact HR469.out)) | (with_reducible refine Kd.C_alloc ?_ _) | (with_reducible refine Kd.C_drewN ?_ _) | (with_reducible refine Kd.C_drew ?_))); (case side2 => exact HC469.out); rintro e w58 ⟨v477, rfl, ho0, hb⟩; refine ⟨_, rfl, ?_⟩; have HO478 := Aside0.mk (Kd.R_lower (Kd.R_new' (Kd.R_new' (Kd.R_new' (Kd.R_new' (Kd.R_new' ho0 (Kd.R_lt (uR HO_7.out))) (Kd.R_lt (uR HO_8.out))) (Kd.R_lt (uR HO_10.out))) (Kd.R_lt (uR HO472.out))) (Kd.R_lt (uR HO475.out))) (below_size uB)); replace HO_7 := ueR HO_7 ho0 hb; replace HO_8 := ueR HO_8 ho0 hb; replace HO_10 := ueR HO_10 ho0 hb; replace HO472 := ueR HO472 ho0 hb; replace HO475 := ueR HO475 ho0 hb; replace HR469 := Aside0.mk (Kd.C_below (by repeat (first | (with_reducible exact HR469.out) | (with_reducible refine Kd.C_alloc ?_ _) | (with_reducible refine Kd.C_drewN ?_ _) | (with_reducible refine Kd.C_drew ?_) | exact HR469.out)) hb); replace HB := uy hb; (try clear hb); (try clear hb2); (try clear hk); (try clear hi); (try clear ho0); obtain ⟨Ao59, co59, eo59⟩ := Kd.R_slice HO478.out; subst eo59) | ((with_reducible refine gate_callee (f := 87) rfl ?_); refine goesL_ (some 91) rfl rfl Try.func87 (by kernel_rfl) rfl #[.slice Ao59 t476.length co59] rfl uM ?_; (with_reducible refine (nat_trim.calls k2 (fun k_ => some k_ = (.slice Ao59 t476.length co59 : Value).ownBlock) (.slice Ao59 t476.length co59) t476 t479 w _ ?side1 ?side2 A47.out).mono ?_); (case side1 => repeat (first | (with_reducible first | exact HB.out | apply below_alloc | apply pw_below_drewN | apply below_drew1) | exact HB.out)); (case side2 => exact Kd.R_tight rfl HO478.out); rintro e w60 ⟨v480, rfl, ho0, hb, hkp⟩; refine ⟨_, rfl, ?_⟩; have HO481 := Aside0.mk (Kd.R_mono (ok' := fun k_ => some k_ ≠ (.slice (some ad460) x7_1.length co18 : Value).ownBlock ∧ some k_ ≠ (.slice (some ad463) t454.length co17 : Value).ownBlock ∧ some k_ ≠ (.slice Ao21 x10_1.length co21 : Value).ownBlock ∧ some k_ ≠ (.slice Ao56 t470.length co56 : Value).ownBlock ∧ some k_ ≠ (v474 : Value).ownBlock) ho0 (fun k_ hk_ => ⟨Or.elim hk_ (fun hs_ => fun e_ => (((HO_7.out).1 k_ e_.symm).2) hs_) (fun hn_ => (Kd.fresh' (Kd.R_lt (uR HO_7.out)) k_ hn_)), Or.elim hk_ (fun hs_ => fun e_ => (((HO_8.out).1 k_ e_.symm).2) hs_) (fun hn_ => (Kd.fresh' (Kd.R_lt (uR HO_8.out)) k_ hn_)), Or.elim hk_ (fun hs_ => fun e_ => (((HO_10.out).1 k_ e_.symm).2) hs_) (fun hn_ => (Kd.fresh' (Kd.R_lt (uR HO_10.out)) k_ hn_)), Or.elim hk_ (fun hs_ => fun e_ => (((HO472.out).1 k_ e_.symm).2) hs_) (fun hn_ => (Kd.fresh' (Kd.R_lt (uR HO472.out)) k_ hn_)), Or.elim hk_ (fun hs_ => fun e_ => (((HO475.out).1 k_ e_.symm).2) hs_) (fun hn_ => (Kd.fresh' (Kd.R_lt (uR HO475.out)) k_ hn_))⟩)); replace HO_8 := Aside0.mk (Kd.R_mono (ok' := fun k_ => some k_ ≠ (.slice (some ad460) x7_1.length co18 : Value).ownBlock ∧ some k_ ≠ (.slice Ao21 x10_1.length co21 : Value).ownBlock ∧ some k_ ≠ (.slice Ao56 t470.length co56 : Value).ownBlock ∧ some k_ ≠ (v474 : Value).ownBlock ∧ some k_ ≠ (v480 : Value).ownBlock) (Kd.R_keptB (HO_8.out) hkp (fun k_ hk_ hs_ => (hk_.2) hs_)) (fun k_ hk_ => ⟨hk_.1.1.1.1.1, hk_.1.1.1.1.2, hk_.1.1.1.2, hk_.1.1.2, fun e_ => Or.elim (ho0.1 k_ e_.symm) (fun hs_ => hk_.2.1 hs_) (fun hn_ => Nat.not_le.2 hk_.2.2 hn_)⟩)); replace HO_10 := Aside0.mk (Kd.R_mono (ok' := fun k_ => some k_ ≠ (.slice (some ad460) x7_1.length co18 : Value).ownBlock ∧ some k_ ≠ (.slice (some ad463) t454.length co17 : Value).ownBlock ∧ some k_ ≠ (.slice Ao56 t470.length co56 : Value).ownBlock ∧ some k_ ≠ (v474 : Value).ownBlock ∧ some k_ ≠ (v480 : Value).ownBlock) (Kd.R_keptB (HO_10.out) hkp (fun k_ hk_ hs_ => (hk_.2) hs_)) (fun k_ hk_ => ⟨hk_.1.1.1.1.1, hk_.1.1.1.1.2, hk_.1.1.1.2, hk_.1.1.2, fun e_ => Or.elim (ho0.1 k_ e_.symm) (fun hs_ => hk_.2.1 hs_) (fun hn_ => Nat.not_le.2 hk_.2.2 hn_)⟩)); replace HO472 := Aside0.mk (Kd.R_mono (ok' := fun k_ => some k_ ≠ (.slice (some ad460) x7_1.length co18 : Value).ownBlock ∧ some k_ ≠ (.slice (some ad463) t454.length co17 : Value).ownBlock ∧ some k_ ≠ (.slice Ao21 x10_1.length co21 : Value).ownBlock ∧ some k_ ≠ (v474 : Value).ownBlock ∧ some k_ ≠ (v480 : Value).ownBlock) (Kd.R_keptB (HO472.out) hkp (fun k_ hk_ hs_ => (hk_.2) hs_)) (fun k_ hk_ => ⟨hk_.1.1.1.1.1.2, hk_.1.1.1.1.2, hk_.1.1.1.2, hk_.1.1.2, fun e_ => Or.elim (ho0.1 k_ e_.symm) (fun hs_ => hk_.2.1 hs_) (fun hn_ => Nat.not_le.2 hk_.2.2 hn_)⟩)); replace HO475 := Aside0.mk (Kd.R_mono (ok' := fun k_ => some k_ ≠ (.slice (some ad460) x7_1.length co18 : Value).ownBlock ∧ some k_ ≠ (.slice (some ad463) t454.length co17 : Value).ownBlock ∧ some k_ ≠ (.slice Ao21 x10_1.length co21 : Value).ownBlock ∧ some k_ ≠ (.slice Ao56 t470.length co56 : Value).ownBlock ∧ some k_ ≠ (v480 : Value).ownBlock) (Kd.R_keptB (HO475.out) hkp (fun k_ hk_ hs_ => (hk_.2) hs_)) (fun k_ hk_ => ⟨hk_.1.1.1.1.1.2, hk_.1.1.1.1.2, hk_.1.1.1.2, hk_.1.1.2, fun e_ => Or.elim (ho0.1 k_ e_.symm) (fun hs_ => hk_.2.1 hs_) (fun hn_ => Nat.not_le.2 hk_.2.2 hn_)⟩)); replace HR469 := Aside0.mk ((show Kd.C (Kd.int .u64) w60 A43 y466.length y466 from by rw [Ny466.out, KA43.out]; exact Kd.C_mid (lo := (x11_1 : Int).toNat) (hi := ((wrap64 ((ji23) + 1)) : Int).toNat) (c := co18) ((Kd.R_reads' (Kd.R_mono (ok' := fun k_ => some k_ ≠ (.slice (some ad463) t454.length co17 : Value).ownBlock ∧ some k_ ≠ (.slice Ao21 x10_1.length co21 : Value).ownBlock ∧ some k_ ≠ (.slice Ao56 t470.length co56 : Value).ownBlock ∧ some k_ ≠ (v474 : Value).ownBlock ∧ some k_ ≠ (v480 : Value).ownBlock) (Kd.R_keptB (HO_7.out) hkp (fun k_ hk_ hs_ => (hk_.2) hs_)) (fun k_ hk_ => ⟨hk_.1.1.1.1.1, hk_.1.1.1.1.2, hk_.1.1.1.2, hk_.1.1.2, fun e_ => Or.elim (ho0.1 k_ e_.symm) (fun hs_ => hk_.2.1 hs_) (fun hn_ => Nat.not_le.2 hk_.2.2 hn_)⟩))).2.2) KM43.out KL43.out ((Kd.R_reads' (Kd.R_mono (ok' := fun k_ => some k_ ≠ (.slice (some ad463) t454.length co17 : Value).ownBlock ∧ some k_ ≠ (.slice Ao21 x10_1.length co21 : Value).ownBlock ∧ some k_ ≠ (.slice Ao56 t470.length co56 : Value).ownBlock ∧ some k_ ≠ (v474 : Value).ownBlock ∧ some k_ ≠ (v480 : Value).ownBlock) (Kd.R_keptB (HO_7.out) hkp (fun k_ hk_ hs_ => (hk_.2) hs_)) (fun k_ hk_ => ⟨hk_.1.1.1.1.1, hk_.1.1.1.1.2, hk_.1.1.1.2, hk_.1.1.2, fun e_ => Or.elim (ho0.1 k_ e_.symm) (fun hs_ => hk_.2.1 hs_) (fun hn_ => Nat.not_le.2 hk_.2.2 hn_)⟩))).2.1))); replace HO_7 := Aside0.mk (Kd.R_mono (ok' := fun k_ => some k_ ≠ (.slice (some ad463) t454.length co17 : Value).ownBlock ∧ some k_ ≠ (.slice Ao21 x10_1.length co21 : Value).ownBlock ∧ some k_ ≠ (.slice Ao56 t470.length co56 : Value).ownBlock ∧ some k_ ≠ (v474 : Value).ownBlock ∧ some k_ ≠ (v480 : Value).ownBlock) (Kd.R_keptB (HO_7.out) hkp (fun k_ hk_ hs_ => (hk_.2) hs_)) (fun k_ hk_ => ⟨hk_.1.1.1.1.1, hk_.1.1.1.1.2, hk_.1.1.1.2, hk_.1.1.2, fun e_ => Or.elim (ho0.1 k_ e_.symm) (fun hs_ => hk_.2.1 hs_) (fun hn_ => Nat.not_le.2 hk_.2.2 hn_)⟩)); replace HB := Aside0.mk (hb); clear HO478; (try clear hb); (try clear hkp); (try clear ho0); obtain ⟨Ao61, co61, eo61⟩ := Kd.R_slice HO481.out; subst eo61; obtain ⟨Ao62, co62, eo62⟩ := Kd.R_slice HO475.out; subst eo62) | ((with_reducible refine gate_callee (f := 75) rfl ?_); refine goesL_ (some 93) rfl rfl Try.func75 (by kernel_rfl) rfl #[.slice Ao61 t479.length co61, .slice Ao62 t473.length co62] rfl uM ?_; (with_reducible refine (nat_compare.calls k2 _ _ t479 _ _ t473 t482 _ ?side1 ?side2 ?side3 ?side4 A48.out).mono ?_); (case side1 => exact uC (Kd.R_reads' HO481.out).2.2); (case side2 => exact (Kd.R_reads' HO481.out).2.1); (case side3 => exact uC (Kd.R_reads' HO475.out).2.2); (case side4 => exact (Kd.R_reads' HO475.out).2.1); rintro e w' ⟨rfl, ⟨nd, rfl⟩⟩; refine ⟨_, rfl, ?_⟩; (try (rw [drewN_self w60]; generalize hq_ : World.drewN w60 _ = w60; replace HO472 : Aside0 (Kd.R (Kd.int .u64) 47 w60 w.heap.size (fun k_ => (some k_ ≠ (.slice (some ad460) x7_1.length co18 : Value).ownBlock ∧ (some k_ ≠ (.slice (some ad463) t454.length co17 : Value).ownBlock ∧ (some k_ ≠ (.slice Ao21 x10_1.length co21 : Value).ownBlock ∧ (some k_ ≠ (.slice Ao62 t473.length co62 : Value).ownBlock ∧ some k_ ≠ (.slice Ao61 t479.length co61 : Value).ownBlock))))) (.slice Ao56 t470.length co56) t470) := ⟨by rw [← hq_]; exact (uR HO472.out)⟩; replace HO475 : Aside0 (Kd.R (Kd.int .u64) 47 w60 w.heap.size (fun k_ => (some k_ ≠ (.slice (some ad460) x7_1.length co18 : Value).ownBlock ∧ (some k_ ≠ (.slice (some ad463) t454.length co17 : Value).ownBlock ∧ (some k_ ≠ (.slice Ao21 x10_1.length co21 : Value).ownBlock ∧ (some k_ ≠ (.slice Ao56 t470.length co56 : Value).ownBlock ∧ some k_ ≠ (.slice Ao61 t479.length co61 : Value).ownBlock))))) (.slice Ao62 t473.length co62) t473) := ⟨by rw [← hq_]; exact (uR HO475.out)⟩; replace HO481 : Aside0 (Kd.R (Kd.int .u64) 47 w60 w.heap.size (fun k_ => (some k_ ≠ (.slice (some ad460) x7_1.length co18 : Value).ownBlock ∧ (some k_ ≠ (.slice (some ad463) t454.length co17 : Value).ownBlock ∧ (some k_ ≠ (.slice Ao21 x10_1.length co21 : Value).ownBlock ∧ (some k_ ≠ (.slice Ao56 t470.length co56 : Value).ownBlock ∧ some k_ ≠ (.slice Ao62 t473.length co62 : Value).ownBlock))))) (.slice Ao61 t479.length co61) t479) := ⟨by rw [← hq_]; exact (uR HO481.out)⟩; replace HO_10 : Aside0 (Kd.R (Kd.int .u64) 47 w60 w.heap.size (fun k_ => (some k_ ≠ (.slice (some ad460) x7_1.length co18 : Value).ownBlock ∧ (some k_ ≠ (.slice (some ad463) t454.length co17 : Value).ownBlock ∧ (some k_ ≠ (.slice Ao56 t470.length co56 : Value).ownBlock ∧ (some k_ ≠ (.slice Ao62 t473.length co62 : Value).ownBlock ∧ some k_ ≠ (.slice Ao61 t479.length co61 : Value).ownBlock))))) (.slice Ao21 x10_1.length co21) x10_1) := ⟨by rw [← hq_]; exact (uR HO_10.out)⟩; replace HO_7 : Aside0 (Kd.R (Kd.int .u64) 47 w60 w.heap.size (fun k_ => (some k_ ≠ (.slice (some ad463) t454.length co17 : Value).ownBlock ∧ (some k_ ≠ (.slice Ao21 x10_1.length co21 : Value).ownBlock ∧ (some k_ ≠ (.slice Ao56 t470.length co56 : Value).ownBlock ∧ (some k_ ≠ (.slice Ao62 t473.length co62 : Value).ownBlock ∧ some k_ ≠ (.slice Ao61 t479.length co61 : Value).ownBlock))))) (.slice (some ad460) x7_1.length co18) x7_1) := ⟨by rw [← hq_]; exact (uR HO_7.out)⟩; replace HO_8 : Aside0 (Kd.R (Kd.int .u64) 47 w60 w.heap.size (fun k_ => (some k_ ≠ (.slice (some ad460) x7_1.length co18 : Value).ownBlock ∧ (some k_ ≠ (.slice Ao21 x10_1.length co21 : Value).ownBlock ∧ (some k_ ≠ (.slice Ao56 t470.length co56 : Value).ownBlock ∧ (some k_ ≠ (.slice Ao62 t473.length co62 : Value).ownBlock ∧ some k_ ≠ (.slice Ao61 t479.length co61 : Value).ownBlock))))) (.slice (some ad463) t454.length co17) t454) := ⟨by rw [← hq_]; exact (uR HO_8.out)⟩; replace HB : Aside0 (Below w.heap.size w w60) := ⟨by rw [← hq_]; exact uB⟩; replace HR469 : Aside0 (Kd.C (Kd.int .u64) w60 A43 y466.length y466) := ⟨by rw [← hq_]; exact (by repeat (first | (with_reducible exact HR469.out) | (with_reducible refine Kd.C_alloc ?_ _) | (with_reducible refine Kd.C_drewN ?_ _) | (with_reducible refine Kd.C_drew ?_) | exact HR469.out))⟩; clear hq_))) | ((with_reducible refine gate_callee (f := 77) rfl ?_); refine goesL_ (some 98) rfl rfl Try.func77 (by kernel_rfl) rfl #[.slice A43 y466.length c43, .slice Ao62 t473.length co62] rfl uM ?_; (with_reducible refine (nat_less.calls k2 _ _ y466 _ _ t473 t483 _ ?side1 ?side2 ?side3 ?side4 A50.out).mono ?_); (case side1 => repeat (first | exact (by repeat (first | (with_reducible exact HR469.out) | (with_reducible refine Kd.C_alloc ?_ _) | (with_reducible refine Kd.C_drewN ?_ _) | (with_reducible refine Kd.C_drew ?_) | exact HR469.out)) | (with_reducible refine Kd.C_alloc ?_ _) | (with_reducible refine Kd.C_drewN ?_ _) | (with_reducible refine Kd.C_drew ?_))); (case side2 => exact HC469.out); (case side3 => exact uC (Kd.R_reads' HO475.out).2.2); (case side4 => exact (Kd.R_reads' HO475.out).2.1); rintro e w63 ⟨v484, rfl, ho0, hb⟩; refine ⟨_, rfl, ?_⟩; have HO485 := Aside0.mk (Kd.R_lower (Kd.R_new' (Kd.R_new' (Kd.R_new' (Kd.R_new' (Kd.R_new' (Kd.R_new' ho0 (Kd.R_lt (uR HO_7.out))) (Kd.R_lt (uR HO_8.out))) (Kd.R_lt (uR HO_10.out))) (Kd.R_lt (uR HO472.out))) (Kd.R_lt (uR HO475.out))) (Kd.R_lt (uR HO481.out))) (below_size uB)); replace HO_7 := ueR HO_7 ho0 hb; replace HO_8 := ueR HO_8 ho0 hb; replace HO_10 := ueR HO_10 ho0 hb; replace HO472 := ueR HO472 ho0 hb; replace HO475 := ueR HO475 ho0 hb; replace HO481 := ueR HO481 ho0 hb; replace HR469 := Aside0.mk (Kd.C_below (by repeat (first | (with_reducible exact HR469.out) | (with_reducible refine Kd.C_alloc ?_ _) | (with_reducible refine Kd.C_drewN ?_ _) | (with_reducible refine Kd.C_drew ?_) | exact HR469.out)) hb); replace HB := uy hb; (try clear hb); (try clear hb2); (try clear hk); (try clear hi); (try clear ho0); obtain ⟨Ao66, co66, eo66⟩ := Kd.R_slice HO485.out; subst eo66; have n_ := Aside0.mk (Kd.R_mono (ok' := (fun k_ => some k_ ≠ (.slice (some ad463) t454.length co17 : Value).ownBlock ∧ some k_ ≠ (.slice Ao21 x10_1.length co21 : Value).ownBlock ∧ some k_ ≠ (.slice Ao56 t470.length co56 : Value).ownBlock ∧ some k_ ≠ (.slice Ao62 t473.length co62 : Value).ownBlock ∧ some k_ ≠ (.slice Ao61 t479.length co61 : Value).ownBlock ∧ some k_ ≠ (.slice Ao66 t483.length co66 : Value).ownBlock)) HO_7.out (fun k_ hk => ⟨hk.1.1, ⟨hk.1.2.1, ⟨hk.1.2.2.1, ⟨hk.1.2.2.2.1, ⟨hk.1.2.2.2.2, hk.2⟩⟩⟩⟩⟩)); clear HO_7; have HO_7 := n_; clear n_) | ((with_reducible refine gate_builtin (b := .copy) (xs := #[.tmp 95, .tmp 98]) (ts := #[29, 29]) rfl ?_); (try (refine gate_guard (by rfl) ?_; dsimp only)); refine R_copyin (0 : Int) (w0 := w) w.heap.size rfl (.tmp 95) (.tmp 98) 29 29 47 rfl Try.underlying29 (by kernel_rfl) (A0 := (some ad460)) (n := x7_1.length) (c := co18) (k := (x11_1 : Int).toNat) (m := y466.length) (ys := t483) rfl rfl KA43.out (Kd.R_reads' HO485.out).2.2 uO (uR HO_7.out) ?hk uB (below_size uB) ?_; (case hk => have hy_ := KY43.out; have hl_ := KL43.out; have hm_ := KM43.out; omega); intro w64 ho hb hg; rw [← Ny486.out] at ho; replace HO_7 := Aside0.mk (ho); replace HO_8 := Aside0.mk (Kd.R_after (v := (.slice (some ad460) x7_1.length co18)) (v1 := (.slice (some ad460) x7_1.length co18)) (ok := (fun k_ => some k_ ≠ (.slice Ao21 x10_1.length co21 : Value).ownBlock ∧ some k_ ≠ (.slice Ao56 t470.length co56 : Value).ownBlock ∧ some k_ ≠ (.slice Ao62 t473.length co62 : Value).ownBlock ∧ some k_ ≠ (.slice Ao61 t479.length co61 : Value).ownBlock ∧ some k_ ≠ (.slice Ao66 t483.length co66 : Value).ownBlock)) (uR (Kd.R_mono HO_8.out (fun _ hk => ⟨⟨hk.1.2.1, ⟨hk.1.2.2.1, ⟨hk.1.2.2.2.1, ⟨hk.1.2.2.2.2, hk.2⟩⟩⟩⟩, hk.1.1⟩))) hg (.inl rfl)); replace HO_10 := Aside0.mk (Kd.R_after (v := (.slice (some ad460) x7_1.length co18)) (v1 := (.slice (some ad460) x7_1.length co18)) (ok := (fun k_ => some k_ ≠ (.slice (some ad463) t454.length co17 : Value).ownBlock ∧ some k_ ≠ (.slice Ao56 t470.length co56 : Value).ownBlock ∧ some k_ ≠ (.slice Ao62 t473.length co62 : Value).ownBlock ∧ some k_ ≠ (.slice Ao61 t479.length co61 : Value).ownBlock ∧ some k_ ≠ (.slice Ao66 t483.length co66 : Value).ownBlock)) (uR (Kd.R_mono HO_10.out (fun _ hk => ⟨⟨hk.1.2.1, ⟨hk.1.2.2.1, ⟨hk.1.2.2.2.1, ⟨hk.1.2.2.2.2, hk.2⟩⟩⟩⟩, hk.1.1⟩))) hg (.inl rfl)); replace HO472 := Aside0.mk (Kd.R_after (v := (.slice (some ad460) x7_1.length co18)) (v1 := (.slice (some ad460) x7_1.length co18)) (ok := (fun k_ => some k_ ≠ (.slice (some ad463) t454.length co17 : Value).ownBlock ∧ some k_ ≠ (.slice Ao21 x10_1.length co21 : Value).ownBlock ∧ some k_ ≠ (.slice Ao62 t473.length co62 : Value).ownBlock ∧ some k_ ≠ (.slice Ao61 t479.length co61 : Value).ownBlock ∧ some k_ ≠ (.slice Ao66 t483.length co66 : Value).ownBlock)) (uR (Kd.R_mono HO472.out (fun _ hk => ⟨⟨hk.1.2.1, ⟨hk.1.2.2.1, ⟨hk.1.2.2.2.1, ⟨hk.1.2.2.2.2, hk.2⟩⟩⟩⟩, hk.1.1⟩))) hg (.inl rfl)); replace HO475 := Aside0.mk (Kd.R_after (v := (.slice (some ad460) x7_1.length co18)) (v1 := (.slice (some ad460) x7_1.length co18)) (ok := (fun k_ => some k_ ≠ (.slice (some ad463) t454.length co17 : Value).ownBlock ∧ some k_ ≠ (.slice Ao21 x10_1.length co21 : Value).ownBlock ∧ some k_ ≠ (.slice Ao56 t470.length co56 : Value).ownBlock ∧ some k_ ≠ (.slice Ao61 t479.length co61 : Value).ownBlock ∧ some k_ ≠ (.slice Ao66 t483.length co66 : Value).ownBlock)) (uR (Kd.R_mono HO475.out (fun _ hk => ⟨⟨hk.1.2.1, ⟨hk.1.2.2.1, ⟨hk.1.2.2.2.1, ⟨hk.1.2.2.2.2, hk.2⟩⟩⟩⟩, hk.1.1⟩))) hg (.inl rfl)); replace HO481 := Aside0.mk (Kd.R_after (v := (.slice (some ad460) x7_1.length co18)) (v1 := (.slice (some ad460) x7_1.length co18)) (ok := (fun k_ => some k_ ≠ (.slice (some ad463) t454.length co17 : Value).ownBlock ∧ some k_ ≠ (.slice Ao21 x10_1.length co21 : Value).ownBlock ∧ some k_ ≠ (.slice Ao56 t470.length co56 : Value).ownBlock ∧ some k_ ≠ (.slice Ao62 t473.length co62 : Value).ownBlock ∧ some k_ ≠ (.slice Ao66 t483.length co66 : Value).ownBlock)) (uR (Kd.R_mono HO481.out (fun _ hk => ⟨⟨hk.1.2.1, ⟨hk.1.2.2.1, ⟨hk.1.2.2.2.1, ⟨hk.1.2.2.2.2, hk.2⟩⟩⟩⟩, hk.1.1⟩))) hg (.inl rfl)); replace HO485 := Aside0.mk (Kd.R_after (v := (.slice (some ad460) x7_1.length co18)) (v1 := (.slice (some ad460) x7_1.length co18)) (ok := (fun k_ => some k_ ≠ (.slice (some ad463) t454.length co17 : Value).ownBlock ∧ some k_ ≠ (.slice Ao21 x10_1.length co21 : Value).ownBlock ∧ some k_ ≠ (.slice Ao56 t470.length co56 : Value).ownBlock ∧ some k_ ≠ (.slice Ao62 t473.length co62 : Value).ownBlock ∧ some k_ ≠ (.slice Ao61 t479.length co61 : Value).ownBlock)) (uR (Kd.R_mono HO485.out (fun _ hk => ⟨⟨hk.1.1.1.1.2, ⟨hk.1.1.1.2, ⟨hk.1.1.2, ⟨hk.1.2, hk.2⟩⟩⟩⟩, hk.1.1.1.1.1.2⟩))) hg (.inl rfl)); replace HB := Aside0.mk (hb); clear ho hb hg; have p54 : 0 ≤ (x11_1 : Int) := uO; have q54 : (x11_1 : Int) < ((x10_1.length : Int) : Int) := uO; obtain ⟨go54, co54, eo54, gb54, gl54, cl54, HG54⟩ := Kd.R_form HO_10.out (by omega); (first | cases eo54 | (injection eo54 with ea_ en_ ec_; (first | subst ea_ | (injection ea_ with ea_; subst ea_)); subst ec_; clear en_)); have GB54 := Aside0.mk gb54; have GG54 := Aside0.mk HG54; clear gb54 gl54 HG54; obtain ⟨hx54_0, hf54_0⟩ := Kd.R_celln 0 HO_10.out (x11_1 : Int) p54 q54; replace p54 := eq_true p54; replace q54 := eq_true q54; have n_ := Aside0.mk (Kd.R_mono (ok' := (fun k_ => some k_ ≠ (.slice (some ad460) x7_1.length co18 : Value).ownBlock ∧ some k_ ≠ (.slice (some ad463) t454.length co17 : Value).ownBlock ∧ some k_ ≠ (.slice Ao56 t470.length co56 : Value).ownBlock ∧ some k_ ≠ (.slice Ao62 t473.length co62 : Value).ownBlock ∧ some k_ ≠ (.slice Ao61 t479.length co61 : Value).ownBlock ∧ some k_ ≠ (.slice Ao66 t483.length co66 : Value).ownBlock)) HO_10.out (fun k_ hk => ⟨hk.2, ⟨hk.1.1, ⟨hk.1.2.1, ⟨hk.1.2.2.1, ⟨hk.1.2.2.2.1, hk.1.2.2.2.2⟩⟩⟩⟩⟩)); clear HO_10; have HO_10 := n_; clear n_; obtain ⟨hy67_, hz67_⟩ := Kd.R_celln 0 HO_10.out (x11_1 : Int) uO uO; have HP67 := Kd.R_putg HO_10.out (x11_1 : Int) x12_2) | ((with_reducible refine gate_store (t := 47) (p := 105) rfl ?_); refine store_event (t := 47) (p := 105) (v := ?vo_w68) (w1 := (w64.setCell ⟨go54, (x11_1 : Int).toNat, none⟩ (.int .u64 x12_2))) ?hg ?ho ?hn ?hr ?_; (case ho => rfl); (case hg => rfl); (case hn => rfl); (case hr => first | (go_simp; done) | (go_simp; rfl) | (obtain ⟨hy_, hz_⟩ := Kd.R_celln 0 HO_10.out (x11_1 : Int) uO uO; (try simp only [Go.IntWalk.toNatUp] at hy_ hz_); (try simp only [Int.reduceToNat, Int.toNat_zero, Int.toNat_ofNat] at hy_ hz_); first | (go_simp; done) | (go_simp; rfl))); intro w68 hw; have hg : w64.grownBy w68 (some go54) := (by rw [hw]; exact HP67.2); have hp_ : Kd.R (Kd.int .u64) 47 w68 w.heap.size (fun k_ => some k_ ≠ (.slice (some ad460) x7_1.length co18 : Value).ownBlock ∧ some k_ ≠ (.slice (some ad463) t454.length co17 : Value).ownBlock ∧ some k_ ≠ (.slice Ao56 t470.length co56 : Value).ownBlock ∧ some k_ ≠ (.slice Ao62 t473.length co62 : Value).ownBlock ∧ some k_ ≠ (.slice Ao61 t479.length co61 : Value).ownBlock ∧ some k_ ≠ (.slice Ao66 t483.length co66 : Value).ownBlock) (.slice (some ⟨go54, 0, none⟩) x10_1.length co21) y487 := (by rw [hw, Ny487.out]; exact HP67.1); clear HP67; replace HO_7 := Aside0.mk (Kd.R_after (v := (.slice (some ⟨go54, 0, none⟩) x10_1.length co21)) (v1 := (.slice (some ⟨go54, 0, none⟩) x10_1.length co21)) (ok := (fun k_ => some k_ ≠ (.slice (some ad463) t454.length co17 : Value).ownBlock ∧ some k_ ≠ (.slice Ao56 t470.length co56 : Value).ownBlock ∧ some k_ ≠ (.slice Ao62 t473.length co62 : Value).ownBlock ∧ some k_ ≠ (.slice Ao61 t479.length co61 : Value).ownBlock ∧ some k_ ≠ (.slice Ao66 t483.length co66 : Value).ownBlock)) (uR (Kd.R_mono HO_7.out (fun _ hk => ⟨⟨hk.1, ⟨hk.2.2.1, ⟨hk.2.2.2.1, ⟨hk.2.2.2.2.1, hk.2.2.2.2.2⟩⟩⟩⟩, hk.2.1⟩))) hg (.inl rfl)); replace HO_8 := Aside0.mk (Kd.R_after (v := (.slice (some ⟨go54, 0, none⟩) x10_1.length co21)) (v1 := (.slice (some ⟨go54, 0, none⟩) x10_1.length co21)) (ok := (fun k_ => some k_ ≠ (.slice (some ad460) x7_1.length co18 : Value).ownBlock ∧ some k_ ≠ (.slice Ao56 t470.length co56 : Value).ownBlock ∧ some k_ ≠ (.slice Ao62 t473.length co62 : Value).ownBlock ∧ some k_ ≠ (.slice Ao61 t479.length co61 : Value).ownBlock ∧ some k_ ≠ (.slice Ao66 t483.length co66 : Value).ownBlock)) (uR (Kd.R_mono HO_8.out (fun _ hk => ⟨⟨hk.2, ⟨hk.1.2.1, ⟨hk.1.2.2.1, ⟨hk.1.2.2.2.1, hk.1.2.2.2.2⟩⟩⟩⟩, hk.1.1⟩))) hg (.inl rfl)); replace HO_10 := Aside0.mk (hp_); replace HO472 := Aside0.mk (Kd.R_after (v := (.slice (some ⟨go54, 0, none⟩) x10_1.length co21)) (v1 := (.slice (some ⟨go54, 0, none⟩) x10_1.length co21)) (ok := (fun k_ => some k_ ≠ (.slice (some ad460) x7_1.length co18 : Value).ownBlock ∧ some k_ ≠ (.slice (some ad463) t454.length co17 : Value).ownBlock ∧ some k_ ≠ (.slice Ao62 t473.length co62 : Value).ownBlock ∧ some k_ ≠ (.slice Ao61 t479.length co61 : Value).ownBlock ∧ some k_ ≠ (.slice Ao66 t483.length co66 : Value).ownBlock)) (uR (Kd.R_mono HO472.out (fun _ hk => ⟨⟨hk.2, ⟨hk.1.1, ⟨hk.1.2.2.1, ⟨hk.1.2.2.2.1, hk.1.2.2.2.2⟩⟩⟩⟩, hk.1.2.1⟩))) hg (.inl rfl)); replace HO475 := Aside0.mk (Kd.R_after (v := (.slice (some ⟨go54, 0, none⟩) x10_1.length co21)) (v1 := (.slice (some ⟨go54, 0, none⟩) x10_1.length co21)) (ok := (fun k_ => some k_ ≠ (.slice (some ad460) x7_1.length co18 : Value).ownBlock ∧ some k_ ≠ (.slice (some ad463) t454.length co17 : Value).ownBlock ∧ some k_ ≠ (.slice Ao56 t470.length co56 : Value).ownBlock ∧ some k_ ≠ (.slice Ao61 t479.length co61 : Value).ownBlock ∧ some k_ ≠ (.slice Ao66 t483.length co66 : Value).ownBlock)) (uR (Kd.R_mono HO475.out (fun _ hk => ⟨⟨hk.2, ⟨hk.1.1, ⟨hk.1.2.2.1, ⟨hk.1.2.2.2.1, hk.1.2.2.2.2⟩⟩⟩⟩, hk.1.2.1⟩))) hg (.inl rfl)); replace HO481 := Aside0.mk (Kd.R_after (v := (.slice (some ⟨go54, 0, none⟩) x10_1.length co21)) (v1 := (.slice (some ⟨go54, 0, none⟩) x10_1.length co21)) (ok := (fun k_ => some k_ ≠ (.slice (some ad460) x7_1.length co18 : Value).ownBlock ∧ some k_ ≠ (.slice (some ad463) t454.length co17 : Value).ownBlock ∧ some k_ ≠ (.slice Ao56 t470.length co56 : Value).ownBlock ∧ some k_ ≠ (.slice Ao62 t473.length co62 : Value).ownBlock ∧ some k_ ≠ (.slice Ao66 t483.length co66 : Value).ownBlock)) (uR (Kd.R_mono HO481.out (fun _ hk => ⟨⟨hk.2, ⟨hk.1.1, ⟨hk.1.2.2.1, ⟨hk.1.2.2.2.1, hk.1.2.2.2.2⟩⟩⟩⟩, hk.1.2.1⟩))) hg (.inl rfl)); replace HO485 := Aside0.mk (Kd.R_after (v := (.slice (some ⟨go54, 0, none⟩) x10_1.length co21)) (v1 := (.slice (some ⟨go54, 0, none⟩) x10_1.length co21)) (ok := (fun k_ => some k_ ≠ (.slice (some ad460) x7_1.length co18 : Value).ownBlock ∧ some k_ ≠ (.slice (some ad463) t454.length co17 : Value).ownBlock ∧ some k_ ≠ (.slice Ao56 t470.length co56 : Value).ownBlock ∧ some k_ ≠ (.slice Ao62 t473.length co62 : Value).ownBlock ∧ some k_ ≠ (.slice Ao61 t479.length co61 : Value).ownBlock)) (uR (Kd.R_mono HO485.out (fun _ hk => ⟨⟨hk.2, ⟨hk.1.1, ⟨hk.1.2.2.1, ⟨hk.1.2.2.2.1, hk.1.2.2.2.2⟩⟩⟩⟩, hk.1.2.1⟩))) hg (.inl rfl)); replace HB := Aside0.mk ((by rw [hw]; exact below_set (HB.out) GB54.out : Below w.heap.size w w68)); clear hg hw hp_))
       (try simp only [← hl7_1, ← hl10_1])
       first | go_roundg k2 | ((try simp only [← hji35] at H'); simp only [← hji35]; go_roundg k2) | ((try simp only [← hji32] at H'); simp only [← hji32]; go_roundg k2) | ((try simp only [← hji29] at H'); simp only [← hji29]; go_roundg k2) | ((try simp only [← hji26] at H'); simp only [← hji26]; go_roundg k2) | ((try simp only [← hji23] at H'); simp only [← hji23]; go_roundg k2) | ((try simp only [← hji10] at H'); simp only [← hji10]; go_roundg k2)
       case measure => have := HK1.out; have := HK2.out; omega
       case rel => first | exact ⟨(y486), (y487), (wrap64 (x11_1 - 1)), uG, H', ⟨by have := HK1.out; have := HK2.out; omega⟩, ⟨by (try simp only [hl7_1]); (try simp only [hl10_1]); (with_reducible repeat (first | apply Kd.R_alloc | apply Kd.R_drewN | apply Kd.R_drew)); exact Kd.R_mono HO_7.out (fun _ hk => ⟨hk.1.1, hk.2⟩)⟩, ⟨by (try simp only [hl7_1]); (try simp only [hl10_1]); (with_reducible repeat (first | apply Kd.R_alloc | apply Kd.R_drewN | apply Kd.R_drew)); exact Kd.R_mono HO_8.out (fun _ hk => ⟨hk.1.1, hk.2⟩)⟩, ⟨by (try simp only [hl7_1]); (try simp only [hl10_1]); (with_reducible repeat (first | apply Kd.R_alloc | apply Kd.R_drewN | apply Kd.R_drew)); exact Kd.R_mono HO_10.out (fun _ hk => ⟨hk.1, hk.2.1⟩)⟩, ⟨uB⟩⟩ | (simp only [← hji35] at H'; exact ⟨(y486), (y487), (wrap64 (x11_1 - 1)), uG, H', ⟨by have := HK1.out; have := HK2.out; omega⟩, ⟨by (try simp only [hl7_1]); (try simp only [hl10_1]); (with_reducible repeat (first | apply Kd.R_alloc | apply Kd.R_drewN | apply Kd.R_drew)); exact Kd.R_mono HO_7.out (fun _ hk => ⟨hk.1.1, hk.2⟩)⟩, ⟨by (try simp only [hl7_1]); (try simp only [hl10_1]); (with_reducible repeat (first | apply Kd.R_alloc | apply Kd.R_drewN | apply Kd.R_drew)); exact Kd.R_mono HO_8.out (fun _ hk => ⟨hk.1.1, hk.2⟩)⟩, ⟨by (try simp only [hl7_1]); (try simp only [hl10_1]); (with_reducible repeat (first | apply Kd.R_alloc | apply Kd.R_drewN | apply Kd.R_drew)); exact Kd.R_mono HO_10.out (fun _ hk => ⟨hk.1, hk.2.1⟩)⟩, ⟨uB⟩⟩) | (simp only [← hji32] at H'; exact ⟨(y486), (y487), (wrap64 (x11_1 - 1)), uG, H', ⟨by have := HK1.out; have := HK2.out; omega⟩, ⟨by (try simp only [hl7_1]); (try simp only [hl10_1]); (with_reducible repeat (first | apply Kd.R_alloc | apply Kd.R_drewN | apply Kd.R_drew)); exact Kd.R_mono HO_7.out (fun _ hk => ⟨hk.1.1, hk.2⟩)⟩, ⟨by (try simp only [hl7_1]); (try simp only [hl10_1]); (with_reducible repeat (first | apply Kd.R_alloc | apply Kd.R_drewN | apply Kd.R_drew)); exact Kd.R_mono HO_8.out (fun _ hk => ⟨hk.1.1, hk.2⟩)⟩, ⟨by (try simp only [hl7_1]); (try simp only [hl10_1]); (with_reducible repeat (first | apply Kd.R_alloc | apply Kd.R_drewN | apply Kd.R_drew)); exact Kd.R_mono HO_10.out (fun _ hk => ⟨hk.1, hk.2.1⟩)⟩, ⟨uB⟩⟩) | (simp only [← hji29] at H'; exact ⟨(y486), (y487), (wrap64 (x11_1 - 1)), uG, H', ⟨by have := HK1.out; have := HK2.out; omega⟩, ⟨by (try simp only [hl7_1]); (try simp only [hl10_1]); (with_reducible repeat (first | apply Kd.R_alloc | apply Kd.R_drewN | apply Kd.R_drew)); exact Kd.R_mono HO_7.out (fun _ hk => ⟨hk.1.1, hk.2⟩)⟩, ⟨by (try simp only [hl7_1]); (try simp only [hl10_1]); (with_reducible repeat (first | apply Kd.R_alloc | apply Kd.R_drewN | apply Kd.R_drew)); exact Kd.R_mono HO_8.out (fun _ hk => ⟨hk.1.1, hk.2⟩)⟩, ⟨by (try simp only [hl7_1]); (try simp only [hl10_1]); (with_reducible repeat (first | apply Kd.R_alloc | apply Kd.R_drewN | apply Kd.R_drew)); exact Kd.R_mono HO_10.out (fun _ hk => ⟨hk.1, hk.2.1⟩)⟩, ⟨uB⟩⟩) | (simp only [← hji26] at H'; exact ⟨(y486), (y487), (wrap64 (x11_1 - 1)), uG, H', ⟨by have := HK1.out; have := HK2.out; omega⟩, ⟨by (try simp only [hl7_1]); (try simp only [hl10_1]); (with_reducible repeat (first | apply Kd.R_alloc | apply Kd.R_drewN | apply Kd.R_drew)); exact Kd.R_mono HO_7.out (fun _ hk => ⟨hk.1.1, hk.2⟩)⟩, ⟨by (try simp only [hl7_1]); (try simp only [hl10_1]); (with_reducible repeat (first | apply Kd.R_alloc | apply Kd.R_drewN | apply Kd.R_drew)); exact Kd.R_mono HO_8.out (fun _ hk => ⟨hk.1.1, hk.2⟩)⟩, ⟨by (try simp only [hl7_1]); (try simp only [hl10_1]); (with_reducible repeat (first | apply Kd.R_alloc | apply Kd.R_drewN | apply Kd.R_drew)); exact Kd.R_mono HO_10.out (fun _ hk => ⟨hk.1, hk.2.1⟩)⟩, ⟨uB⟩⟩) | (simp only [← hji23] at H'; exact ⟨(y486), (y487), (wrap64 (x11_1 - 1)), uG, H', ⟨by have := HK1.out; have := HK2.out; omega⟩, ⟨by (try simp only [hl7_1]); (try simp only [hl10_1]); (with_reducible repeat (first | apply Kd.R_alloc | apply Kd.R_drewN | apply Kd.R_drew)); exact Kd.R_mono HO_7.out (fun _ hk => ⟨hk.1.1, hk.2⟩)⟩, ⟨by (try simp only [hl7_1]); (try simp only [hl10_1]); (with_reducible repeat (first | apply Kd.R_alloc | apply Kd.R_drewN | apply Kd.R_drew)); exact Kd.R_mono HO_8.out (fun _ hk => ⟨hk.1.1, hk.2⟩)⟩, ⟨by (try simp only [hl7_1]); (try simp only [hl10_1]); (with_reducible repeat (first | apply Kd.R_alloc | apply Kd.R_drewN | apply Kd.R_drew)); exact Kd.R_mono HO_10.out (fun _ hk => ⟨hk.1, hk.2.1⟩)⟩, ⟨uB⟩⟩) | (simp only [← hji10] at H'; exact ⟨(y486), (y487), (wrap64 (x11_1 - 1)), uG, H', ⟨by have := HK1.out; have := HK2.out; omega⟩, ⟨by (try simp only [hl7_1]); (try simp only [hl10_1]); (with_reducible repeat (first | apply Kd.R_alloc | apply Kd.R_drewN | apply Kd.R_drew)); exact Kd.R_mono HO_7.out (fun _ hk => ⟨hk.1.1, hk.2⟩)⟩, ⟨by (try simp only [hl7_1]); (try simp only [hl10_1]); (with_reducible repeat (first | apply Kd.R_alloc | apply Kd.R_drewN | apply Kd.R_drew)); exact Kd.R_mono HO_8.out (fun _ hk => ⟨hk.1.1, hk.2⟩)⟩, ⟨by (try simp only [hl7_1]); (try simp only [hl10_1]); (with_reducible repeat (first | apply Kd.R_alloc | apply Kd.R_drewN | apply Kd.R_drew)); exact Kd.R_mono HO_10.out (fun _ hk => ⟨hk.1, hk.2.1⟩)⟩, ⟨uB⟩⟩)
      rw [if_neg c49] at H
      have c49b0 : decide (0 ≤ t482) = false := decide_eq_false c49
      clear c49
      have H' := Aside0.mk H
      clear H
      go_wp2_with (first | ((with_reducible refine gate_callee (f := 55) rfl ?_); refine goesL_ (some 87) rfl rfl Try.func55 (by kernel_rfl) rfl #[.int .u64 x12_2] rfl uM ?_; (with_reducible refine (nat_Of.calls k2 x12_2 t470 _ A44.out).mono ?_); rintro e w69 ⟨v471, rfl, ho0, hb⟩; refine ⟨_, rfl, ?_⟩; have HO472 := Aside0.mk (Kd.R_lower (Kd.R_new' (Kd.R_new' (Kd.R_new' ho0 (Kd.R_lt (uR HO_7.out))) (Kd.R_lt (uR HO_8.out))) (Kd.R_lt (uR HO_10.out))) (below_size uB)); replace HO_7 := ueR HO_7 ho0 hb; replace HO_8 := ueR HO_8 ho0 hb; replace HO_10 := ueR HO_10 ho0 hb; replace HR469 := Aside0.mk (Kd.C_below (by repeat (first | (with_reducible exact HR469.out) | (with_reducible refine Kd.C_alloc ?_ _) | (with_reducible refine Kd.C_drewN ?_ _) | (with_reducible refine Kd.C_drew ?_) | exact HR469.out)) hb); replace HB := uy hb; (try clear hb); (try clear hb2); (try clear hk); (try clear hi); (try clear ho0); obtain ⟨Ao70, co70, eo70⟩ := Kd.R_slice HO472.out; subst eo70) | ((with_reducible refine gate_callee (f := 103) rfl ?_); refine goesL_ (some 88) rfl rfl Try.func103 (by kernel_rfl) rfl #[.slice (some ad463) t454.length co17, .slice Ao70 t470.length co70] rfl uM ?_; (with_reducible refine (nat_school.calls k2 _ _ t454 _ _ t470 t473 _ ?side1 ?side2 ?side3 ?side4 A45.out).mono ?_); (case side1 => exact uC (Kd.R_reads' HO_8.out).2.2); (case side2 => exact (Kd.R_reads' HO_8.out).2.1); (case side3 => exact uC (Kd.R_reads' HO472.out).2.2); (case side4 => exact (Kd.R_reads' HO472.out).2.1); rintro e w71 ⟨v474, rfl, ho0, hb⟩; refine ⟨_, rfl, ?_⟩; have HO475 := Aside0.mk (Kd.R_lower (Kd.R_new' (Kd.R_new' (Kd.R_new' (Kd.R_new' ho0 (Kd.R_lt (uR HO_7.out))) (Kd.R_lt (uR HO_8.out))) (Kd.R_lt (uR HO_10.out))) (Kd.R_lt (uR HO472.out))) (below_size uB)); replace HO_7 := ueR HO_7 ho0 hb; replace HO_8 := ueR HO_8 ho0 hb; replace HO_10 := ueR HO_10 ho0 hb; replace HO472 := ueR HO472 ho0 hb; replace HR469 := Aside0.mk (Kd.C_below (by repeat (first | (with_reducible exact HR469.out) | (with_reducible refine Kd.C_alloc ?_ _) | (with_reducible refine Kd.C_drewN ?_ _) | (with_reducible refine Kd.C_drew ?_) | exact HR469.out)) hb); replace HB := uy hb; (try clear hb); (try clear hb2); (try clear hk); (try clear hi); (try clear ho0)) | ((with_reducible refine gate_callee (f := 90) rfl ?_); refine goesL_ (some 90) rfl rfl Try.func90 (by kernel_rfl) rfl #[.slice A43 y466.length c43] rfl uM ?_; (with_reducible refine (api_Nat_uint64.calls _ _ y466 t476 _ ?side1 ?side2 A46.out).mono ?_); (case side1 => repeat (first | exact (by repeat (first | (with_reducible exact HR469.out) | (with_reducible refine Kd.C_alloc ?_ _) | (with_reducible refine Kd.C_drewN ?_ _) | (with_reducible refine Kd.C_drew ?_) | exact HR469.out)) | (with_reducible refine Kd.C_alloc ?_ _) | (with_reducible refine Kd.C_drewN ?_ _) | (with_reducible refine Kd.C_drew ?_))); (case side2 => exact HC469.out); rintro e w72 ⟨v477, rfl, ho0, hb⟩; refine ⟨_, rfl, ?_⟩; have HO478 := Aside0.mk (Kd.R_lower (Kd.R_new' (Kd.R_new' (Kd.R_new' (Kd.R_new' (Kd.R_new' ho0 (Kd.R_lt (uR HO_7.out))) (Kd.R_lt (uR HO_8.out))) (Kd.R_lt (uR HO_10.out))) (Kd.R_lt (uR HO472.out))) (Kd.R_lt (uR HO475.out))) (below_size uB)); replace HO_7 := ueR HO_7 ho0 hb; replace HO_8 := ueR HO_8 ho0 hb; replace HO_10 := ueR HO_10 ho0 hb; replace HO472 := ueR HO472 ho0 hb; replace HO475 := ueR HO475 ho0 hb; replace HR469 := Aside0.mk (Kd.C_below (by repeat (first | (with_reducible exact HR469.out) | (with_reducible refine Kd.C_alloc ?_ _) | (with_reducible refine Kd.C_drewN ?_ _) | (with_reducible refine Kd.C_drew ?_) | exact HR469.out)) hb); replace HB := uy hb; (try clear hb); (try clear hb2); (try clear hk); (try clear hi); (try clear ho0); obtain ⟨Ao73, co73, eo73⟩ := Kd.R_slice HO478.out; subst eo73) | ((with_reducible refine gate_callee (f := 87) rfl ?_); refine goesL_ (some 91) rfl rfl Try.func87 (by kernel_rfl) rfl #[.slice Ao73 t476.length co73] rfl uM ?_; (with_reducible refine (nat_trim.calls k2 (fun k_ => some k_ = (.slice Ao73 t476.length co73 : Value).ownBlock) (.slice Ao73 t476.length co73) t476 t479 w _ ?side1 ?side2 A47.out).mono ?_); (case side1 => repeat (first | (with_reducible first | exact HB.out | apply below_alloc | apply pw_below_drewN | apply below_drew1) | exact HB.out)); (case side2 => exact Kd.R_tight rfl HO478.out); rintro e w74 ⟨v480, rfl, ho0, hb, hkp⟩; refine ⟨_, rfl, ?_⟩; have HO481 := Aside0.mk (Kd.R_mono (ok' := fun k_ => some k_ ≠ (.slice (some ad460) x7_1.length co18 : Value).ownBlock ∧ some k_ ≠ (.slice (some ad463) t454.length co17 : Value).ownBlock ∧ some k_ ≠ (.slice Ao21 x10_1.length co21 : Value).ownBlock ∧ some k_ ≠ (.slice Ao70 t470.length co70 : Value).ownBlock ∧ some k_ ≠ (v474 : Value).ownBlock) ho0 (fun k_ hk_ => ⟨Or.elim hk_ (fun hs_ => fun e_ => (((HO_7.out).1 k_ e_.symm).2) hs_) (fun hn_ => (Kd.fresh' (Kd.R_lt (uR HO_7.out)) k_ hn_)), Or.elim hk_ (fun hs_ => fun e_ => (((HO_8.out).1 k_ e_.symm).2) hs_) (fun hn_ => (Kd.fresh' (Kd.R_lt (uR HO_8.out)) k_ hn_)), Or.elim hk_ (fun hs_ => fun e_ => (((HO_10.out).1 k_ e_.symm).2) hs_) (fun hn_ => (Kd.fresh' (Kd.R_lt (uR HO_10.out)) k_ hn_)), Or.elim hk_ (fun hs_ => fun e_ => (((HO472.out).1 k_ e_.symm).2) hs_) (fun hn_ => (Kd.fresh' (Kd.R_lt (uR HO472.out)) k_ hn_)), Or.elim hk_ (fun hs_ => fun e_ => (((HO475.out).1 k_ e_.symm).2) hs_) (fun hn_ => (Kd.fresh' (Kd.R_lt (uR HO475.out)) k_ hn_))⟩)); replace HO_8 := Aside0.mk (Kd.R_mono (ok' := fun k_ => some k_ ≠ (.slice (some ad460) x7_1.length co18 : Value).ownBlock ∧ some k_ ≠ (.slice Ao21 x10_1.length co21 : Value).ownBlock ∧ some k_ ≠ (.slice Ao70 t470.length co70 : Value).ownBlock ∧ some k_ ≠ (v474 : Value).ownBlock ∧ some k_ ≠ (v480 : Value).ownBlock) (Kd.R_keptB (HO_8.out) hkp (fun k_ hk_ hs_ => (hk_.2) hs_)) (fun k_ hk_ => ⟨hk_.1.1.1.1.1, hk_.1.1.1.1.2, hk_.1.1.1.2, hk_.1.1.2, fun e_ => Or.elim (ho0.1 k_ e_.symm) (fun hs_ => hk_.2.1 hs_) (fun hn_ => Nat.not_le.2 hk_.2.2 hn_)⟩)); replace HO_10 := Aside0.mk (Kd.R_mono (ok' := fun k_ => some k_ ≠ (.slice (some ad460) x7_1.length co18 : Value).ownBlock ∧ some k_ ≠ (.slice (some ad463) t454.length co17 : Value).ownBlock ∧ some k_ ≠ (.slice Ao70 t470.length co70 : Value).ownBlock ∧ some k_ ≠ (v474 : Value).ownBlock ∧ some k_ ≠ (v480 : Value).ownBlock) (Kd.R_keptB (HO_10.out) hkp (fun k_ hk_ hs_ => (hk_.2) hs_)) (fun k_ hk_ => ⟨hk_.1.1.1.1.1, hk_.1.1.1.1.2, hk_.1.1.1.2, hk_.1.1.2, fun e_ => Or.elim (ho0.1 k_ e_.symm) (fun hs_ => hk_.2.1 hs_) (fun hn_ => Nat.not_le.2 hk_.2.2 hn_)⟩)); replace HO472 := Aside0.mk (Kd.R_mono (ok' := fun k_ => some k_ ≠ (.slice (some ad460) x7_1.length co18 : Value).ownBlock ∧ some k_ ≠ (.slice (some ad463) t454.length co17 : Value).ownBlock ∧ some k_ ≠ (.slice Ao21 x10_1.length co21 : Value).ownBlock ∧ some k_ ≠ (v474 : Value).ownBlock ∧ some k_ ≠ (v480 : Value).ownBlock) (Kd.R_keptB (HO472.out) hkp (fun k_ hk_ hs_ => (hk_.2) hs_)) (fun k_ hk_ => ⟨hk_.1.1.1.1.1.2, hk_.1.1.1.1.2, hk_.1.1.1.2, hk_.1.1.2, fun e_ => Or.elim (ho0.1 k_ e_.symm) (fun hs_ => hk_.2.1 hs_) (fun hn_ => Nat.not_le.2 hk_.2.2 hn_)⟩)); replace HO475 := Aside0.mk (Kd.R_mono (ok' := fun k_ => some k_ ≠ (.slice (some ad460) x7_1.length co18 : Value).ownBlock ∧ some k_ ≠ (.slice (some ad463) t454.length co17 : Value).ownBlock ∧ some k_ ≠ (.slice Ao21 x10_1.length co21 : Value).ownBlock ∧ some k_ ≠ (.slice Ao70 t470.length co70 : Value).ownBlock ∧ some k_ ≠ (v480 : Value).ownBlock) (Kd.R_keptB (HO475.out) hkp (fun k_ hk_ hs_ => (hk_.2) hs_)) (fun k_ hk_ => ⟨hk_.1.1.1.1.1.2, hk_.1.1.1.1.2, hk_.1.1.1.2, hk_.1.1.2, fun e_ => Or.elim (ho0.1 k_ e_.symm) (fun hs_ => hk_.2.1 hs_) (fun hn_ => Nat.not_le.2 hk_.2.2 hn_)⟩)); replace HR469 := Aside0.mk ((show Kd.C (Kd.int .u64) w74 A43 y466.length y466 from by rw [Ny466.out, KA43.out]; exact Kd.C_mid (lo := (x11_1 : Int).toNat) (hi := ((wrap64 ((ji23) + 1)) : Int).toNat) (c := co18) ((Kd.R_reads' (Kd.R_mono (ok' := fun k_ => some k_ ≠ (.slice (some ad463) t454.length co17 : Value).ownBlock ∧ some k_ ≠ (.slice Ao21 x10_1.length co21 : Value).ownBlock ∧ some k_ ≠ (.slice Ao70 t470.length co70 : Value).ownBlock ∧ some k_ ≠ (v474 : Value).ownBlock ∧ some k_ ≠ (v480 : Value).ownBlock) (Kd.R_keptB (HO_7.out) hkp (fun k_ hk_ hs_ => (hk_.2) hs_)) (fun k_ hk_ => ⟨hk_.1.1.1.1.1, hk_.1.1.1.1.2, hk_.1.1.1.2, hk_.1.1.2, fun e_ => Or.elim (ho0.1 k_ e_.symm) (fun hs_ => hk_.2.1 hs_) (fun hn_ => Nat.not_le.2 hk_.2.2 hn_)⟩))).2.2) KM43.out KL43.out ((Kd.R_reads' (Kd.R_mono (ok' := fun k_ => some k_ ≠ (.slice (some ad463) t454.length co17 : Value).ownBlock ∧ some k_ ≠ (.slice Ao21 x10_1.length co21 : Value).ownBlock ∧ some k_ ≠ (.slice Ao70 t470.length co70 : Value).ownBlock ∧ some k_ ≠ (v474 : Value).ownBlock ∧ some k_ ≠ (v480 : Value).ownBlock) (Kd.R_keptB (HO_7.out) hkp (fun k_ hk_ hs_ => (hk_.2) hs_)) (fun k_ hk_ => ⟨hk_.1.1.1.1.1, hk_.1.1.1.1.2, hk_.1.1.1.2, hk_.1.1.2, fun e_ => Or.elim (ho0.1 k_ e_.symm) (fun hs_ => hk_.2.1 hs_) (fun hn_ => Nat.not_le.2 hk_.2.2 hn_)⟩))).2.1))); replace HO_7 := Aside0.mk (Kd.R_mono (ok' := fun k_ => some k_ ≠ (.slice (some ad463) t454.length co17 : Value).ownBlock ∧ some k_ ≠ (.slice Ao21 x10_1.length co21 : Value).ownBlock ∧ some k_ ≠ (.slice Ao70 t470.length co70 : Value).ownBlock ∧ some k_ ≠ (v474 : Value).ownBlock ∧ some k_ ≠ (v480 : Value).ownBlock) (Kd.R_keptB (HO_7.out) hkp (fun k_ hk_ hs_ => (hk_.2) hs_)) (fun k_ hk_ => ⟨hk_.1.1.1.1.1, hk_.1.1.1.1.2, hk_.1.1.1.2, hk_.1.1.2, fun e_ => Or.elim (ho0.1 k_ e_.symm) (fun hs_ => hk_.2.1 hs_) (fun hn_ => Nat.not_le.2 hk_.2.2 hn_)⟩)); replace HB := Aside0.mk (hb); clear HO478; (try clear hb); (try clear hkp); (try clear ho0); obtain ⟨Ao75, co75, eo75⟩ := Kd.R_slice HO481.out; subst eo75; obtain ⟨Ao76, co76, eo76⟩ := Kd.R_slice HO475.out; subst eo76) | ((with_reducible refine gate_callee (f := 75) rfl ?_); refine goesL_ (some 93) rfl rfl Try.func75 (by kernel_rfl) rfl #[.slice Ao75 t479.length co75, .slice Ao76 t473.length co76] rfl uM ?_; (with_reducible refine (nat_compare.calls k2 _ _ t479 _ _ t473 t482 _ ?side1 ?side2 ?side3 ?side4 A48.out).mono ?_); (case side1 => exact uC (Kd.R_reads' HO481.out).2.2); (case side2 => exact (Kd.R_reads' HO481.out).2.1); (case side3 => exact uC (Kd.R_reads' HO475.out).2.2); (case side4 => exact (Kd.R_reads' HO475.out).2.1); rintro e w' ⟨rfl, ⟨nd, rfl⟩⟩; refine ⟨_, rfl, ?_⟩))
      first | go_roundg k2 | ((try simp only [← hji35] at H'); simp only [← hji35]; go_roundg k2) | ((try simp only [← hji32] at H'); simp only [← hji32]; go_roundg k2) | ((try simp only [← hji29] at H'); simp only [← hji29]; go_roundg k2) | ((try simp only [← hji26] at H'); simp only [← hji26]; go_roundg k2) | ((try simp only [← hji23] at H'); simp only [← hji23]; go_roundg k2) | ((try simp only [← hji10] at H'); simp only [← hji10]; go_roundg k2)
      case measure => have := HK1.out; have := HK2.out; omega
      case rel => first | exact ⟨(IntKind.u64.wrap (x12_2 - 1)), uG, H', ⟨by have := HK1.out; have := HK2.out; omega⟩, ⟨by (try simp only [hl7_1]); (try simp only [hl10_1]); (with_reducible repeat (first | apply Kd.R_alloc | apply Kd.R_drewN | apply Kd.R_drew)); exact Kd.R_mono HO_7.out (fun _ hk => ⟨hk.1, hk.2.1⟩)⟩, ⟨by (try simp only [hl7_1]); (try simp only [hl10_1]); (with_reducible repeat (first | apply Kd.R_alloc | apply Kd.R_drewN | apply Kd.R_drew)); exact Kd.R_mono HO_8.out (fun _ hk => ⟨hk.1, hk.2.1⟩)⟩, ⟨by (try simp only [hl7_1]); (try simp only [hl10_1]); (with_reducible repeat (first | apply Kd.R_alloc | apply Kd.R_drewN | apply Kd.R_drew)); exact Kd.R_mono HO_10.out (fun _ hk => ⟨hk.1, hk.2.1⟩)⟩, ⟨by repeat (first | (with_reducible exact HR469.out) | (with_reducible refine Kd.C_alloc ?_ _) | (with_reducible refine Kd.C_drewN ?_ _) | (with_reducible refine Kd.C_drew ?_) | exact HR469.out)⟩, ⟨uB⟩⟩ | (simp only [← hji35] at H'; exact ⟨(IntKind.u64.wrap (x12_2 - 1)), uG, H', ⟨by have := HK1.out; have := HK2.out; omega⟩, ⟨by (try simp only [hl7_1]); (try simp only [hl10_1]); (with_reducible repeat (first | apply Kd.R_alloc | apply Kd.R_drewN | apply Kd.R_drew)); exact Kd.R_mono HO_7.out (fun _ hk => ⟨hk.1, hk.2.1⟩)⟩, ⟨by (try simp only [hl7_1]); (try simp only [hl10_1]); (with_reducible repeat (first | apply Kd.R_alloc | apply Kd.R_drewN | apply Kd.R_drew)); exact Kd.R_mono HO_8.out (fun _ hk => ⟨hk.1, hk.2.1⟩)⟩, ⟨by (try simp only [hl7_1]); (try simp only [hl10_1]); (with_reducible repeat (first | apply Kd.R_alloc | apply Kd.R_drewN | apply Kd.R_drew)); exact Kd.R_mono HO_10.out (fun _ hk => ⟨hk.1, hk.2.1⟩)⟩, ⟨by repeat (first | (with_reducible exact HR469.out) | (with_reducible refine Kd.C_alloc ?_ _) | (with_reducible refine Kd.C_drewN ?_ _) | (with_reducible refine Kd.C_drew ?_) | exact HR469.out)⟩, ⟨uB⟩⟩) | (simp only [← hji32] at H'; exact ⟨(IntKind.u64.wrap (x12_2 - 1)), uG, H', ⟨by have := HK1.out; have := HK2.out; omega⟩, ⟨by (try simp only [hl7_1]); (try simp only [hl10_1]); (with_reducible repeat (first | apply Kd.R_alloc | apply Kd.R_drewN | apply Kd.R_drew)); exact Kd.R_mono HO_7.out (fun _ hk => ⟨hk.1, hk.2.1⟩)⟩, ⟨by (try simp only [hl7_1]); (try simp only [hl10_1]); (with_reducible repeat (first | apply Kd.R_alloc | apply Kd.R_drewN | apply Kd.R_drew)); exact Kd.R_mono HO_8.out (fun _ hk => ⟨hk.1, hk.2.1⟩)⟩, ⟨by (try simp only [hl7_1]); (try simp only [hl10_1]); (with_reducible repeat (first | apply Kd.R_alloc | apply Kd.R_drewN | apply Kd.R_drew)); exact Kd.R_mono HO_10.out (fun _ hk => ⟨hk.1, hk.2.1⟩)⟩, ⟨by repeat (first | (with_reducible exact HR469.out) | (with_reducible refine Kd.C_alloc ?_ _) | (with_reducible refine Kd.C_drewN ?_ _) | (with_reducible refine Kd.C_drew ?_) | exact HR469.out)⟩, ⟨uB⟩⟩) | (simp only [← hji29] at H'; exact ⟨(IntKind.u64.wrap (x12_2 - 1)), uG, H', ⟨by have := HK1.out; have := HK2.out; omega⟩, ⟨by (try simp only [hl7_1]); (try simp only [hl10_1]); (with_reducible repeat (first | apply Kd.R_alloc | apply Kd.R_drewN | apply Kd.R_drew)); exact Kd.R_mono HO_7.out (fun _ hk => ⟨hk.1, hk.2.1⟩)⟩, ⟨by (try simp only [hl7_1]); (try simp only [hl10_1]); (with_reducible repeat (first | apply Kd.R_alloc | apply Kd.R_drewN | apply Kd.R_drew)); exact Kd.R_mono HO_8.out (fun _ hk => ⟨hk.1, hk.2.1⟩)⟩, ⟨by (try simp only [hl7_1]); (try simp only [hl10_1]); (with_reducible repeat (first | apply Kd.R_alloc | apply Kd.R_drewN | apply Kd.R_drew)); exact Kd.R_mono HO_10.out (fun _ hk => ⟨hk.1, hk.2.1⟩)⟩, ⟨by repeat (first | (with_reducible exact HR469.out) | (with_reducible refine Kd.C_alloc ?_ _) | (with_reducible refine Kd.C_drewN ?_ _) | (with_reducible refine Kd.C_drew ?_) | exact HR469.out)⟩, ⟨uB⟩⟩) | (simp only [← hji26] at H'; exact ⟨(IntKind.u64.wrap (x12_2 - 1)), uG, H', ⟨by have := HK1.out; have := HK2.out; omega⟩, ⟨by (try simp only [hl7_1]); (try simp only [hl10_1]); (with_reducible repeat (first | apply Kd.R_alloc | apply Kd.R_drewN | apply Kd.R_drew)); exact Kd.R_mono HO_7.out (fun _ hk => ⟨hk.1, hk.2.1⟩)⟩, ⟨by (try simp only [hl7_1]); (try simp only [hl10_1]); (with_reducible repeat (first | apply Kd.R_alloc | apply Kd.R_drewN | apply Kd.R_drew)); exact Kd.R_mono HO_8.out (fun _ hk => ⟨hk.1, hk.2.1⟩)⟩, ⟨by (try simp only [hl7_1]); (try simp only [hl10_1]); (with_reducible repeat (first | apply Kd.R_alloc | apply Kd.R_drewN | apply Kd.R_drew)); exact Kd.R_mono HO_10.out (fun _ hk => ⟨hk.1, hk.2.1⟩)⟩, ⟨by repeat (first | (with_reducible exact HR469.out) | (with_reducible refine Kd.C_alloc ?_ _) | (with_reducible refine Kd.C_drewN ?_ _) | (with_reducible refine Kd.C_drew ?_) | exact HR469.out)⟩, ⟨uB⟩⟩) | (simp only [← hji23] at H'; exact ⟨(IntKind.u64.wrap (x12_2 - 1)), uG, H', ⟨by have := HK1.out; have := HK2.out; omega⟩, ⟨by (try simp only [hl7_1]); (try simp only [hl10_1]); (with_reducible repeat (first | apply Kd.R_alloc | apply Kd.R_drewN | apply Kd.R_drew)); exact Kd.R_mono HO_7.out (fun _ hk => ⟨hk.1, hk.2.1⟩)⟩, ⟨by (try simp only [hl7_1]); (try simp only [hl10_1]); (with_reducible repeat (first | apply Kd.R_alloc | apply Kd.R_drewN | apply Kd.R_drew)); exact Kd.R_mono HO_8.out (fun _ hk => ⟨hk.1, hk.2.1⟩)⟩, ⟨by (try simp only [hl7_1]); (try simp only [hl10_1]); (with_reducible repeat (first | apply Kd.R_alloc | apply Kd.R_drewN | apply Kd.R_drew)); exact Kd.R_mono HO_10.out (fun _ hk => ⟨hk.1, hk.2.1⟩)⟩, ⟨by repeat (first | (with_reducible exact HR469.out) | (with_reducible refine Kd.C_alloc ?_ _) | (with_reducible refine Kd.C_drewN ?_ _) | (with_reducible refine Kd.C_drew ?_) | exact HR469.out)⟩, ⟨uB⟩⟩) | (simp only [← hji10] at H'; exact ⟨(IntKind.u64.wrap (x12_2 - 1)), uG, H', ⟨by have := HK1.out; have := HK2.out; omega⟩, ⟨by (try simp only [hl7_1]); (try simp only [hl10_1]); (with_reducible repeat (first | apply Kd.R_alloc | apply Kd.R_drewN | apply Kd.R_drew)); exact Kd.R_mono HO_7.out (fun _ hk => ⟨hk.1, hk.2.1⟩)⟩, ⟨by (try simp only [hl7_1]); (try simp only [hl10_1]); (with_reducible repeat (first | apply Kd.R_alloc | apply Kd.R_drewN | apply Kd.R_drew)); exact Kd.R_mono HO_8.out (fun _ hk => ⟨hk.1, hk.2.1⟩)⟩, ⟨by (try simp only [hl7_1]); (try simp only [hl10_1]); (with_reducible repeat (first | apply Kd.R_alloc | apply Kd.R_drewN | apply Kd.R_drew)); exact Kd.R_mono HO_10.out (fun _ hk => ⟨hk.1, hk.2.1⟩)⟩, ⟨by repeat (first | (with_reducible exact HR469.out) | (with_reducible refine Kd.C_alloc ?_ _) | (with_reducible refine Kd.C_drewN ?_ _) | (with_reducible refine Kd.C_drew ?_) | exact HR469.out)⟩, ⟨uB⟩⟩)
   rw [if_neg c22] at H
   have c22b0 : decide (0 ≤ x11_1) = false := decide_eq_false c22
   clear c22
   replace H := ub H; obtain ⟨t488, A77, H⟩ := H
   replace H := uT H; obtain ⟨c78, H⟩ := H
   have c78b0 := eq_true c78
   have c78b1 : decide (0 ≤ (t488.length : Int)) = true := decide_eq_true c78
   clear c78
   replace H := uT H; obtain ⟨c79, H⟩ := H
   have c79b0 := eq_true c79
   have c79b1 : decide (((t488.length : Int) : Int).toNat ≤ 35184372088832) = true := decide_eq_true c79
   clear c79
   obtain ⟨y491, hy491⟩ : ∃ y_ : List Int, y_ = (List.replicate ((t488.length : Int) : Int).toNat 0) := ⟨_, rfl⟩
   replace H : (nat_long.l2 k1 (IntKind.u64.wrap (t447)) x10_1 t488 y491 (t488.length : Int) 0) = some (r1, r2) := by first | (rw [hy491]; with_reducible exact H) | (have H2_ := (Option.bind_some _ _).symm.trans H; rw [hy491]; with_reducible exact H2_) | (have H2_ := (Option.bind_some _ _).symm.trans H; with_reducible exact H2_) | with_reducible exact H | (rw [hy491]; exact H) | exact H
   have Ny491 := Aside0.mk hy491; clear hy491
   have H' := Aside0.mk H
   clear H
   go_wp2_with (first | ((with_reducible refine gate_callee (f := 87) rfl ?_); refine goesL_ (some 107) rfl rfl Try.func87 (by kernel_rfl) rfl #[.slice Ao18 x7_1.length co18] rfl uM ?_; (with_reducible refine (nat_trim.calls k1 (fun k_ => some k_ = (.slice Ao18 x7_1.length co18 : Value).ownBlock) (.slice Ao18 x7_1.length co18) x7_1 t488 w _ ?side1 ?side2 A77.out).mono ?_); (case side1 => repeat (first | (with_reducible first | exact HB.out | apply below_alloc | apply pw_below_drewN | apply below_drew1) | exact HB.out)); (case side2 => exact Kd.R_tight rfl HO_7.out); rintro e w80 ⟨v489, rfl, ho0, hb, hkp⟩; refine ⟨_, rfl, ?_⟩; have HO490 := Aside0.mk (Kd.R_mono (ok' := fun k_ => some k_ ≠ (.slice Ao17 t454.length co17 : Value).ownBlock ∧ some k_ ≠ (.slice Ao21 x10_1.length co21 : Value).ownBlock) ho0 (fun k_ hk_ => ⟨Or.elim hk_ (fun hs_ => fun e_ => (((HO_8.out).1 k_ e_.symm).1) hs_) (fun hn_ => (Kd.fresh' (Kd.R_lt (uR HO_8.out)) k_ hn_)), Or.elim hk_ (fun hs_ => fun e_ => (((HO_10.out).1 k_ e_.symm).1) hs_) (fun hn_ => (Kd.fresh' (Kd.R_lt (uR HO_10.out)) k_ hn_))⟩)); replace HO_8 := Aside0.mk (Kd.R_mono (ok' := fun k_ => some k_ ≠ (.slice Ao21 x10_1.length co21 : Value).ownBlock ∧ some k_ ≠ (v489 : Value).ownBlock) (Kd.R_keptB (HO_8.out) hkp (fun k_ hk_ hs_ => (hk_.1) hs_)) (fun k_ hk_ => ⟨hk_.1.2, fun e_ => Or.elim (ho0.1 k_ e_.symm) (fun hs_ => hk_.2.1 hs_) (fun hn_ => Nat.not_le.2 hk_.2.2 hn_)⟩)); replace HO_10 := Aside0.mk (Kd.R_mono (ok' := fun k_ => some k_ ≠ (.slice Ao17 t454.length co17 : Value).ownBlock ∧ some k_ ≠ (v489 : Value).ownBlock) (Kd.R_keptB (HO_10.out) hkp (fun k_ hk_ hs_ => (hk_.1) hs_)) (fun k_ hk_ => ⟨hk_.1.2, fun e_ => Or.elim (ho0.1 k_ e_.symm) (fun hs_ => hk_.2.1 hs_) (fun hn_ => Nat.not_le.2 hk_.2.2 hn_)⟩)); replace HB := Aside0.mk (hb); clear HO_7; (try clear hb); (try clear hkp); (try clear ho0); obtain ⟨Ao81, co81, eo81⟩ := Kd.R_slice HO490.out; subst eo81) | ((with_reducible refine gate_dst (N := 110) rfl ?_); (try (refine gate_guard (by rfl) ?_; dsimp only)); refine Kd.R_make (Kd.int .u64) _ 47 rfl (N := 110) rfl 29 _ _ rfl (t488.length : Int) rfl rfl Try.underlying29 (.int .u64 0) 8 info47 rfl (by decide) (by omega) 0 (ok := fun _ => True) (okp := fun _ => True) rfl (fun _ hk => hk) trivial uO (Nat.le_trans (Nat.mul_le_mul_right _ (uO : (t488.length : Int).toNat ≤ 35184372088832)) (by omega)) (Below.refl _ _) (Nat.le_refl _) ?_; intro v492 w82 ho83 hb hg_ hnew_; clear hg_ hnew_; (first | rw [← Ny491.out] at ho83 | (simp only [Int.reduceToNat] at ho83; rw [← Ny491.out] at ho83)); have HO493 := Aside0.mk (Kd.R_lower (Kd.R_new' (Kd.R_new' (Kd.R_new' ho83 (Kd.R_lt (uR HO_8.out))) (Kd.R_lt (uR HO_10.out))) (Kd.R_lt (uR HO490.out))) (below_size uB)); replace HO_8 := ueR HO_8 ho83 hb; replace HO_10 := ueR HO_10 ho83 hb; replace HO490 := ueR HO490 ho83 hb; replace HB := uy hb; clear hb ho83))
   go_loopg [113] k1 (fun kq v113 w' => ∃ (x16_2 : List Int) (x113_2 : Int), v113 = .int .i64 x113_2 ∧ Aside0 (nat_long.l2 kq (IntKind.u64.wrap (t447)) x10_1 t488 x16_2 (t488.length : Int) x113_2 = some (r1, r2)) ∧ Aside0 (kq ≤ k1) ∧ Aside0 (Kd.R (Kd.int .u64) 47 w' w.heap.size (fun k_ => some k_ ≠ ((.slice Ao81 t488.length co81) : Value).ownBlock ∧ some k_ ≠ (v492 : Value).ownBlock) (.slice Ao21 x10_1.length co21) x10_1) ∧ Aside0 (Kd.R (Kd.int .u64) 47 w' w.heap.size (fun k_ => some k_ ≠ ((.slice Ao21 x10_1.length co21) : Value).ownBlock ∧ some k_ ≠ (v492 : Value).ownBlock) (.slice Ao81 t488.length co81) t488) ∧ Aside0 (Kd.R (Kd.int .u64) 47 w' w.heap.size (fun k_ => some k_ ≠ ((.slice Ao21 x10_1.length co21) : Value).ownBlock ∧ some k_ ≠ ((.slice Ao81 t488.length co81) : Value).ownBlock) v492 x16_2) ∧ Aside0 (Below w.heap.size w w'))
   case atStart => exact ⟨(y491), (0), uG, H', ⟨Nat.le_refl _⟩, ⟨by (try simp only [hl7_1]); (try simp only [hl10_1]); (with_reducible repeat (first | apply Kd.R_alloc | apply Kd.R_drewN | apply Kd.R_drew)); exact Kd.R_mono HO_10.out (fun _ hk => ⟨hk.1.2, hk.2⟩)⟩, ⟨by (try simp only [hl7_1]); (try simp only [hl10_1]); (with_reducible repeat (first | apply Kd.R_alloc | apply Kd.R_drewN | apply Kd.R_drew)); exact Kd.R_mono HO490.out (fun _ hk => ⟨hk.1.2, hk.2⟩)⟩, ⟨by (try simp only [hl7_1]); (try simp only [hl10_1]); (with_reducible repeat (first | apply Kd.R_alloc | apply Kd.R_drewN | apply Kd.R_drew)); exact Kd.R_mono HO493.out (fun _ hk => ⟨hk.1.2, hk.2⟩)⟩, ⟨uB⟩⟩
   case round =>
    clear H'
    (try clear c1); (try clear c2); (try clear p2 p2); (try clear c3); (try clear c4); (try clear c4b0); (try clear p4 p4); (try clear q4 q4); (try clear hx4); (try clear c5); (try clear c5b0); (try clear p5); (try clear q5); (try clear hx5); (try clear hf5); (try clear p6 p6); (try clear c7); (try clear c8); (try clear c9); (try clear c10); (try clear c11); (try clear c11b0); (try clear c11b1); (try clear c12); (try clear c12b0); (try clear c12b1); (try clear c22); (try clear c22b0); (try clear c24); (try clear c24b0); (try clear c25); (try clear c25b0); (try clear c27); (try clear c27b0); (try clear c28); (try clear c28b0); (try clear c30); (try clear c30b0); (try clear c31); (try clear c31b0); (try clear c33); (try clear c33b0); (try clear c34); (try clear c34b0); (try clear c36); (try clear c36b0); (try clear c37); (try clear c37b0); (try clear c39); (try clear c39b0); (try clear c39b1); (try clear c40); (try clear c40b0); (try clear c40b1); (try clear c41); (try clear c41b0); (try clear c41b1); (try clear c43); (try clear q43 q43); (try clear p44); (try clear q44); (try clear hx44); (try clear p46); (try clear q46); (try clear hx46); (try clear c49); (try clear c49b0); (try clear c51); (try clear c51b0); (try clear c51b1); (try clear c52); (try clear c52b0); (try clear c53); (try clear c53b0); (try clear p54 p54); (try clear q54 q54); (try clear hx54 hx54_0); (try clear hf54); (try clear c55); (try clear p64); (try clear c75); (try clear c77); (try clear c78); (try clear c78b0); (try clear c78b1); (try clear c79); (try clear c79b0); (try clear c79b1); (try clear hx446_0); (try clear hx460_0); (try clear hx461_0); (try clear hx462_0); (try clear hx463_0); (try clear hx464_0); (try clear p446); (try clear p460); (try clear p461); (try clear p462); (try clear p463); (try clear p464); (try clear q043); (try clear q446); (try clear q460); (try clear q461); (try clear q462); (try clear q463); (try clear q464)
    obtain ⟨x16_2, x113_2, rfl, HA, HK2, HO_10, HO_15, HO_16, HB⟩ := hrel
    cases gk with
    | zero => exact absurd HA.out (by simp [nat_long.l2])
    | succ k2 =>
     have H := HA.out
     clear HA
     simp only [nat_long.l2] at H
     by_cases c84 : x113_2 < (t488.length : Int)
     ·
      rw [if_pos c84] at H
      have c84b0 : decide (x113_2 < (t488.length : Int)) = true := decide_eq_true c84
      (try (have c84b0h0 := c84b0; simp only [hl7_1] at c84b0h0))
      (try (have c84b0h1 := c84b0; simp only [hl10_1] at c84b0h1))
      clear c84
      replace H := uT H; obtain ⟨c85, H⟩ := H
      have c85b0 : decide (0 ≤ x113_2) = true := decide_eq_true c85
      clear c85
      replace H := uT H; obtain ⟨c86, H⟩ := H
      have c86b0 : decide (x113_2 < (t488.length : Int)) = true := decide_eq_true c86
      (try (have c86b0h0 := c86b0; simp only [hl7_1] at c86b0h0))
      (try (have c86b0h1 := c86b0; simp only [hl10_1] at c86b0h1))
      clear c86
      obtain ⟨ji87, hji87⟩ : ∃ j_ : Int, (IntKind.u64.wrap (t447)) = j_ := ⟨_, rfl⟩
      first | rw [hji87] at H | simp only [hji87] at H
      replace H := uT H; obtain ⟨c88, H⟩ := H
      have c88b0 := eq_true c88
      have c88b1 : decide (0 ≤ (ji87)) = true := decide_eq_true c88
      clear c88
      obtain ⟨ji89, hji89⟩ : ∃ j_ : Int, (shr .u64 (rd t488 x113_2) (ji87)) = j_ := ⟨_, rfl⟩
      first | rw [hji89] at H | simp only [hji89] at H
      have hji89_ : ((rd t488 x113_2) / 2 ^ min (ji87).toNat 64) = ji89 := hji89
      have hji89z : (ji87) ≤ 64 → ((rd t488 x113_2) / 2 ^ (ji87).toNat) = ji89 := shr_small hji89
      replace H := uT H; obtain ⟨c90, H⟩ := H
      have c90b0 : decide (x113_2 < (x16_2.length : Int)) = true := decide_eq_true c90
      (try (have c90b0h0 := c90b0; simp only [hl7_1] at c90b0h0))
      (try (have c90b0h1 := c90b0; simp only [hl10_1] at c90b0h1))
      clear c90
      obtain ⟨y495, hy495⟩ : ∃ y_ : List Int, y_ = (x16_2.set (x113_2 : Int).toNat (ji89)) := ⟨_, rfl⟩
      replace H : (if (ji87) > 0 then (if (wrap64 (x113_2 + 1)) < (t488.length : Int) then (if 0 ≤ (wrap64 (x113_2 + 1)) then (if 0 ≤ (IntKind.u64.wrap (64 - (ji87))) then (nat_long.l2 k2 (ji87) x10_1 t488 (y495.set (x113_2 : Int).toNat (Go.bits .or .u64 (rd y495 x113_2) (shl .u64 (rd t488 (wrap64 (x113_2 + 1))) (IntKind.u64.wrap (64 - (ji87)))))) (t488.length : Int) (wrap64 (x113_2 + 1))) else (none)) else (none)) else (nat_long.l2 k2 (ji87) x10_1 t488 y495 (t488.length : Int) (wrap64 (x113_2 + 1)))) else (nat_long.l2 k2 (ji87) x10_1 t488 y495 (t488.length : Int) (wrap64 (x113_2 + 1)))) = some (r1, r2) := by first | (rw [hy495]; with_reducible exact H) | (have H2_ := (Option.bind_some _ _).symm.trans H; rw [hy495]; with_reducible exact H2_) | (have H2_ := (Option.bind_some _ _).symm.trans H; with_reducible exact H2_) | with_reducible exact H | (rw [hy495]; exact H) | exact H
      have Ny495 := Aside0.mk hy495; clear hy495
      by_cases c92 : (ji87) > 0
      ·
       rw [if_pos c92] at H
       have c92b0 : decide (0 < (ji87)) = true := decide_eq_true c92
       clear c92
       by_cases c93 : (wrap64 (x113_2 + 1)) < (t488.length : Int)
       ·
        rw [if_pos c93] at H
        have c93b0 : decide ((wrap64 (x113_2 + 1)) < (t488.length : Int)) = true := decide_eq_true c93
        (try (have c93b0h0 := c93b0; simp only [hl7_1] at c93b0h0))
        (try (have c93b0h1 := c93b0; simp only [hl10_1] at c93b0h1))
        clear c93
        obtain ⟨ji94, hji94⟩ : ∃ j_ : Int, (wrap64 (x113_2 + 1)) = j_ := ⟨_, rfl⟩
        first | rw [hji94] at H | simp only [hji94] at H
        (try rw [hji94] at c93b0)
        have hji94w : (IntKind.i64.wrap (x113_2 + 1)) = ji94 := (i64_w _).trans hji94
        replace H := uT H; obtain ⟨c95, H⟩ := H
        have c95b0 : decide (0 ≤ (ji94)) = true := decide_eq_true c95
        clear c95
        obtain ⟨ji96, hji96⟩ : ∃ j_ : Int, (IntKind.u64.wrap (64 - (ji87))) = j_ := ⟨_, rfl⟩
        first | rw [hji96] at H | simp only [hji96] at H
        replace H := uT H; obtain ⟨c97, H⟩ := H
        have c97b0 := eq_true c97
        have c97b1 : decide (0 ≤ (ji96)) = true := decide_eq_true c97
        clear c97
        obtain ⟨ji98, hji98⟩ : ∃ j_ : Int, (shl .u64 (rd t488 (ji94)) (ji96)) = j_ := ⟨_, rfl⟩
        first | rw [hji98] at H | simp only [hji98] at H
        have hji98_ : (IntKind.u64.wrap ((rd t488 (ji94)) * 2 ^ min (ji96).toNat 64)) = ji98 := hji98
        have hji98z : (ji96) ≤ 64 → (IntKind.u64.wrap ((rd t488 (ji94)) * 2 ^ (ji96).toNat)) = ji98 := shl_small hji98
        obtain ⟨y498, hy498⟩ : ∃ y_ : List Int, y_ = (y495.set (x113_2 : Int).toNat (Go.bits .or .u64 (rd y495 x113_2) (ji98))) := ⟨_, rfl⟩
        replace H : (nat_long.l2 k2 (ji87) x10_1 t488 y498 (t488.length : Int) ji94) = some (r1, r2) := by first | (rw [hy498]; with_reducible exact H) | (have H2_ := (Option.bind_some _ _).symm.trans H; rw [hy498]; with_reducible exact H2_) | (have H2_ := (Option.bind_some _ _).symm.trans H; with_reducible exact H2_) | with_reducible exact H | (rw [hy498]; exact H) | exact H
        have Ny498 := Aside0.mk hy498; clear hy498
        have H' := Aside0.mk H
        clear H
        have p494 : 0 ≤ (x113_2 : Int) := uO
        have q494 : x113_2 < (t488.length : Int) := uO
        obtain ⟨ad494, e494, hx494_0⟩ := Kd.at_int (Kd.R_reads' HO_15.out).2.2 x113_2 p494 q494
        cases e494
        replace p494 := eq_true p494
        replace q494 := eq_true q494
        have p91 : 0 ≤ (x113_2 : Int) := uO
        have q91 : (x113_2 : Int) < ((x16_2.length : Int) : Int) := uO
        obtain ⟨go91, co91, eo91, gb91, gl91, cl91, HG91⟩ := Kd.R_form HO_16.out (by omega)
        (first | cases eo91 | (injection eo91 with ea_ en_ ec_; (first | subst ea_ | (injection ea_ with ea_; subst ea_)); subst ec_; clear en_))
        have GB91 := Aside0.mk gb91; have GG91 := Aside0.mk HG91; clear gb91 gl91 HG91
        obtain ⟨hx91_0, hf91_0⟩ := Kd.R_celln 0 HO_16.out (x113_2 : Int) p91 q91
        replace p91 := eq_true p91
        replace q91 := eq_true q91
        have HP100 := Kd.R_putg HO_16.out (x113_2 : Int) ji89
        try go_wp2_with (first | ((with_reducible refine gate_store (t := 47) (p := 124) rfl ?_); refine store_event (t := 47) (p := 124) (v := ?vo_w101) (w1 := (wr.setCell ⟨go91, (x113_2 : Int).toNat, none⟩ (.int .u64 ji89))) ?hg ?ho ?hn ?hr ?_; (case ho => rfl); (case hg => rfl); (case hn => rfl); (case hr => first | (go_simp; done) | (go_simp; rfl) | (obtain ⟨hy_, hz_⟩ := Kd.R_celln 0 HO_16.out (x113_2 : Int) uO uO; (try simp only [Go.IntWalk.toNatUp] at hy_ hz_); (try simp only [Int.reduceToNat, Int.toNat_zero, Int.toNat_ofNat] at hy_ hz_); first | (go_simp; done) | (go_simp; rfl))); intro w101 hw; have hg : wr.grownBy w101 (some go91) := (by rw [hw]; exact HP100.2); have hp_ : Kd.R (Kd.int .u64) 47 w101 w.heap.size (fun k_ => some k_ ≠ (.slice Ao21 x10_1.length co21 : Value).ownBlock ∧ some k_ ≠ (.slice (some ad494) t488.length co81 : Value).ownBlock) (.slice (some ⟨go91, 0, none⟩) x16_2.length co91) y495 := (by rw [hw, Ny495.out]; exact HP100.1); clear HP100; replace HO_10 := Aside0.mk (Kd.R_after (v := (.slice (some ⟨go91, 0, none⟩) x16_2.length co91)) (v1 := (.slice (some ⟨go91, 0, none⟩) x16_2.length co91)) (ok := (fun k_ => some k_ ≠ (.slice (some ad494) t488.length co81 : Value).ownBlock)) (uR HO_10.out) hg (.inl rfl)); replace HO_15 := Aside0.mk (Kd.R_after (v := (.slice (some ⟨go91, 0, none⟩) x16_2.length co91)) (v1 := (.slice (some ⟨go91, 0, none⟩) x16_2.length co91)) (ok := (fun k_ => some k_ ≠ (.slice Ao21 x10_1.length co21 : Value).ownBlock)) (uR HO_15.out) hg (.inl rfl)); replace HO_16 := Aside0.mk (hp_); replace HB := Aside0.mk ((by rw [hw]; exact below_set (HB.out) GB91.out : Below w.heap.size w w101)); clear hg hw hp_))
        replace HO_10 := Aside0.mk (Kd.R_drew HO_10.out); replace HO_15 := Aside0.mk (Kd.R_drew HO_15.out); replace HO_16 := Aside0.mk (Kd.R_drew HO_16.out); replace HB := Aside0.mk (below_drew1 HB.out)
        have p496 : 0 ≤ (x113_2 : Int) := uO
        have q496 : x113_2 < (y495.length : Int) := (by have h_ : (x113_2 : Int) < ((x16_2.length : Int) : Int) := uO; first | (have e_ := (Kd.R_reads' HO_16.out).1; omega) | simpa only [Ny495.out, List.length_set] using h_)
        have ql496 : ((x113_2 : Int) < ((x16_2.length : Int) : Int)) = True := eq_true uO
        obtain ⟨ad496, e496, hx496_0⟩ := Kd.at_int (Kd.R_reads' HO_16.out).2.2 x113_2 p496 q496
        obtain rfl : (⟨go91, 0, none⟩ : Addr) = ad496 := (by injection e496)
        (first | simp only [add_plain] at hx496_0 | simp only [add_at] at hx496_0 | simp only [Addr.add, Nat.zero_add] at hx496_0 | skip)
        replace p496 := eq_true p496
        replace q496 := eq_true q496
        have p497 : 0 ≤ ((ji94) : Int) := uO
        have q497 : (ji94) < (t488.length : Int) := uO
        obtain ⟨ad497, e497, hx497_0⟩ := Kd.at_int (Kd.R_reads' HO_15.out).2.2 (ji94) p497 q497
        obtain rfl : ad494 = ad497 := (by injection e497)
        replace p497 := eq_true p497
        replace q497 := eq_true q497
        have p99 : 0 ≤ (x113_2 : Int) := uO
        have q99 : (x113_2 : Int) < ((x16_2.length : Int) : Int) := uO
        obtain ⟨hx99_0, hf99_0⟩ := Kd.R_celln 0 HO_16.out (x113_2 : Int) p99 q99
        replace p99 := eq_true p99
        replace q99 := eq_true q99
        have HP103 := Kd.R_putn HO_16.out (x113_2 : Int) (Go.bits .or .u64 (rd y495 x113_2) (ji98))
        rw [← Ny498.out] at HP103
        have HQ103 := Aside0.mk HP103; clear HP103
        refine start_ (n := 15) (S := fun w' => w'.cell? ⟨go91, (x113_2).toNat, none⟩ = some (.int .u64 (rd y495 x113_2)) ∧ w'.cell? (ad494.add ((ji94)).toNat) = some (.int .u64 (rd t488 (ji94)))) (ds := [14]) #[false,false,false,false,false,false,false,false,false,false,false,false,false,false,false] (by kernel_rfl) rfl rfl ⟨hx496_0, hx497_0⟩ (fun hHeld => ?_); refine with_tabW nat_long.tab22 nat_long.bits22 (fun HT_ HW_ => ?_)
        generalize w101.drew = w102 at HO_10 HO_15 HO_16 HB HQ103 hf99_0 hx496_0 hx497_0 hx99_0 hHeld ⊢
        refine pure_ (i := 0) (N := some 134) (v := ?_) (a' := ?_) #[true,false,false,false,false,false,false,false,false,false,false,false,false,false,false] rfl rfl (any_of HT_.out (by kernel_rfl)) (fun _ _ _ h => h) (Or.inl ⟨by rfl, ?_⟩) ?_ ?_
        rotate_left
        ·
         intro w'
         go_simp
         with_reducible rfl
        rotate_left
        · exact uQ
        refine pure_ (i := 1) (N := some 135) (v := ?_) (a' := ?_) #[true,true,false,false,false,false,false,false,false,false,false,false,false,false,false] rfl rfl (any_of HT_.out (by kernel_rfl)) (fun _ _ _ h => h) (Or.inl ⟨by rfl, ?_⟩) ?_ ?_
        rotate_left
        ·
         intro w'
         go_simp
         with_reducible rfl
        rotate_left
        · exact uQ
        refine pure_ (i := 2) (N := some 136) (v := ?_) (a' := ?_) #[true,true,true,false,false,false,false,false,false,false,false,false,false,false,false] rfl rfl (any_of HT_.out (by kernel_rfl)) (fun _ _ _ h => h) (Or.inl ⟨by rfl, ?_⟩) ?_ ?_
        rotate_left
        ·
         intro w'
         go_simp
         with_reducible rfl
        rotate_left
        · exact uQ
        refine pure_ (i := 4) (N := some 138) (v := ?_) (a' := ?_) #[true,true,true,false,true,false,false,false,false,false,false,false,false,false,false] rfl rfl (any_of HT_.out (by kernel_rfl)) (fun _ _ _ h => h) (Or.inl ⟨by rfl, ?_⟩) ?_ ?_
        rotate_left
        ·
         intro w'
         go_simp
         with_reducible rfl
        rotate_left
        · exact uQ
        refine pure_ (i := 5) (N := some 139) (v := ?_) (a' := ?_) #[true,true,true,false,true,true,false,false,false,false,false,false,false,false,false] rfl rfl (any_of HT_.out (by kernel_rfl)) (fun _ _ _ h => h) (Or.inl ⟨by rfl, ?_⟩) ?_ ?_
        rotate_left
        ·
         intro w'
         go_simp
         with_reducible rfl
        rotate_left
        · exact uQ
        refine pure_ (i := 6) (N := some 140) (v := ?_) (a' := ?_) #[true,true,true,false,true,true,true,false,false,false,false,false,false,false,false] rfl rfl (any_of HT_.out (by kernel_rfl)) (fun _ _ _ h => h) (Or.inl ⟨by rfl, ?_⟩) ?_ ?_
        rotate_left
        ·
         intro w'
         go_simp
         with_reducible rfl
        rotate_left
        · exact uQ
        refine pure_ (i := 7) (N := some 141) (v := ?_) (a' := ?_) #[true,true,true,false,true,true,true,true,false,false,false,false,false,false,false] rfl rfl (any_of HT_.out (by kernel_rfl)) (fun _ _ _ h => h) (Or.inl ⟨by rfl, ?_⟩) ?_ ?_
        rotate_left
        ·
         intro w'
         go_simp
         with_reducible rfl
        rotate_left
        · exact uQ
        refine pure_ (i := 9) (N := some 143) (v := ?_) (a' := ?_) #[true,true,true,false,true,true,true,true,false,true,false,false,false,false,false] rfl rfl (any_of HT_.out (by kernel_rfl)) (fun _ _ _ h => h) (Or.inl ⟨by rfl, ?_⟩) ?_ ?_
        rotate_left
        ·
         intro w'
         go_simp
         with_reducible rfl
        rotate_left
        · exact uQ
        refine pure_ (i := 10) (N := some 144) (v := ?_) (a' := ?_) #[true,true,true,false,true,true,true,true,false,true,true,false,false,false,false] rfl rfl (any_of HT_.out (by kernel_rfl)) (fun _ _ _ h => h) (Or.inl ⟨by rfl, ?_⟩) ?_ ?_
        rotate_left
        ·
         intro w'
         go_simp
         with_reducible rfl
        rotate_left
        · exact uQ
        refine take_ (i := 3) (N := some 137) (v := ?_) (a' := ?_) #[true,true,true,true,true,true,true,true,false,true,true,false,false,false,false] rfl rfl (take_ofW HT_.out HW_.out (by kernel_rfl)) (fun _ _ _ h => h) (Or.inl ⟨by rfl, ?_⟩) hHeld ?_ ?_
        rotate_left
        ·
         rintro w' ⟨s0, s1⟩
         go_simp
         with_reducible rfl
        rotate_left
        · exact uQ
        refine take_ (i := 8) (N := some 142) (v := ?_) (a' := ?_) #[true,true,true,true,true,true,true,true,true,true,true,false,false,false,false] rfl rfl (take_ofW HT_.out HW_.out (by kernel_rfl)) (fun _ _ _ h => h) (Or.inl ⟨by rfl, ?_⟩) hHeld ?_ ?_
        rotate_left
        ·
         rintro w' ⟨s0, s1⟩
         go_simp
         with_reducible rfl
        rotate_left
        · exact uQ
        refine pure_ (i := 11) (N := some 145) (v := ?_) (a' := ?_) #[true,true,true,true,true,true,true,true,true,true,true,true,false,false,false] rfl rfl (any_of HT_.out (by kernel_rfl)) (fun _ _ _ h => h) (Or.inl ⟨by rfl, ?_⟩) ?_ ?_
        rotate_left
        ·
         intro w'
         go_simp
         with_reducible rfl
        rotate_left
        · exact uQ
        refine pure_ (i := 12) (N := some 146) (v := ?_) (a' := ?_) #[true,true,true,true,true,true,true,true,true,true,true,true,true,false,false] rfl rfl (any_of HT_.out (by kernel_rfl)) (fun _ _ _ h => h) (Or.inl ⟨by rfl, ?_⟩) ?_ ?_
        rotate_left
        ·
         intro w'
         go_simp
         with_reducible rfl
        rotate_left
        · exact uQ
        refine pure_ (i := 13) (N := some 147) (v := ?_) (a' := ?_) #[true,true,true,true,true,true,true,true,true,true,true,true,true,true,false] rfl rfl (any_of HT_.out (by kernel_rfl)) (fun _ _ _ h => h) (Or.inl ⟨by rfl, ?_⟩) ?_ ?_
        rotate_left
        ·
         intro w'
         go_simp
         with_reducible rfl
        rotate_left
        · exact uQ
        refine last_ (i := 14) (N := none) #[true,true,true,true,true,true,true,true,true,true,true,true,true,true,true] rfl rfl (one_of HT_.out (by kernel_rfl)) (by decide) (fun K hK => ?_)
        refine skip_ (w1 := ?_) (by rfl) rfl ?_ ?_
        rotate_left
        ·
         go_simp
         rfl
        refine hK.out _ _ ?_; clear hK K
        refine done_ (done_of HT_.out (by kernel_rfl)) ?_
        try go_wp2
        first | go_roundg k2 | ((try simp only [← hji98] at H'); simp only [← hji98]; go_roundg k2) | ((try simp only [← hji96] at H'); simp only [← hji96]; go_roundg k2) | ((try simp only [← hji94] at H'); simp only [← hji94]; go_roundg k2) | ((try simp only [← hji89] at H'); simp only [← hji89]; go_roundg k2) | ((try simp only [← hji87] at H'); simp only [← hji87]; go_roundg k2) | ((try simp only [← hji35] at H'); simp only [← hji35]; go_roundg k2)
        case measure => have := HK1.out; have := HK2.out; omega
        case rel => first | exact ⟨(y498), (ji94), (by first | rfl | (simp; done) | (simp only [← hji94] <;> (first | rfl | simp)) | (simp [*]; done)), H', ⟨by have := HK1.out; have := HK2.out; omega⟩, ⟨by (try simp only [hl7_1]); (try simp only [hl10_1]); (with_reducible repeat (first | apply Kd.R_alloc | apply Kd.R_drewN | apply Kd.R_drew)); exact Kd.R_mono (Kd.R_far (p := ⟨go91, (x113_2 : Int).toNat, none⟩) (Kd.R_mono HO_10.out (fun k_ hk => (⟨hk, fun e_ => hk.2 (by rw [e_]; rfl)⟩ : _ ∧ k_ ≠ go91))) (fun _ hk => hk.2) (.int .u64 (Go.bits .or .u64 (rd y495 x113_2) (ji98)))) (fun _ hk => ⟨hk.1.1, hk.1.2⟩)⟩, ⟨by (try simp only [hl7_1]); (try simp only [hl10_1]); (with_reducible repeat (first | apply Kd.R_alloc | apply Kd.R_drewN | apply Kd.R_drew)); exact Kd.R_mono (Kd.R_far (p := ⟨go91, (x113_2 : Int).toNat, none⟩) (Kd.R_mono HO_15.out (fun k_ hk => (⟨hk, fun e_ => hk.2 (by rw [e_]; rfl)⟩ : _ ∧ k_ ≠ go91))) (fun _ hk => hk.2) (.int .u64 (Go.bits .or .u64 (rd y495 x113_2) (ji98)))) (fun _ hk => ⟨hk.1.1, hk.1.2⟩)⟩, ⟨by (try simp only [hl7_1]); (try simp only [hl10_1]); (with_reducible repeat (first | apply Kd.R_alloc | apply Kd.R_drewN | apply Kd.R_drew)); exact HQ103.out⟩, ⟨uB⟩⟩ | (simp only [← hji98] at H'; exact ⟨(y498), (ji94), (by first | rfl | (simp; done) | (simp only [← hji94] <;> (first | rfl | simp)) | (simp [*]; done)), H', ⟨by have := HK1.out; have := HK2.out; omega⟩, ⟨by (try simp only [hl7_1]); (try simp only [hl10_1]); (with_reducible repeat (first | apply Kd.R_alloc | apply Kd.R_drewN | apply Kd.R_drew)); exact Kd.R_mono (Kd.R_far (p := ⟨go91, (x113_2 : Int).toNat, none⟩) (Kd.R_mono HO_10.out (fun k_ hk => (⟨hk, fun e_ => hk.2 (by rw [e_]; rfl)⟩ : _ ∧ k_ ≠ go91))) (fun _ hk => hk.2) (.int .u64 (Go.bits .or .u64 (rd y495 x113_2) (ji98)))) (fun _ hk => ⟨hk.1.1, hk.1.2⟩)⟩, ⟨by (try simp only [hl7_1]); (try simp only [hl10_1]); (with_reducible repeat (first | apply Kd.R_alloc | apply Kd.R_drewN | apply Kd.R_drew)); exact Kd.R_mono (Kd.R_far (p := ⟨go91, (x113_2 : Int).toNat, none⟩) (Kd.R_mono HO_15.out (fun k_ hk => (⟨hk, fun e_ => hk.2 (by rw [e_]; rfl)⟩ : _ ∧ k_ ≠ go91))) (fun _ hk => hk.2) (.int .u64 (Go.bits .or .u64 (rd y495 x113_2) (ji98)))) (fun _ hk => ⟨hk.1.1, hk.1.2⟩)⟩, ⟨by (try simp only [hl7_1]); (try simp only [hl10_1]); (with_reducible repeat (first | apply Kd.R_alloc | apply Kd.R_drewN | apply Kd.R_drew)); exact HQ103.out⟩, ⟨uB⟩⟩) | (simp only [← hji96] at H'; exact ⟨(y498), (ji94), (by first | rfl | (simp; done) | (simp only [← hji94] <;> (first | rfl | simp)) | (simp [*]; done)), H', ⟨by have := HK1.out; have := HK2.out; omega⟩, ⟨by (try simp only [hl7_1]); (try simp only [hl10_1]); (with_reducible repeat (first | apply Kd.R_alloc | apply Kd.R_drewN | apply Kd.R_drew)); exact Kd.R_mono (Kd.R_far (p := ⟨go91, (x113_2 : Int).toNat, none⟩) (Kd.R_mono HO_10.out (fun k_ hk => (⟨hk, fun e_ => hk.2 (by rw [e_]; rfl)⟩ : _ ∧ k_ ≠ go91))) (fun _ hk => hk.2) (.int .u64 (Go.bits .or .u64 (rd y495 x113_2) (ji98)))) (fun _ hk => ⟨hk.1.1, hk.1.2⟩)⟩, ⟨by (try simp only [hl7_1]); (try simp only [hl10_1]); (with_reducible repeat (first | apply Kd.R_alloc | apply Kd.R_drewN | apply Kd.R_drew)); exact Kd.R_mono (Kd.R_far (p := ⟨go91, (x113_2 : Int).toNat, none⟩) (Kd.R_mono HO_15.out (fun k_ hk => (⟨hk, fun e_ => hk.2 (by rw [e_]; rfl)⟩ : _ ∧ k_ ≠ go91))) (fun _ hk => hk.2) (.int .u64 (Go.bits .or .u64 (rd y495 x113_2) (ji98)))) (fun _ hk => ⟨hk.1.1, hk.1.2⟩)⟩, ⟨by (try simp only [hl7_1]); (try simp only [hl10_1]); (with_reducible repeat (first | apply Kd.R_alloc | apply Kd.R_drewN | apply Kd.R_drew)); exact HQ103.out⟩, ⟨uB⟩⟩) | (simp only [← hji94] at H'; exact ⟨(y498), (ji94), (by first | rfl | (simp; done) | (simp only [← hji94] <;> (first | rfl | simp)) | (simp [*]; done)), H', ⟨by have := HK1.out; have := HK2.out; omega⟩, ⟨by (try simp only [hl7_1]); (try simp only [hl10_1]); (with_reducible repeat (first | apply Kd.R_alloc | apply Kd.R_drewN | apply Kd.R_drew)); exact Kd.R_mono (Kd.R_far (p := ⟨go91, (x113_2 : Int).toNat, none⟩) (Kd.R_mono HO_10.out (fun k_ hk => (⟨hk, fun e_ => hk.2 (by rw [e_]; rfl)⟩ : _ ∧ k_ ≠ go91))) (fun _ hk => hk.2) (.int .u64 (Go.bits .or .u64 (rd y495 x113_2) (ji98)))) (fun _ hk => ⟨hk.1.1, hk.1.2⟩)⟩, ⟨by (try simp only [hl7_1]); (try simp only [hl10_1]); (with_reducible repeat (first | apply Kd.R_alloc | apply Kd.R_drewN | apply Kd.R_drew)); exact Kd.R_mono (Kd.R_far (p := ⟨go91, (x113_2 : Int).toNat, none⟩) (Kd.R_mono HO_15.out (fun k_ hk => (⟨hk, fun e_ => hk.2 (by rw [e_]; rfl)⟩ : _ ∧ k_ ≠ go91))) (fun _ hk => hk.2) (.int .u64 (Go.bits .or .u64 (rd y495 x113_2) (ji98)))) (fun _ hk => ⟨hk.1.1, hk.1.2⟩)⟩, ⟨by (try simp only [hl7_1]); (try simp only [hl10_1]); (with_reducible repeat (first | apply Kd.R_alloc | apply Kd.R_drewN | apply Kd.R_drew)); exact HQ103.out⟩, ⟨uB⟩⟩) | (simp only [← hji89] at H'; exact ⟨(y498), (ji94), (by first | rfl | (simp; done) | (simp only [← hji94] <;> (first | rfl | simp)) | (simp [*]; done)), H', ⟨by have := HK1.out; have := HK2.out; omega⟩, ⟨by (try simp only [hl7_1]); (try simp only [hl10_1]); (with_reducible repeat (first | apply Kd.R_alloc | apply Kd.R_drewN | apply Kd.R_drew)); exact Kd.R_mono (Kd.R_far (p := ⟨go91, (x113_2 : Int).toNat, none⟩) (Kd.R_mono HO_10.out (fun k_ hk => (⟨hk, fun e_ => hk.2 (by rw [e_]; rfl)⟩ : _ ∧ k_ ≠ go91))) (fun _ hk => hk.2) (.int .u64 (Go.bits .or .u64 (rd y495 x113_2) (ji98)))) (fun _ hk => ⟨hk.1.1, hk.1.2⟩)⟩, ⟨by (try simp only [hl7_1]); (try simp only [hl10_1]); (with_reducible repeat (first | apply Kd.R_alloc | apply Kd.R_drewN | apply Kd.R_drew)); exact Kd.R_mono (Kd.R_far (p := ⟨go91, (x113_2 : Int).toNat, none⟩) (Kd.R_mono HO_15.out (fun k_ hk => (⟨hk, fun e_ => hk.2 (by rw [e_]; rfl)⟩ : _ ∧ k_ ≠ go91))) (fun _ hk => hk.2) (.int .u64 (Go.bits .or .u64 (rd y495 x113_2) (ji98)))) (fun _ hk => ⟨hk.1.1, hk.1.2⟩)⟩, ⟨by (try simp only [hl7_1]); (try simp only [hl10_1]); (with_reducible repeat (first | apply Kd.R_alloc | apply Kd.R_drewN | apply Kd.R_drew)); exact HQ103.out⟩, ⟨uB⟩⟩) | (simp only [← hji87] at H'; exact ⟨(y498), (ji94), (by first | rfl | (simp; done) | (simp only [← hji94] <;> (first | rfl | simp)) | (simp [*]; done)), H', ⟨by have := HK1.out; have := HK2.out; omega⟩, ⟨by (try simp only [hl7_1]); (try simp only [hl10_1]); (with_reducible repeat (first | apply Kd.R_alloc | apply Kd.R_drewN | apply Kd.R_drew)); exact Kd.R_mono (Kd.R_far (p := ⟨go91, (x113_2 : Int).toNat, none⟩) (Kd.R_mono HO_10.out (fun k_ hk => (⟨hk, fun e_ => hk.2 (by rw [e_]; rfl)⟩ : _ ∧ k_ ≠ go91))) (fun _ hk => hk.2) (.int .u64 (Go.bits .or .u64 (rd y495 x113_2) (ji98)))) (fun _ hk => ⟨hk.1.1, hk.1.2⟩)⟩, ⟨by (try simp only [hl7_1]); (try simp only [hl10_1]); (with_reducible repeat (first | apply Kd.R_alloc | apply Kd.R_drewN | apply Kd.R_drew)); exact Kd.R_mono (Kd.R_far (p := ⟨go91, (x113_2 : Int).toNat, none⟩) (Kd.R_mono HO_15.out (fun k_ hk => (⟨hk, fun e_ => hk.2 (by rw [e_]; rfl)⟩ : _ ∧ k_ ≠ go91))) (fun _ hk => hk.2) (.int .u64 (Go.bits .or .u64 (rd y495 x113_2) (ji98)))) (fun _ hk => ⟨hk.1.1, hk.1.2⟩)⟩, ⟨by (try simp only [hl7_1]); (try simp only [hl10_1]); (with_reducible repeat (first | apply Kd.R_alloc | apply Kd.R_drewN | apply Kd.R_drew)); exact HQ103.out⟩, ⟨uB⟩⟩) | (simp only [← hji35] at H'; exact ⟨(y498), (ji94), (by first | rfl | (simp; done) | (simp only [← hji94] <;> (first | rfl | simp)) | (simp [*]; done)), H', ⟨by have := HK1.out; have := HK2.out; omega⟩, ⟨by (try simp only [hl7_1]); (try simp only [hl10_1]); (with_reducible repeat (first | apply Kd.R_alloc | apply Kd.R_drewN | apply Kd.R_drew)); exact Kd.R_mono (Kd.R_far (p := ⟨go91, (x113_2 : Int).toNat, none⟩) (Kd.R_mono HO_10.out (fun k_ hk => (⟨hk, fun e_ => hk.2 (by rw [e_]; rfl)⟩ : _ ∧ k_ ≠ go91))) (fun _ hk => hk.2) (.int .u64 (Go.bits .or .u64 (rd y495 x113_2) (ji98)))) (fun _ hk => ⟨hk.1.1, hk.1.2⟩)⟩, ⟨by (try simp only [hl7_1]); (try simp only [hl10_1]); (with_reducible repeat (first | apply Kd.R_alloc | apply Kd.R_drewN | apply Kd.R_drew)); exact Kd.R_mono (Kd.R_far (p := ⟨go91, (x113_2 : Int).toNat, none⟩) (Kd.R_mono HO_15.out (fun k_ hk => (⟨hk, fun e_ => hk.2 (by rw [e_]; rfl)⟩ : _ ∧ k_ ≠ go91))) (fun _ hk => hk.2) (.int .u64 (Go.bits .or .u64 (rd y495 x113_2) (ji98)))) (fun _ hk => ⟨hk.1.1, hk.1.2⟩)⟩, ⟨by (try simp only [hl7_1]); (try simp only [hl10_1]); (with_reducible repeat (first | apply Kd.R_alloc | apply Kd.R_drewN | apply Kd.R_drew)); exact HQ103.out⟩, ⟨uB⟩⟩)
       rw [if_neg c93] at H
       have c93b0 : decide ((wrap64 (x113_2 + 1)) < (t488.length : Int)) = false := decide_eq_false c93
       (try (have c93b0h0 := c93b0; simp only [hl7_1] at c93b0h0))
       (try (have c93b0h1 := c93b0; simp only [hl10_1] at c93b0h1))
       clear c93
       have H' := Aside0.mk H
       clear H
       have p494 : 0 ≤ (x113_2 : Int) := uO
       have q494 : x113_2 < (t488.length : Int) := uO
       obtain ⟨ad494, e494, hx494_0⟩ := Kd.at_int (Kd.R_reads' HO_15.out).2.2 x113_2 p494 q494
       cases e494
       replace p494 := eq_true p494
       replace q494 := eq_true q494
       have p91 : 0 ≤ (x113_2 : Int) := uO
       have q91 : (x113_2 : Int) < ((x16_2.length : Int) : Int) := uO
       obtain ⟨go91, co91, eo91, gb91, gl91, cl91, HG91⟩ := Kd.R_form HO_16.out (by omega)
       (first | cases eo91 | (injection eo91 with ea_ en_ ec_; (first | subst ea_ | (injection ea_ with ea_; subst ea_)); subst ec_; clear en_))
       have GB91 := Aside0.mk gb91; have GG91 := Aside0.mk HG91; clear gb91 gl91 HG91
       obtain ⟨hx91_0, hf91_0⟩ := Kd.R_celln 0 HO_16.out (x113_2 : Int) p91 q91
       replace p91 := eq_true p91
       replace q91 := eq_true q91
       have HP104 := Kd.R_putg HO_16.out (x113_2 : Int) ji89
       go_wp2_with (first | ((with_reducible refine gate_store (t := 47) (p := 124) rfl ?_); refine store_event (t := 47) (p := 124) (v := ?vo_w105) (w1 := (wr.setCell ⟨go91, (x113_2 : Int).toNat, none⟩ (.int .u64 ji89))) ?hg ?ho ?hn ?hr ?_; (case ho => rfl); (case hg => rfl); (case hn => rfl); (case hr => first | (go_simp; done) | (go_simp; rfl) | (obtain ⟨hy_, hz_⟩ := Kd.R_celln 0 HO_16.out (x113_2 : Int) uO uO; (try simp only [Go.IntWalk.toNatUp] at hy_ hz_); (try simp only [Int.reduceToNat, Int.toNat_zero, Int.toNat_ofNat] at hy_ hz_); first | (go_simp; done) | (go_simp; rfl))); intro w105 hw; have hg : wr.grownBy w105 (some go91) := (by rw [hw]; exact HP104.2); have hp_ : Kd.R (Kd.int .u64) 47 w105 w.heap.size (fun k_ => some k_ ≠ (.slice Ao21 x10_1.length co21 : Value).ownBlock ∧ some k_ ≠ (.slice (some ad494) t488.length co81 : Value).ownBlock) (.slice (some ⟨go91, 0, none⟩) x16_2.length co91) y495 := (by rw [hw, Ny495.out]; exact HP104.1); clear HP104; replace HO_10 := Aside0.mk (Kd.R_after (v := (.slice (some ⟨go91, 0, none⟩) x16_2.length co91)) (v1 := (.slice (some ⟨go91, 0, none⟩) x16_2.length co91)) (ok := (fun k_ => some k_ ≠ (.slice (some ad494) t488.length co81 : Value).ownBlock)) (uR HO_10.out) hg (.inl rfl)); replace HO_15 := Aside0.mk (Kd.R_after (v := (.slice (some ⟨go91, 0, none⟩) x16_2.length co91)) (v1 := (.slice (some ⟨go91, 0, none⟩) x16_2.length co91)) (ok := (fun k_ => some k_ ≠ (.slice Ao21 x10_1.length co21 : Value).ownBlock)) (uR HO_15.out) hg (.inl rfl)); replace HO_16 := Aside0.mk (hp_); replace HB := Aside0.mk ((by rw [hw]; exact below_set (HB.out) GB91.out : Below w.heap.size w w105)); clear hg hw hp_))
       first | go_roundg k2 | ((try simp only [← hji98] at H'); simp only [← hji98]; go_roundg k2) | ((try simp only [← hji96] at H'); simp only [← hji96]; go_roundg k2) | ((try simp only [← hji94] at H'); simp only [← hji94]; go_roundg k2) | ((try simp only [← hji89] at H'); simp only [← hji89]; go_roundg k2) | ((try simp only [← hji87] at H'); simp only [← hji87]; go_roundg k2) | ((try simp only [← hji35] at H'); simp only [← hji35]; go_roundg k2)
       case measure => have := HK1.out; have := HK2.out; omega
       case rel => first | exact ⟨(y495), (wrap64 (x113_2 + 1)), uG, H', ⟨by have := HK1.out; have := HK2.out; omega⟩, ⟨by (try simp only [hl7_1]); (try simp only [hl10_1]); (with_reducible repeat (first | apply Kd.R_alloc | apply Kd.R_drewN | apply Kd.R_drew)); exact HO_10.out⟩, ⟨by (try simp only [hl7_1]); (try simp only [hl10_1]); (with_reducible repeat (first | apply Kd.R_alloc | apply Kd.R_drewN | apply Kd.R_drew)); exact HO_15.out⟩, ⟨by (try simp only [hl7_1]); (try simp only [hl10_1]); (with_reducible repeat (first | apply Kd.R_alloc | apply Kd.R_drewN | apply Kd.R_drew)); exact HO_16.out⟩, ⟨uB⟩⟩ | (simp only [← hji98] at H'; exact ⟨(y495), (wrap64 (x113_2 + 1)), uG, H', ⟨by have := HK1.out; have := HK2.out; omega⟩, ⟨by (try simp only [hl7_1]); (try simp only [hl10_1]); (with_reducible repeat (first | apply Kd.R_alloc | apply Kd.R_drewN | apply Kd.R_drew)); exact HO_10.out⟩, ⟨by (try simp only [hl7_1]); (try simp only [hl10_1]); (with_reducible repeat (first | apply Kd.R_alloc | apply Kd.R_drewN | apply Kd.R_drew)); exact HO_15.out⟩, ⟨by (try simp only [hl7_1]); (try simp only [hl10_1]); (with_reducible repeat (first | apply Kd.R_alloc | apply Kd.R_drewN | apply Kd.R_drew)); exact HO_16.out⟩, ⟨uB⟩⟩) | (simp only [← hji96] at H'; exact ⟨(y495), (wrap64 (x113_2 + 1)), uG, H', ⟨by have := HK1.out; have := HK2.out; omega⟩, ⟨by (try simp only [hl7_1]); (try simp only [hl10_1]); (with_reducible repeat (first | apply Kd.R_alloc | apply Kd.R_drewN | apply Kd.R_drew)); exact HO_10.out⟩, ⟨by (try simp only [hl7_1]); (try simp only [hl10_1]); (with_reducible repeat (first | apply Kd.R_alloc | apply Kd.R_drewN | apply Kd.R_drew)); exact HO_15.out⟩, ⟨by (try simp only [hl7_1]); (try simp only [hl10_1]); (with_reducible repeat (first | apply Kd.R_alloc | apply Kd.R_drewN | apply Kd.R_drew)); exact HO_16.out⟩, ⟨uB⟩⟩) | (simp only [← hji94] at H'; exact ⟨(y495), (wrap64 (x113_2 + 1)), uG, H', ⟨by have := HK1.out; have := HK2.out; omega⟩, ⟨by (try simp only [hl7_1]); (try simp only [hl10_1]); (with_reducible repeat (first | apply Kd.R_alloc | apply Kd.R_drewN | apply Kd.R_drew)); exact HO_10.out⟩, ⟨by (try simp only [hl7_1]); (try simp only [hl10_1]); (with_reducible repeat (first | apply Kd.R_alloc | apply Kd.R_drewN | apply Kd.R_drew)); exact HO_15.out⟩, ⟨by (try simp only [hl7_1]); (try simp only [hl10_1]); (with_reducible repeat (first | apply Kd.R_alloc | apply Kd.R_drewN | apply Kd.R_drew)); exact HO_16.out⟩, ⟨uB⟩⟩) | (simp only [← hji89] at H'; exact ⟨(y495), (wrap64 (x113_2 + 1)), uG, H', ⟨by have := HK1.out; have := HK2.out; omega⟩, ⟨by (try simp only [hl7_1]); (try simp only [hl10_1]); (with_reducible repeat (first | apply Kd.R_alloc | apply Kd.R_drewN | apply Kd.R_drew)); exact HO_10.out⟩, ⟨by (try simp only [hl7_1]); (try simp only [hl10_1]); (with_reducible repeat (first | apply Kd.R_alloc | apply Kd.R_drewN | apply Kd.R_drew)); exact HO_15.out⟩, ⟨by (try simp only [hl7_1]); (try simp only [hl10_1]); (with_reducible repeat (first | apply Kd.R_alloc | apply Kd.R_drewN | apply Kd.R_drew)); exact HO_16.out⟩, ⟨uB⟩⟩) | (simp only [← hji87] at H'; exact ⟨(y495), (wrap64 (x113_2 + 1)), uG, H', ⟨by have := HK1.out; have := HK2.out; omega⟩, ⟨by (try simp only [hl7_1]); (try simp only [hl10_1]); (with_reducible repeat (first | apply Kd.R_alloc | apply Kd.R_drewN | apply Kd.R_drew)); exact HO_10.out⟩, ⟨by (try simp only [hl7_1]); (try simp only [hl10_1]); (with_reducible repeat (first | apply Kd.R_alloc | apply Kd.R_drewN | apply Kd.R_drew)); exact HO_15.out⟩, ⟨by (try simp only [hl7_1]); (try simp only [hl10_1]); (with_reducible repeat (first | apply Kd.R_alloc | apply Kd.R_drewN | apply Kd.R_drew)); exact HO_16.out⟩, ⟨uB⟩⟩) | (simp only [← hji35] at H'; exact ⟨(y495), (wrap64 (x113_2 + 1)), uG, H', ⟨by have := HK1.out; have := HK2.out; omega⟩, ⟨by (try simp only [hl7_1]); (try simp only [hl10_1]); (with_reducible repeat (first | apply Kd.R_alloc | apply Kd.R_drewN | apply Kd.R_drew)); exact HO_10.out⟩, ⟨by (try simp only [hl7_1]); (try simp only [hl10_1]); (with_reducible repeat (first | apply Kd.R_alloc | apply Kd.R_drewN | apply Kd.R_drew)); exact HO_15.out⟩, ⟨by (try simp only [hl7_1]); (try simp only [hl10_1]); (with_reducible repeat (first | apply Kd.R_alloc | apply Kd.R_drewN | apply Kd.R_drew)); exact HO_16.out⟩, ⟨uB⟩⟩)
      rw [if_neg c92] at H
      have c92b0 : decide (0 < (ji87)) = false := decide_eq_false c92
      clear c92
      have H' := Aside0.mk H
      clear H
      have p494 : 0 ≤ (x113_2 : Int) := uO
      have q494 : x113_2 < (t488.length : Int) := uO
      obtain ⟨ad494, e494, hx494_0⟩ := Kd.at_int (Kd.R_reads' HO_15.out).2.2 x113_2 p494 q494
      cases e494
      replace p494 := eq_true p494
      replace q494 := eq_true q494
      have p91 : 0 ≤ (x113_2 : Int) := uO
      have q91 : (x113_2 : Int) < ((x16_2.length : Int) : Int) := uO
      obtain ⟨go91, co91, eo91, gb91, gl91, cl91, HG91⟩ := Kd.R_form HO_16.out (by omega)
      (first | cases eo91 | (injection eo91 with ea_ en_ ec_; (first | subst ea_ | (injection ea_ with ea_; subst ea_)); subst ec_; clear en_))
      have GB91 := Aside0.mk gb91; have GG91 := Aside0.mk HG91; clear gb91 gl91 HG91
      obtain ⟨hx91_0, hf91_0⟩ := Kd.R_celln 0 HO_16.out (x113_2 : Int) p91 q91
      replace p91 := eq_true p91
      replace q91 := eq_true q91
      have HP106 := Kd.R_putg HO_16.out (x113_2 : Int) ji89
      go_wp2_with (first | ((with_reducible refine gate_store (t := 47) (p := 124) rfl ?_); refine store_event (t := 47) (p := 124) (v := ?vo_w107) (w1 := (wr.setCell ⟨go91, (x113_2 : Int).toNat, none⟩ (.int .u64 ji89))) ?hg ?ho ?hn ?hr ?_; (case ho => rfl); (case hg => rfl); (case hn => rfl); (case hr => first | (go_simp; done) | (go_simp; rfl) | (obtain ⟨hy_, hz_⟩ := Kd.R_celln 0 HO_16.out (x113_2 : Int) uO uO; (try simp only [Go.IntWalk.toNatUp] at hy_ hz_); (try simp only [Int.reduceToNat, Int.toNat_zero, Int.toNat_ofNat] at hy_ hz_); first | (go_simp; done) | (go_simp; rfl))); intro w107 hw; have hg : wr.grownBy w107 (some go91) := (by rw [hw]; exact HP106.2); have hp_ : Kd.R (Kd.int .u64) 47 w107 w.heap.size (fun k_ => some k_ ≠ (.slice Ao21 x10_1.length co21 : Value).ownBlock ∧ some k_ ≠ (.slice (some ad494) t488.length co81 : Value).ownBlock) (.slice (some ⟨go91, 0, none⟩) x16_2.length co91) y495 := (by rw [hw, Ny495.out]; exact HP106.1); clear HP106; replace HO_10 := Aside0.mk (Kd.R_after (v := (.slice (some ⟨go91, 0, none⟩) x16_2.length co91)) (v1 := (.slice (some ⟨go91, 0, none⟩) x16_2.length co91)) (ok := (fun k_ => some k_ ≠ (.slice (some ad494) t488.length co81 : Value).ownBlock)) (uR HO_10.out) hg (.inl rfl)); replace HO_15 := Aside0.mk (Kd.R_after (v := (.slice (some ⟨go91, 0, none⟩) x16_2.length co91)) (v1 := (.slice (some ⟨go91, 0, none⟩) x16_2.length co91)) (ok := (fun k_ => some k_ ≠ (.slice Ao21 x10_1.length co21 : Value).ownBlock)) (uR HO_15.out) hg (.inl rfl)); replace HO_16 := Aside0.mk (hp_); replace HB := Aside0.mk ((by rw [hw]; exact below_set (HB.out) GB91.out : Below w.heap.size w w107)); clear hg hw hp_))
      first | go_roundg k2 | ((try simp only [← hji98] at H'); simp only [← hji98]; go_roundg k2) | ((try simp only [← hji96] at H'); simp only [← hji96]; go_roundg k2) | ((try simp only [← hji94] at H'); simp only [← hji94]; go_roundg k2) | ((try simp only [← hji89] at H'); simp only [← hji89]; go_roundg k2) | ((try simp only [← hji87] at H'); simp only [← hji87]; go_roundg k2) | ((try simp only [← hji35] at H'); simp only [← hji35]; go_roundg k2)
      case measure => have := HK1.out; have := HK2.out; omega
      case rel => first | exact ⟨(y495), (wrap64 (x113_2 + 1)), uG, H', ⟨by have := HK1.out; have := HK2.out; omega⟩, ⟨by (try simp only [hl7_1]); (try simp only [hl10_1]); (with_reducible repeat (first | apply Kd.R_alloc | apply Kd.R_drewN | apply Kd.R_drew)); exact HO_10.out⟩, ⟨by (try simp only [hl7_1]); (try simp only [hl10_1]); (with_reducible repeat (first | apply Kd.R_alloc | apply Kd.R_drewN | apply Kd.R_drew)); exact HO_15.out⟩, ⟨by (try simp only [hl7_1]); (try simp only [hl10_1]); (with_reducible repeat (first | apply Kd.R_alloc | apply Kd.R_drewN | apply Kd.R_drew)); exact HO_16.out⟩, ⟨uB⟩⟩ | (simp only [← hji98] at H'; exact ⟨(y495), (wrap64 (x113_2 + 1)), uG, H', ⟨by have := HK1.out; have := HK2.out; omega⟩, ⟨by (try simp only [hl7_1]); (try simp only [hl10_1]); (with_reducible repeat (first | apply Kd.R_alloc | apply Kd.R_drewN | apply Kd.R_drew)); exact HO_10.out⟩, ⟨by (try simp only [hl7_1]); (try simp only [hl10_1]); (with_reducible repeat (first | apply Kd.R_alloc | apply Kd.R_drewN | apply Kd.R_drew)); exact HO_15.out⟩, ⟨by (try simp only [hl7_1]); (try simp only [hl10_1]); (with_reducible repeat (first | apply Kd.R_alloc | apply Kd.R_drewN | apply Kd.R_drew)); exact HO_16.out⟩, ⟨uB⟩⟩) | (simp only [← hji96] at H'; exact ⟨(y495), (wrap64 (x113_2 + 1)), uG, H', ⟨by have := HK1.out; have := HK2.out; omega⟩, ⟨by (try simp only [hl7_1]); (try simp only [hl10_1]); (with_reducible repeat (first | apply Kd.R_alloc | apply Kd.R_drewN | apply Kd.R_drew)); exact HO_10.out⟩, ⟨by (try simp only [hl7_1]); (try simp only [hl10_1]); (with_reducible repeat (first | apply Kd.R_alloc | apply Kd.R_drewN | apply Kd.R_drew)); exact HO_15.out⟩, ⟨by (try simp only [hl7_1]); (try simp only [hl10_1]); (with_reducible repeat (first | apply Kd.R_alloc | apply Kd.R_drewN | apply Kd.R_drew)); exact HO_16.out⟩, ⟨uB⟩⟩) | (simp only [← hji94] at H'; exact ⟨(y495), (wrap64 (x113_2 + 1)), uG, H', ⟨by have := HK1.out; have := HK2.out; omega⟩, ⟨by (try simp only [hl7_1]); (try simp only [hl10_1]); (with_reducible repeat (first | apply Kd.R_alloc | apply Kd.R_drewN | apply Kd.R_drew)); exact HO_10.out⟩, ⟨by (try simp only [hl7_1]); (try simp only [hl10_1]); (with_reducible repeat (first | apply Kd.R_alloc | apply Kd.R_drewN | apply Kd.R_drew)); exact HO_15.out⟩, ⟨by (try simp only [hl7_1]); (try simp only [hl10_1]); (with_reducible repeat (first | apply Kd.R_alloc | apply Kd.R_drewN | apply Kd.R_drew)); exact HO_16.out⟩, ⟨uB⟩⟩) | (simp only [← hji89] at H'; exact ⟨(y495), (wrap64 (x113_2 + 1)), uG, H', ⟨by have := HK1.out; have := HK2.out; omega⟩, ⟨by (try simp only [hl7_1]); (try simp only [hl10_1]); (with_reducible repeat (first | apply Kd.R_alloc | apply Kd.R_drewN | apply Kd.R_drew)); exact HO_10.out⟩, ⟨by (try simp only [hl7_1]); (try simp only [hl10_1]); (with_reducible repeat (first | apply Kd.R_alloc | apply Kd.R_drewN | apply Kd.R_drew)); exact HO_15.out⟩, ⟨by (try simp only [hl7_1]); (try simp only [hl10_1]); (with_reducible repeat (first | apply Kd.R_alloc | apply Kd.R_drewN | apply Kd.R_drew)); exact HO_16.out⟩, ⟨uB⟩⟩) | (simp only [← hji87] at H'; exact ⟨(y495), (wrap64 (x113_2 + 1)), uG, H', ⟨by have := HK1.out; have := HK2.out; omega⟩, ⟨by (try simp only [hl7_1]); (try simp only [hl10_1]); (with_reducible repeat (first | apply Kd.R_alloc | apply Kd.R_drewN | apply Kd.R_drew)); exact HO_10.out⟩, ⟨by (try simp only [hl7_1]); (try simp only [hl10_1]); (with_reducible repeat (first | apply Kd.R_alloc | apply Kd.R_drewN | apply Kd.R_drew)); exact HO_15.out⟩, ⟨by (try simp only [hl7_1]); (try simp only [hl10_1]); (with_reducible repeat (first | apply Kd.R_alloc | apply Kd.R_drewN | apply Kd.R_drew)); exact HO_16.out⟩, ⟨uB⟩⟩) | (simp only [← hji35] at H'; exact ⟨(y495), (wrap64 (x113_2 + 1)), uG, H', ⟨by have := HK1.out; have := HK2.out; omega⟩, ⟨by (try simp only [hl7_1]); (try simp only [hl10_1]); (with_reducible repeat (first | apply Kd.R_alloc | apply Kd.R_drewN | apply Kd.R_drew)); exact HO_10.out⟩, ⟨by (try simp only [hl7_1]); (try simp only [hl10_1]); (with_reducible repeat (first | apply Kd.R_alloc | apply Kd.R_drewN | apply Kd.R_drew)); exact HO_15.out⟩, ⟨by (try simp only [hl7_1]); (try simp only [hl10_1]); (with_reducible repeat (first | apply Kd.R_alloc | apply Kd.R_drewN | apply Kd.R_drew)); exact HO_16.out⟩, ⟨uB⟩⟩)
     rw [if_neg c84] at H
     have c84b0 : decide (x113_2 < (t488.length : Int)) = false := decide_eq_false c84
     (try (have c84b0h0 := c84b0; simp only [hl7_1] at c84b0h0))
     (try (have c84b0h1 := c84b0; simp only [hl10_1] at c84b0h1))
     clear c84
     replace H := ub H; obtain ⟨t499, A108, H⟩ := H
     replace H := ub H; obtain ⟨t502, A109, H⟩ := H
     simp only [Option.some.injEq, Prod.mk.injEq] at H
     obtain ⟨rfl, rfl⟩ := H
     go_wp2_with (first | ((with_reducible refine gate_callee (f := 87) rfl ?_); refine goesL_ (some 150) rfl rfl Try.func87 (by kernel_rfl) rfl #[.slice Ao21 x10_1.length co21] rfl uM ?_; (with_reducible refine (nat_trim.calls k2 (fun k_ => some k_ = (.slice Ao21 x10_1.length co21 : Value).ownBlock) (.slice Ao21 x10_1.length co21) x10_1 t499 w _ ?side1 ?side2 A108.out).mono ?_); (case side1 => repeat (first | (with_reducible first | exact HB.out | apply below_alloc | apply pw_below_drewN | apply below_drew1) | exact HB.out)); (case side2 => exact Kd.R_tight rfl HO_10.out); rintro e w110 ⟨v500, rfl, ho0, hb, hkp⟩; refine ⟨_, rfl, ?_⟩; have HO501 := Aside0.mk (Kd.R_mono (ok' := fun k_ => some k_ ≠ (.slice Ao81 t488.length co81 : Value).ownBlock ∧ some k_ ≠ (v492 : Value).ownBlock) ho0 (fun k_ hk_ => ⟨Or.elim hk_ (fun hs_ => fun e_ => (((HO_15.out).1 k_ e_.symm).1) hs_) (fun hn_ => (Kd.fresh' (Kd.R_lt (uR HO_15.out)) k_ hn_)), Or.elim hk_ (fun hs_ => fun e_ => (((HO_16.out).1 k_ e_.symm).1) hs_) (fun hn_ => (Kd.fresh' (Kd.R_lt (uR HO_16.out)) k_ hn_))⟩)); replace HO_15 := Aside0.mk (Kd.R_mono (ok' := fun k_ => some k_ ≠ (v492 : Value).ownBlock ∧ some k_ ≠ (v500 : Value).ownBlock) (Kd.R_keptB (HO_15.out) hkp (fun k_ hk_ hs_ => (hk_.1) hs_)) (fun k_ hk_ => ⟨hk_.1.2, fun e_ => Or.elim (ho0.1 k_ e_.symm) (fun hs_ => hk_.2.1 hs_) (fun hn_ => Nat.not_le.2 hk_.2.2 hn_)⟩)); replace HO_16 := Aside0.mk (Kd.R_mono (ok' := fun k_ => some k_ ≠ (.slice Ao81 t488.length co81 : Value).ownBlock ∧ some k_ ≠ (v500 : Value).ownBlock) (Kd.R_keptB (HO_16.out) hkp (fun k_ hk_ hs_ => (hk_.1) hs_)) (fun k_ hk_ => ⟨hk_.1.2, fun e_ => Or.elim (ho0.1 k_ e_.symm) (fun hs_ => hk_.2.1 hs_) (fun hn_ => Nat.not_le.2 hk_.2.2 hn_)⟩)); replace HB := Aside0.mk (hb); clear HO_10; (try clear hb); (try clear hkp); (try clear ho0); obtain ⟨Ao111, co111, eo111⟩ := Kd.R_slice HO_16.out; subst eo111) | ((with_reducible refine gate_callee (f := 87) rfl ?_); refine goesL_ (some 152) rfl rfl Try.func87 (by kernel_rfl) rfl #[.slice Ao111 x16_2.length co111] rfl uM ?_; (with_reducible refine (nat_trim.calls k2 (fun k_ => some k_ = (.slice Ao111 x16_2.length co111 : Value).ownBlock) (.slice Ao111 x16_2.length co111) x16_2 t502 w _ ?side1 ?side2 A109.out).mono ?_); (case side1 => repeat (first | (with_reducible first | exact HB.out | apply below_alloc | apply pw_below_drewN | apply below_drew1) | exact HB.out)); (case side2 => exact Kd.R_tight rfl HO_16.out); rintro e w112 ⟨v503, rfl, ho0, hb, hkp⟩; refine ⟨_, rfl, ?_⟩; have HO504 := Aside0.mk (Kd.R_mono (ok' := fun k_ => some k_ ≠ (.slice Ao81 t488.length co81 : Value).ownBlock ∧ some k_ ≠ (v500 : Value).ownBlock) ho0 (fun k_ hk_ => ⟨Or.elim hk_ (fun hs_ => fun e_ => (((HO_15.out).1 k_ e_.symm).1) hs_) (fun hn_ => (Kd.fresh' (Kd.R_lt (uR HO_15.out)) k_ hn_)), Or.elim hk_ (fun hs_ => fun e_ => (((HO501.out).1 k_ e_.symm).2) hs_) (fun hn_ => (Kd.fresh' (Kd.R_lt (uR HO501.out)) k_ hn_))⟩)); replace HO_15 := Aside0.mk (Kd.R_mono (ok' := fun k_ => some k_ ≠ (v500 : Value).ownBlock ∧ some k_ ≠ (v503 : Value).ownBlock) (Kd.R_keptB (HO_15.out) hkp (fun k_ hk_ hs_ => (hk_.1) hs_)) (fun k_ hk_ => ⟨hk_.1.2, fun e_ => Or.elim (ho0.1 k_ e_.symm) (fun hs_ => hk_.2.1 hs_) (fun hn_ => Nat.not_le.2 hk_.2.2 hn_)⟩)); replace HO501 := Aside0.mk (Kd.R_mono (ok' := fun k_ => some k_ ≠ (.slice Ao81 t488.length co81 : Value).ownBlock ∧ some k_ ≠ (v503 : Value).ownBlock) (Kd.R_keptB (HO501.out) hkp (fun k_ hk_ hs_ => (hk_.2) hs_)) (fun k_ hk_ => ⟨hk_.1.1, fun e_ => Or.elim (ho0.1 k_ e_.symm) (fun hs_ => hk_.2.1 hs_) (fun hn_ => Nat.not_le.2 hk_.2.2 hn_)⟩)); replace HB := Aside0.mk (hb); clear HO_16; (try clear hb); (try clear hkp); (try clear ho0)))
     go_ret2
     exact ⟨_, _, by first | rfl | (simp [errW_none, errW_some] <;> rfl) | (simp only [← hji3, ← hji10]; first | rfl | (simp [errW_none, errW_some] <;> rfl)) | (simp [*, errW_none, errW_some] <;> rfl), by (with_reducible repeat (first | apply Kd.R_alloc | apply Kd.R_drewN | apply Kd.R_drew)); exact Kd.R_mono HO501.out (fun _ hk => hk.2), by (with_reducible repeat (first | apply Kd.R_alloc | apply Kd.R_drewN | apply Kd.R_drew)); exact Kd.R_mono HO504.out (fun _ hk => hk.2), uB⟩
end Go.Proofs.Ytgeanpnkllnipaa.F
end
section
namespace Go.Proofs.Ytgeanpnkllnipaa.F
open Go.RowKit Go.Proofs.YtgeanpnkllnipaaW.PrintWords Go.Proofs.YtgeanpnkllnipaaW.PrintLast Go.Proofs.YtgeanpnkllnipaaW.PrintMore
attribute [local go_sem] max2_int min2_int max_two min_two max_three min_three max_four min_four
set_option linter.unusedVariables false
set_option linter.unusedSimpArgs false
def nat_Div.f (k : Nat) (l0 : List Int) (l1 : List Int) : Option (List Int × List Int × Int) := (nat_right.f (([l0, l1] : List (List Int)))).bind fun t508 => (if t508 = true then (if (l1.length : Int) = 0 then (some (([] : List Int), ([] : List Int), 3)) else ((nat_compare.f k l0 l1).bind fun t509 => (if t509 < 0 then ((api_Nat_uint64.f l0).bind fun t510 => (some (([] : List Int), t510, 0))) else (if (l1.length : Int) = 1 then (if 0 < (l1.length : Int) then ((nat_short.f k l0 (rd l1 0)).bind fun bt514 => ((nat_Of.f k bt514.2).bind fun t518 => (some (bt514.1, t518, 0)))) else (none)) else ((nat_long.f k l0 l1).bind fun bt521 => (some (bt521.1, bt521.2, 0))))))) else (some (([] : List Int), ([] : List Int), 1)))
set_option maxHeartbeats 8000000 in
set_option maxRecDepth 100000 in
theorem nat_Div.calls (k : Nat) (P0_ : Nat → Prop) (A0 : Option Addr) (c0 : Nat) (l0 : List Int) (P1_ : Nat → Prop) (A1 : Option Addr) (c1 : Nat) (l1 : List Int) (r1 : List Int) (r2 : List Int) (r3 : Int) (w : World) (hs0 : Kd.V (Kd.int .u64) 47 w w.heap.size (fun k_ => P0_ k_) (.slice A0 l0.length c0) l0) (hs1 : Kd.V (Kd.int .u64) 47 w w.heap.size (fun k_ => P1_ k_) (.slice A1 l1.length c1) l1) (h : nat_Div.f k l0 l1 = some (r1, r2, r3)) :
  Calls Try.prog 91 #[.slice A0 l0.length c0, .slice A1 l1.length c1] w fun e w' => ∃ v0_ v1_ : Value, e = .returned (.tuple #[v0_, v1_, .int .i64 r3]) ∧ Kd.R (Kd.int .u64) 47 w' w.heap.size (fun k_ => (w.heap.size ≤ k_) ∧ some k_ ≠ (v1_ : Value).ownBlock) v0_ r1 ∧ Kd.R (Kd.int .u64) 47 w' w.heap.size (fun k_ => (w.heap.size ≤ k_) ∧ some k_ ≠ (v0_ : Value).ownBlock) v1_ r2 ∧ Below w.heap.size w w' := by
 have HO0 := Aside0.mk (show Kd.V (Kd.int .u64) 47 w w.heap.size (fun k_ => ((P0_ k_ ∨ P1_ k_) ∨ w.heap.size ≤ k_)) (.slice A0 l0.length c0) l0 from Kd.V_mono hs0 (fun k_ hk => .inl (.inl hk)))
 have HO1 := Aside0.mk (show Kd.V (Kd.int .u64) 47 w w.heap.size (fun k_ => ((P0_ k_ ∨ P1_ k_) ∨ w.heap.size ≤ k_)) (.slice A1 l1.length c1) l1 from Kd.V_mono hs1 (fun k_ hk => .inl (.inr hk)))
 have HB := Aside0.mk (Below.refl w.heap.size w)
 have H : ((nat_right.f (([l0, l1] : List (List Int)))).bind fun t508 => (if t508 = true then (if (l1.length : Int) = 0 then (some (([] : List Int), ([] : List Int), 3)) else ((nat_compare.f k l0 l1).bind fun t509 => (if t509 < 0 then ((api_Nat_uint64.f l0).bind fun t510 => (some (([] : List Int), t510, 0))) else (if (l1.length : Int) = 1 then (if 0 < (l1.length : Int) then ((nat_short.f k l0 (rd l1 0)).bind fun bt514 => ((nat_Of.f k bt514.2).bind fun t518 => (some (bt514.1, t518, 0)))) else (none)) else ((nat_long.f k l0 l1).bind fun bt521 => (some (bt521.1, bt521.2, 0))))))) else (some (([] : List Int), ([] : List Int), 1)))) = some (r1, r2, r3) := h
 clear h
 obtain ⟨y505, hy505⟩ : ∃ y_ : List (List Int), y_ = (([l0, l1] : List (List Int))) := ⟨_, rfl⟩
 replace H : ((nat_right.f y505).bind fun t508 => (if t508 = true then (if (l1.length : Int) = 0 then (some (([] : List Int), ([] : List Int), 3)) else ((nat_compare.f k l0 l1).bind fun t509 => (if t509 < 0 then ((api_Nat_uint64.f l0).bind fun t510 => (some (([] : List Int), t510, 0))) else (if (l1.length : Int) = 1 then (if 0 < (l1.length : Int) then ((nat_short.f k l0 (rd l1 0)).bind fun bt514 => ((nat_Of.f k bt514.2).bind fun t518 => (some (bt514.1, t518, 0)))) else (none)) else ((nat_long.f k l0 l1).bind fun bt521 => (some (bt521.1, bt521.2, 0))))))) else (some (([] : List Int), ([] : List Int), 1)))) = some (r1, r2, r3) := by first | (rw [hy505]; with_reducible exact H) | (have H2_ := (Option.bind_some _ _).symm.trans H; rw [hy505]; with_reducible exact H2_) | (have H2_ := (Option.bind_some _ _).symm.trans H; with_reducible exact H2_) | with_reducible exact H | (rw [hy505]; exact H) | exact H
 have Ny505 := Aside0.mk hy505; clear hy505
 replace H := ub H; obtain ⟨t508, A3, H⟩ := H
 by_cases c4 : t508 = true
 ·
  subst c4
  have H1 : (if (l1.length : Int) = 0 then (some (([] : List Int), ([] : List Int), 3)) else ((nat_compare.f k l0 l1).bind fun t509 => (if t509 < 0 then ((api_Nat_uint64.f l0).bind fun t510 => (some (([] : List Int), t510, 0))) else (if (l1.length : Int) = 1 then (if 0 < (l1.length : Int) then ((nat_short.f k l0 (rd l1 0)).bind fun bt514 => ((nat_Of.f k bt514.2).bind fun t518 => (some (bt514.1, t518, 0)))) else (none)) else ((nat_long.f k l0 l1).bind fun bt521 => (some (bt521.1, bt521.2, 0))))))) = some (r1, r2, r3) := by rw [if_pos rfl] at H; exact H
  clear H; have H := H1; clear H1
  by_cases c5 : (l1.length : Int) = 0
  ·
   rw [if_pos c5] at H
   have c5b0 : ((l1.length : Int) == 0) = true := beq_iff_eq.mpr c5
   have c5b1 : ((l1.length : Int) != 0) = false := bne_eq_false_iff_eq.mpr c5
   clear c5
   simp only [Option.some.injEq, Prod.mk.injEq] at H
   obtain ⟨rfl, rfl, rfl⟩ := H
   go_enter Try.func91, Try.ntmps91
   go_wp2_with (first | ((with_reducible refine gate_dst (N := 14) rfl ?_); refine Kd.N_lit (Kd.slice 47 (Kd.int .u64)) _ 29 ?hg (N' := 14) ?hd (xs := ([l0, l1] : List (List Int))) (inner := [.slice A0 l0.length c0, .slice A1 l1.length c1]) (ok := (fun k_ => ((P0_ k_ ∨ P1_ k_) ∨ w.heap.size ≤ k_))) (okp := (fun k_ => ((P0_ k_ ∨ P1_ k_) ∨ w.heap.size ≤ k_))) ?hr ?hp (fun _ hk => hk) ((show ∀ k_, w.heap.size ≤ k_ → (fun k_ => ((P0_ k_ ∨ P1_ k_) ∨ w.heap.size ≤ k_)) k_ from fun k_ hk => (.inr (Nat.le_trans (below_size uB) hk))) _ (Nat.le_refl _)) (Below.refl _ _) (Nat.le_refl _) (by simp) ?_; (case hd => rfl); (case hg => rfl); (case hr => first | (go_simp; done) | (go_simp; rfl) | (go_simp; simp only [u64_u8]; done) | (go_simp; simp only [u64_u8]; rfl)); (case hp => exact (Reps.one (show Kd.FK (Kd.slice 47 (Kd.int .u64)) _ _ l0 [.slice A0 l0.length c0] from (Kd.FK_slice_mk (Kd.V_reads' (Kd.V_mono (ok' := (fun k_ => ((P0_ k_ ∨ P1_ k_) ∨ w.heap.size ≤ k_))) (HO0.out) (fun k_ hk => hk))).2.1 (Kd.V_F (Kd.V_mono (ok' := (fun k_ => ((P0_ k_ ∨ P1_ k_) ∨ w.heap.size ≤ k_))) (HO0.out) (fun k_ hk => hk))))) (Reps.one (show Kd.FK (Kd.slice 47 (Kd.int .u64)) _ _ l1 [.slice A1 l1.length c1] from (Kd.FK_slice_mk (Kd.V_reads' (Kd.V_mono (ok' := (fun k_ => ((P0_ k_ ∨ P1_ k_) ∨ w.heap.size ≤ k_))) (HO1.out) (fun k_ hk => hk))).2.1 (Kd.V_F (Kd.V_mono (ok' := (fun k_ => ((P0_ k_ ∨ P1_ k_) ∨ w.heap.size ≤ k_))) (HO1.out) (fun k_ hk => hk))))) (Reps.none _ _)))); intro v506 w6 ho7 hb hg_ hnew_; clear hg_ hnew_; (first | rw [← Ny505.out] at ho7 | (simp only [Int.reduceToNat] at ho7; rw [← Ny505.out] at ho7)); replace HO0 := Aside0.mk (Kd.V_elder' (uV HO0.out) (Kd.N_base ho7) hb); replace HO1 := Aside0.mk (Kd.V_elder' (uV HO1.out) (Kd.N_base ho7) hb); have HO507 := Aside0.mk (Kd.N_lower ho7 (below_size uB)); replace HB := uy hb; clear hb ho7; obtain ⟨Ao8, co8, eo8⟩ := Kd.N_slice HO507.out; subst eo8) | ((with_reducible refine gate_callee (f := 74) rfl ?_); refine goesL_ (some 15) rfl rfl Try.func74 (by kernel_rfl) rfl #[.slice Ao8 y505.length co8] rfl uM ?_; (with_reducible refine (nat_right.calls _ _ y505 true _ ?side1 ?side2 A3.out).mono ?_); (case side1 => exact uC (Kd.N_reads' HO507.out).2.2); (case side2 => exact (Kd.N_reads' HO507.out).2.1); rintro e w' ⟨rfl, ⟨nd, rfl⟩⟩; refine ⟨_, rfl, ?_⟩))
   go_ret3
   exact ⟨_, _, uF, uI, uI, uB⟩
  rw [if_neg c5] at H
  have c5b0 : ((l1.length : Int) == 0) = false := beq_eq_false_iff_ne.mpr c5
  have c5b1 : ((l1.length : Int) != 0) = true := bne_iff_ne.mpr c5
  have c5b2 : ¬ (l1 = []) := fun h_ => c5 (by rw [h_]; rfl)
  replace H := ub H; obtain ⟨t509, A9, H⟩ := H
  by_cases c10 : t509 < 0
  ·
   rw [if_pos c10] at H
   have c10b0 : decide (t509 < 0) = true := decide_eq_true c10
   clear c10
   replace H := ub H; obtain ⟨t510, A11, H⟩ := H
   simp only [Option.some.injEq, Prod.mk.injEq] at H
   obtain ⟨rfl, rfl, rfl⟩ := H
   go_enter Try.func91, Try.ntmps91
   go_wp2_with (first | ((with_reducible refine gate_dst (N := 14) rfl ?_); refine Kd.N_lit (Kd.slice 47 (Kd.int .u64)) _ 29 ?hg (N' := 14) ?hd (xs := ([l0, l1] : List (List Int))) (inner := [.slice A0 l0.length c0, .slice A1 l1.length c1]) (ok := (fun k_ => ((P0_ k_ ∨ P1_ k_) ∨ w.heap.size ≤ k_))) (okp := (fun k_ => ((P0_ k_ ∨ P1_ k_) ∨ w.heap.size ≤ k_))) ?hr ?hp (fun _ hk => hk) ((show ∀ k_, w.heap.size ≤ k_ → (fun k_ => ((P0_ k_ ∨ P1_ k_) ∨ w.heap.size ≤ k_)) k_ from fun k_ hk => (.inr (Nat.le_trans (below_size uB) hk))) _ (Nat.le_refl _)) (Below.refl _ _) (Nat.le_refl _) (by simp) ?_; (case hd => rfl); (case hg => rfl); (case hr => first | (go_simp; done) | (go_simp; rfl) | (go_simp; simp only [u64_u8]; done) | (go_simp; simp only [u64_u8]; rfl)); (case hp => exact (Reps.one (show Kd.FK (Kd.slice 47 (Kd.int .u64)) _ _ l0 [.slice A0 l0.length c0] from (Kd.FK_slice_mk (Kd.V_reads' (Kd.V_mono (ok' := (fun k_ => ((P0_ k_ ∨ P1_ k_) ∨ w.heap.size ≤ k_))) (HO0.out) (fun k_ hk => hk))).2.1 (Kd.V_F (Kd.V_mono (ok' := (fun k_ => ((P0_ k_ ∨ P1_ k_) ∨ w.heap.size ≤ k_))) (HO0.out) (fun k_ hk => hk))))) (Reps.one (show Kd.FK (Kd.slice 47 (Kd.int .u64)) _ _ l1 [.slice A1 l1.length c1] from (Kd.FK_slice_mk (Kd.V_reads' (Kd.V_mono (ok' := (fun k_ => ((P0_ k_ ∨ P1_ k_) ∨ w.heap.size ≤ k_))) (HO1.out) (fun k_ hk => hk))).2.1 (Kd.V_F (Kd.V_mono (ok' := (fun k_ => ((P0_ k_ ∨ P1_ k_) ∨ w.heap.size ≤ k_))) (HO1.out) (fun k_ hk => hk))))) (Reps.none _ _)))); intro v506 w12 ho13 hb hg_ hnew_; clear hg_ hnew_; (first | rw [← Ny505.out] at ho13 | (simp only [Int.reduceToNat] at ho13; rw [← Ny505.out] at ho13)); replace HO0 := Aside0.mk (Kd.V_elder' (uV HO0.out) (Kd.N_base ho13) hb); replace HO1 := Aside0.mk (Kd.V_elder' (uV HO1.out) (Kd.N_base ho13) hb); have HO507 := Aside0.mk (Kd.N_lower ho13 (below_size uB)); replace HB := uy hb; clear hb ho13; obtain ⟨Ao14, co14, eo14⟩ := Kd.N_slice HO507.out; subst eo14) | ((with_reducible refine gate_callee (f := 74) rfl ?_); refine goesL_ (some 15) rfl rfl Try.func74 (by kernel_rfl) rfl #[.slice Ao14 y505.length co14] rfl uM ?_; (with_reducible refine (nat_right.calls _ _ y505 true _ ?side1 ?side2 A3.out).mono ?_); (case side1 => exact uC (Kd.N_reads' HO507.out).2.2); (case side2 => exact (Kd.N_reads' HO507.out).2.1); rintro e w' ⟨rfl, ⟨nd, rfl⟩⟩; refine ⟨_, rfl, ?_⟩) | ((with_reducible refine gate_callee (f := 75) rfl ?_); refine goesL_ (some 24) rfl rfl Try.func75 (by kernel_rfl) rfl #[.slice A0 l0.length c0, .slice A1 l1.length c1] rfl uM ?_; (with_reducible refine (nat_compare.calls k _ _ l0 _ _ l1 t509 _ ?side1 ?side2 ?side3 ?side4 A9.out).mono ?_); (case side1 => exact uC (Kd.V_reads' HO0.out).2.2); (case side2 => exact (Kd.V_reads' HO0.out).2.1); (case side3 => exact uC (Kd.V_reads' HO1.out).2.2); (case side4 => exact (Kd.V_reads' HO1.out).2.1); rintro e w' ⟨rfl, ⟨nd, rfl⟩⟩; refine ⟨_, rfl, ?_⟩) | ((with_reducible refine gate_callee (f := 90) rfl ?_); refine goesL_ (some 27) rfl rfl Try.func90 (by kernel_rfl) rfl #[.slice A0 l0.length c0] rfl uM ?_; (with_reducible refine (api_Nat_uint64.calls _ _ l0 t510 _ ?side1 ?side2 A11.out).mono ?_); (case side1 => exact uC (Kd.V_reads' HO0.out).2.2); (case side2 => exact (Kd.V_reads' HO0.out).2.1); rintro e w15 ⟨v511, rfl, ho0, hb⟩; refine ⟨_, rfl, ?_⟩; replace HO0 := ueV HO0 ho0 hb; replace HO1 := ueV HO1 ho0 hb; replace HO507 := ueN HO507 ho0 hb; have HO512 := Aside0.mk (Kd.R_lower (Kd.R_newM (M := fun k_ => (w.heap.size ≤ k_)) ho0 (below_size uB) (fun k_ h_ => h_)) (below_size uB)); replace HB := uy hb; (try clear hb ho0)))
   go_ret3
   exact ⟨_, _, uF, uI, by (with_reducible repeat (first | apply Kd.R_alloc | apply Kd.R_drewN | apply Kd.R_drew)); exact Kd.R_mono HO512.out (fun _ hk => ⟨hk.1, (by simp [Value.ownBlock])⟩), uB⟩
  rw [if_neg c10] at H
  have c10b0 : decide (t509 < 0) = false := decide_eq_false c10
  clear c10
  by_cases c16 : (l1.length : Int) = 1
  ·
   rw [if_pos c16] at H
   have c16b0 : ((l1.length : Int) == 1) = true := beq_iff_eq.mpr c16
   have c16b1 : ((l1.length : Int) != 1) = false := bne_eq_false_iff_eq.mpr c16
   clear c16
   replace H := uT H; obtain ⟨c17, H⟩ := H
   have c17b0 : decide (0 < (l1.length : Int)) = true := decide_eq_true c17
   have c17b1 : decide (0 < l1.length) = true := decide_eq_true (by omega)
   clear c17
   replace H := ub H; obtain ⟨⟨t514, t515⟩, A18, H⟩ := H
   (try dsimp only at H)
   replace H := ub H; obtain ⟨t518, A19, H⟩ := H
   simp only [Option.some.injEq, Prod.mk.injEq] at H
   obtain ⟨rfl, rfl, rfl⟩ := H
   go_enter Try.func91, Try.ntmps91
   go_wp2_with (first | ((with_reducible refine gate_dst (N := 14) rfl ?_); refine Kd.N_lit (Kd.slice 47 (Kd.int .u64)) _ 29 ?hg (N' := 14) ?hd (xs := ([l0, l1] : List (List Int))) (inner := [.slice A0 l0.length c0, .slice A1 l1.length c1]) (ok := (fun k_ => ((P0_ k_ ∨ P1_ k_) ∨ w.heap.size ≤ k_))) (okp := (fun k_ => ((P0_ k_ ∨ P1_ k_) ∨ w.heap.size ≤ k_))) ?hr ?hp (fun _ hk => hk) ((show ∀ k_, w.heap.size ≤ k_ → (fun k_ => ((P0_ k_ ∨ P1_ k_) ∨ w.heap.size ≤ k_)) k_ from fun k_ hk => (.inr (Nat.le_trans (below_size uB) hk))) _ (Nat.le_refl _)) (Below.refl _ _) (Nat.le_refl _) (by simp) ?_; (case hd => rfl); (case hg => rfl); (case hr => first | (go_simp; done) | (go_simp; rfl) | (go_simp; simp only [u64_u8]; done) | (go_simp; simp only [u64_u8]; rfl)); (case hp => exact (Reps.one (show Kd.FK (Kd.slice 47 (Kd.int .u64)) _ _ l0 [.slice A0 l0.length c0] from (Kd.FK_slice_mk (Kd.V_reads' (Kd.V_mono (ok' := (fun k_ => ((P0_ k_ ∨ P1_ k_) ∨ w.heap.size ≤ k_))) (HO0.out) (fun k_ hk => hk))).2.1 (Kd.V_F (Kd.V_mono (ok' := (fun k_ => ((P0_ k_ ∨ P1_ k_) ∨ w.heap.size ≤ k_))) (HO0.out) (fun k_ hk => hk))))) (Reps.one (show Kd.FK (Kd.slice 47 (Kd.int .u64)) _ _ l1 [.slice A1 l1.length c1] from (Kd.FK_slice_mk (Kd.V_reads' (Kd.V_mono (ok' := (fun k_ => ((P0_ k_ ∨ P1_ k_) ∨ w.heap.size ≤ k_))) (HO1.out) (fun k_ hk => hk))).2.1 (Kd.V_F (Kd.V_mono (ok' := (fun k_ => ((P0_ k_ ∨ P1_ k_) ∨ w.heap.size ≤ k_))) (HO1.out) (fun k_ hk => hk))))) (Reps.none _ _)))); intro v506 w20 ho21 hb hg_ hnew_; clear hg_ hnew_; (first | rw [← Ny505.out] at ho21 | (simp only [Int.reduceToNat] at ho21; rw [← Ny505.out] at ho21)); replace HO0 := Aside0.mk (Kd.V_elder' (uV HO0.out) (Kd.N_base ho21) hb); replace HO1 := Aside0.mk (Kd.V_elder' (uV HO1.out) (Kd.N_base ho21) hb); have HO507 := Aside0.mk (Kd.N_lower ho21 (below_size uB)); replace HB := uy hb; clear hb ho21; obtain ⟨Ao22, co22, eo22⟩ := Kd.N_slice HO507.out; subst eo22) | ((with_reducible refine gate_callee (f := 74) rfl ?_); refine goesL_ (some 15) rfl rfl Try.func74 (by kernel_rfl) rfl #[.slice Ao22 y505.length co22] rfl uM ?_; (with_reducible refine (nat_right.calls _ _ y505 true _ ?side1 ?side2 A3.out).mono ?_); (case side1 => exact uC (Kd.N_reads' HO507.out).2.2); (case side2 => exact (Kd.N_reads' HO507.out).2.1); rintro e w' ⟨rfl, ⟨nd, rfl⟩⟩; refine ⟨_, rfl, ?_⟩) | ((with_reducible refine gate_callee (f := 75) rfl ?_); refine goesL_ (some 24) rfl rfl Try.func75 (by kernel_rfl) rfl #[.slice A0 l0.length c0, .slice A1 l1.length c1] rfl uM ?_; (with_reducible refine (nat_compare.calls k _ _ l0 _ _ l1 t509 _ ?side1 ?side2 ?side3 ?side4 A9.out).mono ?_); (case side1 => exact uC (Kd.V_reads' HO0.out).2.2); (case side2 => exact (Kd.V_reads' HO0.out).2.1); (case side3 => exact uC (Kd.V_reads' HO1.out).2.2); (case side4 => exact (Kd.V_reads' HO1.out).2.1); rintro e w' ⟨rfl, ⟨nd, rfl⟩⟩; refine ⟨_, rfl, ?_⟩; have p513 : 0 ≤ (0 : Int) := (by omega); have q513 : 0 < (l1.length : Int) := uO; obtain ⟨ad513, e513, hx513_0⟩ := Kd.at_int (Kd.V_reads' HO1.out).2.2 0 p513 q513; cases e513; have qi513 : (0 < l1.length) = True := eq_true (by omega); (try rw [show ((0 : Int)).toNat = 0 from rfl] at hx513_0); (try rw [Addr.add_zero'] at hx513_0); replace p513 := eq_true p513; replace q513 := eq_true q513) | ((with_reducible refine gate_callee (f := 108) rfl ?_); refine goesL_ (some 37) rfl rfl Try.func108 (by kernel_rfl) rfl #[.slice A0 l0.length c0, .int .u64 (rd l1 0)] rfl uM ?_; (with_reducible refine (nat_short.calls k _ _ l0 (rd l1 0) t514 t515 _ ?side1 ?side2 A18.out).mono ?_); (case side1 => exact uC (Kd.V_reads' HO0.out).2.2); (case side2 => exact (Kd.V_reads' HO0.out).2.1); rintro e w23 ⟨v516, rfl, ho0, hb⟩; refine ⟨_, rfl, ?_⟩; replace HO0 := ueV HO0 ho0 hb; replace HO1 := ueV HO1 ho0 hb; replace HO507 := ueN HO507 ho0 hb; have HO517 := Aside0.mk (Kd.R_lower (Kd.R_newM (M := fun k_ => (w.heap.size ≤ k_)) ho0 (below_size uB) (fun k_ h_ => h_)) (below_size uB)); replace HB := uy hb; (try clear hb ho0)) | ((with_reducible refine gate_callee (f := 55) rfl ?_); refine goesL_ (some 42) rfl rfl Try.func55 (by kernel_rfl) rfl #[.int .u64 t515] rfl uM ?_; (with_reducible refine (nat_Of.calls k t515 t518 _ A19.out).mono ?_); rintro e w24 ⟨v519, rfl, ho0, hb⟩; refine ⟨_, rfl, ?_⟩; replace HO0 := ueV HO0 ho0 hb; replace HO1 := ueV HO1 ho0 hb; replace HO507 := ueN HO507 ho0 hb; have HO520 := Aside0.mk (Kd.R_lower (Kd.R_new' (Kd.R_newM (M := fun k_ => (w.heap.size ≤ k_)) ho0 (below_size uB) (fun k_ h_ => h_)) (Kd.R_lt (uR HO517.out))) (below_size uB)); replace HO517 := ueR HO517 ho0 hb; replace HB := uy hb; (try clear hb ho0)))
   go_ret3
   exact ⟨_, _, uF, by (with_reducible repeat (first | apply Kd.R_alloc | apply Kd.R_drewN | apply Kd.R_drew)); exact Kd.R_mono HO517.out (fun _ hk => ⟨hk.1.1, hk.2⟩), by (with_reducible repeat (first | apply Kd.R_alloc | apply Kd.R_drewN | apply Kd.R_drew)); exact Kd.R_mono HO520.out (fun _ hk => ⟨hk.1.1, hk.2⟩), uB⟩
  rw [if_neg c16] at H
  have c16b0 : ((l1.length : Int) == 1) = false := beq_eq_false_iff_ne.mpr c16
  have c16b1 : ((l1.length : Int) != 1) = true := bne_iff_ne.mpr c16
  replace H := ub H; obtain ⟨⟨t521, t522⟩, A25, H⟩ := H
  (try dsimp only at H)
  simp only [Option.some.injEq, Prod.mk.injEq] at H
  obtain ⟨rfl, rfl, rfl⟩ := H
  go_enter Try.func91, Try.ntmps91
  go_wp2_with (first | ((with_reducible refine gate_dst (N := 14) rfl ?_); refine Kd.N_lit (Kd.slice 47 (Kd.int .u64)) _ 29 ?hg (N' := 14) ?hd (xs := ([l0, l1] : List (List Int))) (inner := [.slice A0 l0.length c0, .slice A1 l1.length c1]) (ok := (fun k_ => ((P0_ k_ ∨ P1_ k_) ∨ w.heap.size ≤ k_))) (okp := (fun k_ => ((P0_ k_ ∨ P1_ k_) ∨ w.heap.size ≤ k_))) ?hr ?hp (fun _ hk => hk) ((show ∀ k_, w.heap.size ≤ k_ → (fun k_ => ((P0_ k_ ∨ P1_ k_) ∨ w.heap.size ≤ k_)) k_ from fun k_ hk => (.inr (Nat.le_trans (below_size uB) hk))) _ (Nat.le_refl _)) (Below.refl _ _) (Nat.le_refl _) (by simp) ?_; (case hd => rfl); (case hg => rfl); (case hr => first | (go_simp; done) | (go_simp; rfl) | (go_simp; simp only [u64_u8]; done) | (go_simp; simp only [u64_u8]; rfl)); (case hp => exact (Reps.one (show Kd.FK (Kd.slice 47 (Kd.int .u64)) _ _ l0 [.slice A0 l0.length c0] from (Kd.FK_slice_mk (Kd.V_reads' (Kd.V_mono (ok' := (fun k_ => ((P0_ k_ ∨ P1_ k_) ∨ w.heap.size ≤ k_))) (HO0.out) (fun k_ hk => hk))).2.1 (Kd.V_F (Kd.V_mono (ok' := (fun k_ => ((P0_ k_ ∨ P1_ k_) ∨ w.heap.size ≤ k_))) (HO0.out) (fun k_ hk => hk))))) (Reps.one (show Kd.FK (Kd.slice 47 (Kd.int .u64)) _ _ l1 [.slice A1 l1.length c1] from (Kd.FK_slice_mk (Kd.V_reads' (Kd.V_mono (ok' := (fun k_ => ((P0_ k_ ∨ P1_ k_) ∨ w.heap.size ≤ k_))) (HO1.out) (fun k_ hk => hk))).2.1 (Kd.V_F (Kd.V_mono (ok' := (fun k_ => ((P0_ k_ ∨ P1_ k_) ∨ w.heap.size ≤ k_))) (HO1.out) (fun k_ hk => hk))))) (Reps.none _ _)))); intro v506 w26 ho27 hb hg_ hnew_; clear hg_ hnew_; (first | rw [← Ny505.out] at ho27 | (simp only [Int.reduceToNat] at ho27; rw [← Ny505.out] at ho27)); replace HO0 := Aside0.mk (Kd.V_elder' (uV HO0.out) (Kd.N_base ho27) hb); replace HO1 := Aside0.mk (Kd.V_elder' (uV HO1.out) (Kd.N_base ho27) hb); have HO507 := Aside0.mk (Kd.N_lower ho27 (below_size uB)); replace HB := uy hb; clear hb ho27; obtain ⟨Ao28, co28, eo28⟩ := Kd.N_slice HO507.out; subst eo28) | ((with_reducible refine gate_callee (f := 74) rfl ?_); refine goesL_ (some 15) rfl rfl Try.func74 (by kernel_rfl) rfl #[.slice Ao28 y505.length co28] rfl uM ?_; (with_reducible refine (nat_right.calls _ _ y505 true _ ?side1 ?side2 A3.out).mono ?_); (case side1 => exact uC (Kd.N_reads' HO507.out).2.2); (case side2 => exact (Kd.N_reads' HO507.out).2.1); rintro e w' ⟨rfl, ⟨nd, rfl⟩⟩; refine ⟨_, rfl, ?_⟩) | ((with_reducible refine gate_callee (f := 75) rfl ?_); refine goesL_ (some 24) rfl rfl Try.func75 (by kernel_rfl) rfl #[.slice A0 l0.length c0, .slice A1 l1.length c1] rfl uM ?_; (with_reducible refine (nat_compare.calls k _ _ l0 _ _ l1 t509 _ ?side1 ?side2 ?side3 ?side4 A9.out).mono ?_); (case side1 => exact uC (Kd.V_reads' HO0.out).2.2); (case side2 => exact (Kd.V_reads' HO0.out).2.1); (case side3 => exact uC (Kd.V_reads' HO1.out).2.2); (case side4 => exact (Kd.V_reads' HO1.out).2.1); rintro e w' ⟨rfl, ⟨nd, rfl⟩⟩; refine ⟨_, rfl, ?_⟩) | ((with_reducible refine gate_callee (f := 109) rfl ?_); refine goesL_ (some 46) rfl rfl Try.func109 (by kernel_rfl) rfl #[.slice A0 l0.length c0, .slice A1 l1.length c1] rfl uM ?_; (with_reducible refine (nat_long.calls k _ _ l0 _ _ l1 t521 t522 _ ?side1 ?side2 ?side3 ?side4 A25.out).mono ?_); (case side1 => exact uC (Kd.V_reads' HO0.out).2.2); (case side2 => exact (Kd.V_reads' HO0.out).2.1); (case side3 => exact uC (Kd.V_reads' HO1.out).2.2); (case side4 => exact (Kd.V_reads' HO1.out).2.1); rintro e w29 ⟨v523, v525, rfl, ho0, ho1, hb⟩; refine ⟨_, rfl, ?_⟩; replace HO0 := Aside0.mk (Kd.V_mono (Kd.V_told (Kd.V_told (Kd.V_old (uV HO0.out) hb) (Kd.R_base ho0)) (Kd.R_base ho1)) (fun _ h_ => h_.1)); replace HO1 := Aside0.mk (Kd.V_mono (Kd.V_told (Kd.V_told (Kd.V_old (uV HO1.out) hb) (Kd.R_base ho0)) (Kd.R_base ho1)) (fun _ h_ => h_.1)); replace HO507 := Aside0.mk (Kd.N_mono (Kd.N_told (Kd.N_told (Kd.N_old (uN HO507.out) hb) (Kd.R_base ho0)) (Kd.R_base ho1)) (fun _ h_ => h_.1)); have HO524 := Aside0.mk (Kd.R_lower (Kd.R_newM (M := fun k_ => (w.heap.size ≤ k_)) ho0 (below_size uB) (fun k_ h_ => h_)) (below_size uB)); have HO526 := Aside0.mk (Kd.R_lower (Kd.R_newM (M := fun k_ => (w.heap.size ≤ k_)) ho1 (below_size uB) (fun k_ h_ => h_)) (below_size uB)); replace HB := uy hb; (try clear hb ho0 ho1)))
  go_ret3
  exact ⟨_, _, uF, uR HO524.out, uR HO526.out, uB⟩
 replace c4 := Bool.eq_false_iff.mpr c4
 subst c4
 have H1 : (some (([] : List Int), ([] : List Int), 1)) = some (r1, r2, r3) := by rw [if_neg (show ¬ (false = true) by decide)] at H; exact H
 clear H; have H := H1; clear H1
 simp only [Option.some.injEq, Prod.mk.injEq] at H
 obtain ⟨rfl, rfl, rfl⟩ := H
 go_enter Try.func91, Try.ntmps91
 go_wp2_with (first | ((with_reducible refine gate_dst (N := 14) rfl ?_); refine Kd.N_lit (Kd.slice 47 (Kd.int .u64)) _ 29 ?hg (N' := 14) ?hd (xs := ([l0, l1] : List (List Int))) (inner := [.slice A0 l0.length c0, .slice A1 l1.length c1]) (ok := (fun k_ => ((P0_ k_ ∨ P1_ k_) ∨ w.heap.size ≤ k_))) (okp := (fun k_ => ((P0_ k_ ∨ P1_ k_) ∨ w.heap.size ≤ k_))) ?hr ?hp (fun _ hk => hk) ((show ∀ k_, w.heap.size ≤ k_ → (fun k_ => ((P0_ k_ ∨ P1_ k_) ∨ w.heap.size ≤ k_)) k_ from fun k_ hk => (.inr (Nat.le_trans (below_size uB) hk))) _ (Nat.le_refl _)) (Below.refl _ _) (Nat.le_refl _) (by simp) ?_; (case hd => rfl); (case hg => rfl); (case hr => first | (go_simp; done) | (go_simp; rfl) | (go_simp; simp only [u64_u8]; done) | (go_simp; simp only [u64_u8]; rfl)); (case hp => exact (Reps.one (show Kd.FK (Kd.slice 47 (Kd.int .u64)) _ _ l0 [.slice A0 l0.length c0] from (Kd.FK_slice_mk (Kd.V_reads' (Kd.V_mono (ok' := (fun k_ => ((P0_ k_ ∨ P1_ k_) ∨ w.heap.size ≤ k_))) (HO0.out) (fun k_ hk => hk))).2.1 (Kd.V_F (Kd.V_mono (ok' := (fun k_ => ((P0_ k_ ∨ P1_ k_) ∨ w.heap.size ≤ k_))) (HO0.out) (fun k_ hk => hk))))) (Reps.one (show Kd.FK (Kd.slice 47 (Kd.int .u64)) _ _ l1 [.slice A1 l1.length c1] from (Kd.FK_slice_mk (Kd.V_reads' (Kd.V_mono (ok' := (fun k_ => ((P0_ k_ ∨ P1_ k_) ∨ w.heap.size ≤ k_))) (HO1.out) (fun k_ hk => hk))).2.1 (Kd.V_F (Kd.V_mono (ok' := (fun k_ => ((P0_ k_ ∨ P1_ k_) ∨ w.heap.size ≤ k_))) (HO1.out) (fun k_ hk => hk))))) (Reps.none _ _)))); intro v506 w30 ho31 hb hg_ hnew_; clear hg_ hnew_; (first | rw [← Ny505.out] at ho31 | (simp only [Int.reduceToNat] at ho31; rw [← Ny505.out] at ho31)); replace HO0 := Aside0.mk (Kd.V_elder' (uV HO0.out) (Kd.N_base ho31) hb); replace HO1 := Aside0.mk (Kd.V_elder' (uV HO1.out) (Kd.N_base ho31) hb); have HO507 := Aside0.mk (Kd.N_lower ho31 (below_size uB)); replace HB := uy hb; clear hb ho31; obtain ⟨Ao32, co32, eo32⟩ := Kd.N_slice HO507.out; subst eo32) | ((with_reducible refine gate_callee (f := 74) rfl ?_); refine goesL_ (some 15) rfl rfl Try.func74 (by kernel_rfl) rfl #[.slice Ao32 y505.length co32] rfl uM ?_; (with_reducible refine (nat_right.calls _ _ y505 false _ ?side1 ?side2 A3.out).mono ?_); (case side1 => exact uC (Kd.N_reads' HO507.out).2.2); (case side2 => exact (Kd.N_reads' HO507.out).2.1); rintro e w' ⟨rfl, ⟨nd, rfl⟩⟩; refine ⟨_, rfl, ?_⟩))
 go_ret3
 exact ⟨_, _, uF, uI, uI, uB⟩
end Go.Proofs.Ytgeanpnkllnipaa.F
end
section
namespace Go.Proofs.Ytgeanpnkllnipaa.F
open Go.RowKit Go.Proofs.YtgeanpnkllnipaaW.PrintWords Go.Proofs.YtgeanpnkllnipaaW.PrintLast Go.Proofs.YtgeanpnkllnipaaW.PrintMore
attribute [local go_sem] max2_int min2_int max_two min_two max_three min_three max_four min_four
set_option linter.unusedVariables false
set_option linter.unusedSimpArgs false
mutual
def modint_Gcd.j0 : Nat → List Int → List Int → Bool → Option (List Int × Int)
 | 0, _, _, _ => none
 | k + 1, x0, x1, x16 => if x16 = true then (some (([] : List Int), 1)) else ((api_Nat_uint64.f x0).bind fun t529 => ((api_Nat_uint64.f x1).bind fun t532 => (modint_Gcd.l0 k t529 t532)))
def modint_Gcd.l0 : Nat → List Int → List Int → Option (List Int × Int)
 | 0, _, _ => none
 | k + 1, x0, x1 => if (x1.length : Int) > 0 then ((nat_Div.f k x0 x1).bind fun bt535 => (modint_Gcd.l0 k x1 bt535.2.1)) else (some (x0, 0))
end
def modint_Gcd.f (k : Nat) (l0 : List Int) (l1 : List Int) : Option (List Int × Int) := (nat_Right.f l0).bind fun t527 => (if t527 = true then ((nat_Right.f l1).bind fun t528 => (modint_Gcd.j0 k l0 l1 (!t528))) else (modint_Gcd.j0 k l0 l1 true))
set_option maxHeartbeats 8000000 in
set_option maxRecDepth 100000 in
theorem modint_Gcd.calls (k : Nat) (A0 : Option Addr) (c0 : Nat) (l0 : List Int) (A1 : Option Addr) (c1 : Nat) (l1 : List Int) (r1 : List Int) (r2 : Int) (w : World) (hr0 : Kd.C (Kd.int .u64) w A0 l0.length l0) (hc0 : l0.length ≤ c0) (hr1 : Kd.C (Kd.int .u64) w A1 l1.length l1) (hc1 : l1.length ≤ c1) (h : modint_Gcd.f k l0 l1 = some (r1, r2)) :
  Calls Try.prog 64 #[.slice A0 l0.length c0, .slice A1 l1.length c1] w fun e w' => ∃ v0_ : Value, e = .returned (.tuple #[v0_, .int .i64 r2]) ∧ Kd.R (Kd.int .u64) 47 w' w.heap.size (fun _ => True) v0_ r1 ∧ Below w.heap.size w w' := by
 have HR0 := Aside0.mk hr0; have HC0 := Aside0.mk hc0; clear hr0 hc0; have HR1 := Aside0.mk hr1; have HC1 := Aside0.mk hc1; clear hr1 hc1
 have HB := Aside0.mk (Below.refl w.heap.size w)
 have H : ((nat_Right.f l0).bind fun t527 => (if t527 = true then ((nat_Right.f l1).bind fun t528 => (modint_Gcd.j0 k l0 l1 (!t528))) else (modint_Gcd.j0 k l0 l1 true))) = some (r1, r2) := h
 clear h; have HC3 := Aside0.mk H; clear H
 go_enter Try.func64, Try.ntmps64
 go_upto_region 1 with (fail)
 go_cut [16] (fun v16 wc => ∃ (kq : Nat) (x16_2 : Bool), v16 = .bool x16_2 ∧ Aside0 (modint_Gcd.j0 kq l0 l1 x16_2 = some (r1, r2)) ∧ Aside0 (kq ≤ k) ∧ Aside0 (Below w.heap.size w wc))
 case first =>
  have H := HC3.out
  clear HC3
  replace H := ub H; obtain ⟨t527, A4, H⟩ := H
  by_cases c5 : t527 = true
  ·
   subst c5
   have H1 : ((nat_Right.f l1).bind fun t528 => (modint_Gcd.j0 k l0 l1 (!t528))) = some (r1, r2) := by rw [if_pos rfl] at H; exact H
   clear H; have H := H1; clear H1
   replace H := ub H; obtain ⟨t528, A6, H⟩ := H
   have H' := Aside0.mk H
   clear H
   go_wp2_with (first | ((with_reducible refine gate_callee (f := 41) rfl ?_); refine goesL_ (some 10) rfl rfl Try.func41 (by kernel_rfl) rfl #[.slice A0 l0.length c0] rfl uM ?_; (with_reducible refine (nat_Right.calls _ _ l0 true _ ?side1 ?side2 A4.out).mono ?_); (case side1 => exact uC (Kd.C_below HR0.out HB.out)); (case side2 => exact HC0.out); rintro e w' ⟨rfl, ⟨nd, rfl⟩⟩; refine ⟨_, rfl, ?_⟩) | (go_at_call 41; (with_reducible refine (nat_Right.calls _ _ l1 t528 _ ?side1 ?side2 A6.out).mono ?_); (case side1 => exact uC (Kd.C_below HR1.out uB)); (case side2 => exact HC1.out); rintro e w' ⟨rfl, ⟨nd, rfl⟩⟩))
   go_meet
   case rel => exact ⟨_, (!t528), uG, H', ⟨uW⟩, ⟨uB⟩⟩
  replace c5 := Bool.eq_false_iff.mpr c5
  subst c5
  have H1 : (modint_Gcd.j0 k l0 l1 true) = some (r1, r2) := by rw [if_neg (show ¬ (false = true) by decide)] at H; exact H
  clear H; have H := H1; clear H1
  have H' := Aside0.mk H
  clear H
  go_wp2_with (first | ((with_reducible refine gate_callee (f := 41) rfl ?_); refine goesL_ (some 10) rfl rfl Try.func41 (by kernel_rfl) rfl #[.slice A0 l0.length c0] rfl uM ?_; (with_reducible refine (nat_Right.calls _ _ l0 false _ ?side1 ?side2 A4.out).mono ?_); (case side1 => exact uC (Kd.C_below HR0.out HB.out)); (case side2 => exact HC0.out); rintro e w' ⟨rfl, ⟨nd, rfl⟩⟩; refine ⟨_, rfl, ?_⟩))
  go_meet
  case rel => exact ⟨_, (true), uG, H', ⟨uW⟩, ⟨uB⟩⟩
 case rest =>
  clear HC3; (try clear c1); (try clear p2); (try clear c4); (try clear c5); (try clear c6)
  obtain ⟨kq, x16_2, rfl, HA, HJ2, HB⟩ := hcut
  cases kq with
  | zero => exact absurd HA.out (by simp [modint_Gcd.j0])
  | succ kj2 =>
   have H := HA.out
   clear HA
   simp only [modint_Gcd.j0] at H
   by_cases c7 : x16_2 = true
   ·
    subst c7
    have H1 : (some (([] : List Int), 1)) = some (r1, r2) := by rw [if_pos rfl] at H; exact H
    clear H; have H := H1; clear H1
    simp only [Option.some.injEq, Prod.mk.injEq] at H
    obtain ⟨rfl, rfl⟩ := H
    go_wp2
    go_ret2
    exact ⟨_, uF, uI, uB⟩
   replace c7 := Bool.eq_false_iff.mpr c7
   subst c7
   have H1 : ((api_Nat_uint64.f l0).bind fun t529 => ((api_Nat_uint64.f l1).bind fun t532 => (modint_Gcd.l0 kj2 t529 t532))) = some (r1, r2) := by rw [if_neg (show ¬ (false = true) by decide)] at H; exact H
   clear H; have H := H1; clear H1
   replace H := ub H; obtain ⟨t529, A8, H⟩ := H
   replace H := ub H; obtain ⟨t532, A9, H⟩ := H
   have H' := Aside0.mk H
   clear H
   go_wp2_with (first | ((with_reducible refine gate_callee (f := 90) rfl ?_); refine goesL_ (some 18) rfl rfl Try.func90 (by kernel_rfl) rfl #[.slice A0 l0.length c0] rfl uM ?_; (with_reducible refine (api_Nat_uint64.calls _ _ l0 t529 _ ?side1 ?side2 A8.out).mono ?_); (case side1 => exact uC (Kd.C_below HR0.out HB.out)); (case side2 => exact HC0.out); rintro e w10 ⟨v530, rfl, ho0, hb⟩; refine ⟨_, rfl, ?_⟩; have HO531 := Aside0.mk (Kd.R_lower ho0 (below_size uB)); replace HB := uy hb; (try clear hb ho0)) | ((with_reducible refine gate_callee (f := 90) rfl ?_); refine goesL_ (some 20) rfl rfl Try.func90 (by kernel_rfl) rfl #[.slice A1 l1.length c1] rfl uM ?_; (with_reducible refine (api_Nat_uint64.calls _ _ l1 t532 _ ?side1 ?side2 A9.out).mono ?_); (case side1 => exact uC (Kd.C_below HR1.out HB.out)); (case side2 => exact HC1.out); rintro e w11 ⟨v533, rfl, ho0, hb⟩; refine ⟨_, rfl, ?_⟩; have HO534 := Aside0.mk (Kd.R_lower (Kd.R_new' ho0 (Kd.R_lt (uR HO531.out))) (below_size uB)); replace HO531 := ueR HO531 ho0 hb; replace HB := uy hb; (try clear hb ho0)))
   go_loopg [0, 1] kj2 (fun kq v0 v1 w' => ∃ (x0_2 : List Int) (x1_2 : List Int), Aside0 (modint_Gcd.l0 kq x0_2 x1_2 = some (r1, r2)) ∧ Aside0 (kq ≤ kj2) ∧ Aside0 (Kd.R (Kd.int .u64) 47 w' w.heap.size (fun k_ => some k_ ≠ (v1 : Value).ownBlock) v0 x0_2) ∧ Aside0 (Kd.R (Kd.int .u64) 47 w' w.heap.size (fun k_ => some k_ ≠ (v0 : Value).ownBlock) v1 x1_2) ∧ Aside0 (Below w.heap.size w w'))
   case atStart => exact ⟨(t529), (t532), H', ⟨Nat.le_refl _⟩, ⟨by (with_reducible repeat (first | apply Kd.R_alloc | apply Kd.R_drewN | apply Kd.R_drew)); exact Kd.R_mono HO531.out (fun _ hk => hk.2)⟩, ⟨by (with_reducible repeat (first | apply Kd.R_alloc | apply Kd.R_drewN | apply Kd.R_drew)); exact Kd.R_mono HO534.out (fun _ hk => hk.2)⟩, ⟨uB⟩⟩
   case round =>
    clear H'
    (try clear c1); (try clear p2); (try clear c4); (try clear c5); (try clear c6); (try clear c7); (try clear c9); (try clear p2)
    obtain ⟨x0_2, x1_2, HA, HK2, HO_0, HO_1, HB⟩ := hrel
    cases gk with
    | zero => exact absurd HA.out (by simp [modint_Gcd.l0])
    | succ k2 =>
     have H := HA.out
     clear HA
     simp only [modint_Gcd.l0] at H
     by_cases c12 : (x1_2.length : Int) > 0
     ·
      rw [if_pos c12] at H
      have c12b0 : decide (0 < (x1_2.length : Int)) = true := decide_eq_true c12
      have c12b1 : decide (0 < x1_2.length) = true := decide_eq_true (by omega)
      clear c12
      replace H := ub H; obtain ⟨⟨t535, t538, t541⟩, A13, H⟩ := H
      (try dsimp only at H)
      have H' := Aside0.mk H
      clear H
      obtain ⟨Ao14, co14, eo14⟩ := Kd.R_slice HO_1.out
      subst eo14
      obtain ⟨Ao15, co15, eo15⟩ := Kd.R_slice HO_0.out
      subst eo15
      go_wp2_with (first | ((with_reducible refine gate_callee (f := 91) rfl ?_); refine goesL_ (some 27) rfl rfl Try.func91 (by kernel_rfl) rfl #[.slice Ao15 x0_2.length co15, .slice Ao14 x1_2.length co14] rfl uM ?_; (with_reducible refine (nat_Div.calls k2 (fun k_ => some k_ = (.slice Ao15 x0_2.length co15 : Value).ownBlock) _ _ x0_2 (fun k_ => some k_ = (.slice Ao14 x1_2.length co14 : Value).ownBlock) _ _ x1_2 t535 t538 t541 _ ?side1 ?side2 A13.out).mono ?_); (case side1 => exact Kd.R_V (Kd.R_tight rfl (HO_0.out))); (case side2 => exact Kd.R_V (Kd.R_tight rfl (HO_1.out))); rintro e w16 ⟨v536, v539, rfl, ho0, ho1, hb⟩; refine ⟨_, rfl, ?_⟩; have HO537 := Aside0.mk (Kd.R_lower (Kd.R_new' (Kd.R_new' (Kd.R_mono (ok' := fun k_ => some k_ ≠ (v539 : Value).ownBlock) ho0 (fun _ hk_ => hk_.2)) (Kd.R_lt (uR HO_0.out))) (Kd.R_lt (uR HO_1.out))) (below_size uB)); have HO540 := Aside0.mk (Kd.R_lower (Kd.R_new' (Kd.R_new' (Kd.R_mono (ok' := fun k_ => some k_ ≠ (v536 : Value).ownBlock) ho1 (fun _ hk_ => hk_.2)) (Kd.R_lt (uR HO_0.out))) (Kd.R_lt (uR HO_1.out))) (below_size uB)); replace HO_0 := Aside0.mk (Kd.R_mono (Kd.R_told (Kd.R_told (Kd.R_old (uR HO_0.out) hb) (Kd.R_base ho0)) (Kd.R_base ho1)) (fun _ h_ => h_.1)); replace HO_1 := Aside0.mk (Kd.R_mono (Kd.R_told (Kd.R_told (Kd.R_old (uR HO_1.out) hb) (Kd.R_base ho0)) (Kd.R_base ho1)) (fun _ h_ => h_.1)); replace HB := uy hb; (try clear hb ho0 ho1)))
      go_roundg k2
      case measure => have := HJ2.out; have := HK2.out; omega
      case rel => exact ⟨(x1_2), (t538), H', ⟨by have := HJ2.out; have := HK2.out; omega⟩, ⟨by (with_reducible repeat (first | apply Kd.R_alloc | apply Kd.R_drewN | apply Kd.R_drew)); exact Kd.R_mono HO_1.out (fun _ hk => hk.2)⟩, ⟨by (with_reducible repeat (first | apply Kd.R_alloc | apply Kd.R_drewN | apply Kd.R_drew)); exact Kd.R_mono HO540.out (fun _ hk => hk.2)⟩, ⟨uB⟩⟩
     rw [if_neg c12] at H
     have c12b0 : decide (0 < (x1_2.length : Int)) = false := decide_eq_false c12
     have c12b1 : decide (0 < x1_2.length) = false := decide_eq_false (by omega)
     clear c12
     simp only [Option.some.injEq, Prod.mk.injEq] at H
     obtain ⟨rfl, rfl⟩ := H
     obtain ⟨Ao17, co17, eo17⟩ := Kd.R_slice HO_1.out
     subst eo17
     go_wp2
     go_ret2
     exact ⟨_, uF, by (with_reducible repeat (first | apply Kd.R_alloc | apply Kd.R_drewN | apply Kd.R_drew)); exact Kd.R_mono HO_0.out (fun _ hk => trivial), uB⟩
end Go.Proofs.Ytgeanpnkllnipaa.F
end
