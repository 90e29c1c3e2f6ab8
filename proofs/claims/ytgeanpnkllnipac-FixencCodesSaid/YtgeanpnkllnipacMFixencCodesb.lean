/- Proved: the law FixencCodes of layer 7: any whole number by any modulus, and back, is the document's; for every input, without a condition. -/
import Derived.Test.YtgeanpnkllnipacMFixencCodesa

section
namespace Go.Proofs.Ytgeanpnkllnipac.F
open Go.RowKit Go.Proofs.YtgeanpnkllnipacW.PrintWords Go.Proofs.YtgeanpnkllnipacW.PrintLast Go.Proofs.YtgeanpnkllnipacW.PrintMore
set_option linter.unusedVariables false
set_option linter.unusedSimpArgs false

/-- Are all numbers? -/
def nat_right.f : List (List Int) → Option Bool
  | [] => some true
  | a :: l => (nat_Right.f a).bind fun b => if b = true then nat_right.f l else some false

/-- Where the first one stands that is none; the number of all: there is none. -/
def nat_right.ix : List (List Int) → Option Nat
  | [] => some 0
  | a :: l => (nat_Right.f a).bind fun b => if b = true then (nat_right.ix l).map (· + 1) else some 0

theorem nat_right.ix_of {l : List (List Int)} {r : Bool} (h : nat_right.f l = some r) : ∃ k, nat_right.ix l = some k ∧ k ≤ l.length ∧ (r = true ↔ k = l.length) ∧ (∀ j, j < k → nat_Right.f (l.getD j []) = some true) ∧ (k < l.length → nat_Right.f (l.getD k []) = some false) := by
  induction l generalizing r with
  | nil =>
    simp only [nat_right.f, Option.some.injEq] at h
    exact ⟨0, rfl, Nat.le_refl _, by simp [← h], fun j hj => absurd hj (Nat.not_lt_zero _), fun hj => absurd hj (Nat.not_lt_zero _)⟩
  | cons a l ih =>
    simp only [nat_right.f] at h
    cases hb : nat_Right.f a with
    | none => rw [hb] at h; simp at h
    | some b =>
      rw [hb] at h
      simp only [Option.bind_some] at h
      cases b with
      | true =>
        simp only [if_true] at h
        obtain ⟨k, hk, hle, hr, hj, hl⟩ := ih h
        refine ⟨k + 1, by simp [nat_right.ix, hb, hk], by simp; omega, by simp [hr], ?_, ?_⟩
        · intro j hjk
          cases j with
          | zero => simpa using hb
          | succ j => simpa using hj j (by omega)
        · intro hlt
          simpa using hl (by simpa using hlt)
      | false =>
        simp at h
        refine ⟨0, by simp [nat_right.ix, hb], Nat.zero_le _, ?_, fun j hj => absurd hj (Nat.not_lt_zero _), fun _ => by simpa using hb⟩
        simp [← h]

set_option maxHeartbeats 1000000 in
theorem nat_right.closure (A0 : Option Addr) (c0 : Nat) (l0 : List Int) (r : Bool) (w : World) (hr0 : Kd.C (Kd.int .u64) w A0 l0.length l0) (hc0 : l0.length ≤ c0) (h : nat_Right.f l0 = some r) :
    Calls Try.prog 113 #[.slice A0 l0.length c0] w fun e w' => e = .returned (.bool (!r)) ∧ Drawn0 w w' := by
  have hcall := nat_Right.calls A0 c0 l0 r w hr0 hc0 h
  clear hr0 hc0 h
  have HC := Aside0.mk hcall
  clear hcall
  go_enter Try.func113, Try.ntmps113
  go_wp2_with (go_at_call 42; refine HC.out.mono ?_; rintro e w' ⟨rfl, hd⟩)
  go_ret
  exact ⟨rfl, hd⟩

set_option maxHeartbeats 8000000 in
set_option maxRecDepth 100000 in
theorem nat_right.index (A0 : Option Addr) (c0 : Nat) (l0 : List (List Int)) (r : Bool) (w : World) (hr0 : Kd.C (Kd.slice 42 (Kd.int .u64)) w A0 l0.length l0) (hc0 : l0.length ≤ c0) (h : nat_right.f l0 = some r) :
    Calls Try.prog 141 #[.slice A0 l0.length c0, .func (.func 113) #[] #[]] w fun e w' => (∃ k : Int, e = .returned (.int .i64 k) ∧ decide (0 ≤ k) = !r) ∧ Drawn0 w w' := by
  have HR0 := Aside0.mk hr0
  obtain ⟨k, hk, hle, hr, hj, hl⟩ := nat_right.ix_of h
  have hbig : l0.length ≤ 9223372036854775807 := hr0.2.1
  have HJ := Aside0.mk hj
  have HL := Aside0.mk hl
  have HRR := Aside0.mk hr
  clear hr0 hc0 hj hl hk h hr
  go_enter Try.func141, Try.ntmps141
  go_wp2
  go_loopg [5, 8] l0.length (fun gg _ s8 wr => ∃ kk : Nat, kk ≤ k ∧ l0.length - kk ≤ gg ∧ s8 = .int .i64 kk ∧ Aside0 (Drawn0 w wr))
  case atStart => exact ⟨0, Nat.zero_le _, by omega, rfl, ⟨Drawn0.refl _⟩⟩
  case round =>
    obtain ⟨kk, hkk, hg, rfl, D⟩ := hrel
    by_cases hlt : kk < l0.length
    · have hltz : (kk : Int) < (l0.length : Int) := by omega
      have hC1 : Kd.C (Kd.slice 42 (Kd.int .u64)) wr A0 l0.length l0 := Kd.C_below HR0.out D.out.below
      have h0k : (0 : Int) ≤ (kk : Int) := Int.natCast_nonneg kk
      obtain ⟨ad, c, hA, _, hK, hc⟩ := Kd.C_get hC1 ([] : List Int) (kk : Int) h0k hltz
      obtain ⟨A1, c1, rfl, hl1, hi1⟩ := hK
      subst hA
      have hcell := hc 0 _ rfl
      rw [Nat.add_zero, show (Kd.slice 42 (Kd.int .u64)).sz = 1 from rfl, Nat.mul_one] at hcell
      simp only [Go.IntWalk.toNatUp] at hcell hl1 hi1
      have HX := HJ.out kk
      have HY := HL.out
      clear hc hC1
      generalize hx : l0.getD kk [] = x at hcell hl1 hi1 HX
      by_cases hlast : kk < k
      · have hcall := Aside0.mk (nat_right.closure A1 c1 x true wr hi1 hl1 (HX hlast))
        have D2 := D
        clear D hi1 HX HY hx
        go_wp2_with (go_at_call 113; refine hcall.out.mono ?_; rintro e w' ⟨rfl, ⟨q, rfl⟩⟩)
        go_roundg (l0.length - (kk + 1))
        case measure => omega
        case rel => exact ⟨kk + 1, by omega, by omega, by go_num, ⟨D2.out.step _⟩⟩
      · have hkk' : kk = k := by omega
        subst hkk'
        have HZ := HY hlt
        rw [hx] at HZ
        have hcall := Aside0.mk (nat_right.closure A1 c1 x false wr hi1 hl1 HZ)
        have hr : r = false := by
          cases r with
          | false => rfl
          | true => have := HRR.out.1 rfl; omega
        have HR := Aside0.mk hr
        have D2 := D
        clear D hi1 HX HY hx HZ hr
        go_wp2_with (go_at_call 113; refine hcall.out.mono ?_; rintro e w' ⟨rfl, ⟨q, rfl⟩⟩)
        go_ret
        exact ⟨⟨_, rfl, by rw [HR.out]; simp⟩, D2.out.step _⟩
    · have hltz : ¬ (kk : Int) < (l0.length : Int) := by omega
      have hr : r = true := HRR.out.2 (by omega)
      have HR := Aside0.mk hr
      clear hr
      go_wp2
      go_ret
      exact ⟨⟨_, rfl, by rw [HR.out]; simp⟩, D.out⟩

set_option maxHeartbeats 8000000 in
set_option maxRecDepth 100000 in
theorem nat_right.contains (A0 : Option Addr) (c0 : Nat) (l0 : List (List Int)) (r : Bool) (w : World) (hr0 : Kd.C (Kd.slice 42 (Kd.int .u64)) w A0 l0.length l0) (hc0 : l0.length ≤ c0) (h : nat_right.f l0 = some r) :
    Calls Try.prog 104 #[.slice A0 l0.length c0, .func (.func 113) #[] #[]] w fun e w' => e = .returned (.bool (!r)) ∧ Drawn0 w w' := by
  have hcall := Aside0.mk (nat_right.index A0 c0 l0 r w hr0 hc0 h)
  clear hr0 hc0 h
  go_enter Try.func104, Try.ntmps104
  go_wp2_with (go_at_call 141; refine hcall.out.mono ?_; rintro e w' ⟨⟨k, rfl, hk⟩, hd⟩; have HK := Aside0.mk hk; have HD := Aside0.mk hd; clear hk hd)
  go_ret
  exact ⟨by rw [← HK.out]; rfl, HD.out⟩

set_option maxHeartbeats 8000000 in
set_option maxRecDepth 100000 in
theorem nat_right.calls (A0 : Option Addr) (c0 : Nat) (l0 : List (List Int)) (r : Bool) (w : World) (hr0 : Kd.C (Kd.slice 42 (Kd.int .u64)) w A0 l0.length l0) (hc0 : l0.length ≤ c0) (h : nat_right.f l0 = some r) :
    Calls Try.prog 69 #[.slice A0 l0.length c0] w fun e w' => e = .returned (.bool r) ∧ Drawn0 w w' := by
  have hcall := Aside0.mk (nat_right.contains A0 c0 l0 r w hr0 hc0 h)
  clear hr0 hc0 h
  go_enter Try.func69, Try.ntmps69
  go_wp2_with (go_at_call 104; refine hcall.out.mono ?_; rintro e w' ⟨rfl, hd⟩; have HD := Aside0.mk hd; clear hd)
  go_ret
  exact ⟨by cases r <;> rfl, HD.out⟩
end Go.Proofs.Ytgeanpnkllnipac.F
end

section
namespace Go.Proofs.Ytgeanpnkllnipac.F
open Go.RowKit Go.Proofs.YtgeanpnkllnipacW.PrintWords Go.Proofs.YtgeanpnkllnipacW.PrintLast Go.Proofs.YtgeanpnkllnipacW.PrintMore
attribute [local go_sem] max2_int min2_int max_two min_two max_three min_three max_four min_four   -- for this text's walks alone
set_option linter.unusedVariables false
set_option linter.unusedSimpArgs false

/-! ### nat_Add: function 20 -/
def nat_Add.f (k : Nat) (l0 : List Int) (l1 : List Int) : Option (List Int × Int) := (nat_right.f (([l0, l1] : List (List Int)))).bind fun t316 => (if t316 = true then ((nat_sum.f k l0 l1).bind fun t317 => ((nat_told.f k t317).bind fun bt320 => (some (bt320.1, bt320.2)))) else (some (([] : List Int), 1)))
theorem nat_Add.mono : ∀ a0 a1 k, LeO (nat_Add.f k a0 a1) (nat_Add.f (k + 1) a0 a1) := by
  intro a0 a1 k
  unfold nat_Add.f
  repeat' first
      | (with_reducible exact nat_sum.mono _ _ _)
      | (with_reducible exact nat_told.mono _ _)
      | (with_reducible exact LeO.refl _)
      | (with_reducible exact LeO.none _)
      | (with_reducible refine LeO.ite ?_ ?_)
      | (with_reducible refine LeO.bind ?_ (fun _ => ?_))
      | exact nat_sum.mono _ _ _
      | exact nat_told.mono _ _
      | exact LeO.none _
      | refine LeO.ite ?_ ?_
      | refine LeO.bind ?_ (fun _ => ?_)
set_option maxHeartbeats 8000000 in
set_option maxRecDepth 100000 in
theorem nat_Add.calls (k : Nat) (P0_ : Nat → Prop) (A0 : Option Addr) (c0 : Nat) (l0 : List Int) (P1_ : Nat → Prop) (A1 : Option Addr) (c1 : Nat) (l1 : List Int) (r1 : List Int) (r2 : Int) (w : World) (hs0 : Kd.V (Kd.int .u64) 42 w w.heap.size (fun k_ => P0_ k_) (.slice A0 l0.length c0) l0) (hs1 : Kd.V (Kd.int .u64) 42 w w.heap.size (fun k_ => P1_ k_) (.slice A1 l1.length c1) l1) (h : nat_Add.f k l0 l1 = some (r1, r2)) :
    Calls Try.prog 20 #[.slice A0 l0.length c0, .slice A1 l1.length c1] w fun e w' => ∃ v0_ : Value, e = .returned (.tuple #[v0_, .int .i64 r2]) ∧ Kd.R (Kd.int .u64) 42 w' w.heap.size (fun k_ => (w.heap.size ≤ k_)) v0_ r1 ∧ Below w.heap.size w w' := by
  have HO0 := Aside0.mk (show Kd.V (Kd.int .u64) 42 w w.heap.size (fun k_ => ((P0_ k_ ∨ P1_ k_) ∨ w.heap.size ≤ k_)) (.slice A0 l0.length c0) l0 from Kd.V_mono hs0 (fun k_ hk => .inl (.inl hk)))
  have HO1 := Aside0.mk (show Kd.V (Kd.int .u64) 42 w w.heap.size (fun k_ => ((P0_ k_ ∨ P1_ k_) ∨ w.heap.size ≤ k_)) (.slice A1 l1.length c1) l1 from Kd.V_mono hs1 (fun k_ hk => .inl (.inr hk)))
  have HB := Aside0.mk (Below.refl w.heap.size w)
  have H : ((nat_right.f (([l0, l1] : List (List Int)))).bind fun t316 => (if t316 = true then ((nat_sum.f k l0 l1).bind fun t317 => ((nat_told.f k t317).bind fun bt320 => (some (bt320.1, bt320.2)))) else (some (([] : List Int), 1)))) = some (r1, r2) := h
  clear h
  obtain ⟨y313, hy313⟩ : ∃ y_ : List (List Int), y_ = (([l0, l1] : List (List Int))) := ⟨_, rfl⟩
  replace H : ((nat_right.f y313).bind fun t316 => (if t316 = true then ((nat_sum.f k l0 l1).bind fun t317 => ((nat_told.f k t317).bind fun bt320 => (some (bt320.1, bt320.2)))) else (some (([] : List Int), 1)))) = some (r1, r2) := by first | (rw [hy313]; with_reducible exact H) | (have H2_ := (Option.bind_some _ _).symm.trans H; rw [hy313]; with_reducible exact H2_) | (have H2_ := (Option.bind_some _ _).symm.trans H; with_reducible exact H2_) | with_reducible exact H | (rw [hy313]; exact H) | exact H
  have Ny313 := Aside0.mk hy313
  clear hy313
  replace H := Option.bind_eq_some_iff.mp H
  obtain ⟨t316, A30, H⟩ := H
  replace H : (if t316 = true then ((nat_sum.f k l0 l1).bind fun t317 => ((nat_told.f k t317).bind fun bt320 => (some (bt320.1, bt320.2)))) else (some (([] : List Int), 1))) = some (r1, r2) := H
  have A3 := Aside0.mk A30
  clear A30
  by_cases c4 : t316 = true
  · subst c4
    have H1 : ((nat_sum.f k l0 l1).bind fun t317 => ((nat_told.f k t317).bind fun bt320 => (some (bt320.1, bt320.2)))) = some (r1, r2) := by rw [if_pos rfl] at H; exact H
    clear H
    have H := H1
    clear H1
    replace H := Option.bind_eq_some_iff.mp H
    obtain ⟨t317, A50, H⟩ := H
    replace H : ((nat_told.f k t317).bind fun bt320 => (some (bt320.1, bt320.2))) = some (r1, r2) := H
    have A5 := Aside0.mk A50
    clear A50
    replace H := Option.bind_eq_some_iff.mp H
    obtain ⟨⟨t320, t323⟩, A60, H⟩ := H
    replace H : (some (t320, t323)) = some (r1, r2) := H
    have A6 := Aside0.mk A60
    clear A60
    simp only [Option.some.injEq, Prod.mk.injEq] at H
    obtain ⟨rfl, rfl⟩ := H
    go_enter Try.func20, Try.ntmps20
    go_wp2_with (first | ((with_reducible refine gate_dst (N := 8) rfl ?_); refine Kd.N_lit (Kd.slice 42 (Kd.int .u64)) _ 37 ?hg (N' := 8) ?hd (xs := ([l0, l1] : List (List Int))) (inner := [.slice A0 l0.length c0, .slice A1 l1.length c1]) (ok := (fun k_ => ((P0_ k_ ∨ P1_ k_) ∨ w.heap.size ≤ k_))) (okp := (fun k_ => ((P0_ k_ ∨ P1_ k_) ∨ w.heap.size ≤ k_))) ?hr ?hp (fun _ hk => hk) ((show ∀ k_, w.heap.size ≤ k_ → (fun k_ => ((P0_ k_ ∨ P1_ k_) ∨ w.heap.size ≤ k_)) k_ from fun k_ hk => (.inr (Nat.le_trans (below_size (by repeat (first | (with_reducible first | exact HB.out | apply below_alloc | apply pw_below_drewN | apply below_drew1) | exact HB.out))) hk))) _ (Nat.le_refl _)) (Below.refl _ _) (Nat.le_refl _) (by simp) ?_; (case hd => rfl); (case hg => rfl); (case hr => first | (go_simp; done) | (go_simp; rfl) | (go_simp; simp only [u64_u8]; done) | (go_simp; simp only [u64_u8]; rfl)); (case hp => exact (Reps.one (show Kd.FK (Kd.slice 42 (Kd.int .u64)) _ _ l0 [.slice A0 l0.length c0] from (Kd.FK_slice_mk (Kd.V_reads' (Kd.V_mono (ok' := (fun k_ => ((P0_ k_ ∨ P1_ k_) ∨ w.heap.size ≤ k_))) (HO0.out) (fun k_ hk => hk))).2.1 (Kd.V_F (Kd.V_mono (ok' := (fun k_ => ((P0_ k_ ∨ P1_ k_) ∨ w.heap.size ≤ k_))) (HO0.out) (fun k_ hk => hk))))) (Reps.one (show Kd.FK (Kd.slice 42 (Kd.int .u64)) _ _ l1 [.slice A1 l1.length c1] from (Kd.FK_slice_mk (Kd.V_reads' (Kd.V_mono (ok' := (fun k_ => ((P0_ k_ ∨ P1_ k_) ∨ w.heap.size ≤ k_))) (HO1.out) (fun k_ hk => hk))).2.1 (Kd.V_F (Kd.V_mono (ok' := (fun k_ => ((P0_ k_ ∨ P1_ k_) ∨ w.heap.size ≤ k_))) (HO1.out) (fun k_ hk => hk))))) (Reps.none _ _)))); intro v314 w7 ho8 hb hg_ hnew_; clear hg_ hnew_; (first | rw [← Ny313.out] at ho8 | (simp only [Int.reduceToNat] at ho8; rw [← Ny313.out] at ho8)); have n0_ := Aside0.mk (Kd.V_elder' (by (with_reducible repeat (first | apply Kd.V_alloc | apply Kd.V_drewN | apply Kd.V_drew)); exact HO0.out) (Kd.N_base ho8) hb); have n1_ := Aside0.mk (Kd.V_elder' (by (with_reducible repeat (first | apply Kd.V_alloc | apply Kd.V_drewN | apply Kd.V_drew)); exact HO1.out) (Kd.N_base ho8) hb); have n2_ := Aside0.mk (Kd.N_lower ho8 (below_size (by repeat (first | (with_reducible first | exact HB.out | apply below_alloc | apply pw_below_drewN | apply below_drew1) | exact HB.out)))); have n3_ := Aside0.mk (below_step (by repeat (first | (with_reducible first | exact HB.out | apply below_alloc | apply pw_below_drewN | apply below_drew1) | exact HB.out)) hb); clear HO0; clear HO1; clear HB; have HO0 := n0_; have HO1 := n1_; have HO315 := n2_; have HB := n3_; clear n0_ n1_ n2_ n3_; clear hb ho8; obtain ⟨Ao9, co9, eo9⟩ := Kd.N_slice HO315.out; subst eo9) | ((with_reducible refine gate_callee (f := 69) rfl ?_); refine goesL_ (some 9) rfl rfl Try.func69 (by kernel_rfl) rfl #[.slice Ao9 y313.length co9] rfl (by (try simp only [List.map_toArray, List.map_cons, List.map_nil]); first | done | rfl | (simp only [List.length_drop, List.length_take]; rfl)) ?_; (with_reducible refine (nat_right.calls _ _ y313 true _ ?side1 ?side2 A3.out).mono ?_); (case side1 => repeat (first | exact (Kd.N_reads' HO315.out).2.2 | (with_reducible refine Kd.C_alloc ?_ _) | (with_reducible refine Kd.C_drewN ?_ _) | (with_reducible refine Kd.C_drew ?_))); (case side2 => exact (Kd.N_reads' HO315.out).2.1); rintro e w' ⟨rfl, ⟨nd, rfl⟩⟩; refine ⟨_, rfl, ?_⟩) | ((with_reducible refine gate_callee (f := 71) rfl ?_); refine goesL_ (some 13) rfl rfl Try.func71 (by kernel_rfl) rfl #[.slice A0 l0.length c0, .slice A1 l1.length c1] rfl (by (try simp only [List.map_toArray, List.map_cons, List.map_nil]); first | done | rfl | (simp only [List.length_drop, List.length_take]; rfl)) ?_; (with_reducible refine (nat_sum.calls k _ _ l0 _ _ l1 t317 _ ?side1 ?side2 ?side3 ?side4 A5.out).mono ?_); (case side1 => repeat (first | exact (Kd.V_reads' HO0.out).2.2 | (with_reducible refine Kd.C_alloc ?_ _) | (with_reducible refine Kd.C_drewN ?_ _) | (with_reducible refine Kd.C_drew ?_))); (case side2 => exact (Kd.V_reads' HO0.out).2.1); (case side3 => repeat (first | exact (Kd.V_reads' HO1.out).2.2 | (with_reducible refine Kd.C_alloc ?_ _) | (with_reducible refine Kd.C_drewN ?_ _) | (with_reducible refine Kd.C_drew ?_))); (case side4 => exact (Kd.V_reads' HO1.out).2.1); rintro e w10 ⟨v318, rfl, ho0, hb⟩; refine ⟨_, rfl, ?_⟩; have n0_ := Aside0.mk (Kd.V_elder' (by (with_reducible repeat (first | apply Kd.V_alloc | apply Kd.V_drewN | apply Kd.V_drew)); exact HO0.out) (Kd.R_base ho0) hb); have n1_ := Aside0.mk (Kd.V_elder' (by (with_reducible repeat (first | apply Kd.V_alloc | apply Kd.V_drewN | apply Kd.V_drew)); exact HO1.out) (Kd.R_base ho0) hb); have n2_ := Aside0.mk (Kd.N_elder' (by (with_reducible repeat (first | apply Kd.N_alloc | apply Kd.N_drewN | apply Kd.N_drew)); exact HO315.out) (Kd.R_base ho0) hb); have n3_ := Aside0.mk (Kd.R_lower (Kd.R_newM (M := fun k_ => (w.heap.size ≤ k_)) ho0 (below_size (by repeat (first | (with_reducible first | exact HB.out | apply below_alloc | apply pw_below_drewN | apply below_drew1) | exact HB.out))) (fun k_ h_ => h_)) (below_size (by repeat (first | (with_reducible first | exact HB.out | apply below_alloc | apply pw_below_drewN | apply below_drew1) | exact HB.out)))); have n4_ := Aside0.mk (below_step (by repeat (first | (with_reducible first | exact HB.out | apply below_alloc | apply pw_below_drewN | apply below_drew1) | exact HB.out)) hb); clear HO0; clear HO1; clear HO315; clear HB; have HO0 := n0_; have HO1 := n1_; have HO315 := n2_; have HO319 := n3_; have HB := n4_; clear n0_ n1_ n2_ n3_ n4_; (try clear hb); (try clear hb2); (try clear hk); (try clear hi); (try clear ho0); obtain ⟨Ao11, co11, eo11⟩ := Kd.R_slice HO319.out; subst eo11) | ((with_reducible refine gate_callee (f := 70) rfl ?_); refine goesL_ (some 14) rfl rfl Try.func70 (by kernel_rfl) rfl #[.slice Ao11 t317.length co11] rfl (by (try simp only [List.map_toArray, List.map_cons, List.map_nil]); first | done | rfl | (simp only [List.length_drop, List.length_take]; rfl)) ?_; (with_reducible refine (nat_told.calls k (fun k_ => some k_ = (.slice Ao11 t317.length co11 : Value).ownBlock) (.slice Ao11 t317.length co11) t317 t320 t323 w _ ?side1 ?side2 A6.out).mono ?_); (case side1 => repeat (first | (with_reducible first | exact HB.out | apply below_alloc | apply pw_below_drewN | apply below_drew1) | exact HB.out)); (case side2 => exact Kd.R_tight rfl HO319.out); rintro e w12 ⟨v321, rfl, ho0, hb, hkp⟩; refine ⟨_, rfl, ?_⟩; have n0_ := Aside0.mk (Kd.V_mono (ok' := fun k_ => ((P0_ k_ ∨ P1_ k_) ∨ w.heap.size ≤ k_) ∧ some k_ ≠ (.slice Ao9 y313.length co9 : Value).ownBlock ∧ some k_ ≠ (v321 : Value).ownBlock) (Kd.V_keptB (HO0.out) hkp (fun k_ hk_ hs_ => (hk_.2) hs_)) (fun k_ hk_ => ⟨hk_.1.1.1, hk_.1.1.2, fun e_ => Or.elim (ho0.1 k_ e_.symm) (fun hs_ => hk_.2.1 hs_) (fun hn_ => Nat.not_le.2 hk_.2.2 hn_)⟩)); have n1_ := Aside0.mk (Kd.V_mono (ok' := fun k_ => ((P0_ k_ ∨ P1_ k_) ∨ w.heap.size ≤ k_) ∧ some k_ ≠ (.slice Ao9 y313.length co9 : Value).ownBlock ∧ some k_ ≠ (v321 : Value).ownBlock) (Kd.V_keptB (HO1.out) hkp (fun k_ hk_ hs_ => (hk_.2) hs_)) (fun k_ hk_ => ⟨hk_.1.1.1, hk_.1.1.2, fun e_ => Or.elim (ho0.1 k_ e_.symm) (fun hs_ => hk_.2.1 hs_) (fun hn_ => Nat.not_le.2 hk_.2.2 hn_)⟩)); have n2_ := Aside0.mk (Kd.N_mono (ok' := fun k_ => ((P0_ k_ ∨ P1_ k_) ∨ w.heap.size ≤ k_) ∧ some k_ ≠ (v321 : Value).ownBlock) (Kd.N_keptB (HO315.out) hkp (fun k_ hk_ hs_ => (hk_.2) hs_)) (fun k_ hk_ => ⟨hk_.1.1, fun e_ => Or.elim (ho0.1 k_ e_.symm) (fun hs_ => hk_.2.1 hs_) (fun hn_ => Nat.not_le.2 hk_.2.2 hn_)⟩)); have n3_ := Aside0.mk (Kd.R_mono (ok' := fun k_ => (w.heap.size ≤ k_)) ho0 (fun k_ hk_ => Or.elim hk_ (fun hs_ => (HO319.out.1 k_ (hs_).symm).1) (fun hn_ => (Nat.le_trans (below_size (by repeat (first | (with_reducible first | exact HB.out | apply below_alloc | apply pw_below_drewN | apply below_drew1) | exact HB.out))) hn_)))); have n4_ := Aside0.mk (hb); clear HO0; clear HO1; clear HO315; clear HB; clear HO319; have HO0 := n0_; have HO1 := n1_; have HO315 := n2_; have HO322 := n3_; have HB := n4_; clear n0_ n1_ n2_ n3_ n4_; (try clear hb); (try clear hkp); (try clear ho0)))
    go_ret2
    exact ⟨_, by first | rfl | (simp [errW_none, errW_some] <;> rfl) | (simp [*, errW_none, errW_some] <;> rfl), by (with_reducible repeat (first | apply Kd.R_alloc | apply Kd.R_drewN | apply Kd.R_drew)); exact HO322.out, by repeat (first | (with_reducible first | exact HB.out | apply below_alloc | apply pw_below_drewN | apply below_drew1) | exact HB.out)⟩
  · replace c4 := Bool.eq_false_iff.mpr c4
    subst c4
    have H1 : (some (([] : List Int), 1)) = some (r1, r2) := by rw [if_neg (show ¬ (false = true) by decide)] at H; exact H
    clear H
    have H := H1
    clear H1
    simp only [Option.some.injEq, Prod.mk.injEq] at H
    obtain ⟨rfl, rfl⟩ := H
    go_enter Try.func20, Try.ntmps20
    go_wp2_with (first | ((with_reducible refine gate_dst (N := 8) rfl ?_); refine Kd.N_lit (Kd.slice 42 (Kd.int .u64)) _ 37 ?hg (N' := 8) ?hd (xs := ([l0, l1] : List (List Int))) (inner := [.slice A0 l0.length c0, .slice A1 l1.length c1]) (ok := (fun k_ => ((P0_ k_ ∨ P1_ k_) ∨ w.heap.size ≤ k_))) (okp := (fun k_ => ((P0_ k_ ∨ P1_ k_) ∨ w.heap.size ≤ k_))) ?hr ?hp (fun _ hk => hk) ((show ∀ k_, w.heap.size ≤ k_ → (fun k_ => ((P0_ k_ ∨ P1_ k_) ∨ w.heap.size ≤ k_)) k_ from fun k_ hk => (.inr (Nat.le_trans (below_size (by repeat (first | (with_reducible first | exact HB.out | apply below_alloc | apply pw_below_drewN | apply below_drew1) | exact HB.out))) hk))) _ (Nat.le_refl _)) (Below.refl _ _) (Nat.le_refl _) (by simp) ?_; (case hd => rfl); (case hg => rfl); (case hr => first | (go_simp; done) | (go_simp; rfl) | (go_simp; simp only [u64_u8]; done) | (go_simp; simp only [u64_u8]; rfl)); (case hp => exact (Reps.one (show Kd.FK (Kd.slice 42 (Kd.int .u64)) _ _ l0 [.slice A0 l0.length c0] from (Kd.FK_slice_mk (Kd.V_reads' (Kd.V_mono (ok' := (fun k_ => ((P0_ k_ ∨ P1_ k_) ∨ w.heap.size ≤ k_))) (HO0.out) (fun k_ hk => hk))).2.1 (Kd.V_F (Kd.V_mono (ok' := (fun k_ => ((P0_ k_ ∨ P1_ k_) ∨ w.heap.size ≤ k_))) (HO0.out) (fun k_ hk => hk))))) (Reps.one (show Kd.FK (Kd.slice 42 (Kd.int .u64)) _ _ l1 [.slice A1 l1.length c1] from (Kd.FK_slice_mk (Kd.V_reads' (Kd.V_mono (ok' := (fun k_ => ((P0_ k_ ∨ P1_ k_) ∨ w.heap.size ≤ k_))) (HO1.out) (fun k_ hk => hk))).2.1 (Kd.V_F (Kd.V_mono (ok' := (fun k_ => ((P0_ k_ ∨ P1_ k_) ∨ w.heap.size ≤ k_))) (HO1.out) (fun k_ hk => hk))))) (Reps.none _ _)))); intro v314 w13 ho14 hb hg_ hnew_; clear hg_ hnew_; (first | rw [← Ny313.out] at ho14 | (simp only [Int.reduceToNat] at ho14; rw [← Ny313.out] at ho14)); have n0_ := Aside0.mk (Kd.V_elder' (by (with_reducible repeat (first | apply Kd.V_alloc | apply Kd.V_drewN | apply Kd.V_drew)); exact HO0.out) (Kd.N_base ho14) hb); have n1_ := Aside0.mk (Kd.V_elder' (by (with_reducible repeat (first | apply Kd.V_alloc | apply Kd.V_drewN | apply Kd.V_drew)); exact HO1.out) (Kd.N_base ho14) hb); have n2_ := Aside0.mk (Kd.N_lower ho14 (below_size (by repeat (first | (with_reducible first | exact HB.out | apply below_alloc | apply pw_below_drewN | apply below_drew1) | exact HB.out)))); have n3_ := Aside0.mk (below_step (by repeat (first | (with_reducible first | exact HB.out | apply below_alloc | apply pw_below_drewN | apply below_drew1) | exact HB.out)) hb); clear HO0; clear HO1; clear HB; have HO0 := n0_; have HO1 := n1_; have HO315 := n2_; have HB := n3_; clear n0_ n1_ n2_ n3_; clear hb ho14; obtain ⟨Ao15, co15, eo15⟩ := Kd.N_slice HO315.out; subst eo15) | ((with_reducible refine gate_callee (f := 69) rfl ?_); refine goesL_ (some 9) rfl rfl Try.func69 (by kernel_rfl) rfl #[.slice Ao15 y313.length co15] rfl (by (try simp only [List.map_toArray, List.map_cons, List.map_nil]); first | done | rfl | (simp only [List.length_drop, List.length_take]; rfl)) ?_; (with_reducible refine (nat_right.calls _ _ y313 false _ ?side1 ?side2 A3.out).mono ?_); (case side1 => repeat (first | exact (Kd.N_reads' HO315.out).2.2 | (with_reducible refine Kd.C_alloc ?_ _) | (with_reducible refine Kd.C_drewN ?_ _) | (with_reducible refine Kd.C_drew ?_))); (case side2 => exact (Kd.N_reads' HO315.out).2.1); rintro e w' ⟨rfl, ⟨nd, rfl⟩⟩; refine ⟨_, rfl, ?_⟩))
    go_ret2
    exact ⟨_, by first | rfl | (simp [errW_none, errW_some] <;> rfl) | (simp [*, errW_none, errW_some] <;> rfl), by first | exact Kd.R_nil _ _ _ _ _ | exact Kd.N_nil _ _ _ _ _ | exact Kd.V_nil _ _ _ _ _ | exact Kd.Q_nil _ _ _ _ _ | exact Kd.S_nil _ _ _ _ _, by repeat (first | (with_reducible first | exact HB.out | apply below_alloc | apply pw_below_drewN | apply below_drew1) | exact HB.out)⟩

end Go.Proofs.Ytgeanpnkllnipac.F
end

section
namespace Go.Proofs.Ytgeanpnkllnipac.F
open Go.RowKit Go.Proofs.YtgeanpnkllnipacW.PrintWords Go.Proofs.YtgeanpnkllnipacW.PrintLast Go.Proofs.YtgeanpnkllnipacW.PrintMore
attribute [local go_sem] max2_int min2_int max_two min_two max_three min_three max_four min_four   -- for this text's walks alone
set_option linter.unusedVariables false
set_option linter.unusedSimpArgs false

/-! ### nat_compare: function 74 -/
def nat_compare.l0 : Nat → List Int → List Int → Int → Option (Int)
  | 0, _, _, _ => none
  | k + 1, x0, x1, x5 => if x5 ≥ 0 then (if 0 ≤ x5 then (if x5 < (x0.length : Int) then (if x5 < (x1.length : Int) then (if (rd x0 x5) = (rd x1 x5) then (nat_compare.l0 k x0 x1 (wrap64 (x5 - 1))) else (if (rd x0 x5) < (rd x1 x5) then (some (-1)) else (some 1))) else (none)) else (none)) else (none)) else (some 0)
def nat_compare.f (k : Nat) (l0 : List Int) (l1 : List Int) : Option (Int) := if (l0.length : Int) = (l1.length : Int) then (nat_compare.l0 k l0 l1 (wrap64 ((l0.length : Int) - 1))) else (if (l0.length : Int) < (l1.length : Int) then (some (-1)) else (some 1))
theorem nat_compare.mono_l : ∀ k, (∀ y0 y1 y2, LeO (nat_compare.l0 k y0 y1 y2) (nat_compare.l0 (k + 1) y0 y1 y2))
  | 0 => fun _ _ _ r h => by simp [nat_compare.l0] at h
  | k + 1 => by
    have ih0 := nat_compare.mono_l k
    · intro y0 y1 y2
      unfold nat_compare.l0
      repeat' first
      | (with_reducible exact ih0 _ _ _)
      | (with_reducible exact LeO.refl _)
      | (with_reducible exact LeO.none _)
      | (with_reducible refine LeO.ite ?_ ?_)
      | (with_reducible refine LeO.bind ?_ (fun _ => ?_))
      | exact ih0 _ _ _
      | exact LeO.none _
      | refine LeO.ite ?_ ?_
      | refine LeO.bind ?_ (fun _ => ?_)
theorem nat_compare.mono : ∀ a0 a1 k, LeO (nat_compare.f k a0 a1) (nat_compare.f (k + 1) a0 a1) := by
  intro a0 a1 k
  have ih0 := nat_compare.mono_l k
  unfold nat_compare.f
  repeat' first
      | (with_reducible exact ih0 _ _ _)
      | (with_reducible exact LeO.refl _)
      | (with_reducible exact LeO.none _)
      | (with_reducible refine LeO.ite ?_ ?_)
      | (with_reducible refine LeO.bind ?_ (fun _ => ?_))
      | exact ih0 _ _ _
      | exact LeO.none _
      | refine LeO.ite ?_ ?_
      | refine LeO.bind ?_ (fun _ => ?_)
set_option maxHeartbeats 8000000 in
set_option maxRecDepth 100000 in
theorem nat_compare.calls (k : Nat) (A0 : Option Addr) (c0 : Nat) (l0 : List Int) (A1 : Option Addr) (c1 : Nat) (l1 : List Int) (r : Int) (w : World) (hr0 : Kd.C (Kd.int .u64) w A0 l0.length l0) (hc0 : l0.length ≤ c0) (hr1 : Kd.C (Kd.int .u64) w A1 l1.length l1) (hc1 : l1.length ≤ c1) (h : nat_compare.f k l0 l1 = some r) :
    Calls Try.prog 74 #[.slice A0 l0.length c0, .slice A1 l1.length c1] w fun e w' => e = .returned (.int .i64 r) ∧ Drawn0 w w' := by
  have HR0 := Aside0.mk hr0
  have HC0 := Aside0.mk hc0
  clear hr0 hc0
  have HR1 := Aside0.mk hr1
  have HC1 := Aside0.mk hc1
  clear hr1 hc1
  have H : (if (l0.length : Int) = (l1.length : Int) then (nat_compare.l0 k l0 l1 (wrap64 ((l0.length : Int) - 1))) else (if (l0.length : Int) < (l1.length : Int) then (some (-1)) else (some 1))) = some r := h
  clear h
  by_cases c3 : (l0.length : Int) = (l1.length : Int)
  · rw [if_pos c3] at H
    have c3b0 : ((l0.length : Int) == (l1.length : Int)) = true := beq_iff_eq.mpr c3
    have c3b1 : ((l0.length : Int) != (l1.length : Int)) = false := bne_eq_false_iff_eq.mpr c3
    have c3b2 : (l0.length == l1.length) = true := by first | simpa using c3 | (simp at c3 ⊢; omega)
    clear c3
    have H' := Aside0.mk H
    clear H
    go_enter Try.func74, Try.ntmps74
    go_wp2
    repeat (go_quiet (fail); try go_wp2)
    go_loopg [5] k (fun kq v5 w' => ∃ (x5_1 : Int), v5 = .int .i64 x5_1 ∧ Aside0 (nat_compare.l0 kq l0 l1 x5_1 = some r) ∧ Aside0 (kq ≤ k) ∧ Drawn0 w w')
    case atStart => exact ⟨(wrap64 ((l0.length : Int) - 1)), (by first | rfl | (simp; done) | (simp [*]; done)), H', ⟨Nat.le_refl _⟩, by repeat (first | exact Drawn0.refl _ | apply Drawn0.step)⟩
    case round =>
      clear H'
      try clear c1
      try clear p2
      try clear c3
      try clear c3b0
      try clear c3b1
      try clear c3b2
      obtain ⟨x5_1, rfl, HA, HK1, ⟨m1, rfl⟩⟩ := hrel
      cases gk with
      | zero => exact absurd HA.out (by simp [nat_compare.l0])
      | succ k1 =>
        have H := HA.out
        clear HA
        simp only [nat_compare.l0] at H
        by_cases c4 : x5_1 ≥ 0
        · rw [if_pos c4] at H
          have c4b0 : decide (0 ≤ x5_1) = true := decide_eq_true c4
          clear c4
          by_cases c5 : 0 ≤ x5_1
          · rw [if_pos c5] at H
            have c5b0 : decide (0 ≤ x5_1) = true := decide_eq_true c5
            clear c5
            by_cases c6 : x5_1 < (l0.length : Int)
            · rw [if_pos c6] at H
              have c6b0 : decide (x5_1 < (l0.length : Int)) = true := decide_eq_true c6
              clear c6
              by_cases c7 : x5_1 < (l1.length : Int)
              · rw [if_pos c7] at H
                have c7b0 : decide (x5_1 < (l1.length : Int)) = true := decide_eq_true c7
                clear c7
                by_cases c8 : (rd l0 x5_1) = (rd l1 x5_1)
                · rw [if_pos c8] at H
                  have c8b0 : ((rd l0 x5_1) == (rd l1 x5_1)) = true := beq_iff_eq.mpr c8
                  have c8b1 : ((rd l0 x5_1) != (rd l1 x5_1)) = false := bne_eq_false_iff_eq.mpr c8
                  clear c8
                  have H' := Aside0.mk H
                  clear H
                  have p396 : 0 ≤ (x5_1 : Int) := of_decide_eq_true (by first | (with_reducible assumption) | assumption)
                  have q396 : x5_1 < (l0.length : Int) := of_decide_eq_true (by first | (with_reducible assumption) | assumption)
                  obtain ⟨ad396, e396, hx396_0⟩ := Kd.at_int HR0.out x5_1 p396 q396
                  cases e396
                  replace p396 := eq_true p396
                  replace q396 := eq_true q396
                  have p397 : 0 ≤ (x5_1 : Int) := of_decide_eq_true (by first | (with_reducible assumption) | assumption)
                  have q397 : x5_1 < (l1.length : Int) := of_decide_eq_true (by first | (with_reducible assumption) | assumption)
                  obtain ⟨ad397, e397, hx397_0⟩ := Kd.at_int HR1.out x5_1 p397 q397
                  cases e397
                  replace p397 := eq_true p397
                  replace q397 := eq_true q397
                  go_wp2
                  repeat (go_quiet (fail); try go_wp2)
                  go_roundg k1
                  case measure => have := HK1.out; omega
                  case rel => exact ⟨(wrap64 (x5_1 - 1)), (by first | rfl | (simp; done) | (simp [*]; done)), H', ⟨by have := HK1.out; omega⟩, by repeat (first | exact Drawn0.refl _ | apply Drawn0.step)⟩
                · rw [if_neg c8] at H
                  have c8b0 : ((rd l0 x5_1) == (rd l1 x5_1)) = false := beq_eq_false_iff_ne.mpr c8
                  have c8b1 : ((rd l0 x5_1) != (rd l1 x5_1)) = true := bne_iff_ne.mpr c8
                  by_cases c9 : (rd l0 x5_1) < (rd l1 x5_1)
                  · rw [if_pos c9] at H
                    have c9b0 : decide ((rd l0 x5_1) < (rd l1 x5_1)) = true := decide_eq_true c9
                    clear c9
                    obtain rfl := Option.some.inj H
                    have p396 : 0 ≤ (x5_1 : Int) := of_decide_eq_true (by first | (with_reducible assumption) | assumption)
                    have q396 : x5_1 < (l0.length : Int) := of_decide_eq_true (by first | (with_reducible assumption) | assumption)
                    obtain ⟨ad396, e396, hx396_0⟩ := Kd.at_int HR0.out x5_1 p396 q396
                    cases e396
                    replace p396 := eq_true p396
                    replace q396 := eq_true q396
                    have p397 : 0 ≤ (x5_1 : Int) := of_decide_eq_true (by first | (with_reducible assumption) | assumption)
                    have q397 : x5_1 < (l1.length : Int) := of_decide_eq_true (by first | (with_reducible assumption) | assumption)
                    obtain ⟨ad397, e397, hx397_0⟩ := Kd.at_int HR1.out x5_1 p397 q397
                    cases e397
                    replace p397 := eq_true p397
                    replace q397 := eq_true q397
                    have p398 : 0 ≤ (x5_1 : Int) := of_decide_eq_true (by first | (with_reducible assumption) | assumption)
                    have q398 : x5_1 < (l0.length : Int) := of_decide_eq_true (by first | (with_reducible assumption) | assumption)
                    obtain ⟨ad398, e398, hx398_0⟩ := Kd.at_int HR0.out x5_1 p398 q398
                    obtain rfl : ad396 = ad398 := (by injection e398)
                    replace p398 := eq_true p398
                    replace q398 := eq_true q398
                    have p399 : 0 ≤ (x5_1 : Int) := of_decide_eq_true (by first | (with_reducible assumption) | assumption)
                    have q399 : x5_1 < (l1.length : Int) := of_decide_eq_true (by first | (with_reducible assumption) | assumption)
                    obtain ⟨ad399, e399, hx399_0⟩ := Kd.at_int HR1.out x5_1 p399 q399
                    obtain rfl : ad397 = ad399 := (by injection e399)
                    replace p399 := eq_true p399
                    replace q399 := eq_true q399
                    go_wp2
                    repeat (go_quiet (fail); try go_wp2)
                    go_ret
                    exact ⟨by first | rfl | (simp; done) | (simp [*]; done), by repeat (first | exact Drawn0.refl _ | apply Drawn0.step)⟩
                  · rw [if_neg c9] at H
                    have c9b0 : decide ((rd l0 x5_1) < (rd l1 x5_1)) = false := decide_eq_false c9
                    clear c9
                    obtain rfl := Option.some.inj H
                    have p396 : 0 ≤ (x5_1 : Int) := of_decide_eq_true (by first | (with_reducible assumption) | assumption)
                    have q396 : x5_1 < (l0.length : Int) := of_decide_eq_true (by first | (with_reducible assumption) | assumption)
                    obtain ⟨ad396, e396, hx396_0⟩ := Kd.at_int HR0.out x5_1 p396 q396
                    cases e396
                    replace p396 := eq_true p396
                    replace q396 := eq_true q396
                    have p397 : 0 ≤ (x5_1 : Int) := of_decide_eq_true (by first | (with_reducible assumption) | assumption)
                    have q397 : x5_1 < (l1.length : Int) := of_decide_eq_true (by first | (with_reducible assumption) | assumption)
                    obtain ⟨ad397, e397, hx397_0⟩ := Kd.at_int HR1.out x5_1 p397 q397
                    cases e397
                    replace p397 := eq_true p397
                    replace q397 := eq_true q397
                    have p398 : 0 ≤ (x5_1 : Int) := of_decide_eq_true (by first | (with_reducible assumption) | assumption)
                    have q398 : x5_1 < (l0.length : Int) := of_decide_eq_true (by first | (with_reducible assumption) | assumption)
                    obtain ⟨ad398, e398, hx398_0⟩ := Kd.at_int HR0.out x5_1 p398 q398
                    obtain rfl : ad396 = ad398 := (by injection e398)
                    replace p398 := eq_true p398
                    replace q398 := eq_true q398
                    have p399 : 0 ≤ (x5_1 : Int) := of_decide_eq_true (by first | (with_reducible assumption) | assumption)
                    have q399 : x5_1 < (l1.length : Int) := of_decide_eq_true (by first | (with_reducible assumption) | assumption)
                    obtain ⟨ad399, e399, hx399_0⟩ := Kd.at_int HR1.out x5_1 p399 q399
                    obtain rfl : ad397 = ad399 := (by injection e399)
                    replace p399 := eq_true p399
                    replace q399 := eq_true q399
                    go_wp2
                    repeat (go_quiet (fail); try go_wp2)
                    go_ret
                    exact ⟨by first | rfl | (simp; done) | (simp [*]; done), by repeat (first | exact Drawn0.refl _ | apply Drawn0.step)⟩
              · rw [if_neg c7] at H
                exact absurd H (by simp)
            · rw [if_neg c6] at H
              exact absurd H (by simp)
          · rw [if_neg c5] at H
            exact absurd H (by simp)
        · rw [if_neg c4] at H
          have c4b0 : decide (0 ≤ x5_1) = false := decide_eq_false c4
          clear c4
          obtain rfl := Option.some.inj H
          go_wp2
          repeat (go_quiet (fail); try go_wp2)
          go_ret
          exact ⟨by first | rfl | (simp; done) | (simp [*]; done), by repeat (first | exact Drawn0.refl _ | apply Drawn0.step)⟩
  · rw [if_neg c3] at H
    have c3b0 : ((l0.length : Int) == (l1.length : Int)) = false := beq_eq_false_iff_ne.mpr c3
    have c3b1 : ((l0.length : Int) != (l1.length : Int)) = true := bne_iff_ne.mpr c3
    have c3b2 : (l0.length == l1.length) = false := by first | simpa using c3 | (simp at c3 ⊢; omega)
    by_cases c10 : (l0.length : Int) < (l1.length : Int)
    · rw [if_pos c10] at H
      have c10b0 : decide ((l0.length : Int) < (l1.length : Int)) = true := decide_eq_true c10
      have c10b1 : decide (l0.length < l1.length) = true := decide_eq_true (Int.ofNat_lt.mp c10)
      clear c10
      obtain rfl := Option.some.inj H
      go_enter Try.func74, Try.ntmps74
      go_wp2
      repeat (go_quiet (fail); try go_wp2)
      go_ret
      exact ⟨by first | rfl | (simp; done) | (simp [*]; done), by repeat (first | exact Drawn0.refl _ | apply Drawn0.step)⟩
    · rw [if_neg c10] at H
      have c10b0 : decide ((l0.length : Int) < (l1.length : Int)) = false := decide_eq_false c10
      have c10b1 : decide (l0.length < l1.length) = false := decide_eq_false (fun h => c10 (Int.ofNat_lt.mpr h))
      clear c10
      obtain rfl := Option.some.inj H
      go_enter Try.func74, Try.ntmps74
      go_wp2
      repeat (go_quiet (fail); try go_wp2)
      go_ret
      exact ⟨by first | rfl | (simp; done) | (simp [*]; done), by repeat (first | exact Drawn0.refl _ | apply Drawn0.step)⟩

end Go.Proofs.Ytgeanpnkllnipac.F
end

section
namespace Go.Proofs.Ytgeanpnkllnipac.F
open Go.RowKit Go.Proofs.YtgeanpnkllnipacW.PrintWords Go.Proofs.YtgeanpnkllnipacW.PrintLast Go.Proofs.YtgeanpnkllnipacW.PrintMore
attribute [local go_sem] max2_int min2_int max_two min_two max_three min_three max_four min_four   -- for this text's walks alone
set_option linter.unusedVariables false
set_option linter.unusedSimpArgs false

/-! ### nat_Cmp: function 88 -/
def nat_Cmp.f (k : Nat) (l0 : List Int) (l1 : List Int) : Option (Int) := (nat_right.f (([l0, l1] : List (List Int)))).bind fun t574 => (if t574 = true then ((nat_compare.f k l0 l1).bind fun t575 => (some t575)) else (some 0))
theorem nat_Cmp.mono : ∀ a0 a1 k, LeO (nat_Cmp.f k a0 a1) (nat_Cmp.f (k + 1) a0 a1) := by
  intro a0 a1 k
  unfold nat_Cmp.f
  repeat' first
      | (with_reducible exact nat_compare.mono _ _ _)
      | (with_reducible exact LeO.refl _)
      | (with_reducible exact LeO.none _)
      | (with_reducible refine LeO.ite ?_ ?_)
      | (with_reducible refine LeO.bind ?_ (fun _ => ?_))
      | exact nat_compare.mono _ _ _
      | exact LeO.none _
      | refine LeO.ite ?_ ?_
      | refine LeO.bind ?_ (fun _ => ?_)
set_option maxHeartbeats 8000000 in
set_option maxRecDepth 100000 in
theorem nat_Cmp.calls (k : Nat) (P0_ : Nat → Prop) (A0 : Option Addr) (c0 : Nat) (l0 : List Int) (P1_ : Nat → Prop) (A1 : Option Addr) (c1 : Nat) (l1 : List Int) (r : Int) (w : World) (hs0 : Kd.V (Kd.int .u64) 42 w w.heap.size (fun k_ => P0_ k_) (.slice A0 l0.length c0) l0) (hs1 : Kd.V (Kd.int .u64) 42 w w.heap.size (fun k_ => P1_ k_) (.slice A1 l1.length c1) l1) (h : nat_Cmp.f k l0 l1 = some r) :
    Calls Try.prog 88 #[.slice A0 l0.length c0, .slice A1 l1.length c1] w fun e w' => e = .returned (.int .i64 r) ∧ Below w.heap.size w w' := by
  have HO0 := Aside0.mk (show Kd.V (Kd.int .u64) 42 w w.heap.size (fun k_ => ((P0_ k_ ∨ P1_ k_) ∨ w.heap.size ≤ k_)) (.slice A0 l0.length c0) l0 from Kd.V_mono hs0 (fun k_ hk => .inl (.inl hk)))
  have HO1 := Aside0.mk (show Kd.V (Kd.int .u64) 42 w w.heap.size (fun k_ => ((P0_ k_ ∨ P1_ k_) ∨ w.heap.size ≤ k_)) (.slice A1 l1.length c1) l1 from Kd.V_mono hs1 (fun k_ hk => .inl (.inr hk)))
  have HB := Aside0.mk (Below.refl w.heap.size w)
  have H : ((nat_right.f (([l0, l1] : List (List Int)))).bind fun t574 => (if t574 = true then ((nat_compare.f k l0 l1).bind fun t575 => (some t575)) else (some 0))) = some r := h
  clear h
  obtain ⟨y571, hy571⟩ : ∃ y_ : List (List Int), y_ = (([l0, l1] : List (List Int))) := ⟨_, rfl⟩
  replace H : ((nat_right.f y571).bind fun t574 => (if t574 = true then ((nat_compare.f k l0 l1).bind fun t575 => (some t575)) else (some 0))) = some r := by first | (rw [hy571]; with_reducible exact H) | (have H2_ := (Option.bind_some _ _).symm.trans H; rw [hy571]; with_reducible exact H2_) | (have H2_ := (Option.bind_some _ _).symm.trans H; with_reducible exact H2_) | with_reducible exact H | (rw [hy571]; exact H) | exact H
  have Ny571 := Aside0.mk hy571
  clear hy571
  replace H := Option.bind_eq_some_iff.mp H
  obtain ⟨t574, A30, H⟩ := H
  replace H : (if t574 = true then ((nat_compare.f k l0 l1).bind fun t575 => (some t575)) else (some 0)) = some r := H
  have A3 := Aside0.mk A30
  clear A30
  by_cases c4 : t574 = true
  · subst c4
    have H1 : ((nat_compare.f k l0 l1).bind fun t575 => (some t575)) = some r := by rw [if_pos rfl] at H; exact H
    clear H
    have H := H1
    clear H1
    replace H := Option.bind_eq_some_iff.mp H
    obtain ⟨t575, A50, H⟩ := H
    replace H : (some t575) = some r := H
    have A5 := Aside0.mk A50
    clear A50
    obtain rfl := Option.some.inj H
    go_enter Try.func88, Try.ntmps88
    go_wp2_with (first | ((with_reducible refine gate_dst (N := 7) rfl ?_); refine Kd.N_lit (Kd.slice 42 (Kd.int .u64)) _ 37 ?hg (N' := 7) ?hd (xs := ([l0, l1] : List (List Int))) (inner := [.slice A0 l0.length c0, .slice A1 l1.length c1]) (ok := (fun k_ => ((P0_ k_ ∨ P1_ k_) ∨ w.heap.size ≤ k_))) (okp := (fun k_ => ((P0_ k_ ∨ P1_ k_) ∨ w.heap.size ≤ k_))) ?hr ?hp (fun _ hk => hk) ((show ∀ k_, w.heap.size ≤ k_ → (fun k_ => ((P0_ k_ ∨ P1_ k_) ∨ w.heap.size ≤ k_)) k_ from fun k_ hk => (.inr (Nat.le_trans (below_size (by repeat (first | (with_reducible first | exact HB.out | apply below_alloc | apply pw_below_drewN | apply below_drew1) | exact HB.out))) hk))) _ (Nat.le_refl _)) (Below.refl _ _) (Nat.le_refl _) (by simp) ?_; (case hd => rfl); (case hg => rfl); (case hr => first | (go_simp; done) | (go_simp; rfl) | (go_simp; simp only [u64_u8]; done) | (go_simp; simp only [u64_u8]; rfl)); (case hp => exact (Reps.one (show Kd.FK (Kd.slice 42 (Kd.int .u64)) _ _ l0 [.slice A0 l0.length c0] from (Kd.FK_slice_mk (Kd.V_reads' (Kd.V_mono (ok' := (fun k_ => ((P0_ k_ ∨ P1_ k_) ∨ w.heap.size ≤ k_))) (HO0.out) (fun k_ hk => hk))).2.1 (Kd.V_F (Kd.V_mono (ok' := (fun k_ => ((P0_ k_ ∨ P1_ k_) ∨ w.heap.size ≤ k_))) (HO0.out) (fun k_ hk => hk))))) (Reps.one (show Kd.FK (Kd.slice 42 (Kd.int .u64)) _ _ l1 [.slice A1 l1.length c1] from (Kd.FK_slice_mk (Kd.V_reads' (Kd.V_mono (ok' := (fun k_ => ((P0_ k_ ∨ P1_ k_) ∨ w.heap.size ≤ k_))) (HO1.out) (fun k_ hk => hk))).2.1 (Kd.V_F (Kd.V_mono (ok' := (fun k_ => ((P0_ k_ ∨ P1_ k_) ∨ w.heap.size ≤ k_))) (HO1.out) (fun k_ hk => hk))))) (Reps.none _ _)))); intro v572 w6 ho7 hb hg_ hnew_; clear hg_ hnew_; (first | rw [← Ny571.out] at ho7 | (simp only [Int.reduceToNat] at ho7; rw [← Ny571.out] at ho7)); have n0_ := Aside0.mk (Kd.V_elder' (by (with_reducible repeat (first | apply Kd.V_alloc | apply Kd.V_drewN | apply Kd.V_drew)); exact HO0.out) (Kd.N_base ho7) hb); have n1_ := Aside0.mk (Kd.V_elder' (by (with_reducible repeat (first | apply Kd.V_alloc | apply Kd.V_drewN | apply Kd.V_drew)); exact HO1.out) (Kd.N_base ho7) hb); have n2_ := Aside0.mk (Kd.N_lower ho7 (below_size (by repeat (first | (with_reducible first | exact HB.out | apply below_alloc | apply pw_below_drewN | apply below_drew1) | exact HB.out)))); have n3_ := Aside0.mk (below_step (by repeat (first | (with_reducible first | exact HB.out | apply below_alloc | apply pw_below_drewN | apply below_drew1) | exact HB.out)) hb); clear HO0; clear HO1; clear HB; have HO0 := n0_; have HO1 := n1_; have HO573 := n2_; have HB := n3_; clear n0_ n1_ n2_ n3_; clear hb ho7; obtain ⟨Ao8, co8, eo8⟩ := Kd.N_slice HO573.out; subst eo8) | ((with_reducible refine gate_callee (f := 69) rfl ?_); refine goesL_ (some 8) rfl rfl Try.func69 (by kernel_rfl) rfl #[.slice Ao8 y571.length co8] rfl (by (try simp only [List.map_toArray, List.map_cons, List.map_nil]); first | done | rfl | (simp only [List.length_drop, List.length_take]; rfl)) ?_; (with_reducible refine (nat_right.calls _ _ y571 true _ ?side1 ?side2 A3.out).mono ?_); (case side1 => repeat (first | exact (Kd.N_reads' HO573.out).2.2 | (with_reducible refine Kd.C_alloc ?_ _) | (with_reducible refine Kd.C_drewN ?_ _) | (with_reducible refine Kd.C_drew ?_))); (case side2 => exact (Kd.N_reads' HO573.out).2.1); rintro e w' ⟨rfl, ⟨nd, rfl⟩⟩; refine ⟨_, rfl, ?_⟩) | ((with_reducible refine gate_callee (f := 74) rfl ?_); refine goesL_ (some 12) rfl rfl Try.func74 (by kernel_rfl) rfl #[.slice A0 l0.length c0, .slice A1 l1.length c1] rfl (by (try simp only [List.map_toArray, List.map_cons, List.map_nil]); first | done | rfl | (simp only [List.length_drop, List.length_take]; rfl)) ?_; (with_reducible refine (nat_compare.calls k _ _ l0 _ _ l1 t575 _ ?side1 ?side2 ?side3 ?side4 A5.out).mono ?_); (case side1 => repeat (first | exact (Kd.V_reads' HO0.out).2.2 | (with_reducible refine Kd.C_alloc ?_ _) | (with_reducible refine Kd.C_drewN ?_ _) | (with_reducible refine Kd.C_drew ?_))); (case side2 => exact (Kd.V_reads' HO0.out).2.1); (case side3 => repeat (first | exact (Kd.V_reads' HO1.out).2.2 | (with_reducible refine Kd.C_alloc ?_ _) | (with_reducible refine Kd.C_drewN ?_ _) | (with_reducible refine Kd.C_drew ?_))); (case side4 => exact (Kd.V_reads' HO1.out).2.1); rintro e w' ⟨rfl, ⟨nd, rfl⟩⟩; refine ⟨_, rfl, ?_⟩))
    go_ret
    exact ⟨by first | rfl | (simp [errW_none, errW_some] <;> rfl) | (simp [*, errW_none, errW_some] <;> rfl), by repeat (first | (with_reducible first | exact HB.out | apply below_alloc | apply pw_below_drewN | apply below_drew1) | exact HB.out)⟩
  · replace c4 := Bool.eq_false_iff.mpr c4
    subst c4
    have H1 : (some 0) = some r := by rw [if_neg (show ¬ (false = true) by decide)] at H; exact H
    clear H
    have H := H1
    clear H1
    obtain rfl := Option.some.inj H
    go_enter Try.func88, Try.ntmps88
    go_wp2_with (first | ((with_reducible refine gate_dst (N := 7) rfl ?_); refine Kd.N_lit (Kd.slice 42 (Kd.int .u64)) _ 37 ?hg (N' := 7) ?hd (xs := ([l0, l1] : List (List Int))) (inner := [.slice A0 l0.length c0, .slice A1 l1.length c1]) (ok := (fun k_ => ((P0_ k_ ∨ P1_ k_) ∨ w.heap.size ≤ k_))) (okp := (fun k_ => ((P0_ k_ ∨ P1_ k_) ∨ w.heap.size ≤ k_))) ?hr ?hp (fun _ hk => hk) ((show ∀ k_, w.heap.size ≤ k_ → (fun k_ => ((P0_ k_ ∨ P1_ k_) ∨ w.heap.size ≤ k_)) k_ from fun k_ hk => (.inr (Nat.le_trans (below_size (by repeat (first | (with_reducible first | exact HB.out | apply below_alloc | apply pw_below_drewN | apply below_drew1) | exact HB.out))) hk))) _ (Nat.le_refl _)) (Below.refl _ _) (Nat.le_refl _) (by simp) ?_; (case hd => rfl); (case hg => rfl); (case hr => first | (go_simp; done) | (go_simp; rfl) | (go_simp; simp only [u64_u8]; done) | (go_simp; simp only [u64_u8]; rfl)); (case hp => exact (Reps.one (show Kd.FK (Kd.slice 42 (Kd.int .u64)) _ _ l0 [.slice A0 l0.length c0] from (Kd.FK_slice_mk (Kd.V_reads' (Kd.V_mono (ok' := (fun k_ => ((P0_ k_ ∨ P1_ k_) ∨ w.heap.size ≤ k_))) (HO0.out) (fun k_ hk => hk))).2.1 (Kd.V_F (Kd.V_mono (ok' := (fun k_ => ((P0_ k_ ∨ P1_ k_) ∨ w.heap.size ≤ k_))) (HO0.out) (fun k_ hk => hk))))) (Reps.one (show Kd.FK (Kd.slice 42 (Kd.int .u64)) _ _ l1 [.slice A1 l1.length c1] from (Kd.FK_slice_mk (Kd.V_reads' (Kd.V_mono (ok' := (fun k_ => ((P0_ k_ ∨ P1_ k_) ∨ w.heap.size ≤ k_))) (HO1.out) (fun k_ hk => hk))).2.1 (Kd.V_F (Kd.V_mono (ok' := (fun k_ => ((P0_ k_ ∨ P1_ k_) ∨ w.heap.size ≤ k_))) (HO1.out) (fun k_ hk => hk))))) (Reps.none _ _)))); intro v572 w9 ho10 hb hg_ hnew_; clear hg_ hnew_; (first | rw [← Ny571.out] at ho10 | (simp only [Int.reduceToNat] at ho10; rw [← Ny571.out] at ho10)); have n0_ := Aside0.mk (Kd.V_elder' (by (with_reducible repeat (first | apply Kd.V_alloc | apply Kd.V_drewN | apply Kd.V_drew)); exact HO0.out) (Kd.N_base ho10) hb); have n1_ := Aside0.mk (Kd.V_elder' (by (with_reducible repeat (first | apply Kd.V_alloc | apply Kd.V_drewN | apply Kd.V_drew)); exact HO1.out) (Kd.N_base ho10) hb); have n2_ := Aside0.mk (Kd.N_lower ho10 (below_size (by repeat (first | (with_reducible first | exact HB.out | apply below_alloc | apply pw_below_drewN | apply below_drew1) | exact HB.out)))); have n3_ := Aside0.mk (below_step (by repeat (first | (with_reducible first | exact HB.out | apply below_alloc | apply pw_below_drewN | apply below_drew1) | exact HB.out)) hb); clear HO0; clear HO1; clear HB; have HO0 := n0_; have HO1 := n1_; have HO573 := n2_; have HB := n3_; clear n0_ n1_ n2_ n3_; clear hb ho10; obtain ⟨Ao11, co11, eo11⟩ := Kd.N_slice HO573.out; subst eo11) | ((with_reducible refine gate_callee (f := 69) rfl ?_); refine goesL_ (some 8) rfl rfl Try.func69 (by kernel_rfl) rfl #[.slice Ao11 y571.length co11] rfl (by (try simp only [List.map_toArray, List.map_cons, List.map_nil]); first | done | rfl | (simp only [List.length_drop, List.length_take]; rfl)) ?_; (with_reducible refine (nat_right.calls _ _ y571 false _ ?side1 ?side2 A3.out).mono ?_); (case side1 => repeat (first | exact (Kd.N_reads' HO573.out).2.2 | (with_reducible refine Kd.C_alloc ?_ _) | (with_reducible refine Kd.C_drewN ?_ _) | (with_reducible refine Kd.C_drew ?_))); (case side2 => exact (Kd.N_reads' HO573.out).2.1); rintro e w' ⟨rfl, ⟨nd, rfl⟩⟩; refine ⟨_, rfl, ?_⟩))
    go_ret
    exact ⟨by first | rfl | (simp [errW_none, errW_some] <;> rfl) | (simp [*, errW_none, errW_some] <;> rfl), by repeat (first | (with_reducible first | exact HB.out | apply below_alloc | apply pw_below_drewN | apply below_drew1) | exact HB.out)⟩

end Go.Proofs.Ytgeanpnkllnipac.F
end

section
namespace Go.Proofs.Ytgeanpnkllnipac.F
open Go.RowKit Go.Proofs.YtgeanpnkllnipacW.PrintWords Go.Proofs.YtgeanpnkllnipacW.PrintLast Go.Proofs.YtgeanpnkllnipacW.PrintMore
attribute [local go_sem] max2_int min2_int max_two min_two max_three min_three max_four min_four   -- for this text's walks alone
set_option linter.unusedVariables false
set_option linter.unusedSimpArgs false

/-! ### fixenc_modulus_may: function 79 -/
def fixenc_modulus_may.f (k : Nat) (l0 : List Int) : Option (Bool) := (nat_Right.f l0).bind fun t576 => (if t576 = true then (if (l0.length : Int) ≤ 8 then ((nat_Cmp.f k l0 (([3] : List Int))).bind fun t580 => (some (decide (t580 ≥ 0)))) else (some false)) else (some false))
theorem fixenc_modulus_may.mono : ∀ a0 k, LeO (fixenc_modulus_may.f k a0) (fixenc_modulus_may.f (k + 1) a0) := by
  intro a0 k
  unfold fixenc_modulus_may.f
  repeat' first
      | (with_reducible exact nat_Cmp.mono _ _ _)
      | (with_reducible exact LeO.refl _)
      | (with_reducible exact LeO.none _)
      | (with_reducible refine LeO.ite ?_ ?_)
      | (with_reducible refine LeO.bind ?_ (fun _ => ?_))
      | exact nat_Cmp.mono _ _ _
      | exact LeO.none _
      | refine LeO.ite ?_ ?_
      | refine LeO.bind ?_ (fun _ => ?_)
set_option maxHeartbeats 8000000 in
set_option maxRecDepth 100000 in
theorem fixenc_modulus_may.calls (k : Nat) (A0 : Option Addr) (c0 : Nat) (l0 : List Int) (r : Bool) (w : World) (hr0 : Kd.C (Kd.int .u64) w A0 l0.length l0) (hc0 : l0.length ≤ c0) (h : fixenc_modulus_may.f k l0 = some r) :
    Calls Try.prog 79 #[.slice A0 l0.length c0] w fun e w' => e = .returned (.bool r) ∧ Below w.heap.size w w' := by
  have HR0 := Aside0.mk hr0
  have HC0 := Aside0.mk hc0
  clear hr0 hc0
  have HB := Aside0.mk (Below.refl w.heap.size w)
  have H : ((nat_Right.f l0).bind fun t576 => (if t576 = true then (if (l0.length : Int) ≤ 8 then ((nat_Cmp.f k l0 (([3] : List Int))).bind fun t580 => (some (decide (t580 ≥ 0)))) else (some false)) else (some false))) = some r := h
  clear h
  replace H := Option.bind_eq_some_iff.mp H
  obtain ⟨t576, A20, H⟩ := H
  replace H : (if t576 = true then (if (l0.length : Int) ≤ 8 then ((nat_Cmp.f k l0 (([3] : List Int))).bind fun t580 => (some (decide (t580 ≥ 0)))) else (some false)) else (some false)) = some r := H
  have A2 := Aside0.mk A20
  clear A20
  by_cases c3 : t576 = true
  · subst c3
    have H1 : (if (l0.length : Int) ≤ 8 then ((nat_Cmp.f k l0 (([3] : List Int))).bind fun t580 => (some (decide (t580 ≥ 0)))) else (some false)) = some r := by rw [if_pos rfl] at H; exact H
    clear H
    have H := H1
    clear H1
    by_cases c4 : (l0.length : Int) ≤ 8
    · rw [if_pos c4] at H
      have c4b0 : decide ((l0.length : Int) ≤ 8) = true := decide_eq_true c4
      have c4b1 : decide (l0.length ≤ 8) = true := decide_eq_true (by omega)
      clear c4
      obtain ⟨y577, hy577⟩ : ∃ y_ : List Int, y_ = (([3] : List Int)) := ⟨_, rfl⟩
      replace H : ((nat_Cmp.f k l0 y577).bind fun t580 => (some (decide (t580 ≥ 0)))) = some r := by first | (rw [hy577]; with_reducible exact H) | (have H2_ := (Option.bind_some _ _).symm.trans H; rw [hy577]; with_reducible exact H2_) | (have H2_ := (Option.bind_some _ _).symm.trans H; with_reducible exact H2_) | with_reducible exact H | (rw [hy577]; exact H) | exact H
      have Ny577 := Aside0.mk hy577
      clear hy577
      replace H := Option.bind_eq_some_iff.mp H
      obtain ⟨t580, A50, H⟩ := H
      replace H : (some (decide (t580 ≥ 0))) = some r := H
      have A5 := Aside0.mk A50
      clear A50
      obtain rfl := Option.some.inj H
      go_enter Try.func79, Try.ntmps79
      go_wp2_with (first | ((with_reducible refine gate_callee (f := 42) rfl ?_); refine goesL_ (some 4) rfl rfl Try.func42 (by kernel_rfl) rfl #[.slice A0 l0.length c0] rfl (by (try simp only [List.map_toArray, List.map_cons, List.map_nil]); first | done | rfl | (simp only [List.length_drop, List.length_take]; rfl)) ?_; (with_reducible refine (nat_Right.calls _ _ l0 true _ ?side1 ?side2 A2.out).mono ?_); (case side1 => repeat (first | exact HR0.out | (with_reducible refine Kd.C_alloc ?_ _) | (with_reducible refine Kd.C_drewN ?_ _) | (with_reducible refine Kd.C_drew ?_))); (case side2 => exact HC0.out); rintro e w' ⟨rfl, ⟨nd, rfl⟩⟩; refine ⟨_, rfl, ?_⟩) | ((with_reducible refine gate_dst (N := 12) rfl ?_); (try (refine gate_guard (by rfl) ?_; dsimp only)); refine Kd.R_lit (Kd.int .u64) _ 42 ?hg (N := 12) ?hd (xs := ([3] : List Int)) (inner := [.int .u64 3]) (ok := fun _ => True) (okp := fun _ => True) ?hr ?hp (fun _ hk => hk) trivial (Below.refl _ _) (Nat.le_refl _) (by simp) ?_; (case hd => rfl); (case hg => rfl); (case hr => first | (go_simp; done) | (go_simp; rfl) | (go_simp; simp only [u64_u8]; done) | (go_simp; simp only [u64_u8]; rfl)); (case hp => exact (Reps.one (show Kd.M (Kd.int .u64) _ _ _ 3 [.int .u64 3] from rfl) (Reps.none _ _))); intro v578 w6 ho7 hb hg_ hnew_; clear hg_ hnew_; (first | rw [← Ny577.out] at ho7 | (simp only [Int.reduceToNat] at ho7; rw [← Ny577.out] at ho7)); have n0_ := Aside0.mk (Kd.R_lower ho7 (below_size (by repeat (first | (with_reducible first | exact HB.out | apply below_alloc | apply pw_below_drewN | apply below_drew1) | exact HB.out)))); have n1_ := Aside0.mk (below_step (by repeat (first | (with_reducible first | exact HB.out | apply below_alloc | apply pw_below_drewN | apply below_drew1) | exact HB.out)) hb); clear HB; have HO579 := n0_; have HB := n1_; clear n0_ n1_; clear hb ho7; obtain ⟨Ao8, co8, eo8⟩ := Kd.R_slice HO579.out; subst eo8) | (go_at_call 88; (with_reducible refine (nat_Cmp.calls k (fun k_ => k_ < w.heap.size) _ _ l0 (fun k_ => some k_ = (.slice Ao8 y577.length co8 : Value).ownBlock) _ _ y577 t580 _ ?side1 ?side2 A5.out).mono ?_); (case side1 => exact Kd.V_mk HC0.out (Kd.F_below (Kd.C_F (Kd.heap_int .u64) HR0.out) (by repeat (first | (with_reducible first | exact HB.out | apply below_alloc | apply pw_below_drewN | apply below_drew1) | exact HB.out)))); (case side2 => exact Kd.R_V (Kd.R_tight rfl (HO579.out))); rintro e w9 ⟨rfl, hb⟩; have n0_ := Aside0.mk (Kd.R_below (by (with_reducible repeat (first | apply Kd.R_alloc | apply Kd.R_drewN | apply Kd.R_drew)); exact HO579.out) hb); have n1_ := Aside0.mk (below_step (by repeat (first | (with_reducible first | exact HB.out | apply below_alloc | apply pw_below_drewN | apply below_drew1) | exact HB.out)) hb); clear HO579; clear HB; have HO579 := n0_; have HB := n1_; clear n0_ n1_; (try clear hb); (try clear hb2); (try clear hk); (try clear hi)))
      go_ret
      exact ⟨by first | rfl | (simp [errW_none, errW_some] <;> rfl) | (simp [*, errW_none, errW_some] <;> rfl), by repeat (first | (with_reducible first | exact HB.out | apply below_alloc | apply pw_below_drewN | apply below_drew1) | exact HB.out)⟩
    · rw [if_neg c4] at H
      have c4b0 : decide ((l0.length : Int) ≤ 8) = false := decide_eq_false c4
      have c4b1 : decide (l0.length ≤ 8) = false := decide_eq_false (by omega)
      clear c4
      obtain rfl := Option.some.inj H
      go_enter Try.func79, Try.ntmps79
      go_wp2_with (first | ((with_reducible refine gate_callee (f := 42) rfl ?_); refine goesL_ (some 4) rfl rfl Try.func42 (by kernel_rfl) rfl #[.slice A0 l0.length c0] rfl (by (try simp only [List.map_toArray, List.map_cons, List.map_nil]); first | done | rfl | (simp only [List.length_drop, List.length_take]; rfl)) ?_; (with_reducible refine (nat_Right.calls _ _ l0 true _ ?side1 ?side2 A2.out).mono ?_); (case side1 => repeat (first | exact HR0.out | (with_reducible refine Kd.C_alloc ?_ _) | (with_reducible refine Kd.C_drewN ?_ _) | (with_reducible refine Kd.C_drew ?_))); (case side2 => exact HC0.out); rintro e w' ⟨rfl, ⟨nd, rfl⟩⟩; refine ⟨_, rfl, ?_⟩))
      go_ret
      exact ⟨by first | rfl | (simp [errW_none, errW_some] <;> rfl) | (simp [*, errW_none, errW_some] <;> rfl), by repeat (first | (with_reducible first | exact HB.out | apply below_alloc | apply pw_below_drewN | apply below_drew1) | exact HB.out)⟩
  · replace c3 := Bool.eq_false_iff.mpr c3
    subst c3
    have H1 : (some false) = some r := by rw [if_neg (show ¬ (false = true) by decide)] at H; exact H
    clear H
    have H := H1
    clear H1
    obtain rfl := Option.some.inj H
    go_enter Try.func79, Try.ntmps79
    go_wp2_with (first | ((with_reducible refine gate_callee (f := 42) rfl ?_); refine goesL_ (some 4) rfl rfl Try.func42 (by kernel_rfl) rfl #[.slice A0 l0.length c0] rfl (by (try simp only [List.map_toArray, List.map_cons, List.map_nil]); first | done | rfl | (simp only [List.length_drop, List.length_take]; rfl)) ?_; (with_reducible refine (nat_Right.calls _ _ l0 false _ ?side1 ?side2 A2.out).mono ?_); (case side1 => repeat (first | exact HR0.out | (with_reducible refine Kd.C_alloc ?_ _) | (with_reducible refine Kd.C_drewN ?_ _) | (with_reducible refine Kd.C_drew ?_))); (case side2 => exact HC0.out); rintro e w' ⟨rfl, ⟨nd, rfl⟩⟩; refine ⟨_, rfl, ?_⟩))
    go_ret
    exact ⟨by first | rfl | (simp [errW_none, errW_some] <;> rfl) | (simp [*, errW_none, errW_some] <;> rfl), by repeat (first | (with_reducible first | exact HB.out | apply below_alloc | apply pw_below_drewN | apply below_drew1) | exact HB.out)⟩

end Go.Proofs.Ytgeanpnkllnipac.F
end

section
namespace Go.Proofs.Ytgeanpnkllnipac.F
open Go.RowKit Go.Proofs.YtgeanpnkllnipacW.PrintWords Go.Proofs.YtgeanpnkllnipacW.PrintLast Go.Proofs.YtgeanpnkllnipacW.PrintMore
attribute [local go_sem] max2_int min2_int max_two min_two max_three min_three max_four min_four   -- for this text's walks alone
set_option linter.unusedVariables false
set_option linter.unusedSimpArgs false

/-! ### modint_Right: function 80 -/
def modint_Right.f (a0_0 : Bool) (l0_1 : List Int) : Option (Bool) := (nat_Right.f l0_1).bind fun t582 => (if t582 = true then (if a0_0 = true then (some (decide ((l0_1.length : Int) > 0))) else (some true)) else (some false))
set_option maxHeartbeats 8000000 in
set_option maxRecDepth 100000 in
theorem modint_Right.calls (a0_0 : Bool) (A0_1 : Option Addr) (c0_1 : Nat) (l0_1 : List Int) (r : Bool) (w : World) (hr0_1 : Kd.C (Kd.int .u64) w A0_1 l0_1.length l0_1) (hc0_1 : l0_1.length ≤ c0_1) (h : modint_Right.f a0_0 l0_1 = some r) :
    Calls Try.prog 80 #[.agg #[.bool a0_0, .slice A0_1 l0_1.length c0_1]] w fun e w' => e = .returned (.bool r) ∧ Below w.heap.size w w' := by
  have hu47 := Try.underlying47
  have HR0_1 := Aside0.mk hr0_1
  have HC0_1 := Aside0.mk hc0_1
  clear hr0_1 hc0_1
  have HB := Aside0.mk (Below.refl w.heap.size w)
  have H : ((nat_Right.f l0_1).bind fun t582 => (if t582 = true then (if a0_0 = true then (some (decide ((l0_1.length : Int) > 0))) else (some true)) else (some false))) = some r := h
  clear h
  replace H := Option.bind_eq_some_iff.mp H
  obtain ⟨t582, A20, H⟩ := H
  replace H : (if t582 = true then (if a0_0 = true then (some (decide ((l0_1.length : Int) > 0))) else (some true)) else (some false)) = some r := H
  have A2 := Aside0.mk A20
  clear A20
  by_cases c3 : t582 = true
  · subst c3
    have H1 : (if a0_0 = true then (some (decide ((l0_1.length : Int) > 0))) else (some true)) = some r := by rw [if_pos rfl] at H; exact H
    clear H
    have H := H1
    clear H1
    by_cases c4 : a0_0 = true
    · subst c4
      have H1 : (some (decide ((l0_1.length : Int) > 0))) = some r := by rw [if_pos rfl] at H; exact H
      clear H
      have H := H1
      clear H1
      obtain rfl := Option.some.inj H
      go_enter Try.func80, Try.ntmps80
      go_wp2_with (first | ((with_reducible refine gate_dst (N := 1) rfl ?_); (try (refine gate_guard (by rfl) ?_; dsimp only)); refine box_event ?hg (N := 1) ?hd (cs := #[.bool true, .slice A0_1 l0_1.length c0_1]) (t := 47) ?hr ?_; (case hd => rfl); (case hg => rfl); (case hr => first | (go_simp; done) | (go_simp; rfl)); intro gb581 hg w5 hbox hb; have n0_ := Aside0.mk (below_step (by repeat (first | (with_reducible first | exact HB.out | apply below_alloc | apply pw_below_drewN | apply below_drew1) | exact HB.out)) hb); have n1_ := Aside0.mk (hbox); have n2_ := Aside0.mk ((by rw [hg]; exact (below_size (by repeat (first | (with_reducible first | exact HB.out | apply below_alloc | apply pw_below_drewN | apply below_drew1) | exact HB.out))) : w.heap.size ≤ gb581)); have n3_ := Aside0.mk ((by rw [hg]; exact (below_size (by repeat (first | (with_reducible first | exact HB.out | apply below_alloc | apply pw_below_drewN | apply below_drew1) | exact HB.out))) : w.heap.size ≤ gb581)); clear HB; have HB := n0_; have BK581 := n1_; have GW581 := n2_; have GE581 := n3_; clear n0_ n1_ n2_ n3_; clear hb hbox hg; have hcz6_0 : w5.cell? ⟨gb581, 0, none⟩ = some (.bool true) := (blk_cell BK581.out 0).trans rfl; have hcz6_1 : w5.cell? ⟨gb581, 1, none⟩ = some (.slice A0_1 l0_1.length c0_1) := (blk_cell BK581.out 1).trans rfl; have hfz6_0 := blk_frozen BK581.out 0; have hfz6_1 := blk_frozen BK581.out 1) | ((with_reducible refine gate_callee (f := 42) rfl ?_); refine goesL_ (some 5) rfl rfl Try.func42 (by kernel_rfl) rfl #[.slice A0_1 l0_1.length c0_1] rfl (by (try simp only [List.map_toArray, List.map_cons, List.map_nil]); first | done | rfl | (simp only [List.length_drop, List.length_take]; rfl)) ?_; (with_reducible refine (nat_Right.calls _ _ l0_1 true _ ?side1 ?side2 A2.out).mono ?_); (case side1 => repeat (first | exact (Kd.C_below HR0_1.out HB.out) | (with_reducible refine Kd.C_alloc ?_ _) | (with_reducible refine Kd.C_drewN ?_ _) | (with_reducible refine Kd.C_drew ?_))); (case side2 => exact HC0_1.out); rintro e w' ⟨rfl, ⟨nd, rfl⟩⟩; refine ⟨_, rfl, ?_⟩))
      go_ret
      exact ⟨by first | rfl | (simp [errW_none, errW_some] <;> rfl) | (simp [*, errW_none, errW_some] <;> rfl), by repeat (first | (with_reducible first | exact HB.out | apply below_alloc | apply pw_below_drewN | apply below_drew1 | refine below_set ?_ GE581.out) | exact HB.out)⟩
    · replace c4 := Bool.eq_false_iff.mpr c4
      subst c4
      have H1 : (some true) = some r := by rw [if_neg (show ¬ (false = true) by decide)] at H; exact H
      clear H
      have H := H1
      clear H1
      obtain rfl := Option.some.inj H
      go_enter Try.func80, Try.ntmps80
      go_wp2_with (first | ((with_reducible refine gate_dst (N := 1) rfl ?_); (try (refine gate_guard (by rfl) ?_; dsimp only)); refine box_event ?hg (N := 1) ?hd (cs := #[.bool false, .slice A0_1 l0_1.length c0_1]) (t := 47) ?hr ?_; (case hd => rfl); (case hg => rfl); (case hr => first | (go_simp; done) | (go_simp; rfl)); intro gb581 hg w7 hbox hb; have n0_ := Aside0.mk (below_step (by repeat (first | (with_reducible first | exact HB.out | apply below_alloc | apply pw_below_drewN | apply below_drew1) | exact HB.out)) hb); have n1_ := Aside0.mk (hbox); have n2_ := Aside0.mk ((by rw [hg]; exact (below_size (by repeat (first | (with_reducible first | exact HB.out | apply below_alloc | apply pw_below_drewN | apply below_drew1) | exact HB.out))) : w.heap.size ≤ gb581)); have n3_ := Aside0.mk ((by rw [hg]; exact (below_size (by repeat (first | (with_reducible first | exact HB.out | apply below_alloc | apply pw_below_drewN | apply below_drew1) | exact HB.out))) : w.heap.size ≤ gb581)); clear HB; have HB := n0_; have BK581 := n1_; have GW581 := n2_; have GE581 := n3_; clear n0_ n1_ n2_ n3_; clear hb hbox hg; have hcz8_0 : w7.cell? ⟨gb581, 0, none⟩ = some (.bool false) := (blk_cell BK581.out 0).trans rfl; have hcz8_1 : w7.cell? ⟨gb581, 1, none⟩ = some (.slice A0_1 l0_1.length c0_1) := (blk_cell BK581.out 1).trans rfl; have hfz8_0 := blk_frozen BK581.out 0; have hfz8_1 := blk_frozen BK581.out 1) | ((with_reducible refine gate_callee (f := 42) rfl ?_); refine goesL_ (some 5) rfl rfl Try.func42 (by kernel_rfl) rfl #[.slice A0_1 l0_1.length c0_1] rfl (by (try simp only [List.map_toArray, List.map_cons, List.map_nil]); first | done | rfl | (simp only [List.length_drop, List.length_take]; rfl)) ?_; (with_reducible refine (nat_Right.calls _ _ l0_1 true _ ?side1 ?side2 A2.out).mono ?_); (case side1 => repeat (first | exact (Kd.C_below HR0_1.out HB.out) | (with_reducible refine Kd.C_alloc ?_ _) | (with_reducible refine Kd.C_drewN ?_ _) | (with_reducible refine Kd.C_drew ?_))); (case side2 => exact HC0_1.out); rintro e w' ⟨rfl, ⟨nd, rfl⟩⟩; refine ⟨_, rfl, ?_⟩))
      go_ret
      exact ⟨by first | rfl | (simp [errW_none, errW_some] <;> rfl) | (simp [*, errW_none, errW_some] <;> rfl), by repeat (first | (with_reducible first | exact HB.out | apply below_alloc | apply pw_below_drewN | apply below_drew1 | refine below_set ?_ GE581.out) | exact HB.out)⟩
  · replace c3 := Bool.eq_false_iff.mpr c3
    subst c3
    have H1 : (some false) = some r := by rw [if_neg (show ¬ (false = true) by decide)] at H; exact H
    clear H
    have H := H1
    clear H1
    obtain rfl := Option.some.inj H
    go_enter Try.func80, Try.ntmps80
    go_wp2_with (first | ((with_reducible refine gate_dst (N := 1) rfl ?_); (try (refine gate_guard (by rfl) ?_; dsimp only)); refine box_event ?hg (N := 1) ?hd (cs := #[.bool a0_0, .slice A0_1 l0_1.length c0_1]) (t := 47) ?hr ?_; (case hd => rfl); (case hg => rfl); (case hr => first | (go_simp; done) | (go_simp; rfl)); intro gb581 hg w9 hbox hb; have n0_ := Aside0.mk (below_step (by repeat (first | (with_reducible first | exact HB.out | apply below_alloc | apply pw_below_drewN | apply below_drew1) | exact HB.out)) hb); have n1_ := Aside0.mk (hbox); have n2_ := Aside0.mk ((by rw [hg]; exact (below_size (by repeat (first | (with_reducible first | exact HB.out | apply below_alloc | apply pw_below_drewN | apply below_drew1) | exact HB.out))) : w.heap.size ≤ gb581)); have n3_ := Aside0.mk ((by rw [hg]; exact (below_size (by repeat (first | (with_reducible first | exact HB.out | apply below_alloc | apply pw_below_drewN | apply below_drew1) | exact HB.out))) : w.heap.size ≤ gb581)); clear HB; have HB := n0_; have BK581 := n1_; have GW581 := n2_; have GE581 := n3_; clear n0_ n1_ n2_ n3_; clear hb hbox hg; have hcz10_0 : w9.cell? ⟨gb581, 0, none⟩ = some (.bool a0_0) := (blk_cell BK581.out 0).trans rfl; have hcz10_1 : w9.cell? ⟨gb581, 1, none⟩ = some (.slice A0_1 l0_1.length c0_1) := (blk_cell BK581.out 1).trans rfl; have hfz10_0 := blk_frozen BK581.out 0; have hfz10_1 := blk_frozen BK581.out 1) | ((with_reducible refine gate_callee (f := 42) rfl ?_); refine goesL_ (some 5) rfl rfl Try.func42 (by kernel_rfl) rfl #[.slice A0_1 l0_1.length c0_1] rfl (by (try simp only [List.map_toArray, List.map_cons, List.map_nil]); first | done | rfl | (simp only [List.length_drop, List.length_take]; rfl)) ?_; (with_reducible refine (nat_Right.calls _ _ l0_1 false _ ?side1 ?side2 A2.out).mono ?_); (case side1 => repeat (first | exact (Kd.C_below HR0_1.out HB.out) | (with_reducible refine Kd.C_alloc ?_ _) | (with_reducible refine Kd.C_drewN ?_ _) | (with_reducible refine Kd.C_drew ?_))); (case side2 => exact HC0_1.out); rintro e w' ⟨rfl, ⟨nd, rfl⟩⟩; refine ⟨_, rfl, ?_⟩))
    go_ret
    exact ⟨by first | rfl | (simp [errW_none, errW_some] <;> rfl) | (simp [*, errW_none, errW_some] <;> rfl), by repeat (first | (with_reducible first | exact HB.out | apply below_alloc | apply pw_below_drewN | apply below_drew1 | refine below_set ?_ GE581.out) | exact HB.out)⟩

end Go.Proofs.Ytgeanpnkllnipac.F
end

section
namespace Go.Proofs.Ytgeanpnkllnipac.F
open Go.RowKit Go.Proofs.YtgeanpnkllnipacW.PrintWords Go.Proofs.YtgeanpnkllnipacW.PrintLast Go.Proofs.YtgeanpnkllnipacW.PrintMore
attribute [local go_sem] max2_int min2_int max_two min_two max_three min_three max_four min_four   -- for this text's walks alone
set_option linter.unusedVariables false
set_option linter.unusedSimpArgs false

attribute [local go_sem] sub64_run
/-! ### nat_less: function 120 -/
def nat_less.l0 : Nat → List Int → List Int → List Int → Int → Int → Int → Option (List Int)
  | 0, _, _, _, _, _, _ => none
  | k + 1, x0, x1, x5, x6, x13, x14 => if x14 < x13 then (if x14 < (x1.length : Int) then (if 0 ≤ x14 then (if x14 < (x0.length : Int) then (if carry01 x6 = true then (if x14 < (x5.length : Int) then (nat_less.l0 k x0 x1 (x5.set (x14 : Int).toNat (sub64_s (rd x0 x14) (rd x1 x14) x6)) (sub64_c (rd x0 x14) (rd x1 x14) x6) x13 (wrap64 (x14 + 1))) else (none)) else (none)) else (none)) else (none)) else (if 0 ≤ x14 then (if x14 < (x0.length : Int) then (if carry01 x6 = true then (if x14 < (x5.length : Int) then (nat_less.l0 k x0 x1 (x5.set (x14 : Int).toNat (sub64_s (rd x0 x14) 0 x6)) (sub64_c (rd x0 x14) 0 x6) x13 (wrap64 (x14 + 1))) else (none)) else (none)) else (none)) else (none))) else (some x5)
def nat_less.f (k : Nat) (l0 : List Int) (l1 : List Int) : Option (List Int) := if 0 ≤ (l0.length : Int) then (if ((l0.length : Int) : Int).toNat ≤ 35184372088832 then (nat_less.l0 k l0 l1 (List.replicate ((l0.length : Int) : Int).toNat 0) 0 (l0.length : Int) 0) else (none)) else (none)
theorem nat_less.mono_l : ∀ k, (∀ y0 y1 y2 y3 y4 y5, LeO (nat_less.l0 k y0 y1 y2 y3 y4 y5) (nat_less.l0 (k + 1) y0 y1 y2 y3 y4 y5))
  | 0 => fun _ _ _ _ _ _ r h => by simp [nat_less.l0] at h
  | k + 1 => by
    have ih0 := nat_less.mono_l k
    · intro y0 y1 y2 y3 y4 y5
      unfold nat_less.l0
      repeat' first
      | (with_reducible exact ih0 _ _ _ _ _ _)
      | (with_reducible exact LeO.refl _)
      | (with_reducible exact LeO.none _)
      | (with_reducible refine LeO.ite ?_ ?_)
      | (with_reducible refine LeO.bind ?_ (fun _ => ?_))
      | exact ih0 _ _ _ _ _ _
      | exact LeO.none _
      | refine LeO.ite ?_ ?_
      | refine LeO.bind ?_ (fun _ => ?_)
theorem nat_less.mono : ∀ a0 a1 k, LeO (nat_less.f k a0 a1) (nat_less.f (k + 1) a0 a1) := by
  intro a0 a1 k
  have ih0 := nat_less.mono_l k
  unfold nat_less.f
  repeat' first
      | (with_reducible exact ih0 _ _ _ _ _ _)
      | (with_reducible exact LeO.refl _)
      | (with_reducible exact LeO.none _)
      | (with_reducible refine LeO.ite ?_ ?_)
      | (with_reducible refine LeO.bind ?_ (fun _ => ?_))
      | exact ih0 _ _ _ _ _ _
      | exact LeO.none _
      | refine LeO.ite ?_ ?_
      | refine LeO.bind ?_ (fun _ => ?_)
set_option maxHeartbeats 8000000 in
set_option maxRecDepth 100000 in
theorem nat_less.calls (k : Nat) (A0 : Option Addr) (c0 : Nat) (l0 : List Int) (A1 : Option Addr) (c1 : Nat) (l1 : List Int) (r : List Int) (w : World) (hr0 : Kd.C (Kd.int .u64) w A0 l0.length l0) (hc0 : l0.length ≤ c0) (hr1 : Kd.C (Kd.int .u64) w A1 l1.length l1) (hc1 : l1.length ≤ c1) (h : nat_less.f k l0 l1 = some r) :
    Calls Try.prog 120 #[.slice A0 l0.length c0, .slice A1 l1.length c1] w fun e w' => ∃ v0_ : Value, e = .returned (v0_) ∧ Kd.R (Kd.int .u64) 42 w' w.heap.size (fun _ => True) v0_ r ∧ Below w.heap.size w w' := by
  have HR0 := Aside0.mk hr0
  have HC0 := Aside0.mk hc0
  clear hr0 hc0
  have HR1 := Aside0.mk hr1
  have HC1 := Aside0.mk hc1
  clear hr1 hc1
  have HB := Aside0.mk (Below.refl w.heap.size w)
  have H : (if 0 ≤ (l0.length : Int) then (if ((l0.length : Int) : Int).toNat ≤ 35184372088832 then (nat_less.l0 k l0 l1 (List.replicate ((l0.length : Int) : Int).toNat 0) 0 (l0.length : Int) 0) else (none)) else (none)) = some r := h
  clear h
  by_cases c3 : 0 ≤ (l0.length : Int)
  · rw [if_pos c3] at H
    have c3b0 := eq_true c3
    have c3b1 : decide (0 ≤ (l0.length : Int)) = true := decide_eq_true c3
    clear c3
    by_cases c4 : ((l0.length : Int) : Int).toNat ≤ 35184372088832
    · rw [if_pos c4] at H
      have c4b0 := eq_true c4
      have c4b1 : decide (((l0.length : Int) : Int).toNat ≤ 35184372088832) = true := decide_eq_true c4
      clear c4
      obtain ⟨y372, hy372⟩ : ∃ y_ : List Int, y_ = (List.replicate ((l0.length : Int) : Int).toNat 0) := ⟨_, rfl⟩
      replace H : (nat_less.l0 k l0 l1 y372 0 (l0.length : Int) 0) = some r := by first | (rw [hy372]; with_reducible exact H) | (have H2_ := (Option.bind_some _ _).symm.trans H; rw [hy372]; with_reducible exact H2_) | (have H2_ := (Option.bind_some _ _).symm.trans H; with_reducible exact H2_) | with_reducible exact H | (rw [hy372]; exact H) | exact H
      have Ny372 := Aside0.mk hy372
      clear hy372
      have H' := Aside0.mk H
      clear H
      go_enter Try.func120, Try.ntmps120
      go_wp2_with (first | ((with_reducible refine gate_dst (N := 11) rfl ?_); refine Kd.R_make (Kd.int .u64) _ 42 rfl (N := 11) rfl 37 _ _ rfl (l0.length : Int) rfl rfl Try.underlying37 (.int .u64 0) 8 info42 rfl (by decide) (by omega) 0 (ok := fun _ => True) (okp := fun _ => True) rfl (fun _ hk => hk) trivial (of_decide_eq_true (by first | (with_reducible assumption) | assumption)) (Nat.le_trans (Nat.mul_le_mul_right _ (of_decide_eq_true (by first | (with_reducible assumption) | assumption) : (l0.length : Int).toNat ≤ 35184372088832)) (by omega)) (Below.refl _ _) (Nat.le_refl _) ?_; intro v373 w5 ho6 hb hg_ hnew_; clear hg_ hnew_; (first | rw [← Ny372.out] at ho6 | (simp only [Int.reduceToNat] at ho6; rw [← Ny372.out] at ho6)); have n0_ := Aside0.mk (Kd.R_lower ho6 (below_size (by repeat (first | (with_reducible first | exact HB.out | apply below_alloc | apply pw_below_drewN | apply below_drew1) | exact HB.out)))); have n1_ := Aside0.mk (below_step (by repeat (first | (with_reducible first | exact HB.out | apply below_alloc | apply pw_below_drewN | apply below_drew1) | exact HB.out)) hb); clear HB; have HO374 := n0_; have HB := n1_; clear n0_ n1_; clear hb ho6))
      go_loopg [6, 14] k (fun kq v6 v14 w' => ∃ (x5_1 : List Int) (x6_1 : Int) (x14_1 : Int), v6 = .int .u64 x6_1 ∧ v14 = .int .i64 x14_1 ∧ Aside0 (nat_less.l0 kq l0 l1 x5_1 x6_1 (l0.length : Int) x14_1 = some r) ∧ Aside0 (kq ≤ k) ∧ Aside0 (Kd.R (Kd.int .u64) 42 w' w.heap.size (fun _ => True) v373 x5_1) ∧ Aside0 (Below w.heap.size w w'))
      case atStart => exact ⟨(y372), (0), (0), (by first | rfl | (simp; done) | (simp [*]; done)), (by first | rfl | (simp; done) | (simp [*]; done)), H', ⟨Nat.le_refl _⟩, ⟨by (with_reducible repeat (first | apply Kd.R_alloc | apply Kd.R_drewN | apply Kd.R_drew)); exact HO374.out⟩, ⟨by repeat (first | (with_reducible first | exact HB.out | apply below_alloc | apply pw_below_drewN | apply below_drew1) | exact HB.out)⟩⟩
      case round =>
        clear H'
        try clear c1
        try clear p2
        try clear c3
        try clear c3b0
        try clear c3b1
        try clear c4
        try clear c4b0
        try clear c4b1
        obtain ⟨x5_1, x6_1, x14_1, rfl, rfl, HA, HK1, HO_5, HB⟩ := hrel
        cases gk with
        | zero => exact absurd HA.out (by simp [nat_less.l0])
        | succ k1 =>
          have H := HA.out
          clear HA
          simp only [nat_less.l0] at H
          by_cases c7 : x14_1 < (l0.length : Int)
          · rw [if_pos c7] at H
            have c7b0 : decide (x14_1 < (l0.length : Int)) = true := decide_eq_true c7
            clear c7
            by_cases c8 : x14_1 < (l1.length : Int)
            · rw [if_pos c8] at H
              have c8b0 : decide (x14_1 < (l1.length : Int)) = true := decide_eq_true c8
              clear c8
              by_cases c9 : 0 ≤ x14_1
              · rw [if_pos c9] at H
                have c9b0 : decide (0 ≤ x14_1) = true := decide_eq_true c9
                clear c9
                by_cases c10 : x14_1 < (l0.length : Int)
                · rw [if_pos c10] at H
                  have c10b0 : decide (x14_1 < (l0.length : Int)) = true := decide_eq_true c10
                  clear c10
                  by_cases c11 : carry01 x6_1 = true
                  · rw [if_pos c11] at H
                    have c11b0 : carry01 x6_1 = true := c11
                    clear c11
                    by_cases c12 : x14_1 < (x5_1.length : Int)
                    · rw [if_pos c12] at H
                      have c12b0 : decide (x14_1 < (x5_1.length : Int)) = true := decide_eq_true c12
                      clear c12
                      obtain ⟨y377, hy377⟩ : ∃ y_ : List Int, y_ = (x5_1.set (x14_1 : Int).toNat (sub64_s (rd l0 x14_1) (rd l1 x14_1) x6_1)) := ⟨_, rfl⟩
                      replace H : (nat_less.l0 k1 l0 l1 y377 (sub64_c (rd l0 x14_1) (rd l1 x14_1) x6_1) (l0.length : Int) (wrap64 (x14_1 + 1))) = some r := by first | (rw [hy377]; with_reducible exact H) | (have H2_ := (Option.bind_some _ _).symm.trans H; rw [hy377]; with_reducible exact H2_) | (have H2_ := (Option.bind_some _ _).symm.trans H; with_reducible exact H2_) | with_reducible exact H | (rw [hy377]; exact H) | exact H
                      have Ny377 := Aside0.mk hy377
                      clear hy377
                      have H' := Aside0.mk H
                      clear H
                      have p375 : 0 ≤ (x14_1 : Int) := of_decide_eq_true (by first | (with_reducible assumption) | assumption)
                      have q375 : x14_1 < (l1.length : Int) := of_decide_eq_true (by first | (with_reducible assumption) | assumption)
                      obtain ⟨ad375, e375, hx375_0⟩ := Kd.at_int HR1.out x14_1 p375 q375
                      cases e375
                      replace hx375_0 := (HB.out.cell (World.block_lt_of_cell? w _ hx375_0)).trans hx375_0
                      replace p375 := eq_true p375
                      replace q375 := eq_true q375
                      have p376 : 0 ≤ (x14_1 : Int) := of_decide_eq_true (by first | (with_reducible assumption) | assumption)
                      have q376 : x14_1 < (l0.length : Int) := of_decide_eq_true (by first | (with_reducible assumption) | assumption)
                      obtain ⟨ad376, e376, hx376_0⟩ := Kd.at_int HR0.out x14_1 p376 q376
                      cases e376
                      replace hx376_0 := (HB.out.cell (World.block_lt_of_cell? w _ hx376_0)).trans hx376_0
                      replace p376 := eq_true p376
                      replace q376 := eq_true q376
                      have p13 : 0 ≤ (x14_1 : Int) := of_decide_eq_true (by first | (with_reducible assumption) | assumption)
                      have q13 : (x14_1 : Int) < ((x5_1.length : Int) : Int) := of_decide_eq_true (by first | (with_reducible assumption) | assumption)
                      obtain ⟨go13, co13, eo13, gb13, gl13, cl13, HG13⟩ := Kd.R_form HO_5.out (by omega)
                      (first | cases eo13 | (injection eo13 with ea_ en_ ec_; (first | subst ea_ | (injection ea_ with ea_; subst ea_)); subst ec_; clear en_))
                      have GB13 := Aside0.mk gb13
                      have GG13 := Aside0.mk HG13
                      clear gb13 gl13 HG13
                      obtain ⟨hx13_0, hf13_0⟩ := Kd.R_celln 0 HO_5.out (x14_1 : Int) p13 q13
                      replace p13 := eq_true p13
                      replace q13 := eq_true q13
                      have HP14 := Kd.R_putg HO_5.out (x14_1 : Int) (sub64_s (rd l0 x14_1) (rd l1 x14_1) x6_1)
                      go_wp2_with (first | ((with_reducible refine gate_store (t := 42) (p := 37) rfl ?_); refine store_event (t := 42) (p := 37) (v := ?vo_w15) (w1 := (wr.setCell ⟨go13, (x14_1 : Int).toNat, none⟩ (.int .u64 (sub64_s (rd l0 x14_1) (rd l1 x14_1) x6_1)))) ?hg ?ho ?hn ?hr ?_; (case ho => rfl); (case hg => rfl); (case hn => rfl); (case hr => first | (go_simp; done) | (go_simp; rfl) | (obtain ⟨hy_, hz_⟩ := Kd.R_celln 0 HO_5.out (x14_1 : Int) (of_decide_eq_true (by first | (with_reducible assumption) | assumption)) (of_decide_eq_true (by first | (with_reducible assumption) | assumption)); (try simp only [Go.IntWalk.toNatUp] at hy_ hz_); (try simp only [Int.reduceToNat, Int.toNat_zero, Int.toNat_ofNat] at hy_ hz_); first | (go_simp; done) | (go_simp; rfl))); intro w15 hw; have hg : wr.grownBy w15 (some go13) := (by rw [hw]; exact HP14.2); have hp_ : Kd.R (Kd.int .u64) 42 w15 w.heap.size (fun _ => True) (.slice (some ⟨go13, 0, none⟩) x5_1.length co13) y377 := (by rw [hw, Ny377.out]; exact HP14.1); clear HP14; have n0_ := Aside0.mk (hp_); have n1_ := Aside0.mk ((by rw [hw]; exact below_set (HB.out) GB13.out : Below w.heap.size w w15)); clear HO_5; clear HB; have HO_5 := n0_; have HB := n1_; clear n0_ n1_; clear hg hw hp_))
                      go_roundg k1
                      case measure => have := HK1.out; omega
                      case rel => exact ⟨(y377), (sub64_c (rd l0 x14_1) (rd l1 x14_1) x6_1), (wrap64 (x14_1 + 1)), (by first | rfl | (simp; done) | (simp [*]; done)), (by first | rfl | (simp; done) | (simp [*]; done)), H', ⟨by have := HK1.out; omega⟩, ⟨by (with_reducible repeat (first | apply Kd.R_alloc | apply Kd.R_drewN | apply Kd.R_drew)); exact HO_5.out⟩, ⟨by repeat (first | (with_reducible first | exact HB.out | apply below_alloc | apply pw_below_drewN | apply below_drew1) | exact HB.out)⟩⟩
                    · rw [if_neg c12] at H
                      exact absurd H (by simp)
                  · rw [if_neg c11] at H
                    exact absurd H (by simp)
                · rw [if_neg c10] at H
                  exact absurd H (by simp)
              · rw [if_neg c9] at H
                exact absurd H (by simp)
            · rw [if_neg c8] at H
              have c8b0 : decide (x14_1 < (l1.length : Int)) = false := decide_eq_false c8
              clear c8
              by_cases c16 : 0 ≤ x14_1
              · rw [if_pos c16] at H
                have c16b0 : decide (0 ≤ x14_1) = true := decide_eq_true c16
                clear c16
                by_cases c17 : x14_1 < (l0.length : Int)
                · rw [if_pos c17] at H
                  have c17b0 : decide (x14_1 < (l0.length : Int)) = true := decide_eq_true c17
                  clear c17
                  by_cases c18 : carry01 x6_1 = true
                  · rw [if_pos c18] at H
                    have c18b0 : carry01 x6_1 = true := c18
                    clear c18
                    by_cases c19 : x14_1 < (x5_1.length : Int)
                    · rw [if_pos c19] at H
                      have c19b0 : decide (x14_1 < (x5_1.length : Int)) = true := decide_eq_true c19
                      clear c19
                      obtain ⟨y379, hy379⟩ : ∃ y_ : List Int, y_ = (x5_1.set (x14_1 : Int).toNat (sub64_s (rd l0 x14_1) 0 x6_1)) := ⟨_, rfl⟩
                      replace H : (nat_less.l0 k1 l0 l1 y379 (sub64_c (rd l0 x14_1) 0 x6_1) (l0.length : Int) (wrap64 (x14_1 + 1))) = some r := by first | (rw [hy379]; with_reducible exact H) | (have H2_ := (Option.bind_some _ _).symm.trans H; rw [hy379]; with_reducible exact H2_) | (have H2_ := (Option.bind_some _ _).symm.trans H; with_reducible exact H2_) | with_reducible exact H | (rw [hy379]; exact H) | exact H
                      have Ny379 := Aside0.mk hy379
                      clear hy379
                      have H' := Aside0.mk H
                      clear H
                      have p378 : 0 ≤ (x14_1 : Int) := of_decide_eq_true (by first | (with_reducible assumption) | assumption)
                      have q378 : x14_1 < (l0.length : Int) := of_decide_eq_true (by first | (with_reducible assumption) | assumption)
                      obtain ⟨ad378, e378, hx378_0⟩ := Kd.at_int HR0.out x14_1 p378 q378
                      cases e378
                      replace hx378_0 := (HB.out.cell (World.block_lt_of_cell? w _ hx378_0)).trans hx378_0
                      replace p378 := eq_true p378
                      replace q378 := eq_true q378
                      have p20 : 0 ≤ (x14_1 : Int) := of_decide_eq_true (by first | (with_reducible assumption) | assumption)
                      have q20 : (x14_1 : Int) < ((x5_1.length : Int) : Int) := of_decide_eq_true (by first | (with_reducible assumption) | assumption)
                      obtain ⟨go20, co20, eo20, gb20, gl20, cl20, HG20⟩ := Kd.R_form HO_5.out (by omega)
                      (first | cases eo20 | (injection eo20 with ea_ en_ ec_; (first | subst ea_ | (injection ea_ with ea_; subst ea_)); subst ec_; clear en_))
                      have GB20 := Aside0.mk gb20
                      have GG20 := Aside0.mk HG20
                      clear gb20 gl20 HG20
                      obtain ⟨hx20_0, hf20_0⟩ := Kd.R_celln 0 HO_5.out (x14_1 : Int) p20 q20
                      replace p20 := eq_true p20
                      replace q20 := eq_true q20
                      have HP21 := Kd.R_putg HO_5.out (x14_1 : Int) (sub64_s (rd l0 x14_1) 0 x6_1)
                      go_wp2_with (first | ((with_reducible refine gate_store (t := 42) (p := 37) rfl ?_); refine store_event (t := 42) (p := 37) (v := ?vo_w22) (w1 := (wr.setCell ⟨go20, (x14_1 : Int).toNat, none⟩ (.int .u64 (sub64_s (rd l0 x14_1) 0 x6_1)))) ?hg ?ho ?hn ?hr ?_; (case ho => rfl); (case hg => rfl); (case hn => rfl); (case hr => first | (go_simp; done) | (go_simp; rfl) | (obtain ⟨hy_, hz_⟩ := Kd.R_celln 0 HO_5.out (x14_1 : Int) (of_decide_eq_true (by first | (with_reducible assumption) | assumption)) (of_decide_eq_true (by first | (with_reducible assumption) | assumption)); (try simp only [Go.IntWalk.toNatUp] at hy_ hz_); (try simp only [Int.reduceToNat, Int.toNat_zero, Int.toNat_ofNat] at hy_ hz_); first | (go_simp; done) | (go_simp; rfl))); intro w22 hw; have hg : wr.grownBy w22 (some go20) := (by rw [hw]; exact HP21.2); have hp_ : Kd.R (Kd.int .u64) 42 w22 w.heap.size (fun _ => True) (.slice (some ⟨go20, 0, none⟩) x5_1.length co20) y379 := (by rw [hw, Ny379.out]; exact HP21.1); clear HP21; have n0_ := Aside0.mk (hp_); have n1_ := Aside0.mk ((by rw [hw]; exact below_set (HB.out) GB20.out : Below w.heap.size w w22)); clear HO_5; clear HB; have HO_5 := n0_; have HB := n1_; clear n0_ n1_; clear hg hw hp_))
                      go_roundg k1
                      case measure => have := HK1.out; omega
                      case rel => exact ⟨(y379), (sub64_c (rd l0 x14_1) 0 x6_1), (wrap64 (x14_1 + 1)), (by first | rfl | (simp; done) | (simp [*]; done)), (by first | rfl | (simp; done) | (simp [*]; done)), H', ⟨by have := HK1.out; omega⟩, ⟨by (with_reducible repeat (first | apply Kd.R_alloc | apply Kd.R_drewN | apply Kd.R_drew)); exact HO_5.out⟩, ⟨by repeat (first | (with_reducible first | exact HB.out | apply below_alloc | apply pw_below_drewN | apply below_drew1) | exact HB.out)⟩⟩
                    · rw [if_neg c19] at H
                      exact absurd H (by simp)
                  · rw [if_neg c18] at H
                    exact absurd H (by simp)
                · rw [if_neg c17] at H
                  exact absurd H (by simp)
              · rw [if_neg c16] at H
                exact absurd H (by simp)
          · rw [if_neg c7] at H
            have c7b0 : decide (x14_1 < (l0.length : Int)) = false := decide_eq_false c7
            clear c7
            obtain rfl := Option.some.inj H
            go_wp2
            go_ret
            exact ⟨_, by first | rfl | (simp [errW_none, errW_some] <;> rfl) | (simp [*, errW_none, errW_some] <;> rfl), by (with_reducible repeat (first | apply Kd.R_alloc | apply Kd.R_drewN | apply Kd.R_drew)); exact HO_5.out, by repeat (first | (with_reducible first | exact HB.out | apply below_alloc | apply pw_below_drewN | apply below_drew1) | exact HB.out)⟩
    · rw [if_neg c4] at H
      exact absurd H (by simp)
  · rw [if_neg c3] at H
    exact absurd H (by simp)

end Go.Proofs.Ytgeanpnkllnipac.F
end

section
namespace Go.Proofs.Ytgeanpnkllnipac.F
open Go.RowKit Go.Proofs.YtgeanpnkllnipacW.PrintWords Go.Proofs.YtgeanpnkllnipacW.PrintLast Go.Proofs.YtgeanpnkllnipacW.PrintMore
attribute [local go_sem] max2_int min2_int max_two min_two max_three min_three max_four min_four   -- for this text's walks alone
set_option linter.unusedVariables false
set_option linter.unusedSimpArgs false

/-! ### nat_Sub: function 82 -/
def nat_Sub.f (k : Nat) (l0 : List Int) (l1 : List Int) : Option (List Int × Int) := (nat_right.f (([l0, l1] : List (List Int)))).bind fun t586 => (if t586 = true then ((nat_compare.f k l0 l1).bind fun t587 => (if t587 < 0 then (some (([] : List Int), 2)) else ((nat_less.f k l0 l1).bind fun t588 => ((nat_told.f k t588).bind fun bt591 => (some (bt591.1, bt591.2)))))) else (some (([] : List Int), 1)))
theorem nat_Sub.mono : ∀ a0 a1 k, LeO (nat_Sub.f k a0 a1) (nat_Sub.f (k + 1) a0 a1) := by
  intro a0 a1 k
  unfold nat_Sub.f
  repeat' first
      | (with_reducible exact nat_compare.mono _ _ _)
      | (with_reducible exact nat_less.mono _ _ _)
      | (with_reducible exact nat_told.mono _ _)
      | (with_reducible exact LeO.refl _)
      | (with_reducible exact LeO.none _)
      | (with_reducible refine LeO.ite ?_ ?_)
      | (with_reducible refine LeO.bind ?_ (fun _ => ?_))
      | exact nat_compare.mono _ _ _
      | exact nat_less.mono _ _ _
      | exact nat_told.mono _ _
      | exact LeO.none _
      | refine LeO.ite ?_ ?_
      | refine LeO.bind ?_ (fun _ => ?_)
set_option maxHeartbeats 8000000 in
set_option maxRecDepth 100000 in
theorem nat_Sub.calls (k : Nat) (P0_ : Nat → Prop) (A0 : Option Addr) (c0 : Nat) (l0 : List Int) (P1_ : Nat → Prop) (A1 : Option Addr) (c1 : Nat) (l1 : List Int) (r1 : List Int) (r2 : Int) (w : World) (hs0 : Kd.V (Kd.int .u64) 42 w w.heap.size (fun k_ => P0_ k_) (.slice A0 l0.length c0) l0) (hs1 : Kd.V (Kd.int .u64) 42 w w.heap.size (fun k_ => P1_ k_) (.slice A1 l1.length c1) l1) (h : nat_Sub.f k l0 l1 = some (r1, r2)) :
    Calls Try.prog 82 #[.slice A0 l0.length c0, .slice A1 l1.length c1] w fun e w' => ∃ v0_ : Value, e = .returned (.tuple #[v0_, .int .i64 r2]) ∧ Kd.R (Kd.int .u64) 42 w' w.heap.size (fun k_ => (w.heap.size ≤ k_)) v0_ r1 ∧ Below w.heap.size w w' := by
  have HO0 := Aside0.mk (show Kd.V (Kd.int .u64) 42 w w.heap.size (fun k_ => ((P0_ k_ ∨ P1_ k_) ∨ w.heap.size ≤ k_)) (.slice A0 l0.length c0) l0 from Kd.V_mono hs0 (fun k_ hk => .inl (.inl hk)))
  have HO1 := Aside0.mk (show Kd.V (Kd.int .u64) 42 w w.heap.size (fun k_ => ((P0_ k_ ∨ P1_ k_) ∨ w.heap.size ≤ k_)) (.slice A1 l1.length c1) l1 from Kd.V_mono hs1 (fun k_ hk => .inl (.inr hk)))
  have HB := Aside0.mk (Below.refl w.heap.size w)
  have H : ((nat_right.f (([l0, l1] : List (List Int)))).bind fun t586 => (if t586 = true then ((nat_compare.f k l0 l1).bind fun t587 => (if t587 < 0 then (some (([] : List Int), 2)) else ((nat_less.f k l0 l1).bind fun t588 => ((nat_told.f k t588).bind fun bt591 => (some (bt591.1, bt591.2)))))) else (some (([] : List Int), 1)))) = some (r1, r2) := h
  clear h
  obtain ⟨y583, hy583⟩ : ∃ y_ : List (List Int), y_ = (([l0, l1] : List (List Int))) := ⟨_, rfl⟩
  replace H : ((nat_right.f y583).bind fun t586 => (if t586 = true then ((nat_compare.f k l0 l1).bind fun t587 => (if t587 < 0 then (some (([] : List Int), 2)) else ((nat_less.f k l0 l1).bind fun t588 => ((nat_told.f k t588).bind fun bt591 => (some (bt591.1, bt591.2)))))) else (some (([] : List Int), 1)))) = some (r1, r2) := by first | (rw [hy583]; with_reducible exact H) | (have H2_ := (Option.bind_some _ _).symm.trans H; rw [hy583]; with_reducible exact H2_) | (have H2_ := (Option.bind_some _ _).symm.trans H; with_reducible exact H2_) | with_reducible exact H | (rw [hy583]; exact H) | exact H
  have Ny583 := Aside0.mk hy583
  clear hy583
  replace H := Option.bind_eq_some_iff.mp H
  obtain ⟨t586, A30, H⟩ := H
  replace H : (if t586 = true then ((nat_compare.f k l0 l1).bind fun t587 => (if t587 < 0 then (some (([] : List Int), 2)) else ((nat_less.f k l0 l1).bind fun t588 => ((nat_told.f k t588).bind fun bt591 => (some (bt591.1, bt591.2)))))) else (some (([] : List Int), 1))) = some (r1, r2) := H
  have A3 := Aside0.mk A30
  clear A30
  by_cases c4 : t586 = true
  · subst c4
    have H1 : ((nat_compare.f k l0 l1).bind fun t587 => (if t587 < 0 then (some (([] : List Int), 2)) else ((nat_less.f k l0 l1).bind fun t588 => ((nat_told.f k t588).bind fun bt591 => (some (bt591.1, bt591.2)))))) = some (r1, r2) := by rw [if_pos rfl] at H; exact H
    clear H
    have H := H1
    clear H1
    replace H := Option.bind_eq_some_iff.mp H
    obtain ⟨t587, A50, H⟩ := H
    replace H : (if t587 < 0 then (some (([] : List Int), 2)) else ((nat_less.f k l0 l1).bind fun t588 => ((nat_told.f k t588).bind fun bt591 => (some (bt591.1, bt591.2))))) = some (r1, r2) := H
    have A5 := Aside0.mk A50
    clear A50
    by_cases c6 : t587 < 0
    · rw [if_pos c6] at H
      have c6b0 : decide (t587 < 0) = true := decide_eq_true c6
      clear c6
      simp only [Option.some.injEq, Prod.mk.injEq] at H
      obtain ⟨rfl, rfl⟩ := H
      go_enter Try.func82, Try.ntmps82
      go_wp2_with (first | ((with_reducible refine gate_dst (N := 9) rfl ?_); refine Kd.N_lit (Kd.slice 42 (Kd.int .u64)) _ 37 ?hg (N' := 9) ?hd (xs := ([l0, l1] : List (List Int))) (inner := [.slice A0 l0.length c0, .slice A1 l1.length c1]) (ok := (fun k_ => ((P0_ k_ ∨ P1_ k_) ∨ w.heap.size ≤ k_))) (okp := (fun k_ => ((P0_ k_ ∨ P1_ k_) ∨ w.heap.size ≤ k_))) ?hr ?hp (fun _ hk => hk) ((show ∀ k_, w.heap.size ≤ k_ → (fun k_ => ((P0_ k_ ∨ P1_ k_) ∨ w.heap.size ≤ k_)) k_ from fun k_ hk => (.inr (Nat.le_trans (below_size (by repeat (first | (with_reducible first | exact HB.out | apply below_alloc | apply pw_below_drewN | apply below_drew1) | exact HB.out))) hk))) _ (Nat.le_refl _)) (Below.refl _ _) (Nat.le_refl _) (by simp) ?_; (case hd => rfl); (case hg => rfl); (case hr => first | (go_simp; done) | (go_simp; rfl) | (go_simp; simp only [u64_u8]; done) | (go_simp; simp only [u64_u8]; rfl)); (case hp => exact (Reps.one (show Kd.FK (Kd.slice 42 (Kd.int .u64)) _ _ l0 [.slice A0 l0.length c0] from (Kd.FK_slice_mk (Kd.V_reads' (Kd.V_mono (ok' := (fun k_ => ((P0_ k_ ∨ P1_ k_) ∨ w.heap.size ≤ k_))) (HO0.out) (fun k_ hk => hk))).2.1 (Kd.V_F (Kd.V_mono (ok' := (fun k_ => ((P0_ k_ ∨ P1_ k_) ∨ w.heap.size ≤ k_))) (HO0.out) (fun k_ hk => hk))))) (Reps.one (show Kd.FK (Kd.slice 42 (Kd.int .u64)) _ _ l1 [.slice A1 l1.length c1] from (Kd.FK_slice_mk (Kd.V_reads' (Kd.V_mono (ok' := (fun k_ => ((P0_ k_ ∨ P1_ k_) ∨ w.heap.size ≤ k_))) (HO1.out) (fun k_ hk => hk))).2.1 (Kd.V_F (Kd.V_mono (ok' := (fun k_ => ((P0_ k_ ∨ P1_ k_) ∨ w.heap.size ≤ k_))) (HO1.out) (fun k_ hk => hk))))) (Reps.none _ _)))); intro v584 w7 ho8 hb hg_ hnew_; clear hg_ hnew_; (first | rw [← Ny583.out] at ho8 | (simp only [Int.reduceToNat] at ho8; rw [← Ny583.out] at ho8)); have n0_ := Aside0.mk (Kd.V_elder' (by (with_reducible repeat (first | apply Kd.V_alloc | apply Kd.V_drewN | apply Kd.V_drew)); exact HO0.out) (Kd.N_base ho8) hb); have n1_ := Aside0.mk (Kd.V_elder' (by (with_reducible repeat (first | apply Kd.V_alloc | apply Kd.V_drewN | apply Kd.V_drew)); exact HO1.out) (Kd.N_base ho8) hb); have n2_ := Aside0.mk (Kd.N_lower ho8 (below_size (by repeat (first | (with_reducible first | exact HB.out | apply below_alloc | apply pw_below_drewN | apply below_drew1) | exact HB.out)))); have n3_ := Aside0.mk (below_step (by repeat (first | (with_reducible first | exact HB.out | apply below_alloc | apply pw_below_drewN | apply below_drew1) | exact HB.out)) hb); clear HO0; clear HO1; clear HB; have HO0 := n0_; have HO1 := n1_; have HO585 := n2_; have HB := n3_; clear n0_ n1_ n2_ n3_; clear hb ho8; obtain ⟨Ao9, co9, eo9⟩ := Kd.N_slice HO585.out; subst eo9) | ((with_reducible refine gate_callee (f := 69) rfl ?_); refine goesL_ (some 10) rfl rfl Try.func69 (by kernel_rfl) rfl #[.slice Ao9 y583.length co9] rfl (by (try simp only [List.map_toArray, List.map_cons, List.map_nil]); first | done | rfl | (simp only [List.length_drop, List.length_take]; rfl)) ?_; (with_reducible refine (nat_right.calls _ _ y583 true _ ?side1 ?side2 A3.out).mono ?_); (case side1 => repeat (first | exact (Kd.N_reads' HO585.out).2.2 | (with_reducible refine Kd.C_alloc ?_ _) | (with_reducible refine Kd.C_drewN ?_ _) | (with_reducible refine Kd.C_drew ?_))); (case side2 => exact (Kd.N_reads' HO585.out).2.1); rintro e w' ⟨rfl, ⟨nd, rfl⟩⟩; refine ⟨_, rfl, ?_⟩) | ((with_reducible refine gate_callee (f := 74) rfl ?_); refine goesL_ (some 15) rfl rfl Try.func74 (by kernel_rfl) rfl #[.slice A0 l0.length c0, .slice A1 l1.length c1] rfl (by (try simp only [List.map_toArray, List.map_cons, List.map_nil]); first | done | rfl | (simp only [List.length_drop, List.length_take]; rfl)) ?_; (with_reducible refine (nat_compare.calls k _ _ l0 _ _ l1 t587 _ ?side1 ?side2 ?side3 ?side4 A5.out).mono ?_); (case side1 => repeat (first | exact (Kd.V_reads' HO0.out).2.2 | (with_reducible refine Kd.C_alloc ?_ _) | (with_reducible refine Kd.C_drewN ?_ _) | (with_reducible refine Kd.C_drew ?_))); (case side2 => exact (Kd.V_reads' HO0.out).2.1); (case side3 => repeat (first | exact (Kd.V_reads' HO1.out).2.2 | (with_reducible refine Kd.C_alloc ?_ _) | (with_reducible refine Kd.C_drewN ?_ _) | (with_reducible refine Kd.C_drew ?_))); (case side4 => exact (Kd.V_reads' HO1.out).2.1); rintro e w' ⟨rfl, ⟨nd, rfl⟩⟩; refine ⟨_, rfl, ?_⟩))
      go_ret2
      exact ⟨_, by first | rfl | (simp [errW_none, errW_some] <;> rfl) | (simp [*, errW_none, errW_some] <;> rfl), by first | exact Kd.R_nil _ _ _ _ _ | exact Kd.N_nil _ _ _ _ _ | exact Kd.V_nil _ _ _ _ _ | exact Kd.Q_nil _ _ _ _ _ | exact Kd.S_nil _ _ _ _ _, by repeat (first | (with_reducible first | exact HB.out | apply below_alloc | apply pw_below_drewN | apply below_drew1) | exact HB.out)⟩
    · rw [if_neg c6] at H
      have c6b0 : decide (t587 < 0) = false := decide_eq_false c6
      clear c6
      replace H := Option.bind_eq_some_iff.mp H
      obtain ⟨t588, A100, H⟩ := H
      replace H : ((nat_told.f k t588).bind fun bt591 => (some (bt591.1, bt591.2))) = some (r1, r2) := H
      have A10 := Aside0.mk A100
      clear A100
      replace H := Option.bind_eq_some_iff.mp H
      obtain ⟨⟨t591, t594⟩, A110, H⟩ := H
      replace H : (some (t591, t594)) = some (r1, r2) := H
      have A11 := Aside0.mk A110
      clear A110
      simp only [Option.some.injEq, Prod.mk.injEq] at H
      obtain ⟨rfl, rfl⟩ := H
      go_enter Try.func82, Try.ntmps82
      go_wp2_with (first | ((with_reducible refine gate_dst (N := 9) rfl ?_); refine Kd.N_lit (Kd.slice 42 (Kd.int .u64)) _ 37 ?hg (N' := 9) ?hd (xs := ([l0, l1] : List (List Int))) (inner := [.slice A0 l0.length c0, .slice A1 l1.length c1]) (ok := (fun k_ => ((P0_ k_ ∨ P1_ k_) ∨ w.heap.size ≤ k_))) (okp := (fun k_ => ((P0_ k_ ∨ P1_ k_) ∨ w.heap.size ≤ k_))) ?hr ?hp (fun _ hk => hk) ((show ∀ k_, w.heap.size ≤ k_ → (fun k_ => ((P0_ k_ ∨ P1_ k_) ∨ w.heap.size ≤ k_)) k_ from fun k_ hk => (.inr (Nat.le_trans (below_size (by repeat (first | (with_reducible first | exact HB.out | apply below_alloc | apply pw_below_drewN | apply below_drew1) | exact HB.out))) hk))) _ (Nat.le_refl _)) (Below.refl _ _) (Nat.le_refl _) (by simp) ?_; (case hd => rfl); (case hg => rfl); (case hr => first | (go_simp; done) | (go_simp; rfl) | (go_simp; simp only [u64_u8]; done) | (go_simp; simp only [u64_u8]; rfl)); (case hp => exact (Reps.one (show Kd.FK (Kd.slice 42 (Kd.int .u64)) _ _ l0 [.slice A0 l0.length c0] from (Kd.FK_slice_mk (Kd.V_reads' (Kd.V_mono (ok' := (fun k_ => ((P0_ k_ ∨ P1_ k_) ∨ w.heap.size ≤ k_))) (HO0.out) (fun k_ hk => hk))).2.1 (Kd.V_F (Kd.V_mono (ok' := (fun k_ => ((P0_ k_ ∨ P1_ k_) ∨ w.heap.size ≤ k_))) (HO0.out) (fun k_ hk => hk))))) (Reps.one (show Kd.FK (Kd.slice 42 (Kd.int .u64)) _ _ l1 [.slice A1 l1.length c1] from (Kd.FK_slice_mk (Kd.V_reads' (Kd.V_mono (ok' := (fun k_ => ((P0_ k_ ∨ P1_ k_) ∨ w.heap.size ≤ k_))) (HO1.out) (fun k_ hk => hk))).2.1 (Kd.V_F (Kd.V_mono (ok' := (fun k_ => ((P0_ k_ ∨ P1_ k_) ∨ w.heap.size ≤ k_))) (HO1.out) (fun k_ hk => hk))))) (Reps.none _ _)))); intro v584 w12 ho13 hb hg_ hnew_; clear hg_ hnew_; (first | rw [← Ny583.out] at ho13 | (simp only [Int.reduceToNat] at ho13; rw [← Ny583.out] at ho13)); have n0_ := Aside0.mk (Kd.V_elder' (by (with_reducible repeat (first | apply Kd.V_alloc | apply Kd.V_drewN | apply Kd.V_drew)); exact HO0.out) (Kd.N_base ho13) hb); have n1_ := Aside0.mk (Kd.V_elder' (by (with_reducible repeat (first | apply Kd.V_alloc | apply Kd.V_drewN | apply Kd.V_drew)); exact HO1.out) (Kd.N_base ho13) hb); have n2_ := Aside0.mk (Kd.N_lower ho13 (below_size (by repeat (first | (with_reducible first | exact HB.out | apply below_alloc | apply pw_below_drewN | apply below_drew1) | exact HB.out)))); have n3_ := Aside0.mk (below_step (by repeat (first | (with_reducible first | exact HB.out | apply below_alloc | apply pw_below_drewN | apply below_drew1) | exact HB.out)) hb); clear HO0; clear HO1; clear HB; have HO0 := n0_; have HO1 := n1_; have HO585 := n2_; have HB := n3_; clear n0_ n1_ n2_ n3_; clear hb ho13; obtain ⟨Ao14, co14, eo14⟩ := Kd.N_slice HO585.out; subst eo14) | ((with_reducible refine gate_callee (f := 69) rfl ?_); refine goesL_ (some 10) rfl rfl Try.func69 (by kernel_rfl) rfl #[.slice Ao14 y583.length co14] rfl (by (try simp only [List.map_toArray, List.map_cons, List.map_nil]); first | done | rfl | (simp only [List.length_drop, List.length_take]; rfl)) ?_; (with_reducible refine (nat_right.calls _ _ y583 true _ ?side1 ?side2 A3.out).mono ?_); (case side1 => repeat (first | exact (Kd.N_reads' HO585.out).2.2 | (with_reducible refine Kd.C_alloc ?_ _) | (with_reducible refine Kd.C_drewN ?_ _) | (with_reducible refine Kd.C_drew ?_))); (case side2 => exact (Kd.N_reads' HO585.out).2.1); rintro e w' ⟨rfl, ⟨nd, rfl⟩⟩; refine ⟨_, rfl, ?_⟩) | ((with_reducible refine gate_callee (f := 74) rfl ?_); refine goesL_ (some 15) rfl rfl Try.func74 (by kernel_rfl) rfl #[.slice A0 l0.length c0, .slice A1 l1.length c1] rfl (by (try simp only [List.map_toArray, List.map_cons, List.map_nil]); first | done | rfl | (simp only [List.length_drop, List.length_take]; rfl)) ?_; (with_reducible refine (nat_compare.calls k _ _ l0 _ _ l1 t587 _ ?side1 ?side2 ?side3 ?side4 A5.out).mono ?_); (case side1 => repeat (first | exact (Kd.V_reads' HO0.out).2.2 | (with_reducible refine Kd.C_alloc ?_ _) | (with_reducible refine Kd.C_drewN ?_ _) | (with_reducible refine Kd.C_drew ?_))); (case side2 => exact (Kd.V_reads' HO0.out).2.1); (case side3 => repeat (first | exact (Kd.V_reads' HO1.out).2.2 | (with_reducible refine Kd.C_alloc ?_ _) | (with_reducible refine Kd.C_drewN ?_ _) | (with_reducible refine Kd.C_drew ?_))); (case side4 => exact (Kd.V_reads' HO1.out).2.1); rintro e w' ⟨rfl, ⟨nd, rfl⟩⟩; refine ⟨_, rfl, ?_⟩) | ((with_reducible refine gate_callee (f := 120) rfl ?_); refine goesL_ (some 19) rfl rfl Try.func120 (by kernel_rfl) rfl #[.slice A0 l0.length c0, .slice A1 l1.length c1] rfl (by (try simp only [List.map_toArray, List.map_cons, List.map_nil]); first | done | rfl | (simp only [List.length_drop, List.length_take]; rfl)) ?_; (with_reducible refine (nat_less.calls k _ _ l0 _ _ l1 t588 _ ?side1 ?side2 ?side3 ?side4 A10.out).mono ?_); (case side1 => repeat (first | exact (Kd.V_reads' HO0.out).2.2 | (with_reducible refine Kd.C_alloc ?_ _) | (with_reducible refine Kd.C_drewN ?_ _) | (with_reducible refine Kd.C_drew ?_))); (case side2 => exact (Kd.V_reads' HO0.out).2.1); (case side3 => repeat (first | exact (Kd.V_reads' HO1.out).2.2 | (with_reducible refine Kd.C_alloc ?_ _) | (with_reducible refine Kd.C_drewN ?_ _) | (with_reducible refine Kd.C_drew ?_))); (case side4 => exact (Kd.V_reads' HO1.out).2.1); rintro e w15 ⟨v589, rfl, ho0, hb⟩; refine ⟨_, rfl, ?_⟩; have n0_ := Aside0.mk (Kd.V_elder' (by (with_reducible repeat (first | apply Kd.V_alloc | apply Kd.V_drewN | apply Kd.V_drew)); exact HO0.out) (Kd.R_base ho0) hb); have n1_ := Aside0.mk (Kd.V_elder' (by (with_reducible repeat (first | apply Kd.V_alloc | apply Kd.V_drewN | apply Kd.V_drew)); exact HO1.out) (Kd.R_base ho0) hb); have n2_ := Aside0.mk (Kd.N_elder' (by (with_reducible repeat (first | apply Kd.N_alloc | apply Kd.N_drewN | apply Kd.N_drew)); exact HO585.out) (Kd.R_base ho0) hb); have n3_ := Aside0.mk (Kd.R_lower (Kd.R_newM (M := fun k_ => (w.heap.size ≤ k_)) ho0 (below_size (by repeat (first | (with_reducible first | exact HB.out | apply below_alloc | apply pw_below_drewN | apply below_drew1) | exact HB.out))) (fun k_ h_ => h_)) (below_size (by repeat (first | (with_reducible first | exact HB.out | apply below_alloc | apply pw_below_drewN | apply below_drew1) | exact HB.out)))); have n4_ := Aside0.mk (below_step (by repeat (first | (with_reducible first | exact HB.out | apply below_alloc | apply pw_below_drewN | apply below_drew1) | exact HB.out)) hb); clear HO0; clear HO1; clear HO585; clear HB; have HO0 := n0_; have HO1 := n1_; have HO585 := n2_; have HO590 := n3_; have HB := n4_; clear n0_ n1_ n2_ n3_ n4_; (try clear hb); (try clear hb2); (try clear hk); (try clear hi); (try clear ho0); obtain ⟨Ao16, co16, eo16⟩ := Kd.R_slice HO590.out; subst eo16) | ((with_reducible refine gate_callee (f := 70) rfl ?_); refine goesL_ (some 20) rfl rfl Try.func70 (by kernel_rfl) rfl #[.slice Ao16 t588.length co16] rfl (by (try simp only [List.map_toArray, List.map_cons, List.map_nil]); first | done | rfl | (simp only [List.length_drop, List.length_take]; rfl)) ?_; (with_reducible refine (nat_told.calls k (fun k_ => some k_ = (.slice Ao16 t588.length co16 : Value).ownBlock) (.slice Ao16 t588.length co16) t588 t591 t594 w _ ?side1 ?side2 A11.out).mono ?_); (case side1 => repeat (first | (with_reducible first | exact HB.out | apply below_alloc | apply pw_below_drewN | apply below_drew1) | exact HB.out)); (case side2 => exact Kd.R_tight rfl HO590.out); rintro e w17 ⟨v592, rfl, ho0, hb, hkp⟩; refine ⟨_, rfl, ?_⟩; have n0_ := Aside0.mk (Kd.V_mono (ok' := fun k_ => ((P0_ k_ ∨ P1_ k_) ∨ w.heap.size ≤ k_) ∧ some k_ ≠ (.slice Ao14 y583.length co14 : Value).ownBlock ∧ some k_ ≠ (v592 : Value).ownBlock) (Kd.V_keptB (HO0.out) hkp (fun k_ hk_ hs_ => (hk_.2) hs_)) (fun k_ hk_ => ⟨hk_.1.1.1, hk_.1.1.2, fun e_ => Or.elim (ho0.1 k_ e_.symm) (fun hs_ => hk_.2.1 hs_) (fun hn_ => Nat.not_le.2 hk_.2.2 hn_)⟩)); have n1_ := Aside0.mk (Kd.V_mono (ok' := fun k_ => ((P0_ k_ ∨ P1_ k_) ∨ w.heap.size ≤ k_) ∧ some k_ ≠ (.slice Ao14 y583.length co14 : Value).ownBlock ∧ some k_ ≠ (v592 : Value).ownBlock) (Kd.V_keptB (HO1.out) hkp (fun k_ hk_ hs_ => (hk_.2) hs_)) (fun k_ hk_ => ⟨hk_.1.1.1, hk_.1.1.2, fun e_ => Or.elim (ho0.1 k_ e_.symm) (fun hs_ => hk_.2.1 hs_) (fun hn_ => Nat.not_le.2 hk_.2.2 hn_)⟩)); have n2_ := Aside0.mk (Kd.N_mono (ok' := fun k_ => ((P0_ k_ ∨ P1_ k_) ∨ w.heap.size ≤ k_) ∧ some k_ ≠ (v592 : Value).ownBlock) (Kd.N_keptB (HO585.out) hkp (fun k_ hk_ hs_ => (hk_.2) hs_)) (fun k_ hk_ => ⟨hk_.1.1, fun e_ => Or.elim (ho0.1 k_ e_.symm) (fun hs_ => hk_.2.1 hs_) (fun hn_ => Nat.not_le.2 hk_.2.2 hn_)⟩)); have n3_ := Aside0.mk (Kd.R_mono (ok' := fun k_ => (w.heap.size ≤ k_)) ho0 (fun k_ hk_ => Or.elim hk_ (fun hs_ => (HO590.out.1 k_ (hs_).symm).1) (fun hn_ => (Nat.le_trans (below_size (by repeat (first | (with_reducible first | exact HB.out | apply below_alloc | apply pw_below_drewN | apply below_drew1) | exact HB.out))) hn_)))); have n4_ := Aside0.mk (hb); clear HO0; clear HO1; clear HO585; clear HB; clear HO590; have HO0 := n0_; have HO1 := n1_; have HO585 := n2_; have HO593 := n3_; have HB := n4_; clear n0_ n1_ n2_ n3_ n4_; (try clear hb); (try clear hkp); (try clear ho0)))
      go_ret2
      exact ⟨_, by first | rfl | (simp [errW_none, errW_some] <;> rfl) | (simp [*, errW_none, errW_some] <;> rfl), by (with_reducible repeat (first | apply Kd.R_alloc | apply Kd.R_drewN | apply Kd.R_drew)); exact HO593.out, by repeat (first | (with_reducible first | exact HB.out | apply below_alloc | apply pw_below_drewN | apply below_drew1) | exact HB.out)⟩
  · replace c4 := Bool.eq_false_iff.mpr c4
    subst c4
    have H1 : (some (([] : List Int), 1)) = some (r1, r2) := by rw [if_neg (show ¬ (false = true) by decide)] at H; exact H
    clear H
    have H := H1
    clear H1
    simp only [Option.some.injEq, Prod.mk.injEq] at H
    obtain ⟨rfl, rfl⟩ := H
    go_enter Try.func82, Try.ntmps82
    go_wp2_with (first | ((with_reducible refine gate_dst (N := 9) rfl ?_); refine Kd.N_lit (Kd.slice 42 (Kd.int .u64)) _ 37 ?hg (N' := 9) ?hd (xs := ([l0, l1] : List (List Int))) (inner := [.slice A0 l0.length c0, .slice A1 l1.length c1]) (ok := (fun k_ => ((P0_ k_ ∨ P1_ k_) ∨ w.heap.size ≤ k_))) (okp := (fun k_ => ((P0_ k_ ∨ P1_ k_) ∨ w.heap.size ≤ k_))) ?hr ?hp (fun _ hk => hk) ((show ∀ k_, w.heap.size ≤ k_ → (fun k_ => ((P0_ k_ ∨ P1_ k_) ∨ w.heap.size ≤ k_)) k_ from fun k_ hk => (.inr (Nat.le_trans (below_size (by repeat (first | (with_reducible first | exact HB.out | apply below_alloc | apply pw_below_drewN | apply below_drew1) | exact HB.out))) hk))) _ (Nat.le_refl _)) (Below.refl _ _) (Nat.le_refl _) (by simp) ?_; (case hd => rfl); (case hg => rfl); (case hr => first | (go_simp; done) | (go_simp; rfl) | (go_simp; simp only [u64_u8]; done) | (go_simp; simp only [u64_u8]; rfl)); (case hp => exact (Reps.one (show Kd.FK (Kd.slice 42 (Kd.int .u64)) _ _ l0 [.slice A0 l0.length c0] from (Kd.FK_slice_mk (Kd.V_reads' (Kd.V_mono (ok' := (fun k_ => ((P0_ k_ ∨ P1_ k_) ∨ w.heap.size ≤ k_))) (HO0.out) (fun k_ hk => hk))).2.1 (Kd.V_F (Kd.V_mono (ok' := (fun k_ => ((P0_ k_ ∨ P1_ k_) ∨ w.heap.size ≤ k_))) (HO0.out) (fun k_ hk => hk))))) (Reps.one (show Kd.FK (Kd.slice 42 (Kd.int .u64)) _ _ l1 [.slice A1 l1.length c1] from (Kd.FK_slice_mk (Kd.V_reads' (Kd.V_mono (ok' := (fun k_ => ((P0_ k_ ∨ P1_ k_) ∨ w.heap.size ≤ k_))) (HO1.out) (fun k_ hk => hk))).2.1 (Kd.V_F (Kd.V_mono (ok' := (fun k_ => ((P0_ k_ ∨ P1_ k_) ∨ w.heap.size ≤ k_))) (HO1.out) (fun k_ hk => hk))))) (Reps.none _ _)))); intro v584 w18 ho19 hb hg_ hnew_; clear hg_ hnew_; (first | rw [← Ny583.out] at ho19 | (simp only [Int.reduceToNat] at ho19; rw [← Ny583.out] at ho19)); have n0_ := Aside0.mk (Kd.V_elder' (by (with_reducible repeat (first | apply Kd.V_alloc | apply Kd.V_drewN | apply Kd.V_drew)); exact HO0.out) (Kd.N_base ho19) hb); have n1_ := Aside0.mk (Kd.V_elder' (by (with_reducible repeat (first | apply Kd.V_alloc | apply Kd.V_drewN | apply Kd.V_drew)); exact HO1.out) (Kd.N_base ho19) hb); have n2_ := Aside0.mk (Kd.N_lower ho19 (below_size (by repeat (first | (with_reducible first | exact HB.out | apply below_alloc | apply pw_below_drewN | apply below_drew1) | exact HB.out)))); have n3_ := Aside0.mk (below_step (by repeat (first | (with_reducible first | exact HB.out | apply below_alloc | apply pw_below_drewN | apply below_drew1) | exact HB.out)) hb); clear HO0; clear HO1; clear HB; have HO0 := n0_; have HO1 := n1_; have HO585 := n2_; have HB := n3_; clear n0_ n1_ n2_ n3_; clear hb ho19; obtain ⟨Ao20, co20, eo20⟩ := Kd.N_slice HO585.out; subst eo20) | ((with_reducible refine gate_callee (f := 69) rfl ?_); refine goesL_ (some 10) rfl rfl Try.func69 (by kernel_rfl) rfl #[.slice Ao20 y583.length co20] rfl (by (try simp only [List.map_toArray, List.map_cons, List.map_nil]); first | done | rfl | (simp only [List.length_drop, List.length_take]; rfl)) ?_; (with_reducible refine (nat_right.calls _ _ y583 false _ ?side1 ?side2 A3.out).mono ?_); (case side1 => repeat (first | exact (Kd.N_reads' HO585.out).2.2 | (with_reducible refine Kd.C_alloc ?_ _) | (with_reducible refine Kd.C_drewN ?_ _) | (with_reducible refine Kd.C_drew ?_))); (case side2 => exact (Kd.N_reads' HO585.out).2.1); rintro e w' ⟨rfl, ⟨nd, rfl⟩⟩; refine ⟨_, rfl, ?_⟩))
    go_ret2
    exact ⟨_, by first | rfl | (simp [errW_none, errW_some] <;> rfl) | (simp [*, errW_none, errW_some] <;> rfl), by first | exact Kd.R_nil _ _ _ _ _ | exact Kd.N_nil _ _ _ _ _ | exact Kd.V_nil _ _ _ _ _ | exact Kd.Q_nil _ _ _ _ _ | exact Kd.S_nil _ _ _ _ _, by repeat (first | (with_reducible first | exact HB.out | apply below_alloc | apply pw_below_drewN | apply below_drew1) | exact HB.out)⟩

end Go.Proofs.Ytgeanpnkllnipac.F
end

section
namespace Go.Proofs.Ytgeanpnkllnipac.F
open Go.RowKit Go.Proofs.YtgeanpnkllnipacW.PrintWords Go.Proofs.YtgeanpnkllnipacW.PrintLast Go.Proofs.YtgeanpnkllnipacW.PrintMore
attribute [local go_sem] max2_int min2_int max_two min_two max_three min_three max_four min_four   -- for this text's walks alone
set_option linter.unusedVariables false
set_option linter.unusedSimpArgs false

/-! ### nat_Shr: function 22 -/
mutual
def nat_Shr.j0 : Nat → List Int → Int → Bool → Option (List Int × Int)
  | 0, _, _, _ => none
  | k + 1, x0, x1, x9 => if x9 = true then (some (([] : List Int), 1)) else (if (wrap64 (Int.tdiv x1 64)) ≥ (x0.length : Int) then (some (([] : List Int), 0)) else (if 0 ≤ (wrap64 (Int.tdiv x1 64)) then (if (wrap64 (Int.tdiv x1 64)) ≤ (x0.length : Int) then (if 0 ≤ ((x0.drop ((wrap64 (Int.tdiv x1 64)) : Int).toNat).length : Int) then (if (((x0.drop ((wrap64 (Int.tdiv x1 64)) : Int).toNat).length : Int) : Int).toNat ≤ 35184372088832 then (nat_Shr.l0 k (x0.drop ((wrap64 (Int.tdiv x1 64)) : Int).toNat) (IntKind.u64.wrap (Int.tmod x1 64)) (List.replicate (((x0.drop ((wrap64 (Int.tdiv x1 64)) : Int).toNat).length : Int) : Int).toNat 0) ((x0.drop ((wrap64 (Int.tdiv x1 64)) : Int).toNat).length : Int) 0) else (none)) else (none)) else (none)) else (none)))
def nat_Shr.l0 : Nat → List Int → Int → List Int → Int → Int → Option (List Int × Int)
  | 0, _, _, _, _, _ => none
  | k + 1, x0, x6, x7, x34, x35 => if x35 < x34 then (if 0 ≤ x35 then (if x35 < (x0.length : Int) then (if 0 ≤ x6 then (if x35 < (x7.length : Int) then ((some (x7.set (x35 : Int).toNat (shr .u64 (rd x0 x35) x6) : List Int)).bind fun y351 => (if x6 > 0 then (if (wrap64 (x35 + 1)) < (x0.length : Int) then (if 0 ≤ (wrap64 (x35 + 1)) then (if 0 ≤ (IntKind.u64.wrap (64 - x6)) then (nat_Shr.l0 k x0 x6 (y351.set (x35 : Int).toNat (Go.bits .or .u64 (rd y351 x35) (shl .u64 (rd x0 (wrap64 (x35 + 1))) (IntKind.u64.wrap (64 - x6))))) x34 (wrap64 (x35 + 1))) else (none)) else (none)) else (nat_Shr.l0 k x0 x6 y351 x34 (wrap64 (x35 + 1)))) else (nat_Shr.l0 k x0 x6 y351 x34 (wrap64 (x35 + 1))))) else (none)) else (none)) else (none)) else (none)) else ((nat_told.f k x7).bind fun bt355 => (some (bt355.1, bt355.2)))
end
def nat_Shr.f (k : Nat) (l0 : List Int) (a1 : Int) : Option (List Int × Int) := (nat_Right.f l0).bind fun t345 => (if t345 = true then (nat_Shr.j0 k l0 a1 (decide (a1 < 0))) else (nat_Shr.j0 k l0 a1 true))
theorem nat_Shr.mono_l : ∀ k, (∀ y0 y1 y2, LeO (nat_Shr.j0 k y0 y1 y2) (nat_Shr.j0 (k + 1) y0 y1 y2)) ∧ (∀ y0 y1 y2 y3 y4, LeO (nat_Shr.l0 k y0 y1 y2 y3 y4) (nat_Shr.l0 (k + 1) y0 y1 y2 y3 y4))
  | 0 => ⟨fun _ _ _ r h => by simp [nat_Shr.j0] at h, fun _ _ _ _ _ r h => by simp [nat_Shr.l0] at h⟩
  | k + 1 => by
    obtain ⟨ih0, ih1⟩ := nat_Shr.mono_l k
    refine ⟨?_, ?_⟩
    · intro y0 y1 y2
      unfold nat_Shr.j0
      repeat' first
      | (with_reducible exact ih0 _ _ _)
      | (with_reducible exact ih1 _ _ _ _ _)
      | (with_reducible exact nat_told.mono _ _)
      | (with_reducible exact LeO.refl _)
      | (with_reducible exact LeO.none _)
      | (with_reducible refine LeO.ite ?_ ?_)
      | (with_reducible refine LeO.bind ?_ (fun _ => ?_))
      | exact ih0 _ _ _
      | exact ih1 _ _ _ _ _
      | exact nat_told.mono _ _
      | exact LeO.none _
      | refine LeO.ite ?_ ?_
      | refine LeO.bind ?_ (fun _ => ?_)
    · intro y0 y1 y2 y3 y4
      unfold nat_Shr.l0
      repeat' first
      | (with_reducible exact ih0 _ _ _)
      | (with_reducible exact ih1 _ _ _ _ _)
      | (with_reducible exact nat_told.mono _ _)
      | (with_reducible exact LeO.refl _)
      | (with_reducible exact LeO.none _)
      | (with_reducible refine LeO.ite ?_ ?_)
      | (with_reducible refine LeO.bind ?_ (fun _ => ?_))
      | exact ih0 _ _ _
      | exact ih1 _ _ _ _ _
      | exact nat_told.mono _ _
      | exact LeO.none _
      | refine LeO.ite ?_ ?_
      | refine LeO.bind ?_ (fun _ => ?_)
theorem nat_Shr.mono : ∀ a0 a1 k, LeO (nat_Shr.f k a0 a1) (nat_Shr.f (k + 1) a0 a1) := by
  intro a0 a1 k
  obtain ⟨ih0, ih1⟩ := nat_Shr.mono_l k
  unfold nat_Shr.f
  repeat' first
      | (with_reducible exact ih0 _ _ _)
      | (with_reducible exact ih1 _ _ _ _ _)
      | (with_reducible exact nat_told.mono _ _)
      | (with_reducible exact LeO.refl _)
      | (with_reducible exact LeO.none _)
      | (with_reducible refine LeO.ite ?_ ?_)
      | (with_reducible refine LeO.bind ?_ (fun _ => ?_))
      | exact ih0 _ _ _
      | exact ih1 _ _ _ _ _
      | exact nat_told.mono _ _
      | exact LeO.none _
      | refine LeO.ite ?_ ?_
      | refine LeO.bind ?_ (fun _ => ?_)
def nat_Shr.T13 : Bool × List (List Nat × List Nat) := (true, [([], []), ([], []), ([0, 1], [0, 1]), ([2], [2]), ([], []), ([], []), ([5], [5]), ([4, 6], [4, 6]), ([7], [7]), ([], []), ([9], [9]), ([8, 10], [8, 10]), ([3, 11], [3, 11]), ([0, 1, 0, 1, 2, 3, 4, 5, 6, 7, 8, 9, 10, 11, 12], [0, 1]), ([13, 12, 0, 1, 2, 3, 4, 5, 6, 7, 8, 9, 10, 11, 12], [12, 13])])
def nat_Shr.B13 : List Nat := [0, 0, 3, 7, 0, 0, 32, 112, 240, 0, 512, 2032, 4095, 8191, 16383]
theorem nat_Shr.tab13 : rtab .any (opsOf Try.f22 13) = nat_Shr.T13 := by kernel_rfl
theorem nat_Shr.bits13 : waitsOk nat_Shr.T13.2 nat_Shr.B13 = true := by kernel_rfl
set_option maxHeartbeats 8000000 in
set_option maxRecDepth 100000 in
theorem nat_Shr.calls (k : Nat) (A0 : Option Addr) (c0 : Nat) (l0 : List Int) (a1 : Int) (r1 : List Int) (r2 : Int) (w : World) (hr0 : Kd.C (Kd.int .u64) w A0 l0.length l0) (hc0 : l0.length ≤ c0) (h : nat_Shr.f k l0 a1 = some (r1, r2)) :
    Calls Try.prog 22 #[.slice A0 l0.length c0, .int .i64 a1] w fun e w' => ∃ v0_ : Value, e = .returned (.tuple #[v0_, .int .i64 r2]) ∧ Kd.R (Kd.int .u64) 42 w' w.heap.size (fun _ => True) v0_ r1 ∧ Below w.heap.size w w' := by
  have HR0 := Aside0.mk hr0
  have HC0 := Aside0.mk hc0
  clear hr0 hc0
  have HB := Aside0.mk (Below.refl w.heap.size w)
  have H : ((nat_Right.f l0).bind fun t345 => (if t345 = true then (nat_Shr.j0 k l0 a1 (decide (a1 < 0))) else (nat_Shr.j0 k l0 a1 true))) = some (r1, r2) := h
  clear h
  have HC3 := Aside0.mk H
  clear H
  go_enter Try.func22, Try.ntmps22
  go_upto_region 1 with (fail)
  go_cut [9] (fun v9 wc => ∃ (kq : Nat) (x9_2 : Bool), v9 = .bool x9_2 ∧ Aside0 (nat_Shr.j0 kq l0 a1 x9_2 = some (r1, r2)) ∧ Aside0 (kq ≤ k) ∧ Aside0 (Below w.heap.size w wc))
  case first =>
    have H := HC3.out
    clear HC3
    replace H := Option.bind_eq_some_iff.mp H
    obtain ⟨t345, A40, H⟩ := H
    replace H : (if t345 = true then (nat_Shr.j0 k l0 a1 (decide (a1 < 0))) else (nat_Shr.j0 k l0 a1 true)) = some (r1, r2) := H
    have A4 := Aside0.mk A40
    clear A40
    by_cases c5 : t345 = true
    · subst c5
      have H1 : (nat_Shr.j0 k l0 a1 (decide (a1 < 0))) = some (r1, r2) := by rw [if_pos rfl] at H; exact H
      clear H
      have H := H1
      clear H1
      have H' := Aside0.mk H
      clear H
      go_wp2_with (first | ((with_reducible refine gate_callee (f := 42) rfl ?_); refine goesL_ (some 11) rfl rfl Try.func42 (by kernel_rfl) rfl #[.slice A0 l0.length c0] rfl (by (try simp only [List.map_toArray, List.map_cons, List.map_nil]); first | done | rfl | (simp only [List.length_drop, List.length_take]; rfl)) ?_; (with_reducible refine (nat_Right.calls _ _ l0 true _ ?side1 ?side2 A4.out).mono ?_); (case side1 => repeat (first | exact (Kd.C_below HR0.out HB.out) | (with_reducible refine Kd.C_alloc ?_ _) | (with_reducible refine Kd.C_drewN ?_ _) | (with_reducible refine Kd.C_drew ?_))); (case side2 => exact HC0.out); rintro e w' ⟨rfl, ⟨nd, rfl⟩⟩; refine ⟨_, rfl, ?_⟩))
      go_meet
      case rel => exact ⟨_, (decide (a1 < 0)), (by first | rfl | (simp; done) | (simp [*]; done)), H', ⟨by first | omega | exact Nat.le_refl _⟩, ⟨by repeat (first | (with_reducible first | exact HB.out | apply below_alloc | apply pw_below_drewN | apply below_drew1) | exact HB.out)⟩⟩
    · replace c5 := Bool.eq_false_iff.mpr c5
      subst c5
      have H1 : (nat_Shr.j0 k l0 a1 true) = some (r1, r2) := by rw [if_neg (show ¬ (false = true) by decide)] at H; exact H
      clear H
      have H := H1
      clear H1
      have H' := Aside0.mk H
      clear H
      go_wp2_with (first | ((with_reducible refine gate_callee (f := 42) rfl ?_); refine goesL_ (some 11) rfl rfl Try.func42 (by kernel_rfl) rfl #[.slice A0 l0.length c0] rfl (by (try simp only [List.map_toArray, List.map_cons, List.map_nil]); first | done | rfl | (simp only [List.length_drop, List.length_take]; rfl)) ?_; (with_reducible refine (nat_Right.calls _ _ l0 false _ ?side1 ?side2 A4.out).mono ?_); (case side1 => repeat (first | exact (Kd.C_below HR0.out HB.out) | (with_reducible refine Kd.C_alloc ?_ _) | (with_reducible refine Kd.C_drewN ?_ _) | (with_reducible refine Kd.C_drew ?_))); (case side2 => exact HC0.out); rintro e w' ⟨rfl, ⟨nd, rfl⟩⟩; refine ⟨_, rfl, ?_⟩))
      go_meet
      case rel => exact ⟨_, (true), (by first | rfl | (simp; done) | (simp [*]; done)), H', ⟨by first | omega | exact Nat.le_refl _⟩, ⟨by repeat (first | (with_reducible first | exact HB.out | apply below_alloc | apply pw_below_drewN | apply below_drew1) | exact HB.out)⟩⟩
  case rest =>
    clear HC3
    try clear c2
    try clear p2
    try clear c4
    try clear c5
    obtain ⟨kq, x9_2, rfl, HA, HJ2, HB⟩ := hcut
    cases kq with
    | zero => exact absurd HA.out (by simp [nat_Shr.j0])
    | succ kj2 =>
      have H := HA.out
      clear HA
      simp only [nat_Shr.j0] at H
      by_cases c6 : x9_2 = true
      · subst c6
        have H1 : (some (([] : List Int), 1)) = some (r1, r2) := by rw [if_pos rfl] at H; exact H
        clear H
        have H := H1
        clear H1
        simp only [Option.some.injEq, Prod.mk.injEq] at H
        obtain ⟨rfl, rfl⟩ := H
        go_wp2
        go_ret2
        exact ⟨_, by first | rfl | (simp [errW_none, errW_some] <;> rfl) | (simp [*, errW_none, errW_some] <;> rfl), by first | exact Kd.R_nil _ _ _ _ _ | exact Kd.N_nil _ _ _ _ _ | exact Kd.V_nil _ _ _ _ _ | exact Kd.Q_nil _ _ _ _ _ | exact Kd.S_nil _ _ _ _ _, by repeat (first | (with_reducible first | exact HB.out | apply below_alloc | apply pw_below_drewN | apply below_drew1) | exact HB.out)⟩
      · replace c6 := Bool.eq_false_iff.mpr c6
        subst c6
        have H1 : (if (wrap64 (Int.tdiv a1 64)) ≥ (l0.length : Int) then (some (([] : List Int), 0)) else (if 0 ≤ (wrap64 (Int.tdiv a1 64)) then (if (wrap64 (Int.tdiv a1 64)) ≤ (l0.length : Int) then (if 0 ≤ ((l0.drop ((wrap64 (Int.tdiv a1 64)) : Int).toNat).length : Int) then (if (((l0.drop ((wrap64 (Int.tdiv a1 64)) : Int).toNat).length : Int) : Int).toNat ≤ 35184372088832 then (nat_Shr.l0 kj2 (l0.drop ((wrap64 (Int.tdiv a1 64)) : Int).toNat) (IntKind.u64.wrap (Int.tmod a1 64)) (List.replicate (((l0.drop ((wrap64 (Int.tdiv a1 64)) : Int).toNat).length : Int) : Int).toNat 0) ((l0.drop ((wrap64 (Int.tdiv a1 64)) : Int).toNat).length : Int) 0) else (none)) else (none)) else (none)) else (none))) = some (r1, r2) := by rw [if_neg (show ¬ (false = true) by decide)] at H; exact H
        clear H
        have H := H1
        clear H1
        by_cases c7 : (wrap64 (Int.tdiv a1 64)) ≥ (l0.length : Int)
        · rw [if_pos c7] at H
          have c7b0 : decide ((l0.length : Int) ≤ (wrap64 (Int.tdiv a1 64))) = true := decide_eq_true c7
          clear c7
          simp only [Option.some.injEq, Prod.mk.injEq] at H
          obtain ⟨rfl, rfl⟩ := H
          go_wp2
          go_ret2
          exact ⟨_, by first | rfl | (simp [errW_none, errW_some] <;> rfl) | (simp [*, errW_none, errW_some] <;> rfl), by first | exact Kd.R_nil _ _ _ _ _ | exact Kd.N_nil _ _ _ _ _ | exact Kd.V_nil _ _ _ _ _ | exact Kd.Q_nil _ _ _ _ _ | exact Kd.S_nil _ _ _ _ _, by repeat (first | (with_reducible first | exact HB.out | apply below_alloc | apply pw_below_drewN | apply below_drew1) | exact HB.out)⟩
        · rw [if_neg c7] at H
          have c7b0 : decide ((l0.length : Int) ≤ (wrap64 (Int.tdiv a1 64))) = false := decide_eq_false c7
          clear c7
          obtain ⟨ji8, hji8⟩ : ∃ j_ : Int, (wrap64 (Int.tdiv a1 64)) = j_ := ⟨_, rfl⟩
          replace H : (if 0 ≤ (ji8) then (if (ji8) ≤ (l0.length : Int) then (if 0 ≤ ((l0.drop ((ji8) : Int).toNat).length : Int) then (if (((l0.drop ((ji8) : Int).toNat).length : Int) : Int).toNat ≤ 35184372088832 then (nat_Shr.l0 kj2 (l0.drop ((ji8) : Int).toNat) (IntKind.u64.wrap (Int.tmod a1 64)) (List.replicate (((l0.drop ((ji8) : Int).toNat).length : Int) : Int).toNat 0) ((l0.drop ((ji8) : Int).toNat).length : Int) 0) else (none)) else (none)) else (none)) else (none)) = some (r1, r2) := by first | (rw [hji8] at H; exact H) | (simp only [hji8] at H ⊢; exact H)
          (try rw [hji8] at c7b0)
          have hji8w : (IntKind.i64.wrap (Int.tdiv a1 64)) = ji8 := (i64_w _).trans hji8
          by_cases c9 : 0 ≤ (ji8)
          · rw [if_pos c9] at H
            have c9b0 := eq_true c9
            have c9b1 : decide (0 ≤ (ji8)) = true := decide_eq_true c9
            clear c9
            by_cases c10 : (ji8) ≤ (l0.length : Int)
            · rw [if_pos c10] at H
              have c10b0 := eq_true c10
              have c10b1 : decide ((ji8) ≤ (l0.length : Int)) = true := decide_eq_true c10
              clear c10
              by_cases c11 : 0 ≤ ((l0.drop ((ji8) : Int).toNat).length : Int)
              · rw [if_pos c11] at H
                have c11b0 := eq_true c11
                have c11b1 : decide (0 ≤ ((l0.drop ((ji8) : Int).toNat).length : Int)) = true := decide_eq_true c11
                clear c11
                by_cases c12 : (((l0.drop ((ji8) : Int).toNat).length : Int) : Int).toNat ≤ 35184372088832
                · rw [if_pos c12] at H
                  have c12b0 := eq_true c12
                  have c12b1 : decide ((((l0.drop ((ji8) : Int).toNat).length : Int) : Int).toNat ≤ 35184372088832) = true := decide_eq_true c12
                  clear c12
                  obtain ⟨y347, hy347⟩ : ∃ y_ : List Int, y_ = (List.replicate (((l0.drop ((ji8) : Int).toNat).length : Int) : Int).toNat 0) := ⟨_, rfl⟩
                  replace H : (nat_Shr.l0 kj2 (l0.drop ((ji8) : Int).toNat) (IntKind.u64.wrap (Int.tmod a1 64)) y347 ((l0.drop ((ji8) : Int).toNat).length : Int) 0) = some (r1, r2) := by first | (rw [hy347]; with_reducible exact H) | (have H2_ := (Option.bind_some _ _).symm.trans H; rw [hy347]; with_reducible exact H2_) | (have H2_ := (Option.bind_some _ _).symm.trans H; with_reducible exact H2_) | with_reducible exact H | (rw [hy347]; exact H) | exact H
                  have Ny347 := Aside0.mk hy347
                  clear hy347
                  have H' := Aside0.mk H
                  clear H
                  obtain ⟨i013, hi013, _, hsz13, _⟩ := info_parts info42
                  obtain ⟨A13, hcut13, hA13, hC13⟩ := print_drop_of (P := Try.prog) (Value.int .u64) 0 37 42 .i64 Try.underlying37 hi013 hsz13 A0 c0 l0 (ji8) (of_decide_eq_true (by first | (with_reducible assumption) | assumption)) (of_decide_eq_true (by first | (with_reducible assumption) | assumption)) HC0.out
                  have HR346 := Aside0.mk (Kd.C_of_reads (h1 := fun _ => rfl) (hA13 _ (Kd.reads_of_C HR0.out)))
                  have HC346 := Aside0.mk hC13
                  clear hA13 hC13 hi013 hsz13
                  go_wp2_with (first | ((with_reducible refine gate_dst (N := 32) rfl ?_); (try (refine gate_guard (by rfl) ?_; dsimp only)); refine Kd.R_make (Kd.int .u64) _ 42 rfl (N := 32) rfl 37 _ _ rfl ((l0.drop ((ji8) : Int).toNat).length : Int) (by first | rfl | (simp only [List.length_drop, List.length_take]; rfl) | (simp; done)) (by first | rfl | (simp only [List.length_drop, List.length_take]; rfl) | (simp; done)) Try.underlying37 (.int .u64 0) 8 info42 rfl (by decide) (by omega) 0 (ok := fun _ => True) (okp := fun _ => True) rfl (fun _ hk => hk) trivial (of_decide_eq_true (by first | (with_reducible assumption) | assumption)) (Nat.le_trans (Nat.mul_le_mul_right _ (of_decide_eq_true (by first | (with_reducible assumption) | assumption) : ((l0.drop ((ji8) : Int).toNat).length : Int).toNat ≤ 35184372088832)) (by omega)) (Below.refl _ _) (Nat.le_refl _) ?_; intro v348 w14 ho15 hb hg_ hnew_; clear hg_ hnew_; (first | rw [← Ny347.out] at ho15 | (simp only [Int.reduceToNat] at ho15; rw [← Ny347.out] at ho15)); have n0_ := Aside0.mk (Kd.R_lower ho15 (below_size (by repeat (first | (with_reducible first | exact HB.out | apply below_alloc | apply pw_below_drewN | apply below_drew1) | exact HB.out)))); have n1_ := Aside0.mk (below_step (by repeat (first | (with_reducible first | exact HB.out | apply below_alloc | apply pw_below_drewN | apply below_drew1) | exact HB.out)) hb); clear HB; have HO349 := n0_; have HB := n1_; clear n0_ n1_; clear hb ho15))
                  go_loopg [35] kj2 (fun kq v35 w' => ∃ (x7_2 : List Int) (x35_2 : Int), v35 = .int .i64 x35_2 ∧ Aside0 (nat_Shr.l0 kq (l0.drop ((ji8) : Int).toNat) (IntKind.u64.wrap (Int.tmod a1 64)) x7_2 ((l0.drop ((ji8) : Int).toNat).length : Int) x35_2 = some (r1, r2)) ∧ Aside0 (kq ≤ kj2) ∧ Aside0 (Kd.R (Kd.int .u64) 42 w' w.heap.size (fun _ => True) v348 x7_2) ∧ Aside0 (Below w.heap.size w w'))
                  case atStart => exact ⟨(y347), (0), (by first | rfl | (simp; done) | (simp [*]; done)), H', ⟨Nat.le_refl _⟩, ⟨by (with_reducible repeat (first | apply Kd.R_alloc | apply Kd.R_drewN | apply Kd.R_drew)); exact HO349.out⟩, ⟨by repeat (first | (with_reducible first | exact HB.out | apply below_alloc | apply pw_below_drewN | apply below_drew1) | exact HB.out)⟩⟩
                  case round =>
                    clear H'
                    try clear c1
                    try clear c2
                    try clear p2
                    try clear c4
                    try clear c5
                    try clear c6
                    try clear p6
                    try clear c7
                    try clear c7b0
                    try clear c9
                    try clear c9b0
                    try clear c9b1
                    try clear c10
                    try clear c10b0
                    try clear c10b1
                    try clear c11
                    try clear c11b0
                    try clear c11b1
                    try clear c12
                    try clear c12b0
                    try clear c12b1
                    try clear p2
                    obtain ⟨x7_2, x35_2, rfl, HA, HK2, HO_7, HB⟩ := hrel
                    cases gk with
                    | zero => exact absurd HA.out (by simp [nat_Shr.l0])
                    | succ k2 =>
                      have H := HA.out
                      clear HA
                      simp only [nat_Shr.l0] at H
                      by_cases c16 : x35_2 < ((l0.drop ((ji8) : Int).toNat).length : Int)
                      · rw [if_pos c16] at H
                        have c16b0 : decide (x35_2 < ((l0.drop ((ji8) : Int).toNat).length : Int)) = true := decide_eq_true c16
                        (try (have c16b0z := c16b0; simp only [List.length_drop, List.length_take] at c16b0z))
                        clear c16
                        by_cases c17 : 0 ≤ x35_2
                        · rw [if_pos c17] at H
                          have c17b0 : decide (0 ≤ x35_2) = true := decide_eq_true c17
                          clear c17
                          by_cases c18 : x35_2 < ((l0.drop ((ji8) : Int).toNat).length : Int)
                          · rw [if_pos c18] at H
                            have c18b0 : decide (x35_2 < ((l0.drop ((ji8) : Int).toNat).length : Int)) = true := decide_eq_true c18
                            (try (have c18b0z := c18b0; simp only [List.length_drop, List.length_take] at c18b0z))
                            clear c18
                            obtain ⟨ji19, hji19⟩ : ∃ j_ : Int, (IntKind.u64.wrap (Int.tmod a1 64)) = j_ := ⟨_, rfl⟩
                            replace H : (if 0 ≤ (ji19) then (if x35_2 < (x7_2.length : Int) then ((some (x7_2.set (x35_2 : Int).toNat (shr .u64 (rd (l0.drop ((ji8) : Int).toNat) x35_2) (ji19)) : List Int)).bind fun y351 => (if (ji19) > 0 then (if (wrap64 (x35_2 + 1)) < ((l0.drop ((ji8) : Int).toNat).length : Int) then (if 0 ≤ (wrap64 (x35_2 + 1)) then (if 0 ≤ (IntKind.u64.wrap (64 - (ji19))) then (nat_Shr.l0 k2 (l0.drop ((ji8) : Int).toNat) (ji19) (y351.set (x35_2 : Int).toNat (Go.bits .or .u64 (rd y351 x35_2) (shl .u64 (rd (l0.drop ((ji8) : Int).toNat) (wrap64 (x35_2 + 1))) (IntKind.u64.wrap (64 - (ji19)))))) ((l0.drop ((ji8) : Int).toNat).length : Int) (wrap64 (x35_2 + 1))) else (none)) else (none)) else (nat_Shr.l0 k2 (l0.drop ((ji8) : Int).toNat) (ji19) y351 ((l0.drop ((ji8) : Int).toNat).length : Int) (wrap64 (x35_2 + 1)))) else (nat_Shr.l0 k2 (l0.drop ((ji8) : Int).toNat) (ji19) y351 ((l0.drop ((ji8) : Int).toNat).length : Int) (wrap64 (x35_2 + 1))))) else (none)) else (none)) = some (r1, r2) := by first | (rw [hji19] at H; exact H) | (simp only [hji19] at H ⊢; exact H)
                            by_cases c20 : 0 ≤ (ji19)
                            · rw [if_pos c20] at H
                              have c20b0 := eq_true c20
                              have c20b1 : decide (0 ≤ (ji19)) = true := decide_eq_true c20
                              clear c20
                              obtain ⟨ji21, hji21⟩ : ∃ j_ : Int, (shr .u64 (rd (l0.drop ((ji8) : Int).toNat) x35_2) (ji19)) = j_ := ⟨_, rfl⟩
                              replace H : (if x35_2 < (x7_2.length : Int) then ((some (x7_2.set (x35_2 : Int).toNat (ji21) : List Int)).bind fun y351 => (if (ji19) > 0 then (if (wrap64 (x35_2 + 1)) < ((l0.drop ((ji8) : Int).toNat).length : Int) then (if 0 ≤ (wrap64 (x35_2 + 1)) then (if 0 ≤ (IntKind.u64.wrap (64 - (ji19))) then (nat_Shr.l0 k2 (l0.drop ((ji8) : Int).toNat) (ji19) (y351.set (x35_2 : Int).toNat (Go.bits .or .u64 (rd y351 x35_2) (shl .u64 (rd (l0.drop ((ji8) : Int).toNat) (wrap64 (x35_2 + 1))) (IntKind.u64.wrap (64 - (ji19)))))) ((l0.drop ((ji8) : Int).toNat).length : Int) (wrap64 (x35_2 + 1))) else (none)) else (none)) else (nat_Shr.l0 k2 (l0.drop ((ji8) : Int).toNat) (ji19) y351 ((l0.drop ((ji8) : Int).toNat).length : Int) (wrap64 (x35_2 + 1)))) else (nat_Shr.l0 k2 (l0.drop ((ji8) : Int).toNat) (ji19) y351 ((l0.drop ((ji8) : Int).toNat).length : Int) (wrap64 (x35_2 + 1))))) else (none)) = some (r1, r2) := by first | (rw [hji21] at H; exact H) | (simp only [hji21] at H ⊢; exact H)
                              have hji21_ : ((rd (l0.drop ((ji8) : Int).toNat) x35_2) / 2 ^ min (ji19).toNat 64) = ji21 := hji21
                              have hji21z : (ji19) ≤ 64 → ((rd (l0.drop ((ji8) : Int).toNat) x35_2) / 2 ^ (ji19).toNat) = ji21 := shr_small hji21
                              by_cases c22 : x35_2 < (x7_2.length : Int)
                              · rw [if_pos c22] at H
                                have c22b0 : decide (x35_2 < (x7_2.length : Int)) = true := decide_eq_true c22
                                clear c22
                                obtain ⟨y351, hy351⟩ : ∃ y_ : List Int, y_ = (x7_2.set (x35_2 : Int).toNat (ji21)) := ⟨_, rfl⟩
                                replace H : (if (ji19) > 0 then (if (wrap64 (x35_2 + 1)) < ((l0.drop ((ji8) : Int).toNat).length : Int) then (if 0 ≤ (wrap64 (x35_2 + 1)) then (if 0 ≤ (IntKind.u64.wrap (64 - (ji19))) then (nat_Shr.l0 k2 (l0.drop ((ji8) : Int).toNat) (ji19) (y351.set (x35_2 : Int).toNat (Go.bits .or .u64 (rd y351 x35_2) (shl .u64 (rd (l0.drop ((ji8) : Int).toNat) (wrap64 (x35_2 + 1))) (IntKind.u64.wrap (64 - (ji19)))))) ((l0.drop ((ji8) : Int).toNat).length : Int) (wrap64 (x35_2 + 1))) else (none)) else (none)) else (nat_Shr.l0 k2 (l0.drop ((ji8) : Int).toNat) (ji19) y351 ((l0.drop ((ji8) : Int).toNat).length : Int) (wrap64 (x35_2 + 1)))) else (nat_Shr.l0 k2 (l0.drop ((ji8) : Int).toNat) (ji19) y351 ((l0.drop ((ji8) : Int).toNat).length : Int) (wrap64 (x35_2 + 1)))) = some (r1, r2) := by first | (rw [hy351]; with_reducible exact H) | (have H2_ := (Option.bind_some _ _).symm.trans H; rw [hy351]; with_reducible exact H2_) | (have H2_ := (Option.bind_some _ _).symm.trans H; with_reducible exact H2_) | with_reducible exact H | (rw [hy351]; exact H) | exact H
                                have Ny351 := Aside0.mk hy351
                                clear hy351
                                by_cases c24 : (ji19) > 0
                                · rw [if_pos c24] at H
                                  have c24b0 : decide (0 < (ji19)) = true := decide_eq_true c24
                                  clear c24
                                  by_cases c25 : (wrap64 (x35_2 + 1)) < ((l0.drop ((ji8) : Int).toNat).length : Int)
                                  · rw [if_pos c25] at H
                                    have c25b0 : decide ((wrap64 (x35_2 + 1)) < ((l0.drop ((ji8) : Int).toNat).length : Int)) = true := decide_eq_true c25
                                    (try (have c25b0z := c25b0; simp only [List.length_drop, List.length_take] at c25b0z))
                                    clear c25
                                    obtain ⟨ji26, hji26⟩ : ∃ j_ : Int, (wrap64 (x35_2 + 1)) = j_ := ⟨_, rfl⟩
                                    replace H : (if 0 ≤ (ji26) then (if 0 ≤ (IntKind.u64.wrap (64 - (ji19))) then (nat_Shr.l0 k2 (l0.drop ((ji8) : Int).toNat) (ji19) (y351.set (x35_2 : Int).toNat (Go.bits .or .u64 (rd y351 x35_2) (shl .u64 (rd (l0.drop ((ji8) : Int).toNat) (ji26)) (IntKind.u64.wrap (64 - (ji19)))))) ((l0.drop ((ji8) : Int).toNat).length : Int) ji26) else (none)) else (none)) = some (r1, r2) := by first | (rw [hji26] at H; exact H) | (simp only [hji26] at H ⊢; exact H)
                                    (try rw [hji26] at c25b0)
                                    (try rw [hji26] at c25b0z)
                                    have hji26w : (IntKind.i64.wrap (x35_2 + 1)) = ji26 := (i64_w _).trans hji26
                                    by_cases c27 : 0 ≤ (ji26)
                                    · rw [if_pos c27] at H
                                      have c27b0 : decide (0 ≤ (ji26)) = true := decide_eq_true c27
                                      clear c27
                                      obtain ⟨ji28, hji28⟩ : ∃ j_ : Int, (IntKind.u64.wrap (64 - (ji19))) = j_ := ⟨_, rfl⟩
                                      replace H : (if 0 ≤ (ji28) then (nat_Shr.l0 k2 (l0.drop ((ji8) : Int).toNat) (ji19) (y351.set (x35_2 : Int).toNat (Go.bits .or .u64 (rd y351 x35_2) (shl .u64 (rd (l0.drop ((ji8) : Int).toNat) (ji26)) (ji28)))) ((l0.drop ((ji8) : Int).toNat).length : Int) ji26) else (none)) = some (r1, r2) := by first | (rw [hji28] at H; exact H) | (simp only [hji28] at H ⊢; exact H)
                                      by_cases c29 : 0 ≤ (ji28)
                                      · rw [if_pos c29] at H
                                        have c29b0 := eq_true c29
                                        have c29b1 : decide (0 ≤ (ji28)) = true := decide_eq_true c29
                                        clear c29
                                        obtain ⟨ji30, hji30⟩ : ∃ j_ : Int, (shl .u64 (rd (l0.drop ((ji8) : Int).toNat) (ji26)) (ji28)) = j_ := ⟨_, rfl⟩
                                        replace H : (nat_Shr.l0 k2 (l0.drop ((ji8) : Int).toNat) (ji19) (y351.set (x35_2 : Int).toNat (Go.bits .or .u64 (rd y351 x35_2) (ji30))) ((l0.drop ((ji8) : Int).toNat).length : Int) ji26) = some (r1, r2) := by first | (rw [hji30] at H; exact H) | (simp only [hji30] at H ⊢; exact H)
                                        have hji30_ : (IntKind.u64.wrap ((rd (l0.drop ((ji8) : Int).toNat) (ji26)) * 2 ^ min (ji28).toNat 64)) = ji30 := hji30
                                        have hji30z : (ji28) ≤ 64 → (IntKind.u64.wrap ((rd (l0.drop ((ji8) : Int).toNat) (ji26)) * 2 ^ (ji28).toNat)) = ji30 := shl_small hji30
                                        obtain ⟨y354, hy354⟩ : ∃ y_ : List Int, y_ = (y351.set (x35_2 : Int).toNat (Go.bits .or .u64 (rd y351 x35_2) (ji30))) := ⟨_, rfl⟩
                                        replace H : (nat_Shr.l0 k2 (l0.drop ((ji8) : Int).toNat) (ji19) y354 ((l0.drop ((ji8) : Int).toNat).length : Int) ji26) = some (r1, r2) := by first | (rw [hy354]; with_reducible exact H) | (have H2_ := (Option.bind_some _ _).symm.trans H; rw [hy354]; with_reducible exact H2_) | (have H2_ := (Option.bind_some _ _).symm.trans H; with_reducible exact H2_) | with_reducible exact H | (rw [hy354]; exact H) | exact H
                                        have Ny354 := Aside0.mk hy354
                                        clear hy354
                                        have H' := Aside0.mk H
                                        clear H
                                        have p350 : 0 ≤ (x35_2 : Int) := of_decide_eq_true (by first | (with_reducible assumption) | assumption)
                                        have q350 : x35_2 < ((l0.drop ((ji8) : Int).toNat).length : Int) := of_decide_eq_true (by first | (with_reducible assumption) | assumption)
                                        obtain ⟨ad350, e350, hx350_0⟩ := Kd.at_int HR346.out x35_2 p350 q350
                                        cases e350
                                        replace hx350_0 := (HB.out.cell (World.block_lt_of_cell? w _ hx350_0)).trans hx350_0
                                        replace p350 := eq_true p350
                                        replace q350 := eq_true q350
                                        (try (have q350z := q350; simp only [List.length_drop, List.length_take] at q350z))
                                        have p23 : 0 ≤ (x35_2 : Int) := of_decide_eq_true (by first | (with_reducible assumption) | assumption)
                                        have q23 : (x35_2 : Int) < ((x7_2.length : Int) : Int) := of_decide_eq_true (by first | (with_reducible assumption) | assumption)
                                        obtain ⟨go23, co23, eo23, gb23, gl23, cl23, HG23⟩ := Kd.R_form HO_7.out (by omega)
                                        (first | cases eo23 | (injection eo23 with ea_ en_ ec_; (first | subst ea_ | (injection ea_ with ea_; subst ea_)); subst ec_; clear en_))
                                        have GB23 := Aside0.mk gb23
                                        have GG23 := Aside0.mk HG23
                                        clear gb23 gl23 HG23
                                        obtain ⟨hx23_0, hf23_0⟩ := Kd.R_celln 0 HO_7.out (x35_2 : Int) p23 q23
                                        replace p23 := eq_true p23
                                        replace q23 := eq_true q23
                                        have HP32 := Kd.R_putg HO_7.out (x35_2 : Int) ji21
                                        try go_wp2_with (first | ((with_reducible refine gate_store (t := 42) (p := 46) rfl ?_); refine store_event (t := 42) (p := 46) (v := ?vo_w33) (w1 := (wr.setCell ⟨go23, (x35_2 : Int).toNat, none⟩ (.int .u64 ji21))) ?hg ?ho ?hn ?hr ?_; (case ho => rfl); (case hg => rfl); (case hn => rfl); (case hr => first | (go_simp; done) | (go_simp; rfl) | (obtain ⟨hy_, hz_⟩ := Kd.R_celln 0 HO_7.out (x35_2 : Int) (of_decide_eq_true (by first | (with_reducible assumption) | assumption)) (of_decide_eq_true (by first | (with_reducible assumption) | assumption)); (try simp only [Go.IntWalk.toNatUp] at hy_ hz_); (try simp only [Int.reduceToNat, Int.toNat_zero, Int.toNat_ofNat] at hy_ hz_); first | (go_simp; done) | (go_simp; rfl))); intro w33 hw; have hg : wr.grownBy w33 (some go23) := (by rw [hw]; exact HP32.2); have hp_ : Kd.R (Kd.int .u64) 42 w33 w.heap.size (fun _ => True) (.slice (some ⟨go23, 0, none⟩) x7_2.length co23) y351 := (by rw [hw, Ny351.out]; exact HP32.1); clear HP32; have n0_ := Aside0.mk (hp_); have n1_ := Aside0.mk ((by rw [hw]; exact below_set (HB.out) GB23.out : Below w.heap.size w w33)); clear HO_7; clear HB; have HO_7 := n0_; have HB := n1_; clear n0_ n1_; clear hg hw hp_))
                                        have n0_ := Aside0.mk (Kd.R_drew HO_7.out)
                                        have n1_ := Aside0.mk (below_drew1 HB.out)
                                        clear HO_7
                                        clear HB
                                        have HO_7 := n0_
                                        have HB := n1_
                                        clear n0_ n1_
                                        have p352 : 0 ≤ (x35_2 : Int) := of_decide_eq_true (by first | (with_reducible assumption) | assumption)
                                        have q352 : x35_2 < (y351.length : Int) := (by have h_ : (x35_2 : Int) < ((x7_2.length : Int) : Int) := of_decide_eq_true (by first | (with_reducible assumption) | assumption); first | (have e_ := (Kd.R_reads' HO_7.out).1; omega) | simpa only [Ny351.out, List.length_set] using h_)
                                        have ql352 : ((x35_2 : Int) < ((x7_2.length : Int) : Int)) = True := eq_true (of_decide_eq_true (by first | (with_reducible assumption) | assumption))
                                        obtain ⟨ad352, e352, hx352_0⟩ := Kd.at_int (Kd.R_reads' HO_7.out).2.2 x35_2 p352 q352
                                        obtain rfl : (⟨go23, 0, none⟩ : Addr) = ad352 := (by injection e352)
                                        (first | simp only [add_plain] at hx352_0 | simp only [add_at] at hx352_0 | simp only [Addr.add, Nat.zero_add] at hx352_0 | skip)
                                        replace p352 := eq_true p352
                                        replace q352 := eq_true q352
                                        have p353 : 0 ≤ ((ji26) : Int) := of_decide_eq_true (by first | (with_reducible assumption) | assumption)
                                        have q353 : (ji26) < ((l0.drop ((ji8) : Int).toNat).length : Int) := of_decide_eq_true (by first | (with_reducible assumption) | assumption)
                                        obtain ⟨ad353, e353, hx353_0⟩ := Kd.at_int HR346.out (ji26) p353 q353
                                        have hw353_0 := hx353_0
                                        obtain rfl : ad350 = ad353 := (by injection e353)
                                        replace hx353_0 := (HB.out.cell (World.block_lt_of_cell? w _ hx353_0)).trans hx353_0
                                        replace p353 := eq_true p353
                                        replace q353 := eq_true q353
                                        (try (have q353z := q353; simp only [List.length_drop, List.length_take] at q353z))
                                        have p31 : 0 ≤ (x35_2 : Int) := of_decide_eq_true (by first | (with_reducible assumption) | assumption)
                                        have q31 : (x35_2 : Int) < ((x7_2.length : Int) : Int) := of_decide_eq_true (by first | (with_reducible assumption) | assumption)
                                        obtain ⟨hx31_0, hf31_0⟩ := Kd.R_celln 0 HO_7.out (x35_2 : Int) p31 q31
                                        replace p31 := eq_true p31
                                        replace q31 := eq_true q31
                                        have HP35 := Kd.R_putn HO_7.out (x35_2 : Int) (Go.bits .or .u64 (rd y351 x35_2) (ji30))
                                        rw [← Ny354.out] at HP35
                                        have HQ35 := Aside0.mk HP35
                                        clear HP35
                                        refine start_ (n := 15) (S := fun w' => w'.cell? ⟨go23, (x35_2).toNat, none⟩ = some (.int .u64 (rd y351 x35_2)) ∧ w'.cell? (ad350.add ((ji26)).toNat) = some (.int .u64 (rd (l0.drop ((ji8) : Int).toNat) (ji26)))) (ds := [14]) #[false, false, false, false, false, false, false, false, false, false, false, false, false, false, false] (by kernel_rfl) rfl rfl ⟨hx352_0, ((HB.out.cell (World.block_lt_of_cell? w _ hw353_0)).trans hw353_0)⟩ (fun hHeld => ?_); refine with_tabW nat_Shr.tab13 nat_Shr.bits13 (fun HT_ HW_ => ?_)
                                        generalize w33.drew = w34 at HO_7 HB HQ35 hf31_0 hx31_0 hx352_0 hx353_0 hHeld ⊢
                                        refine pure_ (i := 0) (N := some 56) (v := ?_) (a' := ?_) #[true, false, false, false, false, false, false, false, false, false, false, false, false, false, false] rfl rfl (any_of HT_.out (by kernel_rfl)) (fun _ _ _ h => h) (Or.inl ⟨by rfl, ?_⟩) ?_ ?_
                                        rotate_left
                                        · intro w'
                                          go_simp
                                          with_reducible rfl
                                        rotate_left
                                        · simp only [Act.put, List.setIfInBounds_toArray, List.set_cons_zero, List.set_cons_succ, i64_w, i32_w]
                                          rfl
                                        refine pure_ (i := 1) (N := some 57) (v := ?_) (a' := ?_) #[true, true, false, false, false, false, false, false, false, false, false, false, false, false, false] rfl rfl (any_of HT_.out (by kernel_rfl)) (fun _ _ _ h => h) (Or.inl ⟨by rfl, ?_⟩) ?_ ?_
                                        rotate_left
                                        · intro w'
                                          go_simp
                                          with_reducible rfl
                                        rotate_left
                                        · simp only [Act.put, List.setIfInBounds_toArray, List.set_cons_zero, List.set_cons_succ, i64_w, i32_w]
                                          rfl
                                        refine pure_ (i := 2) (N := some 58) (v := ?_) (a' := ?_) #[true, true, true, false, false, false, false, false, false, false, false, false, false, false, false] rfl rfl (any_of HT_.out (by kernel_rfl)) (fun _ _ _ h => h) (Or.inl ⟨by rfl, ?_⟩) ?_ ?_
                                        rotate_left
                                        · intro w'
                                          go_simp
                                          with_reducible rfl
                                        rotate_left
                                        · simp only [Act.put, List.setIfInBounds_toArray, List.set_cons_zero, List.set_cons_succ, i64_w, i32_w]
                                          rfl
                                        refine pure_ (i := 4) (N := some 60) (v := ?_) (a' := ?_) #[true, true, true, false, true, false, false, false, false, false, false, false, false, false, false] rfl rfl (any_of HT_.out (by kernel_rfl)) (fun _ _ _ h => h) (Or.inl ⟨by rfl, ?_⟩) ?_ ?_
                                        rotate_left
                                        · intro w'
                                          go_simp
                                          with_reducible rfl
                                        rotate_left
                                        · simp only [Act.put, List.setIfInBounds_toArray, List.set_cons_zero, List.set_cons_succ, i64_w, i32_w]
                                          rfl
                                        refine pure_ (i := 5) (N := some 61) (v := ?_) (a' := ?_) #[true, true, true, false, true, true, false, false, false, false, false, false, false, false, false] rfl rfl (any_of HT_.out (by kernel_rfl)) (fun _ _ _ h => h) (Or.inl ⟨by rfl, ?_⟩) ?_ ?_
                                        rotate_left
                                        · intro w'
                                          go_simp
                                          with_reducible rfl
                                        rotate_left
                                        · simp only [Act.put, List.setIfInBounds_toArray, List.set_cons_zero, List.set_cons_succ, i64_w, i32_w]
                                          rfl
                                        refine pure_ (i := 6) (N := some 62) (v := ?_) (a' := ?_) #[true, true, true, false, true, true, true, false, false, false, false, false, false, false, false] rfl rfl (any_of HT_.out (by kernel_rfl)) (fun _ _ _ h => h) (Or.inl ⟨by rfl, ?_⟩) ?_ ?_
                                        rotate_left
                                        · intro w'
                                          go_simp
                                          with_reducible rfl
                                        rotate_left
                                        · simp only [Act.put, List.setIfInBounds_toArray, List.set_cons_zero, List.set_cons_succ, i64_w, i32_w]
                                          rfl
                                        refine pure_ (i := 7) (N := some 63) (v := ?_) (a' := ?_) #[true, true, true, false, true, true, true, true, false, false, false, false, false, false, false] rfl rfl (any_of HT_.out (by kernel_rfl)) (fun _ _ _ h => h) (Or.inl ⟨by rfl, ?_⟩) ?_ ?_
                                        rotate_left
                                        · intro w'
                                          go_simp
                                          with_reducible rfl
                                        rotate_left
                                        · simp only [Act.put, List.setIfInBounds_toArray, List.set_cons_zero, List.set_cons_succ, i64_w, i32_w]
                                          rfl
                                        refine pure_ (i := 9) (N := some 65) (v := ?_) (a' := ?_) #[true, true, true, false, true, true, true, true, false, true, false, false, false, false, false] rfl rfl (any_of HT_.out (by kernel_rfl)) (fun _ _ _ h => h) (Or.inl ⟨by rfl, ?_⟩) ?_ ?_
                                        rotate_left
                                        · intro w'
                                          go_simp
                                          with_reducible rfl
                                        rotate_left
                                        · simp only [Act.put, List.setIfInBounds_toArray, List.set_cons_zero, List.set_cons_succ, i64_w, i32_w]
                                          rfl
                                        refine pure_ (i := 10) (N := some 66) (v := ?_) (a' := ?_) #[true, true, true, false, true, true, true, true, false, true, true, false, false, false, false] rfl rfl (any_of HT_.out (by kernel_rfl)) (fun _ _ _ h => h) (Or.inl ⟨by rfl, ?_⟩) ?_ ?_
                                        rotate_left
                                        · intro w'
                                          go_simp
                                          with_reducible rfl
                                        rotate_left
                                        · simp only [Act.put, List.setIfInBounds_toArray, List.set_cons_zero, List.set_cons_succ, i64_w, i32_w]
                                          rfl
                                        refine take_ (i := 3) (N := some 59) (v := ?_) (a' := ?_) #[true, true, true, true, true, true, true, true, false, true, true, false, false, false, false] rfl rfl (take_ofW HT_.out HW_.out (by kernel_rfl)) (fun _ _ _ h => h) (Or.inl ⟨by rfl, ?_⟩) hHeld ?_ ?_
                                        rotate_left
                                        · rintro w' ⟨s0, s1⟩
                                          go_simp
                                          with_reducible rfl
                                        rotate_left
                                        · simp only [Act.put, List.setIfInBounds_toArray, List.set_cons_zero, List.set_cons_succ, i64_w, i32_w]
                                          rfl
                                        refine take_ (i := 8) (N := some 64) (v := ?_) (a' := ?_) #[true, true, true, true, true, true, true, true, true, true, true, false, false, false, false] rfl rfl (take_ofW HT_.out HW_.out (by kernel_rfl)) (fun _ _ _ h => h) (Or.inl ⟨by rfl, ?_⟩) hHeld ?_ ?_
                                        rotate_left
                                        · rintro w' ⟨s0, s1⟩
                                          go_simp
                                          with_reducible rfl
                                        rotate_left
                                        · simp only [Act.put, List.setIfInBounds_toArray, List.set_cons_zero, List.set_cons_succ, i64_w, i32_w]
                                          rfl
                                        refine pure_ (i := 11) (N := some 67) (v := ?_) (a' := ?_) #[true, true, true, true, true, true, true, true, true, true, true, true, false, false, false] rfl rfl (any_of HT_.out (by kernel_rfl)) (fun _ _ _ h => h) (Or.inl ⟨by rfl, ?_⟩) ?_ ?_
                                        rotate_left
                                        · intro w'
                                          go_simp
                                          with_reducible rfl
                                        rotate_left
                                        · simp only [Act.put, List.setIfInBounds_toArray, List.set_cons_zero, List.set_cons_succ, i64_w, i32_w]
                                          rfl
                                        refine pure_ (i := 12) (N := some 68) (v := ?_) (a' := ?_) #[true, true, true, true, true, true, true, true, true, true, true, true, true, false, false] rfl rfl (any_of HT_.out (by kernel_rfl)) (fun _ _ _ h => h) (Or.inl ⟨by rfl, ?_⟩) ?_ ?_
                                        rotate_left
                                        · intro w'
                                          go_simp
                                          with_reducible rfl
                                        rotate_left
                                        · simp only [Act.put, List.setIfInBounds_toArray, List.set_cons_zero, List.set_cons_succ, i64_w, i32_w]
                                          rfl
                                        refine pure_ (i := 13) (N := some 69) (v := ?_) (a' := ?_) #[true, true, true, true, true, true, true, true, true, true, true, true, true, true, false] rfl rfl (any_of HT_.out (by kernel_rfl)) (fun _ _ _ h => h) (Or.inl ⟨by rfl, ?_⟩) ?_ ?_
                                        rotate_left
                                        · intro w'
                                          go_simp
                                          with_reducible rfl
                                        rotate_left
                                        · simp only [Act.put, List.setIfInBounds_toArray, List.set_cons_zero, List.set_cons_succ, i64_w, i32_w]
                                          rfl
                                        refine last_ (i := 14) (N := none) #[true, true, true, true, true, true, true, true, true, true, true, true, true, true, true] rfl rfl (one_of HT_.out (by kernel_rfl)) (by decide) (fun K hK => ?_)
                                        refine skip_ (w1 := ?_) (by rfl) rfl ?_ ?_
                                        rotate_left
                                        · go_simp
                                          rfl
                                        refine hK.out _ _ ?_
                                        clear hK K
                                        refine done_ (done_of HT_.out (by kernel_rfl)) ?_
                                        try go_wp2
                                        first | go_roundg k2 | ((try simp only [← hji30] at H'); simp only [← hji30]; go_roundg k2) | ((try simp only [← hji28] at H'); simp only [← hji28]; go_roundg k2) | ((try simp only [← hji26] at H'); simp only [← hji26]; go_roundg k2) | ((try simp only [← hji21] at H'); simp only [← hji21]; go_roundg k2) | ((try simp only [← hji19] at H'); simp only [← hji19]; go_roundg k2) | ((try simp only [← hji8] at H'); simp only [← hji8]; go_roundg k2)
                                        case measure => have := HJ2.out; have := HK2.out; omega
                                        case rel => first | exact ⟨(y354), (ji26), (by first | rfl | (simp; done) | (simp only [← hji26] <;> (first | rfl | simp)) | (simp [*]; done)), H', ⟨by have := HJ2.out; have := HK2.out; omega⟩, ⟨by (with_reducible repeat (first | apply Kd.R_alloc | apply Kd.R_drewN | apply Kd.R_drew)); exact HQ35.out⟩, ⟨by repeat (first | (with_reducible first | exact HB.out | apply below_alloc | apply pw_below_drewN | apply below_drew1 | refine below_set ?_ GB23.out) | exact HB.out)⟩⟩ | (simp only [← hji30] at H'; exact ⟨(y354), (ji26), (by first | rfl | (simp; done) | (simp only [← hji26] <;> (first | rfl | simp)) | (simp [*]; done)), H', ⟨by have := HJ2.out; have := HK2.out; omega⟩, ⟨by (with_reducible repeat (first | apply Kd.R_alloc | apply Kd.R_drewN | apply Kd.R_drew)); exact HQ35.out⟩, ⟨by repeat (first | (with_reducible first | exact HB.out | apply below_alloc | apply pw_below_drewN | apply below_drew1 | refine below_set ?_ GB23.out) | exact HB.out)⟩⟩) | (simp only [← hji28] at H'; exact ⟨(y354), (ji26), (by first | rfl | (simp; done) | (simp only [← hji26] <;> (first | rfl | simp)) | (simp [*]; done)), H', ⟨by have := HJ2.out; have := HK2.out; omega⟩, ⟨by (with_reducible repeat (first | apply Kd.R_alloc | apply Kd.R_drewN | apply Kd.R_drew)); exact HQ35.out⟩, ⟨by repeat (first | (with_reducible first | exact HB.out | apply below_alloc | apply pw_below_drewN | apply below_drew1 | refine below_set ?_ GB23.out) | exact HB.out)⟩⟩) | (simp only [← hji26] at H'; exact ⟨(y354), (ji26), (by first | rfl | (simp; done) | (simp only [← hji26] <;> (first | rfl | simp)) | (simp [*]; done)), H', ⟨by have := HJ2.out; have := HK2.out; omega⟩, ⟨by (with_reducible repeat (first | apply Kd.R_alloc | apply Kd.R_drewN | apply Kd.R_drew)); exact HQ35.out⟩, ⟨by repeat (first | (with_reducible first | exact HB.out | apply below_alloc | apply pw_below_drewN | apply below_drew1 | refine below_set ?_ GB23.out) | exact HB.out)⟩⟩) | (simp only [← hji21] at H'; exact ⟨(y354), (ji26), (by first | rfl | (simp; done) | (simp only [← hji26] <;> (first | rfl | simp)) | (simp [*]; done)), H', ⟨by have := HJ2.out; have := HK2.out; omega⟩, ⟨by (with_reducible repeat (first | apply Kd.R_alloc | apply Kd.R_drewN | apply Kd.R_drew)); exact HQ35.out⟩, ⟨by repeat (first | (with_reducible first | exact HB.out | apply below_alloc | apply pw_below_drewN | apply below_drew1 | refine below_set ?_ GB23.out) | exact HB.out)⟩⟩) | (simp only [← hji19] at H'; exact ⟨(y354), (ji26), (by first | rfl | (simp; done) | (simp only [← hji26] <;> (first | rfl | simp)) | (simp [*]; done)), H', ⟨by have := HJ2.out; have := HK2.out; omega⟩, ⟨by (with_reducible repeat (first | apply Kd.R_alloc | apply Kd.R_drewN | apply Kd.R_drew)); exact HQ35.out⟩, ⟨by repeat (first | (with_reducible first | exact HB.out | apply below_alloc | apply pw_below_drewN | apply below_drew1 | refine below_set ?_ GB23.out) | exact HB.out)⟩⟩) | (simp only [← hji8] at H'; exact ⟨(y354), (ji26), (by first | rfl | (simp; done) | (simp only [← hji26] <;> (first | rfl | simp)) | (simp [*]; done)), H', ⟨by have := HJ2.out; have := HK2.out; omega⟩, ⟨by (with_reducible repeat (first | apply Kd.R_alloc | apply Kd.R_drewN | apply Kd.R_drew)); exact HQ35.out⟩, ⟨by repeat (first | (with_reducible first | exact HB.out | apply below_alloc | apply pw_below_drewN | apply below_drew1 | refine below_set ?_ GB23.out) | exact HB.out)⟩⟩)
                                      · rw [if_neg c29] at H
                                        exact absurd H (by simp)
                                    · rw [if_neg c27] at H
                                      exact absurd H (by simp)
                                  · rw [if_neg c25] at H
                                    have c25b0 : decide ((wrap64 (x35_2 + 1)) < ((l0.drop ((ji8) : Int).toNat).length : Int)) = false := decide_eq_false c25
                                    (try (have c25b0z := c25b0; simp only [List.length_drop, List.length_take] at c25b0z))
                                    clear c25
                                    have H' := Aside0.mk H
                                    clear H
                                    have p350 : 0 ≤ (x35_2 : Int) := of_decide_eq_true (by first | (with_reducible assumption) | assumption)
                                    have q350 : x35_2 < ((l0.drop ((ji8) : Int).toNat).length : Int) := of_decide_eq_true (by first | (with_reducible assumption) | assumption)
                                    obtain ⟨ad350, e350, hx350_0⟩ := Kd.at_int HR346.out x35_2 p350 q350
                                    cases e350
                                    replace hx350_0 := (HB.out.cell (World.block_lt_of_cell? w _ hx350_0)).trans hx350_0
                                    replace p350 := eq_true p350
                                    replace q350 := eq_true q350
                                    (try (have q350z := q350; simp only [List.length_drop, List.length_take] at q350z))
                                    have p23 : 0 ≤ (x35_2 : Int) := of_decide_eq_true (by first | (with_reducible assumption) | assumption)
                                    have q23 : (x35_2 : Int) < ((x7_2.length : Int) : Int) := of_decide_eq_true (by first | (with_reducible assumption) | assumption)
                                    obtain ⟨go23, co23, eo23, gb23, gl23, cl23, HG23⟩ := Kd.R_form HO_7.out (by omega)
                                    (first | cases eo23 | (injection eo23 with ea_ en_ ec_; (first | subst ea_ | (injection ea_ with ea_; subst ea_)); subst ec_; clear en_))
                                    have GB23 := Aside0.mk gb23
                                    have GG23 := Aside0.mk HG23
                                    clear gb23 gl23 HG23
                                    obtain ⟨hx23_0, hf23_0⟩ := Kd.R_celln 0 HO_7.out (x35_2 : Int) p23 q23
                                    replace p23 := eq_true p23
                                    replace q23 := eq_true q23
                                    have HP36 := Kd.R_putg HO_7.out (x35_2 : Int) ji21
                                    go_wp2_with (first | ((with_reducible refine gate_store (t := 42) (p := 46) rfl ?_); refine store_event (t := 42) (p := 46) (v := ?vo_w37) (w1 := (wr.setCell ⟨go23, (x35_2 : Int).toNat, none⟩ (.int .u64 ji21))) ?hg ?ho ?hn ?hr ?_; (case ho => rfl); (case hg => rfl); (case hn => rfl); (case hr => first | (go_simp; done) | (go_simp; rfl) | (obtain ⟨hy_, hz_⟩ := Kd.R_celln 0 HO_7.out (x35_2 : Int) (of_decide_eq_true (by first | (with_reducible assumption) | assumption)) (of_decide_eq_true (by first | (with_reducible assumption) | assumption)); (try simp only [Go.IntWalk.toNatUp] at hy_ hz_); (try simp only [Int.reduceToNat, Int.toNat_zero, Int.toNat_ofNat] at hy_ hz_); first | (go_simp; done) | (go_simp; rfl))); intro w37 hw; have hg : wr.grownBy w37 (some go23) := (by rw [hw]; exact HP36.2); have hp_ : Kd.R (Kd.int .u64) 42 w37 w.heap.size (fun _ => True) (.slice (some ⟨go23, 0, none⟩) x7_2.length co23) y351 := (by rw [hw, Ny351.out]; exact HP36.1); clear HP36; have n0_ := Aside0.mk (hp_); have n1_ := Aside0.mk ((by rw [hw]; exact below_set (HB.out) GB23.out : Below w.heap.size w w37)); clear HO_7; clear HB; have HO_7 := n0_; have HB := n1_; clear n0_ n1_; clear hg hw hp_))
                                    first | go_roundg k2 | ((try simp only [← hji30] at H'); simp only [← hji30]; go_roundg k2) | ((try simp only [← hji28] at H'); simp only [← hji28]; go_roundg k2) | ((try simp only [← hji26] at H'); simp only [← hji26]; go_roundg k2) | ((try simp only [← hji21] at H'); simp only [← hji21]; go_roundg k2) | ((try simp only [← hji19] at H'); simp only [← hji19]; go_roundg k2) | ((try simp only [← hji8] at H'); simp only [← hji8]; go_roundg k2)
                                    case measure => have := HJ2.out; have := HK2.out; omega
                                    case rel => first | exact ⟨(y351), (wrap64 (x35_2 + 1)), (by first | rfl | (simp; done) | (simp [*]; done)), H', ⟨by have := HJ2.out; have := HK2.out; omega⟩, ⟨by (with_reducible repeat (first | apply Kd.R_alloc | apply Kd.R_drewN | apply Kd.R_drew)); exact HO_7.out⟩, ⟨by repeat (first | (with_reducible first | exact HB.out | apply below_alloc | apply pw_below_drewN | apply below_drew1) | exact HB.out)⟩⟩ | (simp only [← hji30] at H'; exact ⟨(y351), (wrap64 (x35_2 + 1)), (by first | rfl | (simp; done) | (simp [*]; done)), H', ⟨by have := HJ2.out; have := HK2.out; omega⟩, ⟨by (with_reducible repeat (first | apply Kd.R_alloc | apply Kd.R_drewN | apply Kd.R_drew)); exact HO_7.out⟩, ⟨by repeat (first | (with_reducible first | exact HB.out | apply below_alloc | apply pw_below_drewN | apply below_drew1) | exact HB.out)⟩⟩) | (simp only [← hji28] at H'; exact ⟨(y351), (wrap64 (x35_2 + 1)), (by first | rfl | (simp; done) | (simp [*]; done)), H', ⟨by have := HJ2.out; have := HK2.out; omega⟩, ⟨by (with_reducible repeat (first | apply Kd.R_alloc | apply Kd.R_drewN | apply Kd.R_drew)); exact HO_7.out⟩, ⟨by repeat (first | (with_reducible first | exact HB.out | apply below_alloc | apply pw_below_drewN | apply below_drew1) | exact HB.out)⟩⟩) | (simp only [← hji26] at H'; exact ⟨(y351), (wrap64 (x35_2 + 1)), (by first | rfl | (simp; done) | (simp [*]; done)), H', ⟨by have := HJ2.out; have := HK2.out; omega⟩, ⟨by (with_reducible repeat (first | apply Kd.R_alloc | apply Kd.R_drewN | apply Kd.R_drew)); exact HO_7.out⟩, ⟨by repeat (first | (with_reducible first | exact HB.out | apply below_alloc | apply pw_below_drewN | apply below_drew1) | exact HB.out)⟩⟩) | (simp only [← hji21] at H'; exact ⟨(y351), (wrap64 (x35_2 + 1)), (by first | rfl | (simp; done) | (simp [*]; done)), H', ⟨by have := HJ2.out; have := HK2.out; omega⟩, ⟨by (with_reducible repeat (first | apply Kd.R_alloc | apply Kd.R_drewN | apply Kd.R_drew)); exact HO_7.out⟩, ⟨by repeat (first | (with_reducible first | exact HB.out | apply below_alloc | apply pw_below_drewN | apply below_drew1) | exact HB.out)⟩⟩) | (simp only [← hji19] at H'; exact ⟨(y351), (wrap64 (x35_2 + 1)), (by first | rfl | (simp; done) | (simp [*]; done)), H', ⟨by have := HJ2.out; have := HK2.out; omega⟩, ⟨by (with_reducible repeat (first | apply Kd.R_alloc | apply Kd.R_drewN | apply Kd.R_drew)); exact HO_7.out⟩, ⟨by repeat (first | (with_reducible first | exact HB.out | apply below_alloc | apply pw_below_drewN | apply below_drew1) | exact HB.out)⟩⟩) | (simp only [← hji8] at H'; exact ⟨(y351), (wrap64 (x35_2 + 1)), (by first | rfl | (simp; done) | (simp [*]; done)), H', ⟨by have := HJ2.out; have := HK2.out; omega⟩, ⟨by (with_reducible repeat (first | apply Kd.R_alloc | apply Kd.R_drewN | apply Kd.R_drew)); exact HO_7.out⟩, ⟨by repeat (first | (with_reducible first | exact HB.out | apply below_alloc | apply pw_below_drewN | apply below_drew1) | exact HB.out)⟩⟩)
                                · rw [if_neg c24] at H
                                  have c24b0 : decide (0 < (ji19)) = false := decide_eq_false c24
                                  clear c24
                                  have H' := Aside0.mk H
                                  clear H
                                  have p350 : 0 ≤ (x35_2 : Int) := of_decide_eq_true (by first | (with_reducible assumption) | assumption)
                                  have q350 : x35_2 < ((l0.drop ((ji8) : Int).toNat).length : Int) := of_decide_eq_true (by first | (with_reducible assumption) | assumption)
                                  obtain ⟨ad350, e350, hx350_0⟩ := Kd.at_int HR346.out x35_2 p350 q350
                                  cases e350
                                  replace hx350_0 := (HB.out.cell (World.block_lt_of_cell? w _ hx350_0)).trans hx350_0
                                  replace p350 := eq_true p350
                                  replace q350 := eq_true q350
                                  (try (have q350z := q350; simp only [List.length_drop, List.length_take] at q350z))
                                  have p23 : 0 ≤ (x35_2 : Int) := of_decide_eq_true (by first | (with_reducible assumption) | assumption)
                                  have q23 : (x35_2 : Int) < ((x7_2.length : Int) : Int) := of_decide_eq_true (by first | (with_reducible assumption) | assumption)
                                  obtain ⟨go23, co23, eo23, gb23, gl23, cl23, HG23⟩ := Kd.R_form HO_7.out (by omega)
                                  (first | cases eo23 | (injection eo23 with ea_ en_ ec_; (first | subst ea_ | (injection ea_ with ea_; subst ea_)); subst ec_; clear en_))
                                  have GB23 := Aside0.mk gb23
                                  have GG23 := Aside0.mk HG23
                                  clear gb23 gl23 HG23
                                  obtain ⟨hx23_0, hf23_0⟩ := Kd.R_celln 0 HO_7.out (x35_2 : Int) p23 q23
                                  replace p23 := eq_true p23
                                  replace q23 := eq_true q23
                                  have HP38 := Kd.R_putg HO_7.out (x35_2 : Int) ji21
                                  go_wp2_with (first | ((with_reducible refine gate_store (t := 42) (p := 46) rfl ?_); refine store_event (t := 42) (p := 46) (v := ?vo_w39) (w1 := (wr.setCell ⟨go23, (x35_2 : Int).toNat, none⟩ (.int .u64 ji21))) ?hg ?ho ?hn ?hr ?_; (case ho => rfl); (case hg => rfl); (case hn => rfl); (case hr => first | (go_simp; done) | (go_simp; rfl) | (obtain ⟨hy_, hz_⟩ := Kd.R_celln 0 HO_7.out (x35_2 : Int) (of_decide_eq_true (by first | (with_reducible assumption) | assumption)) (of_decide_eq_true (by first | (with_reducible assumption) | assumption)); (try simp only [Go.IntWalk.toNatUp] at hy_ hz_); (try simp only [Int.reduceToNat, Int.toNat_zero, Int.toNat_ofNat] at hy_ hz_); first | (go_simp; done) | (go_simp; rfl))); intro w39 hw; have hg : wr.grownBy w39 (some go23) := (by rw [hw]; exact HP38.2); have hp_ : Kd.R (Kd.int .u64) 42 w39 w.heap.size (fun _ => True) (.slice (some ⟨go23, 0, none⟩) x7_2.length co23) y351 := (by rw [hw, Ny351.out]; exact HP38.1); clear HP38; have n0_ := Aside0.mk (hp_); have n1_ := Aside0.mk ((by rw [hw]; exact below_set (HB.out) GB23.out : Below w.heap.size w w39)); clear HO_7; clear HB; have HO_7 := n0_; have HB := n1_; clear n0_ n1_; clear hg hw hp_))
                                  first | go_roundg k2 | ((try simp only [← hji30] at H'); simp only [← hji30]; go_roundg k2) | ((try simp only [← hji28] at H'); simp only [← hji28]; go_roundg k2) | ((try simp only [← hji26] at H'); simp only [← hji26]; go_roundg k2) | ((try simp only [← hji21] at H'); simp only [← hji21]; go_roundg k2) | ((try simp only [← hji19] at H'); simp only [← hji19]; go_roundg k2) | ((try simp only [← hji8] at H'); simp only [← hji8]; go_roundg k2)
                                  case measure => have := HJ2.out; have := HK2.out; omega
                                  case rel => first | exact ⟨(y351), (wrap64 (x35_2 + 1)), (by first | rfl | (simp; done) | (simp [*]; done)), H', ⟨by have := HJ2.out; have := HK2.out; omega⟩, ⟨by (with_reducible repeat (first | apply Kd.R_alloc | apply Kd.R_drewN | apply Kd.R_drew)); exact HO_7.out⟩, ⟨by repeat (first | (with_reducible first | exact HB.out | apply below_alloc | apply pw_below_drewN | apply below_drew1) | exact HB.out)⟩⟩ | (simp only [← hji30] at H'; exact ⟨(y351), (wrap64 (x35_2 + 1)), (by first | rfl | (simp; done) | (simp [*]; done)), H', ⟨by have := HJ2.out; have := HK2.out; omega⟩, ⟨by (with_reducible repeat (first | apply Kd.R_alloc | apply Kd.R_drewN | apply Kd.R_drew)); exact HO_7.out⟩, ⟨by repeat (first | (with_reducible first | exact HB.out | apply below_alloc | apply pw_below_drewN | apply below_drew1) | exact HB.out)⟩⟩) | (simp only [← hji28] at H'; exact ⟨(y351), (wrap64 (x35_2 + 1)), (by first | rfl | (simp; done) | (simp [*]; done)), H', ⟨by have := HJ2.out; have := HK2.out; omega⟩, ⟨by (with_reducible repeat (first | apply Kd.R_alloc | apply Kd.R_drewN | apply Kd.R_drew)); exact HO_7.out⟩, ⟨by repeat (first | (with_reducible first | exact HB.out | apply below_alloc | apply pw_below_drewN | apply below_drew1) | exact HB.out)⟩⟩) | (simp only [← hji26] at H'; exact ⟨(y351), (wrap64 (x35_2 + 1)), (by first | rfl | (simp; done) | (simp [*]; done)), H', ⟨by have := HJ2.out; have := HK2.out; omega⟩, ⟨by (with_reducible repeat (first | apply Kd.R_alloc | apply Kd.R_drewN | apply Kd.R_drew)); exact HO_7.out⟩, ⟨by repeat (first | (with_reducible first | exact HB.out | apply below_alloc | apply pw_below_drewN | apply below_drew1) | exact HB.out)⟩⟩) | (simp only [← hji21] at H'; exact ⟨(y351), (wrap64 (x35_2 + 1)), (by first | rfl | (simp; done) | (simp [*]; done)), H', ⟨by have := HJ2.out; have := HK2.out; omega⟩, ⟨by (with_reducible repeat (first | apply Kd.R_alloc | apply Kd.R_drewN | apply Kd.R_drew)); exact HO_7.out⟩, ⟨by repeat (first | (with_reducible first | exact HB.out | apply below_alloc | apply pw_below_drewN | apply below_drew1) | exact HB.out)⟩⟩) | (simp only [← hji19] at H'; exact ⟨(y351), (wrap64 (x35_2 + 1)), (by first | rfl | (simp; done) | (simp [*]; done)), H', ⟨by have := HJ2.out; have := HK2.out; omega⟩, ⟨by (with_reducible repeat (first | apply Kd.R_alloc | apply Kd.R_drewN | apply Kd.R_drew)); exact HO_7.out⟩, ⟨by repeat (first | (with_reducible first | exact HB.out | apply below_alloc | apply pw_below_drewN | apply below_drew1) | exact HB.out)⟩⟩) | (simp only [← hji8] at H'; exact ⟨(y351), (wrap64 (x35_2 + 1)), (by first | rfl | (simp; done) | (simp [*]; done)), H', ⟨by have := HJ2.out; have := HK2.out; omega⟩, ⟨by (with_reducible repeat (first | apply Kd.R_alloc | apply Kd.R_drewN | apply Kd.R_drew)); exact HO_7.out⟩, ⟨by repeat (first | (with_reducible first | exact HB.out | apply below_alloc | apply pw_below_drewN | apply below_drew1) | exact HB.out)⟩⟩)
                              · rw [if_neg c22] at H
                                exact absurd H (by simp)
                            · rw [if_neg c20] at H
                              exact absurd H (by simp)
                          · rw [if_neg c18] at H
                            exact absurd H (by simp)
                        · rw [if_neg c17] at H
                          exact absurd H (by simp)
                      · rw [if_neg c16] at H
                        have c16b0 : decide (x35_2 < ((l0.drop ((ji8) : Int).toNat).length : Int)) = false := decide_eq_false c16
                        (try (have c16b0z := c16b0; simp only [List.length_drop, List.length_take] at c16b0z))
                        clear c16
                        replace H := Option.bind_eq_some_iff.mp H
                        obtain ⟨⟨t355, t358⟩, A400, H⟩ := H
                        replace H : (some (t355, t358)) = some (r1, r2) := H
                        have A40 := Aside0.mk A400
                        clear A400
                        simp only [Option.some.injEq, Prod.mk.injEq] at H
                        obtain ⟨rfl, rfl⟩ := H
                        obtain ⟨Ao41, co41, eo41⟩ := Kd.R_slice HO_7.out
                        subst eo41
                        go_wp2_with (first | ((with_reducible refine gate_callee (f := 70) rfl ?_); refine goesL_ (some 72) rfl rfl Try.func70 (by kernel_rfl) rfl #[.slice Ao41 x7_2.length co41] rfl (by (try simp only [List.map_toArray, List.map_cons, List.map_nil]); first | done | rfl | (simp only [List.length_drop, List.length_take]; rfl)) ?_; (with_reducible refine (nat_told.calls k2 (fun k_ => some k_ = (.slice Ao41 x7_2.length co41 : Value).ownBlock) (.slice Ao41 x7_2.length co41) x7_2 t355 t358 w _ ?side1 ?side2 A40.out).mono ?_); (case side1 => repeat (first | (with_reducible first | exact HB.out | apply below_alloc | apply pw_below_drewN | apply below_drew1) | exact HB.out)); (case side2 => exact Kd.R_tight rfl HO_7.out); rintro e w42 ⟨v356, rfl, ho0, hb, hkp⟩; refine ⟨_, rfl, ?_⟩; have n0_ := Aside0.mk (Kd.R_mono (ok' := fun k_ => True) ho0 (fun k_ hk_ => trivial)); have n1_ := Aside0.mk (hb); clear HB; clear HO_7; have HO357 := n0_; have HB := n1_; clear n0_ n1_; (try clear hb); (try clear hkp); (try clear ho0)))
                        go_ret2
                        exact ⟨_, by first | rfl | (simp [errW_none, errW_some] <;> rfl) | (simp only [← hji8]; first | rfl | (simp [errW_none, errW_some] <;> rfl)) | (simp [*, errW_none, errW_some] <;> rfl), by (with_reducible repeat (first | apply Kd.R_alloc | apply Kd.R_drewN | apply Kd.R_drew)); exact HO357.out, by repeat (first | (with_reducible first | exact HB.out | apply below_alloc | apply pw_below_drewN | apply below_drew1) | exact HB.out)⟩
                · rw [if_neg c12] at H
                  exact absurd H (by simp)
              · rw [if_neg c11] at H
                exact absurd H (by simp)
            · rw [if_neg c10] at H
              exact absurd H (by simp)
          · rw [if_neg c9] at H
            exact absurd H (by simp)

end Go.Proofs.Ytgeanpnkllnipac.F
end

section
namespace Go.Proofs.Ytgeanpnkllnipac.F
open Go.RowKit Go.Proofs.YtgeanpnkllnipacW.PrintWords Go.Proofs.YtgeanpnkllnipacW.PrintLast Go.Proofs.YtgeanpnkllnipacW.PrintMore
attribute [local go_sem] max2_int min2_int max_two min_two max_three min_three max_four min_four   -- for this text's walks alone
set_option linter.unusedVariables false
set_option linter.unusedSimpArgs false

/-! ### nat_Bit: function 96 -/
def nat_Bit.f (l0 : List Int) (a1 : Int) : Option (Bool) := (nat_Right.f l0).bind fun t595 => (if t595 = true then (if a1 ≥ 0 then (if (wrap64 (Int.tdiv a1 64)) < (l0.length : Int) then (if 0 ≤ (wrap64 (Int.tdiv a1 64)) then (if 0 ≤ (Int.tmod a1 64) then (some ((Go.bits .and .u64 (shr .u64 (rd l0 (wrap64 (Int.tdiv a1 64))) (Int.tmod a1 64)) 1) == 1)) else (none)) else (none)) else (some false)) else (some false)) else (some false))
set_option maxHeartbeats 8000000 in
set_option maxRecDepth 100000 in
theorem nat_Bit.calls (A0 : Option Addr) (c0 : Nat) (l0 : List Int) (a1 : Int) (r : Bool) (w : World) (hr0 : Kd.C (Kd.int .u64) w A0 l0.length l0) (hc0 : l0.length ≤ c0) (h : nat_Bit.f l0 a1 = some r) :
    Calls Try.prog 96 #[.slice A0 l0.length c0, .int .i64 a1] w fun e w' => e = .returned (.bool r) ∧ Drawn0 w w' := by
  have HR0 := Aside0.mk hr0
  have HC0 := Aside0.mk hc0
  clear hr0 hc0
  have H : ((nat_Right.f l0).bind fun t595 => (if t595 = true then (if a1 ≥ 0 then (if (wrap64 (Int.tdiv a1 64)) < (l0.length : Int) then (if 0 ≤ (wrap64 (Int.tdiv a1 64)) then (if 0 ≤ (Int.tmod a1 64) then (some ((Go.bits .and .u64 (shr .u64 (rd l0 (wrap64 (Int.tdiv a1 64))) (Int.tmod a1 64)) 1) == 1)) else (none)) else (none)) else (some false)) else (some false)) else (some false))) = some r := h
  clear h
  replace H := Option.bind_eq_some_iff.mp H
  obtain ⟨t595, A30, H⟩ := H
  replace H : (if t595 = true then (if a1 ≥ 0 then (if (wrap64 (Int.tdiv a1 64)) < (l0.length : Int) then (if 0 ≤ (wrap64 (Int.tdiv a1 64)) then (if 0 ≤ (Int.tmod a1 64) then (some ((Go.bits .and .u64 (shr .u64 (rd l0 (wrap64 (Int.tdiv a1 64))) (Int.tmod a1 64)) 1) == 1)) else (none)) else (none)) else (some false)) else (some false)) else (some false)) = some r := H
  have A3 := Aside0.mk A30
  clear A30
  by_cases c4 : t595 = true
  · subst c4
    have H1 : (if a1 ≥ 0 then (if (wrap64 (Int.tdiv a1 64)) < (l0.length : Int) then (if 0 ≤ (wrap64 (Int.tdiv a1 64)) then (if 0 ≤ (Int.tmod a1 64) then (some ((Go.bits .and .u64 (shr .u64 (rd l0 (wrap64 (Int.tdiv a1 64))) (Int.tmod a1 64)) 1) == 1)) else (none)) else (none)) else (some false)) else (some false)) = some r := by rw [if_pos rfl] at H; exact H
    clear H
    have H := H1
    clear H1
    by_cases c5 : a1 ≥ 0
    · rw [if_pos c5] at H
      have c5b0 : decide (0 ≤ a1) = true := decide_eq_true c5
      clear c5
      by_cases c6 : (wrap64 (Int.tdiv a1 64)) < (l0.length : Int)
      · rw [if_pos c6] at H
        have c6b0 : decide ((wrap64 (Int.tdiv a1 64)) < (l0.length : Int)) = true := decide_eq_true c6
        clear c6
        obtain ⟨ji7, hji7⟩ : ∃ j_ : Int, (wrap64 (Int.tdiv a1 64)) = j_ := ⟨_, rfl⟩
        replace H : (if 0 ≤ (ji7) then (if 0 ≤ (Int.tmod a1 64) then (some ((Go.bits .and .u64 (shr .u64 (rd l0 (ji7)) (Int.tmod a1 64)) 1) == 1)) else (none)) else (none)) = some r := by first | (rw [hji7] at H; exact H) | (simp only [hji7] at H ⊢; exact H)
        (try rw [hji7] at c6b0)
        (try rw [hji7] at A3)
        have hji7w : (IntKind.i64.wrap (Int.tdiv a1 64)) = ji7 := (i64_w _).trans hji7
        by_cases c8 : 0 ≤ (ji7)
        · rw [if_pos c8] at H
          have c8b0 : decide (0 ≤ (ji7)) = true := decide_eq_true c8
          clear c8
          obtain ⟨ji9, hji9⟩ : ∃ j_ : Int, (Int.tmod a1 64) = j_ := ⟨_, rfl⟩
          replace H : (if 0 ≤ (ji9) then (some ((Go.bits .and .u64 (shr .u64 (rd l0 (ji7)) (ji9)) 1) == 1)) else (none)) = some r := by first | (rw [hji9] at H; exact H) | (simp only [hji9] at H ⊢; exact H)
          (try rw [hji9] at A3)
          by_cases c10 : 0 ≤ (ji9)
          · rw [if_pos c10] at H
            have c10b0 := eq_true c10
            have c10b1 : decide (0 ≤ (ji9)) = true := decide_eq_true c10
            clear c10
            obtain ⟨ji11, hji11⟩ : ∃ j_ : Int, (shr .u64 (rd l0 (ji7)) (ji9)) = j_ := ⟨_, rfl⟩
            replace H : (some ((Go.bits .and .u64 (ji11) 1) == 1)) = some r := by first | (rw [hji11] at H; exact H) | (simp only [hji11] at H ⊢; exact H)
            (try rw [hji11] at A3)
            have hji11_ : ((rd l0 (ji7)) / 2 ^ min (ji9).toNat 64) = ji11 := hji11
            have hji11z : (ji9) ≤ 64 → ((rd l0 (ji7)) / 2 ^ (ji9).toNat) = ji11 := shr_small hji11
            obtain rfl := Option.some.inj H
            go_enter Try.func96, Try.ntmps96
            go_wp2_with (first | ((with_reducible refine gate_callee (f := 42) rfl ?_); refine goesL_ (some 6) rfl rfl Try.func42 (by kernel_rfl) rfl #[.slice A0 l0.length c0] rfl (by (try simp only [List.map_toArray, List.map_cons, List.map_nil]); first | done | rfl | (simp only [List.length_drop, List.length_take]; rfl)) ?_; (with_reducible refine (nat_Right.calls _ _ l0 true _ ?side1 ?side2 A3.out).mono ?_); (case side1 => repeat (first | exact HR0.out | (with_reducible refine Kd.C_alloc ?_ _) | (with_reducible refine Kd.C_drewN ?_ _) | (with_reducible refine Kd.C_drew ?_))); (case side2 => exact HC0.out); rintro e w' ⟨rfl, ⟨nd, rfl⟩⟩; refine ⟨_, rfl, ?_⟩; have p596 : 0 ≤ ((ji7) : Int) := of_decide_eq_true (by first | (with_reducible assumption) | assumption); have q596 : (ji7) < (l0.length : Int) := of_decide_eq_true (by first | (with_reducible assumption) | assumption); obtain ⟨ad596, e596, hx596_0⟩ := Kd.at_int HR0.out (ji7) p596 q596; cases e596; replace p596 := eq_true p596; replace q596 := eq_true q596))
            go_ret
            exact ⟨by first | rfl | (simp; done) | (simp only [← hji7, ← hji9, ← hji11] <;> (first | rfl | simp)) | (simp [*]; done), by repeat (first | exact Drawn0.refl _ | apply Drawn0.step)⟩
          · rw [if_neg c10] at H
            exact absurd H (by simp)
        · rw [if_neg c8] at H
          exact absurd H (by simp)
      · rw [if_neg c6] at H
        have c6b0 : decide ((wrap64 (Int.tdiv a1 64)) < (l0.length : Int)) = false := decide_eq_false c6
        clear c6
        obtain rfl := Option.some.inj H
        go_enter Try.func96, Try.ntmps96
        go_wp2_with (first | ((with_reducible refine gate_callee (f := 42) rfl ?_); refine goesL_ (some 6) rfl rfl Try.func42 (by kernel_rfl) rfl #[.slice A0 l0.length c0] rfl (by (try simp only [List.map_toArray, List.map_cons, List.map_nil]); first | done | rfl | (simp only [List.length_drop, List.length_take]; rfl)) ?_; (with_reducible refine (nat_Right.calls _ _ l0 true _ ?side1 ?side2 A3.out).mono ?_); (case side1 => repeat (first | exact HR0.out | (with_reducible refine Kd.C_alloc ?_ _) | (with_reducible refine Kd.C_drewN ?_ _) | (with_reducible refine Kd.C_drew ?_))); (case side2 => exact HC0.out); rintro e w' ⟨rfl, ⟨nd, rfl⟩⟩; refine ⟨_, rfl, ?_⟩))
        go_ret
        exact ⟨by first | rfl | (simp; done) | (simp [*]; done), by repeat (first | exact Drawn0.refl _ | apply Drawn0.step)⟩
    · rw [if_neg c5] at H
      have c5b0 : decide (0 ≤ a1) = false := decide_eq_false c5
      clear c5
      obtain rfl := Option.some.inj H
      go_enter Try.func96, Try.ntmps96
      go_wp2_with (first | ((with_reducible refine gate_callee (f := 42) rfl ?_); refine goesL_ (some 6) rfl rfl Try.func42 (by kernel_rfl) rfl #[.slice A0 l0.length c0] rfl (by (try simp only [List.map_toArray, List.map_cons, List.map_nil]); first | done | rfl | (simp only [List.length_drop, List.length_take]; rfl)) ?_; (with_reducible refine (nat_Right.calls _ _ l0 true _ ?side1 ?side2 A3.out).mono ?_); (case side1 => repeat (first | exact HR0.out | (with_reducible refine Kd.C_alloc ?_ _) | (with_reducible refine Kd.C_drewN ?_ _) | (with_reducible refine Kd.C_drew ?_))); (case side2 => exact HC0.out); rintro e w' ⟨rfl, ⟨nd, rfl⟩⟩; refine ⟨_, rfl, ?_⟩))
      go_ret
      exact ⟨by first | rfl | (simp; done) | (simp [*]; done), by repeat (first | exact Drawn0.refl _ | apply Drawn0.step)⟩
  · replace c4 := Bool.eq_false_iff.mpr c4
    subst c4
    have H1 : (some false) = some r := by rw [if_neg (show ¬ (false = true) by decide)] at H; exact H
    clear H
    have H := H1
    clear H1
    obtain rfl := Option.some.inj H
    go_enter Try.func96, Try.ntmps96
    go_wp2_with (first | ((with_reducible refine gate_callee (f := 42) rfl ?_); refine goesL_ (some 6) rfl rfl Try.func42 (by kernel_rfl) rfl #[.slice A0 l0.length c0] rfl (by (try simp only [List.map_toArray, List.map_cons, List.map_nil]); first | done | rfl | (simp only [List.length_drop, List.length_take]; rfl)) ?_; (with_reducible refine (nat_Right.calls _ _ l0 false _ ?side1 ?side2 A3.out).mono ?_); (case side1 => repeat (first | exact HR0.out | (with_reducible refine Kd.C_alloc ?_ _) | (with_reducible refine Kd.C_drewN ?_ _) | (with_reducible refine Kd.C_drew ?_))); (case side2 => exact HC0.out); rintro e w' ⟨rfl, ⟨nd, rfl⟩⟩; refine ⟨_, rfl, ?_⟩))
    go_ret
    exact ⟨by first | rfl | (simp; done) | (simp [*]; done), by repeat (first | exact Drawn0.refl _ | apply Drawn0.step)⟩

end Go.Proofs.Ytgeanpnkllnipac.F
end

section
namespace Go.Proofs.Ytgeanpnkllnipac.F
open Go.RowKit Go.Proofs.YtgeanpnkllnipacW.PrintWords Go.Proofs.YtgeanpnkllnipacW.PrintLast Go.Proofs.YtgeanpnkllnipacW.PrintMore
attribute [local go_sem] max2_int min2_int max_two min_two max_three min_three max_four min_four   -- for this text's walks alone
set_option linter.unusedVariables false
set_option linter.unusedSimpArgs false

/-! ### fixenc_modulus_half: function 125 -/
def fixenc_modulus_half.f (k : Nat) (l0 : List Int) : Option (List Int) := (nat_Shr.f k l0 1).bind fun bt597 => ((nat_Bit.f l0 0).bind fun t601 => (if t601 = true then (some bt597.1) else ((nat_Sub.f k bt597.1 (([1] : List Int))).bind fun bt605 => (some bt605.1))))
theorem fixenc_modulus_half.mono : ∀ a0 k, LeO (fixenc_modulus_half.f k a0) (fixenc_modulus_half.f (k + 1) a0) := by
  intro a0 k
  unfold fixenc_modulus_half.f
  repeat' first
      | (with_reducible exact nat_Shr.mono _ _ _)
      | (with_reducible exact nat_Sub.mono _ _ _)
      | (with_reducible exact LeO.refl _)
      | (with_reducible exact LeO.none _)
      | (with_reducible refine LeO.ite ?_ ?_)
      | (with_reducible refine LeO.bind ?_ (fun _ => ?_))
      | exact nat_Shr.mono _ _ _
      | exact nat_Sub.mono _ _ _
      | exact LeO.none _
      | refine LeO.ite ?_ ?_
      | refine LeO.bind ?_ (fun _ => ?_)
set_option maxHeartbeats 8000000 in
set_option maxRecDepth 100000 in
theorem fixenc_modulus_half.calls (k : Nat) (A0 : Option Addr) (c0 : Nat) (l0 : List Int) (r : List Int) (w : World) (hr0 : Kd.C (Kd.int .u64) w A0 l0.length l0) (hc0 : l0.length ≤ c0) (h : fixenc_modulus_half.f k l0 = some r) :
    Calls Try.prog 125 #[.slice A0 l0.length c0] w fun e w' => ∃ v0_ : Value, e = .returned (v0_) ∧ Kd.R (Kd.int .u64) 42 w' w.heap.size (fun _ => True) v0_ r ∧ Below w.heap.size w w' := by
  have HR0 := Aside0.mk hr0
  have HC0 := Aside0.mk hc0
  clear hr0 hc0
  have HB := Aside0.mk (Below.refl w.heap.size w)
  have H : ((nat_Shr.f k l0 1).bind fun bt597 => ((nat_Bit.f l0 0).bind fun t601 => (if t601 = true then (some bt597.1) else ((nat_Sub.f k bt597.1 (([1] : List Int))).bind fun bt605 => (some bt605.1))))) = some r := h
  clear h
  replace H := Option.bind_eq_some_iff.mp H
  obtain ⟨⟨t597, t598⟩, A20, H⟩ := H
  replace H : ((nat_Bit.f l0 0).bind fun t601 => (if t601 = true then (some t597) else ((nat_Sub.f k t597 (([1] : List Int))).bind fun bt605 => (some bt605.1)))) = some r := H
  have A2 := Aside0.mk A20
  clear A20
  replace H := Option.bind_eq_some_iff.mp H
  obtain ⟨t601, A30, H⟩ := H
  replace H : (if t601 = true then (some t597) else ((nat_Sub.f k t597 (([1] : List Int))).bind fun bt605 => (some bt605.1))) = some r := H
  have A3 := Aside0.mk A30
  clear A30
  by_cases c4 : t601 = true
  · subst c4
    have H1 : (some t597) = some r := by rw [if_pos rfl] at H; exact H
    clear H
    have H := H1
    clear H1
    obtain rfl := Option.some.inj H
    go_enter Try.func125, Try.ntmps125
    go_wp2_with (first | ((with_reducible refine gate_callee (f := 22) rfl ?_); refine goesL_ (some 7) rfl rfl Try.func22 (by kernel_rfl) rfl #[.slice A0 l0.length c0, .int .i64 1] rfl (by (try simp only [List.map_toArray, List.map_cons, List.map_nil]); first | done | rfl | (simp only [List.length_drop, List.length_take]; rfl)) ?_; (with_reducible refine (nat_Shr.calls k _ _ l0 1 t597 t598 _ ?side1 ?side2 A2.out).mono ?_); (case side1 => repeat (first | exact HR0.out | (with_reducible refine Kd.C_alloc ?_ _) | (with_reducible refine Kd.C_drewN ?_ _) | (with_reducible refine Kd.C_drew ?_))); (case side2 => exact HC0.out); rintro e w5 ⟨v599, rfl, ho0, hb⟩; refine ⟨_, rfl, ?_⟩; have n0_ := Aside0.mk (Kd.R_lower ho0 (below_size (by repeat (first | (with_reducible first | exact HB.out | apply below_alloc | apply pw_below_drewN | apply below_drew1) | exact HB.out)))); have n1_ := Aside0.mk (below_step (by repeat (first | (with_reducible first | exact HB.out | apply below_alloc | apply pw_below_drewN | apply below_drew1) | exact HB.out)) hb); clear HB; have HO600 := n0_; have HB := n1_; clear n0_ n1_; (try clear hb); (try clear hb2); (try clear hk); (try clear hi); (try clear ho0)) | ((with_reducible refine gate_callee (f := 96) rfl ?_); refine goesL_ (some 11) rfl rfl Try.func96 (by kernel_rfl) rfl #[.slice A0 l0.length c0, .int .i64 0] rfl (by (try simp only [List.map_toArray, List.map_cons, List.map_nil]); first | done | rfl | (simp only [List.length_drop, List.length_take]; rfl)) ?_; (with_reducible refine (nat_Bit.calls _ _ l0 0 true _ ?side1 ?side2 A3.out).mono ?_); (case side1 => repeat (first | exact (Kd.C_below HR0.out HB.out) | (with_reducible refine Kd.C_alloc ?_ _) | (with_reducible refine Kd.C_drewN ?_ _) | (with_reducible refine Kd.C_drew ?_))); (case side2 => exact HC0.out); rintro e w' ⟨rfl, ⟨nd, rfl⟩⟩; refine ⟨_, rfl, ?_⟩))
    go_ret
    exact ⟨_, by first | rfl | (simp [errW_none, errW_some] <;> rfl) | (simp [*, errW_none, errW_some] <;> rfl), by (with_reducible repeat (first | apply Kd.R_alloc | apply Kd.R_drewN | apply Kd.R_drew)); exact HO600.out, by repeat (first | (with_reducible first | exact HB.out | apply below_alloc | apply pw_below_drewN | apply below_drew1) | exact HB.out)⟩
  · replace c4 := Bool.eq_false_iff.mpr c4
    subst c4
    have H1 : ((nat_Sub.f k t597 (([1] : List Int))).bind fun bt605 => (some bt605.1)) = some r := by rw [if_neg (show ¬ (false = true) by decide)] at H; exact H
    clear H
    have H := H1
    clear H1
    obtain ⟨y602, hy602⟩ : ∃ y_ : List Int, y_ = (([1] : List Int)) := ⟨_, rfl⟩
    replace H : ((nat_Sub.f k t597 y602).bind fun bt605 => (some bt605.1)) = some r := by first | (rw [hy602]; with_reducible exact H) | (have H2_ := (Option.bind_some _ _).symm.trans H; rw [hy602]; with_reducible exact H2_) | (have H2_ := (Option.bind_some _ _).symm.trans H; with_reducible exact H2_) | with_reducible exact H | (rw [hy602]; exact H) | exact H
    have Ny602 := Aside0.mk hy602
    clear hy602
    replace H := Option.bind_eq_some_iff.mp H
    obtain ⟨⟨t605, t608⟩, A60, H⟩ := H
    replace H : (some t605) = some r := H
    have A6 := Aside0.mk A60
    clear A60
    obtain rfl := Option.some.inj H
    go_enter Try.func125, Try.ntmps125
    go_wp2_with (first | ((with_reducible refine gate_callee (f := 22) rfl ?_); refine goesL_ (some 7) rfl rfl Try.func22 (by kernel_rfl) rfl #[.slice A0 l0.length c0, .int .i64 1] rfl (by (try simp only [List.map_toArray, List.map_cons, List.map_nil]); first | done | rfl | (simp only [List.length_drop, List.length_take]; rfl)) ?_; (with_reducible refine (nat_Shr.calls k _ _ l0 1 t597 t598 _ ?side1 ?side2 A2.out).mono ?_); (case side1 => repeat (first | exact HR0.out | (with_reducible refine Kd.C_alloc ?_ _) | (with_reducible refine Kd.C_drewN ?_ _) | (with_reducible refine Kd.C_drew ?_))); (case side2 => exact HC0.out); rintro e w7 ⟨v599, rfl, ho0, hb⟩; refine ⟨_, rfl, ?_⟩; have n0_ := Aside0.mk (Kd.R_lower ho0 (below_size (by repeat (first | (with_reducible first | exact HB.out | apply below_alloc | apply pw_below_drewN | apply below_drew1) | exact HB.out)))); have n1_ := Aside0.mk (below_step (by repeat (first | (with_reducible first | exact HB.out | apply below_alloc | apply pw_below_drewN | apply below_drew1) | exact HB.out)) hb); clear HB; have HO600 := n0_; have HB := n1_; clear n0_ n1_; (try clear hb); (try clear hb2); (try clear hk); (try clear hi); (try clear ho0)) | ((with_reducible refine gate_callee (f := 96) rfl ?_); refine goesL_ (some 11) rfl rfl Try.func96 (by kernel_rfl) rfl #[.slice A0 l0.length c0, .int .i64 0] rfl (by (try simp only [List.map_toArray, List.map_cons, List.map_nil]); first | done | rfl | (simp only [List.length_drop, List.length_take]; rfl)) ?_; (with_reducible refine (nat_Bit.calls _ _ l0 0 false _ ?side1 ?side2 A3.out).mono ?_); (case side1 => repeat (first | exact (Kd.C_below HR0.out HB.out) | (with_reducible refine Kd.C_alloc ?_ _) | (with_reducible refine Kd.C_drewN ?_ _) | (with_reducible refine Kd.C_drew ?_))); (case side2 => exact HC0.out); rintro e w' ⟨rfl, ⟨nd, rfl⟩⟩; refine ⟨_, rfl, ?_⟩) | ((with_reducible refine gate_dst (N := 15) rfl ?_); refine Kd.R_lit (Kd.int .u64) _ 42 ?hg (N := 15) ?hd (xs := ([1] : List Int)) (inner := [.int .u64 1]) (ok := fun _ => True) (okp := fun _ => True) ?hr ?hp (fun _ hk => hk) trivial (Below.refl _ _) (Nat.le_refl _) (by simp) ?_; (case hd => rfl); (case hg => rfl); (case hr => first | (go_simp; done) | (go_simp; rfl) | (go_simp; simp only [u64_u8]; done) | (go_simp; simp only [u64_u8]; rfl)); (case hp => exact (Reps.one (show Kd.M (Kd.int .u64) _ _ _ 1 [.int .u64 1] from rfl) (Reps.none _ _))); intro v603 w8 ho9 hb hg_ hnew_; clear hg_ hnew_; (first | rw [← Ny602.out] at ho9 | (simp only [Int.reduceToNat] at ho9; rw [← Ny602.out] at ho9)); have n0_ := Aside0.mk (Kd.R_elder' (by (with_reducible repeat (first | apply Kd.R_alloc | apply Kd.R_drewN | apply Kd.R_drew)); exact HO600.out) (Kd.R_base ho9) hb); have n1_ := Aside0.mk (Kd.R_lower (Kd.R_new' ho9 (Kd.R_lt (by (with_reducible repeat (first | apply Kd.R_alloc | apply Kd.R_drewN | apply Kd.R_drew)); exact HO600.out))) (below_size (by repeat (first | (with_reducible first | exact HB.out | apply below_alloc | apply pw_below_drewN | apply below_drew1) | exact HB.out)))); have n2_ := Aside0.mk (below_step (by repeat (first | (with_reducible first | exact HB.out | apply below_alloc | apply pw_below_drewN | apply below_drew1) | exact HB.out)) hb); clear HO600; clear HB; have HO600 := n0_; have HO604 := n1_; have HB := n2_; clear n0_ n1_ n2_; clear hb ho9; obtain ⟨Ao10, co10, eo10⟩ := Kd.R_slice HO600.out; subst eo10; obtain ⟨Ao11, co11, eo11⟩ := Kd.R_slice HO604.out; subst eo11) | ((with_reducible refine gate_callee (f := 82) rfl ?_); refine goesL_ (some 16) rfl rfl Try.func82 (by kernel_rfl) rfl #[.slice Ao10 t597.length co10, .slice Ao11 y602.length co11] rfl (by (try simp only [List.map_toArray, List.map_cons, List.map_nil]); first | done | rfl | (simp only [List.length_drop, List.length_take]; rfl)) ?_; (with_reducible refine (nat_Sub.calls k (fun k_ => some k_ = (.slice Ao10 t597.length co10 : Value).ownBlock) _ _ t597 (fun k_ => some k_ = (.slice Ao11 y602.length co11 : Value).ownBlock) _ _ y602 t605 t608 _ ?side1 ?side2 A6.out).mono ?_); (case side1 => exact Kd.R_V (Kd.R_tight rfl (HO600.out))); (case side2 => exact Kd.R_V (Kd.R_tight rfl (HO604.out))); rintro e w12 ⟨v606, rfl, ho0, hb⟩; refine ⟨_, rfl, ?_⟩; have n0_ := Aside0.mk (Kd.R_elder' (by (with_reducible repeat (first | apply Kd.R_alloc | apply Kd.R_drewN | apply Kd.R_drew)); exact HO600.out) (Kd.R_base ho0) hb); have n1_ := Aside0.mk (Kd.R_elder' (by (with_reducible repeat (first | apply Kd.R_alloc | apply Kd.R_drewN | apply Kd.R_drew)); exact HO604.out) (Kd.R_base ho0) hb); have n2_ := Aside0.mk (Kd.R_lower (Kd.R_new' (Kd.R_new' (Kd.R_mono (ok' := fun k_ => True) ho0 (fun _ hk_ => trivial)) (Kd.R_lt (by (with_reducible repeat (first | apply Kd.R_alloc | apply Kd.R_drewN | apply Kd.R_drew)); exact HO600.out))) (Kd.R_lt (by (with_reducible repeat (first | apply Kd.R_alloc | apply Kd.R_drewN | apply Kd.R_drew)); exact HO604.out))) (below_size (by repeat (first | (with_reducible first | exact HB.out | apply below_alloc | apply pw_below_drewN | apply below_drew1) | exact HB.out)))); have n3_ := Aside0.mk (below_step (by repeat (first | (with_reducible first | exact HB.out | apply below_alloc | apply pw_below_drewN | apply below_drew1) | exact HB.out)) hb); clear HO600; clear HO604; clear HB; have HO600 := n0_; have HO604 := n1_; have HO607 := n2_; have HB := n3_; clear n0_ n1_ n2_ n3_; (try clear hb); (try clear hb2); (try clear hk); (try clear hi); (try clear ho0)))
    go_ret
    exact ⟨_, by first | rfl | (simp [errW_none, errW_some] <;> rfl) | (simp [*, errW_none, errW_some] <;> rfl), by (with_reducible repeat (first | apply Kd.R_alloc | apply Kd.R_drewN | apply Kd.R_drew)); exact Kd.R_mono HO607.out (fun _ hk => trivial), by repeat (first | (with_reducible first | exact HB.out | apply below_alloc | apply pw_below_drewN | apply below_drew1) | exact HB.out)⟩

end Go.Proofs.Ytgeanpnkllnipac.F
end

section
namespace Go.Proofs.Ytgeanpnkllnipac.F
open Go.RowKit Go.Proofs.YtgeanpnkllnipacW.PrintWords Go.Proofs.YtgeanpnkllnipacW.PrintLast Go.Proofs.YtgeanpnkllnipacW.PrintMore
set_option linter.unusedVariables false
set_option linter.unusedSimpArgs false
/-- Is a size at most a modulus's half? -/
def fixenc_fits.f (k : Nat) (l0 : List Int) (l1 : List Int) : Option Bool := (fixenc_modulus_half.f k l0).bind fun t => (nat_Cmp.f k l1 t).bind fun c => some (decide (c ≤ 0))
theorem fixenc_fits.mono (l0 : List Int) (l1 : List Int) (k : Nat) : LeO (fixenc_fits.f k l0 l1) (fixenc_fits.f (k + 1) l0 l1) := by
  intro r h
  unfold fixenc_fits.f at h ⊢
  cases ht : fixenc_modulus_half.f k l0 with
  | none => rw [ht] at h; simp at h
  | some t =>
    rw [ht] at h
    rw [fixenc_modulus_half.mono l0 k t ht]
    simp only [Option.bind_some] at h ⊢
    cases hc : nat_Cmp.f k l1 t with
    | none => rw [hc] at h; simp at h
    | some c =>
      rw [hc] at h
      rw [nat_Cmp.mono l1 t k c hc]
      exact h
set_option maxHeartbeats 8000000 in
set_option maxRecDepth 100000 in
theorem fixenc_fits.calls (k : Nat) (A0 : Option Addr) (c0 : Nat) (l0 : List Int) (A1 : Option Addr) (c1 : Nat) (l1 : List Int) (r : Bool) (w : World) (hr0 : Kd.C (Kd.int .u64) w A0 l0.length l0) (hc0 : l0.length ≤ c0) (hr1 : Kd.C (Kd.int .u64) w A1 l1.length l1) (hc1 : l1.length ≤ c1) (h : fixenc_fits.f k l0 l1 = some r) :
    Calls Try.prog 81 #[.slice A0 l0.length c0, .slice A1 l1.length c1] w fun e w' => e = .returned (.bool r) ∧ Below w.heap.size w w' := by
  unfold fixenc_fits.f at h
  cases ht : fixenc_modulus_half.f k l0 with
  | none => rw [ht] at h; simp at h
  | some t =>
    rw [ht] at h
    simp only [Option.bind_some] at h
    cases hcm : nat_Cmp.f k l1 t with
    | none => rw [hcm] at h; simp at h
    | some c =>
      rw [hcm] at h
      simp only [Option.bind_some, Option.some.injEq] at h
      subst h
      have HT := Aside0.mk ht
      have HM := Aside0.mk hcm
      have HC0 := Aside0.mk hr0
      have HC1 := Aside0.mk hr1
      have HL0 := Aside0.mk hc0
      have HL1 := Aside0.mk hc1
      clear ht hcm hr0 hr1 hc0 hc1
      go_enter Try.func81, Try.ntmps81
      go_wp2_with (first
        | (go_at_call 125; refine (fixenc_modulus_half.calls k A0 c0 l0 t w HC0.out HL0.out HT.out).mono ?_; rintro e w1 ⟨v1, rfl, ho, hb⟩; obtain ⟨Ao, co, eo⟩ := Kd.R_slice ho; subst eo; have HO := Aside0.mk ho; have HB := Aside0.mk hb; clear ho hb)
        | (go_at_call 88; refine (nat_Cmp.calls k (fun k_ => k_ < w1.heap.size) A1 c1 l1 (fun k_ => k_ < w1.heap.size) Ao co t c w1 (Kd.V_mk HL1.out (Kd.C_F (Kd.heap_int _) (Kd.C_below HC1.out HB.out))) (Kd.V_mk (Kd.R_reads' HO.out).2.1 (Kd.C_F (Kd.heap_int _) (Kd.R_reads' HO.out).2.2)) HM.out).mono ?_; rintro e w2 ⟨rfl, hb2⟩; have HB2 := Aside0.mk (below_step HB.out hb2); clear hb2))
      go_ret
      exact ⟨by simp, HB2.out⟩
end Go.Proofs.Ytgeanpnkllnipac.F
end

section
namespace Go.Proofs.Ytgeanpnkllnipac.F
open Go.RowKit Go.Proofs.YtgeanpnkllnipacW.PrintWords Go.Proofs.YtgeanpnkllnipacW.PrintLast Go.Proofs.YtgeanpnkllnipacW.PrintMore
attribute [local go_sem] max2_int min2_int max_two min_two max_three min_three max_four min_four   -- for this text's walks alone
set_option linter.unusedVariables false
set_option linter.unusedSimpArgs false

/-! ### fixenc_Encode: function 28 -/
def fixenc_Encode.j0 : Nat → List Int → Bool → Bool → List Int → Option (List Int × Int)
  | 0, _, _, _, _ => none
  | k + 1, x0, x6, x610000, x610001 => if x6 = true then (some (([] : List Int), 1)) else ((fixenc_fits.f k x0 x610001).bind fun t612 => (if t612 = true then (if x610000 = true then ((nat_Sub.f k x0 x610001).bind fun bt613 => (some (bt613.1, bt613.2))) else ((nat_Add.f k x610001 ([] : List Int)).bind fun bt617 => (some (bt617.1, bt617.2)))) else (some (([] : List Int), 12))))
def fixenc_Encode.f (k : Nat) (l0 : List Int) (a1_0 : Bool) (l1_1 : List Int) : Option (List Int × Int) := (fixenc_modulus_may.f k l0).bind fun t610 => (if t610 = true then ((modint_Right.f a1_0 l1_1).bind fun t611 => (fixenc_Encode.j0 k l0 (!t611) a1_0 l1_1)) else (fixenc_Encode.j0 k l0 true a1_0 l1_1))
theorem fixenc_Encode.mono_l : ∀ k, (∀ y0 y1 y2 y3, LeO (fixenc_Encode.j0 k y0 y1 y2 y3) (fixenc_Encode.j0 (k + 1) y0 y1 y2 y3))
  | 0 => fun _ _ _ _ r h => by simp [fixenc_Encode.j0] at h
  | k + 1 => by
    have ih0 := fixenc_Encode.mono_l k
    · intro y0 y1 y2 y3
      unfold fixenc_Encode.j0
      repeat' first
      | (with_reducible exact ih0 _ _ _ _)
      | (with_reducible exact fixenc_fits.mono _ _ _)
      | (with_reducible exact fixenc_modulus_may.mono _ _)
      | (with_reducible exact nat_Add.mono _ _ _)
      | (with_reducible exact nat_Sub.mono _ _ _)
      | (with_reducible exact LeO.refl _)
      | (with_reducible exact LeO.none _)
      | (with_reducible refine LeO.ite ?_ ?_)
      | (with_reducible refine LeO.bind ?_ (fun _ => ?_))
      | exact ih0 _ _ _ _
      | exact fixenc_fits.mono _ _ _
      | exact fixenc_modulus_may.mono _ _
      | exact nat_Add.mono _ _ _
      | exact nat_Sub.mono _ _ _
      | exact LeO.none _
      | refine LeO.ite ?_ ?_
      | refine LeO.bind ?_ (fun _ => ?_)
theorem fixenc_Encode.mono : ∀ a0 a1 a2 k, LeO (fixenc_Encode.f k a0 a1 a2) (fixenc_Encode.f (k + 1) a0 a1 a2) := by
  intro a0 a1 a2 k
  have ih0 := fixenc_Encode.mono_l k
  unfold fixenc_Encode.f
  repeat' first
      | (with_reducible exact ih0 _ _ _ _)
      | (with_reducible exact fixenc_fits.mono _ _ _)
      | (with_reducible exact fixenc_modulus_may.mono _ _)
      | (with_reducible exact nat_Add.mono _ _ _)
      | (with_reducible exact nat_Sub.mono _ _ _)
      | (with_reducible exact LeO.refl _)
      | (with_reducible exact LeO.none _)
      | (with_reducible refine LeO.ite ?_ ?_)
      | (with_reducible refine LeO.bind ?_ (fun _ => ?_))
      | exact ih0 _ _ _ _
      | exact fixenc_fits.mono _ _ _
      | exact fixenc_modulus_may.mono _ _
      | exact nat_Add.mono _ _ _
      | exact nat_Sub.mono _ _ _
      | exact LeO.none _
      | refine LeO.ite ?_ ?_
      | refine LeO.bind ?_ (fun _ => ?_)
set_option maxHeartbeats 8000000 in
set_option maxRecDepth 100000 in
theorem fixenc_Encode.calls (k : Nat) (A0 : Option Addr) (c0 : Nat) (l0 : List Int) (a1_0 : Bool) (A1_1 : Option Addr) (c1_1 : Nat) (l1_1 : List Int) (r1 : List Int) (r2 : Int) (w : World) (hr0 : Kd.C (Kd.int .u64) w A0 l0.length l0) (hc0 : l0.length ≤ c0) (hr1_1 : Kd.C (Kd.int .u64) w A1_1 l1_1.length l1_1) (hc1_1 : l1_1.length ≤ c1_1) (h : fixenc_Encode.f k l0 a1_0 l1_1 = some (r1, r2)) :
    Calls Try.prog 28 #[.slice A0 l0.length c0, .agg #[.bool a1_0, .slice A1_1 l1_1.length c1_1]] w fun e w' => ∃ v0_ : Value, e = .returned (.tuple #[v0_, .int .i64 r2]) ∧ Kd.R (Kd.int .u64) 42 w' w.heap.size (fun _ => True) v0_ r1 ∧ Below w.heap.size w w' := by
  have hu47 := Try.underlying47
  have HR0 := Aside0.mk hr0
  have HC0 := Aside0.mk hc0
  clear hr0 hc0
  have HR1_1 := Aside0.mk hr1_1
  have HC1_1 := Aside0.mk hc1_1
  clear hr1_1 hc1_1
  have HB := Aside0.mk (Below.refl w.heap.size w)
  have H : ((fixenc_modulus_may.f k l0).bind fun t610 => (if t610 = true then ((modint_Right.f a1_0 l1_1).bind fun t611 => (fixenc_Encode.j0 k l0 (!t611) a1_0 l1_1)) else (fixenc_Encode.j0 k l0 true a1_0 l1_1))) = some (r1, r2) := h
  clear h
  have HC3 := Aside0.mk H
  clear H
  go_enter Try.func28, Try.ntmps28
  go_upto_region 1 with (first | ((with_reducible refine gate_dst (N := 3) rfl ?_); refine box_event ?hg (N := 3) ?hd (cs := #[.bool a1_0, .slice A1_1 l1_1.length c1_1]) (t := 47) ?hr ?_; (case hd => rfl); (case hg => rfl); (case hr => first | (go_simp; done) | (go_simp; rfl)); intro gb609 hg w4 hbox hb; have n0_ := Aside0.mk (below_step (by repeat (first | (with_reducible first | exact HB.out | apply below_alloc | apply pw_below_drewN | apply below_drew1) | exact HB.out)) hb); have n1_ := Aside0.mk (hbox); have n2_ := Aside0.mk ((by rw [hg]; exact (below_size (by repeat (first | (with_reducible first | exact HB.out | apply below_alloc | apply pw_below_drewN | apply below_drew1) | exact HB.out))) : w.heap.size ≤ gb609)); have n3_ := Aside0.mk ((by rw [hg]; exact (below_size (by repeat (first | (with_reducible first | exact HB.out | apply below_alloc | apply pw_below_drewN | apply below_drew1) | exact HB.out))) : w.heap.size ≤ gb609)); clear HB; have HB := n0_; have BK609 := n1_; have GW609 := n2_; have GE609 := n3_; clear n0_ n1_ n2_ n3_; clear hb hbox hg))
  (try simp only [Act.put, List.setIfInBounds_toArray, List.set_cons_zero, List.set_cons_succ])
  go_cut [6] (fun v6 wc => ∃ (kq : Nat) (x6_2 : Bool), v6 = .bool x6_2 ∧ Aside0 (fixenc_Encode.j0 kq l0 x6_2 a1_0 l1_1 = some (r1, r2)) ∧ Aside0 (kq ≤ k) ∧ Aside0 (wc.heap[gb609]? = some (.cells #[.bool a1_0, (.slice A1_1 l1_1.length c1_1)] 47 (0, 0))) ∧ Aside0 (Below w.heap.size w wc))
  case first =>
    have H := HC3.out
    clear HC3
    replace H := Option.bind_eq_some_iff.mp H
    obtain ⟨t610, A50, H⟩ := H
    replace H : (if t610 = true then ((modint_Right.f a1_0 l1_1).bind fun t611 => (fixenc_Encode.j0 k l0 (!t611) a1_0 l1_1)) else (fixenc_Encode.j0 k l0 true a1_0 l1_1)) = some (r1, r2) := H
    have A5 := Aside0.mk A50
    clear A50
    by_cases c6 : t610 = true
    · subst c6
      have H1 : ((modint_Right.f a1_0 l1_1).bind fun t611 => (fixenc_Encode.j0 k l0 (!t611) a1_0 l1_1)) = some (r1, r2) := by rw [if_pos rfl] at H; exact H
      clear H
      have H := H1
      clear H1
      replace H := Option.bind_eq_some_iff.mp H
      obtain ⟨t611, A70, H⟩ := H
      replace H : (fixenc_Encode.j0 k l0 (!t611) a1_0 l1_1) = some (r1, r2) := H
      have A7 := Aside0.mk A70
      clear A70
      have H' := Aside0.mk H
      clear H
      go_wp2_with (first | ((with_reducible refine gate_callee (f := 79) rfl ?_); refine goesL_ (some 8) rfl rfl Try.func79 (by kernel_rfl) rfl #[.slice A0 l0.length c0] rfl (by (try simp only [List.map_toArray, List.map_cons, List.map_nil]); first | done | rfl | (simp only [List.length_drop, List.length_take]; rfl)) ?_; (with_reducible refine (fixenc_modulus_may.calls k _ _ l0 true _ ?side1 ?side2 A5.out).mono ?_); (case side1 => repeat (first | exact (Kd.C_below HR0.out HB.out) | (with_reducible refine Kd.C_alloc ?_ _) | (with_reducible refine Kd.C_drewN ?_ _) | (with_reducible refine Kd.C_drew ?_))); (case side2 => exact HC0.out); rintro e w8 ⟨rfl, hb⟩; refine ⟨_, rfl, ?_⟩; have n0_ := Aside0.mk (blk_below (g := gb609) (o := .cells #[.bool a1_0, .slice A1_1 l1_1.length c1_1] 47 (0, 0)) (by (with_reducible repeat (first | refine blk_drewN ?_ _ | refine blk_drew ?_ | refine blk_alloc ?_ _)); exact BK609.out) hb); have n1_ := Aside0.mk (below_step (by repeat (first | (with_reducible first | exact HB.out | apply below_alloc | apply pw_below_drewN | apply below_drew1 | refine below_set ?_ GE609.out) | exact HB.out)) hb); clear BK609; clear HB; have BK609 := n0_; have HB := n1_; clear n0_ n1_; (try clear hb); (try clear hb2); (try clear hk); (try clear hi); have hcz9_0 : w8.cell? ⟨gb609, 0, none⟩ = some (.bool a1_0) := (blk_cell BK609.out 0).trans rfl; have hcz9_1 : w8.cell? ⟨gb609, 1, none⟩ = some (.slice A1_1 l1_1.length c1_1) := (blk_cell BK609.out 1).trans rfl; have hfz9_0 := blk_frozen BK609.out 0; have hfz9_1 := blk_frozen BK609.out 1) | (go_at_call 80; (with_reducible refine (modint_Right.calls a1_0 _ _ l1_1 t611 _ ?side1 ?side2 A7.out).mono ?_); (case side1 => repeat (first | exact (Kd.C_below HR1_1.out HB.out) | (with_reducible refine Kd.C_alloc ?_ _) | (with_reducible refine Kd.C_drewN ?_ _) | (with_reducible refine Kd.C_drew ?_))); (case side2 => exact HC1_1.out); rintro e w10 ⟨rfl, hb⟩; have n0_ := Aside0.mk (blk_below (g := gb609) (o := .cells #[.bool a1_0, .slice A1_1 l1_1.length c1_1] 47 (0, 0)) (by (with_reducible repeat (first | refine blk_drewN ?_ _ | refine blk_drew ?_ | refine blk_alloc ?_ _)); exact BK609.out) hb); have n1_ := Aside0.mk (below_step (by repeat (first | (with_reducible first | exact HB.out | apply below_alloc | apply pw_below_drewN | apply below_drew1 | refine below_set ?_ GE609.out) | exact HB.out)) hb); clear BK609; clear HB; have BK609 := n0_; have HB := n1_; clear n0_ n1_; (try clear hb); (try clear hb2); (try clear hk); (try clear hi)))
      go_meet
      case rel => exact ⟨_, (!t611), (by first | rfl | (simp; done) | (simp [*]; done)), H', ⟨by first | omega | exact Nat.le_refl _⟩, ⟨by (with_reducible repeat (first | refine blk_drewN ?_ _ | refine blk_drew ?_ | refine blk_alloc ?_ _)); exact BK609.out⟩, ⟨by repeat (first | (with_reducible first | exact HB.out | apply below_alloc | apply pw_below_drewN | apply below_drew1 | refine below_set ?_ GE609.out) | exact HB.out)⟩⟩
    · replace c6 := Bool.eq_false_iff.mpr c6
      subst c6
      have H1 : (fixenc_Encode.j0 k l0 true a1_0 l1_1) = some (r1, r2) := by rw [if_neg (show ¬ (false = true) by decide)] at H; exact H
      clear H
      have H := H1
      clear H1
      have H' := Aside0.mk H
      clear H
      go_wp2_with (first | ((with_reducible refine gate_callee (f := 79) rfl ?_); refine goesL_ (some 8) rfl rfl Try.func79 (by kernel_rfl) rfl #[.slice A0 l0.length c0] rfl (by (try simp only [List.map_toArray, List.map_cons, List.map_nil]); first | done | rfl | (simp only [List.length_drop, List.length_take]; rfl)) ?_; (with_reducible refine (fixenc_modulus_may.calls k _ _ l0 false _ ?side1 ?side2 A5.out).mono ?_); (case side1 => repeat (first | exact (Kd.C_below HR0.out HB.out) | (with_reducible refine Kd.C_alloc ?_ _) | (with_reducible refine Kd.C_drewN ?_ _) | (with_reducible refine Kd.C_drew ?_))); (case side2 => exact HC0.out); rintro e w11 ⟨rfl, hb⟩; refine ⟨_, rfl, ?_⟩; have n0_ := Aside0.mk (blk_below (g := gb609) (o := .cells #[.bool a1_0, .slice A1_1 l1_1.length c1_1] 47 (0, 0)) (by (with_reducible repeat (first | refine blk_drewN ?_ _ | refine blk_drew ?_ | refine blk_alloc ?_ _)); exact BK609.out) hb); have n1_ := Aside0.mk (below_step (by repeat (first | (with_reducible first | exact HB.out | apply below_alloc | apply pw_below_drewN | apply below_drew1 | refine below_set ?_ GE609.out) | exact HB.out)) hb); clear BK609; clear HB; have BK609 := n0_; have HB := n1_; clear n0_ n1_; (try clear hb); (try clear hb2); (try clear hk); (try clear hi)))
      go_meet
      case rel => exact ⟨_, (true), (by first | rfl | (simp; done) | (simp [*]; done)), H', ⟨by first | omega | exact Nat.le_refl _⟩, ⟨by (with_reducible repeat (first | refine blk_drewN ?_ _ | refine blk_drew ?_ | refine blk_alloc ?_ _)); exact BK609.out⟩, ⟨by repeat (first | (with_reducible first | exact HB.out | apply below_alloc | apply pw_below_drewN | apply below_drew1 | refine below_set ?_ GE609.out) | exact HB.out)⟩⟩
  case rest =>
    clear HC3
    try clear c1
    try clear c2
    try clear p2
    try clear c6
    try clear c7
    try clear hcz9_0
    try clear hcz9_1
    try clear hfz9_0
    try clear hfz9_1
    obtain ⟨kq, x6_2, rfl, HA, HJ2, BK609, HB⟩ := hcut
    cases kq with
    | zero => exact absurd HA.out (by simp [fixenc_Encode.j0])
    | succ kj2 =>
      have H := HA.out
      clear HA
      simp only [fixenc_Encode.j0] at H
      by_cases c12 : x6_2 = true
      · subst c12
        have H1 : (some (([] : List Int), 1)) = some (r1, r2) := by rw [if_pos rfl] at H; exact H
        clear H
        have H := H1
        clear H1
        simp only [Option.some.injEq, Prod.mk.injEq] at H
        obtain ⟨rfl, rfl⟩ := H
        go_wp2
        go_ret2
        exact ⟨_, by first | rfl | (simp [errW_none, errW_some] <;> rfl) | (simp [*, errW_none, errW_some] <;> rfl), by first | exact Kd.R_nil _ _ _ _ _ | exact Kd.N_nil _ _ _ _ _ | exact Kd.V_nil _ _ _ _ _ | exact Kd.Q_nil _ _ _ _ _ | exact Kd.S_nil _ _ _ _ _, by repeat (first | (with_reducible first | exact HB.out | apply below_alloc | apply pw_below_drewN | apply below_drew1 | refine below_set ?_ GE609.out) | exact HB.out)⟩
      · replace c12 := Bool.eq_false_iff.mpr c12
        subst c12
        have H1 : ((fixenc_fits.f kj2 l0 l1_1).bind fun t612 => (if t612 = true then (if a1_0 = true then ((nat_Sub.f kj2 l0 l1_1).bind fun bt613 => (some (bt613.1, bt613.2))) else ((nat_Add.f kj2 l1_1 ([] : List Int)).bind fun bt617 => (some (bt617.1, bt617.2)))) else (some (([] : List Int), 12)))) = some (r1, r2) := by rw [if_neg (show ¬ (false = true) by decide)] at H; exact H
        clear H
        have H := H1
        clear H1
        replace H := Option.bind_eq_some_iff.mp H
        obtain ⟨t612, A130, H⟩ := H
        replace H : (if t612 = true then (if a1_0 = true then ((nat_Sub.f kj2 l0 l1_1).bind fun bt613 => (some (bt613.1, bt613.2))) else ((nat_Add.f kj2 l1_1 ([] : List Int)).bind fun bt617 => (some (bt617.1, bt617.2)))) else (some (([] : List Int), 12))) = some (r1, r2) := H
        have A13 := Aside0.mk A130
        clear A130
        by_cases c14 : t612 = true
        · subst c14
          have H1 : (if a1_0 = true then ((nat_Sub.f kj2 l0 l1_1).bind fun bt613 => (some (bt613.1, bt613.2))) else ((nat_Add.f kj2 l1_1 ([] : List Int)).bind fun bt617 => (some (bt617.1, bt617.2)))) = some (r1, r2) := by rw [if_pos rfl] at H; exact H
          clear H
          have H := H1
          clear H1
          by_cases c15 : a1_0 = true
          · subst c15
            have H1 : ((nat_Sub.f kj2 l0 l1_1).bind fun bt613 => (some (bt613.1, bt613.2))) = some (r1, r2) := by rw [if_pos rfl] at H; exact H
            clear H
            have H := H1
            clear H1
            replace H := Option.bind_eq_some_iff.mp H
            obtain ⟨⟨t613, t616⟩, A160, H⟩ := H
            replace H : (some (t613, t616)) = some (r1, r2) := H
            have A16 := Aside0.mk A160
            clear A160
            simp only [Option.some.injEq, Prod.mk.injEq] at H
            obtain ⟨rfl, rfl⟩ := H
            have hcz17_0 : wc.cell? ⟨gb609, 0, none⟩ = some (.bool true) := (blk_cell BK609.out 0).trans rfl
            have hcz17_1 : wc.cell? ⟨gb609, 1, none⟩ = some (.slice A1_1 l1_1.length c1_1) := (blk_cell BK609.out 1).trans rfl
            have hfz17_0 := blk_frozen BK609.out 0
            have hfz17_1 := blk_frozen BK609.out 1
            go_wp2_with (first | ((with_reducible refine gate_callee (f := 81) rfl ?_); refine goesL_ (some 19) rfl rfl Try.func81 (by kernel_rfl) rfl #[.slice A0 l0.length c0, .slice A1_1 l1_1.length c1_1] rfl (by (try simp only [List.map_toArray, List.map_cons, List.map_nil]); first | done | rfl | (simp only [List.length_drop, List.length_take]; rfl)) ?_; (with_reducible refine (fixenc_fits.calls kj2 _ _ l0 _ _ l1_1 true _ ?side1 ?side2 ?side3 ?side4 A13.out).mono ?_); (case side1 => repeat (first | exact (Kd.C_below HR0.out HB.out) | (with_reducible refine Kd.C_alloc ?_ _) | (with_reducible refine Kd.C_drewN ?_ _) | (with_reducible refine Kd.C_drew ?_))); (case side2 => exact HC0.out); (case side3 => repeat (first | exact (Kd.C_below HR1_1.out HB.out) | (with_reducible refine Kd.C_alloc ?_ _) | (with_reducible refine Kd.C_drewN ?_ _) | (with_reducible refine Kd.C_drew ?_))); (case side4 => exact HC1_1.out); rintro e w18 ⟨rfl, hb⟩; refine ⟨_, rfl, ?_⟩; have n0_ := Aside0.mk (blk_below (g := gb609) (o := .cells #[.bool true, .slice A1_1 l1_1.length c1_1] 47 (0, 0)) (by (with_reducible repeat (first | refine blk_drewN ?_ _ | refine blk_drew ?_ | refine blk_alloc ?_ _)); exact BK609.out) hb); have n1_ := Aside0.mk (below_step (by repeat (first | (with_reducible first | exact HB.out | apply below_alloc | apply pw_below_drewN | apply below_drew1 | refine below_set ?_ GE609.out) | exact HB.out)) hb); clear BK609; clear HB; have BK609 := n0_; have HB := n1_; clear n0_ n1_; (try clear hb); (try clear hb2); (try clear hk); (try clear hi); have hcz19_0 : w18.cell? ⟨gb609, 0, none⟩ = some (.bool true) := (blk_cell BK609.out 0).trans rfl; have hcz19_1 : w18.cell? ⟨gb609, 1, none⟩ = some (.slice A1_1 l1_1.length c1_1) := (blk_cell BK609.out 1).trans rfl; have hfz19_0 := blk_frozen BK609.out 0; have hfz19_1 := blk_frozen BK609.out 1) | ((with_reducible refine gate_callee (f := 82) rfl ?_); refine goesL_ (some 27) rfl rfl Try.func82 (by kernel_rfl) rfl #[.slice A0 l0.length c0, .slice A1_1 l1_1.length c1_1] rfl (by (try simp only [List.map_toArray, List.map_cons, List.map_nil]); first | done | rfl | (simp only [List.length_drop, List.length_take]; rfl)) ?_; (with_reducible refine (nat_Sub.calls kj2 (fun k_ => k_ < w.heap.size) _ _ l0 (fun k_ => k_ < w.heap.size) _ _ l1_1 t613 t616 _ ?side1 ?side2 A16.out).mono ?_); (case side1 => exact Kd.V_mk HC0.out (Kd.F_below (Kd.C_F (Kd.heap_int .u64) HR0.out) (by repeat (first | (with_reducible first | exact HB.out | apply below_alloc | apply pw_below_drewN | apply below_drew1 | refine below_set ?_ GE609.out) | exact HB.out)))); (case side2 => exact Kd.V_mk HC1_1.out (Kd.F_below (Kd.C_F (Kd.heap_int .u64) HR1_1.out) (by repeat (first | (with_reducible first | exact HB.out | apply below_alloc | apply pw_below_drewN | apply below_drew1 | refine below_set ?_ GE609.out) | exact HB.out)))); rintro e w20 ⟨v614, rfl, ho0, hb⟩; refine ⟨_, rfl, ?_⟩; have n0_ := Aside0.mk (Kd.R_lower (Kd.R_mono (ok' := fun k_ => True) ho0 (fun _ hk_ => trivial)) (below_size (by repeat (first | (with_reducible first | exact HB.out | apply below_alloc | apply pw_below_drewN | apply below_drew1 | refine below_set ?_ GE609.out) | exact HB.out)))); have n1_ := Aside0.mk (blk_below (g := gb609) (o := .cells #[.bool true, .slice A1_1 l1_1.length c1_1] 47 (0, 0)) (by (with_reducible repeat (first | refine blk_drewN ?_ _ | refine blk_drew ?_ | refine blk_alloc ?_ _)); exact BK609.out) hb); have n2_ := Aside0.mk (below_step (by repeat (first | (with_reducible first | exact HB.out | apply below_alloc | apply pw_below_drewN | apply below_drew1 | refine below_set ?_ GE609.out) | exact HB.out)) hb); clear BK609; clear HB; have HO615 := n0_; have BK609 := n1_; have HB := n2_; clear n0_ n1_ n2_; (try clear hb); (try clear hb2); (try clear hk); (try clear hi); (try clear ho0)))
            go_ret2
            exact ⟨_, by first | rfl | (simp [errW_none, errW_some] <;> rfl) | (simp [*, errW_none, errW_some] <;> rfl), by (with_reducible repeat (first | apply Kd.R_alloc | apply Kd.R_drewN | apply Kd.R_drew)); exact HO615.out, by repeat (first | (with_reducible first | exact HB.out | apply below_alloc | apply pw_below_drewN | apply below_drew1 | refine below_set ?_ GE609.out) | exact HB.out)⟩
          · replace c15 := Bool.eq_false_iff.mpr c15
            subst c15
            have H1 : ((nat_Add.f kj2 l1_1 ([] : List Int)).bind fun bt617 => (some (bt617.1, bt617.2))) = some (r1, r2) := by rw [if_neg (show ¬ (false = true) by decide)] at H; exact H
            clear H
            have H := H1
            clear H1
            replace H := Option.bind_eq_some_iff.mp H
            obtain ⟨⟨t617, t620⟩, A210, H⟩ := H
            replace H : (some (t617, t620)) = some (r1, r2) := H
            have A21 := Aside0.mk A210
            clear A210
            simp only [Option.some.injEq, Prod.mk.injEq] at H
            obtain ⟨rfl, rfl⟩ := H
            have hcz22_0 : wc.cell? ⟨gb609, 0, none⟩ = some (.bool false) := (blk_cell BK609.out 0).trans rfl
            have hcz22_1 : wc.cell? ⟨gb609, 1, none⟩ = some (.slice A1_1 l1_1.length c1_1) := (blk_cell BK609.out 1).trans rfl
            have hfz22_0 := blk_frozen BK609.out 0
            have hfz22_1 := blk_frozen BK609.out 1
            go_wp2_with (first | ((with_reducible refine gate_callee (f := 81) rfl ?_); refine goesL_ (some 19) rfl rfl Try.func81 (by kernel_rfl) rfl #[.slice A0 l0.length c0, .slice A1_1 l1_1.length c1_1] rfl (by (try simp only [List.map_toArray, List.map_cons, List.map_nil]); first | done | rfl | (simp only [List.length_drop, List.length_take]; rfl)) ?_; (with_reducible refine (fixenc_fits.calls kj2 _ _ l0 _ _ l1_1 true _ ?side1 ?side2 ?side3 ?side4 A13.out).mono ?_); (case side1 => repeat (first | exact (Kd.C_below HR0.out HB.out) | (with_reducible refine Kd.C_alloc ?_ _) | (with_reducible refine Kd.C_drewN ?_ _) | (with_reducible refine Kd.C_drew ?_))); (case side2 => exact HC0.out); (case side3 => repeat (first | exact (Kd.C_below HR1_1.out HB.out) | (with_reducible refine Kd.C_alloc ?_ _) | (with_reducible refine Kd.C_drewN ?_ _) | (with_reducible refine Kd.C_drew ?_))); (case side4 => exact HC1_1.out); rintro e w23 ⟨rfl, hb⟩; refine ⟨_, rfl, ?_⟩; have n0_ := Aside0.mk (blk_below (g := gb609) (o := .cells #[.bool false, .slice A1_1 l1_1.length c1_1] 47 (0, 0)) (by (with_reducible repeat (first | refine blk_drewN ?_ _ | refine blk_drew ?_ | refine blk_alloc ?_ _)); exact BK609.out) hb); have n1_ := Aside0.mk (below_step (by repeat (first | (with_reducible first | exact HB.out | apply below_alloc | apply pw_below_drewN | apply below_drew1 | refine below_set ?_ GE609.out) | exact HB.out)) hb); clear BK609; clear HB; have BK609 := n0_; have HB := n1_; clear n0_ n1_; (try clear hb); (try clear hb2); (try clear hk); (try clear hi); have hcz24_0 : w23.cell? ⟨gb609, 0, none⟩ = some (.bool false) := (blk_cell BK609.out 0).trans rfl; have hcz24_1 : w23.cell? ⟨gb609, 1, none⟩ = some (.slice A1_1 l1_1.length c1_1) := (blk_cell BK609.out 1).trans rfl; have hfz24_0 := blk_frozen BK609.out 0; have hfz24_1 := blk_frozen BK609.out 1) | ((with_reducible refine gate_callee (f := 20) rfl ?_); refine goesL_ (some 32) rfl rfl Try.func20 (by kernel_rfl) rfl #[.slice A1_1 l1_1.length c1_1, .slice none 0 0] rfl (by (try simp only [List.map_toArray, List.map_cons, List.map_nil]); first | done | rfl | (simp only [List.length_drop, List.length_take]; rfl)) ?_; (refine (nat_Add.calls kj2 (fun k_ => k_ < w.heap.size) _ _ l1_1 (fun k_ => False) _ _ ([] : List Int) t617 t620 _ ?side1 ?side2 A21.out).mono ?_); (case side1 => exact Kd.V_mk HC1_1.out (Kd.F_below (Kd.C_F (Kd.heap_int .u64) HR1_1.out) (by repeat (first | (with_reducible first | exact HB.out | apply below_alloc | apply pw_below_drewN | apply below_drew1 | refine below_set ?_ GE609.out) | exact HB.out)))); (case side2 => exact Kd.V_nil _ _ _ _ _); rintro e w25 ⟨v618, rfl, ho0, hb⟩; refine ⟨_, rfl, ?_⟩; have n0_ := Aside0.mk (Kd.R_lower (Kd.R_mono (ok' := fun k_ => True) ho0 (fun _ hk_ => trivial)) (below_size (by repeat (first | (with_reducible first | exact HB.out | apply below_alloc | apply pw_below_drewN | apply below_drew1 | refine below_set ?_ GE609.out) | exact HB.out)))); have n1_ := Aside0.mk (blk_below (g := gb609) (o := .cells #[.bool false, .slice A1_1 l1_1.length c1_1] 47 (0, 0)) (by (with_reducible repeat (first | refine blk_drewN ?_ _ | refine blk_drew ?_ | refine blk_alloc ?_ _)); exact BK609.out) hb); have n2_ := Aside0.mk (below_step (by repeat (first | (with_reducible first | exact HB.out | apply below_alloc | apply pw_below_drewN | apply below_drew1 | refine below_set ?_ GE609.out) | exact HB.out)) hb); clear BK609; clear HB; have HO619 := n0_; have BK609 := n1_; have HB := n2_; clear n0_ n1_ n2_; (try clear hb); (try clear hb2); (try clear hk); (try clear hi); (try clear ho0)))
            go_ret2
            exact ⟨_, by first | rfl | (simp [errW_none, errW_some] <;> rfl) | (simp [*, errW_none, errW_some] <;> rfl), by (with_reducible repeat (first | apply Kd.R_alloc | apply Kd.R_drewN | apply Kd.R_drew)); exact HO619.out, by repeat (first | (with_reducible first | exact HB.out | apply below_alloc | apply pw_below_drewN | apply below_drew1 | refine below_set ?_ GE609.out) | exact HB.out)⟩
        · replace c14 := Bool.eq_false_iff.mpr c14
          subst c14
          have H1 : (some (([] : List Int), 12)) = some (r1, r2) := by rw [if_neg (show ¬ (false = true) by decide)] at H; exact H
          clear H
          have H := H1
          clear H1
          simp only [Option.some.injEq, Prod.mk.injEq] at H
          obtain ⟨rfl, rfl⟩ := H
          have hcz26_0 : wc.cell? ⟨gb609, 0, none⟩ = some (.bool a1_0) := (blk_cell BK609.out 0).trans rfl
          have hcz26_1 : wc.cell? ⟨gb609, 1, none⟩ = some (.slice A1_1 l1_1.length c1_1) := (blk_cell BK609.out 1).trans rfl
          have hfz26_0 := blk_frozen BK609.out 0
          have hfz26_1 := blk_frozen BK609.out 1
          go_wp2_with (first | ((with_reducible refine gate_callee (f := 81) rfl ?_); refine goesL_ (some 19) rfl rfl Try.func81 (by kernel_rfl) rfl #[.slice A0 l0.length c0, .slice A1_1 l1_1.length c1_1] rfl (by (try simp only [List.map_toArray, List.map_cons, List.map_nil]); first | done | rfl | (simp only [List.length_drop, List.length_take]; rfl)) ?_; (with_reducible refine (fixenc_fits.calls kj2 _ _ l0 _ _ l1_1 false _ ?side1 ?side2 ?side3 ?side4 A13.out).mono ?_); (case side1 => repeat (first | exact (Kd.C_below HR0.out HB.out) | (with_reducible refine Kd.C_alloc ?_ _) | (with_reducible refine Kd.C_drewN ?_ _) | (with_reducible refine Kd.C_drew ?_))); (case side2 => exact HC0.out); (case side3 => repeat (first | exact (Kd.C_below HR1_1.out HB.out) | (with_reducible refine Kd.C_alloc ?_ _) | (with_reducible refine Kd.C_drewN ?_ _) | (with_reducible refine Kd.C_drew ?_))); (case side4 => exact HC1_1.out); rintro e w27 ⟨rfl, hb⟩; refine ⟨_, rfl, ?_⟩; have n0_ := Aside0.mk (blk_below (g := gb609) (o := .cells #[.bool a1_0, .slice A1_1 l1_1.length c1_1] 47 (0, 0)) (by (with_reducible repeat (first | refine blk_drewN ?_ _ | refine blk_drew ?_ | refine blk_alloc ?_ _)); exact BK609.out) hb); have n1_ := Aside0.mk (below_step (by repeat (first | (with_reducible first | exact HB.out | apply below_alloc | apply pw_below_drewN | apply below_drew1 | refine below_set ?_ GE609.out) | exact HB.out)) hb); clear BK609; clear HB; have BK609 := n0_; have HB := n1_; clear n0_ n1_; (try clear hb); (try clear hb2); (try clear hk); (try clear hi)))
          go_ret2
          exact ⟨_, by first | rfl | (simp [errW_none, errW_some] <;> rfl) | (simp [*, errW_none, errW_some] <;> rfl), by first | exact Kd.R_nil _ _ _ _ _ | exact Kd.N_nil _ _ _ _ _ | exact Kd.V_nil _ _ _ _ _ | exact Kd.Q_nil _ _ _ _ _ | exact Kd.S_nil _ _ _ _ _, by repeat (first | (with_reducible first | exact HB.out | apply below_alloc | apply pw_below_drewN | apply below_drew1 | refine below_set ?_ GE609.out) | exact HB.out)⟩

end Go.Proofs.Ytgeanpnkllnipac.F
end

section
namespace Go.Proofs.Ytgeanpnkllnipac.F
open Go.RowKit Go.Proofs.YtgeanpnkllnipacW.PrintWords Go.Proofs.YtgeanpnkllnipacW.PrintLast Go.Proofs.YtgeanpnkllnipacW.PrintMore
attribute [local go_sem] max2_int min2_int max_two min_two max_three min_three max_four min_four   -- for this text's walks alone
set_option linter.unusedVariables false
set_option linter.unusedSimpArgs false

/-! ### windbreaklaw07_awake: function 27 -/
def windbreaklaw07_awake.f (k : Nat)  : Option (Bool) := (fixenc_Encode.f k (([101] : List Int)) true (([1] : List Int))).bind fun bt627 => (if bt627.2 = 0 then (if (bt627.1.length : Int) = 1 then (if 0 < (bt627.1.length : Int) then (some ((rd bt627.1 0) == 100)) else (none)) else (some false)) else (some false))
theorem windbreaklaw07_awake.mono : ∀ k, LeO (windbreaklaw07_awake.f k ) (windbreaklaw07_awake.f (k + 1) ) := by
  intro  k
  unfold windbreaklaw07_awake.f
  repeat' first
      | (with_reducible exact fixenc_Encode.mono _ _ _ _)
      | (with_reducible exact LeO.refl _)
      | (with_reducible exact LeO.none _)
      | (with_reducible refine LeO.ite ?_ ?_)
      | (with_reducible refine LeO.bind ?_ (fun _ => ?_))
      | exact fixenc_Encode.mono _ _ _ _
      | exact LeO.none _
      | refine LeO.ite ?_ ?_
      | refine LeO.bind ?_ (fun _ => ?_)
set_option maxHeartbeats 8000000 in
set_option maxRecDepth 100000 in
theorem windbreaklaw07_awake.calls (k : Nat)  (r : Bool) (w : World) (h : windbreaklaw07_awake.f k  = some r) :
    Calls Try.prog 27 #[] w fun e w' => e = .returned (.bool r) ∧ Below w.heap.size w w' := by
  have hu47 := Try.underlying47
  have HB := Aside0.mk (Below.refl w.heap.size w)
  have H : ((fixenc_Encode.f k (([101] : List Int)) true (([1] : List Int))).bind fun bt627 => (if bt627.2 = 0 then (if (bt627.1.length : Int) = 1 then (if 0 < (bt627.1.length : Int) then (some ((rd bt627.1 0) == 100)) else (none)) else (some false)) else (some false))) = some r := h
  clear h
  obtain ⟨y621, hy621⟩ : ∃ y_ : List Int, y_ = (([101] : List Int)) := ⟨_, rfl⟩
  replace H : ((fixenc_Encode.f k y621 true (([1] : List Int))).bind fun bt627 => (if bt627.2 = 0 then (if (bt627.1.length : Int) = 1 then (if 0 < (bt627.1.length : Int) then (some ((rd bt627.1 0) == 100)) else (none)) else (some false)) else (some false))) = some r := by first | (rw [hy621]; with_reducible exact H) | (have H2_ := (Option.bind_some _ _).symm.trans H; rw [hy621]; with_reducible exact H2_) | (have H2_ := (Option.bind_some _ _).symm.trans H; with_reducible exact H2_) | with_reducible exact H | (rw [hy621]; exact H) | exact H
  have Ny621 := Aside0.mk hy621
  clear hy621
  obtain ⟨y624, hy624⟩ : ∃ y_ : List Int, y_ = (([1] : List Int)) := ⟨_, rfl⟩
  replace H : ((fixenc_Encode.f k y621 true y624).bind fun bt627 => (if bt627.2 = 0 then (if (bt627.1.length : Int) = 1 then (if 0 < (bt627.1.length : Int) then (some ((rd bt627.1 0) == 100)) else (none)) else (some false)) else (some false))) = some r := by first | (rw [hy624]; with_reducible exact H) | (have H2_ := (Option.bind_some _ _).symm.trans H; rw [hy624]; with_reducible exact H2_) | (have H2_ := (Option.bind_some _ _).symm.trans H; with_reducible exact H2_) | with_reducible exact H | (rw [hy624]; exact H) | exact H
  have Ny624 := Aside0.mk hy624
  clear hy624
  replace H := Option.bind_eq_some_iff.mp H
  obtain ⟨⟨t627, t630⟩, A10, H⟩ := H
  replace H : (if t630 = 0 then (if (t627.length : Int) = 1 then (if 0 < (t627.length : Int) then (some ((rd t627 0) == 100)) else (none)) else (some false)) else (some false)) = some r := H
  have A1 := Aside0.mk A10
  clear A10
  by_cases c2 : t630 = 0
  · rw [if_pos c2] at H
    have c2b0 : (t630 == 0) = true := beq_iff_eq.mpr c2
    have c2b1 : (t630 != 0) = false := bne_eq_false_iff_eq.mpr c2
    clear c2
    by_cases c3 : (t627.length : Int) = 1
    · rw [if_pos c3] at H
      have c3b0 : ((t627.length : Int) == 1) = true := beq_iff_eq.mpr c3
      have c3b1 : ((t627.length : Int) != 1) = false := bne_eq_false_iff_eq.mpr c3
      clear c3
      by_cases c4 : 0 < (t627.length : Int)
      · rw [if_pos c4] at H
        have c4b0 : decide (0 < (t627.length : Int)) = true := decide_eq_true c4
        have c4b1 : decide (0 < t627.length) = true := decide_eq_true (by omega)
        clear c4
        obtain rfl := Option.some.inj H
        go_enter Try.func27, Try.ntmps27
        go_wp2_with (first | ((with_reducible refine gate_dst (N := 4) rfl ?_); (try (refine gate_guard (by rfl) ?_; dsimp only)); refine Kd.R_lit (Kd.int .u64) _ 42 ?hg (N := 4) ?hd (xs := ([101] : List Int)) (inner := [.int .u64 101]) (ok := fun _ => True) (okp := fun _ => True) ?hr ?hp (fun _ hk => hk) trivial (Below.refl _ _) (Nat.le_refl _) (by simp) ?_; (case hd => rfl); (case hg => rfl); (case hr => first | (go_simp; done) | (go_simp; rfl) | (go_simp; simp only [u64_u8]; done) | (go_simp; simp only [u64_u8]; rfl)); (case hp => exact (Reps.one (show Kd.M (Kd.int .u64) _ _ _ 101 [.int .u64 101] from rfl) (Reps.none _ _))); intro v622 w5 ho6 hb hg_ hnew_; clear hg_ hnew_; (first | rw [← Ny621.out] at ho6 | (simp only [Int.reduceToNat] at ho6; rw [← Ny621.out] at ho6)); have n0_ := Aside0.mk (Kd.R_lower ho6 (below_size (by repeat (first | (with_reducible first | exact HB.out | apply below_alloc | apply pw_below_drewN | apply below_drew1) | exact HB.out)))); have n1_ := Aside0.mk (below_step (by repeat (first | (with_reducible first | exact HB.out | apply below_alloc | apply pw_below_drewN | apply below_drew1) | exact HB.out)) hb); clear HB; have HO623 := n0_; have HB := n1_; clear n0_ n1_; clear hb ho6) | ((with_reducible refine gate_dst (N := 5) rfl ?_); (try (refine gate_guard (by rfl) ?_; dsimp only)); refine Kd.R_lit (Kd.int .u64) _ 42 ?hg (N := 5) ?hd (xs := ([1] : List Int)) (inner := [.int .u64 1]) (ok := fun _ => True) (okp := fun _ => True) ?hr ?hp (fun _ hk => hk) trivial (Below.refl _ _) (Nat.le_refl _) (by simp) ?_; (case hd => rfl); (case hg => rfl); (case hr => first | (go_simp; done) | (go_simp; rfl) | (go_simp; simp only [u64_u8]; done) | (go_simp; simp only [u64_u8]; rfl)); (case hp => exact (Reps.one (show Kd.M (Kd.int .u64) _ _ _ 1 [.int .u64 1] from rfl) (Reps.none _ _))); intro v625 w7 ho8 hb hg_ hnew_; clear hg_ hnew_; (first | rw [← Ny624.out] at ho8 | (simp only [Int.reduceToNat] at ho8; rw [← Ny624.out] at ho8)); have n0_ := Aside0.mk (Kd.R_elder' (by (with_reducible repeat (first | apply Kd.R_alloc | apply Kd.R_drewN | apply Kd.R_drew)); exact HO623.out) (Kd.R_base ho8) hb); have n1_ := Aside0.mk (Kd.R_lower (Kd.R_new' ho8 (Kd.R_lt (by (with_reducible repeat (first | apply Kd.R_alloc | apply Kd.R_drewN | apply Kd.R_drew)); exact HO623.out))) (below_size (by repeat (first | (with_reducible first | exact HB.out | apply below_alloc | apply pw_below_drewN | apply below_drew1) | exact HB.out)))); have n2_ := Aside0.mk (below_step (by repeat (first | (with_reducible first | exact HB.out | apply below_alloc | apply pw_below_drewN | apply below_drew1) | exact HB.out)) hb); clear HO623; clear HB; have HO623 := n0_; have HO626 := n1_; have HB := n2_; clear n0_ n1_ n2_; clear hb ho8; obtain ⟨Ao9, co9, eo9⟩ := Kd.R_slice HO626.out; subst eo9; obtain ⟨Ao10, co10, eo10⟩ := Kd.R_slice HO623.out; subst eo10) | ((with_reducible refine gate_callee (f := 28) rfl ?_); refine goesL_ (some 7) rfl rfl Try.func28 (by kernel_rfl) rfl #[.slice Ao10 y621.length co10, .agg #[.bool true, .slice Ao9 y624.length co9]] rfl (by (try simp only [List.map_toArray, List.map_cons, List.map_nil]); first | done | rfl | (simp only [List.length_drop, List.length_take]; rfl)) ?_; (with_reducible refine (fixenc_Encode.calls k _ _ y621 true _ _ y624 t627 t630 _ ?side1 ?side2 ?side3 ?side4 A1.out).mono ?_); (case side1 => repeat (first | exact (Kd.R_reads' HO623.out).2.2 | (with_reducible refine Kd.C_alloc ?_ _) | (with_reducible refine Kd.C_drewN ?_ _) | (with_reducible refine Kd.C_drew ?_))); (case side2 => exact (Kd.R_reads' HO623.out).2.1); (case side3 => repeat (first | exact (Kd.R_reads' HO626.out).2.2 | (with_reducible refine Kd.C_alloc ?_ _) | (with_reducible refine Kd.C_drewN ?_ _) | (with_reducible refine Kd.C_drew ?_))); (case side4 => exact (Kd.R_reads' HO626.out).2.1); rintro e w11 ⟨v628, rfl, ho0, hb⟩; refine ⟨_, rfl, ?_⟩; have n0_ := Aside0.mk (Kd.R_elder' (by (with_reducible repeat (first | apply Kd.R_alloc | apply Kd.R_drewN | apply Kd.R_drew)); exact HO623.out) (Kd.R_base ho0) hb); have n1_ := Aside0.mk (Kd.R_elder' (by (with_reducible repeat (first | apply Kd.R_alloc | apply Kd.R_drewN | apply Kd.R_drew)); exact HO626.out) (Kd.R_base ho0) hb); have n2_ := Aside0.mk (Kd.R_lower (Kd.R_new' (Kd.R_new' ho0 (Kd.R_lt (by (with_reducible repeat (first | apply Kd.R_alloc | apply Kd.R_drewN | apply Kd.R_drew)); exact HO623.out))) (Kd.R_lt (by (with_reducible repeat (first | apply Kd.R_alloc | apply Kd.R_drewN | apply Kd.R_drew)); exact HO626.out))) (below_size (by repeat (first | (with_reducible first | exact HB.out | apply below_alloc | apply pw_below_drewN | apply below_drew1) | exact HB.out)))); have n3_ := Aside0.mk (below_step (by repeat (first | (with_reducible first | exact HB.out | apply below_alloc | apply pw_below_drewN | apply below_drew1) | exact HB.out)) hb); clear HO623; clear HO626; clear HB; have HO623 := n0_; have HO626 := n1_; have HO629 := n2_; have HB := n3_; clear n0_ n1_ n2_ n3_; (try clear hb); (try clear hb2); (try clear hk); (try clear hi); (try clear ho0); obtain ⟨Ao12, co12, eo12⟩ := Kd.R_slice HO629.out; subst eo12; have p631 : 0 ≤ (0 : Int) := (by omega); have q631 : 0 < (t627.length : Int) := of_decide_eq_true (by first | (with_reducible assumption) | assumption); obtain ⟨ad631, e631, hx631_0⟩ := Kd.at_int (Kd.R_reads' HO629.out).2.2 0 p631 q631; cases e631; have qi631 : (0 < t627.length) = True := eq_true (by omega); (try rw [show ((0 : Int)).toNat = 0 from rfl] at hx631_0); (try rw [Addr.add_zero'] at hx631_0); replace p631 := eq_true p631; replace q631 := eq_true q631))
        go_ret
        exact ⟨by first | rfl | (simp [errW_none, errW_some] <;> rfl) | (simp [*, errW_none, errW_some] <;> rfl), by repeat (first | (with_reducible first | exact HB.out | apply below_alloc | apply pw_below_drewN | apply below_drew1) | exact HB.out)⟩
      · rw [if_neg c4] at H
        exact absurd H (by simp)
    · rw [if_neg c3] at H
      have c3b0 : ((t627.length : Int) == 1) = false := beq_eq_false_iff_ne.mpr c3
      have c3b1 : ((t627.length : Int) != 1) = true := bne_iff_ne.mpr c3
      obtain rfl := Option.some.inj H
      go_enter Try.func27, Try.ntmps27
      go_wp2_with (first | ((with_reducible refine gate_dst (N := 4) rfl ?_); (try (refine gate_guard (by rfl) ?_; dsimp only)); refine Kd.R_lit (Kd.int .u64) _ 42 ?hg (N := 4) ?hd (xs := ([101] : List Int)) (inner := [.int .u64 101]) (ok := fun _ => True) (okp := fun _ => True) ?hr ?hp (fun _ hk => hk) trivial (Below.refl _ _) (Nat.le_refl _) (by simp) ?_; (case hd => rfl); (case hg => rfl); (case hr => first | (go_simp; done) | (go_simp; rfl) | (go_simp; simp only [u64_u8]; done) | (go_simp; simp only [u64_u8]; rfl)); (case hp => exact (Reps.one (show Kd.M (Kd.int .u64) _ _ _ 101 [.int .u64 101] from rfl) (Reps.none _ _))); intro v622 w13 ho14 hb hg_ hnew_; clear hg_ hnew_; (first | rw [← Ny621.out] at ho14 | (simp only [Int.reduceToNat] at ho14; rw [← Ny621.out] at ho14)); have n0_ := Aside0.mk (Kd.R_lower ho14 (below_size (by repeat (first | (with_reducible first | exact HB.out | apply below_alloc | apply pw_below_drewN | apply below_drew1) | exact HB.out)))); have n1_ := Aside0.mk (below_step (by repeat (first | (with_reducible first | exact HB.out | apply below_alloc | apply pw_below_drewN | apply below_drew1) | exact HB.out)) hb); clear HB; have HO623 := n0_; have HB := n1_; clear n0_ n1_; clear hb ho14) | ((with_reducible refine gate_dst (N := 5) rfl ?_); (try (refine gate_guard (by rfl) ?_; dsimp only)); refine Kd.R_lit (Kd.int .u64) _ 42 ?hg (N := 5) ?hd (xs := ([1] : List Int)) (inner := [.int .u64 1]) (ok := fun _ => True) (okp := fun _ => True) ?hr ?hp (fun _ hk => hk) trivial (Below.refl _ _) (Nat.le_refl _) (by simp) ?_; (case hd => rfl); (case hg => rfl); (case hr => first | (go_simp; done) | (go_simp; rfl) | (go_simp; simp only [u64_u8]; done) | (go_simp; simp only [u64_u8]; rfl)); (case hp => exact (Reps.one (show Kd.M (Kd.int .u64) _ _ _ 1 [.int .u64 1] from rfl) (Reps.none _ _))); intro v625 w15 ho16 hb hg_ hnew_; clear hg_ hnew_; (first | rw [← Ny624.out] at ho16 | (simp only [Int.reduceToNat] at ho16; rw [← Ny624.out] at ho16)); have n0_ := Aside0.mk (Kd.R_elder' (by (with_reducible repeat (first | apply Kd.R_alloc | apply Kd.R_drewN | apply Kd.R_drew)); exact HO623.out) (Kd.R_base ho16) hb); have n1_ := Aside0.mk (Kd.R_lower (Kd.R_new' ho16 (Kd.R_lt (by (with_reducible repeat (first | apply Kd.R_alloc | apply Kd.R_drewN | apply Kd.R_drew)); exact HO623.out))) (below_size (by repeat (first | (with_reducible first | exact HB.out | apply below_alloc | apply pw_below_drewN | apply below_drew1) | exact HB.out)))); have n2_ := Aside0.mk (below_step (by repeat (first | (with_reducible first | exact HB.out | apply below_alloc | apply pw_below_drewN | apply below_drew1) | exact HB.out)) hb); clear HO623; clear HB; have HO623 := n0_; have HO626 := n1_; have HB := n2_; clear n0_ n1_ n2_; clear hb ho16; obtain ⟨Ao17, co17, eo17⟩ := Kd.R_slice HO626.out; subst eo17; obtain ⟨Ao18, co18, eo18⟩ := Kd.R_slice HO623.out; subst eo18) | ((with_reducible refine gate_callee (f := 28) rfl ?_); refine goesL_ (some 7) rfl rfl Try.func28 (by kernel_rfl) rfl #[.slice Ao18 y621.length co18, .agg #[.bool true, .slice Ao17 y624.length co17]] rfl (by (try simp only [List.map_toArray, List.map_cons, List.map_nil]); first | done | rfl | (simp only [List.length_drop, List.length_take]; rfl)) ?_; (with_reducible refine (fixenc_Encode.calls k _ _ y621 true _ _ y624 t627 t630 _ ?side1 ?side2 ?side3 ?side4 A1.out).mono ?_); (case side1 => repeat (first | exact (Kd.R_reads' HO623.out).2.2 | (with_reducible refine Kd.C_alloc ?_ _) | (with_reducible refine Kd.C_drewN ?_ _) | (with_reducible refine Kd.C_drew ?_))); (case side2 => exact (Kd.R_reads' HO623.out).2.1); (case side3 => repeat (first | exact (Kd.R_reads' HO626.out).2.2 | (with_reducible refine Kd.C_alloc ?_ _) | (with_reducible refine Kd.C_drewN ?_ _) | (with_reducible refine Kd.C_drew ?_))); (case side4 => exact (Kd.R_reads' HO626.out).2.1); rintro e w19 ⟨v628, rfl, ho0, hb⟩; refine ⟨_, rfl, ?_⟩; have n0_ := Aside0.mk (Kd.R_elder' (by (with_reducible repeat (first | apply Kd.R_alloc | apply Kd.R_drewN | apply Kd.R_drew)); exact HO623.out) (Kd.R_base ho0) hb); have n1_ := Aside0.mk (Kd.R_elder' (by (with_reducible repeat (first | apply Kd.R_alloc | apply Kd.R_drewN | apply Kd.R_drew)); exact HO626.out) (Kd.R_base ho0) hb); have n2_ := Aside0.mk (Kd.R_lower (Kd.R_new' (Kd.R_new' ho0 (Kd.R_lt (by (with_reducible repeat (first | apply Kd.R_alloc | apply Kd.R_drewN | apply Kd.R_drew)); exact HO623.out))) (Kd.R_lt (by (with_reducible repeat (first | apply Kd.R_alloc | apply Kd.R_drewN | apply Kd.R_drew)); exact HO626.out))) (below_size (by repeat (first | (with_reducible first | exact HB.out | apply below_alloc | apply pw_below_drewN | apply below_drew1) | exact HB.out)))); have n3_ := Aside0.mk (below_step (by repeat (first | (with_reducible first | exact HB.out | apply below_alloc | apply pw_below_drewN | apply below_drew1) | exact HB.out)) hb); clear HO623; clear HO626; clear HB; have HO623 := n0_; have HO626 := n1_; have HO629 := n2_; have HB := n3_; clear n0_ n1_ n2_ n3_; (try clear hb); (try clear hb2); (try clear hk); (try clear hi); (try clear ho0); obtain ⟨Ao20, co20, eo20⟩ := Kd.R_slice HO629.out; subst eo20))
      go_ret
      exact ⟨by first | rfl | (simp [errW_none, errW_some] <;> rfl) | (simp [*, errW_none, errW_some] <;> rfl), by repeat (first | (with_reducible first | exact HB.out | apply below_alloc | apply pw_below_drewN | apply below_drew1) | exact HB.out)⟩
  · rw [if_neg c2] at H
    have c2b0 : (t630 == 0) = false := beq_eq_false_iff_ne.mpr c2
    have c2b1 : (t630 != 0) = true := bne_iff_ne.mpr c2
    obtain rfl := Option.some.inj H
    go_enter Try.func27, Try.ntmps27
    go_wp2_with (first | ((with_reducible refine gate_dst (N := 4) rfl ?_); (try (refine gate_guard (by rfl) ?_; dsimp only)); refine Kd.R_lit (Kd.int .u64) _ 42 ?hg (N := 4) ?hd (xs := ([101] : List Int)) (inner := [.int .u64 101]) (ok := fun _ => True) (okp := fun _ => True) ?hr ?hp (fun _ hk => hk) trivial (Below.refl _ _) (Nat.le_refl _) (by simp) ?_; (case hd => rfl); (case hg => rfl); (case hr => first | (go_simp; done) | (go_simp; rfl) | (go_simp; simp only [u64_u8]; done) | (go_simp; simp only [u64_u8]; rfl)); (case hp => exact (Reps.one (show Kd.M (Kd.int .u64) _ _ _ 101 [.int .u64 101] from rfl) (Reps.none _ _))); intro v622 w21 ho22 hb hg_ hnew_; clear hg_ hnew_; (first | rw [← Ny621.out] at ho22 | (simp only [Int.reduceToNat] at ho22; rw [← Ny621.out] at ho22)); have n0_ := Aside0.mk (Kd.R_lower ho22 (below_size (by repeat (first | (with_reducible first | exact HB.out | apply below_alloc | apply pw_below_drewN | apply below_drew1) | exact HB.out)))); have n1_ := Aside0.mk (below_step (by repeat (first | (with_reducible first | exact HB.out | apply below_alloc | apply pw_below_drewN | apply below_drew1) | exact HB.out)) hb); clear HB; have HO623 := n0_; have HB := n1_; clear n0_ n1_; clear hb ho22) | ((with_reducible refine gate_dst (N := 5) rfl ?_); (try (refine gate_guard (by rfl) ?_; dsimp only)); refine Kd.R_lit (Kd.int .u64) _ 42 ?hg (N := 5) ?hd (xs := ([1] : List Int)) (inner := [.int .u64 1]) (ok := fun _ => True) (okp := fun _ => True) ?hr ?hp (fun _ hk => hk) trivial (Below.refl _ _) (Nat.le_refl _) (by simp) ?_; (case hd => rfl); (case hg => rfl); (case hr => first | (go_simp; done) | (go_simp; rfl) | (go_simp; simp only [u64_u8]; done) | (go_simp; simp only [u64_u8]; rfl)); (case hp => exact (Reps.one (show Kd.M (Kd.int .u64) _ _ _ 1 [.int .u64 1] from rfl) (Reps.none _ _))); intro v625 w23 ho24 hb hg_ hnew_; clear hg_ hnew_; (first | rw [← Ny624.out] at ho24 | (simp only [Int.reduceToNat] at ho24; rw [← Ny624.out] at ho24)); have n0_ := Aside0.mk (Kd.R_elder' (by (with_reducible repeat (first | apply Kd.R_alloc | apply Kd.R_drewN | apply Kd.R_drew)); exact HO623.out) (Kd.R_base ho24) hb); have n1_ := Aside0.mk (Kd.R_lower (Kd.R_new' ho24 (Kd.R_lt (by (with_reducible repeat (first | apply Kd.R_alloc | apply Kd.R_drewN | apply Kd.R_drew)); exact HO623.out))) (below_size (by repeat (first | (with_reducible first | exact HB.out | apply below_alloc | apply pw_below_drewN | apply below_drew1) | exact HB.out)))); have n2_ := Aside0.mk (below_step (by repeat (first | (with_reducible first | exact HB.out | apply below_alloc | apply pw_below_drewN | apply below_drew1) | exact HB.out)) hb); clear HO623; clear HB; have HO623 := n0_; have HO626 := n1_; have HB := n2_; clear n0_ n1_ n2_; clear hb ho24; obtain ⟨Ao25, co25, eo25⟩ := Kd.R_slice HO626.out; subst eo25; obtain ⟨Ao26, co26, eo26⟩ := Kd.R_slice HO623.out; subst eo26) | ((with_reducible refine gate_callee (f := 28) rfl ?_); refine goesL_ (some 7) rfl rfl Try.func28 (by kernel_rfl) rfl #[.slice Ao26 y621.length co26, .agg #[.bool true, .slice Ao25 y624.length co25]] rfl (by (try simp only [List.map_toArray, List.map_cons, List.map_nil]); first | done | rfl | (simp only [List.length_drop, List.length_take]; rfl)) ?_; (with_reducible refine (fixenc_Encode.calls k _ _ y621 true _ _ y624 t627 t630 _ ?side1 ?side2 ?side3 ?side4 A1.out).mono ?_); (case side1 => repeat (first | exact (Kd.R_reads' HO623.out).2.2 | (with_reducible refine Kd.C_alloc ?_ _) | (with_reducible refine Kd.C_drewN ?_ _) | (with_reducible refine Kd.C_drew ?_))); (case side2 => exact (Kd.R_reads' HO623.out).2.1); (case side3 => repeat (first | exact (Kd.R_reads' HO626.out).2.2 | (with_reducible refine Kd.C_alloc ?_ _) | (with_reducible refine Kd.C_drewN ?_ _) | (with_reducible refine Kd.C_drew ?_))); (case side4 => exact (Kd.R_reads' HO626.out).2.1); rintro e w27 ⟨v628, rfl, ho0, hb⟩; refine ⟨_, rfl, ?_⟩; have n0_ := Aside0.mk (Kd.R_elder' (by (with_reducible repeat (first | apply Kd.R_alloc | apply Kd.R_drewN | apply Kd.R_drew)); exact HO623.out) (Kd.R_base ho0) hb); have n1_ := Aside0.mk (Kd.R_elder' (by (with_reducible repeat (first | apply Kd.R_alloc | apply Kd.R_drewN | apply Kd.R_drew)); exact HO626.out) (Kd.R_base ho0) hb); have n2_ := Aside0.mk (Kd.R_lower (Kd.R_new' (Kd.R_new' ho0 (Kd.R_lt (by (with_reducible repeat (first | apply Kd.R_alloc | apply Kd.R_drewN | apply Kd.R_drew)); exact HO623.out))) (Kd.R_lt (by (with_reducible repeat (first | apply Kd.R_alloc | apply Kd.R_drewN | apply Kd.R_drew)); exact HO626.out))) (below_size (by repeat (first | (with_reducible first | exact HB.out | apply below_alloc | apply pw_below_drewN | apply below_drew1) | exact HB.out)))); have n3_ := Aside0.mk (below_step (by repeat (first | (with_reducible first | exact HB.out | apply below_alloc | apply pw_below_drewN | apply below_drew1) | exact HB.out)) hb); clear HO623; clear HO626; clear HB; have HO623 := n0_; have HO626 := n1_; have HO629 := n2_; have HB := n3_; clear n0_ n1_ n2_ n3_; (try clear hb); (try clear hb2); (try clear hk); (try clear hi); (try clear ho0)))
    go_ret
    exact ⟨by first | rfl | (simp [errW_none, errW_some] <;> rfl) | (simp [*, errW_none, errW_some] <;> rfl), by repeat (first | (with_reducible first | exact HB.out | apply below_alloc | apply pw_below_drewN | apply below_drew1) | exact HB.out)⟩

end Go.Proofs.Ytgeanpnkllnipac.F
end

section
namespace Go.Proofs.Ytgeanpnkllnipac.F
open Go.RowKit Go.Proofs.YtgeanpnkllnipacW.PrintWords Go.Proofs.YtgeanpnkllnipacW.PrintLast Go.Proofs.YtgeanpnkllnipacW.PrintMore
attribute [local go_sem] max2_int min2_int max_two min_two max_three min_three max_four min_four   -- for this text's walks alone
set_option linter.unusedVariables false
set_option linter.unusedSimpArgs false

/-! ### windbreakref01_Right: function 19 -/
def windbreakref01_Right.f (l0 : List Int) : Option (Bool) := if (l0.length : Int) ≤ 64 then (if (l0.length : Int) = 0 then (some true) else (if 0 ≤ (wrap64 ((l0.length : Int) - 1)) then (if (wrap64 ((l0.length : Int) - 1)) < (l0.length : Int) then (some ((rd l0 (wrap64 ((l0.length : Int) - 1))) != 0)) else (none)) else (none))) else (some false)
set_option maxHeartbeats 8000000 in
set_option maxRecDepth 100000 in
theorem windbreakref01_Right.calls (A0 : Option Addr) (c0 : Nat) (l0 : List Int) (r : Bool) (w : World) (hr0 : Kd.C (Kd.int .u64) w A0 l0.length l0) (hc0 : l0.length ≤ c0) (h : windbreakref01_Right.f l0 = some r) :
    Calls Try.prog 19 #[.slice A0 l0.length c0] w fun e w' => e = .returned (.bool r) ∧ Drawn0 w w' := by
  have HR0 := Aside0.mk hr0
  have HC0 := Aside0.mk hc0
  clear hr0 hc0
  have H : (if (l0.length : Int) ≤ 64 then (if (l0.length : Int) = 0 then (some true) else (if 0 ≤ (wrap64 ((l0.length : Int) - 1)) then (if (wrap64 ((l0.length : Int) - 1)) < (l0.length : Int) then (some ((rd l0 (wrap64 ((l0.length : Int) - 1))) != 0)) else (none)) else (none))) else (some false)) = some r := h
  clear h
  by_cases c2 : (l0.length : Int) ≤ 64
  · rw [if_pos c2] at H
    have c2b0 : decide ((l0.length : Int) ≤ 64) = true := decide_eq_true c2
    have c2b1 : decide (l0.length ≤ 64) = true := decide_eq_true (by omega)
    clear c2
    by_cases c3 : (l0.length : Int) = 0
    · rw [if_pos c3] at H
      have c3b0 : ((l0.length : Int) == 0) = true := beq_iff_eq.mpr c3
      have c3b1 : ((l0.length : Int) != 0) = false := bne_eq_false_iff_eq.mpr c3
      clear c3
      obtain rfl := Option.some.inj H
      go_enter Try.func19, Try.ntmps19
      go_wp2
      go_ret
      exact ⟨by first | rfl | (simp; done) | (simp [*]; done), by repeat (first | exact Drawn0.refl _ | apply Drawn0.step)⟩
    · rw [if_neg c3] at H
      have c3b0 : ((l0.length : Int) == 0) = false := beq_eq_false_iff_ne.mpr c3
      have c3b1 : ((l0.length : Int) != 0) = true := bne_iff_ne.mpr c3
      have c3b2 : ¬ (l0 = []) := fun h_ => c3 (by rw [h_]; rfl)
      obtain ⟨ji4, hji4⟩ : ∃ j_ : Int, (wrap64 ((l0.length : Int) - 1)) = j_ := ⟨_, rfl⟩
      replace H : (if 0 ≤ (ji4) then (if (ji4) < (l0.length : Int) then (some ((rd l0 (ji4)) != 0)) else (none)) else (none)) = some r := by first | (rw [hji4] at H; exact H) | (simp only [hji4] at H ⊢; exact H)
      have hji4w : (IntKind.i64.wrap ((l0.length : Int) - 1)) = ji4 := (i64_w _).trans hji4
      by_cases c5 : 0 ≤ (ji4)
      · rw [if_pos c5] at H
        have c5b0 : decide (0 ≤ (ji4)) = true := decide_eq_true c5
        clear c5
        by_cases c6 : (ji4) < (l0.length : Int)
        · rw [if_pos c6] at H
          have c6b0 : decide ((ji4) < (l0.length : Int)) = true := decide_eq_true c6
          clear c6
          obtain rfl := Option.some.inj H
          have p126 : 0 ≤ ((ji4) : Int) := of_decide_eq_true (by first | (with_reducible assumption) | assumption)
          have q126 : (ji4) < (l0.length : Int) := of_decide_eq_true (by first | (with_reducible assumption) | assumption)
          obtain ⟨ad126, e126, hx126_0⟩ := Kd.at_int HR0.out (ji4) p126 q126
          cases e126
          replace p126 := eq_true p126
          replace q126 := eq_true q126
          go_enter Try.func19, Try.ntmps19
          go_wp2
          go_ret
          exact ⟨by first | rfl | (simp; done) | (simp only [← hji4] <;> (first | rfl | simp)) | (simp [*]; done), by repeat (first | exact Drawn0.refl _ | apply Drawn0.step)⟩
        · rw [if_neg c6] at H
          exact absurd H (by simp)
      · rw [if_neg c5] at H
        exact absurd H (by simp)
  · rw [if_neg c2] at H
    have c2b0 : decide ((l0.length : Int) ≤ 64) = false := decide_eq_false c2
    have c2b1 : decide (l0.length ≤ 64) = false := decide_eq_false (by omega)
    clear c2
    obtain rfl := Option.some.inj H
    go_enter Try.func19, Try.ntmps19
    go_wp2
    go_ret
    exact ⟨by first | rfl | (simp; done) | (simp [*]; done), by repeat (first | exact Drawn0.refl _ | apply Drawn0.step)⟩

end Go.Proofs.Ytgeanpnkllnipac.F
end
