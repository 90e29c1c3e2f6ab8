/- Proved: the law SplitmaskShuffles of layer 20: any many numbers in an order by any tape are the document's; for every input, without a condition. -/
import Derived.Test.YtlkinjhmgljapabMSplitmaskShufflesa
import Derived.StillTailTactics
section
namespace Go.Proofs.Ytlkinjhmgljapab.F
open Go.RowKit Go.Proofs.YtlkinjhmgljapabW.PrintWords Go.Proofs.YtlkinjhmgljapabW.PrintLast Go.Proofs.YtlkinjhmgljapabW.PrintMore
set_option linter.unusedVariables false
set_option linter.unusedSimpArgs false
theorem Tp2.mono {w : World} {g : Nat} {ok ok' : Nat → Prop} {l : List Int} {u : Int} (h : Tp2 w g ok l u) (hok : ∀ k, ok k → ok' k) : Tp2 w g ok' l u := by
  obtain ⟨A, c, h1, h2, h3⟩ := h
  exact ⟨A, c, h1, h2, Kd.F_mono h3 hok⟩
theorem Tp2.lt {w : World} {g : Nat} {ok : Nat → Prop} {l : List Int} {u : Int} (h : Tp2 w g ok l u) : g < w.heap.size := by
  obtain ⟨A, c, h1, _⟩ := h
  exact blk_lt h1
theorem Tp2.keep {w w1 : World} {g g1 : Nat} {ok : Nat → Prop} {l : List Int} {u : Int} (h : Tp2 w g ok l u) (hk : KeepBut w w1 g1 none) (hg : g ≠ g1) (hok : ∀ k, ok k → k ≠ g1) : Tp2 w1 g ok l u := by
  obtain ⟨A, c, h1, h2, h3⟩ := h
  exact ⟨A, c, (hk.2 g (blk_lt h1) hg (by simp)).trans h1, h2, Kd.F_step h3 (fun k hk2 hlt => hk.2 k hlt (hok k hk2) (by simp))⟩
theorem Tp.cell {w : World} {g : Nat} {ok : Nat → Prop} {l : List Int} (h : Tp w g ok l) : ∃ A c, w.cell? ⟨g, 0, none⟩ = some (.slice A l.length c) := by
  obtain ⟨A, c, hb, _⟩ := h
  exact ⟨A, c, (blk_cell hb 0).trans rfl⟩
theorem Tp2.cell {w : World} {g : Nat} {ok : Nat → Prop} {l : List Int} {u : Int} (h : Tp2 w g ok l u) : ∃ A c, w.cell? ⟨g, 0, none⟩ = some (.slice A l.length c) ∧ w.cell? ⟨g, 1, none⟩ = some (.int .i64 u) := by
  obtain ⟨A, c, hb, _⟩ := h
  exact ⟨A, c, (blk_cell hb 0).trans rfl, (blk_cell hb 1).trans rfl⟩
set_option maxHeartbeats 8000000 in
set_option maxRecDepth 100000 in
theorem tape_fresh20.long (A0 : Option Addr) (c0 : Nat) (l0 : List Int) (w : World) (hr0 : Kd.C (Kd.int .u8) w A0 l0.length l0) (hc0 : l0.length ≤ c0) (c2 : (l0.length : Int) > 65536) :
    Calls Try.prog 28 #[.slice A0 l0.length c0] w fun e w' => e = .returned (.tuple #[.pointer none, .pointer none, .bool false]) ∧ Below w.heap.size w w' := by
  have HR0 := Aside0.mk hr0
  have HC0 := Aside0.mk hc0
  clear hr0 hc0
  have HB := Aside0.mk (Below.refl w.heap.size w)
  have C2 := Aside0.mk c2
  clear c2
  go_enter Try.func28, Try.ntmps28
  go_wp2_with (first | (go_at_call 20; (with_reducible refine (tape_New.calls _ _ l0 _ ?side1 HC0.out).mono ?_); (case side1 => repeat (first | exact (Kd.C_below HR0.out HB.out) | (with_reducible refine Kd.C_alloc ?_ _) | (with_reducible refine Kd.C_drewN ?_ _) | (with_reducible refine Kd.C_drew ?_))); rintro e w1 ⟨p, rfl, hp, hb⟩; rw [if_pos C2.out] at hp ⊢; subst hp; have n1_ := Aside0.mk (below_step (by repeat (first | (with_reducible first | exact HB.out | apply below_alloc | apply pw_below_drewN | apply below_drew1) | exact HB.out)) hb); clear HB hb; have HB := n1_; clear n1_) | (go_at_call 21; (with_reducible refine (tape_New2.calls _ _ l0 _ ?side1 HC0.out).mono ?_); (case side1 => repeat (first | exact (Kd.C_below HR0.out HB.out) | (with_reducible refine Kd.C_alloc ?_ _) | (with_reducible refine Kd.C_drewN ?_ _) | (with_reducible refine Kd.C_drew ?_))); rintro e w2 ⟨p, rfl, hp, hb⟩; rw [if_pos C2.out] at hp ⊢; subst hp; have n1_ := Aside0.mk (below_step (by repeat (first | (with_reducible first | exact HB.out | apply below_alloc | apply pw_below_drewN | apply below_drew1) | exact HB.out)) hb); clear HB hb; have HB := n1_; clear n1_))
  go_ret3
  exact ⟨rfl, by repeat (first | (with_reducible first | exact HB.out | apply below_alloc | apply pw_below_drewN | apply below_drew1) | exact HB.out)⟩
set_option maxHeartbeats 8000000 in
set_option maxRecDepth 100000 in
theorem tape_fresh20.both (A0 : Option Addr) (c0 : Nat) (l0 : List Int) (w : World) (hr0 : Kd.C (Kd.int .u8) w A0 l0.length l0) (hc0 : l0.length ≤ c0) (c2 : ¬ (l0.length : Int) > 65536) :
    Calls Try.prog 28 #[.slice A0 l0.length c0] w fun e w' => ∃ g1 g2 : Nat, e = .returned (.tuple #[.pointer (some ⟨g1, 0, none⟩), .pointer (some ⟨g2, 0, none⟩), .bool true]) ∧ w.heap.size ≤ g1 ∧ g1 < g2 ∧ Tp w' g1 (fun k => k < g1) l0 ∧ Tp2 w' g2 (fun k => g1 < k ∧ k < g2) l0 0 ∧ Below w.heap.size w w' := by
  have HR0 := Aside0.mk hr0
  have HC0 := Aside0.mk hc0
  clear hr0 hc0
  have HB := Aside0.mk (Below.refl w.heap.size w)
  have C2 := Aside0.mk c2
  clear c2
  go_enter Try.func28, Try.ntmps28
  go_wp2_with (first | (go_at_call 20; (with_reducible refine (tape_New.calls _ _ l0 _ ?side1 HC0.out).mono ?_); (case side1 => repeat (first | exact (Kd.C_below HR0.out HB.out) | (with_reducible refine Kd.C_alloc ?_ _) | (with_reducible refine Kd.C_drewN ?_ _) | (with_reducible refine Kd.C_drew ?_))); rintro e w1 ⟨p, rfl, hp, hb⟩; rw [if_neg (c := (l0.length : Int) > 65536) (by have := C2.out; omega)] at hp; rw [if_neg (c := (l0.length : Int) > 65536) (by have := C2.out; omega)]; obtain ⟨g1, rfl, hg1, hT1⟩ := hp; have G1 := Aside0.mk (Nat.le_trans (below_size (by repeat (first | (with_reducible first | exact HB.out | apply below_alloc | apply pw_below_drewN | apply below_drew1) | exact HB.out))) hg1); have T1 := Aside0.mk (Tp.mono (ok' := fun k => k < g1) hT1 (fun k hk => hk.2)); have L1 := Aside0.mk (Tp.lt hT1); clear hg1 hT1; have n1_ := Aside0.mk (below_step (by repeat (first | (with_reducible first | exact HB.out | apply below_alloc | apply pw_below_drewN | apply below_drew1) | exact HB.out)) hb); clear HB hb; have HB := n1_; clear n1_) | (go_at_call 21; (with_reducible refine (tape_New2.calls _ _ l0 _ ?side1 HC0.out).mono ?_); (case side1 => repeat (first | exact (Kd.C_below HR0.out HB.out) | (with_reducible refine Kd.C_alloc ?_ _) | (with_reducible refine Kd.C_drewN ?_ _) | (with_reducible refine Kd.C_drew ?_))); rintro e w2 ⟨p, rfl, hp, hb⟩; rw [if_neg (c := (l0.length : Int) > 65536) (by have := C2.out; omega)] at hp; rw [if_neg (c := (l0.length : Int) > 65536) (by have := C2.out; omega)]; obtain ⟨g2, rfl, hg2, hT2⟩ := hp; have G2 := Aside0.mk (Nat.lt_of_lt_of_le L1.out hg2); have T2 := Aside0.mk (Tp2.mono (ok' := fun k => g1 < k ∧ k < g2) hT2 (fun k hk => ⟨Nat.lt_of_lt_of_le L1.out hk.1, hk.2⟩)); clear hg2 hT2 L1; have n2_ := Aside0.mk (T1.out.below hb); clear T1; have T1 := n2_; clear n2_; have n1_ := Aside0.mk (below_step (by repeat (first | (with_reducible first | exact HB.out | apply below_alloc | apply pw_below_drewN | apply below_drew1) | exact HB.out)) hb); clear HB hb; have HB := n1_; clear n1_))
  go_ret3
  exact ⟨g1, g2, rfl, G1.out, G2.out, T1.out, T2.out, by repeat (first | (with_reducible first | exact HB.out | apply below_alloc | apply pw_below_drewN | apply below_drew1) | exact HB.out)⟩
def nat_Read_ix.g : List Int → Nat → Int
  | [], _ => -1
  | c :: l, i => if c = 0 then nat_Read_ix.g l (i + 1) else (i : Int)
def nat_Read_ix.f (l : List Int) : Option Int := some (nat_Read_ix.g l 0)
theorem nat_Read_ix.g_of (l : List Int) : ∀ i : Nat, (nat_Read_ix.g l i = -1 ∧ ∀ j, j < l.length → l.getD j 0 = 0) ∨ ∃ k, k < l.length ∧ nat_Read_ix.g l i = ((i + k : Nat) : Int) ∧ l.getD k 0 ≠ 0 ∧ ∀ j, j < k → l.getD j 0 = 0 := by
  induction l with
  | nil => intro i; exact Or.inl ⟨rfl, fun j hj => absurd hj (Nat.not_lt_zero _)⟩
  | cons c l ih =>
    intro i
    by_cases h : c = 0
    · simp only [nat_Read_ix.g, if_pos h]
      rcases ih (i + 1) with ⟨h1, h2⟩ | ⟨k, h1, h2, h3, h4⟩
      · refine Or.inl ⟨h1, fun j hj => ?_⟩
        cases j with
        | zero => simpa using h
        | succ j => simpa using h2 j (by simpa using hj)
      · refine Or.inr ⟨k + 1, by simpa using h1, by rw [h2]; omega, by simpa using h3, fun j hj => ?_⟩
        cases j with
        | zero => simpa using h
        | succ j => simpa using h4 j (by omega)
    · simp only [nat_Read_ix.g, if_neg h]
      exact Or.inr ⟨0, by simp, by omega, by simpa using h, fun j hj => absurd hj (Nat.not_lt_zero _)⟩
set_option maxHeartbeats 1000000 in
theorem nat_Read_ix.closure (x : Int) (w : World) :
    Calls Try.prog 96 #[.int .u8 x] w fun e w' => e = .returned (.bool (x != 0)) ∧ Drawn0 w w' := by
  go_enter Try.func96, Try.ntmps96
  go_wp2
  go_ret
  exact ⟨rfl, Drawn0.refl _⟩
set_option maxHeartbeats 8000000 in
set_option maxRecDepth 100000 in
theorem nat_Read_ix.calls (A0 : Option Addr) (c0 : Nat) (l0 : List Int) (r : Int) (w : World) (hr0 : Kd.C (Kd.int .u8) w A0 l0.length l0) (hc0 : l0.length ≤ c0) (h : nat_Read_ix.f l0 = some r) :
    Calls Try.prog 95 #[.slice A0 l0.length c0, .func (.func 96) #[] #[]] w fun e w' => e = .returned (.int .i64 r) ∧ Drawn0 w w' := by
  have HR0 := Aside0.mk hr0
  obtain rfl : nat_Read_ix.g l0 0 = r := Option.some.inj h
  clear h
  obtain ⟨k, hk, hz, hn, hr⟩ : ∃ k : Nat, k ≤ l0.length ∧ (∀ j, j < k → l0.getD j 0 = 0) ∧ (k < l0.length → l0.getD k 0 ≠ 0) ∧ nat_Read_ix.g l0 0 = (if k < l0.length then (k : Int) else -1) := by
    rcases nat_Read_ix.g_of l0 0 with ⟨h1, h2⟩ | ⟨k, h1, h2, h3, h4⟩
    · exact ⟨l0.length, Nat.le_refl _, h2, fun hh => absurd hh (Nat.lt_irrefl _), by rw [h1, if_neg (Nat.lt_irrefl _)]⟩
    · exact ⟨k, by omega, h4, fun _ => h3, by rw [h2, if_pos h1]; omega⟩
  generalize nat_Read_ix.g l0 0 = r at *
  have hbig : l0.length ≤ 9223372036854775807 := hr0.2.1
  have HZ := Aside0.mk hz
  have HN := Aside0.mk hn
  have HRR := Aside0.mk hr
  clear hr0 hc0 hz hn hr
  go_enter Try.func95, Try.ntmps95
  go_wp2
  go_loopg [5, 8] l0.length (fun gg _ s8 wr => ∃ kk : Nat, kk ≤ k ∧ l0.length - kk ≤ gg ∧ s8 = .int .i64 kk ∧ Aside0 (Drawn0 w wr))
  case atStart => exact ⟨0, Nat.zero_le _, by omega, rfl, ⟨Drawn0.refl _⟩⟩
  case round =>
    obtain ⟨kk, hkk, hg, rfl, D⟩ := hrel
    by_cases hlt : kk < l0.length
    · have hltz : (kk : Int) < (l0.length : Int) := by omega
      have hC1 : Kd.C (Kd.int .u8) wr A0 l0.length l0 := Kd.C_below HR0.out D.out.below
      have h0k : (0 : Int) ≤ (kk : Int) := Int.natCast_nonneg kk
      obtain ⟨ad, hA, hcell⟩ := Kd.at_int hC1 (kk : Int) h0k hltz
      subst hA
      simp only [Go.IntWalk.toNatUp] at hcell
      have HX := HZ.out kk
      have HY := HN.out
      clear hC1
      rw [show rd l0 (kk : Int) = l0.getD kk 0 from rfl] at hcell
      generalize hx : l0.getD kk 0 = x at hcell HX
      have hcall := Aside0.mk (nat_Read_ix.closure x wr)
      have D2 := D
      by_cases hlast : kk < k
      · have hx0 : (x != 0) = false := by rw [HX hlast]; rfl
        clear D HX HY hx
        go_wp2_with (go_at_call 96; refine hcall.out.mono ?_; rintro e w' ⟨rfl, ⟨q, rfl⟩⟩)
        go_roundg (l0.length - (kk + 1))
        case measure => omega
        case rel => exact ⟨kk + 1, by omega, by omega, by go_num, ⟨D2.out.step _⟩⟩
      · have hkk' : kk = k := by omega
        subst hkk'
        have hx1 := HY hlt
        rw [hx] at hx1
        have hx0 : (x != 0) = true := by simpa using hx1
        have HE := Aside0.mk (HRR.out.trans (if_pos hlt))
        clear D HX HY hx hx1
        go_wp2_with (go_at_call 96; refine hcall.out.mono ?_; rintro e w' ⟨rfl, ⟨q, rfl⟩⟩)
        go_ret
        exact ⟨by rw [HE.out]; rfl, D2.out.step _⟩
    · have hltz : ¬ (kk : Int) < (l0.length : Int) := by omega
      have HE := Aside0.mk (HRR.out.trans (if_neg (by omega)))
      go_wp2
      go_ret
      exact ⟨by rw [HE.out]; rfl, D.out⟩
def nat_right.f : List (List Int) → Option Bool
  | [] => some true
  | a :: l => (nat_Right.f a).bind fun b => if b = true then nat_right.f l else some false
def nat_right.ix : List (List Int) → Option Nat
  | [] => some 0
  | a :: l => (nat_Right.f a).bind fun b => if b = true then (nat_right.ix l).map (· + 1) else some 0
theorem nat_right.ix_of {l : List (List Int)} {r : Bool} (h : nat_right.f l = some r) : ∃ k, nat_right.ix l = some k ∧ k ≤ l.length ∧ (r = true ↔ k = l.length) ∧ (∀ j, j < k → nat_Right.f (l.getD j []) = some true) ∧ (k < l.length → nat_Right.f (l.getD k []) = some false) := by
  induction l generalizing r with
  | nil =>
    simp only [nat_right.f, Option.some.injEq] at h
    exact ⟨0, rfl, Nat.le_refl _, by simp [← h], fun j hj => absurd hj (Nat.not_lt_zero _), fun hj => absurd hj (Nat.not_lt_zero _)⟩
  | cons a l ih =>
    simp only [nat_right.f] at h
    cases hb : nat_Right.f a with
    | none => rw [hb] at h; simp at h
    | some b =>
      rw [hb] at h
      simp only [Option.bind_some] at h
      cases b with
      | true =>
        simp only [if_true] at h
        obtain ⟨k, hk, hle, hr, hj, hl⟩ := ih h
        refine ⟨k + 1, by simp [nat_right.ix, hb, hk], by simp; omega, by simp [hr], ?_, ?_⟩
        · intro j hjk
          cases j with
          | zero => simpa using hb
          | succ j => simpa using hj j (by omega)
        · intro hlt
          simpa using hl (by simpa using hlt)
      | false =>
        simp at h
        refine ⟨0, by simp [nat_right.ix, hb], Nat.zero_le _, ?_, fun j hj => absurd hj (Nat.not_lt_zero _), fun _ => by simpa using hb⟩
        simp [← h]
set_option maxHeartbeats 1000000 in
theorem nat_right.closure (A0 : Option Addr) (c0 : Nat) (l0 : List Int) (r : Bool) (w : World) (hr0 : Kd.C (Kd.int .u64) w A0 l0.length l0) (hc0 : l0.length ≤ c0) (h : nat_Right.f l0 = some r) :
    Calls Try.prog 93 #[.slice A0 l0.length c0] w fun e w' => e = .returned (.bool (!r)) ∧ Drawn0 w w' := by
  have hcall := nat_Right.calls A0 c0 l0 r w hr0 hc0 h
  clear hr0 hc0 h
  have HC := Aside0.mk hcall
  clear hcall
  go_enter Try.func93, Try.ntmps93
  go_wp2_with (go_at_call 39; refine HC.out.mono ?_; rintro e w' ⟨rfl, hd⟩)
  go_ret
  exact ⟨rfl, hd⟩
set_option maxHeartbeats 8000000 in
set_option maxRecDepth 100000 in
theorem nat_right.index (A0 : Option Addr) (c0 : Nat) (l0 : List (List Int)) (r : Bool) (w : World) (hr0 : Kd.C (Kd.slice 47 (Kd.int .u64)) w A0 l0.length l0) (hc0 : l0.length ≤ c0) (h : nat_right.f l0 = some r) :
    Calls Try.prog 109 #[.slice A0 l0.length c0, .func (.func 93) #[] #[]] w fun e w' => (∃ k : Int, e = .returned (.int .i64 k) ∧ decide (0 ≤ k) = !r) ∧ Drawn0 w w' := by
  have HR0 := Aside0.mk hr0
  obtain ⟨k, hk, hle, hr, hj, hl⟩ := nat_right.ix_of h
  have hbig : l0.length ≤ 9223372036854775807 := hr0.2.1
  have HJ := Aside0.mk hj
  have HL := Aside0.mk hl
  have HRR := Aside0.mk hr
  clear hr0 hc0 hj hl hk h hr
  go_enter Try.func109, Try.ntmps109
  go_wp2
  go_loopg [5, 8] l0.length (fun gg _ s8 wr => ∃ kk : Nat, kk ≤ k ∧ l0.length - kk ≤ gg ∧ s8 = .int .i64 kk ∧ Aside0 (Drawn0 w wr))
  case atStart => exact ⟨0, Nat.zero_le _, by omega, rfl, ⟨Drawn0.refl _⟩⟩
  case round =>
    obtain ⟨kk, hkk, hg, rfl, D⟩ := hrel
    by_cases hlt : kk < l0.length
    · have hltz : (kk : Int) < (l0.length : Int) := by omega
      have hC1 : Kd.C (Kd.slice 47 (Kd.int .u64)) wr A0 l0.length l0 := Kd.C_below HR0.out D.out.below
      have h0k : (0 : Int) ≤ (kk : Int) := Int.natCast_nonneg kk
      obtain ⟨ad, c, hA, _, hK, hc⟩ := Kd.C_get hC1 ([] : List Int) (kk : Int) h0k hltz
      obtain ⟨A1, c1, rfl, hl1, hi1⟩ := hK
      subst hA
      have hcell := hc 0 _ rfl
      rw [Nat.add_zero, show (Kd.slice 47 (Kd.int .u64)).sz = 1 from rfl, Nat.mul_one] at hcell
      simp only [Go.IntWalk.toNatUp] at hcell hl1 hi1
      have HX := HJ.out kk
      have HY := HL.out
      clear hc hC1
      generalize hx : l0.getD kk [] = x at hcell hl1 hi1 HX
      by_cases hlast : kk < k
      · have hcall := Aside0.mk (nat_right.closure A1 c1 x true wr hi1 hl1 (HX hlast))
        have D2 := D
        clear D hi1 HX HY hx
        go_wp2_with (go_at_call 93; refine hcall.out.mono ?_; rintro e w' ⟨rfl, ⟨q, rfl⟩⟩)
        go_roundg (l0.length - (kk + 1))
        case measure => omega
        case rel => exact ⟨kk + 1, by omega, by omega, by go_num, ⟨D2.out.step _⟩⟩
      · have hkk' : kk = k := by omega
        subst hkk'
        have HZ := HY hlt
        rw [hx] at HZ
        have hcall := Aside0.mk (nat_right.closure A1 c1 x false wr hi1 hl1 HZ)
        have hr : r = false := by
          cases r with
          | false => rfl
          | true => have := HRR.out.1 rfl; omega
        have HR := Aside0.mk hr
        have D2 := D
        clear D hi1 HX HY hx HZ hr
        go_wp2_with (go_at_call 93; refine hcall.out.mono ?_; rintro e w' ⟨rfl, ⟨q, rfl⟩⟩)
        go_ret
        exact ⟨⟨_, rfl, by rw [HR.out]; simp⟩, D2.out.step _⟩
    · have hltz : ¬ (kk : Int) < (l0.length : Int) := by omega
      have hr : r = true := HRR.out.2 (by omega)
      have HR := Aside0.mk hr
      clear hr
      go_wp2
      go_ret
      exact ⟨⟨_, rfl, by rw [HR.out]; simp⟩, D.out⟩
set_option maxHeartbeats 8000000 in
set_option maxRecDepth 100000 in
theorem nat_right.contains (A0 : Option Addr) (c0 : Nat) (l0 : List (List Int)) (r : Bool) (w : World) (hr0 : Kd.C (Kd.slice 47 (Kd.int .u64)) w A0 l0.length l0) (hc0 : l0.length ≤ c0) (h : nat_right.f l0 = some r) :
    Calls Try.prog 92 #[.slice A0 l0.length c0, .func (.func 93) #[] #[]] w fun e w' => e = .returned (.bool (!r)) ∧ Drawn0 w w' := by
  have hcall := Aside0.mk (nat_right.index A0 c0 l0 r w hr0 hc0 h)
  clear hr0 hc0 h
  go_enter Try.func92, Try.ntmps92
  go_wp2_with (go_at_call 109; refine hcall.out.mono ?_; rintro e w' ⟨⟨k, rfl, hk⟩, hd⟩; have HK := Aside0.mk hk; have HD := Aside0.mk hd; clear hk hd)
  go_ret
  exact ⟨by rw [← HK.out]; rfl, HD.out⟩
set_option maxHeartbeats 8000000 in
set_option maxRecDepth 100000 in
theorem nat_right.calls (A0 : Option Addr) (c0 : Nat) (l0 : List (List Int)) (r : Bool) (w : World) (hr0 : Kd.C (Kd.slice 47 (Kd.int .u64)) w A0 l0.length l0) (hc0 : l0.length ≤ c0) (h : nat_right.f l0 = some r) :
    Calls Try.prog 70 #[.slice A0 l0.length c0] w fun e w' => e = .returned (.bool r) ∧ Drawn0 w w' := by
  have hcall := Aside0.mk (nat_right.contains A0 c0 l0 r w hr0 hc0 h)
  clear hr0 hc0 h
  go_enter Try.func70, Try.ntmps70
  go_wp2_with (go_at_call 92; refine hcall.out.mono ?_; rintro e w' ⟨rfl, hd⟩; have HD := Aside0.mk hd; clear hd)
  go_ret
  exact ⟨by cases r <;> rfl, HD.out⟩
end Go.Proofs.Ytlkinjhmgljapab.F
end
section
namespace Go.Proofs.Ytlkinjhmgljapab.F
open Go.RowKit Go.Proofs.YtlkinjhmgljapabW.PrintWords Go.Proofs.YtlkinjhmgljapabW.PrintLast Go.Proofs.YtlkinjhmgljapabW.PrintMore
attribute [local go_sem] max2_int min2_int max_two min_two max_three min_three max_four min_four
set_option linter.unusedVariables false
set_option linter.unusedSimpArgs false
def nat_Read.l0 : Nat → List Int → List Int → Int → Int → Option (List Int × Int)
 | 0, _, _, _, _ => none
 | k + 1, x0, x5, x23, x24 => if x24 < x23 then (if 0 ≤ (wrap64 (Int.tdiv x24 8)) then (if (wrap64 (Int.tdiv x24 8)) < (x5.length : Int) then (if 0 ≤ (wrap64 ((wrap64 ((x0.length : Int) - 1)) - x24)) then (if (wrap64 ((wrap64 ((x0.length : Int) - 1)) - x24)) < (x0.length : Int) then (if 0 ≤ (wrap64 (8 * (Int.tmod x24 8))) then (nat_Read.l0 k x0 (x5.set ((wrap64 (Int.tdiv x24 8)) : Int).toNat (Go.bits .or .u64 (rd x5 (wrap64 (Int.tdiv x24 8))) (shl .u64 (IntKind.u64.wrap (rd x0 (wrap64 ((wrap64 ((x0.length : Int) - 1)) - x24)))) (wrap64 (8 * (Int.tmod x24 8)))))) x23 (wrap64 (x24 + 1))) else (none)) else (none)) else (none)) else (none)) else (none)) else ((nat_told.f k x5).bind fun bt155 => (some (bt155.1, bt155.2)))
def nat_Read.f (k : Nat) (l0 : List Int) : Option (List Int × Int) := (nat_Read_ix.f l0).bind fun t147 => (if t147 < 0 then (some (([] : List Int), 0)) else (if 0 ≤ t147 then (if t147 ≤ (l0.length : Int) then (if ((l0.drop (t147 : Int).toNat).length : Int) > 512 then (some (([] : List Int), 4)) else (if 0 ≤ (wrap64 (Int.tdiv (wrap64 (((l0.drop (t147 : Int).toNat).length : Int) + 7)) 8)) then (if (wrap64 (Int.tdiv (wrap64 (((l0.drop (t147 : Int).toNat).length : Int) + 7)) 8) : Int).toNat ≤ 35184372088832 then (nat_Read.l0 k (l0.drop (t147 : Int).toNat) (List.replicate (wrap64 (Int.tdiv (wrap64 (((l0.drop (t147 : Int).toNat).length : Int) + 7)) 8) : Int).toNat 0) ((l0.drop (t147 : Int).toNat).length : Int) 0) else (none)) else (none))) else (none)) else (none)))
def nat_Read.T11 : Bool × List (List Nat × List Nat) := (true, [([], []), ([], []), ([1], [1]), ([0, 2], [0, 2]), ([3], [3]), ([], []), ([], []), ([6], [6]), ([7], [7]), ([], []), ([8, 9], [8, 9]), ([5, 10], [5, 10]), ([11], [11]), ([12], [12]), ([], []), ([14], [14]), ([15], [15]), ([13, 16], [13, 16]), ([4, 17], [4, 17]), ([0, 2, 0, 1, 2, 3, 4, 5, 6, 7, 8, 9, 10, 11, 12, 13, 14, 15, 16, 17, 18], [0, 2]), ([19, 18, 0, 1, 2, 3, 4, 5, 6, 7, 8, 9, 10, 11, 12, 13, 14, 15, 16, 17, 18], [18, 19])])
def nat_Read.B11 : List Nat := [0, 0, 2, 7, 15, 0, 0, 64, 192, 0, 960, 2016, 4064, 8160, 0, 16384, 49152, 131040, 262143, 524287, 1048575]
theorem nat_Read.tab11 : rtab .any (opsOf Try.f74 11) = nat_Read.T11 := by kernel_rfl
theorem nat_Read.bits11 : waitsOk nat_Read.T11.2 nat_Read.B11 = true := by kernel_rfl
set_option maxHeartbeats 8000000 in
set_option maxRecDepth 100000 in
theorem nat_Read.calls (k : Nat) (A0 : Option Addr) (c0 : Nat) (l0 : List Int) (r1 : List Int) (r2 : Int) (w : World) (hr0 : Kd.C (Kd.int .u8) w A0 l0.length l0) (hc0 : l0.length ≤ c0) (h : nat_Read.f k l0 = some (r1, r2)) :
  Calls Try.prog 74 #[.slice A0 l0.length c0] w fun e w' => ∃ v0_ : Value, e = .returned (.tuple #[v0_, .int .i64 r2]) ∧ Kd.R (Kd.int .u64) 47 w' w.heap.size (fun _ => True) v0_ r1 ∧ Below w.heap.size w w' := by
 have HR0 := Aside0.mk hr0; have HC0 := Aside0.mk hc0; clear hr0 hc0
 have HB := Aside0.mk (Below.refl w.heap.size w)
 have H : ((nat_Read_ix.f l0).bind fun t147 => (if t147 < 0 then (some (([] : List Int), 0)) else (if 0 ≤ t147 then (if t147 ≤ (l0.length : Int) then (if ((l0.drop (t147 : Int).toNat).length : Int) > 512 then (some (([] : List Int), 4)) else (if 0 ≤ (wrap64 (Int.tdiv (wrap64 (((l0.drop (t147 : Int).toNat).length : Int) + 7)) 8)) then (if (wrap64 (Int.tdiv (wrap64 (((l0.drop (t147 : Int).toNat).length : Int) + 7)) 8) : Int).toNat ≤ 35184372088832 then (nat_Read.l0 k (l0.drop (t147 : Int).toNat) (List.replicate (wrap64 (Int.tdiv (wrap64 (((l0.drop (t147 : Int).toNat).length : Int) + 7)) 8) : Int).toNat 0) ((l0.drop (t147 : Int).toNat).length : Int) 0) else (none)) else (none))) else (none)) else (none)))) = some (r1, r2) := h
 clear h
 replace H := ub H; obtain ⟨t147, A2, H⟩ := H
 by_cases c3 : t147 < 0
 ·
  rw [if_pos c3] at H
  have c3b0 : decide (t147 < 0) = true := decide_eq_true c3
  clear c3
  simp only [Option.some.injEq, Prod.mk.injEq] at H
  obtain ⟨rfl, rfl⟩ := H
  go_enter Try.func74, Try.ntmps74
  go_wp2_with (first | ((with_reducible refine gate_callee (f := 95) rfl ?_); refine goesL_ (some 8) rfl rfl Try.func95 (by kernel_rfl) rfl #[.slice A0 l0.length c0, .func (.func 96) #[] #[]] rfl uM ?_; (with_reducible refine (nat_Read_ix.calls _ _ l0 t147 _ ?side1 ?side2 A2.out).mono ?_); (case side1 => exact uC HR0.out); (case side2 => exact HC0.out); rintro e w' ⟨rfl, ⟨nd, rfl⟩⟩; refine ⟨_, rfl, ?_⟩))
  go_ret2
  exact ⟨_, by first | rfl | (simp [errW_none, errW_some] <;> rfl) | (simp [*, errW_none, errW_some] <;> rfl), by first | exact Kd.R_nil _ _ _ _ _ | exact Kd.N_nil _ _ _ _ _ | exact Kd.V_nil _ _ _ _ _ | exact Kd.Q_nil _ _ _ _ _ | exact Kd.S_nil _ _ _ _ _, uB⟩
 rw [if_neg c3] at H
 have c3b0 : decide (t147 < 0) = false := decide_eq_false c3
 clear c3
 replace H := uT H; obtain ⟨c4, H⟩ := H
 have c4b0 := eq_true c4
 have c4b1 : decide (0 ≤ t147) = true := decide_eq_true c4
 clear c4
 replace H := uT H; obtain ⟨c5, H⟩ := H
 have c5b0 := eq_true c5
 have c5b1 : decide (t147 ≤ (l0.length : Int)) = true := decide_eq_true c5
 clear c5
 by_cases c6 : ((l0.drop (t147 : Int).toNat).length : Int) > 512
 ·
  rw [if_pos c6] at H
  have c6b0 : decide (512 < ((l0.drop (t147 : Int).toNat).length : Int)) = true := decide_eq_true c6
  (try (have c6b0z := c6b0; simp only [List.length_drop, List.length_take] at c6b0z))
  have c6b1 : decide (512 < (l0.drop (t147 : Int).toNat).length) = true := decide_eq_true (by omega)
  (try (have c6b1z := c6b1; simp only [List.length_drop, List.length_take] at c6b1z))
  clear c6
  simp only [Option.some.injEq, Prod.mk.injEq] at H
  obtain ⟨rfl, rfl⟩ := H
  go_enter Try.func74, Try.ntmps74
  go_wp2_with (first | ((with_reducible refine gate_callee (f := 95) rfl ?_); refine goesL_ (some 8) rfl rfl Try.func95 (by kernel_rfl) rfl #[.slice A0 l0.length c0, .func (.func 96) #[] #[]] rfl uM ?_; (with_reducible refine (nat_Read_ix.calls _ _ l0 t147 _ ?side1 ?side2 A2.out).mono ?_); (case side1 => exact uC HR0.out); (case side2 => exact HC0.out); rintro e w' ⟨rfl, ⟨nd, rfl⟩⟩; refine ⟨_, rfl, ?_⟩; obtain ⟨i07, hi07, _, hsz7, _⟩ := info_parts info5; obtain ⟨A7, hcut7, hA7, hC7⟩ := print_drop_of (P := Try.prog) (Value.int .u8) 0 22 5 .i64 Try.underlying22 hi07 hsz7 A0 c0 l0 t147 uO uO HC0.out; have HR148 := Aside0.mk (Kd.C_of_reads (h1 := fun _ => rfl) (hA7 _ (Kd.reads_of_C HR0.out))); have HC148 := Aside0.mk hC7; clear hA7 hC7 hi07 hsz7))
  go_ret2
  exact ⟨_, by first | rfl | (simp [errW_none, errW_some] <;> rfl) | (simp [*, errW_none, errW_some] <;> rfl), by first | exact Kd.R_nil _ _ _ _ _ | exact Kd.N_nil _ _ _ _ _ | exact Kd.V_nil _ _ _ _ _ | exact Kd.Q_nil _ _ _ _ _ | exact Kd.S_nil _ _ _ _ _, uB⟩
 rw [if_neg c6] at H
 have c6b0 : decide (512 < ((l0.drop (t147 : Int).toNat).length : Int)) = false := decide_eq_false c6
 (try (have c6b0z := c6b0; simp only [List.length_drop, List.length_take] at c6b0z))
 have c6b1 : decide (512 < (l0.drop (t147 : Int).toNat).length) = false := decide_eq_false (by omega)
 (try (have c6b1z := c6b1; simp only [List.length_drop, List.length_take] at c6b1z))
 clear c6
 obtain ⟨ji8, hji8⟩ : ∃ j_ : Int, (wrap64 (Int.tdiv (wrap64 (((l0.drop (t147 : Int).toNat).length : Int) + 7)) 8)) = j_ := ⟨_, rfl⟩
 first | rw [hji8] at H | simp only [hji8] at H
 (try rw [hji8] at A2)
 have hji8w : (IntKind.i64.wrap (Int.tdiv (wrap64 (((l0.drop (t147 : Int).toNat).length : Int) + 7)) 8)) = ji8 := (i64_w _).trans hji8
 (try (have hji8z_ := hji8; simp only [List.length_drop, List.length_take] at hji8z_))
 (try (have hji8wz_ := hji8w; simp only [List.length_drop, List.length_take] at hji8wz_))
 replace H := uT H; obtain ⟨c9, H⟩ := H
 have c9b0 := eq_true c9
 have c9b1 : decide (0 ≤ (ji8)) = true := decide_eq_true c9
 clear c9
 replace H := uT H; obtain ⟨c10, H⟩ := H
 have c10b0 := eq_true c10
 have c10b1 : decide ((ji8 : Int).toNat ≤ 35184372088832) = true := decide_eq_true c10
 clear c10
 obtain ⟨y149, hy149⟩ : ∃ y_ : List Int, y_ = (List.replicate (ji8 : Int).toNat 0) := ⟨_, rfl⟩
 replace H : (nat_Read.l0 k (l0.drop (t147 : Int).toNat) y149 ((l0.drop (t147 : Int).toNat).length : Int) 0) = some (r1, r2) := by first | (rw [hy149]; with_reducible exact H) | (have H2_ := (Option.bind_some _ _).symm.trans H; rw [hy149]; with_reducible exact H2_) | (have H2_ := (Option.bind_some _ _).symm.trans H; with_reducible exact H2_) | with_reducible exact H | (rw [hy149]; exact H) | exact H
 have Ny149 := Aside0.mk hy149; clear hy149
 have H' := Aside0.mk H
 clear H
 go_enter Try.func74, Try.ntmps74
 go_wp2_with (first | ((with_reducible refine gate_callee (f := 95) rfl ?_); refine goesL_ (some 8) rfl rfl Try.func95 (by kernel_rfl) rfl #[.slice A0 l0.length c0, .func (.func 96) #[] #[]] rfl uM ?_; (with_reducible refine (nat_Read_ix.calls _ _ l0 t147 _ ?side1 ?side2 A2.out).mono ?_); (case side1 => exact uC HR0.out); (case side2 => exact HC0.out); rintro e w' ⟨rfl, ⟨nd, rfl⟩⟩; refine ⟨_, rfl, ?_⟩; obtain ⟨i011, hi011, _, hsz11, _⟩ := info_parts info5; obtain ⟨A11, hcut11, hA11, hC11⟩ := print_drop_of (P := Try.prog) (Value.int .u8) 0 22 5 .i64 Try.underlying22 hi011 hsz11 A0 c0 l0 t147 uO uO HC0.out; have HR148 := Aside0.mk (Kd.C_of_reads (h1 := fun _ => rfl) (hA11 _ (Kd.reads_of_C HR0.out))); have HC148 := Aside0.mk hC11; clear hA11 hC11 hi011 hsz11) | ((with_reducible refine gate_dst (N := 21) rfl ?_); refine Kd.R_make (Kd.int .u64) _ 47 rfl (N := 21) rfl 29 _ _ rfl ji8 rfl rfl Try.underlying29 (.int .u64 0) 8 info47 rfl (by decide) (by omega) 0 (ok := fun _ => True) (okp := fun _ => True) rfl (fun _ hk => hk) trivial uO (Nat.le_trans (Nat.mul_le_mul_right _ (uO : ji8.toNat ≤ 35184372088832)) (by omega)) (Below.refl _ _) (Nat.le_refl _) ?_; intro v150 w12 ho13 hb hg_ hnew_; clear hg_ hnew_; (first | rw [← Ny149.out] at ho13 | (simp only [Int.reduceToNat] at ho13; rw [← Ny149.out] at ho13)); have HO151 := Aside0.mk (Kd.R_lower ho13 (below_size uB)); replace HB := uy hb; clear hb ho13))
 go_loopg [24] k (fun kq v24 w' => ∃ (x5_1 : List Int) (x24_1 : Int), v24 = .int .i64 x24_1 ∧ Aside0 (nat_Read.l0 kq (l0.drop (t147 : Int).toNat) x5_1 ((l0.drop (t147 : Int).toNat).length : Int) x24_1 = some (r1, r2)) ∧ Aside0 (kq ≤ k) ∧ Aside0 (Kd.R (Kd.int .u64) 47 w' w.heap.size (fun _ => True) v150 x5_1) ∧ Aside0 (Below w.heap.size w w'))
 case atStart => exact ⟨(y149), (0), uG, H', ⟨Nat.le_refl _⟩, ⟨uR HO151.out⟩, ⟨uB⟩⟩
 case round =>
  clear H'
  (try clear c1); (try clear p2); (try clear c3); (try clear c3b0); (try clear c4); (try clear c4b0); (try clear c4b1); (try clear c5); (try clear c5b0); (try clear c5b1); (try clear c6); (try clear c6b0); (try clear c6b1); (try clear p6); (try clear c7); (try clear c9); (try clear c9b0); (try clear c9b1); (try clear c10); (try clear c10b0); (try clear c10b1)
  obtain ⟨x5_1, x24_1, rfl, HA, HK1, HO_5, HB⟩ := hrel
  cases gk with
  | zero => exact absurd HA.out (by simp [nat_Read.l0])
  | succ k1 =>
   have H := HA.out
   clear HA
   simp only [nat_Read.l0] at H
   by_cases c14 : x24_1 < ((l0.drop (t147 : Int).toNat).length : Int)
   ·
    rw [if_pos c14] at H
    have c14b0 : decide (x24_1 < ((l0.drop (t147 : Int).toNat).length : Int)) = true := decide_eq_true c14
    (try (have c14b0z := c14b0; simp only [List.length_drop, List.length_take] at c14b0z))
    clear c14
    obtain ⟨ji15, hji15⟩ : ∃ j_ : Int, (wrap64 (Int.tdiv x24_1 8)) = j_ := ⟨_, rfl⟩
    first | rw [hji15] at H | simp only [hji15] at H
    have hji15w : (IntKind.i64.wrap (Int.tdiv x24_1 8)) = ji15 := (i64_w _).trans hji15
    replace H := uT H; obtain ⟨c16, H⟩ := H
    have c16b0 : decide (0 ≤ (ji15)) = true := decide_eq_true c16
    clear c16
    replace H := uT H; obtain ⟨c17, H⟩ := H
    have c17b0 : decide ((ji15) < (x5_1.length : Int)) = true := decide_eq_true c17
    clear c17
    obtain ⟨ji18, hji18⟩ : ∃ j_ : Int, (wrap64 ((wrap64 (((l0.drop (t147 : Int).toNat).length : Int) - 1)) - x24_1)) = j_ := ⟨_, rfl⟩
    first | rw [hji18] at H | simp only [hji18] at H
    have hji18w : (IntKind.i64.wrap ((wrap64 (((l0.drop (t147 : Int).toNat).length : Int) - 1)) - x24_1)) = ji18 := (i64_w _).trans hji18
    (try (have hji18z_ := hji18; simp only [List.length_drop, List.length_take] at hji18z_))
    (try (have hji18wz_ := hji18w; simp only [List.length_drop, List.length_take] at hji18wz_))
    replace H := uT H; obtain ⟨c19, H⟩ := H
    have c19b0 : decide (0 ≤ (ji18)) = true := decide_eq_true c19
    clear c19
    replace H := uT H; obtain ⟨c20, H⟩ := H
    have c20b0 : decide ((ji18) < ((l0.drop (t147 : Int).toNat).length : Int)) = true := decide_eq_true c20
    (try (have c20b0z := c20b0; simp only [List.length_drop, List.length_take] at c20b0z))
    clear c20
    obtain ⟨ji21, hji21⟩ : ∃ j_ : Int, (wrap64 (8 * (Int.tmod x24_1 8))) = j_ := ⟨_, rfl⟩
    first | rw [hji21] at H | simp only [hji21] at H
    have hji21w : (IntKind.i64.wrap (8 * (Int.tmod x24_1 8))) = ji21 := (i64_w _).trans hji21
    replace H := uT H; obtain ⟨c22, H⟩ := H
    have c22b0 := eq_true c22
    have c22b1 : decide (0 ≤ (ji21)) = true := decide_eq_true c22
    clear c22
    obtain ⟨ji23, hji23⟩ : ∃ j_ : Int, (shl .u64 (IntKind.u64.wrap (rd (l0.drop (t147 : Int).toNat) (ji18))) (ji21)) = j_ := ⟨_, rfl⟩
    first | rw [hji23] at H | simp only [hji23] at H
    have hji23_ : (IntKind.u64.wrap ((IntKind.u64.wrap (rd (l0.drop (t147 : Int).toNat) (ji18))) * 2 ^ min (ji21).toNat 64)) = ji23 := hji23
    have hji23z : (ji21) ≤ 64 → (IntKind.u64.wrap ((IntKind.u64.wrap (rd (l0.drop (t147 : Int).toNat) (ji18))) * 2 ^ (ji21).toNat)) = ji23 := shl_small hji23
    obtain ⟨y154, hy154⟩ : ∃ y_ : List Int, y_ = (x5_1.set ((ji15) : Int).toNat (Go.bits .or .u64 (rd x5_1 (ji15)) (ji23))) := ⟨_, rfl⟩
    replace H : (nat_Read.l0 k1 (l0.drop (t147 : Int).toNat) y154 ((l0.drop (t147 : Int).toNat).length : Int) (wrap64 (x24_1 + 1))) = some (r1, r2) := by first | (rw [hy154]; with_reducible exact H) | (have H2_ := (Option.bind_some _ _).symm.trans H; rw [hy154]; with_reducible exact H2_) | (have H2_ := (Option.bind_some _ _).symm.trans H; with_reducible exact H2_) | with_reducible exact H | (rw [hy154]; exact H) | exact H
    have Ny154 := Aside0.mk hy154; clear hy154
    have H' := Aside0.mk H
    clear H
    try go_wp2
    replace HO_5 := Aside0.mk (Kd.R_drew HO_5.out); replace HB := Aside0.mk (below_drew1 HB.out)
    obtain ⟨Ao26, co26, eo26⟩ := Kd.R_slice HO_5.out
    (first | subst eo26 | (injection eo26 with f1_ f2_ f3_; have f4_ := f1_.symm; have f5_ := f3_.symm; clear f1_ f2_ f3_; subst f4_; subst f5_))
    have p152 : 0 ≤ ((ji15) : Int) := uO
    have q152 : (ji15) < (x5_1.length : Int) := uO
    obtain ⟨ad152, e152, hx152_0⟩ := Kd.at_int (Kd.R_reads' HO_5.out).2.2 (ji15) p152 q152
    cases e152
    replace p152 := eq_true p152
    replace q152 := eq_true q152
    have p153 : 0 ≤ ((ji18) : Int) := uO
    have q153 : (ji18) < ((l0.drop (t147 : Int).toNat).length : Int) := uO
    obtain ⟨ad153, e153, hx153_0⟩ := Kd.at_int HR148.out (ji18) p153 q153
    have hw153_0 := hx153_0
    cases e153
    replace hx153_0 := (HB.out.cell (World.block_lt_of_cell? w _ hx153_0)).trans hx153_0
    replace p153 := eq_true p153
    replace q153 := eq_true q153
    (try (have q153z := q153; simp only [List.length_drop, List.length_take] at q153z))
    have p24 : 0 ≤ ((ji15) : Int) := uO
    have q24 : ((ji15) : Int) < ((x5_1.length : Int) : Int) := uO
    obtain ⟨go24, co24, eo24, gb24, gl24, cl24, HG24⟩ := Kd.R_form HO_5.out (by omega)
    (first | cases eo24 | (injection eo24 with ea_ en_ ec_; (first | subst ea_ | (injection ea_ with ea_; subst ea_)); subst ec_; clear en_))
    have GB24 := Aside0.mk gb24; have GG24 := Aside0.mk HG24; clear gb24 gl24 HG24
    (first | simp only [add_plain] at hx152_0 | skip)
    obtain ⟨hx24_0, hf24_0⟩ := Kd.R_celln 0 HO_5.out ((ji15) : Int) p24 q24
    replace p24 := eq_true p24
    replace q24 := eq_true q24
    have HP27 := Kd.R_putn HO_5.out ((ji15) : Int) (Go.bits .or .u64 (rd x5_1 (ji15)) (ji23))
    rw [← Ny154.out] at HP27
    have HQ27 := Aside0.mk HP27; clear HP27
    refine start_ (n := 21) (S := fun w' => w'.cell? ⟨go24, ((ji15)).toNat, none⟩ = some (.int .u64 (rd x5_1 (ji15))) ∧ w'.cell? (ad153.add ((ji18)).toNat) = some (.int .u8 (rd (l0.drop (t147 : Int).toNat) (ji18)))) (ds := [20]) #[false,false,false,false,false,false,false,false,false,false,false,false,false,false,false,false,false,false,false,false,false] (by kernel_rfl) rfl rfl ⟨hx152_0, ((HB.out.cell (World.block_lt_of_cell? w _ hw153_0)).trans hw153_0)⟩ (fun hHeld => ?_); refine with_tabW nat_Read.tab11 nat_Read.bits11 (fun HT_ HW_ => ?_)
    generalize wr.drew = w25 at HO_5 HB GG24 HQ27 hf24_0 hx152_0 hx153_0 hx24_0 hHeld ⊢
    refine pure_ (i := 0) (N := some 27) (v := ?_) (a' := ?_) #[true,false,false,false,false,false,false,false,false,false,false,false,false,false,false,false,false,false,false,false,false] rfl rfl (any_of HT_.out (by kernel_rfl)) (fun _ _ _ h => h) (Or.inl ⟨by rfl, ?_⟩) ?_ ?_
    rotate_left
    ·
     intro w'
     go_simp
     with_reducible rfl
    rotate_left
    · exact uQ
    refine pure_ (i := 1) (N := some 28) (v := ?_) (a' := ?_) #[true,true,false,false,false,false,false,false,false,false,false,false,false,false,false,false,false,false,false,false,false] rfl rfl (any_of HT_.out (by kernel_rfl)) (fun _ _ _ h => h) (Or.inl ⟨by rfl, ?_⟩) ?_ ?_
    rotate_left
    ·
     intro w'
     go_simp
     with_reducible rfl
    rotate_left
    · exact uQ
    refine pure_ (i := 2) (N := some 29) (v := ?_) (a' := ?_) #[true,true,true,false,false,false,false,false,false,false,false,false,false,false,false,false,false,false,false,false,false] rfl rfl (any_of HT_.out (by kernel_rfl)) (fun _ _ _ h => h) (Or.inl ⟨by rfl, ?_⟩) ?_ ?_
    rotate_left
    ·
     intro w'
     go_simp
     with_reducible rfl
    rotate_left
    · exact uQ
    refine pure_ (i := 3) (N := some 30) (v := ?_) (a' := ?_) #[true,true,true,true,false,false,false,false,false,false,false,false,false,false,false,false,false,false,false,false,false] rfl rfl (any_of HT_.out (by kernel_rfl)) (fun _ _ _ h => h) (Or.inl ⟨by rfl, ?_⟩) ?_ ?_
    rotate_left
    ·
     intro w'
     go_simp
     with_reducible rfl
    rotate_left
    · exact uQ
    refine pure_ (i := 5) (N := some 32) (v := ?_) (a' := ?_) #[true,true,true,true,false,true,false,false,false,false,false,false,false,false,false,false,false,false,false,false,false] rfl rfl (any_of HT_.out (by kernel_rfl)) (fun _ _ _ h => h) (Or.inl ⟨by rfl, ?_⟩) ?_ ?_
    rotate_left
    ·
     intro w'
     go_simp
     with_reducible rfl
    rotate_left
    · exact uQ
    refine pure_ (i := 6) (N := some 33) (v := ?_) (a' := ?_) #[true,true,true,true,false,true,true,false,false,false,false,false,false,false,false,false,false,false,false,false,false] rfl rfl (any_of HT_.out (by kernel_rfl)) (fun _ _ _ h => h) (Or.inl ⟨by rfl, ?_⟩) ?_ ?_
    rotate_left
    ·
     intro w'
     go_simp
     with_reducible rfl
    rotate_left
    · exact uQ
    refine pure_ (i := 7) (N := some 34) (v := ?_) (a' := ?_) #[true,true,true,true,false,true,true,true,false,false,false,false,false,false,false,false,false,false,false,false,false] rfl rfl (any_of HT_.out (by kernel_rfl)) (fun _ _ _ h => h) (Or.inl ⟨by rfl, ?_⟩) ?_ ?_
    rotate_left
    ·
     intro w'
     go_simp
     with_reducible rfl
    rotate_left
    · exact uQ
    refine pure_ (i := 8) (N := some 35) (v := ?_) (a' := ?_) #[true,true,true,true,false,true,true,true,true,false,false,false,false,false,false,false,false,false,false,false,false] rfl rfl (any_of HT_.out (by kernel_rfl)) (fun _ _ _ h => h) (Or.inl ⟨by rfl, ?_⟩) ?_ ?_
    rotate_left
    ·
     intro w'
     go_simp
     with_reducible rfl
    rotate_left
    · exact uQ
    refine pure_ (i := 9) (N := some 36) (v := ?_) (a' := ?_) #[true,true,true,true,false,true,true,true,true,true,false,false,false,false,false,false,false,false,false,false,false] rfl rfl (any_of HT_.out (by kernel_rfl)) (fun _ _ _ h => h) (Or.inl ⟨by rfl, ?_⟩) ?_ ?_
    rotate_left
    ·
     intro w'
     go_simp
     with_reducible rfl
    rotate_left
    · exact uQ
    refine pure_ (i := 10) (N := some 37) (v := ?_) (a' := ?_) #[true,true,true,true,false,true,true,true,true,true,true,false,false,false,false,false,false,false,false,false,false] rfl rfl (any_of HT_.out (by kernel_rfl)) (fun _ _ _ h => h) (Or.inl ⟨by rfl, ?_⟩) ?_ ?_
    rotate_left
    ·
     intro w'
     go_simp
     with_reducible rfl
    rotate_left
    · exact uQ
    refine pure_ (i := 11) (N := some 38) (v := ?_) (a' := ?_) #[true,true,true,true,false,true,true,true,true,true,true,true,false,false,false,false,false,false,false,false,false] rfl rfl (any_of HT_.out (by kernel_rfl)) (fun _ _ _ h => h) (Or.inl ⟨by rfl, ?_⟩) ?_ ?_
    rotate_left
    ·
     intro w'
     go_simp
     with_reducible rfl
    rotate_left
    · exact uQ
    refine pure_ (i := 14) (N := some 41) (v := ?_) (a' := ?_) #[true,true,true,true,false,true,true,true,true,true,true,true,false,false,true,false,false,false,false,false,false] rfl rfl (any_of HT_.out (by kernel_rfl)) (fun _ _ _ h => h) (Or.inl ⟨by rfl, ?_⟩) ?_ ?_
    rotate_left
    ·
     intro w'
     go_simp
     with_reducible rfl
    rotate_left
    · exact uQ
    refine pure_ (i := 15) (N := some 42) (v := ?_) (a' := ?_) #[true,true,true,true,false,true,true,true,true,true,true,true,false,false,true,true,false,false,false,false,false] rfl rfl (any_of HT_.out (by kernel_rfl)) (fun _ _ _ h => h) (Or.inl ⟨by rfl, ?_⟩) ?_ ?_
    rotate_left
    ·
     intro w'
     go_simp
     with_reducible rfl
    rotate_left
    · exact uQ
    refine pure_ (i := 16) (N := some 43) (v := ?_) (a' := ?_) #[true,true,true,true,false,true,true,true,true,true,true,true,false,false,true,true,true,false,false,false,false] rfl rfl (any_of HT_.out (by kernel_rfl)) (fun _ _ _ h => h) (Or.inl ⟨by rfl, ?_⟩) ?_ ?_
    rotate_left
    ·
     intro w'
     go_simp
     with_reducible rfl
    rotate_left
    · exact uQ
    refine take_ (i := 4) (N := some 31) (v := ?_) (a' := ?_) #[true,true,true,true,true,true,true,true,true,true,true,true,false,false,true,true,true,false,false,false,false] rfl rfl (take_ofW HT_.out HW_.out (by kernel_rfl)) (fun _ _ _ h => h) (Or.inl ⟨by rfl, ?_⟩) hHeld ?_ ?_
    rotate_left
    ·
     rintro w' ⟨s0, s1⟩
     go_simp
     with_reducible rfl
    rotate_left
    · exact uQ
    refine take_ (i := 12) (N := some 39) (v := ?_) (a' := ?_) #[true,true,true,true,true,true,true,true,true,true,true,true,true,false,true,true,true,false,false,false,false] rfl rfl (take_ofW HT_.out HW_.out (by kernel_rfl)) (fun _ _ _ h => h) (Or.inl ⟨by rfl, ?_⟩) hHeld ?_ ?_
    rotate_left
    ·
     rintro w' ⟨s0, s1⟩
     go_simp
     with_reducible rfl
    rotate_left
    · exact uQ
    refine pure_ (i := 13) (N := some 40) (v := ?_) (a' := ?_) #[true,true,true,true,true,true,true,true,true,true,true,true,true,true,true,true,true,false,false,false,false] rfl rfl (any_of HT_.out (by kernel_rfl)) (fun _ _ _ h => h) (Or.inl ⟨by rfl, ?_⟩) ?_ ?_
    rotate_left
    ·
     intro w'
     go_simp
     with_reducible rfl
    rotate_left
    · exact uQ
    refine pure_ (i := 17) (N := some 44) (v := ?_) (a' := ?_) #[true,true,true,true,true,true,true,true,true,true,true,true,true,true,true,true,true,true,false,false,false] rfl rfl (any_of HT_.out (by kernel_rfl)) (fun _ _ _ h => h) (Or.inl ⟨by rfl, ?_⟩) ?_ ?_
    rotate_left
    ·
     intro w'
     go_simp
     with_reducible rfl
    rotate_left
    · exact uQ
    refine pure_ (i := 18) (N := some 45) (v := ?_) (a' := ?_) #[true,true,true,true,true,true,true,true,true,true,true,true,true,true,true,true,true,true,true,false,false] rfl rfl (any_of HT_.out (by kernel_rfl)) (fun _ _ _ h => h) (Or.inl ⟨by rfl, ?_⟩) ?_ ?_
    rotate_left
    ·
     intro w'
     go_simp
     with_reducible rfl
    rotate_left
    · exact uQ
    refine pure_ (i := 19) (N := some 46) (v := ?_) (a' := ?_) #[true,true,true,true,true,true,true,true,true,true,true,true,true,true,true,true,true,true,true,true,false] rfl rfl (any_of HT_.out (by kernel_rfl)) (fun _ _ _ h => h) (Or.inl ⟨by rfl, ?_⟩) ?_ ?_
    rotate_left
    ·
     intro w'
     go_simp
     with_reducible rfl
    rotate_left
    · exact uQ
    refine last_ (i := 20) (N := none) #[true,true,true,true,true,true,true,true,true,true,true,true,true,true,true,true,true,true,true,true,true] rfl rfl (one_of HT_.out (by kernel_rfl)) (by decide) (fun K hK => ?_)
    refine skip_ (w1 := ?_) (by rfl) rfl ?_ ?_
    rotate_left
    ·
     go_simp
     rfl
    refine hK.out _ _ ?_; clear hK K
    refine done_ (done_of HT_.out (by kernel_rfl)) ?_
    try go_wp2
    first | go_roundg k1 | ((try simp only [← hji23] at H'); simp only [← hji23]; go_roundg k1) | ((try simp only [← hji21] at H'); simp only [← hji21]; go_roundg k1) | ((try simp only [← hji18] at H'); simp only [← hji18]; go_roundg k1) | ((try simp only [← hji15] at H'); simp only [← hji15]; go_roundg k1) | ((try simp only [← hji8] at H'); simp only [← hji8]; go_roundg k1)
    case measure => have := HK1.out; omega
    case rel => first | exact ⟨(y154), (wrap64 (x24_1 + 1)), uG, H', ⟨by have := HK1.out; omega⟩, ⟨uR HQ27.out⟩, ⟨uB⟩⟩ | (simp only [← hji23] at H'; exact ⟨(y154), (wrap64 (x24_1 + 1)), uG, H', ⟨by have := HK1.out; omega⟩, ⟨uR HQ27.out⟩, ⟨uB⟩⟩) | (simp only [← hji21] at H'; exact ⟨(y154), (wrap64 (x24_1 + 1)), uG, H', ⟨by have := HK1.out; omega⟩, ⟨uR HQ27.out⟩, ⟨uB⟩⟩) | (simp only [← hji18] at H'; exact ⟨(y154), (wrap64 (x24_1 + 1)), uG, H', ⟨by have := HK1.out; omega⟩, ⟨uR HQ27.out⟩, ⟨uB⟩⟩) | (simp only [← hji15] at H'; exact ⟨(y154), (wrap64 (x24_1 + 1)), uG, H', ⟨by have := HK1.out; omega⟩, ⟨uR HQ27.out⟩, ⟨uB⟩⟩) | (simp only [← hji8] at H'; exact ⟨(y154), (wrap64 (x24_1 + 1)), uG, H', ⟨by have := HK1.out; omega⟩, ⟨uR HQ27.out⟩, ⟨uB⟩⟩)
   rw [if_neg c14] at H
   have c14b0 : decide (x24_1 < ((l0.drop (t147 : Int).toNat).length : Int)) = false := decide_eq_false c14
   (try (have c14b0z := c14b0; simp only [List.length_drop, List.length_take] at c14b0z))
   clear c14
   replace H := ub H; obtain ⟨⟨t155, t158⟩, A28, H⟩ := H
   (try dsimp only at H)
   simp only [Option.some.injEq, Prod.mk.injEq] at H
   obtain ⟨rfl, rfl⟩ := H
   obtain ⟨Ao29, co29, eo29⟩ := Kd.R_slice HO_5.out
   subst eo29
   go_wp2_with (first | ((with_reducible refine gate_callee (f := 72) rfl ?_); refine goesL_ (some 49) rfl rfl Try.func72 (by kernel_rfl) rfl #[.slice Ao29 x5_1.length co29] rfl uM ?_; (with_reducible refine (nat_told.calls k1 (fun k_ => some k_ = (.slice Ao29 x5_1.length co29 : Value).ownBlock) (.slice Ao29 x5_1.length co29) x5_1 t155 t158 w _ ?side1 ?side2 A28.out).mono ?_); (case side1 => repeat (first | (with_reducible first | exact HB.out | apply below_alloc | apply pw_below_drewN | apply below_drew1) | exact HB.out)); (case side2 => exact Kd.R_tight rfl HO_5.out); rintro e w30 ⟨v156, rfl, ho0, hb, hkp⟩; refine ⟨_, rfl, ?_⟩; have HO157 := Aside0.mk (Kd.R_mono (ok' := fun k_ => True) ho0 (fun k_ hk_ => trivial)); replace HB := Aside0.mk (hb); clear HO_5; (try clear hb); (try clear hkp); (try clear ho0)))
   go_ret2
   exact ⟨_, by first | rfl | (simp [errW_none, errW_some] <;> rfl) | (simp only [← hji8]; first | rfl | (simp [errW_none, errW_some] <;> rfl)) | (simp [*, errW_none, errW_some] <;> rfl), uR HO157.out, uB⟩
def nat_Cmp.f (k : Nat) (l0 : List Int) (l1 : List Int) : Option (Int) := (nat_right.f (([l0, l1] : List (List Int)))).bind fun t145 => (if t145 = true then ((nat_compare.f k l0 l1).bind fun t146 => (some t146)) else (some 0))
set_option maxHeartbeats 8000000 in
set_option maxRecDepth 100000 in
theorem nat_Cmp.calls (k : Nat) (P0_ : Nat → Prop) (A0 : Option Addr) (c0 : Nat) (l0 : List Int) (P1_ : Nat → Prop) (A1 : Option Addr) (c1 : Nat) (l1 : List Int) (r : Int) (w : World) (hs0 : Kd.V (Kd.int .u64) 47 w w.heap.size (fun k_ => P0_ k_) (.slice A0 l0.length c0) l0) (hs1 : Kd.V (Kd.int .u64) 47 w w.heap.size (fun k_ => P1_ k_) (.slice A1 l1.length c1) l1) (h : nat_Cmp.f k l0 l1 = some r) :
  Calls Try.prog 64 #[.slice A0 l0.length c0, .slice A1 l1.length c1] w fun e w' => e = .returned (.int .i64 r) ∧ Below w.heap.size w w' := by
 have HO0 := Aside0.mk (show Kd.V (Kd.int .u64) 47 w w.heap.size (fun k_ => ((P0_ k_ ∨ P1_ k_) ∨ w.heap.size ≤ k_)) (.slice A0 l0.length c0) l0 from Kd.V_mono hs0 (fun k_ hk => .inl (.inl hk)))
 have HO1 := Aside0.mk (show Kd.V (Kd.int .u64) 47 w w.heap.size (fun k_ => ((P0_ k_ ∨ P1_ k_) ∨ w.heap.size ≤ k_)) (.slice A1 l1.length c1) l1 from Kd.V_mono hs1 (fun k_ hk => .inl (.inr hk)))
 have HB := Aside0.mk (Below.refl w.heap.size w)
 have H : ((nat_right.f (([l0, l1] : List (List Int)))).bind fun t145 => (if t145 = true then ((nat_compare.f k l0 l1).bind fun t146 => (some t146)) else (some 0))) = some r := h
 clear h
 obtain ⟨y142, hy142⟩ : ∃ y_ : List (List Int), y_ = (([l0, l1] : List (List Int))) := ⟨_, rfl⟩
 replace H : ((nat_right.f y142).bind fun t145 => (if t145 = true then ((nat_compare.f k l0 l1).bind fun t146 => (some t146)) else (some 0))) = some r := by first | (rw [hy142]; with_reducible exact H) | (have H2_ := (Option.bind_some _ _).symm.trans H; rw [hy142]; with_reducible exact H2_) | (have H2_ := (Option.bind_some _ _).symm.trans H; with_reducible exact H2_) | with_reducible exact H | (rw [hy142]; exact H) | exact H
 have Ny142 := Aside0.mk hy142; clear hy142
 replace H := ub H; obtain ⟨t145, A3, H⟩ := H
 by_cases c4 : t145 = true
 ·
  subst c4
  have H1 : ((nat_compare.f k l0 l1).bind fun t146 => (some t146)) = some r := by rw [if_pos rfl] at H; exact H
  clear H; have H := H1; clear H1
  replace H := ub H; obtain ⟨t146, A5, H⟩ := H
  obtain rfl := Option.some.inj H
  go_enter Try.func64, Try.ntmps64
  go_wp2_with (first | ((with_reducible refine gate_dst (N := 7) rfl ?_); refine Kd.N_lit (Kd.slice 47 (Kd.int .u64)) _ 29 ?hg (N' := 7) ?hd (xs := ([l0, l1] : List (List Int))) (inner := [.slice A0 l0.length c0, .slice A1 l1.length c1]) (ok := (fun k_ => ((P0_ k_ ∨ P1_ k_) ∨ w.heap.size ≤ k_))) (okp := (fun k_ => ((P0_ k_ ∨ P1_ k_) ∨ w.heap.size ≤ k_))) ?hr ?hp (fun _ hk => hk) ((show ∀ k_, w.heap.size ≤ k_ → (fun k_ => ((P0_ k_ ∨ P1_ k_) ∨ w.heap.size ≤ k_)) k_ from fun k_ hk => (.inr (Nat.le_trans (below_size uB) hk))) _ (Nat.le_refl _)) (Below.refl _ _) (Nat.le_refl _) (by simp) ?_; (case hd => rfl); (case hg => rfl); (case hr => first | (go_simp; done) | (go_simp; rfl) | (go_simp; simp only [u64_u8]; done) | (go_simp; simp only [u64_u8]; rfl)); (case hp => exact (Reps.one (show Kd.FK (Kd.slice 47 (Kd.int .u64)) _ _ l0 [.slice A0 l0.length c0] from (Kd.FK_slice_mk (Kd.V_reads' (Kd.V_mono (ok' := (fun k_ => ((P0_ k_ ∨ P1_ k_) ∨ w.heap.size ≤ k_))) (HO0.out) (fun k_ hk => hk))).2.1 (Kd.V_F (Kd.V_mono (ok' := (fun k_ => ((P0_ k_ ∨ P1_ k_) ∨ w.heap.size ≤ k_))) (HO0.out) (fun k_ hk => hk))))) (Reps.one (show Kd.FK (Kd.slice 47 (Kd.int .u64)) _ _ l1 [.slice A1 l1.length c1] from (Kd.FK_slice_mk (Kd.V_reads' (Kd.V_mono (ok' := (fun k_ => ((P0_ k_ ∨ P1_ k_) ∨ w.heap.size ≤ k_))) (HO1.out) (fun k_ hk => hk))).2.1 (Kd.V_F (Kd.V_mono (ok' := (fun k_ => ((P0_ k_ ∨ P1_ k_) ∨ w.heap.size ≤ k_))) (HO1.out) (fun k_ hk => hk))))) (Reps.none _ _)))); intro v143 w6 ho7 hb hg_ hnew_; clear hg_ hnew_; (first | rw [← Ny142.out] at ho7 | (simp only [Int.reduceToNat] at ho7; rw [← Ny142.out] at ho7)); replace HO0 := Aside0.mk (Kd.V_elder' (uV HO0.out) (Kd.N_base ho7) hb); replace HO1 := Aside0.mk (Kd.V_elder' (uV HO1.out) (Kd.N_base ho7) hb); have HO144 := Aside0.mk (Kd.N_lower ho7 (below_size uB)); replace HB := uy hb; clear hb ho7; obtain ⟨Ao8, co8, eo8⟩ := Kd.N_slice HO144.out; subst eo8) | ((with_reducible refine gate_callee (f := 70) rfl ?_); refine goesL_ (some 8) rfl rfl Try.func70 (by kernel_rfl) rfl #[.slice Ao8 y142.length co8] rfl uM ?_; (with_reducible refine (nat_right.calls _ _ y142 true _ ?side1 ?side2 A3.out).mono ?_); (case side1 => exact uC (Kd.N_reads' HO144.out).2.2); (case side2 => exact (Kd.N_reads' HO144.out).2.1); rintro e w' ⟨rfl, ⟨nd, rfl⟩⟩; refine ⟨_, rfl, ?_⟩) | ((with_reducible refine gate_callee (f := 71) rfl ?_); refine goesL_ (some 12) rfl rfl Try.func71 (by kernel_rfl) rfl #[.slice A0 l0.length c0, .slice A1 l1.length c1] rfl uM ?_; (with_reducible refine (nat_compare.calls k _ _ l0 _ _ l1 t146 _ ?side1 ?side2 ?side3 ?side4 A5.out).mono ?_); (case side1 => exact uC (Kd.V_reads' HO0.out).2.2); (case side2 => exact (Kd.V_reads' HO0.out).2.1); (case side3 => exact uC (Kd.V_reads' HO1.out).2.2); (case side4 => exact (Kd.V_reads' HO1.out).2.1); rintro e w' ⟨rfl, ⟨nd, rfl⟩⟩; refine ⟨_, rfl, ?_⟩))
  go_ret
  exact ⟨uF, uB⟩
 replace c4 := Bool.eq_false_iff.mpr c4
 subst c4
 have H1 : (some 0) = some r := by rw [if_neg (show ¬ (false = true) by decide)] at H; exact H
 clear H; have H := H1; clear H1
 obtain rfl := Option.some.inj H
 go_enter Try.func64, Try.ntmps64
 go_wp2_with (first | ((with_reducible refine gate_dst (N := 7) rfl ?_); refine Kd.N_lit (Kd.slice 47 (Kd.int .u64)) _ 29 ?hg (N' := 7) ?hd (xs := ([l0, l1] : List (List Int))) (inner := [.slice A0 l0.length c0, .slice A1 l1.length c1]) (ok := (fun k_ => ((P0_ k_ ∨ P1_ k_) ∨ w.heap.size ≤ k_))) (okp := (fun k_ => ((P0_ k_ ∨ P1_ k_) ∨ w.heap.size ≤ k_))) ?hr ?hp (fun _ hk => hk) ((show ∀ k_, w.heap.size ≤ k_ → (fun k_ => ((P0_ k_ ∨ P1_ k_) ∨ w.heap.size ≤ k_)) k_ from fun k_ hk => (.inr (Nat.le_trans (below_size uB) hk))) _ (Nat.le_refl _)) (Below.refl _ _) (Nat.le_refl _) (by simp) ?_; (case hd => rfl); (case hg => rfl); (case hr => first | (go_simp; done) | (go_simp; rfl) | (go_simp; simp only [u64_u8]; done) | (go_simp; simp only [u64_u8]; rfl)); (case hp => exact (Reps.one (show Kd.FK (Kd.slice 47 (Kd.int .u64)) _ _ l0 [.slice A0 l0.length c0] from (Kd.FK_slice_mk (Kd.V_reads' (Kd.V_mono (ok' := (fun k_ => ((P0_ k_ ∨ P1_ k_) ∨ w.heap.size ≤ k_))) (HO0.out) (fun k_ hk => hk))).2.1 (Kd.V_F (Kd.V_mono (ok' := (fun k_ => ((P0_ k_ ∨ P1_ k_) ∨ w.heap.size ≤ k_))) (HO0.out) (fun k_ hk => hk))))) (Reps.one (show Kd.FK (Kd.slice 47 (Kd.int .u64)) _ _ l1 [.slice A1 l1.length c1] from (Kd.FK_slice_mk (Kd.V_reads' (Kd.V_mono (ok' := (fun k_ => ((P0_ k_ ∨ P1_ k_) ∨ w.heap.size ≤ k_))) (HO1.out) (fun k_ hk => hk))).2.1 (Kd.V_F (Kd.V_mono (ok' := (fun k_ => ((P0_ k_ ∨ P1_ k_) ∨ w.heap.size ≤ k_))) (HO1.out) (fun k_ hk => hk))))) (Reps.none _ _)))); intro v143 w9 ho10 hb hg_ hnew_; clear hg_ hnew_; (first | rw [← Ny142.out] at ho10 | (simp only [Int.reduceToNat] at ho10; rw [← Ny142.out] at ho10)); replace HO0 := Aside0.mk (Kd.V_elder' (uV HO0.out) (Kd.N_base ho10) hb); replace HO1 := Aside0.mk (Kd.V_elder' (uV HO1.out) (Kd.N_base ho10) hb); have HO144 := Aside0.mk (Kd.N_lower ho10 (below_size uB)); replace HB := uy hb; clear hb ho10; obtain ⟨Ao11, co11, eo11⟩ := Kd.N_slice HO144.out; subst eo11) | ((with_reducible refine gate_callee (f := 70) rfl ?_); refine goesL_ (some 8) rfl rfl Try.func70 (by kernel_rfl) rfl #[.slice Ao11 y142.length co11] rfl uM ?_; (with_reducible refine (nat_right.calls _ _ y142 false _ ?side1 ?side2 A3.out).mono ?_); (case side1 => exact uC (Kd.N_reads' HO144.out).2.2); (case side2 => exact (Kd.N_reads' HO144.out).2.1); rintro e w' ⟨rfl, ⟨nd, rfl⟩⟩; refine ⟨_, rfl, ?_⟩))
 go_ret
 exact ⟨uF, uB⟩
end Go.Proofs.Ytlkinjhmgljapab.F
end
section
namespace Go.Proofs.Ytlkinjhmgljapab.F
open Go.RowKit Go.Proofs.YtlkinjhmgljapabW.PrintWords Go.Proofs.YtlkinjhmgljapabW.PrintLast Go.Proofs.YtlkinjhmgljapabW.PrintMore
set_option linter.unusedVariables false
set_option linter.unusedSimpArgs false
def Rf (w : World) (ok : Nat → Prop) (A : Option Addr) (c : Nat) (l : List Int) : Prop := Kd.F (Kd.int .u64) w ok A l.length l ∧ l.length ≤ c
theorem Rf.V {w : World} {ok : Nat → Prop} {A : Option Addr} {c : Nat} {l : List Int} (h : Rf w ok A c l) {base : Nat} : Kd.V (Kd.int .u64) 47 w base ok (.slice A l.length c) l := Kd.V_mk h.2 h.1
theorem Rf.C {w : World} {ok : Nat → Prop} {A : Option Addr} {c : Nat} {l : List Int} (h : Rf w ok A c l) : Kd.C (Kd.int .u64) w A l.length l := Kd.F_now h.1
theorem Rf.mono {w : World} {ok ok' : Nat → Prop} {A : Option Addr} {c : Nat} {l : List Int} (h : Rf w ok A c l) (hok : ∀ k, ok k → ok' k) : Rf w ok' A c l := ⟨Kd.F_mono h.1 hok, h.2⟩
theorem Rf.below {w w1 : World} {ok : Nat → Prop} {A : Option Addr} {c : Nat} {l : List Int} (h : Rf w ok A c l) (hb : Below w.heap.size w w1) : Rf w1 ok A c l := ⟨Kd.F_below h.1 hb, h.2⟩
theorem Rf.nil (w : World) (ok : Nat → Prop) : Rf w ok none 0 [] := ⟨Kd.F_nil _ _ _, Nat.le_refl _⟩
theorem Rf.of {w : World} {A : Option Addr} {c e base : Nat} {ok : Nat → Prop} {l : List Int} (h : Kd.R (Kd.int .u64) e w base ok (.slice A l.length c) l) : Rf w (fun k => base ≤ k) A c l := ⟨Kd.R_F (Kd.R_mono (Kd.R_bound h) (fun _ hk => hk.2.1)), (Kd.R_reads' h).2.1⟩
def Stay (w w' : World) (g : Nat) : Prop := KeepBut w w' g none ∧ w'.os = w.os ∧ w'.tape = w.tape ∧ w'.output = w.output
theorem Stay.refl (w : World) (g : Nat) : Stay w w g := ⟨KeepBut.refl _ _ _, rfl, rfl, rfl⟩
theorem Stay.of_below {w w1 : World} (h : Below w.heap.size w w1) (g : Nat) : Stay w w1 g := ⟨KeepBut.of_below h g none, h.os, h.tape, h.output⟩
theorem Stay.trans {w w1 w2 : World} {g : Nat} (h : Stay w w1 g) (k : Stay w1 w2 g) : Stay w w2 g := ⟨h.1.trans k.1 (.inl rfl), k.2.1.trans h.2.1, k.2.2.1.trans h.2.2.1, k.2.2.2.trans h.2.2.2⟩
theorem Stay.then {w w1 w2 : World} {g : Nat} (h : Stay w w1 g) (k : Below w1.heap.size w1 w2) : Stay w w2 g := h.trans (Stay.of_below k g)
theorem Stay.size {w w1 : World} {g : Nat} (h : Stay w w1 g) : w.heap.size ≤ w1.heap.size := h.1.1
theorem Stay.set_new {w w1 : World} {g : Nat} (h : Stay w w1 g) {p : Addr} (hp : w.heap.size ≤ p.block) (u : Value) : Stay w (w1.setCell p u) g := ⟨keep_far h.1 hp u, h.2.1, h.2.2.1, h.2.2.2⟩
theorem Rf.stay {w w1 : World} {ok : Nat → Prop} {A : Option Addr} {c g : Nat} {l : List Int} (h : Rf w ok A c l) (hs : Stay w w1 g) (hg : ¬ ok g) : Rf w1 ok A c l := ⟨Kd.F_step h.1 (fun k hk hlt => hs.1.2 k hlt (fun e => hg (e ▸ hk)) (by simp)), h.2⟩
theorem Stay.below {w w1 : World} {g : Nat} (h : Stay w w1 g) {w0 : World} (hb : Below w0.heap.size w0 w) (hg : w0.heap.size ≤ g) : Below w0.heap.size w0 w1 := keep_below hb h.1 h.2.1 h.2.2.1 h.2.2.2 hg
theorem Tp.bound {w : World} {g : Nat} {ok : Nat → Prop} {l : List Int} (h : Tp w g ok l) : Tp w g (fun k => ok k ∧ k < w.heap.size) l := by
  obtain ⟨A, c, h1, h2, h3⟩ := h
  exact ⟨A, c, h1, h2, Kd.F_bound h3⟩
theorem Tp.far {w : World} {g : Nat} {ok : Nat → Prop} {l : List Int} (h : Tp w g ok l) {p : Addr} (hp : p.block ≠ g) (hok : ∀ k, ok k → k ≠ p.block) (u : Value) : Tp (w.setCell p u) g ok l := by
  obtain ⟨A, c, h1, h2, h3⟩ := h
  exact ⟨A, c, (Below.heap_setCell w p u g (fun e => hp e.symm)).trans h1, h2, Kd.F_far h3 hok u⟩
def maskV (odd : Int) (x : List Int) : List Int := if odd > 0 then x.set 0 (Go.bits .and .u8 (x.getD 0 0) (IntKind.u8.wrap (IntKind.u8.wrap (2 ^ odd.toNat) - 1))) else x
def tape_draw.f (bits : Int) (n : List Int) : Nat → List Int → Option (List Int × Int × List Int)
  | 0, _ => none
  | k + 1, l => if (l.length : Int) < (bits + 7) / 8 then some ([], 7, l) else (nat_Read.f k (maskV (bits % 8) (l.take ((bits + 7) / 8).toNat))).bind fun x => (nat_Cmp.f k x.1 n).bind fun c => if c < 0 then some (x.1, 0, l.drop ((bits + 7) / 8).toNat) else tape_draw.f bits n k (l.drop ((bits + 7) / 8).toNat)
theorem own_head {k : IntKind} {e base n c : Nat} {ok : Nat → Prop} {A : Option Addr} {w : World} {xs : List Int} (h : Kd.R (Kd.int k) e w base ok (.slice A n c) xs) (hx : 0 < xs.length) : ∃ g, A = some ⟨g, 0, none⟩ ∧ base ≤ g := by
  obtain ⟨ad, rfl, _⟩ := Kd.at_int (Kd.R_reads' h).2.2 (0 : Int) (by omega) (by omega)
  obtain ⟨g, rfl⟩ := Kd.R_head h
  exact ⟨g, rfl, Kd.R_base h g rfl⟩
set_option maxHeartbeats 8000000 in
set_option maxRecDepth 100000 in
theorem tape_draw.calls (K : Nat) (g : Nat) (l n : List Int) (bits : Int) (An : Option Addr) (cn : Nat) (ok okn : Nat → Prop) (r : List Int) (er : Int) (l' : List Int) (w : World) (hT : Tp w g ok l) (hg : ¬ ok g) (hn : Rf w okn An cn n) (hgn : ¬ okn g) (hb0 : 0 < bits) (hb1 : bits ≤ 4096) (h : tape_draw.f bits n K l = some (r, er, l')) :
    Calls Try.prog 41 #[.func (.func 42) #[.pointer (some ⟨g, 0, none⟩)] #[], .int .i64 bits, .slice An n.length cn] w fun e w' => ∃ A c, e = .returned (.tuple #[.slice A r.length c, .int .i64 er]) ∧ Rf w' (fun k => w.heap.size ≤ k) A c r ∧ Tp w' g ok l' ∧ Stay w w' g := by
  have HT := Aside0.mk hT
  have HN := Aside0.mk hn
  have HH := Aside0.mk h
  have hd1 : wrap64 (bits + 7) = bits + 7 := by unfold wrap64; omega
  have hm0 : 0 ≤ (bits + 7) / 8 := by omega
  clear hT hn h
  go_enter Try.func41, Try.ntmps41
  go_wp2
  go_loopg [] K (fun gg wr => ∃ l1 : List Int, Aside0 (tape_draw.f bits n gg l1 = some (r, er, l')) ∧ Aside0 (Tp wr g ok l1) ∧ Aside0 (Stay w wr g))
  case atStart => exact ⟨l, HH, HT, ⟨Stay.refl _ _⟩⟩
  case round =>
    obtain ⟨l1, HK, HT1, HS⟩ := hrel
    cases gk with
    | zero => exact absurd HK.out (by simp [tape_draw.f])
    | succ k =>
      have hK := HK.out
      rw [tape_draw.f] at hK
      by_cases hfew : (l1.length : Int) < (bits + 7) / 8
      · rw [if_pos hfew] at hK
        simp only [Option.some.injEq, Prod.mk.injEq] at hK
        obtain ⟨rfl, rfl, rfl⟩ := hK
        have HFEW := Aside0.mk hfew
        clear HK hfew
        go_wp2_with (go_at_call 42; refine (tape_Take.few g l1 _ ok _ HT1.out (by omega) (by omega) HFEW.out).mono ?_; rintro e w' ⟨rfl, rfl⟩)
        go_ret2
        exact ⟨_, _, rfl, Rf.nil _ _, HT1.out, HS.out⟩
      · rw [if_neg hfew] at hK
        obtain ⟨⟨x1, x2⟩, hx, hK2⟩ := Option.bind_eq_some_iff.mp hK
        obtain ⟨c, hc, hK3⟩ := Option.bind_eq_some_iff.mp hK2
        have HX := Aside0.mk hx
        have HC := Aside0.mk hc
        have HK3 := Aside0.mk hK3
        have HFEW := Aside0.mk hfew
        have hlen : (l1.take ((bits + 7) / 8).toNat).length = ((bits + 7) / 8).toNat := by rw [List.length_take]; omega
        have HLEN := Aside0.mk hlen
        clear HK hfew hK hK2 hK3 hx hc hlen
        generalize hX : l1.take ((bits + 7) / 8).toNat = X at HX HLEN
        have HXX := Aside0.mk hX
        by_cases h8 : bits % 8 > 0
        · have h8z : decide (0 < bits % 8) = true := decide_eq_true h8
          have hm : maskV (bits % 8) X = X.set 0 (Go.bits .and .u8 (X.getD 0 0) (IntKind.u8.wrap (IntKind.u8.wrap (2 ^ (bits % 8).toNat) - 1))) := by unfold maskV; rw [if_pos h8]
          rw [hm] at HX
          clear hm hX
          go_wp2_with (go_at_call 42; refine (tape_Take.calls g l1 ((bits + 7) / 8) (fun k => ok k ∧ k < wr.heap.size) _ HT1.out.bound (fun h => hg h.1) (by omega) (by omega) (by have := HFEW.out; omega)).mono ?_; rintro e w2 ⟨v, rfl, hR, hT2, hk1, hk2, hk3, hk4⟩; rw [HXX.out] at hR; obtain ⟨Av, cv, ev⟩ := Kd.R_slice hR; subst ev; have HV := Aside0.mk hR; have HT2 := Aside0.mk hT2; have HS2 := Aside0.mk (HS.out.trans ⟨hk1, hk2, hk3, hk4⟩); have HG2 := Aside0.mk (show g < wr.heap.size from HT1.out.lt); clear hR hT2 hk1 hk2 hk3 hk4)
          have hX0 : 0 < X.length := by have := HLEN.out; omega
          obtain ⟨gv, hgv, hgb⟩ := own_head HV.out hX0
          subst hgv
          obtain ⟨x0, hx0⟩ : ∃ x0 : Int, x0 = X.getD 0 0 := ⟨_, rfl⟩
          have hcc0 := Kd.R_celln 0 HV.out 0 (by omega) (by omega)
          have hcell : w2.cell? ⟨gv, 0, none⟩ = some (.int .u8 x0) := by rw [hx0]; exact hcc0.1
          have hcell2 : w2.drew.cell? ⟨gv, 0, none⟩ = some (.int .u8 x0) := hcell
          have hz2 : (0 : Int) < (X.length : Int) := by omega
          have hfz : w2.frozen? ⟨gv, 0, none⟩ = false := hcc0.2
          have hfz2 : w2.drew.frozen? ⟨gv, 0, none⟩ = false := hcc0.2
          have h80 : (0 : Int) ≤ bits % 8 := by omega
          have HP := Aside0.mk (Kd.R_putg (Kd.R_drew HV.out) 0 (Go.bits .and .u8 x0 (IntKind.u8.wrap (IntKind.u8.wrap (2 ^ (bits % 8).toNat) - 1))))
          obtain ⟨Y, hY⟩ : ∃ Y : List Int, X.set 0 (Go.bits .and .u8 (X.getD 0 0) (IntKind.u8.wrap (IntKind.u8.wrap (2 ^ (bits % 8).toNat) - 1))) = Y := ⟨_, rfl⟩
          rw [hY] at HX
          rw [← hx0] at hY
          have HY := Aside0.mk hY
          have HYL := Aside0.mk (show Y.length = X.length from by rw [← hY, List.length_set])
          have HGB := Aside0.mk hgb
          clear hcc0 hx0 hY hgb
          by_cases hcc : c < 0
          · have hK4 := HK3.out
            rw [if_pos hcc] at hK4
            simp only [Option.some.injEq, Prod.mk.injEq] at hK4
            obtain ⟨rfl, rfl, rfl⟩ := hK4
            clear HK3
            go_still_tail 8, (by kernel_rfl)
            change wpList _ _ _ _ _ w2.drew
            go_wp2_with (first
              | ((with_reducible refine gate_store (t := 5) (p := 35) rfl ?_); refine store_event (t := 5) (p := 35) (v := ?vo) (w1 := (w2.drew.setCell ⟨gv, 0, none⟩ (.int .u8 (Go.bits .and .u8 x0 (IntKind.u8.wrap (IntKind.u8.wrap (2 ^ (bits % 8).toNat) - 1)))))) ?hg ?ho ?hn ?hr ?_; (case ho => rfl); (case hg => rfl); (case hn => rfl); (case hr => first | (go_simp; done) | (go_simp; rfl)); intro w5 hw; have HV5 := Aside0.mk (show Kd.R (Kd.int .u8) 5 w5 wr.heap.size (fun _ => True) (.slice (some ⟨gv, 0, none⟩) X.length cv) Y from by rw [hw, ← HY.out]; exact HP.out.1); have HT5 := Aside0.mk (show Tp w5 g (fun k => ok k ∧ k < wr.heap.size) _ from by rw [hw]; exact (HT2.out.below (below_drew (Below.refl _ _))).far (p := ⟨gv, 0, none⟩) (by have := HG2.out; have := HGB.out; show gv ≠ g; omega) (fun k hk => by have := HGB.out; show k ≠ gv; have := hk.2; omega) _); have HS5 := Aside0.mk (show Stay w w5 g from by rw [hw]; exact Stay.set_new (HS2.out.then (below_drew (Below.refl _ _))) (p := ⟨gv, 0, none⟩) (by have := HS.out.size; have := HGB.out; show w.heap.size ≤ gv; omega) _); clear hw)
              | (go_at_call 74; ((rw [show X.length = Y.length from HYL.out.symm]); refine (nat_Read.calls k (some ⟨gv, 0, none⟩) cv Y x1 x2 _ (Kd.R_reads' HV5.out).2.2 (by have := (Kd.R_reads' HV5.out).2.1; have := HYL.out; omega) HX.out).mono ?_; rintro e w6 ⟨v3, rfl, hR, hb⟩; obtain ⟨A3, c3, e3⟩ := Kd.R_slice hR; subst e3; have HR3 := Aside0.mk (Rf.of hR); have HT3 := Aside0.mk (HT5.out.below hb); have HS3 := Aside0.mk (HS5.out.then hb); clear hR hb))
              | (go_at_call 64; refine (nat_Cmp.calls k _ A3 c3 x1 _ An cn n c _ HR3.out.V (HN.out.stay HS3.out hgn).V HC.out).mono ?_; rintro e w4 ⟨rfl, hb⟩; have HR4 := Aside0.mk ((HR3.out.mono (ok' := fun k => w.heap.size ≤ k) (fun k hk => Nat.le_trans HS5.out.size hk)).below hb); have HT4 := Aside0.mk (HT3.out.below hb); have HS4 := Aside0.mk (HS3.out.then hb); clear hb))
            go_ret2
            exact ⟨_, _, rfl, HR4.out, HT4.out.mono (fun k hk => hk.1), HS4.out⟩
          · have hK4 := HK3.out
            rw [if_neg hcc] at hK4
            have HK5 := Aside0.mk hK4
            clear HK3 hK4
            go_still_tail 8, (by kernel_rfl)
            change wpList _ _ _ _ _ w2.drew
            go_wp2_with (first
              | ((with_reducible refine gate_store (t := 5) (p := 35) rfl ?_); refine store_event (t := 5) (p := 35) (v := ?vo) (w1 := (w2.drew.setCell ⟨gv, 0, none⟩ (.int .u8 (Go.bits .and .u8 x0 (IntKind.u8.wrap (IntKind.u8.wrap (2 ^ (bits % 8).toNat) - 1)))))) ?hg ?ho ?hn ?hr ?_; (case ho => rfl); (case hg => rfl); (case hn => rfl); (case hr => first | (go_simp; done) | (go_simp; rfl)); intro w5 hw; have HV5 := Aside0.mk (show Kd.R (Kd.int .u8) 5 w5 wr.heap.size (fun _ => True) (.slice (some ⟨gv, 0, none⟩) X.length cv) Y from by rw [hw, ← HY.out]; exact HP.out.1); have HT5 := Aside0.mk (show Tp w5 g (fun k => ok k ∧ k < wr.heap.size) _ from by rw [hw]; exact (HT2.out.below (below_drew (Below.refl _ _))).far (p := ⟨gv, 0, none⟩) (by have := HG2.out; have := HGB.out; show gv ≠ g; omega) (fun k hk => by have := HGB.out; show k ≠ gv; have := hk.2; omega) _); have HS5 := Aside0.mk (show Stay w w5 g from by rw [hw]; exact Stay.set_new (HS2.out.then (below_drew (Below.refl _ _))) (p := ⟨gv, 0, none⟩) (by have := HS.out.size; have := HGB.out; show w.heap.size ≤ gv; omega) _); clear hw)
              | (go_at_call 74; ((rw [show X.length = Y.length from HYL.out.symm]); refine (nat_Read.calls k (some ⟨gv, 0, none⟩) cv Y x1 x2 _ (Kd.R_reads' HV5.out).2.2 (by have := (Kd.R_reads' HV5.out).2.1; have := HYL.out; omega) HX.out).mono ?_; rintro e w6 ⟨v3, rfl, hR, hb⟩; obtain ⟨A3, c3, e3⟩ := Kd.R_slice hR; subst e3; have HR3 := Aside0.mk (Rf.of hR); have HT3 := Aside0.mk (HT5.out.below hb); have HS3 := Aside0.mk (HS5.out.then hb); clear hR hb))
              | (go_at_call 64; refine (nat_Cmp.calls k _ A3 c3 x1 _ An cn n c _ HR3.out.V (HN.out.stay HS3.out hgn).V HC.out).mono ?_; rintro e w4 ⟨rfl, hb⟩; have HR4 := Aside0.mk ((HR3.out.mono (ok' := fun k => w.heap.size ≤ k) (fun k hk => Nat.le_trans HS5.out.size hk)).below hb); have HT4 := Aside0.mk (HT3.out.below hb); have HS4 := Aside0.mk (HS3.out.then hb); clear hb))
            go_roundg k
            case measure => omega
            case rel => exact ⟨_, HK5, ⟨HT4.out.mono (fun k hk => hk.1)⟩, HS4⟩
        · have h8z : decide (0 < bits % 8) = false := decide_eq_false h8
          have hm : maskV (bits % 8) X = X := by unfold maskV; rw [if_neg h8]
          rw [hm] at HX
          clear hm h8 hX
          by_cases hcc : c < 0
          · have hK4 := HK3.out
            rw [if_pos hcc] at hK4
            simp only [Option.some.injEq, Prod.mk.injEq] at hK4
            obtain ⟨rfl, rfl, rfl⟩ := hK4
            clear HK3
            go_wp2_with (first
              | (go_at_call 42; refine (tape_Take.calls g l1 ((bits + 7) / 8) (fun k => ok k ∧ k < wr.heap.size) _ HT1.out.bound (fun h => hg h.1) (by omega) (by omega) (by have := HFEW.out; omega)).mono ?_; rintro e w2 ⟨v, rfl, hR, hT2, hk1, hk2, hk3, hk4⟩; rw [HXX.out] at hR; obtain ⟨Av, cv, ev⟩ := Kd.R_slice hR; subst ev; have HV := Aside0.mk hR; have HT2 := Aside0.mk hT2; have HS2 := Aside0.mk (HS.out.trans ⟨hk1, hk2, hk3, hk4⟩); clear hR hT2 hk1 hk2 hk3 hk4)
              | (go_at_call 74; (refine (nat_Read.calls k Av cv X x1 x2 _ (Kd.R_reads' HV.out).2.2 (Kd.R_reads' HV.out).2.1 HX.out).mono ?_; rintro e w3 ⟨v3, rfl, hR, hb⟩; obtain ⟨A3, c3, e3⟩ := Kd.R_slice hR; subst e3; have HR3 := Aside0.mk (Rf.of hR); have HT3 := Aside0.mk (HT2.out.below hb); have HS3 := Aside0.mk (HS2.out.then hb); clear hR hb))
              | (go_at_call 64; refine (nat_Cmp.calls k _ A3 c3 x1 _ An cn n c _ HR3.out.V (HN.out.stay HS3.out hgn).V HC.out).mono ?_; rintro e w4 ⟨rfl, hb⟩; have HR4 := Aside0.mk ((HR3.out.mono (ok' := fun k => w.heap.size ≤ k) (fun k hk => Nat.le_trans HS2.out.size hk)).below hb); have HT4 := Aside0.mk (HT3.out.below hb); have HS4 := Aside0.mk (HS3.out.then hb); clear hb))
            go_ret2
            exact ⟨_, _, rfl, HR4.out, HT4.out.mono (fun k hk => hk.1), HS4.out⟩
          · have hK4 := HK3.out
            rw [if_neg hcc] at hK4
            have HK5 := Aside0.mk hK4
            clear HK3 hK4
            go_wp2_with (first
              | (go_at_call 42; refine (tape_Take.calls g l1 ((bits + 7) / 8) (fun k => ok k ∧ k < wr.heap.size) _ HT1.out.bound (fun h => hg h.1) (by omega) (by omega) (by have := HFEW.out; omega)).mono ?_; rintro e w2 ⟨v, rfl, hR, hT2, hk1, hk2, hk3, hk4⟩; rw [HXX.out] at hR; obtain ⟨Av, cv, ev⟩ := Kd.R_slice hR; subst ev; have HV := Aside0.mk hR; have HT2 := Aside0.mk hT2; have HS2 := Aside0.mk (HS.out.trans ⟨hk1, hk2, hk3, hk4⟩); clear hR hT2 hk1 hk2 hk3 hk4)
              | (go_at_call 74; (refine (nat_Read.calls k Av cv X x1 x2 _ (Kd.R_reads' HV.out).2.2 (Kd.R_reads' HV.out).2.1 HX.out).mono ?_; rintro e w3 ⟨v3, rfl, hR, hb⟩; obtain ⟨A3, c3, e3⟩ := Kd.R_slice hR; subst e3; have HR3 := Aside0.mk (Rf.of hR); have HT3 := Aside0.mk (HT2.out.below hb); have HS3 := Aside0.mk (HS2.out.then hb); clear hR hb))
              | (go_at_call 64; refine (nat_Cmp.calls k _ A3 c3 x1 _ An cn n c _ HR3.out.V (HN.out.stay HS3.out hgn).V HC.out).mono ?_; rintro e w4 ⟨rfl, hb⟩; have HR4 := Aside0.mk ((HR3.out.mono (ok' := fun k => w.heap.size ≤ k) (fun k hk => Nat.le_trans HS2.out.size hk)).below hb); have HT4 := Aside0.mk (HT3.out.below hb); have HS4 := Aside0.mk (HS3.out.then hb); clear hb))
            go_roundg k
            case measure => omega
            case rel => exact ⟨_, HK5, ⟨HT4.out.mono (fun k hk => hk.1)⟩, HS4⟩
end Go.Proofs.Ytlkinjhmgljapab.F
end
section
namespace Go.Proofs.Ytlkinjhmgljapab.F
open Go.RowKit Go.Proofs.YtlkinjhmgljapabW.PrintWords Go.Proofs.YtlkinjhmgljapabW.PrintLast Go.Proofs.YtlkinjhmgljapabW.PrintMore
attribute [local go_sem] max2_int min2_int max_two min_two max_three min_three max_four min_four
set_option linter.unusedVariables false
set_option linter.unusedSimpArgs false
attribute [local go_sem] sub64_run
def nat_less.l0 : Nat → List Int → List Int → List Int → Int → Int → Int → Option (List Int)
 | 0, _, _, _, _, _, _ => none
 | k + 1, x0, x1, x5, x6, x13, x14 => if x14 < x13 then (if x14 < (x1.length : Int) then (if 0 ≤ x14 then (if x14 < (x0.length : Int) then (if carry01 x6 = true then (if x14 < (x5.length : Int) then (nat_less.l0 k x0 x1 (x5.set (x14 : Int).toNat (sub64_s (rd x0 x14) (rd x1 x14) x6)) (sub64_c (rd x0 x14) (rd x1 x14) x6) x13 (wrap64 (x14 + 1))) else (none)) else (none)) else (none)) else (none)) else (if 0 ≤ x14 then (if x14 < (x0.length : Int) then (if carry01 x6 = true then (if x14 < (x5.length : Int) then (nat_less.l0 k x0 x1 (x5.set (x14 : Int).toNat (sub64_s (rd x0 x14) 0 x6)) (sub64_c (rd x0 x14) 0 x6) x13 (wrap64 (x14 + 1))) else (none)) else (none)) else (none)) else (none))) else (some x5)
def nat_less.f (k : Nat) (l0 : List Int) (l1 : List Int) : Option (List Int) := if 0 ≤ (l0.length : Int) then (if ((l0.length : Int) : Int).toNat ≤ 35184372088832 then (nat_less.l0 k l0 l1 (List.replicate ((l0.length : Int) : Int).toNat 0) 0 (l0.length : Int) 0) else (none)) else (none)
set_option maxHeartbeats 8000000 in
set_option maxRecDepth 100000 in
theorem nat_less.calls (k : Nat) (A0 : Option Addr) (c0 : Nat) (l0 : List Int) (A1 : Option Addr) (c1 : Nat) (l1 : List Int) (r : List Int) (w : World) (hr0 : Kd.C (Kd.int .u64) w A0 l0.length l0) (hc0 : l0.length ≤ c0) (hr1 : Kd.C (Kd.int .u64) w A1 l1.length l1) (hc1 : l1.length ≤ c1) (h : nat_less.f k l0 l1 = some r) :
  Calls Try.prog 73 #[.slice A0 l0.length c0, .slice A1 l1.length c1] w fun e w' => ∃ v0_ : Value, e = .returned (v0_) ∧ Kd.R (Kd.int .u64) 47 w' w.heap.size (fun _ => True) v0_ r ∧ Below w.heap.size w w' := by
 have HR0 := Aside0.mk hr0; have HC0 := Aside0.mk hc0; clear hr0 hc0; have HR1 := Aside0.mk hr1; have HC1 := Aside0.mk hc1; clear hr1 hc1
 have HB := Aside0.mk (Below.refl w.heap.size w)
 have H : (if 0 ≤ (l0.length : Int) then (if ((l0.length : Int) : Int).toNat ≤ 35184372088832 then (nat_less.l0 k l0 l1 (List.replicate ((l0.length : Int) : Int).toNat 0) 0 (l0.length : Int) 0) else (none)) else (none)) = some r := h
 clear h
 replace H := uT H; obtain ⟨c3, H⟩ := H
 have c3b0 := eq_true c3
 have c3b1 : decide (0 ≤ (l0.length : Int)) = true := decide_eq_true c3
 clear c3
 replace H := uT H; obtain ⟨c4, H⟩ := H
 have c4b0 := eq_true c4
 have c4b1 : decide (((l0.length : Int) : Int).toNat ≤ 35184372088832) = true := decide_eq_true c4
 clear c4
 obtain ⟨y122, hy122⟩ : ∃ y_ : List Int, y_ = (List.replicate ((l0.length : Int) : Int).toNat 0) := ⟨_, rfl⟩
 replace H : (nat_less.l0 k l0 l1 y122 0 (l0.length : Int) 0) = some r := by first | (rw [hy122]; with_reducible exact H) | (have H2_ := (Option.bind_some _ _).symm.trans H; rw [hy122]; with_reducible exact H2_) | (have H2_ := (Option.bind_some _ _).symm.trans H; with_reducible exact H2_) | with_reducible exact H | (rw [hy122]; exact H) | exact H
 have Ny122 := Aside0.mk hy122; clear hy122
 have H' := Aside0.mk H
 clear H
 go_enter Try.func73, Try.ntmps73
 go_wp2_with (first | ((with_reducible refine gate_dst (N := 11) rfl ?_); refine Kd.R_make (Kd.int .u64) _ 47 rfl (N := 11) rfl 29 _ _ rfl (l0.length : Int) rfl rfl Try.underlying29 (.int .u64 0) 8 info47 rfl (by decide) (by omega) 0 (ok := fun _ => True) (okp := fun _ => True) rfl (fun _ hk => hk) trivial uO (Nat.le_trans (Nat.mul_le_mul_right _ (uO : (l0.length : Int).toNat ≤ 35184372088832)) (by omega)) (Below.refl _ _) (Nat.le_refl _) ?_; intro v123 w5 ho6 hb hg_ hnew_; clear hg_ hnew_; (first | rw [← Ny122.out] at ho6 | (simp only [Int.reduceToNat] at ho6; rw [← Ny122.out] at ho6)); have HO124 := Aside0.mk (Kd.R_lower ho6 (below_size uB)); replace HB := uy hb; clear hb ho6))
 go_loopg [6, 14] k (fun kq v6 v14 w' => ∃ (x5_1 : List Int) (x6_1 : Int) (x14_1 : Int), v6 = .int .u64 x6_1 ∧ v14 = .int .i64 x14_1 ∧ Aside0 (nat_less.l0 kq l0 l1 x5_1 x6_1 (l0.length : Int) x14_1 = some r) ∧ Aside0 (kq ≤ k) ∧ Aside0 (Kd.R (Kd.int .u64) 47 w' w.heap.size (fun _ => True) v123 x5_1) ∧ Aside0 (Below w.heap.size w w'))
 case atStart => exact ⟨(y122), (0), (0), uG, uG, H', ⟨Nat.le_refl _⟩, ⟨uR HO124.out⟩, ⟨uB⟩⟩
 case round =>
  clear H'
  (try clear c1); (try clear p2); (try clear c3); (try clear c3b0); (try clear c3b1); (try clear c4); (try clear c4b0); (try clear c4b1)
  obtain ⟨x5_1, x6_1, x14_1, rfl, rfl, HA, HK1, HO_5, HB⟩ := hrel
  cases gk with
  | zero => exact absurd HA.out (by simp [nat_less.l0])
  | succ k1 =>
   have H := HA.out
   clear HA
   simp only [nat_less.l0] at H
   by_cases c7 : x14_1 < (l0.length : Int)
   ·
    rw [if_pos c7] at H
    have c7b0 : decide (x14_1 < (l0.length : Int)) = true := decide_eq_true c7
    clear c7
    by_cases c8 : x14_1 < (l1.length : Int)
    ·
     rw [if_pos c8] at H
     have c8b0 : decide (x14_1 < (l1.length : Int)) = true := decide_eq_true c8
     clear c8
     replace H := uT H; obtain ⟨c9, H⟩ := H
     have c9b0 : decide (0 ≤ x14_1) = true := decide_eq_true c9
     clear c9
     replace H := uT H; obtain ⟨c10, H⟩ := H
     have c10b0 : decide (x14_1 < (l0.length : Int)) = true := decide_eq_true c10
     clear c10
     replace H := uT H; obtain ⟨c11, H⟩ := H
     have c11b0 : carry01 x6_1 = true := c11
     clear c11
     replace H := uT H; obtain ⟨c12, H⟩ := H
     have c12b0 : decide (x14_1 < (x5_1.length : Int)) = true := decide_eq_true c12
     clear c12
     obtain ⟨y127, hy127⟩ : ∃ y_ : List Int, y_ = (x5_1.set (x14_1 : Int).toNat (sub64_s (rd l0 x14_1) (rd l1 x14_1) x6_1)) := ⟨_, rfl⟩
     replace H : (nat_less.l0 k1 l0 l1 y127 (sub64_c (rd l0 x14_1) (rd l1 x14_1) x6_1) (l0.length : Int) (wrap64 (x14_1 + 1))) = some r := by first | (rw [hy127]; with_reducible exact H) | (have H2_ := (Option.bind_some _ _).symm.trans H; rw [hy127]; with_reducible exact H2_) | (have H2_ := (Option.bind_some _ _).symm.trans H; with_reducible exact H2_) | with_reducible exact H | (rw [hy127]; exact H) | exact H
     have Ny127 := Aside0.mk hy127; clear hy127
     have H' := Aside0.mk H
     clear H
     have p125 : 0 ≤ (x14_1 : Int) := uO
     have q125 : x14_1 < (l1.length : Int) := uO
     obtain ⟨ad125, e125, hx125_0⟩ := Kd.at_int HR1.out x14_1 p125 q125
     cases e125
     replace hx125_0 := (HB.out.cell (World.block_lt_of_cell? w _ hx125_0)).trans hx125_0
     replace p125 := eq_true p125
     replace q125 := eq_true q125
     have p126 : 0 ≤ (x14_1 : Int) := uO
     have q126 : x14_1 < (l0.length : Int) := uO
     obtain ⟨ad126, e126, hx126_0⟩ := Kd.at_int HR0.out x14_1 p126 q126
     cases e126
     replace hx126_0 := (HB.out.cell (World.block_lt_of_cell? w _ hx126_0)).trans hx126_0
     replace p126 := eq_true p126
     replace q126 := eq_true q126
     have p13 : 0 ≤ (x14_1 : Int) := uO
     have q13 : (x14_1 : Int) < ((x5_1.length : Int) : Int) := uO
     obtain ⟨go13, co13, eo13, gb13, gl13, cl13, HG13⟩ := Kd.R_form HO_5.out (by omega)
     (first | cases eo13 | (injection eo13 with ea_ en_ ec_; (first | subst ea_ | (injection ea_ with ea_; subst ea_)); subst ec_; clear en_))
     have GB13 := Aside0.mk gb13; have GG13 := Aside0.mk HG13; clear gb13 gl13 HG13
     obtain ⟨hx13_0, hf13_0⟩ := Kd.R_celln 0 HO_5.out (x14_1 : Int) p13 q13
     replace p13 := eq_true p13
     replace q13 := eq_true q13
     have HP14 := Kd.R_putg HO_5.out (x14_1 : Int) (sub64_s (rd l0 x14_1) (rd l1 x14_1) x6_1)
     go_wp2_with (first | ((with_reducible refine gate_store (t := 47) (p := 37) rfl ?_); refine store_event (t := 47) (p := 37) (v := ?vo_w15) (w1 := (wr.setCell ⟨go13, (x14_1 : Int).toNat, none⟩ (.int .u64 (sub64_s (rd l0 x14_1) (rd l1 x14_1) x6_1)))) ?hg ?ho ?hn ?hr ?_; (case ho => rfl); (case hg => rfl); (case hn => rfl); (case hr => first | (go_simp; done) | (go_simp; rfl) | (obtain ⟨hy_, hz_⟩ := Kd.R_celln 0 HO_5.out (x14_1 : Int) uO uO; (try simp only [Go.IntWalk.toNatUp] at hy_ hz_); (try simp only [Int.reduceToNat, Int.toNat_zero, Int.toNat_ofNat] at hy_ hz_); first | (go_simp; done) | (go_simp; rfl))); intro w15 hw; have hg : wr.grownBy w15 (some go13) := (by rw [hw]; exact HP14.2); have hp_ : Kd.R (Kd.int .u64) 47 w15 w.heap.size (fun _ => True) (.slice (some ⟨go13, 0, none⟩) x5_1.length co13) y127 := (by rw [hw, Ny127.out]; exact HP14.1); clear HP14; replace HO_5 := Aside0.mk (hp_); replace HB := Aside0.mk ((by rw [hw]; exact below_set (HB.out) GB13.out : Below w.heap.size w w15)); clear hg hw hp_))
     go_roundg k1
     case measure => have := HK1.out; omega
     case rel => exact ⟨(y127), (sub64_c (rd l0 x14_1) (rd l1 x14_1) x6_1), (wrap64 (x14_1 + 1)), uG, uG, H', ⟨by have := HK1.out; omega⟩, ⟨uR HO_5.out⟩, ⟨uB⟩⟩
    rw [if_neg c8] at H
    have c8b0 : decide (x14_1 < (l1.length : Int)) = false := decide_eq_false c8
    clear c8
    replace H := uT H; obtain ⟨c16, H⟩ := H
    have c16b0 : decide (0 ≤ x14_1) = true := decide_eq_true c16
    clear c16
    replace H := uT H; obtain ⟨c17, H⟩ := H
    have c17b0 : decide (x14_1 < (l0.length : Int)) = true := decide_eq_true c17
    clear c17
    replace H := uT H; obtain ⟨c18, H⟩ := H
    have c18b0 : carry01 x6_1 = true := c18
    clear c18
    replace H := uT H; obtain ⟨c19, H⟩ := H
    have c19b0 : decide (x14_1 < (x5_1.length : Int)) = true := decide_eq_true c19
    clear c19
    obtain ⟨y129, hy129⟩ : ∃ y_ : List Int, y_ = (x5_1.set (x14_1 : Int).toNat (sub64_s (rd l0 x14_1) 0 x6_1)) := ⟨_, rfl⟩
    replace H : (nat_less.l0 k1 l0 l1 y129 (sub64_c (rd l0 x14_1) 0 x6_1) (l0.length : Int) (wrap64 (x14_1 + 1))) = some r := by first | (rw [hy129]; with_reducible exact H) | (have H2_ := (Option.bind_some _ _).symm.trans H; rw [hy129]; with_reducible exact H2_) | (have H2_ := (Option.bind_some _ _).symm.trans H; with_reducible exact H2_) | with_reducible exact H | (rw [hy129]; exact H) | exact H
    have Ny129 := Aside0.mk hy129; clear hy129
    have H' := Aside0.mk H
    clear H
    have p128 : 0 ≤ (x14_1 : Int) := uO
    have q128 : x14_1 < (l0.length : Int) := uO
    obtain ⟨ad128, e128, hx128_0⟩ := Kd.at_int HR0.out x14_1 p128 q128
    cases e128
    replace hx128_0 := (HB.out.cell (World.block_lt_of_cell? w _ hx128_0)).trans hx128_0
    replace p128 := eq_true p128
    replace q128 := eq_true q128
    have p20 : 0 ≤ (x14_1 : Int) := uO
    have q20 : (x14_1 : Int) < ((x5_1.length : Int) : Int) := uO
    obtain ⟨go20, co20, eo20, gb20, gl20, cl20, HG20⟩ := Kd.R_form HO_5.out (by omega)
    (first | cases eo20 | (injection eo20 with ea_ en_ ec_; (first | subst ea_ | (injection ea_ with ea_; subst ea_)); subst ec_; clear en_))
    have GB20 := Aside0.mk gb20; have GG20 := Aside0.mk HG20; clear gb20 gl20 HG20
    obtain ⟨hx20_0, hf20_0⟩ := Kd.R_celln 0 HO_5.out (x14_1 : Int) p20 q20
    replace p20 := eq_true p20
    replace q20 := eq_true q20
    have HP21 := Kd.R_putg HO_5.out (x14_1 : Int) (sub64_s (rd l0 x14_1) 0 x6_1)
    go_wp2_with (first | ((with_reducible refine gate_store (t := 47) (p := 37) rfl ?_); refine store_event (t := 47) (p := 37) (v := ?vo_w22) (w1 := (wr.setCell ⟨go20, (x14_1 : Int).toNat, none⟩ (.int .u64 (sub64_s (rd l0 x14_1) 0 x6_1)))) ?hg ?ho ?hn ?hr ?_; (case ho => rfl); (case hg => rfl); (case hn => rfl); (case hr => first | (go_simp; done) | (go_simp; rfl) | (obtain ⟨hy_, hz_⟩ := Kd.R_celln 0 HO_5.out (x14_1 : Int) uO uO; (try simp only [Go.IntWalk.toNatUp] at hy_ hz_); (try simp only [Int.reduceToNat, Int.toNat_zero, Int.toNat_ofNat] at hy_ hz_); first | (go_simp; done) | (go_simp; rfl))); intro w22 hw; have hg : wr.grownBy w22 (some go20) := (by rw [hw]; exact HP21.2); have hp_ : Kd.R (Kd.int .u64) 47 w22 w.heap.size (fun _ => True) (.slice (some ⟨go20, 0, none⟩) x5_1.length co20) y129 := (by rw [hw, Ny129.out]; exact HP21.1); clear HP21; replace HO_5 := Aside0.mk (hp_); replace HB := Aside0.mk ((by rw [hw]; exact below_set (HB.out) GB20.out : Below w.heap.size w w22)); clear hg hw hp_))
    go_roundg k1
    case measure => have := HK1.out; omega
    case rel => exact ⟨(y129), (sub64_c (rd l0 x14_1) 0 x6_1), (wrap64 (x14_1 + 1)), uG, uG, H', ⟨by have := HK1.out; omega⟩, ⟨uR HO_5.out⟩, ⟨uB⟩⟩
   rw [if_neg c7] at H
   have c7b0 : decide (x14_1 < (l0.length : Int)) = false := decide_eq_false c7
   clear c7
   obtain rfl := Option.some.inj H
   go_wp2
   go_ret
   exact ⟨_, uF, uR HO_5.out, uB⟩
end Go.Proofs.Ytlkinjhmgljapab.F
end
section
namespace Go.Proofs.Ytlkinjhmgljapab.F
open Go.RowKit Go.Proofs.YtlkinjhmgljapabW.PrintWords Go.Proofs.YtlkinjhmgljapabW.PrintLast Go.Proofs.YtlkinjhmgljapabW.PrintMore
attribute [local go_sem] max2_int min2_int max_two min_two max_three min_three max_four min_four
set_option linter.unusedVariables false
set_option linter.unusedSimpArgs false
def nat_Sub.f (k : Nat) (l0 : List Int) (l1 : List Int) : Option (List Int × Int) := (nat_right.f (([l0, l1] : List (List Int)))).bind fun t133 => (if t133 = true then ((nat_compare.f k l0 l1).bind fun t134 => (if t134 < 0 then (some (([] : List Int), 2)) else ((nat_less.f k l0 l1).bind fun t135 => ((nat_told.f k t135).bind fun bt138 => (some (bt138.1, bt138.2)))))) else (some (([] : List Int), 1)))
set_option maxHeartbeats 8000000 in
set_option maxRecDepth 100000 in
theorem nat_Sub.calls (k : Nat) (P0_ : Nat → Prop) (A0 : Option Addr) (c0 : Nat) (l0 : List Int) (P1_ : Nat → Prop) (A1 : Option Addr) (c1 : Nat) (l1 : List Int) (r1 : List Int) (r2 : Int) (w : World) (hs0 : Kd.V (Kd.int .u64) 47 w w.heap.size (fun k_ => P0_ k_) (.slice A0 l0.length c0) l0) (hs1 : Kd.V (Kd.int .u64) 47 w w.heap.size (fun k_ => P1_ k_) (.slice A1 l1.length c1) l1) (h : nat_Sub.f k l0 l1 = some (r1, r2)) :
  Calls Try.prog 40 #[.slice A0 l0.length c0, .slice A1 l1.length c1] w fun e w' => ∃ v0_ : Value, e = .returned (.tuple #[v0_, .int .i64 r2]) ∧ Kd.R (Kd.int .u64) 47 w' w.heap.size (fun k_ => (w.heap.size ≤ k_)) v0_ r1 ∧ Below w.heap.size w w' := by
 have HO0 := Aside0.mk (show Kd.V (Kd.int .u64) 47 w w.heap.size (fun k_ => ((P0_ k_ ∨ P1_ k_) ∨ w.heap.size ≤ k_)) (.slice A0 l0.length c0) l0 from Kd.V_mono hs0 (fun k_ hk => .inl (.inl hk)))
 have HO1 := Aside0.mk (show Kd.V (Kd.int .u64) 47 w w.heap.size (fun k_ => ((P0_ k_ ∨ P1_ k_) ∨ w.heap.size ≤ k_)) (.slice A1 l1.length c1) l1 from Kd.V_mono hs1 (fun k_ hk => .inl (.inr hk)))
 have HB := Aside0.mk (Below.refl w.heap.size w)
 have H : ((nat_right.f (([l0, l1] : List (List Int)))).bind fun t133 => (if t133 = true then ((nat_compare.f k l0 l1).bind fun t134 => (if t134 < 0 then (some (([] : List Int), 2)) else ((nat_less.f k l0 l1).bind fun t135 => ((nat_told.f k t135).bind fun bt138 => (some (bt138.1, bt138.2)))))) else (some (([] : List Int), 1)))) = some (r1, r2) := h
 clear h
 obtain ⟨y130, hy130⟩ : ∃ y_ : List (List Int), y_ = (([l0, l1] : List (List Int))) := ⟨_, rfl⟩
 replace H : ((nat_right.f y130).bind fun t133 => (if t133 = true then ((nat_compare.f k l0 l1).bind fun t134 => (if t134 < 0 then (some (([] : List Int), 2)) else ((nat_less.f k l0 l1).bind fun t135 => ((nat_told.f k t135).bind fun bt138 => (some (bt138.1, bt138.2)))))) else (some (([] : List Int), 1)))) = some (r1, r2) := by first | (rw [hy130]; with_reducible exact H) | (have H2_ := (Option.bind_some _ _).symm.trans H; rw [hy130]; with_reducible exact H2_) | (have H2_ := (Option.bind_some _ _).symm.trans H; with_reducible exact H2_) | with_reducible exact H | (rw [hy130]; exact H) | exact H
 have Ny130 := Aside0.mk hy130; clear hy130
 replace H := ub H; obtain ⟨t133, A3, H⟩ := H
 by_cases c4 : t133 = true
 ·
  subst c4
  have H1 : ((nat_compare.f k l0 l1).bind fun t134 => (if t134 < 0 then (some (([] : List Int), 2)) else ((nat_less.f k l0 l1).bind fun t135 => ((nat_told.f k t135).bind fun bt138 => (some (bt138.1, bt138.2)))))) = some (r1, r2) := by rw [if_pos rfl] at H; exact H
  clear H; have H := H1; clear H1
  replace H := ub H; obtain ⟨t134, A5, H⟩ := H
  by_cases c6 : t134 < 0
  ·
   rw [if_pos c6] at H
   have c6b0 : decide (t134 < 0) = true := decide_eq_true c6
   clear c6
   simp only [Option.some.injEq, Prod.mk.injEq] at H
   obtain ⟨rfl, rfl⟩ := H
   go_enter Try.func40, Try.ntmps40
   go_wp2_with (first | ((with_reducible refine gate_dst (N := 9) rfl ?_); refine Kd.N_lit (Kd.slice 47 (Kd.int .u64)) _ 29 ?hg (N' := 9) ?hd (xs := ([l0, l1] : List (List Int))) (inner := [.slice A0 l0.length c0, .slice A1 l1.length c1]) (ok := (fun k_ => ((P0_ k_ ∨ P1_ k_) ∨ w.heap.size ≤ k_))) (okp := (fun k_ => ((P0_ k_ ∨ P1_ k_) ∨ w.heap.size ≤ k_))) ?hr ?hp (fun _ hk => hk) ((show ∀ k_, w.heap.size ≤ k_ → (fun k_ => ((P0_ k_ ∨ P1_ k_) ∨ w.heap.size ≤ k_)) k_ from fun k_ hk => (.inr (Nat.le_trans (below_size uB) hk))) _ (Nat.le_refl _)) (Below.refl _ _) (Nat.le_refl _) (by simp) ?_; (case hd => rfl); (case hg => rfl); (case hr => first | (go_simp; done) | (go_simp; rfl) | (go_simp; simp only [u64_u8]; done) | (go_simp; simp only [u64_u8]; rfl)); (case hp => exact (Reps.one (show Kd.FK (Kd.slice 47 (Kd.int .u64)) _ _ l0 [.slice A0 l0.length c0] from (Kd.FK_slice_mk (Kd.V_reads' (Kd.V_mono (ok' := (fun k_ => ((P0_ k_ ∨ P1_ k_) ∨ w.heap.size ≤ k_))) (HO0.out) (fun k_ hk => hk))).2.1 (Kd.V_F (Kd.V_mono (ok' := (fun k_ => ((P0_ k_ ∨ P1_ k_) ∨ w.heap.size ≤ k_))) (HO0.out) (fun k_ hk => hk))))) (Reps.one (show Kd.FK (Kd.slice 47 (Kd.int .u64)) _ _ l1 [.slice A1 l1.length c1] from (Kd.FK_slice_mk (Kd.V_reads' (Kd.V_mono (ok' := (fun k_ => ((P0_ k_ ∨ P1_ k_) ∨ w.heap.size ≤ k_))) (HO1.out) (fun k_ hk => hk))).2.1 (Kd.V_F (Kd.V_mono (ok' := (fun k_ => ((P0_ k_ ∨ P1_ k_) ∨ w.heap.size ≤ k_))) (HO1.out) (fun k_ hk => hk))))) (Reps.none _ _)))); intro v131 w7 ho8 hb hg_ hnew_; clear hg_ hnew_; (first | rw [← Ny130.out] at ho8 | (simp only [Int.reduceToNat] at ho8; rw [← Ny130.out] at ho8)); replace HO0 := Aside0.mk (Kd.V_elder' (uV HO0.out) (Kd.N_base ho8) hb); replace HO1 := Aside0.mk (Kd.V_elder' (uV HO1.out) (Kd.N_base ho8) hb); have HO132 := Aside0.mk (Kd.N_lower ho8 (below_size uB)); replace HB := uy hb; clear hb ho8; obtain ⟨Ao9, co9, eo9⟩ := Kd.N_slice HO132.out; subst eo9) | ((with_reducible refine gate_callee (f := 70) rfl ?_); refine goesL_ (some 10) rfl rfl Try.func70 (by kernel_rfl) rfl #[.slice Ao9 y130.length co9] rfl uM ?_; (with_reducible refine (nat_right.calls _ _ y130 true _ ?side1 ?side2 A3.out).mono ?_); (case side1 => exact uC (Kd.N_reads' HO132.out).2.2); (case side2 => exact (Kd.N_reads' HO132.out).2.1); rintro e w' ⟨rfl, ⟨nd, rfl⟩⟩; refine ⟨_, rfl, ?_⟩) | ((with_reducible refine gate_callee (f := 71) rfl ?_); refine goesL_ (some 15) rfl rfl Try.func71 (by kernel_rfl) rfl #[.slice A0 l0.length c0, .slice A1 l1.length c1] rfl uM ?_; (with_reducible refine (nat_compare.calls k _ _ l0 _ _ l1 t134 _ ?side1 ?side2 ?side3 ?side4 A5.out).mono ?_); (case side1 => exact uC (Kd.V_reads' HO0.out).2.2); (case side2 => exact (Kd.V_reads' HO0.out).2.1); (case side3 => exact uC (Kd.V_reads' HO1.out).2.2); (case side4 => exact (Kd.V_reads' HO1.out).2.1); rintro e w' ⟨rfl, ⟨nd, rfl⟩⟩; refine ⟨_, rfl, ?_⟩))
   go_ret2
   exact ⟨_, by first | rfl | (simp [errW_none, errW_some] <;> rfl) | (simp [*, errW_none, errW_some] <;> rfl), by first | exact Kd.R_nil _ _ _ _ _ | exact Kd.N_nil _ _ _ _ _ | exact Kd.V_nil _ _ _ _ _ | exact Kd.Q_nil _ _ _ _ _ | exact Kd.S_nil _ _ _ _ _, uB⟩
  rw [if_neg c6] at H
  have c6b0 : decide (t134 < 0) = false := decide_eq_false c6
  clear c6
  replace H := ub H; obtain ⟨t135, A10, H⟩ := H
  replace H := ub H; obtain ⟨⟨t138, t141⟩, A11, H⟩ := H
  (try dsimp only at H)
  simp only [Option.some.injEq, Prod.mk.injEq] at H
  obtain ⟨rfl, rfl⟩ := H
  go_enter Try.func40, Try.ntmps40
  go_wp2_with (first | ((with_reducible refine gate_dst (N := 9) rfl ?_); refine Kd.N_lit (Kd.slice 47 (Kd.int .u64)) _ 29 ?hg (N' := 9) ?hd (xs := ([l0, l1] : List (List Int))) (inner := [.slice A0 l0.length c0, .slice A1 l1.length c1]) (ok := (fun k_ => ((P0_ k_ ∨ P1_ k_) ∨ w.heap.size ≤ k_))) (okp := (fun k_ => ((P0_ k_ ∨ P1_ k_) ∨ w.heap.size ≤ k_))) ?hr ?hp (fun _ hk => hk) ((show ∀ k_, w.heap.size ≤ k_ → (fun k_ => ((P0_ k_ ∨ P1_ k_) ∨ w.heap.size ≤ k_)) k_ from fun k_ hk => (.inr (Nat.le_trans (below_size uB) hk))) _ (Nat.le_refl _)) (Below.refl _ _) (Nat.le_refl _) (by simp) ?_; (case hd => rfl); (case hg => rfl); (case hr => first | (go_simp; done) | (go_simp; rfl) | (go_simp; simp only [u64_u8]; done) | (go_simp; simp only [u64_u8]; rfl)); (case hp => exact (Reps.one (show Kd.FK (Kd.slice 47 (Kd.int .u64)) _ _ l0 [.slice A0 l0.length c0] from (Kd.FK_slice_mk (Kd.V_reads' (Kd.V_mono (ok' := (fun k_ => ((P0_ k_ ∨ P1_ k_) ∨ w.heap.size ≤ k_))) (HO0.out) (fun k_ hk => hk))).2.1 (Kd.V_F (Kd.V_mono (ok' := (fun k_ => ((P0_ k_ ∨ P1_ k_) ∨ w.heap.size ≤ k_))) (HO0.out) (fun k_ hk => hk))))) (Reps.one (show Kd.FK (Kd.slice 47 (Kd.int .u64)) _ _ l1 [.slice A1 l1.length c1] from (Kd.FK_slice_mk (Kd.V_reads' (Kd.V_mono (ok' := (fun k_ => ((P0_ k_ ∨ P1_ k_) ∨ w.heap.size ≤ k_))) (HO1.out) (fun k_ hk => hk))).2.1 (Kd.V_F (Kd.V_mono (ok' := (fun k_ => ((P0_ k_ ∨ P1_ k_) ∨ w.heap.size ≤ k_))) (HO1.out) (fun k_ hk => hk))))) (Reps.none _ _)))); intro v131 w12 ho13 hb hg_ hnew_; clear hg_ hnew_; (first | rw [← Ny130.out] at ho13 | (simp only [Int.reduceToNat] at ho13; rw [← Ny130.out] at ho13)); replace HO0 := Aside0.mk (Kd.V_elder' (uV HO0.out) (Kd.N_base ho13) hb); replace HO1 := Aside0.mk (Kd.V_elder' (uV HO1.out) (Kd.N_base ho13) hb); have HO132 := Aside0.mk (Kd.N_lower ho13 (below_size uB)); replace HB := uy hb; clear hb ho13; obtain ⟨Ao14, co14, eo14⟩ := Kd.N_slice HO132.out; subst eo14) | ((with_reducible refine gate_callee (f := 70) rfl ?_); refine goesL_ (some 10) rfl rfl Try.func70 (by kernel_rfl) rfl #[.slice Ao14 y130.length co14] rfl uM ?_; (with_reducible refine (nat_right.calls _ _ y130 true _ ?side1 ?side2 A3.out).mono ?_); (case side1 => exact uC (Kd.N_reads' HO132.out).2.2); (case side2 => exact (Kd.N_reads' HO132.out).2.1); rintro e w' ⟨rfl, ⟨nd, rfl⟩⟩; refine ⟨_, rfl, ?_⟩) | ((with_reducible refine gate_callee (f := 71) rfl ?_); refine goesL_ (some 15) rfl rfl Try.func71 (by kernel_rfl) rfl #[.slice A0 l0.length c0, .slice A1 l1.length c1] rfl uM ?_; (with_reducible refine (nat_compare.calls k _ _ l0 _ _ l1 t134 _ ?side1 ?side2 ?side3 ?side4 A5.out).mono ?_); (case side1 => exact uC (Kd.V_reads' HO0.out).2.2); (case side2 => exact (Kd.V_reads' HO0.out).2.1); (case side3 => exact uC (Kd.V_reads' HO1.out).2.2); (case side4 => exact (Kd.V_reads' HO1.out).2.1); rintro e w' ⟨rfl, ⟨nd, rfl⟩⟩; refine ⟨_, rfl, ?_⟩) | ((with_reducible refine gate_callee (f := 73) rfl ?_); refine goesL_ (some 19) rfl rfl Try.func73 (by kernel_rfl) rfl #[.slice A0 l0.length c0, .slice A1 l1.length c1] rfl uM ?_; (with_reducible refine (nat_less.calls k _ _ l0 _ _ l1 t135 _ ?side1 ?side2 ?side3 ?side4 A10.out).mono ?_); (case side1 => exact uC (Kd.V_reads' HO0.out).2.2); (case side2 => exact (Kd.V_reads' HO0.out).2.1); (case side3 => exact uC (Kd.V_reads' HO1.out).2.2); (case side4 => exact (Kd.V_reads' HO1.out).2.1); rintro e w15 ⟨v136, rfl, ho0, hb⟩; refine ⟨_, rfl, ?_⟩; replace HO0 := ueV HO0 ho0 hb; replace HO1 := ueV HO1 ho0 hb; replace HO132 := ueN HO132 ho0 hb; have HO137 := Aside0.mk (Kd.R_lower (Kd.R_newM (M := fun k_ => (w.heap.size ≤ k_)) ho0 (below_size uB) (fun k_ h_ => h_)) (below_size uB)); replace HB := uy hb; (try clear hb ho0); obtain ⟨Ao16, co16, eo16⟩ := Kd.R_slice HO137.out; subst eo16) | ((with_reducible refine gate_callee (f := 72) rfl ?_); refine goesL_ (some 20) rfl rfl Try.func72 (by kernel_rfl) rfl #[.slice Ao16 t135.length co16] rfl uM ?_; (with_reducible refine (nat_told.calls k (fun k_ => some k_ = (.slice Ao16 t135.length co16 : Value).ownBlock) (.slice Ao16 t135.length co16) t135 t138 t141 w _ ?side1 ?side2 A11.out).mono ?_); (case side1 => repeat (first | (with_reducible first | exact HB.out | apply below_alloc | apply pw_below_drewN | apply below_drew1) | exact HB.out)); (case side2 => exact Kd.R_tight rfl HO137.out); rintro e w17 ⟨v139, rfl, ho0, hb, hkp⟩; refine ⟨_, rfl, ?_⟩; replace HO0 := Aside0.mk (Kd.V_mono (ok' := fun k_ => ((P0_ k_ ∨ P1_ k_) ∨ w.heap.size ≤ k_) ∧ some k_ ≠ (.slice Ao14 y130.length co14 : Value).ownBlock ∧ some k_ ≠ (v139 : Value).ownBlock) (Kd.V_keptB (HO0.out) hkp (fun k_ hk_ hs_ => (hk_.2) hs_)) (fun k_ hk_ => ⟨hk_.1.1.1, hk_.1.1.2, fun e_ => Or.elim (ho0.1 k_ e_.symm) (fun hs_ => hk_.2.1 hs_) (fun hn_ => Nat.not_le.2 hk_.2.2 hn_)⟩)); replace HO1 := Aside0.mk (Kd.V_mono (ok' := fun k_ => ((P0_ k_ ∨ P1_ k_) ∨ w.heap.size ≤ k_) ∧ some k_ ≠ (.slice Ao14 y130.length co14 : Value).ownBlock ∧ some k_ ≠ (v139 : Value).ownBlock) (Kd.V_keptB (HO1.out) hkp (fun k_ hk_ hs_ => (hk_.2) hs_)) (fun k_ hk_ => ⟨hk_.1.1.1, hk_.1.1.2, fun e_ => Or.elim (ho0.1 k_ e_.symm) (fun hs_ => hk_.2.1 hs_) (fun hn_ => Nat.not_le.2 hk_.2.2 hn_)⟩)); replace HO132 := Aside0.mk (Kd.N_mono (ok' := fun k_ => ((P0_ k_ ∨ P1_ k_) ∨ w.heap.size ≤ k_) ∧ some k_ ≠ (v139 : Value).ownBlock) (Kd.N_keptB (HO132.out) hkp (fun k_ hk_ hs_ => (hk_.2) hs_)) (fun k_ hk_ => ⟨hk_.1.1, fun e_ => Or.elim (ho0.1 k_ e_.symm) (fun hs_ => hk_.2.1 hs_) (fun hn_ => Nat.not_le.2 hk_.2.2 hn_)⟩)); have HO140 := Aside0.mk (Kd.R_mono (ok' := fun k_ => (w.heap.size ≤ k_)) ho0 (fun k_ hk_ => Or.elim hk_ (fun hs_ => (HO137.out.1 k_ (hs_).symm).1) (fun hn_ => (Nat.le_trans (below_size uB) hn_)))); replace HB := Aside0.mk (hb); clear HO137; (try clear hb); (try clear hkp); (try clear ho0)))
  go_ret2
  exact ⟨_, uF, uR HO140.out, uB⟩
 replace c4 := Bool.eq_false_iff.mpr c4
 subst c4
 have H1 : (some (([] : List Int), 1)) = some (r1, r2) := by rw [if_neg (show ¬ (false = true) by decide)] at H; exact H
 clear H; have H := H1; clear H1
 simp only [Option.some.injEq, Prod.mk.injEq] at H
 obtain ⟨rfl, rfl⟩ := H
 go_enter Try.func40, Try.ntmps40
 go_wp2_with (first | ((with_reducible refine gate_dst (N := 9) rfl ?_); refine Kd.N_lit (Kd.slice 47 (Kd.int .u64)) _ 29 ?hg (N' := 9) ?hd (xs := ([l0, l1] : List (List Int))) (inner := [.slice A0 l0.length c0, .slice A1 l1.length c1]) (ok := (fun k_ => ((P0_ k_ ∨ P1_ k_) ∨ w.heap.size ≤ k_))) (okp := (fun k_ => ((P0_ k_ ∨ P1_ k_) ∨ w.heap.size ≤ k_))) ?hr ?hp (fun _ hk => hk) ((show ∀ k_, w.heap.size ≤ k_ → (fun k_ => ((P0_ k_ ∨ P1_ k_) ∨ w.heap.size ≤ k_)) k_ from fun k_ hk => (.inr (Nat.le_trans (below_size uB) hk))) _ (Nat.le_refl _)) (Below.refl _ _) (Nat.le_refl _) (by simp) ?_; (case hd => rfl); (case hg => rfl); (case hr => first | (go_simp; done) | (go_simp; rfl) | (go_simp; simp only [u64_u8]; done) | (go_simp; simp only [u64_u8]; rfl)); (case hp => exact (Reps.one (show Kd.FK (Kd.slice 47 (Kd.int .u64)) _ _ l0 [.slice A0 l0.length c0] from (Kd.FK_slice_mk (Kd.V_reads' (Kd.V_mono (ok' := (fun k_ => ((P0_ k_ ∨ P1_ k_) ∨ w.heap.size ≤ k_))) (HO0.out) (fun k_ hk => hk))).2.1 (Kd.V_F (Kd.V_mono (ok' := (fun k_ => ((P0_ k_ ∨ P1_ k_) ∨ w.heap.size ≤ k_))) (HO0.out) (fun k_ hk => hk))))) (Reps.one (show Kd.FK (Kd.slice 47 (Kd.int .u64)) _ _ l1 [.slice A1 l1.length c1] from (Kd.FK_slice_mk (Kd.V_reads' (Kd.V_mono (ok' := (fun k_ => ((P0_ k_ ∨ P1_ k_) ∨ w.heap.size ≤ k_))) (HO1.out) (fun k_ hk => hk))).2.1 (Kd.V_F (Kd.V_mono (ok' := (fun k_ => ((P0_ k_ ∨ P1_ k_) ∨ w.heap.size ≤ k_))) (HO1.out) (fun k_ hk => hk))))) (Reps.none _ _)))); intro v131 w18 ho19 hb hg_ hnew_; clear hg_ hnew_; (first | rw [← Ny130.out] at ho19 | (simp only [Int.reduceToNat] at ho19; rw [← Ny130.out] at ho19)); replace HO0 := Aside0.mk (Kd.V_elder' (uV HO0.out) (Kd.N_base ho19) hb); replace HO1 := Aside0.mk (Kd.V_elder' (uV HO1.out) (Kd.N_base ho19) hb); have HO132 := Aside0.mk (Kd.N_lower ho19 (below_size uB)); replace HB := uy hb; clear hb ho19; obtain ⟨Ao20, co20, eo20⟩ := Kd.N_slice HO132.out; subst eo20) | ((with_reducible refine gate_callee (f := 70) rfl ?_); refine goesL_ (some 10) rfl rfl Try.func70 (by kernel_rfl) rfl #[.slice Ao20 y130.length co20] rfl uM ?_; (with_reducible refine (nat_right.calls _ _ y130 false _ ?side1 ?side2 A3.out).mono ?_); (case side1 => exact uC (Kd.N_reads' HO132.out).2.2); (case side2 => exact (Kd.N_reads' HO132.out).2.1); rintro e w' ⟨rfl, ⟨nd, rfl⟩⟩; refine ⟨_, rfl, ?_⟩))
 go_ret2
 exact ⟨_, by first | rfl | (simp [errW_none, errW_some] <;> rfl) | (simp [*, errW_none, errW_some] <;> rfl), by first | exact Kd.R_nil _ _ _ _ _ | exact Kd.N_nil _ _ _ _ _ | exact Kd.V_nil _ _ _ _ _ | exact Kd.Q_nil _ _ _ _ _ | exact Kd.S_nil _ _ _ _ _, uB⟩
end Go.Proofs.Ytlkinjhmgljapab.F
end
section
namespace Go.Proofs.Ytlkinjhmgljapab.F
open Go.RowKit Go.Proofs.YtlkinjhmgljapabW.PrintWords Go.Proofs.YtlkinjhmgljapabW.PrintLast Go.Proofs.YtlkinjhmgljapabW.PrintMore
set_option linter.unusedVariables false
set_option linter.unusedSimpArgs false
def tape_Below.f (k : Nat) (n l : List Int) : Option (List Int × Int × List Int) :=
  (nat_Right.f n).bind fun b => if b = true ∧ n.length ≠ 0 then (nat_Sub.f k n [1]).bind fun s => if s.1.length = 0 then some ([], 0, l) else (nat_Bits.f k s.1).bind fun z => if 0 < z ∧ z ≤ 4096 then tape_draw.f z n k l else none
  else some ([], 1, l)
def Drawn (w w' : World) (g : Nat) (ok : Nat → Prop) (e : Ending) (x : List Int × Int × List Int) : Prop := ∃ A c, e = .returned (.tuple #[.slice A x.1.length c, .int .i64 x.2.1]) ∧ Rf w' (fun k => w.heap.size ≤ k) A c x.1 ∧ Tp w' g ok x.2.2 ∧ Stay w w' g
set_option maxHeartbeats 8000000 in
set_option maxRecDepth 100000 in
theorem tape_Below.calls (k : Nat) (g : Nat) (l n : List Int) (An : Option Addr) (cn : Nat) (ok okn : Nat → Prop) (x : List Int × Int × List Int) (w : World) (hT : Tp w g ok l) (hg : ¬ ok g) (hn : Rf w okn An cn n) (hgn : ¬ okn g) (h : tape_Below.f k n l = some x) :
    Calls Try.prog 13 #[.pointer (some ⟨g, 0, none⟩), .slice An n.length cn] w fun e w' => Drawn w w' g ok e x := by
  have HT := Aside0.mk hT
  have HN := Aside0.mk hn
  have HB := Aside0.mk (Below.refl w.heap.size w)
  clear hT hn
  unfold tape_Below.f at h
  obtain ⟨b, hb, h1⟩ := Option.bind_eq_some_iff.mp h
  have HR := Aside0.mk hb
  clear h hb
  by_cases hc : b = true ∧ n.length ≠ 0
  · rw [if_pos hc] at h1
    obtain ⟨⟨s1, s2⟩, hs, h2⟩ := Option.bind_eq_some_iff.mp h1
    obtain ⟨rfl, hn0⟩ := hc
    have hn1 : ((n.length : Int) == 0) = false := beq_eq_false_iff_ne.mpr (by omega)
    have HS := Aside0.mk hs
    clear h1 hs
    by_cases h0 : s1.length = 0
    · rw [if_pos h0] at h2
      obtain rfl := Option.some.inj h2
      have h0b : ((s1.length : Int) == 0) = true := by rw [h0]; rfl
      clear h2
      go_enter Try.func13, Try.ntmps13
      go_wp2_with (first
        | (go_at_call 39; refine (nat_Right.calls An cn n true _ (HN.out.below uB).C HN.out.2 HR.out).mono ?_; rintro e w' ⟨rfl, ⟨z_, rfl⟩⟩)
        | ((with_reducible refine gate_dst (N := 18) rfl ?_); refine Kd.R_lit (Kd.int .u64) _ 47 ?hg (N := 18) ?hd (xs := ([1] : List Int)) (inner := [.int .u64 1]) (ok := fun _ => True) (okp := fun _ => True) ?hr ?hp (fun _ hk => hk) trivial (Below.refl _ _) (Nat.le_refl _) (by simp) ?_; (case hd => rfl); (case hg => rfl); (case hr => first | (go_simp; done) | (go_simp; rfl)); (case hp => exact (Reps.one (show Kd.M (Kd.int .u64) _ _ _ 1 [.int .u64 1] from rfl) (Reps.none _ _))); intro v1 w2 ho hb hg_ hnew_; clear hg_ hnew_; obtain ⟨A2, c2, e2⟩ := Kd.R_slice ho; subst e2; have HL := Aside0.mk (Rf.of ho); have HB2 := Aside0.mk (below_step uB hb); clear HB hb ho)
        | (go_at_call 40; refine (nat_Sub.calls k _ An cn n _ A2 c2 [1] s1 s2 _ (HN.out.below uB).V HL.out.V HS.out).mono ?_; rintro e w3 ⟨v3, rfl, hR3, hb3⟩; obtain ⟨A3, c3, e3⟩ := Kd.R_slice hR3; subst e3; have HS3 := Aside0.mk (Rf.of hR3); have HB3 := Aside0.mk (below_step uB hb3); clear HB2 hR3 hb3))
      go_ret2
      exact ⟨_, _, rfl, Rf.nil _ _, HT.out.below uB, Stay.of_below uB g⟩
    · rw [if_neg h0] at h2
      obtain ⟨z, hz, h3⟩ := Option.bind_eq_some_iff.mp h2
      by_cases hzz : 0 < z ∧ z ≤ 4096
      · rw [if_pos hzz] at h3
        have h0b : ((s1.length : Int) == 0) = false := beq_eq_false_iff_ne.mpr (by omega)
        have HZ := Aside0.mk hz
        have HD := Aside0.mk h3
        clear h2 hz h3
        go_enter Try.func13, Try.ntmps13
        go_wp2_with (first
          | (go_at_call 39; refine (nat_Right.calls An cn n true _ (HN.out.below uB).C HN.out.2 HR.out).mono ?_; rintro e w' ⟨rfl, ⟨z_, rfl⟩⟩)
          | ((with_reducible refine gate_dst (N := 18) rfl ?_); refine Kd.R_lit (Kd.int .u64) _ 47 ?hg (N := 18) ?hd (xs := ([1] : List Int)) (inner := [.int .u64 1]) (ok := fun _ => True) (okp := fun _ => True) ?hr ?hp (fun _ hk => hk) trivial (Below.refl _ _) (Nat.le_refl _) (by simp) ?_; (case hd => rfl); (case hg => rfl); (case hr => first | (go_simp; done) | (go_simp; rfl)); (case hp => exact (Reps.one (show Kd.M (Kd.int .u64) _ _ _ 1 [.int .u64 1] from rfl) (Reps.none _ _))); intro v1 w2 ho hb hg_ hnew_; clear hg_ hnew_; obtain ⟨A2, c2, e2⟩ := Kd.R_slice ho; subst e2; have HL := Aside0.mk (Rf.of ho); have HB2 := Aside0.mk (below_step uB hb); clear HB hb ho)
          | (go_at_call 40; refine (nat_Sub.calls k _ An cn n _ A2 c2 [1] s1 s2 _ (HN.out.below uB).V HL.out.V HS.out).mono ?_; rintro e w3 ⟨v3, rfl, hR3, hb3⟩; obtain ⟨A3, c3, e3⟩ := Kd.R_slice hR3; subst e3; have HS3 := Aside0.mk (Rf.of hR3); have HB3 := Aside0.mk (below_step uB hb3); clear HB2 hR3 hb3)
          | (go_at_call 43; refine (nat_Bits.calls k A3 c3 s1 z _ (HS3.out.below (by repeat (first | exact Below.refl _ _ | apply below_drew | apply pw_below_drewN))).C HS3.out.2 HZ.out).mono ?_; rintro e w' ⟨rfl, ⟨z2, rfl⟩⟩)
          | (go_at_call 41; refine (tape_draw.calls k g l n z An cn ok okn x.1 x.2.1 x.2.2 _ (HT.out.below uB) hg (HN.out.below uB) hgn hzz.1 hzz.2 HD.out).mono ?_; rintro e w5 ⟨A5, c5, rfl, hr5, hT5, hS5⟩; have HB5 := Aside0.mk (show Below w.heap.size w _ from uB); have HR5 := Aside0.mk (hr5.mono (ok' := fun k => w.heap.size ≤ k) (fun k hk => Nat.le_trans (below_size HB5.out) hk)); have HT5 := Aside0.mk hT5; have HS5 := Aside0.mk ((Stay.of_below HB5.out g).trans hS5); clear hr5 hT5 hS5))
        go_ret2
        exact ⟨_, _, rfl, HR5.out, HT5.out, HS5.out⟩
      · rw [if_neg hzz] at h3
        exact absurd h3 (by simp)
  · rw [if_neg hc] at h1
    obtain rfl := Option.some.inj h1
    have key : b = false ∨ (b = true ∧ ((n.length : Int) == 0) = true) := by
      cases b with
      | false => exact .inl rfl
      | true => exact .inr ⟨rfl, by have h2 : ¬ n.length ≠ 0 := fun e => hc ⟨rfl, e⟩; rw [show n.length = 0 from by omega]; rfl⟩
    clear hc h1
    rcases key with rfl | ⟨rfl, hk⟩
    all_goals
      go_enter Try.func13, Try.ntmps13
      go_wp2_with (go_at_call 39; refine (nat_Right.calls An cn n _ _ (HN.out.below uB).C HN.out.2 HR.out).mono ?_; rintro e w' ⟨rfl, ⟨z_, rfl⟩⟩)
      go_ret2
      exact ⟨_, _, rfl, Rf.nil _ _, HT.out.below uB, Stay.of_below uB g⟩
def tape_Small.f (k : Nat) (m : Int) (l : List Int) : Option (Int × Int × List Int) :=
  if m < 1 then some (0, 1, l) else (nat_Of.f k m).bind fun n => (tape_Below.f k n l).bind fun x => (nat_Small.f k x.1).bind fun z => some (wrap64 z.1, x.2.1, x.2.2)
set_option maxHeartbeats 8000000 in
set_option maxRecDepth 100000 in
theorem tape_Small.calls (k : Nat) (g : Nat) (l : List Int) (m : Int) (ok : Nat → Prop) (x : Int × Int × List Int) (w : World) (hT : Tp w g ok l) (hg : ¬ ok g) (hm : m ≤ 9223372036854775807) (h : tape_Small.f k m l = some x) :
    Calls Try.prog 16 #[.pointer (some ⟨g, 0, none⟩), .int .i64 m] w fun e w' => e = .returned (.tuple #[.int .i64 x.1, .int .i64 x.2.1]) ∧ Tp w' g ok x.2.2 ∧ Stay w w' g := by
  have HT := Aside0.mk hT
  have HB := Aside0.mk (Below.refl w.heap.size w)
  clear hT
  unfold tape_Small.f at h
  by_cases hm1 : m < 1
  · rw [if_pos hm1] at h
    obtain rfl := Option.some.inj h
    clear h
    go_enter Try.func16, Try.ntmps16
    go_wp2
    go_ret2
    exact ⟨rfl, HT.out, Stay.refl _ _⟩
  · rw [if_neg hm1] at h
    obtain ⟨n, hn, h1⟩ := Option.bind_eq_some_iff.mp h
    obtain ⟨⟨y1, y2, y3⟩, hy, h2⟩ := Option.bind_eq_some_iff.mp h1
    obtain ⟨⟨z1, z2⟩, hz, h3⟩ := Option.bind_eq_some_iff.mp h2
    obtain rfl := Option.some.inj h3
    have HN := Aside0.mk hn
    have HY := Aside0.mk hy
    have HZ := Aside0.mk hz
    have hmb : decide (m < 1) = false := decide_eq_false hm1
    have hmw : IntKind.u64.wrap m = m := by simp [IntKind.wrap, IntKind.bits, IntKind.signed]; omega
    have HSZ := Aside0.mk (show g < w.heap.size from HT.out.lt)
    clear h h1 h2 h3 hn hy hz
    go_enter Try.func16, Try.ntmps16
    go_wp2_with (first
      | (go_at_call 53; refine (nat_Of.calls k m n _ HN.out).mono ?_; rintro e w1 ⟨v1, rfl, hR, hb⟩; obtain ⟨A1, c1, e1⟩ := Kd.R_slice hR; subst e1; have HR1 := Aside0.mk (Rf.of hR); have HB1 := Aside0.mk (below_step uB hb); clear hR hb)
      | (go_at_call 13; refine (tape_Below.calls k g l n A1 c1 ok _ (y1, y2, y3) _ (HT.out.below HB1.out) hg HR1.out (by have := HSZ.out; omega) HY.out).mono ?_; rintro e w2 ⟨A2, c2, rfl, hr2, hT2, hS2⟩; have HR2 := Aside0.mk hr2; have HT2 := Aside0.mk hT2; have HS2 := Aside0.mk ((Stay.of_below HB1.out g).trans hS2); clear hr2 hT2 hS2)
      | (go_at_call 54; refine (nat_Small.calls k A2 c2 y1 z1 z2 _ HR2.out.C HR2.out.2 HZ.out).mono ?_; rintro e w' ⟨rfl, ⟨q, rfl⟩⟩))
    go_ret2
    exact ⟨rfl, HT2.out.below (pw_below_drewN (Below.refl _ _) _), HS2.out.then (pw_below_drewN (Below.refl _ _) _)⟩
theorem infoInt20 : (Try.prog.info? 3).map (fun i => (i.zero, i.size, i.bytes)) = some (some (.int .i64 0), 1, 8) := by kernel_rfl
def swapV (V : List Int) (i j : Nat) : List Int := (V.set i (V.getD j 0)).set j (V.getD i 0)
theorem swapV_len (V : List Int) (i j : Nat) : (swapV V i j).length = V.length := by simp [swapV]
def idV (n : Nat) : Nat → List Int
  | 0 => List.replicate n 0
  | i + 1 => (idV n i).set i (i : Int)
theorem idV_len (n i : Nat) : (idV n i).length = n := by
  induction i with
  | zero => simp [idV]
  | succ i ih => rw [idV]; simp [ih]
def shuf.f (k : Nat) : Nat → List Int → List Int → Option (List Int × Int × List Int)
  | 0, V, l => some (V, 0, l)
  | i + 1, V, l => (tape_Small.f k ((i : Int) + 2) l).bind fun x => if x.2.1 = 0 then (if 0 ≤ x.1 ∧ x.1 ≤ (i : Int) + 1 then shuf.f k i (swapV V (i + 1) x.1.toNat) x.2.2 else none) else some ([], x.2.1, x.2.2)
def shuffle.f (k : Nat) (n : Int) (l : List Int) : Option (List Int × Int × List Int) :=
  if n < 0 ∨ 16384 < n then some ([], 1, l) else shuf.f k (n.toNat - 1) (idV n.toNat n.toNat) l
def Ri (w : World) (ok : Nat → Prop) (A : Option Addr) (c : Nat) (l : List Int) : Prop := Kd.F (Kd.int .i64) w ok A l.length l ∧ l.length ≤ c
def shuf.T16 : Bool × List (List Nat × List Nat) := (true, [([], []), ([], []), ([], []), ([], []), ([], []), ([], []), ([4, 5], [4, 5]), ([6], [6]), ([], []), ([], []), ([8, 9], [8, 9]), ([10], [10]), ([0, 1, 0, 1, 4, 5, 6, 7, 11], [0, 1]), ([12, 7, 0, 1, 4, 5, 6, 7, 11], [7, 12]), ([2, 3, 0, 1, 2, 3, 4, 5, 6, 7, 8, 9, 10, 11, 12, 13], [2, 3]), ([14, 11, 13, 0, 1, 2, 3, 4, 5, 6, 7, 8, 9, 10, 11, 12, 13], [11, 14])])
def shuf.B16 : List Nat := [0, 0, 0, 0, 0, 0, 48, 112, 0, 0, 768, 1792, 4083, 8179, 16383, 32767]
theorem shuf.tab16 : rtab .any (opsOf Try.f29 16) = shuf.T16 := by kernel_rfl
theorem shuf.bits16 : waitsOk shuf.T16.2 shuf.B16 = true := by kernel_rfl
set_option maxHeartbeats 8000000 in
set_option maxRecDepth 100000 in
theorem shuffle.good (k : Nat) (g : Nat) (l : List Int) (n : Nat) (ok : Nat → Prop) (x : List Int × Int × List Int) (w : World) (hT : Tp w g ok l) (hg : ¬ ok g) (hok : ∀ k, ok k → k < w.heap.size) (hn0 : 1 ≤ n) (hn1 : n ≤ 16384) (h : shuf.f k (n - 1) (idV n n) l = some x) :
    Calls Try.prog 29 #[.pointer (some ⟨g, 0, none⟩), .int .i64 (n : Int)] w fun e w' => ∃ A c, e = .returned (.tuple #[.slice A x.1.length c, .int .i64 x.2.1]) ∧ Ri w' (fun k => w.heap.size ≤ k) A c x.1 ∧ Tp w' g ok x.2.2 ∧ Stay w w' g := by
  have HT := Aside0.mk hT
  have HH := Aside0.mk h
  have HGW := Aside0.mk (show g < w.heap.size from hT.lt)
  have HB := Aside0.mk (Below.refl w.heap.size w)
  have hz1 : decide ((n : Int) < 0) = false := decide_eq_false (by omega)
  have hz2 : decide ((16384 : Int) < (n : Int)) = false := decide_eq_false (by omega)
  have hK2 : ((n : Int)).toNat = n := Int.toNat_natCast n
  clear hT h
  go_enter Try.func29, Try.ntmps29
  go_wp2_with (first | ((with_reducible refine gate_dst (N := 23) rfl ?_); refine Kd.R_make (Kd.int .i64) _ 3 rfl (N := 23) rfl 41 _ _ rfl ((n : Int)) rfl rfl Try.underlying41 (.int .i64 0) 8 infoInt20 rfl (by decide) (by omega) 0 (ok := fun _ => True) (okp := fun _ => True) rfl (fun _ hk => hk) trivial (by omega) (by omega) (Below.refl _ _) (Nat.le_refl _) ?_; intro v0 w1 ho1 hb hg_ hnew_; clear hg_ hnew_; rw [hK2] at ho1; have HB1 := Aside0.mk (below_step uB hb); obtain ⟨gt, ct, ev, hgt, hgl, _⟩ := Kd.R_form ho1 (by simp; omega); rw [List.length_replicate] at ev; subst ev; have HO1 := Aside0.mk (Kd.R_lower (base' := w.heap.size) ho1 (below_size (w := w) uB)); clear HB hb ho1 hgt hgl))
  go_loopg [26] n (fun gg v26 wr => ∃ i : Nat, v26 = .int .i64 (i : Int) ∧ i ≤ n ∧ n - i ≤ gg ∧ Aside0 (Kd.R (Kd.int .i64) 3 wr w.heap.size (fun _ => True) (.slice (some ⟨gt, 0, none⟩) n ct) (idV n i)) ∧ Aside0 (Below w.heap.size w wr))
  case atStart => exact ⟨0, rfl, by omega, by omega, HO1, HB1⟩
  case round =>
    clear HO1 HB1
    obtain ⟨i, rfl, hi, hgg, HO, HB⟩ := hrel
    by_cases hlt : i < n
    · have hltz : (i : Int) < (n : Int) := by omega
      have hiz : (0 : Int) ≤ (i : Int) := by omega
      have hyc := Kd.R_celln 0 HO.out (i : Int) (by omega) (by omega)
      have hcell := hyc.1
      have hfz : wr.frozen? ⟨gt, i, none⟩ = false := hyc.2
      simp only [Int.toNat_natCast] at hcell
      have HP := Aside0.mk (Kd.R_putg HO.out (i : Int) (i : Int))
      have HB6 := Aside0.mk (below_set (g := gt) (j := i) (v := .int .i64 (i : Int)) HB.out (Kd.R_base HO.out gt rfl))
      clear hyc HO HB
      go_wp2_with ((with_reducible refine gate_store (t := 3) (p := 32) rfl ?_); refine store_event (t := 3) (p := 32) (v := ?vo) (w1 := (wr.setCell ⟨gt, i, none⟩ (.int .i64 (i : Int)))) ?hg ?ho ?hn ?hr ?_; (case ho => rfl); (case hg => rfl); (case hn => rfl); (case hr => first | (go_simp; done) | (go_simp; rfl)); intro w5 hw; subst hw)
      have HO6 := HP.out.1
      simp only [Int.toNat_natCast] at HO6
      go_roundg (n - (i + 1))
      case measure => omega
      case rel => exact ⟨i + 1, by go_num, by omega, by omega, ⟨HO6⟩, HB6⟩
    · have hltz : ¬ (i : Int) < (n : Int) := by omega
      obtain rfl : i = n := by omega
      have HT1 := Aside0.mk (HT.out.below HB.out)
      have HS1 := Aside0.mk (Stay.of_below HB.out g)
      clear hlt hltz hgg hi HB
      go_wp2
      go_loopg [9] i (fun gg v9 wq => ∃ (j : Nat) (V l1 : List Int), v9 = .int .i64 (j : Int) ∧ j ≤ i - 1 ∧ j ≤ gg ∧ V.length = i ∧ Aside0 (shuf.f k j V l1 = some x) ∧ Aside0 (Kd.R (Kd.int .i64) 3 wq w.heap.size (fun _ => True) (.slice (some ⟨gt, 0, none⟩) i ct) V) ∧ Aside0 (Tp wq g ok l1) ∧ Aside0 (Stay w wq g))
      case atStart => exact ⟨i - 1, idV i i, l, by congr 1; omega, Nat.le_refl _, by omega, idV_len i i, HH, HO, HT1, HS1⟩
      case round =>
        clear HO HT1 HS1
        obtain ⟨j, V, l1, rfl, hj, hgg, hVl, HK, HO, HT1, HS1⟩ := hrel
        by_cases hlt : 0 < j
        · have hltz : (0 : Int) < (j : Int) := by omega
          obtain ⟨j, rfl⟩ : ∃ j', j = j' + 1 := ⟨j - 1, by omega⟩
          have hK := HK.out
          rw [shuf.f] at hK
          obtain ⟨⟨y1, y2, y3⟩, hy, hK⟩ := Option.bind_eq_some_iff.mp hK
          have HY := Aside0.mk hy
          have HGT := Aside0.mk (show gt ≠ g from by have h1 := Kd.R_base HO.out gt rfl; have h2 := HGW.out; omega)
          clear HK hy
          by_cases hy0 : y2 = 0
          · subst hy0
            rw [if_pos rfl] at hK
            by_cases hyr : 0 ≤ y1 ∧ y1 ≤ (j : Int) + 1
            · rw [if_pos hyr] at hK
              obtain ⟨q, rfl⟩ := Int.eq_ofNat_of_zero_le hyr.1
              have hq : q ≤ j + 1 := by omega
              simp only [Int.toNat_natCast] at hK
              have HK := Aside0.mk hK
              have HVL := Aside0.mk hVl
              obtain ⟨a, ha⟩ : ∃ a, a = V.getD q 0 := ⟨_, rfl⟩
              obtain ⟨b, hb⟩ : ∃ b, b = V.getD (j + 1) 0 := ⟨_, rfl⟩
              have NA := Aside0.mk ha
              have NB := Aside0.mk hb
              clear hK hyr ha hb hVl
              go_wp2_with (go_at_call 16; refine (tape_Small.calls k g l1 ((j : Int) + 2) ok ((q : Int), 0, y3) _ HT1.out hg (by omega) HY.out).mono ?_; rintro e w3 ⟨rfl, hT3, hS3⟩; have HT3 := Aside0.mk hT3; have HS3 := Aside0.mk (HS1.out.trans hS3); have HO3 := Aside0.mk (Kd.R_mono (Kd.R_keep (Kd.R_tight rfl HO.out) hS3.1 (fun k hk => by have h := HGT.out; simp [Value.ownBlock] at hk; omega)) (ok' := fun _ => True) (fun _ _ => trivial)); clear hT3 hS3 HT1 HS1 HO)
              have hjz0 : (0 : Int) ≤ (q : Int) := by omega
              have hjz1 : (q : Int) < (i : Int) := by omega
              have hiz0 : (0 : Int) ≤ (j : Int) + 1 := by omega
              have hiz1 : (j : Int) + 1 < (i : Int) := by omega
              have hcq := Kd.R_celln 0 HO3.out (q : Int) (by omega) (by omega)
              have hcj := Kd.R_celln 0 HO3.out ((j + 1 : Nat) : Int) (by omega) (by omega)
              have hcellq : w3.cell? ⟨gt, q, none⟩ = some (.int .i64 a) := by rw [NA.out]; exact hcq.1
              have hcellj : w3.cell? ⟨gt, j + 1, none⟩ = some (.int .i64 b) := by rw [NB.out]; exact hcj.1
              have hcellq2 : w3.drew.cell? ⟨gt, q, none⟩ = some (.int .i64 a) := hcellq
              have hcellj2 : w3.drew.cell? ⟨gt, j + 1, none⟩ = some (.int .i64 b) := hcellj
              have hfzj : w3.drew.frozen? ⟨gt, j + 1, none⟩ = false := hcj.2
              have HP1 := Aside0.mk (Kd.R_putg (Kd.R_drew HO3.out) ((j + 1 : Nat) : Int) a)
              have hcq2 := Kd.R_celln 0 HP1.out.1 (q : Int) (by omega) (by omega)
              have hfzq : (w3.drew.setCell ⟨gt, j + 1, none⟩ (.int .i64 a)).frozen? ⟨gt, q, none⟩ = false := hcq2.2
              have hcellq3 := hcq2.1
              have HP2 := Aside0.mk (Kd.R_putg HP1.out.1 (q : Int) b)
              have HNW := Aside0.mk (show w.heap.size ≤ gt from Kd.R_base HO3.out gt rfl)
              have HTN := Aside0.mk (show ∀ k, ok k → k ≠ gt from fun k hk => by have h1 := hok k hk; have h2 := HNW.out; omega)
              simp only [Int.toNat_natCast] at hcellq3
              have HT3d := Aside0.mk (HT3.out.below (below_drew (Below.refl _ _)))
              have HS3d := Aside0.mk (HS3.out.then (below_drew (Below.refl _ _)))
              clear hcq hcj hcq2 hcellq hcellj
              refine start_ (n := 16) (S := fun w' => w'.cell? ⟨gt, q, none⟩ = some (.int .i64 a) ∧ w'.cell? ⟨gt, j + 1, none⟩ = some (.int .i64 b)) (ds := [13, 15]) #[false, false, false, false, false, false, false, false, false, false, false, false, false, false, false, false] (by kernel_rfl) rfl rfl ⟨hcellq2, hcellj2⟩ (fun hHeld => ?_); refine with_tabW shuf.tab16 shuf.bits16 (fun HT_ HW_ => ?_)
              generalize w3.drew = w10 at HP1 HP2 hcellq2 hcellj2 hfzj hfzq hcellq3 HT3d HS3d hHeld ⊢
              refine pure_ (i := 0) (N := some 52) (v := ?_) (a' := ?_) #[true, false, false, false, false, false, false, false, false, false, false, false, false, false, false, false] rfl rfl (any_of HT_.out (by kernel_rfl)) (fun _ _ _ h => h) (Or.inl ⟨by rfl, ?_⟩) ?_ ?_
              rotate_left
              · intro w'
                go_simp
                with_reducible rfl
              rotate_left
              · simp only [Act.put, List.setIfInBounds_toArray, List.set_cons_zero, List.set_cons_succ, i64_w, i32_w]
                rfl
              refine pure_ (i := 1) (N := some 53) (v := ?_) (a' := ?_) #[true, true, false, false, false, false, false, false, false, false, false, false, false, false, false, false] rfl rfl (any_of HT_.out (by kernel_rfl)) (fun _ _ _ h => h) (Or.inl ⟨by rfl, ?_⟩) ?_ ?_
              rotate_left
              · intro w'
                go_simp
                with_reducible rfl
              rotate_left
              · simp only [Act.put, List.setIfInBounds_toArray, List.set_cons_zero, List.set_cons_succ, i64_w, i32_w]
                rfl
              refine pure_ (i := 2) (N := some 54) (v := ?_) (a' := ?_) #[true, true, true, false, false, false, false, false, false, false, false, false, false, false, false, false] rfl rfl (any_of HT_.out (by kernel_rfl)) (fun _ _ _ h => h) (Or.inl ⟨by rfl, ?_⟩) ?_ ?_
              rotate_left
              · intro w'
                go_simp
                with_reducible rfl
              rotate_left
              · simp only [Act.put, List.setIfInBounds_toArray, List.set_cons_zero, List.set_cons_succ, i64_w, i32_w]
                rfl
              refine pure_ (i := 3) (N := some 55) (v := ?_) (a' := ?_) #[true, true, true, true, false, false, false, false, false, false, false, false, false, false, false, false] rfl rfl (any_of HT_.out (by kernel_rfl)) (fun _ _ _ h => h) (Or.inl ⟨by rfl, ?_⟩) ?_ ?_
              rotate_left
              · intro w'
                go_simp
                with_reducible rfl
              rotate_left
              · simp only [Act.put, List.setIfInBounds_toArray, List.set_cons_zero, List.set_cons_succ, i64_w, i32_w]
                rfl
              refine pure_ (i := 4) (N := some 56) (v := ?_) (a' := ?_) #[true, true, true, true, true, false, false, false, false, false, false, false, false, false, false, false] rfl rfl (any_of HT_.out (by kernel_rfl)) (fun _ _ _ h => h) (Or.inl ⟨by rfl, ?_⟩) ?_ ?_
              rotate_left
              · intro w'
                go_simp
                with_reducible rfl
              rotate_left
              · simp only [Act.put, List.setIfInBounds_toArray, List.set_cons_zero, List.set_cons_succ, i64_w, i32_w]
                rfl
              refine pure_ (i := 5) (N := some 57) (v := ?_) (a' := ?_) #[true, true, true, true, true, true, false, false, false, false, false, false, false, false, false, false] rfl rfl (any_of HT_.out (by kernel_rfl)) (fun _ _ _ h => h) (Or.inl ⟨by rfl, ?_⟩) ?_ ?_
              rotate_left
              · intro w'
                go_simp
                with_reducible rfl
              rotate_left
              · simp only [Act.put, List.setIfInBounds_toArray, List.set_cons_zero, List.set_cons_succ, i64_w, i32_w]
                rfl
              refine pure_ (i := 6) (N := some 58) (v := ?_) (a' := ?_) #[true, true, true, true, true, true, true, false, false, false, false, false, false, false, false, false] rfl rfl (any_of HT_.out (by kernel_rfl)) (fun _ _ _ h => h) (Or.inl ⟨by rfl, ?_⟩) ?_ ?_
              rotate_left
              · intro w'
                go_simp
                with_reducible rfl
              rotate_left
              · simp only [Act.put, List.setIfInBounds_toArray, List.set_cons_zero, List.set_cons_succ, i64_w, i32_w]
                rfl
              refine pure_ (i := 8) (N := some 60) (v := ?_) (a' := ?_) #[true, true, true, true, true, true, true, false, true, false, false, false, false, false, false, false] rfl rfl (any_of HT_.out (by kernel_rfl)) (fun _ _ _ h => h) (Or.inl ⟨by rfl, ?_⟩) ?_ ?_
              rotate_left
              · intro w'
                go_simp
                with_reducible rfl
              rotate_left
              · simp only [Act.put, List.setIfInBounds_toArray, List.set_cons_zero, List.set_cons_succ, i64_w, i32_w]
                rfl
              refine pure_ (i := 9) (N := some 61) (v := ?_) (a' := ?_) #[true, true, true, true, true, true, true, false, true, true, false, false, false, false, false, false] rfl rfl (any_of HT_.out (by kernel_rfl)) (fun _ _ _ h => h) (Or.inl ⟨by rfl, ?_⟩) ?_ ?_
              rotate_left
              · intro w'
                go_simp
                with_reducible rfl
              rotate_left
              · simp only [Act.put, List.setIfInBounds_toArray, List.set_cons_zero, List.set_cons_succ, i64_w, i32_w]
                rfl
              refine pure_ (i := 10) (N := some 62) (v := ?_) (a' := ?_) #[true, true, true, true, true, true, true, false, true, true, true, false, false, false, false, false] rfl rfl (any_of HT_.out (by kernel_rfl)) (fun _ _ _ h => h) (Or.inl ⟨by rfl, ?_⟩) ?_ ?_
              rotate_left
              · intro w'
                go_simp
                with_reducible rfl
              rotate_left
              · simp only [Act.put, List.setIfInBounds_toArray, List.set_cons_zero, List.set_cons_succ, i64_w, i32_w]
                rfl
              refine take_ (i := 7) (N := some 59) (v := ?_) (a' := ?_) #[true, true, true, true, true, true, true, true, true, true, true, false, false, false, false, false] rfl rfl (take_ofW HT_.out HW_.out (by kernel_rfl)) (fun _ _ _ h => h) (Or.inl ⟨by rfl, ?_⟩) hHeld ?_ ?_
              rotate_left
              · rintro w' ⟨s0, s1⟩
                go_simp
                with_reducible rfl
              rotate_left
              · simp only [Act.put, List.setIfInBounds_toArray, List.set_cons_zero, List.set_cons_succ, i64_w, i32_w]
                rfl
              refine take_ (i := 11) (N := some 63) (v := ?_) (a' := ?_) #[true, true, true, true, true, true, true, true, true, true, true, true, false, false, false, false] rfl rfl (take_ofW HT_.out HW_.out (by kernel_rfl)) (fun _ _ _ h => h) (Or.inl ⟨by rfl, ?_⟩) hHeld ?_ ?_
              rotate_left
              · rintro w' ⟨s0, s1⟩
                go_simp
                with_reducible rfl
              rotate_left
              · simp only [Act.put, List.setIfInBounds_toArray, List.set_cons_zero, List.set_cons_succ, i64_w, i32_w]
                rfl
              refine pure_ (i := 12) (N := some 64) (v := ?_) (a' := ?_) #[true, true, true, true, true, true, true, true, true, true, true, true, true, false, false, false] rfl rfl (any_of HT_.out (by kernel_rfl)) (fun _ _ _ h => h) (Or.inl ⟨by rfl, ?_⟩) ?_ ?_
              rotate_left
              · intro w'
                go_simp
                with_reducible rfl
              rotate_left
              · simp only [Act.put, List.setIfInBounds_toArray, List.set_cons_zero, List.set_cons_succ, i64_w, i32_w]
                rfl
              refine last_ (i := 13) (N := none) #[true, true, true, true, true, true, true, true, true, true, true, true, true, true, false, false] rfl rfl (one_of HT_.out (by kernel_rfl)) (by decide) (fun K hK => ?_)
              refine skip_ (w1 := ?_) (by rfl) rfl ?_ ?_
              rotate_left
              · go_simp
                rfl
              refine hK.out _ _ ?_
              clear hK K
              refine pure_ (i := 14) (N := some 65) (v := ?_) (a' := ?_) #[true, true, true, true, true, true, true, true, true, true, true, true, true, true, true, false] rfl rfl (any_of HT_.out (by kernel_rfl)) (fun _ _ _ h => h) (Or.inl ⟨by rfl, ?_⟩) ?_ ?_
              rotate_left
              · intro w'
                go_simp
                with_reducible rfl
              rotate_left
              · simp only [Act.put, List.setIfInBounds_toArray, List.set_cons_zero, List.set_cons_succ, i64_w, i32_w]
                rfl
              refine last_ (i := 15) (N := none) #[true, true, true, true, true, true, true, true, true, true, true, true, true, true, true, true] rfl rfl (one_of HT_.out (by kernel_rfl)) (by decide) (fun K hK => ?_)
              refine skip_ (w1 := ?_) (by rfl) rfl ?_ ?_
              rotate_left
              · go_simp
                rfl
              refine hK.out _ _ ?_
              clear hK K
              refine done_ (done_of HT_.out (by kernel_rfl)) ?_
              go_wp2
              have HO6 := HP2.out.1
              simp only [Int.toNat_natCast] at HO6
              go_roundg j
              case measure => omega
              case rel => exact ⟨j, swapV V (j + 1) q, y3, by go_num, by omega, Nat.le_refl _, by rw [swapV_len]; exact HVL.out, HK, ⟨by unfold swapV; rw [← NA.out, ← NB.out]; exact HO6⟩, ⟨(HT3d.out.far (p := ⟨gt, j + 1, none⟩) HGT.out HTN.out _).far (p := ⟨gt, q, none⟩) HGT.out HTN.out _⟩, ⟨(HS3d.out.set_new (p := ⟨gt, j + 1, none⟩) HNW.out _).set_new (p := ⟨gt, q, none⟩) HNW.out _⟩⟩
            · rw [if_neg hyr] at hK
              exact absurd hK (by simp)
          · rw [if_neg hy0] at hK
            obtain rfl := Option.some.inj hK
            have HY0 := Aside0.mk hy0
            clear hy0 hK
            go_wp2_with (go_at_call 16; refine (tape_Small.calls k g l1 ((j : Int) + 2) ok (y1, y2, y3) _ HT1.out hg (by omega) HY.out).mono ?_; rintro e w3 ⟨rfl, hT3, hS3⟩; have HT3 := Aside0.mk hT3; have HS3 := Aside0.mk (HS1.out.trans hS3); clear hT3 hS3 HT1 HS1)
            all_goals first
              | (have h5 : (y2 != 0) = false := by assumption
                 exact absurd (by simpa using h5) HY0.out)
              | (go_ret2; exact ⟨_, _, rfl, ⟨Kd.F_nil _ _ _, Nat.le_refl _⟩, HT3.out, HS3.out⟩)
        · have hltz : ¬ (0 : Int) < (j : Int) := by omega
          obtain rfl : j = 0 := by omega
          obtain rfl := Option.some.inj HK.out
          have HVL := Aside0.mk hVl
          clear HK hVl hj hgg
          go_wp2
          go_ret2
          refine ⟨some ⟨gt, 0, none⟩, ct, by have h := HVL.out; subst h; rfl, ?_, HT1.out, HS1.out⟩
          show Kd.F (Kd.int .i64) _ _ _ V.length V ∧ V.length ≤ ct
          rw [HVL.out]
          exact ⟨Kd.R_F (Kd.R_mono (Kd.R_bound HO.out) (fun k hk => hk.2.1)), (Kd.R_reads' HO.out).2.1⟩
def Shuffled (w w' : World) (g : Nat) (ok : Nat → Prop) (e : Ending) (x : List Int × Int × List Int) : Prop := ∃ A c, e = .returned (.tuple #[.slice A x.1.length c, .int .i64 x.2.1]) ∧ Ri w' (fun k => w.heap.size ≤ k) A c x.1 ∧ Tp w' g ok x.2.2 ∧ Stay w w' g
set_option maxHeartbeats 8000000 in
set_option maxRecDepth 100000 in
theorem shuffle.empty (g : Nat) (l : List Int) (ok : Nat → Prop) (w : World) (hT : Tp w g ok l) :
    Calls Try.prog 29 #[.pointer (some ⟨g, 0, none⟩), .int .i64 0] w fun e w' => Shuffled w w' g ok e ([], 0, l) := by
  have HT := Aside0.mk hT
  have HB := Aside0.mk (Below.refl w.heap.size w)
  clear hT
  go_enter Try.func29, Try.ntmps29
  go_wp2_with (first | ((with_reducible refine gate_dst (N := 23) rfl ?_); refine Kd.R_make (Kd.int .i64) _ 3 rfl (N := 23) rfl 41 _ _ rfl (0 : Int) rfl rfl Try.underlying41 (.int .i64 0) 8 infoInt20 rfl (by decide) (by omega) 0 (ok := fun _ => True) (okp := fun _ => True) rfl (fun _ hk => hk) trivial (by omega) (by omega) (Below.refl _ _) (Nat.le_refl _) ?_; intro v0 w1 ho1 hb hg_ hnew_; clear hg_ hnew_; have HB1 := Aside0.mk (below_step uB hb); have ho2 := Kd.R_lower ho1 (below_size (w := w) uB); obtain ⟨A1, c1, e1⟩ := Kd.R_slice ho2; subst e1; have HF := Aside0.mk (show Kd.F (Kd.int .i64) w1 (fun k => w.heap.size ≤ k) A1 0 [] from Kd.R_F (Kd.R_mono (Kd.R_bound ho2) (fun k hk => hk.2.1))); clear HB hb ho1 ho2))
  go_loopg [26] 0 (fun gg v26 wr => v26 = .int .i64 0 ∧ Aside0 (Kd.F (Kd.int .i64) wr (fun k => w.heap.size ≤ k) A1 0 []) ∧ Aside0 (Below w.heap.size w wr))
  case atStart => exact ⟨rfl, HF, HB1⟩
  case round =>
    clear HB1 HF
    obtain ⟨rfl, HF, HB⟩ := hrel
    go_wp2
    go_loopg [9] 0 (fun gg v9 wr => v9 = .int .i64 (-1) ∧ Aside0 (Kd.F (Kd.int .i64) wr (fun k => w.heap.size ≤ k) A1 0 []) ∧ Aside0 (Below w.heap.size w wr))
    case atStart => exact ⟨rfl, HF, HB⟩
    case round =>
      clear HB HF
      obtain ⟨rfl, HF, HB⟩ := hrel
      go_wp2
      go_ret2
      exact ⟨_, _, rfl, ⟨HF.out, Nat.zero_le _⟩, HT.out.below HB.out, Stay.of_below HB.out g⟩
set_option maxHeartbeats 8000000 in
set_option maxRecDepth 100000 in
theorem shuffle.noTape (w : World) : Calls Try.prog 29 #[.pointer none, .int .i64 1] w fun e w' => e = .returned (.tuple #[.slice none 0 0, .int .i64 1]) ∧ w' = w := by
  go_enter Try.func29, Try.ntmps29
  go_wp2
  go_ret2
  exact ⟨rfl, rfl⟩
set_option maxHeartbeats 8000000 in
set_option maxRecDepth 100000 in
theorem shuffle.bad (g : Nat) (n : Int) (w : World) (h : n < 0 ∨ 16384 < n) : Calls Try.prog 29 #[.pointer (some ⟨g, 0, none⟩), .int .i64 n] w fun e w' => e = .returned (.tuple #[.slice none 0 0, .int .i64 1]) ∧ w' = w := by
  have key : decide (n < 0) = true ∨ (decide (n < 0) = false ∧ decide (16384 < n) = true) := by
    by_cases h1 : n < 0
    · exact .inl (decide_eq_true h1)
    · exact .inr ⟨decide_eq_false h1, decide_eq_true (by omega)⟩
  clear h
  rcases key with h1 | ⟨h1, h2⟩
  all_goals
    go_enter Try.func29, Try.ntmps29
    go_wp2
    go_ret2
    exact ⟨rfl, rfl⟩
theorem shuffle.calls (k : Nat) (g : Nat) (l : List Int) (n : Int) (ok : Nat → Prop) (x : List Int × Int × List Int) (w : World) (hT : Tp w g ok l) (hg : ¬ ok g) (hok : ∀ k, ok k → k < w.heap.size) (h : shuffle.f k n l = some x) :
    Calls Try.prog 29 #[.pointer (some ⟨g, 0, none⟩), .int .i64 n] w fun e w' => Shuffled w w' g ok e x := by
  unfold shuffle.f at h
  by_cases hb : n < 0 ∨ 16384 < n
  · rw [if_pos hb] at h
    obtain rfl := Option.some.inj h
    refine (shuffle.bad g n w hb).mono ?_
    rintro e w' ⟨rfl, rfl⟩
    exact ⟨_, _, rfl, ⟨Kd.F_nil _ _ _, Nat.le_refl _⟩, hT, Stay.refl _ _⟩
  · rw [if_neg hb] at h
    obtain ⟨m, rfl⟩ := Int.eq_ofNat_of_zero_le (show 0 ≤ n by omega)
    rw [Int.toNat_natCast] at h
    by_cases h0 : m = 0
    · subst h0
      have hx : x = ([], 0, l) := (Option.some.inj h).symm
      subst hx
      exact shuffle.empty g l ok w hT
    · exact shuffle.good k g l m ok x w hT hg hok (by omega) (by omega) h
theorem Ri.C {w : World} {ok : Nat → Prop} {A : Option Addr} {c : Nat} {l : List Int} (h : Ri w ok A c l) : Kd.C (Kd.int .i64) w A l.length l := Kd.F_now h.1
theorem Ri.below {w w1 : World} {ok : Nat → Prop} {A : Option Addr} {c : Nat} {l : List Int} (h : Ri w ok A c l) (hb : Below w.heap.size w w1) : Ri w1 ok A c l := ⟨Kd.F_below h.1 hb, h.2⟩
theorem Ri.stay {w w1 : World} {ok : Nat → Prop} {A : Option Addr} {c g : Nat} {l : List Int} (h : Ri w ok A c l) (hs : Stay w w1 g) (hg : ¬ ok g) : Ri w1 ok A c l := ⟨Kd.F_step h.1 (fun k hk hlt => hs.1.2 k hlt (fun e => hg (e ▸ hk)) (by simp)), h.2⟩
set_option maxHeartbeats 8000000 in
set_option maxRecDepth 100000 in
theorem awake.calls (k : Nat) (r : List Int) (w : World) (h : shuffle.f k 3 [0, 0] = some ([1, 2, 0], 0, r)) :
    Calls Try.prog 27 #[] w fun e w' => e = .returned (.bool true) ∧ Below w.heap.size w w' := by
  have HB := Aside0.mk (Below.refl w.heap.size w)
  have HS := Aside0.mk (fun (W : World) (g : Nat) (hT : Tp W g (fun k => k < g) [0, 0]) => (show Calls Try.prog 29 #[.pointer (some ⟨g, 0, none⟩), .int .i64 3] W fun e w' => ∃ ad c, e = .returned (.tuple #[.slice (some ad) 3 c, .int .i64 0]) ∧ w'.cell? ad = some (.int .i64 1) ∧ w'.cell? ⟨ad.block, ad.off + 1, none⟩ = some (.int .i64 2) ∧ w'.cell? ⟨ad.block, ad.off + 2, none⟩ = some (.int .i64 0) ∧ Stay W w' g from (shuffle.calls k g [0, 0] 3 (fun k => k < g) ([1, 2, 0], 0, r) W hT (Nat.lt_irrefl _) (fun k hk => Nat.lt_trans hk hT.lt) h).mono (by
    rintro e w' ⟨A, c, rfl, hr, _, hs⟩
    have hC : Kd.C (Kd.int .i64) w' A ([1, 2, 0] : List Int).length [1, 2, 0] := hr.C
    obtain ⟨ad, hA, h0⟩ := Kd.at_int hC (0 : Int) (by omega) (by decide)
    obtain ⟨ad1, hA1, h1⟩ := Kd.at_int hC (1 : Int) (by omega) (by decide)
    obtain ⟨ad2, hA2, h2⟩ := Kd.at_int hC (2 : Int) (by omega) (by decide)
    subst hA
    obtain rfl : ad = ad1 := Option.some.inj hA1
    obtain rfl : ad = ad2 := Option.some.inj hA2
    exact ⟨ad, c, rfl, h0, h1, h2, hs⟩)))
  have FR := Aside0.mk (fun (W : World) (A : Option Addr) (c : Nat) (h : Kd.C (Kd.int .u8) W A ([0, 0] : List Int).length [0, 0]) (hc : 2 ≤ c) => (show Calls Try.prog 28 #[.slice A 2 c] W _ from tape_fresh20.both A c [0, 0] W h hc (by simp)))
  clear h
  go_enter Try.func27, Try.ntmps27
  go_wp2_with (first
    | ((with_reducible refine gate_dst (N := 7) rfl ?_); refine Kd.R_lit (Kd.int .u8) _ 5 ?hg (N := 7) ?hd (xs := ([0, 0] : List Int)) (inner := [.int .u8 0, .int .u8 0]) (ok := fun _ => True) (okp := fun _ => True) ?hr ?hp (fun _ hk => hk) trivial (Below.refl _ _) (Nat.le_refl _) (by simp) ?_; (case hd => rfl); (case hg => rfl); (case hr => first | (go_simp; done) | (go_simp; rfl)); (case hp => exact (Reps.one (show Kd.M (Kd.int .u8) _ _ _ 0 [.int .u8 0] from rfl) (Reps.one (show Kd.M (Kd.int .u8) _ _ _ 0 [.int .u8 0] from rfl) (Reps.none _ _)))); intro v1 w2 ho hb_ hg_ hnew_; clear hg_ hnew_; obtain ⟨A2, c2, e2⟩ := Kd.R_slice ho; subst e2; have HL2 := Aside0.mk ho; have HB2 := Aside0.mk (below_step uB hb_); clear HB hb_ ho)
    | (go_at_call 28; (refine (FR.out _ A2 c2 (Kd.R_reads' HL2.out).2.2 (by have h := (Kd.R_reads' HL2.out).2.1; exact h)).mono ?_); rintro e w3 ⟨g1, g2, rfl, hg1, hg2, hT1, hT2, hb_⟩; have G1 := Aside0.mk (Nat.le_trans (below_size HB2.out) hg1); have T1 := Aside0.mk hT1; have HB3 := Aside0.mk (below_step HB2.out hb_); clear HB2 HL2 hb_ hT1 hT2 hg1 hg2)
    | (go_at_call 29; refine (HS.out _ g1 T1.out).mono ?_; rintro e w4 ⟨ad, c4, rfl, hc0, hc1, hc2, hs⟩; have HB4 := Aside0.mk (hs.below HB3.out G1.out); clear HB3 hs T1))
  go_ret
  exact ⟨rfl, uB⟩
end Go.Proofs.Ytlkinjhmgljapab.F
end
section
namespace Go.Proofs.Ytlkinjhmgljapab.F
open Go.RowKit Go.Proofs.YtlkinjhmgljapabW.PrintWords Go.Proofs.YtlkinjhmgljapabW.PrintLast Go.Proofs.YtlkinjhmgljapabW.PrintMore
attribute [local go_sem] max2_int min2_int max_two min_two max_three min_three max_four min_four
set_option linter.unusedVariables false
set_option linter.unusedSimpArgs false
mutual
def windbreakref01_In.l0 : Nat → List Int → List Int → Int → Option (List Int)
 | 0, _, _, _ => none
 | k + 1, x0, x3, x4 => if x4 < (x0.length : Int) then (if 0 ≤ x4 then (windbreakref01_In.l1 k x0 x3 x4 (rd x0 x4) 0) else (none)) else ((windbreakref01_cut.f k x3).bind fun t178 => (some t178))
def windbreakref01_In.l1 : Nat → List Int → List Int → Int → Int → Int → Option (List Int)
 | 0, _, _, _, _, _ => none
 | k + 1, x0, x3, x4, x5, x6 => if x6 < 4 then (if x3.length < 17592186044416 then (windbreakref01_In.l1 k x0 (x3 ++ [Int.tmod x5 65536]) x4 (IntKind.u64.wrap (Int.tdiv x5 65536)) (wrap64 (x6 + 1))) else (none)) else (windbreakref01_In.l0 k x0 x3 (wrap64 (x4 + 1)))
end
def windbreakref01_In.f (k : Nat) (l0 : List Int) : Option (List Int) := windbreakref01_In.l0 k l0 ([] : List Int) 0
set_option maxHeartbeats 8000000 in
set_option maxRecDepth 100000 in
theorem windbreakref01_In.calls (k : Nat) (A0 : Option Addr) (c0 : Nat) (l0 : List Int) (r : List Int) (w : World) (hr0 : Kd.C (Kd.int .u64) w A0 l0.length l0) (hc0 : l0.length ≤ c0) (h : windbreakref01_In.f k l0 = some r) :
  Calls Try.prog 75 #[.slice A0 l0.length c0] w fun e w' => ∃ v0_ : Value, e = .returned (v0_) ∧ Kd.R (Kd.int .u64) 47 w' w.heap.size (fun _ => True) v0_ r ∧ Below w.heap.size w w' := by
 have HR0 := Aside0.mk hr0; have HC0 := Aside0.mk hc0; clear hr0 hc0
 have HB := Aside0.mk (Below.refl w.heap.size w)
 have H : (windbreakref01_In.l0 k l0 ([] : List Int) 0) = some r := h
 clear h
 have H' := Aside0.mk H
 clear H
 go_enter Try.func75, Try.ntmps75
 go_wp2
 go_loopg [3, 4] k (fun kq v3 v4 w' => ∃ (x3_1 : List Int) (x4_1 : Int), v4 = .int .i64 x4_1 ∧ Aside0 (windbreakref01_In.l0 kq l0 x3_1 x4_1 = some r) ∧ Aside0 (kq ≤ k) ∧ Aside0 (Kd.R (Kd.int .u64) 47 w' w.heap.size (fun _ => True) v3 x3_1) ∧ Aside0 (Below w.heap.size w w'))
 case atStart => exact ⟨(([] : List Int)), (0), uG, H', ⟨Nat.le_refl _⟩, ⟨by first | exact Kd.R_nil _ _ _ _ _ | exact Kd.N_nil _ _ _ _ _ | exact Kd.V_nil _ _ _ _ _ | exact Kd.Q_nil _ _ _ _ _ | exact Kd.S_nil _ _ _ _ _⟩, ⟨uB⟩⟩
 case round =>
  clear H'
  obtain ⟨x3_1, x4_1, rfl, HA, HK1, HO_3, HB⟩ := hrel
  cases gk with
  | zero => exact absurd HA.out (by simp [windbreakref01_In.l0])
  | succ k1 =>
   have H := HA.out
   clear HA
   simp only [windbreakref01_In.l0] at H
   by_cases c2 : x4_1 < (l0.length : Int)
   ·
    rw [if_pos c2] at H
    have c2b0 : decide (x4_1 < (l0.length : Int)) = true := decide_eq_true c2
    clear c2
    replace H := uT H; obtain ⟨c3, H⟩ := H
    have c3b0 : decide (0 ≤ x4_1) = true := decide_eq_true c3
    clear c3
    have H' := Aside0.mk H
    clear H
    have p181 : 0 ≤ (x4_1 : Int) := uO
    have q181 : x4_1 < (l0.length : Int) := uO
    obtain ⟨ad181, e181, hx181_0⟩ := Kd.at_int HR0.out x4_1 p181 q181
    cases e181
    replace hx181_0 := (HB.out.cell (World.block_lt_of_cell? w _ hx181_0)).trans hx181_0
    replace p181 := eq_true p181
    replace q181 := eq_true q181
    go_wp2
    go_loopg [3, 5, 6] k1 (fun kq v3 v5 v6 w' => ∃ (x3_2 : List Int) (x5_2 : Int) (x6_2 : Int), v5 = .int .u64 x5_2 ∧ v6 = .int .i64 x6_2 ∧ Aside0 (windbreakref01_In.l1 kq l0 x3_2 x4_1 x5_2 x6_2 = some r) ∧ Aside0 (kq ≤ k1) ∧ Aside0 (Kd.R (Kd.int .u64) 47 w' w.heap.size (fun _ => True) v3 x3_2) ∧ Aside0 (Below w.heap.size w w'))
    case atStart => exact ⟨(x3_1), (rd l0 x4_1), (0), uG, uG, H', ⟨Nat.le_refl _⟩, ⟨uR HO_3.out⟩, ⟨uB⟩⟩
    case round =>
     clear H'
     (try clear p1); (try clear q1); (try clear hx1); (try clear c2); (try clear c2b0); (try clear p2); (try clear c3); (try clear c3b0); (try clear hx181_0); (try clear p181); (try clear q181)
     obtain ⟨x3_2, x5_2, x6_2, rfl, rfl, HA, HK2, HO_3, HB⟩ := hrel
     cases gk with
     | zero => exact absurd HA.out (by simp [windbreakref01_In.l1])
     | succ k2 =>
      have H := HA.out
      clear HA
      simp only [windbreakref01_In.l1] at H
      by_cases c4 : x6_2 < 4
      ·
       rw [if_pos c4] at H
       have c4b0 : decide (x6_2 < 4) = true := decide_eq_true c4
       clear c4
       replace H := uT H; obtain ⟨c5, H⟩ := H
       have LMc5 := Aside0.mk c5; clear c5
       obtain ⟨y182, hy182⟩ : ∃ y_ : List Int, y_ = (x3_2 ++ [Int.tmod x5_2 65536]) := ⟨_, rfl⟩
       replace H : (windbreakref01_In.l1 k2 l0 y182 x4_1 (IntKind.u64.wrap (Int.tdiv x5_2 65536)) (wrap64 (x6_2 + 1))) = some r := by first | (rw [hy182]; with_reducible exact H) | (have H2_ := (Option.bind_some _ _).symm.trans H; rw [hy182]; with_reducible exact H2_) | (have H2_ := (Option.bind_some _ _).symm.trans H; with_reducible exact H2_) | with_reducible exact H | (rw [hy182]; exact H) | exact H
       have Ny182 := Aside0.mk hy182; clear hy182
       have H' := Aside0.mk H
       clear H
       go_wp2_with (first | ((with_reducible refine gate_builtin (b := .append) (xs := #[.tmp 21, .tmp 24]) rfl ?_); at_builtin; refine Kd.R_append (Kd.int .u64) (w0 := w) w.heap.size rfl (.tmp 21) (.tmp 24) 123 47 (.int .u64 0) 8 rfl Try.underlying123 info47 rfl (by decide) (by omega) u3 x3_2 (Int.tmod x5_2 65536) [.int .u64 (Int.tmod x5_2 65536)] (fun _ => True) (fun _ => False) rfl rfl ?aP (fun _ hk => hk.elim) ?aF ?aO ?aB ?aS ?aL ?_; (case aP => exact rfl); (case aB => exact uB); (case aF => exact (fun _ _ => trivial)); (case aO => exact (uR HO_3.out)); (case aS => exact (below_size uB)); (case aL => have := LMc5.out; omega); intro v183 w6 ho hb hg hat; rw [← Ny182.out] at ho; replace HB := Aside0.mk (hb); have HO184 := Aside0.mk (ho); clear HO_3; clear ho hb hg hat))
       go_roundg k2
       case measure => have := HK1.out; have := HK2.out; omega
       case rel => exact ⟨(y182), (IntKind.u64.wrap (Int.tdiv x5_2 65536)), (wrap64 (x6_2 + 1)), uG, uG, H', ⟨by have := HK1.out; have := HK2.out; omega⟩, ⟨uR HO184.out⟩, ⟨uB⟩⟩
      rw [if_neg c4] at H
      have c4b0 : decide (x6_2 < 4) = false := decide_eq_false c4
      clear c4
      have H' := Aside0.mk H
      clear H
      go_wp2
      go_roundg k2
      case measure => have := HK1.out; have := HK2.out; omega
      case rel => exact ⟨(x3_2), (wrap64 (x4_1 + 1)), uG, H', ⟨by have := HK1.out; have := HK2.out; omega⟩, ⟨uR HO_3.out⟩, ⟨uB⟩⟩
   rw [if_neg c2] at H
   have c2b0 : decide (x4_1 < (l0.length : Int)) = false := decide_eq_false c2
   clear c2
   replace H := ub H; obtain ⟨t178, A7, H⟩ := H
   obtain rfl := Option.some.inj H
   obtain ⟨Ao8, co8, eo8⟩ := Kd.R_slice HO_3.out
   subst eo8
   go_wp2_with (first | ((with_reducible refine gate_callee (f := 79) rfl ?_); refine goesL_ (some 29) rfl rfl Try.func79 (by kernel_rfl) rfl #[.slice Ao8 x3_1.length co8] rfl uM ?_; (with_reducible refine (windbreakref01_cut.calls k1 (fun k_ => some k_ = (.slice Ao8 x3_1.length co8 : Value).ownBlock) (.slice Ao8 x3_1.length co8) x3_1 t178 w _ ?side1 ?side2 A7.out).mono ?_); (case side1 => repeat (first | (with_reducible first | exact HB.out | apply below_alloc | apply pw_below_drewN | apply below_drew1) | exact HB.out)); (case side2 => exact Kd.R_tight rfl HO_3.out); rintro e w9 ⟨v179, rfl, ho0, hb, hkp⟩; refine ⟨_, rfl, ?_⟩; have HO180 := Aside0.mk (Kd.R_mono (ok' := fun k_ => True) ho0 (fun k_ hk_ => trivial)); replace HB := Aside0.mk (hb); clear HO_3; (try clear hb); (try clear hkp); (try clear ho0)))
   go_ret
   exact ⟨_, uF, uR HO180.out, uB⟩
end Go.Proofs.Ytlkinjhmgljapab.F
end
section
namespace Go.Proofs.Ytlkinjhmgljapab.F
open Go.RowKit Go.Proofs.YtlkinjhmgljapabW.PrintWords Go.Proofs.YtlkinjhmgljapabW.PrintLast Go.Proofs.YtlkinjhmgljapabW.PrintMore
attribute [local go_sem] max2_int min2_int max_two min_two max_three min_three max_four min_four
set_option linter.unusedVariables false
set_option linter.unusedSimpArgs false
mutual
def windbreakref01_Out.l0 : Nat → List Int → List Int → Int → Option (List Int × Bool)
 | 0, _, _, _ => none
 | k + 1, x0, x4, x5 => if x5 < (x0.length : Int) then (windbreakref01_Out.l1 k x0 x4 x5 0 3) else (some (x4, decide ((x4.length : Int) ≤ 64)))
def windbreakref01_Out.l1 : Nat → List Int → List Int → Int → Int → Int → Option (List Int × Bool)
 | 0, _, _, _, _, _ => none
 | k + 1, x0, x4, x5, x6, x7 => if x7 ≥ 0 then (if (wrap64 (x5 + x7)) < (x0.length : Int) then (if 0 ≤ (wrap64 (x5 + x7)) then (windbreakref01_Out.l1 k x0 x4 x5 (IntKind.u64.wrap ((IntKind.u64.wrap (x6 * 65536)) + (rd x0 (wrap64 (x5 + x7))))) (wrap64 (x7 - 1))) else (none)) else (windbreakref01_Out.l1 k x0 x4 x5 (IntKind.u64.wrap (x6 * 65536)) (wrap64 (x7 - 1)))) else (if x4.length < 17592186044416 then (windbreakref01_Out.l0 k x0 (x4 ++ [x6]) (wrap64 (x5 + 4))) else (none))
end
def windbreakref01_Out.f (k : Nat) (l0 : List Int) : Option (List Int × Bool) := windbreakref01_Out.l0 k l0 ([] : List Int) 0
set_option maxHeartbeats 8000000 in
set_option maxRecDepth 100000 in
theorem windbreakref01_Out.calls (k : Nat) (A0 : Option Addr) (c0 : Nat) (l0 : List Int) (r1 : List Int) (r2 : Bool) (w : World) (hr0 : Kd.C (Kd.int .u64) w A0 l0.length l0) (hc0 : l0.length ≤ c0) (h : windbreakref01_Out.f k l0 = some (r1, r2)) :
  Calls Try.prog 97 #[.slice A0 l0.length c0] w fun e w' => ∃ v0_ : Value, e = .returned (.tuple #[v0_, .bool r2]) ∧ Kd.R (Kd.int .u64) 47 w' w.heap.size (fun _ => True) v0_ r1 ∧ Below w.heap.size w w' := by
 have HR0 := Aside0.mk hr0; have HC0 := Aside0.mk hc0; clear hr0 hc0
 have HB := Aside0.mk (Below.refl w.heap.size w)
 have H : (windbreakref01_Out.l0 k l0 ([] : List Int) 0) = some (r1, r2) := h
 clear h
 have H' := Aside0.mk H
 clear H
 go_enter Try.func97, Try.ntmps97
 go_wp2
 go_loopg [4, 5] k (fun kq v4 v5 w' => ∃ (x4_1 : List Int) (x5_1 : Int), v5 = .int .i64 x5_1 ∧ Aside0 (windbreakref01_Out.l0 kq l0 x4_1 x5_1 = some (r1, r2)) ∧ Aside0 (kq ≤ k) ∧ Aside0 (Kd.R (Kd.int .u64) 47 w' w.heap.size (fun _ => True) v4 x4_1) ∧ Aside0 (Below w.heap.size w w'))
 case atStart => exact ⟨(([] : List Int)), (0), uG, H', ⟨Nat.le_refl _⟩, ⟨by first | exact Kd.R_nil _ _ _ _ _ | exact Kd.N_nil _ _ _ _ _ | exact Kd.V_nil _ _ _ _ _ | exact Kd.Q_nil _ _ _ _ _ | exact Kd.S_nil _ _ _ _ _⟩, ⟨uB⟩⟩
 case round =>
  clear H'
  obtain ⟨x4_1, x5_1, rfl, HA, HK1, HO_4, HB⟩ := hrel
  cases gk with
  | zero => exact absurd HA.out (by simp [windbreakref01_Out.l0])
  | succ k1 =>
   have H := HA.out
   clear HA
   simp only [windbreakref01_Out.l0] at H
   by_cases c2 : x5_1 < (l0.length : Int)
   ·
    rw [if_pos c2] at H
    have c2b0 : decide (x5_1 < (l0.length : Int)) = true := decide_eq_true c2
    clear c2
    have H' := Aside0.mk H
    clear H
    go_wp2
    go_loopg [6, 7] k1 (fun kq v6 v7 w' => ∃ (x6_2 : Int) (x7_2 : Int), v6 = .int .u64 x6_2 ∧ v7 = .int .i64 x7_2 ∧ Aside0 (windbreakref01_Out.l1 kq l0 x4_1 x5_1 x6_2 x7_2 = some (r1, r2)) ∧ Aside0 (kq ≤ k1) ∧ Aside0 (Kd.R (Kd.int .u64) 47 w' w.heap.size (fun _ => True) u4 x4_1) ∧ Aside0 (Below w.heap.size w w'))
    case atStart => exact ⟨(0), (3), uG, uG, H', ⟨Nat.le_refl _⟩, ⟨uR HO_4.out⟩, ⟨uB⟩⟩
    case round =>
     clear H'
     (try clear c2); (try clear c2b0); (try clear p2)
     obtain ⟨x6_2, x7_2, rfl, rfl, HA, HK2, HO_4, HB⟩ := hrel
     cases gk with
     | zero => exact absurd HA.out (by simp [windbreakref01_Out.l1])
     | succ k2 =>
      have H := HA.out
      clear HA
      simp only [windbreakref01_Out.l1] at H
      by_cases c3 : x7_2 ≥ 0
      ·
       rw [if_pos c3] at H
       have c3b0 : decide (0 ≤ x7_2) = true := decide_eq_true c3
       clear c3
       by_cases c4 : (wrap64 (x5_1 + x7_2)) < (l0.length : Int)
       ·
        rw [if_pos c4] at H
        have c4b0 : decide ((wrap64 (x5_1 + x7_2)) < (l0.length : Int)) = true := decide_eq_true c4
        clear c4
        obtain ⟨ji5, hji5⟩ : ∃ j_ : Int, (wrap64 (x5_1 + x7_2)) = j_ := ⟨_, rfl⟩
        first | rw [hji5] at H | simp only [hji5] at H
        (try rw [hji5] at c4b0)
        have hji5w : (IntKind.i64.wrap (x5_1 + x7_2)) = ji5 := (i64_w _).trans hji5
        replace H := uT H; obtain ⟨c6, H⟩ := H
        have c6b0 : decide (0 ≤ (ji5)) = true := decide_eq_true c6
        clear c6
        have H' := Aside0.mk H
        clear H
        have p189 : 0 ≤ ((ji5) : Int) := uO
        have q189 : (ji5) < (l0.length : Int) := uO
        obtain ⟨ad189, e189, hx189_0⟩ := Kd.at_int HR0.out (ji5) p189 q189
        cases e189
        replace hx189_0 := (HB.out.cell (World.block_lt_of_cell? w _ hx189_0)).trans hx189_0
        replace p189 := eq_true p189
        replace q189 := eq_true q189
        go_wp2
        first | go_roundg k2 | ((try simp only [← hji5] at H'); simp only [← hji5]; go_roundg k2)
        case measure => have := HK1.out; have := HK2.out; omega
        case rel => first | exact ⟨(IntKind.u64.wrap ((IntKind.u64.wrap (x6_2 * 65536)) + (rd l0 (ji5)))), (wrap64 (x7_2 - 1)), (by first | rfl | (simp; done) | (simp only [← hji5] <;> (first | rfl | simp)) | (simp [*]; done)), uG, H', ⟨by have := HK1.out; have := HK2.out; omega⟩, ⟨uR HO_4.out⟩, ⟨uB⟩⟩ | (simp only [← hji5] at H'; exact ⟨(IntKind.u64.wrap ((IntKind.u64.wrap (x6_2 * 65536)) + (rd l0 (ji5)))), (wrap64 (x7_2 - 1)), (by first | rfl | (simp; done) | (simp only [← hji5] <;> (first | rfl | simp)) | (simp [*]; done)), uG, H', ⟨by have := HK1.out; have := HK2.out; omega⟩, ⟨uR HO_4.out⟩, ⟨uB⟩⟩)
       rw [if_neg c4] at H
       have c4b0 : decide ((wrap64 (x5_1 + x7_2)) < (l0.length : Int)) = false := decide_eq_false c4
       clear c4
       have H' := Aside0.mk H
       clear H
       go_wp2
       first | go_roundg k2 | ((try simp only [← hji5] at H'); simp only [← hji5]; go_roundg k2)
       case measure => have := HK1.out; have := HK2.out; omega
       case rel => first | exact ⟨(IntKind.u64.wrap (x6_2 * 65536)), (wrap64 (x7_2 - 1)), uG, uG, H', ⟨by have := HK1.out; have := HK2.out; omega⟩, ⟨uR HO_4.out⟩, ⟨uB⟩⟩ | (simp only [← hji5] at H'; exact ⟨(IntKind.u64.wrap (x6_2 * 65536)), (wrap64 (x7_2 - 1)), uG, uG, H', ⟨by have := HK1.out; have := HK2.out; omega⟩, ⟨uR HO_4.out⟩, ⟨uB⟩⟩)
      rw [if_neg c3] at H
      have c3b0 : decide (0 ≤ x7_2) = false := decide_eq_false c3
      clear c3
      replace H := uT H; obtain ⟨c7, H⟩ := H
      have LMc7 := Aside0.mk c7; clear c7
      obtain ⟨y190, hy190⟩ : ∃ y_ : List Int, y_ = (x4_1 ++ [x6_2]) := ⟨_, rfl⟩
      replace H : (windbreakref01_Out.l0 k2 l0 y190 (wrap64 (x5_1 + 4))) = some (r1, r2) := by first | (rw [hy190]; with_reducible exact H) | (have H2_ := (Option.bind_some _ _).symm.trans H; rw [hy190]; with_reducible exact H2_) | (have H2_ := (Option.bind_some _ _).symm.trans H; with_reducible exact H2_) | with_reducible exact H | (rw [hy190]; exact H) | exact H
      have Ny190 := Aside0.mk hy190; clear hy190
      have H' := Aside0.mk H
      clear H
      go_wp2_with (first | ((with_reducible refine gate_builtin (b := .append) (xs := #[.tmp 34, .tmp 36]) rfl ?_); at_builtin; refine Kd.R_append (Kd.int .u64) (w0 := w) w.heap.size rfl (.tmp 34) (.tmp 36) 29 47 (.int .u64 0) 8 rfl Try.underlying29 info47 rfl (by decide) (by omega) u4 x4_1 x6_2 [.int .u64 x6_2] (fun _ => True) (fun _ => False) rfl rfl ?aP (fun _ hk => hk.elim) ?aF ?aO ?aB ?aS ?aL ?_; (case aP => exact rfl); (case aB => exact uB); (case aF => exact (fun _ _ => trivial)); (case aO => exact (uR HO_4.out)); (case aS => exact (below_size uB)); (case aL => have := LMc7.out; omega); intro v191 w8 ho hb hg hat; rw [← Ny190.out] at ho; replace HB := Aside0.mk (hb); have HO192 := Aside0.mk (ho); clear HO_4; clear ho hb hg hat))
      first | go_roundg k2 | ((try simp only [← hji5] at H'); simp only [← hji5]; go_roundg k2)
      case measure => have := HK1.out; have := HK2.out; omega
      case rel => first | exact ⟨(y190), (wrap64 (x5_1 + 4)), uG, H', ⟨by have := HK1.out; have := HK2.out; omega⟩, ⟨uR HO192.out⟩, ⟨uB⟩⟩ | (simp only [← hji5] at H'; exact ⟨(y190), (wrap64 (x5_1 + 4)), uG, H', ⟨by have := HK1.out; have := HK2.out; omega⟩, ⟨uR HO192.out⟩, ⟨uB⟩⟩)
   rw [if_neg c2] at H
   have c2b0 : decide (x5_1 < (l0.length : Int)) = false := decide_eq_false c2
   clear c2
   simp only [Option.some.injEq, Prod.mk.injEq] at H
   obtain ⟨rfl, rfl⟩ := H
   obtain ⟨Ao9, co9, eo9⟩ := Kd.R_slice HO_4.out
   subst eo9
   go_wp2
   go_ret2
   exact ⟨_, uF, uR HO_4.out, uB⟩
end Go.Proofs.Ytlkinjhmgljapab.F
end
section
namespace Go.Proofs.Ytlkinjhmgljapab.F
open Go.RowKit Go.Proofs.YtlkinjhmgljapabW.PrintWords Go.Proofs.YtlkinjhmgljapabW.PrintLast Go.Proofs.YtlkinjhmgljapabW.PrintMore
attribute [local go_sem] max2_int min2_int max_two min_two max_three min_three max_four min_four
set_option linter.unusedVariables false
set_option linter.unusedSimpArgs false
def windbreakref01_told.f (k : Nat) (l0 : List Int) : Option (List Int × Int) := (windbreakref01_Out.f k l0).bind fun bt193 => (if bt193.2 = true then (some (bt193.1, 0)) else (some (([] : List Int), 4)))
set_option maxHeartbeats 8000000 in
set_option maxRecDepth 100000 in
theorem windbreakref01_told.calls (k : Nat) (A0 : Option Addr) (c0 : Nat) (l0 : List Int) (r1 : List Int) (r2 : Int) (w : World) (hr0 : Kd.C (Kd.int .u64) w A0 l0.length l0) (hc0 : l0.length ≤ c0) (h : windbreakref01_told.f k l0 = some (r1, r2)) :
  Calls Try.prog 77 #[.slice A0 l0.length c0] w fun e w' => ∃ v0_ : Value, e = .returned (.tuple #[v0_, .int .i64 r2]) ∧ Kd.R (Kd.int .u64) 47 w' w.heap.size (fun _ => True) v0_ r1 ∧ Below w.heap.size w w' := by
 have HR0 := Aside0.mk hr0; have HC0 := Aside0.mk hc0; clear hr0 hc0
 have HB := Aside0.mk (Below.refl w.heap.size w)
 have H : ((windbreakref01_Out.f k l0).bind fun bt193 => (if bt193.2 = true then (some (bt193.1, 0)) else (some (([] : List Int), 4)))) = some (r1, r2) := h
 clear h
 replace H := ub H; obtain ⟨⟨t193, t194⟩, A2, H⟩ := H
 (try dsimp only at H)
 by_cases c3 : t194 = true
 ·
  subst c3
  have H1 : (some (t193, 0)) = some (r1, r2) := by rw [if_pos rfl] at H; exact H
  clear H; have H := H1; clear H1
  simp only [Option.some.injEq, Prod.mk.injEq] at H
  obtain ⟨rfl, rfl⟩ := H
  go_enter Try.func77, Try.ntmps77
  go_wp2_with (first | ((with_reducible refine gate_callee (f := 97) rfl ?_); refine goesL_ (some 8) rfl rfl Try.func97 (by kernel_rfl) rfl #[.slice A0 l0.length c0] rfl uM ?_; (with_reducible refine (windbreakref01_Out.calls k _ _ l0 t193 true _ ?side1 ?side2 A2.out).mono ?_); (case side1 => exact uC HR0.out); (case side2 => exact HC0.out); rintro e w4 ⟨v195, rfl, ho0, hb⟩; refine ⟨_, rfl, ?_⟩; have HO196 := Aside0.mk (Kd.R_lower ho0 (below_size uB)); replace HB := uy hb; (try clear hb ho0)))
  go_ret2
  exact ⟨_, uF, uR HO196.out, uB⟩
 replace c3 := Bool.eq_false_iff.mpr c3
 subst c3
 have H1 : (some (([] : List Int), 4)) = some (r1, r2) := by rw [if_neg (show ¬ (false = true) by decide)] at H; exact H
 clear H; have H := H1; clear H1
 simp only [Option.some.injEq, Prod.mk.injEq] at H
 obtain ⟨rfl, rfl⟩ := H
 go_enter Try.func77, Try.ntmps77
 go_wp2_with (first | ((with_reducible refine gate_callee (f := 97) rfl ?_); refine goesL_ (some 8) rfl rfl Try.func97 (by kernel_rfl) rfl #[.slice A0 l0.length c0] rfl uM ?_; (with_reducible refine (windbreakref01_Out.calls k _ _ l0 t193 false _ ?side1 ?side2 A2.out).mono ?_); (case side1 => exact uC HR0.out); (case side2 => exact HC0.out); rintro e w5 ⟨v195, rfl, ho0, hb⟩; refine ⟨_, rfl, ?_⟩; have HO196 := Aside0.mk (Kd.R_lower ho0 (below_size uB)); replace HB := uy hb; (try clear hb ho0)))
 go_ret2
 exact ⟨_, by first | rfl | (simp [errW_none, errW_some] <;> rfl) | (simp [*, errW_none, errW_some] <;> rfl), by first | exact Kd.R_nil _ _ _ _ _ | exact Kd.N_nil _ _ _ _ _ | exact Kd.V_nil _ _ _ _ _ | exact Kd.Q_nil _ _ _ _ _ | exact Kd.S_nil _ _ _ _ _, uB⟩
def windbreakref01_Sub.j0 : Nat → List Int → List Int → Bool → Option (List Int × Int)
 | 0, _, _, _ => none
 | k + 1, x0, x1, x19 => if x19 = true then (some (([] : List Int), 1)) else ((windbreakref01_In.f k x0).bind fun t208 => ((windbreakref01_In.f k x1).bind fun t211 => ((windbreakref01_compare.f k t208 t211).bind fun t214 => (if t214 < 0 then (some (([] : List Int), 2)) else ((windbreakref01_sub.f k t208 t211).bind fun t215 => ((windbreakref01_told.f k t215).bind fun bt218 => (some (bt218.1, bt218.2))))))))
def windbreakref01_Sub.f (k : Nat) (l0 : List Int) (l1 : List Int) : Option (List Int × Int) := (windbreakref01_Right.f l0).bind fun t206 => ((windbreakref01_Right.f l1).bind fun t207 => (if t206 = true then (windbreakref01_Sub.j0 k l0 l1 (!t207)) else (windbreakref01_Sub.j0 k l0 l1 true)))
set_option maxHeartbeats 8000000 in
set_option maxRecDepth 100000 in
theorem windbreakref01_Sub.calls (k : Nat) (A0 : Option Addr) (c0 : Nat) (l0 : List Int) (A1 : Option Addr) (c1 : Nat) (l1 : List Int) (r1 : List Int) (r2 : Int) (w : World) (hr0 : Kd.C (Kd.int .u64) w A0 l0.length l0) (hc0 : l0.length ≤ c0) (hr1 : Kd.C (Kd.int .u64) w A1 l1.length l1) (hc1 : l1.length ≤ c1) (h : windbreakref01_Sub.f k l0 l1 = some (r1, r2)) :
  Calls Try.prog 45 #[.slice A0 l0.length c0, .slice A1 l1.length c1] w fun e w' => ∃ v0_ : Value, e = .returned (.tuple #[v0_, .int .i64 r2]) ∧ Kd.R (Kd.int .u64) 47 w' w.heap.size (fun _ => True) v0_ r1 ∧ Below w.heap.size w w' := by
 have HR0 := Aside0.mk hr0; have HC0 := Aside0.mk hc0; clear hr0 hc0; have HR1 := Aside0.mk hr1; have HC1 := Aside0.mk hc1; clear hr1 hc1
 have HB := Aside0.mk (Below.refl w.heap.size w)
 have H : ((windbreakref01_Right.f l0).bind fun t206 => ((windbreakref01_Right.f l1).bind fun t207 => (if t206 = true then (windbreakref01_Sub.j0 k l0 l1 (!t207)) else (windbreakref01_Sub.j0 k l0 l1 true)))) = some (r1, r2) := h
 clear h
 replace H := ub H; obtain ⟨t206, A3, H⟩ := H
 replace H := ub H; obtain ⟨t207, A4, H⟩ := H
 have HC5 := Aside0.mk H; clear H
 go_enter Try.func45, Try.ntmps45
 go_upto_region 3 with (first | ((with_reducible refine gate_callee (f := 44) rfl ?_); refine goesL_ (some 11) rfl rfl Try.func44 (by kernel_rfl) rfl #[.slice A0 l0.length c0] rfl uM ?_; (with_reducible refine (windbreakref01_Right.calls _ _ l0 t206 _ ?side1 ?side2 A3.out).mono ?_); (case side1 => exact uC HR0.out); (case side2 => exact HC0.out); rintro e w' ⟨rfl, ⟨nd, rfl⟩⟩; refine ⟨_, rfl, ?_⟩) | ((with_reducible refine gate_callee (f := 44) rfl ?_); refine goesL_ (some 13) rfl rfl Try.func44 (by kernel_rfl) rfl #[.slice A1 l1.length c1] rfl uM ?_; (with_reducible refine (windbreakref01_Right.calls _ _ l1 t207 _ ?side1 ?side2 A4.out).mono ?_); (case side1 => exact uC HR1.out); (case side2 => exact HC1.out); rintro e w' ⟨rfl, ⟨nd, rfl⟩⟩; refine ⟨_, rfl, ?_⟩))
 (try simp only [Act.put, List.setIfInBounds_toArray, List.set_cons_zero, List.set_cons_succ])
 go_cut [19] (fun v19 wc => ∃ (kq : Nat) (x19_4 : Bool), v19 = .bool x19_4 ∧ Aside0 (windbreakref01_Sub.j0 kq l0 l1 x19_4 = some (r1, r2)) ∧ Aside0 (kq ≤ k) ∧ Aside0 (Below w.heap.size w wc))
 case first =>
  have H := HC5.out
  clear HC5
  by_cases c6 : t206 = true
  ·
   subst c6
   have H1 : (windbreakref01_Sub.j0 k l0 l1 (!t207)) = some (r1, r2) := by rw [if_pos rfl] at H; exact H
   clear H; have H := H1; clear H1
   have H' := Aside0.mk H
   clear H
   go_wp2
   go_meet
   case rel => exact ⟨_, (!t207), uG, H', ⟨uW⟩, ⟨uB⟩⟩
  replace c6 := Bool.eq_false_iff.mpr c6
  subst c6
  have H1 : (windbreakref01_Sub.j0 k l0 l1 true) = some (r1, r2) := by rw [if_neg (show ¬ (false = true) by decide)] at H; exact H
  clear H; have H := H1; clear H1
  have H' := Aside0.mk H
  clear H
  go_wp2
  go_meet
  case rel => exact ⟨_, (true), uG, H', ⟨uW⟩, ⟨uB⟩⟩
 case rest =>
  clear HC5; (try clear c1); (try clear p2); (try clear c4); (try clear c6)
  obtain ⟨kq, x19_4, rfl, HA, HJ4, HB⟩ := hcut
  cases kq with
  | zero => exact absurd HA.out (by simp [windbreakref01_Sub.j0])
  | succ kj4 =>
   have H := HA.out
   clear HA
   simp only [windbreakref01_Sub.j0] at H
   by_cases c7 : x19_4 = true
   ·
    subst c7
    have H1 : (some (([] : List Int), 1)) = some (r1, r2) := by rw [if_pos rfl] at H; exact H
    clear H; have H := H1; clear H1
    simp only [Option.some.injEq, Prod.mk.injEq] at H
    obtain ⟨rfl, rfl⟩ := H
    go_wp2
    go_ret2
    exact ⟨_, by first | rfl | (simp [errW_none, errW_some] <;> rfl) | (simp [*, errW_none, errW_some] <;> rfl), by first | exact Kd.R_nil _ _ _ _ _ | exact Kd.N_nil _ _ _ _ _ | exact Kd.V_nil _ _ _ _ _ | exact Kd.Q_nil _ _ _ _ _ | exact Kd.S_nil _ _ _ _ _, uB⟩
   replace c7 := Bool.eq_false_iff.mpr c7
   subst c7
   have H1 : ((windbreakref01_In.f kj4 l0).bind fun t208 => ((windbreakref01_In.f kj4 l1).bind fun t211 => ((windbreakref01_compare.f kj4 t208 t211).bind fun t214 => (if t214 < 0 then (some (([] : List Int), 2)) else ((windbreakref01_sub.f kj4 t208 t211).bind fun t215 => ((windbreakref01_told.f kj4 t215).bind fun bt218 => (some (bt218.1, bt218.2)))))))) = some (r1, r2) := by rw [if_neg (show ¬ (false = true) by decide)] at H; exact H
   clear H; have H := H1; clear H1
   replace H := ub H; obtain ⟨t208, A8, H⟩ := H
   replace H := ub H; obtain ⟨t211, A9, H⟩ := H
   replace H := ub H; obtain ⟨t214, A10, H⟩ := H
   by_cases c11 : t214 < 0
   ·
    rw [if_pos c11] at H
    have c11b0 : decide (t214 < 0) = true := decide_eq_true c11
    clear c11
    simp only [Option.some.injEq, Prod.mk.injEq] at H
    obtain ⟨rfl, rfl⟩ := H
    go_wp2_with (first | ((with_reducible refine gate_callee (f := 75) rfl ?_); refine goesL_ (some 21) rfl rfl Try.func75 (by kernel_rfl) rfl #[.slice A0 l0.length c0] rfl uM ?_; (with_reducible refine (windbreakref01_In.calls kj4 _ _ l0 t208 _ ?side1 ?side2 A8.out).mono ?_); (case side1 => exact uC (Kd.C_below HR0.out HB.out)); (case side2 => exact HC0.out); rintro e w12 ⟨v209, rfl, ho0, hb⟩; refine ⟨_, rfl, ?_⟩; have HO210 := Aside0.mk (Kd.R_lower ho0 (below_size uB)); replace HB := uy hb; (try clear hb ho0)) | ((with_reducible refine gate_callee (f := 75) rfl ?_); refine goesL_ (some 23) rfl rfl Try.func75 (by kernel_rfl) rfl #[.slice A1 l1.length c1] rfl uM ?_; (with_reducible refine (windbreakref01_In.calls kj4 _ _ l1 t211 _ ?side1 ?side2 A9.out).mono ?_); (case side1 => exact uC (Kd.C_below HR1.out HB.out)); (case side2 => exact HC1.out); rintro e w13 ⟨v212, rfl, ho0, hb⟩; refine ⟨_, rfl, ?_⟩; have HO213 := Aside0.mk (Kd.R_lower (Kd.R_new' ho0 (Kd.R_lt (uR HO210.out))) (below_size uB)); replace HO210 := ueR HO210 ho0 hb; replace HB := uy hb; (try clear hb ho0); obtain ⟨Ao14, co14, eo14⟩ := Kd.R_slice HO210.out; subst eo14; obtain ⟨Ao15, co15, eo15⟩ := Kd.R_slice HO213.out; subst eo15) | ((with_reducible refine gate_callee (f := 76) rfl ?_); refine goesL_ (some 26) rfl rfl Try.func76 (by kernel_rfl) rfl #[.slice Ao14 t208.length co14, .slice Ao15 t211.length co15] rfl uM ?_; (with_reducible refine (windbreakref01_compare.calls kj4 _ _ t208 _ _ t211 t214 _ ?side1 ?side2 ?side3 ?side4 A10.out).mono ?_); (case side1 => exact uC (Kd.R_reads' HO210.out).2.2); (case side2 => exact (Kd.R_reads' HO210.out).2.1); (case side3 => exact uC (Kd.R_reads' HO213.out).2.2); (case side4 => exact (Kd.R_reads' HO213.out).2.1); rintro e w' ⟨rfl, ⟨nd, rfl⟩⟩; refine ⟨_, rfl, ?_⟩))
    go_ret2
    exact ⟨_, by first | rfl | (simp [errW_none, errW_some] <;> rfl) | (simp [*, errW_none, errW_some] <;> rfl), by first | exact Kd.R_nil _ _ _ _ _ | exact Kd.N_nil _ _ _ _ _ | exact Kd.V_nil _ _ _ _ _ | exact Kd.Q_nil _ _ _ _ _ | exact Kd.S_nil _ _ _ _ _, uB⟩
   rw [if_neg c11] at H
   have c11b0 : decide (t214 < 0) = false := decide_eq_false c11
   clear c11
   replace H := ub H; obtain ⟨t215, A16, H⟩ := H
   replace H := ub H; obtain ⟨⟨t218, t219⟩, A17, H⟩ := H
   (try dsimp only at H)
   simp only [Option.some.injEq, Prod.mk.injEq] at H
   obtain ⟨rfl, rfl⟩ := H
   go_wp2_with (first | ((with_reducible refine gate_callee (f := 75) rfl ?_); refine goesL_ (some 21) rfl rfl Try.func75 (by kernel_rfl) rfl #[.slice A0 l0.length c0] rfl uM ?_; (with_reducible refine (windbreakref01_In.calls kj4 _ _ l0 t208 _ ?side1 ?side2 A8.out).mono ?_); (case side1 => exact uC (Kd.C_below HR0.out HB.out)); (case side2 => exact HC0.out); rintro e w18 ⟨v209, rfl, ho0, hb⟩; refine ⟨_, rfl, ?_⟩; have HO210 := Aside0.mk (Kd.R_lower ho0 (below_size uB)); replace HB := uy hb; (try clear hb ho0)) | ((with_reducible refine gate_callee (f := 75) rfl ?_); refine goesL_ (some 23) rfl rfl Try.func75 (by kernel_rfl) rfl #[.slice A1 l1.length c1] rfl uM ?_; (with_reducible refine (windbreakref01_In.calls kj4 _ _ l1 t211 _ ?side1 ?side2 A9.out).mono ?_); (case side1 => exact uC (Kd.C_below HR1.out HB.out)); (case side2 => exact HC1.out); rintro e w19 ⟨v212, rfl, ho0, hb⟩; refine ⟨_, rfl, ?_⟩; have HO213 := Aside0.mk (Kd.R_lower (Kd.R_new' ho0 (Kd.R_lt (uR HO210.out))) (below_size uB)); replace HO210 := ueR HO210 ho0 hb; replace HB := uy hb; (try clear hb ho0); obtain ⟨Ao20, co20, eo20⟩ := Kd.R_slice HO210.out; subst eo20; obtain ⟨Ao21, co21, eo21⟩ := Kd.R_slice HO213.out; subst eo21) | ((with_reducible refine gate_callee (f := 76) rfl ?_); refine goesL_ (some 26) rfl rfl Try.func76 (by kernel_rfl) rfl #[.slice Ao20 t208.length co20, .slice Ao21 t211.length co21] rfl uM ?_; (with_reducible refine (windbreakref01_compare.calls kj4 _ _ t208 _ _ t211 t214 _ ?side1 ?side2 ?side3 ?side4 A10.out).mono ?_); (case side1 => exact uC (Kd.R_reads' HO210.out).2.2); (case side2 => exact (Kd.R_reads' HO210.out).2.1); (case side3 => exact uC (Kd.R_reads' HO213.out).2.2); (case side4 => exact (Kd.R_reads' HO213.out).2.1); rintro e w' ⟨rfl, ⟨nd, rfl⟩⟩; refine ⟨_, rfl, ?_⟩) | ((with_reducible refine gate_callee (f := 78) rfl ?_); refine goesL_ (some 30) rfl rfl Try.func78 (by kernel_rfl) rfl #[.slice Ao20 t208.length co20, .slice Ao21 t211.length co21] rfl uM ?_; (with_reducible refine (windbreakref01_sub.calls kj4 _ _ t208 _ _ t211 t215 _ ?side1 ?side2 ?side3 ?side4 A16.out).mono ?_); (case side1 => exact uC (Kd.R_reads' HO210.out).2.2); (case side2 => exact (Kd.R_reads' HO210.out).2.1); (case side3 => exact uC (Kd.R_reads' HO213.out).2.2); (case side4 => exact (Kd.R_reads' HO213.out).2.1); rintro e w22 ⟨v216, rfl, ho0, hb⟩; refine ⟨_, rfl, ?_⟩; have HO217 := Aside0.mk (Kd.R_lower (Kd.R_new' (Kd.R_new' ho0 (Kd.R_lt (uR HO210.out))) (Kd.R_lt (uR HO213.out))) (below_size uB)); replace HO210 := ueR HO210 ho0 hb; replace HO213 := ueR HO213 ho0 hb; replace HB := uy hb; (try clear hb ho0); obtain ⟨Ao23, co23, eo23⟩ := Kd.R_slice HO217.out; subst eo23) | ((with_reducible refine gate_callee (f := 77) rfl ?_); refine goesL_ (some 31) rfl rfl Try.func77 (by kernel_rfl) rfl #[.slice Ao23 t215.length co23] rfl uM ?_; (with_reducible refine (windbreakref01_told.calls kj4 _ _ t215 t218 t219 _ ?side1 ?side2 A17.out).mono ?_); (case side1 => exact uC (Kd.R_reads' HO217.out).2.2); (case side2 => exact (Kd.R_reads' HO217.out).2.1); rintro e w24 ⟨v220, rfl, ho0, hb⟩; refine ⟨_, rfl, ?_⟩; have HO221 := Aside0.mk (Kd.R_lower (Kd.R_new' (Kd.R_new' (Kd.R_new' ho0 (Kd.R_lt (uR HO210.out))) (Kd.R_lt (uR HO213.out))) (Kd.R_lt (uR HO217.out))) (below_size uB)); replace HO210 := ueR HO210 ho0 hb; replace HO213 := ueR HO213 ho0 hb; replace HO217 := ueR HO217 ho0 hb; replace HB := uy hb; (try clear hb ho0)))
   go_ret2
   exact ⟨_, uF, by (with_reducible repeat (first | apply Kd.R_alloc | apply Kd.R_drewN | apply Kd.R_drew)); exact Kd.R_mono HO221.out (fun _ hk => trivial), uB⟩
def windbreakref01_Cmp.j0 : Nat → List Int → List Int → Bool → Option (Int)
 | 0, _, _, _ => none
 | k + 1, x0, x1, x16 => if x16 = true then (some 0) else ((windbreakref01_In.f k x0).bind fun t329 => ((windbreakref01_In.f k x1).bind fun t332 => ((windbreakref01_compare.f k t329 t332).bind fun t335 => (some t335))))
def windbreakref01_Cmp.f (k : Nat) (l0 : List Int) (l1 : List Int) : Option (Int) := (windbreakref01_Right.f l0).bind fun t327 => ((windbreakref01_Right.f l1).bind fun t328 => (if t327 = true then (windbreakref01_Cmp.j0 k l0 l1 (!t328)) else (windbreakref01_Cmp.j0 k l0 l1 true)))
set_option maxHeartbeats 8000000 in
set_option maxRecDepth 100000 in
theorem windbreakref01_Cmp.calls (k : Nat) (A0 : Option Addr) (c0 : Nat) (l0 : List Int) (A1 : Option Addr) (c1 : Nat) (l1 : List Int) (r : Int) (w : World) (hr0 : Kd.C (Kd.int .u64) w A0 l0.length l0) (hc0 : l0.length ≤ c0) (hr1 : Kd.C (Kd.int .u64) w A1 l1.length l1) (hc1 : l1.length ≤ c1) (h : windbreakref01_Cmp.f k l0 l1 = some r) :
  Calls Try.prog 52 #[.slice A0 l0.length c0, .slice A1 l1.length c1] w fun e w' => e = .returned (.int .i64 r) ∧ Below w.heap.size w w' := by
 have HR0 := Aside0.mk hr0; have HC0 := Aside0.mk hc0; clear hr0 hc0; have HR1 := Aside0.mk hr1; have HC1 := Aside0.mk hc1; clear hr1 hc1
 have HB := Aside0.mk (Below.refl w.heap.size w)
 have H : ((windbreakref01_Right.f l0).bind fun t327 => ((windbreakref01_Right.f l1).bind fun t328 => (if t327 = true then (windbreakref01_Cmp.j0 k l0 l1 (!t328)) else (windbreakref01_Cmp.j0 k l0 l1 true)))) = some r := h
 clear h
 replace H := ub H; obtain ⟨t327, A3, H⟩ := H
 replace H := ub H; obtain ⟨t328, A4, H⟩ := H
 have HC5 := Aside0.mk H; clear H
 go_enter Try.func52, Try.ntmps52
 go_upto_region 3 with (first | ((with_reducible refine gate_callee (f := 44) rfl ?_); refine goesL_ (some 8) rfl rfl Try.func44 (by kernel_rfl) rfl #[.slice A0 l0.length c0] rfl uM ?_; (with_reducible refine (windbreakref01_Right.calls _ _ l0 t327 _ ?side1 ?side2 A3.out).mono ?_); (case side1 => exact uC HR0.out); (case side2 => exact HC0.out); rintro e w' ⟨rfl, ⟨nd, rfl⟩⟩; refine ⟨_, rfl, ?_⟩) | ((with_reducible refine gate_callee (f := 44) rfl ?_); refine goesL_ (some 10) rfl rfl Try.func44 (by kernel_rfl) rfl #[.slice A1 l1.length c1] rfl uM ?_; (with_reducible refine (windbreakref01_Right.calls _ _ l1 t328 _ ?side1 ?side2 A4.out).mono ?_); (case side1 => exact uC HR1.out); (case side2 => exact HC1.out); rintro e w' ⟨rfl, ⟨nd, rfl⟩⟩; refine ⟨_, rfl, ?_⟩))
 (try simp only [Act.put, List.setIfInBounds_toArray, List.set_cons_zero, List.set_cons_succ])
 go_cut [16] (fun v16 wc => ∃ (kq : Nat) (x16_4 : Bool), v16 = .bool x16_4 ∧ Aside0 (windbreakref01_Cmp.j0 kq l0 l1 x16_4 = some r) ∧ Aside0 (kq ≤ k) ∧ Aside0 (Below w.heap.size w wc))
 case first =>
  have H := HC5.out
  clear HC5
  by_cases c6 : t327 = true
  ·
   subst c6
   have H1 : (windbreakref01_Cmp.j0 k l0 l1 (!t328)) = some r := by rw [if_pos rfl] at H; exact H
   clear H; have H := H1; clear H1
   have H' := Aside0.mk H
   clear H
   go_wp2
   go_meet
   case rel => exact ⟨_, (!t328), uG, H', ⟨uW⟩, ⟨uB⟩⟩
  replace c6 := Bool.eq_false_iff.mpr c6
  subst c6
  have H1 : (windbreakref01_Cmp.j0 k l0 l1 true) = some r := by rw [if_neg (show ¬ (false = true) by decide)] at H; exact H
  clear H; have H := H1; clear H1
  have H' := Aside0.mk H
  clear H
  go_wp2
  go_meet
  case rel => exact ⟨_, (true), uG, H', ⟨uW⟩, ⟨uB⟩⟩
 case rest =>
  clear HC5; (try clear c1); (try clear p2); (try clear c4); (try clear c5); (try clear c6)
  obtain ⟨kq, x16_4, rfl, HA, HJ4, HB⟩ := hcut
  cases kq with
  | zero => exact absurd HA.out (by simp [windbreakref01_Cmp.j0])
  | succ kj4 =>
   have H := HA.out
   clear HA
   simp only [windbreakref01_Cmp.j0] at H
   by_cases c7 : x16_4 = true
   ·
    subst c7
    have H1 : (some 0) = some r := by rw [if_pos rfl] at H; exact H
    clear H; have H := H1; clear H1
    obtain rfl := Option.some.inj H
    go_wp2
    go_ret
    exact ⟨uF, uB⟩
   replace c7 := Bool.eq_false_iff.mpr c7
   subst c7
   have H1 : ((windbreakref01_In.f kj4 l0).bind fun t329 => ((windbreakref01_In.f kj4 l1).bind fun t332 => ((windbreakref01_compare.f kj4 t329 t332).bind fun t335 => (some t335)))) = some r := by rw [if_neg (show ¬ (false = true) by decide)] at H; exact H
   clear H; have H := H1; clear H1
   replace H := ub H; obtain ⟨t329, A8, H⟩ := H
   replace H := ub H; obtain ⟨t332, A9, H⟩ := H
   replace H := ub H; obtain ⟨t335, A10, H⟩ := H
   obtain rfl := Option.some.inj H
   go_wp2_with (first | ((with_reducible refine gate_callee (f := 75) rfl ?_); refine goesL_ (some 18) rfl rfl Try.func75 (by kernel_rfl) rfl #[.slice A0 l0.length c0] rfl uM ?_; (with_reducible refine (windbreakref01_In.calls kj4 _ _ l0 t329 _ ?side1 ?side2 A8.out).mono ?_); (case side1 => exact uC (Kd.C_below HR0.out HB.out)); (case side2 => exact HC0.out); rintro e w11 ⟨v330, rfl, ho0, hb⟩; refine ⟨_, rfl, ?_⟩; have HO331 := Aside0.mk (Kd.R_lower ho0 (below_size uB)); replace HB := uy hb; (try clear hb ho0)) | ((with_reducible refine gate_callee (f := 75) rfl ?_); refine goesL_ (some 20) rfl rfl Try.func75 (by kernel_rfl) rfl #[.slice A1 l1.length c1] rfl uM ?_; (with_reducible refine (windbreakref01_In.calls kj4 _ _ l1 t332 _ ?side1 ?side2 A9.out).mono ?_); (case side1 => exact uC (Kd.C_below HR1.out HB.out)); (case side2 => exact HC1.out); rintro e w12 ⟨v333, rfl, ho0, hb⟩; refine ⟨_, rfl, ?_⟩; have HO334 := Aside0.mk (Kd.R_lower (Kd.R_new' ho0 (Kd.R_lt (uR HO331.out))) (below_size uB)); replace HO331 := ueR HO331 ho0 hb; replace HB := uy hb; (try clear hb ho0); obtain ⟨Ao13, co13, eo13⟩ := Kd.R_slice HO331.out; subst eo13; obtain ⟨Ao14, co14, eo14⟩ := Kd.R_slice HO334.out; subst eo14) | ((with_reducible refine gate_callee (f := 76) rfl ?_); refine goesL_ (some 21) rfl rfl Try.func76 (by kernel_rfl) rfl #[.slice Ao13 t329.length co13, .slice Ao14 t332.length co14] rfl uM ?_; (with_reducible refine (windbreakref01_compare.calls kj4 _ _ t329 _ _ t332 t335 _ ?side1 ?side2 ?side3 ?side4 A10.out).mono ?_); (case side1 => exact uC (Kd.R_reads' HO331.out).2.2); (case side2 => exact (Kd.R_reads' HO331.out).2.1); (case side3 => exact uC (Kd.R_reads' HO334.out).2.2); (case side4 => exact (Kd.R_reads' HO334.out).2.1); rintro e w' ⟨rfl, ⟨nd, rfl⟩⟩; refine ⟨_, rfl, ?_⟩))
   go_ret
   exact ⟨uF, uB⟩
end Go.Proofs.Ytlkinjhmgljapab.F
end
section
namespace Go.Proofs.Ytlkinjhmgljapab.F
open Go.RowKit Go.Proofs.YtlkinjhmgljapabW.PrintWords Go.Proofs.YtlkinjhmgljapabW.PrintLast Go.Proofs.YtlkinjhmgljapabW.PrintMore
attribute [local go_sem] max2_int min2_int max_two min_two max_three min_three max_four min_four
set_option linter.unusedVariables false
set_option linter.unusedSimpArgs false
mutual
def windbreakref01_Bits.j0 : Nat → List Int → Bool → Option (Int)
 | 0, _, _ => none
 | k + 1, x0, x14 => if x14 = true then (some 0) else (if 0 ≤ (wrap64 ((x0.length : Int) - 1)) then (if (wrap64 ((x0.length : Int) - 1)) < (x0.length : Int) then (windbreakref01_Bits.l0 k x0 0 (rd x0 (wrap64 ((x0.length : Int) - 1)))) else (none)) else (none))
def windbreakref01_Bits.l0 : Nat → List Int → Int → Int → Option (Int)
 | 0, _, _, _ => none
 | k + 1, x0, x4, x5 => if x5 > 0 then (windbreakref01_Bits.l0 k x0 (wrap64 (x4 + 1)) (IntKind.u64.wrap (Int.tdiv x5 2))) else (some (wrap64 (x4 + (wrap64 (64 * (wrap64 ((x0.length : Int) - 1)))))))
end
def windbreakref01_Bits.f (k : Nat) (l0 : List Int) : Option (Int) := (windbreakref01_Right.f l0).bind fun t225 => (if t225 = true then (windbreakref01_Bits.j0 k l0 ((l0.length : Int) == 0)) else (windbreakref01_Bits.j0 k l0 true))
set_option maxHeartbeats 8000000 in
set_option maxRecDepth 100000 in
theorem windbreakref01_Bits.calls (k : Nat) (A0 : Option Addr) (c0 : Nat) (l0 : List Int) (r : Int) (w : World) (hr0 : Kd.C (Kd.int .u64) w A0 l0.length l0) (hc0 : l0.length ≤ c0) (h : windbreakref01_Bits.f k l0 = some r) :
  Calls Try.prog 47 #[.slice A0 l0.length c0] w fun e w' => e = .returned (.int .i64 r) ∧ Drawn0 w w' := by
 have HR0 := Aside0.mk hr0; have HC0 := Aside0.mk hc0; clear hr0 hc0
 have H : ((windbreakref01_Right.f l0).bind fun t225 => (if t225 = true then (windbreakref01_Bits.j0 k l0 ((l0.length : Int) == 0)) else (windbreakref01_Bits.j0 k l0 true))) = some r := h
 clear h
 replace H := ub H; obtain ⟨t225, A2, H⟩ := H
 have HC3 := Aside0.mk H; clear H
 go_enter Try.func47, Try.ntmps47
 go_upto_region 2 with (first | ((with_reducible refine gate_callee (f := 44) rfl ?_); refine goesL_ (some 7) rfl rfl Try.func44 (by kernel_rfl) rfl #[.slice A0 l0.length c0] rfl uM ?_; (with_reducible refine (windbreakref01_Right.calls _ _ l0 t225 _ ?side1 ?side2 A2.out).mono ?_); (case side1 => exact uC HR0.out); (case side2 => exact HC0.out); rintro e w' ⟨rfl, ⟨nd, rfl⟩⟩; refine ⟨_, rfl, ?_⟩))
 (try simp only [Act.put, List.setIfInBounds_toArray, List.set_cons_zero, List.set_cons_succ])
 go_cut [14] (fun v14 wc => ∃ (kq : Nat) (x14_2 : Bool), v14 = .bool x14_2 ∧ Aside0 (windbreakref01_Bits.j0 kq l0 x14_2 = some r) ∧ Aside0 (kq ≤ k) ∧ Drawn0 w wc)
 case first =>
  have H := HC3.out
  clear HC3
  by_cases c4 : t225 = true
  ·
   subst c4
   have H1 : (windbreakref01_Bits.j0 k l0 ((l0.length : Int) == 0)) = some r := by rw [if_pos rfl] at H; exact H
   clear H; have H := H1; clear H1
   have H' := Aside0.mk H
   clear H
   go_wp2
   go_meet
   case rel => exact ⟨_, (((l0.length : Int) == 0)), uG, H', ⟨uW⟩, by repeat (first | exact Drawn0.refl _ | apply Drawn0.step)⟩
  replace c4 := Bool.eq_false_iff.mpr c4
  subst c4
  have H1 : (windbreakref01_Bits.j0 k l0 true) = some r := by rw [if_neg (show ¬ (false = true) by decide)] at H; exact H
  clear H; have H := H1; clear H1
  have H' := Aside0.mk H
  clear H
  go_wp2
  go_meet
  case rel => exact ⟨_, (true), uG, H', ⟨uW⟩, by repeat (first | exact Drawn0.refl _ | apply Drawn0.step)⟩
 case rest =>
  clear HC3; (try clear p2); (try clear c4)
  obtain ⟨kq, x14_2, rfl, HA, HJ2, ⟨mc2, rfl⟩⟩ := hcut
  cases kq with
  | zero => exact absurd HA.out (by simp [windbreakref01_Bits.j0])
  | succ kj2 =>
   have H := HA.out
   clear HA
   simp only [windbreakref01_Bits.j0] at H
   by_cases c5 : x14_2 = true
   ·
    subst c5
    have H1 : (some 0) = some r := by rw [if_pos rfl] at H; exact H
    clear H; have H := H1; clear H1
    obtain rfl := Option.some.inj H
    go_wp2
    go_ret
    exact ⟨by first | rfl | (simp; done) | (simp [*]; done), by repeat (first | exact Drawn0.refl _ | apply Drawn0.step)⟩
   replace c5 := Bool.eq_false_iff.mpr c5
   subst c5
   have H1 : (if 0 ≤ (wrap64 ((l0.length : Int) - 1)) then (if (wrap64 ((l0.length : Int) - 1)) < (l0.length : Int) then (windbreakref01_Bits.l0 kj2 l0 0 (rd l0 (wrap64 ((l0.length : Int) - 1)))) else (none)) else (none)) = some r := by rw [if_neg (show ¬ (false = true) by decide)] at H; exact H
   clear H; have H := H1; clear H1
   obtain ⟨ji6, hji6⟩ : ∃ j_ : Int, (wrap64 ((l0.length : Int) - 1)) = j_ := ⟨_, rfl⟩
   first | rw [hji6] at H | simp only [hji6] at H
   have hji6w : (IntKind.i64.wrap ((l0.length : Int) - 1)) = ji6 := (i64_w _).trans hji6
   replace H := uT H; obtain ⟨c7, H⟩ := H
   have c7b0 : decide (0 ≤ (ji6)) = true := decide_eq_true c7
   clear c7
   replace H := uT H; obtain ⟨c8, H⟩ := H
   have c8b0 : decide ((ji6) < (l0.length : Int)) = true := decide_eq_true c8
   clear c8
   have H' := Aside0.mk H
   clear H
   have p226 : 0 ≤ ((ji6) : Int) := uO
   have q226 : (ji6) < (l0.length : Int) := uO
   obtain ⟨ad226, e226, hx226_0⟩ := Kd.at_int HR0.out (ji6) p226 q226
   cases e226
   replace p226 := eq_true p226
   replace q226 := eq_true q226
   go_wp2
   go_loopg [4, 5] kj2 (fun kq v4 v5 w' => ∃ (x4_2 : Int) (x5_2 : Int), v4 = .int .i64 x4_2 ∧ v5 = .int .u64 x5_2 ∧ Aside0 (windbreakref01_Bits.l0 kq l0 x4_2 x5_2 = some r) ∧ Aside0 (kq ≤ kj2) ∧ Drawn0 w w')
   case atStart => exact ⟨(0), (rd l0 (ji6)), uG, (by first | rfl | (simp; done) | (simp only [← hji6] <;> (first | rfl | simp)) | (simp [*]; done)), H', ⟨Nat.le_refl _⟩, by repeat (first | exact Drawn0.refl _ | apply Drawn0.step)⟩
   case round =>
    clear H'
    (try clear c2); (try clear p2 p2); (try clear q2); (try clear hx2); (try clear c4); (try clear c5); (try clear p6); (try clear c7); (try clear c7b0); (try clear c8); (try clear c8b0); (try clear hx226_0); (try clear p226); (try clear q226)
    obtain ⟨x4_2, x5_2, rfl, rfl, HA, HK2, ⟨m2, rfl⟩⟩ := hrel
    cases gk with
    | zero => exact absurd HA.out (by simp [windbreakref01_Bits.l0])
    | succ k2 =>
     have H := HA.out
     clear HA
     simp only [windbreakref01_Bits.l0] at H
     by_cases c9 : x5_2 > 0
     ·
      rw [if_pos c9] at H
      have c9b0 : decide (0 < x5_2) = true := decide_eq_true c9
      clear c9
      have H' := Aside0.mk H
      clear H
      go_wp2
      first | go_roundg k2 | ((try simp only [← hji6] at H'); simp only [← hji6]; go_roundg k2)
      case measure => have := HJ2.out; have := HK2.out; omega
      case rel => first | exact ⟨(wrap64 (x4_2 + 1)), (IntKind.u64.wrap (Int.tdiv x5_2 2)), uG, uG, H', ⟨by have := HJ2.out; have := HK2.out; omega⟩, by repeat (first | exact Drawn0.refl _ | apply Drawn0.step)⟩ | (simp only [← hji6] at H'; exact ⟨(wrap64 (x4_2 + 1)), (IntKind.u64.wrap (Int.tdiv x5_2 2)), uG, uG, H', ⟨by have := HJ2.out; have := HK2.out; omega⟩, by repeat (first | exact Drawn0.refl _ | apply Drawn0.step)⟩)
     rw [if_neg c9] at H
     have c9b0 : decide (0 < x5_2) = false := decide_eq_false c9
     clear c9
     obtain rfl := Option.some.inj H
     go_wp2
     go_ret
     exact ⟨by first | rfl | (simp; done) | (simp only [← hji6] <;> (first | rfl | simp)) | (simp [*]; done), by repeat (first | exact Drawn0.refl _ | apply Drawn0.step)⟩
end Go.Proofs.Ytlkinjhmgljapab.F
end
section
namespace Go.Proofs.Ytlkinjhmgljapab.F
open Go.RowKit Go.Proofs.YtlkinjhmgljapabW.PrintWords Go.Proofs.YtlkinjhmgljapabW.PrintLast Go.Proofs.YtlkinjhmgljapabW.PrintMore
attribute [local go_sem] max2_int min2_int max_two min_two max_three min_three max_four min_four
set_option linter.unusedVariables false
set_option linter.unusedSimpArgs false
mutual
def windbreakref01_Read.j1 : Nat → List Int → Int → Option (List Int × Int)
 | 0, _, _ => none
 | k + 1, x0, x4 => if (wrap64 ((x0.length : Int) - x4)) > 512 then (some (([] : List Int), 4)) else (windbreakref01_Read.l1 k x0 x4 ([] : List Int) (wrap64 ((x0.length : Int) - 1)))
def windbreakref01_Read.l1 : Nat → List Int → Int → List Int → Int → Option (List Int × Int)
 | 0, _, _, _, _ => none
 | k + 1, x0, x4, x5, x6 => if x6 ≥ x4 then (if 0 ≤ x6 then (if x6 < (x0.length : Int) then (if (wrap64 (x6 - 1)) ≥ x4 then (if 0 ≤ (wrap64 (x6 - 1)) then (if (wrap64 (x6 - 1)) < (x0.length : Int) then (if x5.length < 17592186044416 then (windbreakref01_Read.l1 k x0 x4 (x5 ++ [IntKind.u64.wrap ((IntKind.u64.wrap (rd x0 x6)) + (IntKind.u64.wrap (256 * (IntKind.u64.wrap (rd x0 (wrap64 (x6 - 1)))))))]) (wrap64 (x6 - 2))) else (none)) else (none)) else (none)) else (if x5.length < 17592186044416 then (windbreakref01_Read.l1 k x0 x4 (x5 ++ [IntKind.u64.wrap (rd x0 x6)]) (wrap64 (x6 - 2))) else (none))) else (none)) else (none)) else ((windbreakref01_cut.f k x5).bind fun t239 => ((windbreakref01_told.f k t239).bind fun bt242 => (some (bt242.1, bt242.2))))
def windbreakref01_Read.l0 : Nat → List Int → Int → Option (List Int × Int)
 | 0, _, _ => none
 | k + 1, x0, x4 => if x4 < (x0.length : Int) then (if 0 ≤ x4 then (if (rd x0 x4) = 0 then (windbreakref01_Read.l0 k x0 (wrap64 (x4 + 1))) else (windbreakref01_Read.j1 k x0 x4)) else (none)) else (windbreakref01_Read.j1 k x0 x4)
end
def windbreakref01_Read.f (k : Nat) (l0 : List Int) : Option (List Int × Int) := windbreakref01_Read.l0 k l0 0
set_option maxHeartbeats 8000000 in
set_option maxRecDepth 100000 in
theorem windbreakref01_Read.calls (k : Nat) (A0 : Option Addr) (c0 : Nat) (l0 : List Int) (r1 : List Int) (r2 : Int) (w : World) (hr0 : Kd.C (Kd.int .u8) w A0 l0.length l0) (hc0 : l0.length ≤ c0) (h : windbreakref01_Read.f k l0 = some (r1, r2)) :
  Calls Try.prog 49 #[.slice A0 l0.length c0] w fun e w' => ∃ v0_ : Value, e = .returned (.tuple #[v0_, .int .i64 r2]) ∧ Kd.R (Kd.int .u64) 47 w' w.heap.size (fun _ => True) v0_ r1 ∧ Below w.heap.size w w' := by
 have HR0 := Aside0.mk hr0; have HC0 := Aside0.mk hc0; clear hr0 hc0
 have HB := Aside0.mk (Below.refl w.heap.size w)
 have H : (windbreakref01_Read.l0 k l0 0) = some (r1, r2) := h
 clear h; have HC2 := Aside0.mk H; clear H
 go_enter Try.func49, Try.ntmps49
 go_upto_block 0 with (fail)
 go_cut [4] (fun v4 wc => ∃ (kq : Nat) (x4_1 : Int), v4 = .int .i64 x4_1 ∧ Aside0 (windbreakref01_Read.j1 kq l0 x4_1 = some (r1, r2)) ∧ Aside0 (kq ≤ k) ∧ Aside0 (Below w.heap.size w wc))
 case first =>
  have H := HC2.out
  clear HC2
  have H' := Aside0.mk H
  clear H
  go_wp2
  go_loopg [4] k (fun kq v4 w' => ∃ (x4_1 : Int), v4 = .int .i64 x4_1 ∧ Aside0 (windbreakref01_Read.l0 kq l0 x4_1 = some (r1, r2)) ∧ Aside0 (kq ≤ k) ∧ Aside0 (Below w.heap.size w w'))
  case atStart => exact ⟨(0), uG, H', ⟨Nat.le_refl _⟩, ⟨uB⟩⟩
  case round =>
   clear H'
   (try clear p2)
   obtain ⟨x4_1, rfl, HA, HK1, HB⟩ := hrel
   cases gk with
   | zero => exact absurd HA.out (by simp [windbreakref01_Read.l0])
   | succ k1 =>
    have H := HA.out
    clear HA
    simp only [windbreakref01_Read.l0] at H
    by_cases c3 : x4_1 < (l0.length : Int)
    ·
     rw [if_pos c3] at H
     have c3b0 : decide (x4_1 < (l0.length : Int)) = true := decide_eq_true c3
     clear c3
     (first | rw [c3b0] | (simp only [i64_w, i32_w]; rw [c3b0]) | skip)
     replace H := uT H; obtain ⟨c4, H⟩ := H
     have c4b0 : decide (0 ≤ x4_1) = true := decide_eq_true c4
     clear c4
     by_cases c5 : (rd l0 x4_1) = 0
     ·
      rw [if_pos c5] at H
      have c5b0 : ((rd l0 x4_1) == 0) = true := beq_iff_eq.mpr c5
      have c5b1 : ((rd l0 x4_1) != 0) = false := bne_eq_false_iff_eq.mpr c5
      clear c5
      have H' := Aside0.mk H
      clear H
      have p230 : 0 ≤ (x4_1 : Int) := uO
      have q230 : x4_1 < (l0.length : Int) := uO
      obtain ⟨ad230, e230, hx230_0⟩ := Kd.at_int HR0.out x4_1 p230 q230
      cases e230
      replace hx230_0 := (HB.out.cell (World.block_lt_of_cell? w _ hx230_0)).trans hx230_0
      replace p230 := eq_true p230
      replace q230 := eq_true q230
      go_wp2
      go_roundg k1
      case measure => have := HK1.out; omega
      case rel => exact ⟨(wrap64 (x4_1 + 1)), uG, H', ⟨by have := HK1.out; omega⟩, ⟨uB⟩⟩
     rw [if_neg c5] at H
     have c5b0 : ((rd l0 x4_1) == 0) = false := beq_eq_false_iff_ne.mpr c5
     have c5b1 : ((rd l0 x4_1) != 0) = true := bne_iff_ne.mpr c5
     have H' := Aside0.mk H
     clear H
     have p230 : 0 ≤ (x4_1 : Int) := uO
     have q230 : x4_1 < (l0.length : Int) := uO
     obtain ⟨ad230, e230, hx230_0⟩ := Kd.at_int HR0.out x4_1 p230 q230
     cases e230
     replace hx230_0 := (HB.out.cell (World.block_lt_of_cell? w _ hx230_0)).trans hx230_0
     replace p230 := eq_true p230
     replace q230 := eq_true q230
     go_wp2
     go_meet
     case rel => exact ⟨_, (x4_1), uG, H', ⟨by have := HK1.out; first | omega | exact Nat.le_refl _⟩, ⟨uB⟩⟩
    rw [if_neg c3] at H
    have c3b0 : decide (x4_1 < (l0.length : Int)) = false := decide_eq_false c3
    clear c3
    (first | rw [c3b0] | (simp only [i64_w, i32_w]; rw [c3b0]) | skip)
    have H' := Aside0.mk H
    clear H
    go_wp2
    go_meet
    case rel => exact ⟨_, (x4_1), uG, H', ⟨by have := HK1.out; first | omega | exact Nat.le_refl _⟩, ⟨uB⟩⟩
 case rest =>
  clear HC2; (try clear p2 p2); (try clear q2); (try clear hx2); (try clear c3); (try clear c3b0); (try clear c4); (try clear c4b0); (try clear c5); (try clear c5b0); (try clear c5b1); (try clear hx230_0); (try clear p230); (try clear q230)
  obtain ⟨kq, x4_1, rfl, HA, HJ1, HB⟩ := hcut
  cases kq with
  | zero => exact absurd HA.out (by simp [windbreakref01_Read.j1])
  | succ kj1 =>
   have H := HA.out
   clear HA
   simp only [windbreakref01_Read.j1] at H
   by_cases c6 : (wrap64 ((l0.length : Int) - x4_1)) > 512
   ·
    rw [if_pos c6] at H
    have c6b0 : decide (512 < (wrap64 ((l0.length : Int) - x4_1))) = true := decide_eq_true c6
    clear c6
    simp only [Option.some.injEq, Prod.mk.injEq] at H
    obtain ⟨rfl, rfl⟩ := H
    go_wp2
    go_ret2
    exact ⟨_, by first | rfl | (simp [errW_none, errW_some] <;> rfl) | (simp [*, errW_none, errW_some] <;> rfl), by first | exact Kd.R_nil _ _ _ _ _ | exact Kd.N_nil _ _ _ _ _ | exact Kd.V_nil _ _ _ _ _ | exact Kd.Q_nil _ _ _ _ _ | exact Kd.S_nil _ _ _ _ _, uB⟩
   rw [if_neg c6] at H
   have c6b0 : decide (512 < (wrap64 ((l0.length : Int) - x4_1))) = false := decide_eq_false c6
   clear c6
   have H' := Aside0.mk H
   clear H
   go_wp2
   go_loopg [5, 6] kj1 (fun kq v5 v6 w' => ∃ (x5_2 : List Int) (x6_2 : Int), v6 = .int .i64 x6_2 ∧ Aside0 (windbreakref01_Read.l1 kq l0 x4_1 x5_2 x6_2 = some (r1, r2)) ∧ Aside0 (kq ≤ kj1) ∧ Aside0 (Kd.R (Kd.int .u64) 47 w' w.heap.size (fun _ => True) v5 x5_2) ∧ Aside0 (Below w.heap.size w w'))
   case atStart => exact ⟨(([] : List Int)), (wrap64 ((l0.length : Int) - 1)), uG, H', ⟨Nat.le_refl _⟩, ⟨by first | exact Kd.R_nil _ _ _ _ _ | exact Kd.N_nil _ _ _ _ _ | exact Kd.V_nil _ _ _ _ _ | exact Kd.Q_nil _ _ _ _ _ | exact Kd.S_nil _ _ _ _ _⟩, ⟨uB⟩⟩
   case round =>
    clear H'
    (try clear p2 p2); (try clear q2 q2); (try clear hx2); (try clear c3); (try clear c3b0); (try clear c4); (try clear c4b0); (try clear c5); (try clear c5b0); (try clear c5b1); (try clear c6); (try clear c6b0); (try clear p6); (try clear hx230_0); (try clear p230); (try clear q230)
    obtain ⟨x5_2, x6_2, rfl, HA, HK2, HO_5, HB⟩ := hrel
    cases gk with
    | zero => exact absurd HA.out (by simp [windbreakref01_Read.l1])
    | succ k2 =>
     have H := HA.out
     clear HA
     simp only [windbreakref01_Read.l1] at H
     by_cases c7 : x6_2 ≥ x4_1
     ·
      rw [if_pos c7] at H
      have c7b0 : decide (x4_1 ≤ x6_2) = true := decide_eq_true c7
      clear c7
      replace H := uT H; obtain ⟨c8, H⟩ := H
      have c8b0 : decide (0 ≤ x6_2) = true := decide_eq_true c8
      clear c8
      replace H := uT H; obtain ⟨c9, H⟩ := H
      have c9b0 : decide (x6_2 < (l0.length : Int)) = true := decide_eq_true c9
      clear c9
      by_cases c10 : (wrap64 (x6_2 - 1)) ≥ x4_1
      ·
       rw [if_pos c10] at H
       have c10b0 : decide (x4_1 ≤ (wrap64 (x6_2 - 1))) = true := decide_eq_true c10
       clear c10
       obtain ⟨ji11, hji11⟩ : ∃ j_ : Int, (wrap64 (x6_2 - 1)) = j_ := ⟨_, rfl⟩
       first | rw [hji11] at H | simp only [hji11] at H
       (try rw [hji11] at c10b0)
       have hji11w : (IntKind.i64.wrap (x6_2 - 1)) = ji11 := (i64_w _).trans hji11
       replace H := uT H; obtain ⟨c12, H⟩ := H
       have c12b0 : decide (0 ≤ (ji11)) = true := decide_eq_true c12
       clear c12
       replace H := uT H; obtain ⟨c13, H⟩ := H
       have c13b0 : decide ((ji11) < (l0.length : Int)) = true := decide_eq_true c13
       clear c13
       replace H := uT H; obtain ⟨c14, H⟩ := H
       have LMc14 := Aside0.mk c14; clear c14
       obtain ⟨y233, hy233⟩ : ∃ y_ : List Int, y_ = (x5_2 ++ [IntKind.u64.wrap ((IntKind.u64.wrap (rd l0 x6_2)) + (IntKind.u64.wrap (256 * (IntKind.u64.wrap (rd l0 (ji11))))))]) := ⟨_, rfl⟩
       replace H : (windbreakref01_Read.l1 k2 l0 x4_1 y233 (wrap64 (x6_2 - 2))) = some (r1, r2) := by first | (rw [hy233]; with_reducible exact H) | (have H2_ := (Option.bind_some _ _).symm.trans H; rw [hy233]; with_reducible exact H2_) | (have H2_ := (Option.bind_some _ _).symm.trans H; with_reducible exact H2_) | with_reducible exact H | (rw [hy233]; exact H) | exact H
       have Ny233 := Aside0.mk hy233; clear hy233
       have H' := Aside0.mk H
       clear H
       have p231 : 0 ≤ (x6_2 : Int) := uO
       have q231 : x6_2 < (l0.length : Int) := uO
       obtain ⟨ad231, e231, hx231_0⟩ := Kd.at_int HR0.out x6_2 p231 q231
       cases e231
       replace hx231_0 := (HB.out.cell (World.block_lt_of_cell? w _ hx231_0)).trans hx231_0
       replace p231 := eq_true p231
       replace q231 := eq_true q231
       have p232 : 0 ≤ ((ji11) : Int) := uO
       have q232 : (ji11) < (l0.length : Int) := uO
       obtain ⟨ad232, e232, hx232_0⟩ := Kd.at_int HR0.out (ji11) p232 q232
       obtain rfl : ad231 = ad232 := (by injection e232)
       replace hx232_0 := (HB.out.cell (World.block_lt_of_cell? w _ hx232_0)).trans hx232_0
       replace p232 := eq_true p232
       replace q232 := eq_true q232
       go_wp2_with (first | ((with_reducible refine gate_builtin (b := .append) (xs := #[.tmp 52, .tmp 54]) rfl ?_); at_builtin; refine Kd.R_append (Kd.int .u64) (w0 := w) w.heap.size rfl (.tmp 52) (.tmp 54) 123 47 (.int .u64 0) 8 rfl Try.underlying123 info47 rfl (by decide) (by omega) u5 x5_2 (IntKind.u64.wrap ((IntKind.u64.wrap (rd l0 x6_2)) + (IntKind.u64.wrap (256 * (IntKind.u64.wrap (rd l0 (ji11))))))) [.int .u64 (IntKind.u64.wrap ((IntKind.u64.wrap (rd l0 x6_2)) + (IntKind.u64.wrap (256 * (IntKind.u64.wrap (rd l0 (ji11)))))))] (fun _ => True) (fun _ => False) rfl rfl ?aP (fun _ hk => hk.elim) ?aF ?aO ?aB ?aS ?aL ?_; (case aP => exact rfl); (case aB => exact uB); (case aF => exact (fun _ _ => trivial)); (case aO => exact (uR HO_5.out)); (case aS => exact (below_size uB)); (case aL => have := LMc14.out; omega); intro v234 w15 ho hb hg hat; rw [← Ny233.out] at ho; replace HB := Aside0.mk (hb); have HO235 := Aside0.mk (ho); clear HO_5; clear ho hb hg hat))
       first | go_roundg k2 | ((try simp only [← hji11] at H'); simp only [← hji11]; go_roundg k2)
       case measure => have := HJ1.out; have := HK2.out; omega
       case rel => first | exact ⟨(y233), (wrap64 (x6_2 - 2)), uG, H', ⟨by have := HJ1.out; have := HK2.out; omega⟩, ⟨uR HO235.out⟩, ⟨uB⟩⟩ | (simp only [← hji11] at H'; exact ⟨(y233), (wrap64 (x6_2 - 2)), uG, H', ⟨by have := HJ1.out; have := HK2.out; omega⟩, ⟨uR HO235.out⟩, ⟨uB⟩⟩)
      rw [if_neg c10] at H
      have c10b0 : decide (x4_1 ≤ (wrap64 (x6_2 - 1))) = false := decide_eq_false c10
      clear c10
      replace H := uT H; obtain ⟨c16, H⟩ := H
      have LMc16 := Aside0.mk c16; clear c16
      obtain ⟨y236, hy236⟩ : ∃ y_ : List Int, y_ = (x5_2 ++ [IntKind.u64.wrap (rd l0 x6_2)]) := ⟨_, rfl⟩
      replace H : (windbreakref01_Read.l1 k2 l0 x4_1 y236 (wrap64 (x6_2 - 2))) = some (r1, r2) := by first | (rw [hy236]; with_reducible exact H) | (have H2_ := (Option.bind_some _ _).symm.trans H; rw [hy236]; with_reducible exact H2_) | (have H2_ := (Option.bind_some _ _).symm.trans H; with_reducible exact H2_) | with_reducible exact H | (rw [hy236]; exact H) | exact H
      have Ny236 := Aside0.mk hy236; clear hy236
      have H' := Aside0.mk H
      clear H
      have p231 : 0 ≤ (x6_2 : Int) := uO
      have q231 : x6_2 < (l0.length : Int) := uO
      obtain ⟨ad231, e231, hx231_0⟩ := Kd.at_int HR0.out x6_2 p231 q231
      cases e231
      replace hx231_0 := (HB.out.cell (World.block_lt_of_cell? w _ hx231_0)).trans hx231_0
      replace p231 := eq_true p231
      replace q231 := eq_true q231
      go_wp2_with (first | ((with_reducible refine gate_builtin (b := .append) (xs := #[.tmp 52, .tmp 54]) rfl ?_); at_builtin; refine Kd.R_append (Kd.int .u64) (w0 := w) w.heap.size rfl (.tmp 52) (.tmp 54) 123 47 (.int .u64 0) 8 rfl Try.underlying123 info47 rfl (by decide) (by omega) u5 x5_2 (IntKind.u64.wrap (rd l0 x6_2)) [.int .u64 (IntKind.u64.wrap (rd l0 x6_2))] (fun _ => True) (fun _ => False) rfl rfl ?aP (fun _ hk => hk.elim) ?aF ?aO ?aB ?aS ?aL ?_; (case aP => exact rfl); (case aB => exact uB); (case aF => exact (fun _ _ => trivial)); (case aO => exact (uR HO_5.out)); (case aS => exact (below_size uB)); (case aL => have := LMc16.out; omega); intro v237 w17 ho hb hg hat; rw [← Ny236.out] at ho; replace HB := Aside0.mk (hb); have HO238 := Aside0.mk (ho); clear HO_5; clear ho hb hg hat))
      first | go_roundg k2 | ((try simp only [← hji11] at H'); simp only [← hji11]; go_roundg k2)
      case measure => have := HJ1.out; have := HK2.out; omega
      case rel => first | exact ⟨(y236), (wrap64 (x6_2 - 2)), uG, H', ⟨by have := HJ1.out; have := HK2.out; omega⟩, ⟨uR HO238.out⟩, ⟨uB⟩⟩ | (simp only [← hji11] at H'; exact ⟨(y236), (wrap64 (x6_2 - 2)), uG, H', ⟨by have := HJ1.out; have := HK2.out; omega⟩, ⟨uR HO238.out⟩, ⟨uB⟩⟩)
     rw [if_neg c7] at H
     have c7b0 : decide (x4_1 ≤ x6_2) = false := decide_eq_false c7
     clear c7
     replace H := ub H; obtain ⟨t239, A18, H⟩ := H
     replace H := ub H; obtain ⟨⟨t242, t243⟩, A19, H⟩ := H
     (try dsimp only at H)
     simp only [Option.some.injEq, Prod.mk.injEq] at H
     obtain ⟨rfl, rfl⟩ := H
     obtain ⟨Ao20, co20, eo20⟩ := Kd.R_slice HO_5.out
     subst eo20
     go_wp2_with (first | ((with_reducible refine gate_callee (f := 79) rfl ?_); refine goesL_ (some 57) rfl rfl Try.func79 (by kernel_rfl) rfl #[.slice Ao20 x5_2.length co20] rfl uM ?_; (with_reducible refine (windbreakref01_cut.calls k2 (fun k_ => some k_ = (.slice Ao20 x5_2.length co20 : Value).ownBlock) (.slice Ao20 x5_2.length co20) x5_2 t239 w _ ?side1 ?side2 A18.out).mono ?_); (case side1 => repeat (first | (with_reducible first | exact HB.out | apply below_alloc | apply pw_below_drewN | apply below_drew1) | exact HB.out)); (case side2 => exact Kd.R_tight rfl HO_5.out); rintro e w21 ⟨v240, rfl, ho0, hb, hkp⟩; refine ⟨_, rfl, ?_⟩; have HO241 := Aside0.mk (Kd.R_mono (ok' := fun k_ => True) ho0 (fun k_ hk_ => trivial)); replace HB := Aside0.mk (hb); clear HO_5; (try clear hb); (try clear hkp); (try clear ho0); obtain ⟨Ao22, co22, eo22⟩ := Kd.R_slice HO241.out; subst eo22) | ((with_reducible refine gate_callee (f := 77) rfl ?_); refine goesL_ (some 58) rfl rfl Try.func77 (by kernel_rfl) rfl #[.slice Ao22 t239.length co22] rfl uM ?_; (with_reducible refine (windbreakref01_told.calls k2 _ _ t239 t242 t243 _ ?side1 ?side2 A19.out).mono ?_); (case side1 => exact uC (Kd.R_reads' HO241.out).2.2); (case side2 => exact (Kd.R_reads' HO241.out).2.1); rintro e w23 ⟨v244, rfl, ho0, hb⟩; refine ⟨_, rfl, ?_⟩; have HO245 := Aside0.mk (Kd.R_lower (Kd.R_new' ho0 (Kd.R_lt (uR HO241.out))) (below_size uB)); replace HO241 := ueR HO241 ho0 hb; replace HB := uy hb; (try clear hb ho0)))
     go_ret2
     exact ⟨_, uF, by (with_reducible repeat (first | apply Kd.R_alloc | apply Kd.R_drewN | apply Kd.R_drew)); exact Kd.R_mono HO245.out (fun _ hk => trivial), uB⟩
end Go.Proofs.Ytlkinjhmgljapab.F
end
section
namespace Go.Proofs.Ytlkinjhmgljapab.F
open Go.RowKit Go.Proofs.YtlkinjhmgljapabW.PrintWords Go.Proofs.YtlkinjhmgljapabW.PrintLast Go.Proofs.YtlkinjhmgljapabW.PrintMore
attribute [local go_sem] max2_int min2_int max_two min_two max_three min_three max_four min_four
set_option linter.unusedVariables false
set_option linter.unusedSimpArgs false
mutual
def windbreakref01_mul.l0 : Nat → List Int → List Int → List Int → Int → Option (List Int)
 | 0, _, _, _, _ => none
 | k + 1, x0, x1, x5, x6 => if x6 < (x0.length : Int) then (windbreakref01_mul.l1 k x0 x1 x5 x6 0 0) else ((windbreakref01_cut.f k x5).bind fun t249 => (some t249))
def windbreakref01_mul.l1 : Nat → List Int → List Int → List Int → Int → Int → Int → Option (List Int)
 | 0, _, _, _, _, _, _ => none
 | k + 1, x0, x1, x5, x6, x7, x8 => if x8 < (x1.length : Int) then (if 0 ≤ (wrap64 (x6 + x8)) then (if (wrap64 (x6 + x8)) < (x5.length : Int) then (if 0 ≤ x6 then (if x6 < (x0.length : Int) then (if 0 ≤ x8 then (windbreakref01_mul.l1 k x0 x1 (x5.set ((wrap64 (x6 + x8)) : Int).toNat (Int.tmod (IntKind.u64.wrap ((IntKind.u64.wrap ((rd x5 (wrap64 (x6 + x8))) + (IntKind.u64.wrap ((rd x0 x6) * (rd x1 x8))))) + x7)) 65536)) x6 (IntKind.u64.wrap (Int.tdiv (IntKind.u64.wrap ((IntKind.u64.wrap ((rd x5 (wrap64 (x6 + x8))) + (IntKind.u64.wrap ((rd x0 x6) * (rd x1 x8))))) + x7)) 65536)) (wrap64 (x8 + 1))) else (none)) else (none)) else (none)) else (none)) else (none)) else (if 0 ≤ (wrap64 (x6 + (x1.length : Int))) then (if (wrap64 (x6 + (x1.length : Int))) < (x5.length : Int) then (windbreakref01_mul.l0 k x0 x1 (x5.set ((wrap64 (x6 + (x1.length : Int))) : Int).toNat x7) (wrap64 (x6 + 1))) else (none)) else (none))
end
def windbreakref01_mul.f (k : Nat) (l0 : List Int) (l1 : List Int) : Option (List Int) := if 0 ≤ (wrap64 ((l0.length : Int) + (l1.length : Int))) then (if (wrap64 ((l0.length : Int) + (l1.length : Int)) : Int).toNat ≤ 35184372088832 then (windbreakref01_mul.l0 k l0 l1 (List.replicate (wrap64 ((l0.length : Int) + (l1.length : Int)) : Int).toNat 0) 0) else (none)) else (none)
set_option maxHeartbeats 8000000 in
set_option maxRecDepth 100000 in
theorem windbreakref01_mul.calls (k : Nat) (A0 : Option Addr) (c0 : Nat) (l0 : List Int) (A1 : Option Addr) (c1 : Nat) (l1 : List Int) (r : List Int) (w : World) (hr0 : Kd.C (Kd.int .u64) w A0 l0.length l0) (hc0 : l0.length ≤ c0) (hr1 : Kd.C (Kd.int .u64) w A1 l1.length l1) (hc1 : l1.length ≤ c1) (h : windbreakref01_mul.f k l0 l1 = some r) :
  Calls Try.prog 82 #[.slice A0 l0.length c0, .slice A1 l1.length c1] w fun e w' => ∃ v0_ : Value, e = .returned (v0_) ∧ Kd.R (Kd.int .u64) 47 w' w.heap.size (fun _ => True) v0_ r ∧ Below w.heap.size w w' := by
 have HR0 := Aside0.mk hr0; have HC0 := Aside0.mk hc0; clear hr0 hc0; have HR1 := Aside0.mk hr1; have HC1 := Aside0.mk hc1; clear hr1 hc1
 have HB := Aside0.mk (Below.refl w.heap.size w)
 have H : (if 0 ≤ (wrap64 ((l0.length : Int) + (l1.length : Int))) then (if (wrap64 ((l0.length : Int) + (l1.length : Int)) : Int).toNat ≤ 35184372088832 then (windbreakref01_mul.l0 k l0 l1 (List.replicate (wrap64 ((l0.length : Int) + (l1.length : Int)) : Int).toNat 0) 0) else (none)) else (none)) = some r := h
 clear h
 obtain ⟨ji3, hji3⟩ : ∃ j_ : Int, (wrap64 ((l0.length : Int) + (l1.length : Int))) = j_ := ⟨_, rfl⟩
 first | rw [hji3] at H | simp only [hji3] at H
 have hji3w : (IntKind.i64.wrap ((l0.length : Int) + (l1.length : Int))) = ji3 := (i64_w _).trans hji3
 replace H := uT H; obtain ⟨c4, H⟩ := H
 have c4b0 := eq_true c4
 have c4b1 : decide (0 ≤ (ji3)) = true := decide_eq_true c4
 clear c4
 replace H := uT H; obtain ⟨c5, H⟩ := H
 have c5b0 := eq_true c5
 have c5b1 : decide ((ji3 : Int).toNat ≤ 35184372088832) = true := decide_eq_true c5
 clear c5
 obtain ⟨y246, hy246⟩ : ∃ y_ : List Int, y_ = (List.replicate (ji3 : Int).toNat 0) := ⟨_, rfl⟩
 replace H : (windbreakref01_mul.l0 k l0 l1 y246 0) = some r := by first | (rw [hy246]; with_reducible exact H) | (have H2_ := (Option.bind_some _ _).symm.trans H; rw [hy246]; with_reducible exact H2_) | (have H2_ := (Option.bind_some _ _).symm.trans H; with_reducible exact H2_) | with_reducible exact H | (rw [hy246]; exact H) | exact H
 have Ny246 := Aside0.mk hy246; clear hy246
 have H' := Aside0.mk H
 clear H
 go_enter Try.func82, Try.ntmps82
 go_wp2_with (first | ((with_reducible refine gate_dst (N := 15) rfl ?_); refine Kd.R_make (Kd.int .u64) _ 47 rfl (N := 15) rfl 123 _ _ rfl ji3 rfl rfl Try.underlying123 (.int .u64 0) 8 info47 rfl (by decide) (by omega) 0 (ok := fun _ => True) (okp := fun _ => True) rfl (fun _ hk => hk) trivial uO (Nat.le_trans (Nat.mul_le_mul_right _ (uO : ji3.toNat ≤ 35184372088832)) (by omega)) (Below.refl _ _) (Nat.le_refl _) ?_; intro v247 w6 ho7 hb hg_ hnew_; clear hg_ hnew_; (first | rw [← Ny246.out] at ho7 | (simp only [Int.reduceToNat] at ho7; rw [← Ny246.out] at ho7)); have HO248 := Aside0.mk (Kd.R_lower ho7 (below_size uB)); replace HB := uy hb; clear hb ho7))
 repeat (go_quiet (first | ((with_reducible refine gate_dst (N := 15) rfl ?_); refine Kd.R_make (Kd.int .u64) _ 47 rfl (N := 15) rfl 123 _ _ rfl ji3 rfl rfl Try.underlying123 (.int .u64 0) 8 info47 rfl (by decide) (by omega) 0 (ok := fun _ => True) (okp := fun _ => True) rfl (fun _ hk => hk) trivial uO (Nat.le_trans (Nat.mul_le_mul_right _ (uO : ji3.toNat ≤ 35184372088832)) (by omega)) (Below.refl _ _) (Nat.le_refl _) ?_; intro v247 w6 ho7 hb hg_ hnew_; clear hg_ hnew_; (first | rw [← Ny246.out] at ho7 | (simp only [Int.reduceToNat] at ho7; rw [← Ny246.out] at ho7)); have HO248 := Aside0.mk (Kd.R_lower ho7 (below_size uB)); replace HB := uy hb; clear hb ho7)); try go_wp2_with (first | ((with_reducible refine gate_dst (N := 15) rfl ?_); refine Kd.R_make (Kd.int .u64) _ 47 rfl (N := 15) rfl 123 _ _ rfl ji3 rfl rfl Try.underlying123 (.int .u64 0) 8 info47 rfl (by decide) (by omega) 0 (ok := fun _ => True) (okp := fun _ => True) rfl (fun _ hk => hk) trivial uO (Nat.le_trans (Nat.mul_le_mul_right _ (uO : ji3.toNat ≤ 35184372088832)) (by omega)) (Below.refl _ _) (Nat.le_refl _) ?_; intro v247 w6 ho7 hb hg_ hnew_; clear hg_ hnew_; (first | rw [← Ny246.out] at ho7 | (simp only [Int.reduceToNat] at ho7; rw [← Ny246.out] at ho7)); have HO248 := Aside0.mk (Kd.R_lower ho7 (below_size uB)); replace HB := uy hb; clear hb ho7)))
 go_loopg [6] k (fun kq v6 w' => ∃ (x5_1 : List Int) (x6_1 : Int), v6 = .int .i64 x6_1 ∧ Aside0 (windbreakref01_mul.l0 kq l0 l1 x5_1 x6_1 = some r) ∧ Aside0 (kq ≤ k) ∧ Aside0 (Kd.R (Kd.int .u64) 47 w' w.heap.size (fun _ => True) v247 x5_1) ∧ Aside0 (Below w.heap.size w w'))
 case atStart => exact ⟨(y246), (0), uG, H', ⟨Nat.le_refl _⟩, ⟨uR HO248.out⟩, ⟨uB⟩⟩
 case round =>
  clear H'
  (try clear c1); (try clear p2); (try clear c4); (try clear c4b0); (try clear c4b1); (try clear c5); (try clear c5b0); (try clear c5b1); (try clear p6)
  obtain ⟨x5_1, x6_1, rfl, HA, HK1, HO_5, HB⟩ := hrel
  cases gk with
  | zero => exact absurd HA.out (by simp [windbreakref01_mul.l0])
  | succ k1 =>
   have H := HA.out
   clear HA
   simp only [windbreakref01_mul.l0] at H
   by_cases c8 : x6_1 < (l0.length : Int)
   ·
    rw [if_pos c8] at H
    have c8b0 : decide (x6_1 < (l0.length : Int)) = true := decide_eq_true c8
    clear c8
    have H' := Aside0.mk H
    clear H
    go_wp2
    repeat (go_quiet (fail); try go_wp2)
    go_loopg [7, 8] k1 (fun kq v7 v8 w' => ∃ (x5_2 : List Int) (x7_2 : Int) (x8_2 : Int), v7 = .int .u64 x7_2 ∧ v8 = .int .i64 x8_2 ∧ Aside0 (windbreakref01_mul.l1 kq l0 l1 x5_2 x6_1 x7_2 x8_2 = some r) ∧ Aside0 (kq ≤ k1) ∧ Aside0 (Kd.R (Kd.int .u64) 47 w' w.heap.size (fun _ => True) v247 x5_2) ∧ Aside0 (Below w.heap.size w w'))
    case atStart => exact ⟨(x5_1), (0), (0), uG, uG, H', ⟨Nat.le_refl _⟩, ⟨uR HO_5.out⟩, ⟨uB⟩⟩
    case round =>
     clear H'
     (try clear c1); (try clear p2); (try clear c4); (try clear c4b0); (try clear c4b1); (try clear c5); (try clear c5b0); (try clear c5b1); (try clear p6); (try clear c8); (try clear c8b0); (try clear p2); (try clear p6)
     obtain ⟨x5_2, x7_2, x8_2, rfl, rfl, HA, HK2, HO_5, HB⟩ := hrel
     cases gk with
     | zero => exact absurd HA.out (by simp [windbreakref01_mul.l1])
     | succ k2 =>
      have H := HA.out
      clear HA
      simp only [windbreakref01_mul.l1] at H
      by_cases c9 : x8_2 < (l1.length : Int)
      ·
       rw [if_pos c9] at H
       have c9b0 : decide (x8_2 < (l1.length : Int)) = true := decide_eq_true c9
       clear c9
       obtain ⟨ji10, hji10⟩ : ∃ j_ : Int, (wrap64 (x6_1 + x8_2)) = j_ := ⟨_, rfl⟩
       first | rw [hji10] at H | simp only [hji10] at H
       have hji10w : (IntKind.i64.wrap (x6_1 + x8_2)) = ji10 := (i64_w _).trans hji10
       replace H := uT H; obtain ⟨c11, H⟩ := H
       have c11b0 : decide (0 ≤ (ji10)) = true := decide_eq_true c11
       clear c11
       replace H := uT H; obtain ⟨c12, H⟩ := H
       have c12b0 : decide ((ji10) < (x5_2.length : Int)) = true := decide_eq_true c12
       clear c12
       replace H := uT H; obtain ⟨c13, H⟩ := H
       have c13b0 : decide (0 ≤ x6_1) = true := decide_eq_true c13
       clear c13
       replace H := uT H; obtain ⟨c14, H⟩ := H
       have c14b0 : decide (x6_1 < (l0.length : Int)) = true := decide_eq_true c14
       clear c14
       replace H := uT H; obtain ⟨c15, H⟩ := H
       have c15b0 : decide (0 ≤ x8_2) = true := decide_eq_true c15
       clear c15
       obtain ⟨y255, hy255⟩ : ∃ y_ : List Int, y_ = (x5_2.set ((ji10) : Int).toNat (Int.tmod (IntKind.u64.wrap ((IntKind.u64.wrap ((rd x5_2 (ji10)) + (IntKind.u64.wrap ((rd l0 x6_1) * (rd l1 x8_2))))) + x7_2)) 65536)) := ⟨_, rfl⟩
       replace H : (windbreakref01_mul.l1 k2 l0 l1 y255 x6_1 (IntKind.u64.wrap (Int.tdiv (IntKind.u64.wrap ((IntKind.u64.wrap ((rd x5_2 (ji10)) + (IntKind.u64.wrap ((rd l0 x6_1) * (rd l1 x8_2))))) + x7_2)) 65536)) (wrap64 (x8_2 + 1))) = some r := by first | (rw [hy255]; with_reducible exact H) | (have H2_ := (Option.bind_some _ _).symm.trans H; rw [hy255]; with_reducible exact H2_) | (have H2_ := (Option.bind_some _ _).symm.trans H; with_reducible exact H2_) | with_reducible exact H | (rw [hy255]; exact H) | exact H
       have Ny255 := Aside0.mk hy255; clear hy255
       have H' := Aside0.mk H
       clear H
       obtain ⟨Ao17, co17, eo17⟩ := Kd.R_slice HO_5.out
       subst eo17
       have p252 : 0 ≤ ((ji10) : Int) := uO
       have q252 : (ji10) < (x5_2.length : Int) := uO
       obtain ⟨ad252, e252, hx252_0⟩ := Kd.at_int (Kd.R_reads' HO_5.out).2.2 (ji10) p252 q252
       cases e252
       replace p252 := eq_true p252
       replace q252 := eq_true q252
       have p253 : 0 ≤ (x6_1 : Int) := uO
       have q253 : x6_1 < (l0.length : Int) := uO
       obtain ⟨ad253, e253, hx253_0⟩ := Kd.at_int HR0.out x6_1 p253 q253
       cases e253
       replace hx253_0 := (HB.out.cell (World.block_lt_of_cell? w _ hx253_0)).trans hx253_0
       replace p253 := eq_true p253
       replace q253 := eq_true q253
       have p254 : 0 ≤ (x8_2 : Int) := uO
       have q254 : x8_2 < (l1.length : Int) := uO
       obtain ⟨ad254, e254, hx254_0⟩ := Kd.at_int HR1.out x8_2 p254 q254
       cases e254
       replace hx254_0 := (HB.out.cell (World.block_lt_of_cell? w _ hx254_0)).trans hx254_0
       replace p254 := eq_true p254
       replace q254 := eq_true q254
       have p16 : 0 ≤ ((ji10) : Int) := uO
       have q16 : ((ji10) : Int) < ((x5_2.length : Int) : Int) := uO
       obtain ⟨go16, co16, eo16, gb16, gl16, cl16, HG16⟩ := Kd.R_form HO_5.out (by omega)
       (first | cases eo16 | (injection eo16 with ea_ en_ ec_; (first | subst ea_ | (injection ea_ with ea_; subst ea_)); subst ec_; clear en_))
       have GB16 := Aside0.mk gb16; have GG16 := Aside0.mk HG16; clear gb16 gl16 HG16
       (first | simp only [add_plain] at hx252_0 | skip)
       obtain ⟨hx16_0, hf16_0⟩ := Kd.R_celln 0 HO_5.out ((ji10) : Int) p16 q16
       replace p16 := eq_true p16
       replace q16 := eq_true q16
       have HP18 := Kd.R_putg HO_5.out ((ji10) : Int) (Int.tmod (IntKind.u64.wrap ((IntKind.u64.wrap ((rd x5_2 (ji10)) + (IntKind.u64.wrap ((rd l0 x6_1) * (rd l1 x8_2))))) + x7_2)) 65536)
       go_wp2_with (first | ((with_reducible refine gate_store (t := 47) (p := 52) rfl ?_); (try (rw [drewN_self wr]; generalize hq_ : World.drewN wr _ = wr; replace HO_5 := Aside0.mk (Kd.R_at hq_ HO_5.out); replace HB := Aside0.mk (below_at hq_ HB.out); clear hq_; (try (have HP18 := Kd.R_putg HO_5.out ((ji10) : Int) (Int.tmod (IntKind.u64.wrap ((IntKind.u64.wrap ((rd x5_2 (ji10)) + (IntKind.u64.wrap ((rd l0 x6_1) * (rd l1 x8_2))))) + x7_2)) 65536))))); refine store_event (t := 47) (p := 52) (v := ?vo_w19) (w1 := (wr.setCell ⟨go16, ((ji10) : Int).toNat, none⟩ (.int .u64 (Int.tmod (IntKind.u64.wrap ((IntKind.u64.wrap ((rd x5_2 (ji10)) + (IntKind.u64.wrap ((rd l0 x6_1) * (rd l1 x8_2))))) + x7_2)) 65536)))) ?hg ?ho ?hn ?hr ?_; (case ho => rfl); (case hg => rfl); (case hn => rfl); (case hr => first | (go_simp; done) | (go_simp; rfl) | (obtain ⟨hy_, hz_⟩ := Kd.R_celln 0 HO_5.out ((ji10) : Int) uO uO; (try simp only [Go.IntWalk.toNatUp] at hy_ hz_); (try simp only [Int.reduceToNat, Int.toNat_zero, Int.toNat_ofNat] at hy_ hz_); first | (go_simp; done) | (go_simp; rfl))); intro w19 hw; have hg : wr.grownBy w19 (some go16) := (by rw [hw]; exact HP18.2); have hp_ : Kd.R (Kd.int .u64) 47 w19 w.heap.size (fun _ => True) (.slice (some ⟨go16, 0, none⟩) x5_2.length co17) y255 := (by rw [hw, Ny255.out]; exact HP18.1); clear HP18; replace HO_5 := Aside0.mk (hp_); replace HB := Aside0.mk ((by rw [hw]; exact below_set (HB.out) GB16.out : Below w.heap.size w w19)); clear hg hw hp_))
       repeat (go_quiet (first | ((with_reducible refine gate_store (t := 47) (p := 52) rfl ?_); (try (rw [drewN_self wr]; generalize hq_ : World.drewN wr _ = wr; replace HO_5 := Aside0.mk (Kd.R_at hq_ HO_5.out); replace HB := Aside0.mk (below_at hq_ HB.out); clear hq_; (try (have HP18 := Kd.R_putg HO_5.out ((ji10) : Int) (Int.tmod (IntKind.u64.wrap ((IntKind.u64.wrap ((rd x5_2 (ji10)) + (IntKind.u64.wrap ((rd l0 x6_1) * (rd l1 x8_2))))) + x7_2)) 65536))))); refine store_event (t := 47) (p := 52) (v := ?vo_w19) (w1 := (wr.setCell ⟨go16, ((ji10) : Int).toNat, none⟩ (.int .u64 (Int.tmod (IntKind.u64.wrap ((IntKind.u64.wrap ((rd x5_2 (ji10)) + (IntKind.u64.wrap ((rd l0 x6_1) * (rd l1 x8_2))))) + x7_2)) 65536)))) ?hg ?ho ?hn ?hr ?_; (case ho => rfl); (case hg => rfl); (case hn => rfl); (case hr => first | (go_simp; done) | (go_simp; rfl) | (obtain ⟨hy_, hz_⟩ := Kd.R_celln 0 HO_5.out ((ji10) : Int) uO uO; (try simp only [Go.IntWalk.toNatUp] at hy_ hz_); (try simp only [Int.reduceToNat, Int.toNat_zero, Int.toNat_ofNat] at hy_ hz_); first | (go_simp; done) | (go_simp; rfl))); intro w19 hw; have hg : wr.grownBy w19 (some go16) := (by rw [hw]; exact HP18.2); have hp_ : Kd.R (Kd.int .u64) 47 w19 w.heap.size (fun _ => True) (.slice (some ⟨go16, 0, none⟩) x5_2.length co17) y255 := (by rw [hw, Ny255.out]; exact HP18.1); clear HP18; replace HO_5 := Aside0.mk (hp_); replace HB := Aside0.mk ((by rw [hw]; exact below_set (HB.out) GB16.out : Below w.heap.size w w19)); clear hg hw hp_)); try go_wp2_with (first | ((with_reducible refine gate_store (t := 47) (p := 52) rfl ?_); (try (rw [drewN_self wr]; generalize hq_ : World.drewN wr _ = wr; replace HO_5 := Aside0.mk (Kd.R_at hq_ HO_5.out); replace HB := Aside0.mk (below_at hq_ HB.out); clear hq_; (try (have HP18 := Kd.R_putg HO_5.out ((ji10) : Int) (Int.tmod (IntKind.u64.wrap ((IntKind.u64.wrap ((rd x5_2 (ji10)) + (IntKind.u64.wrap ((rd l0 x6_1) * (rd l1 x8_2))))) + x7_2)) 65536))))); refine store_event (t := 47) (p := 52) (v := ?vo_w19) (w1 := (wr.setCell ⟨go16, ((ji10) : Int).toNat, none⟩ (.int .u64 (Int.tmod (IntKind.u64.wrap ((IntKind.u64.wrap ((rd x5_2 (ji10)) + (IntKind.u64.wrap ((rd l0 x6_1) * (rd l1 x8_2))))) + x7_2)) 65536)))) ?hg ?ho ?hn ?hr ?_; (case ho => rfl); (case hg => rfl); (case hn => rfl); (case hr => first | (go_simp; done) | (go_simp; rfl) | (obtain ⟨hy_, hz_⟩ := Kd.R_celln 0 HO_5.out ((ji10) : Int) uO uO; (try simp only [Go.IntWalk.toNatUp] at hy_ hz_); (try simp only [Int.reduceToNat, Int.toNat_zero, Int.toNat_ofNat] at hy_ hz_); first | (go_simp; done) | (go_simp; rfl))); intro w19 hw; have hg : wr.grownBy w19 (some go16) := (by rw [hw]; exact HP18.2); have hp_ : Kd.R (Kd.int .u64) 47 w19 w.heap.size (fun _ => True) (.slice (some ⟨go16, 0, none⟩) x5_2.length co17) y255 := (by rw [hw, Ny255.out]; exact HP18.1); clear HP18; replace HO_5 := Aside0.mk (hp_); replace HB := Aside0.mk ((by rw [hw]; exact below_set (HB.out) GB16.out : Below w.heap.size w w19)); clear hg hw hp_)))
       first | go_roundg k2 | ((try simp only [← hji10] at H'); simp only [← hji10]; go_roundg k2) | ((try simp only [← hji3] at H'); simp only [← hji3]; go_roundg k2)
       case measure => have := HK1.out; have := HK2.out; omega
       case rel => first | exact ⟨(y255), (IntKind.u64.wrap (Int.tdiv (IntKind.u64.wrap ((IntKind.u64.wrap ((rd x5_2 (ji10)) + (IntKind.u64.wrap ((rd l0 x6_1) * (rd l1 x8_2))))) + x7_2)) 65536)), (wrap64 (x8_2 + 1)), (by first | rfl | (simp; done) | (simp only [← hji10] <;> (first | rfl | simp)) | (simp [*]; done)), uG, H', ⟨by have := HK1.out; have := HK2.out; omega⟩, ⟨uR HO_5.out⟩, ⟨uB⟩⟩ | (simp only [← hji10] at H'; exact ⟨(y255), (IntKind.u64.wrap (Int.tdiv (IntKind.u64.wrap ((IntKind.u64.wrap ((rd x5_2 (ji10)) + (IntKind.u64.wrap ((rd l0 x6_1) * (rd l1 x8_2))))) + x7_2)) 65536)), (wrap64 (x8_2 + 1)), (by first | rfl | (simp; done) | (simp only [← hji10] <;> (first | rfl | simp)) | (simp [*]; done)), uG, H', ⟨by have := HK1.out; have := HK2.out; omega⟩, ⟨uR HO_5.out⟩, ⟨uB⟩⟩) | (simp only [← hji3] at H'; exact ⟨(y255), (IntKind.u64.wrap (Int.tdiv (IntKind.u64.wrap ((IntKind.u64.wrap ((rd x5_2 (ji10)) + (IntKind.u64.wrap ((rd l0 x6_1) * (rd l1 x8_2))))) + x7_2)) 65536)), (wrap64 (x8_2 + 1)), (by first | rfl | (simp; done) | (simp only [← hji10] <;> (first | rfl | simp)) | (simp [*]; done)), uG, H', ⟨by have := HK1.out; have := HK2.out; omega⟩, ⟨uR HO_5.out⟩, ⟨uB⟩⟩)
      rw [if_neg c9] at H
      have c9b0 : decide (x8_2 < (l1.length : Int)) = false := decide_eq_false c9
      clear c9
      obtain ⟨ji20, hji20⟩ : ∃ j_ : Int, (wrap64 (x6_1 + (l1.length : Int))) = j_ := ⟨_, rfl⟩
      first | rw [hji20] at H | simp only [hji20] at H
      have hji20w : (IntKind.i64.wrap (x6_1 + (l1.length : Int))) = ji20 := (i64_w _).trans hji20
      replace H := uT H; obtain ⟨c21, H⟩ := H
      have c21b0 : decide (0 ≤ (ji20)) = true := decide_eq_true c21
      clear c21
      replace H := uT H; obtain ⟨c22, H⟩ := H
      have c22b0 : decide ((ji20) < (x5_2.length : Int)) = true := decide_eq_true c22
      clear c22
      obtain ⟨y256, hy256⟩ : ∃ y_ : List Int, y_ = (x5_2.set ((ji20) : Int).toNat x7_2) := ⟨_, rfl⟩
      replace H : (windbreakref01_mul.l0 k2 l0 l1 y256 (wrap64 (x6_1 + 1))) = some r := by first | (rw [hy256]; with_reducible exact H) | (have H2_ := (Option.bind_some _ _).symm.trans H; rw [hy256]; with_reducible exact H2_) | (have H2_ := (Option.bind_some _ _).symm.trans H; with_reducible exact H2_) | with_reducible exact H | (rw [hy256]; exact H) | exact H
      have Ny256 := Aside0.mk hy256; clear hy256
      have H' := Aside0.mk H
      clear H
      have p23 : 0 ≤ ((ji20) : Int) := uO
      have q23 : ((ji20) : Int) < ((x5_2.length : Int) : Int) := uO
      obtain ⟨go23, co23, eo23, gb23, gl23, cl23, HG23⟩ := Kd.R_form HO_5.out (by omega)
      (first | cases eo23 | (injection eo23 with ea_ en_ ec_; (first | subst ea_ | (injection ea_ with ea_; subst ea_)); subst ec_; clear en_))
      have GB23 := Aside0.mk gb23; have GG23 := Aside0.mk HG23; clear gb23 gl23 HG23
      obtain ⟨hx23_0, hf23_0⟩ := Kd.R_celln 0 HO_5.out ((ji20) : Int) p23 q23
      replace p23 := eq_true p23
      replace q23 := eq_true q23
      have HP24 := Kd.R_putg HO_5.out ((ji20) : Int) x7_2
      go_wp2_with (first | ((with_reducible refine gate_store (t := 47) (p := 61) rfl ?_); (try (rw [drewN_self wr]; generalize hq_ : World.drewN wr _ = wr; replace HO_5 := Aside0.mk (Kd.R_at hq_ HO_5.out); replace HB := Aside0.mk (below_at hq_ HB.out); clear hq_; (try (have HP24 := Kd.R_putg HO_5.out ((ji20) : Int) x7_2)))); refine store_event (t := 47) (p := 61) (v := ?vo_w25) (w1 := (wr.setCell ⟨go23, ((ji20) : Int).toNat, none⟩ (.int .u64 x7_2))) ?hg ?ho ?hn ?hr ?_; (case ho => rfl); (case hg => rfl); (case hn => rfl); (case hr => first | (go_simp; done) | (go_simp; rfl) | (obtain ⟨hy_, hz_⟩ := Kd.R_celln 0 HO_5.out ((ji20) : Int) uO uO; (try simp only [Go.IntWalk.toNatUp] at hy_ hz_); (try simp only [Int.reduceToNat, Int.toNat_zero, Int.toNat_ofNat] at hy_ hz_); first | (go_simp; done) | (go_simp; rfl))); intro w25 hw; have hg : wr.grownBy w25 (some go23) := (by rw [hw]; exact HP24.2); have hp_ : Kd.R (Kd.int .u64) 47 w25 w.heap.size (fun _ => True) (.slice (some ⟨go23, 0, none⟩) x5_2.length co23) y256 := (by rw [hw, Ny256.out]; exact HP24.1); clear HP24; replace HO_5 := Aside0.mk (hp_); replace HB := Aside0.mk ((by rw [hw]; exact below_set (HB.out) GB23.out : Below w.heap.size w w25)); clear hg hw hp_))
      repeat (go_quiet (first | ((with_reducible refine gate_store (t := 47) (p := 61) rfl ?_); (try (rw [drewN_self wr]; generalize hq_ : World.drewN wr _ = wr; replace HO_5 := Aside0.mk (Kd.R_at hq_ HO_5.out); replace HB := Aside0.mk (below_at hq_ HB.out); clear hq_; (try (have HP24 := Kd.R_putg HO_5.out ((ji20) : Int) x7_2)))); refine store_event (t := 47) (p := 61) (v := ?vo_w25) (w1 := (wr.setCell ⟨go23, ((ji20) : Int).toNat, none⟩ (.int .u64 x7_2))) ?hg ?ho ?hn ?hr ?_; (case ho => rfl); (case hg => rfl); (case hn => rfl); (case hr => first | (go_simp; done) | (go_simp; rfl) | (obtain ⟨hy_, hz_⟩ := Kd.R_celln 0 HO_5.out ((ji20) : Int) uO uO; (try simp only [Go.IntWalk.toNatUp] at hy_ hz_); (try simp only [Int.reduceToNat, Int.toNat_zero, Int.toNat_ofNat] at hy_ hz_); first | (go_simp; done) | (go_simp; rfl))); intro w25 hw; have hg : wr.grownBy w25 (some go23) := (by rw [hw]; exact HP24.2); have hp_ : Kd.R (Kd.int .u64) 47 w25 w.heap.size (fun _ => True) (.slice (some ⟨go23, 0, none⟩) x5_2.length co23) y256 := (by rw [hw, Ny256.out]; exact HP24.1); clear HP24; replace HO_5 := Aside0.mk (hp_); replace HB := Aside0.mk ((by rw [hw]; exact below_set (HB.out) GB23.out : Below w.heap.size w w25)); clear hg hw hp_)); try go_wp2_with (first | ((with_reducible refine gate_store (t := 47) (p := 61) rfl ?_); (try (rw [drewN_self wr]; generalize hq_ : World.drewN wr _ = wr; replace HO_5 := Aside0.mk (Kd.R_at hq_ HO_5.out); replace HB := Aside0.mk (below_at hq_ HB.out); clear hq_; (try (have HP24 := Kd.R_putg HO_5.out ((ji20) : Int) x7_2)))); refine store_event (t := 47) (p := 61) (v := ?vo_w25) (w1 := (wr.setCell ⟨go23, ((ji20) : Int).toNat, none⟩ (.int .u64 x7_2))) ?hg ?ho ?hn ?hr ?_; (case ho => rfl); (case hg => rfl); (case hn => rfl); (case hr => first | (go_simp; done) | (go_simp; rfl) | (obtain ⟨hy_, hz_⟩ := Kd.R_celln 0 HO_5.out ((ji20) : Int) uO uO; (try simp only [Go.IntWalk.toNatUp] at hy_ hz_); (try simp only [Int.reduceToNat, Int.toNat_zero, Int.toNat_ofNat] at hy_ hz_); first | (go_simp; done) | (go_simp; rfl))); intro w25 hw; have hg : wr.grownBy w25 (some go23) := (by rw [hw]; exact HP24.2); have hp_ : Kd.R (Kd.int .u64) 47 w25 w.heap.size (fun _ => True) (.slice (some ⟨go23, 0, none⟩) x5_2.length co23) y256 := (by rw [hw, Ny256.out]; exact HP24.1); clear HP24; replace HO_5 := Aside0.mk (hp_); replace HB := Aside0.mk ((by rw [hw]; exact below_set (HB.out) GB23.out : Below w.heap.size w w25)); clear hg hw hp_)))
      first | go_roundg k2 | ((try simp only [← hji20] at H'); simp only [← hji20]; go_roundg k2) | ((try simp only [← hji10] at H'); simp only [← hji10]; go_roundg k2) | ((try simp only [← hji3] at H'); simp only [← hji3]; go_roundg k2)
      case measure => have := HK1.out; have := HK2.out; omega
      case rel => first | exact ⟨(y256), (wrap64 (x6_1 + 1)), uG, H', ⟨by have := HK1.out; have := HK2.out; omega⟩, ⟨uR HO_5.out⟩, ⟨uB⟩⟩ | (simp only [← hji20] at H'; exact ⟨(y256), (wrap64 (x6_1 + 1)), uG, H', ⟨by have := HK1.out; have := HK2.out; omega⟩, ⟨uR HO_5.out⟩, ⟨uB⟩⟩) | (simp only [← hji10] at H'; exact ⟨(y256), (wrap64 (x6_1 + 1)), uG, H', ⟨by have := HK1.out; have := HK2.out; omega⟩, ⟨uR HO_5.out⟩, ⟨uB⟩⟩) | (simp only [← hji3] at H'; exact ⟨(y256), (wrap64 (x6_1 + 1)), uG, H', ⟨by have := HK1.out; have := HK2.out; omega⟩, ⟨uR HO_5.out⟩, ⟨uB⟩⟩)
   rw [if_neg c8] at H
   have c8b0 : decide (x6_1 < (l0.length : Int)) = false := decide_eq_false c8
   clear c8
   replace H := ub H; obtain ⟨t249, A26, H⟩ := H
   obtain rfl := Option.some.inj H
   obtain ⟨Ao27, co27, eo27⟩ := Kd.R_slice HO_5.out
   subst eo27
   go_wp2_with (first | (go_at_call 79; (with_reducible refine (windbreakref01_cut.calls k1 (fun k_ => some k_ = (.slice Ao27 x5_1.length co27 : Value).ownBlock) (.slice Ao27 x5_1.length co27) x5_1 t249 w _ ?side1 ?side2 A26.out).mono ?_); (case side1 => repeat (first | (with_reducible first | exact HB.out | apply below_alloc | apply pw_below_drewN | apply below_drew1) | exact HB.out)); (case side2 => exact Kd.R_tight rfl HO_5.out); rintro e w28 ⟨v250, rfl, ho0, hb, hkp⟩; have HO251 := Aside0.mk (Kd.R_mono (ok' := fun k_ => True) ho0 (fun k_ hk_ => trivial)); replace HB := Aside0.mk (hb); clear HO_5; (try clear hb); (try clear hkp); (try clear ho0)))
   repeat (go_quiet (first | (go_at_call 79; (with_reducible refine (windbreakref01_cut.calls k1 (fun k_ => some k_ = (.slice Ao27 x5_1.length co27 : Value).ownBlock) (.slice Ao27 x5_1.length co27) x5_1 t249 w _ ?side1 ?side2 A26.out).mono ?_); (case side1 => repeat (first | (with_reducible first | exact HB.out | apply below_alloc | apply pw_below_drewN | apply below_drew1) | exact HB.out)); (case side2 => exact Kd.R_tight rfl HO_5.out); rintro e w28 ⟨v250, rfl, ho0, hb, hkp⟩; have HO251 := Aside0.mk (Kd.R_mono (ok' := fun k_ => True) ho0 (fun k_ hk_ => trivial)); replace HB := Aside0.mk (hb); clear HO_5; (try clear hb); (try clear hkp); (try clear ho0))); try go_wp2_with (first | (go_at_call 79; (with_reducible refine (windbreakref01_cut.calls k1 (fun k_ => some k_ = (.slice Ao27 x5_1.length co27 : Value).ownBlock) (.slice Ao27 x5_1.length co27) x5_1 t249 w _ ?side1 ?side2 A26.out).mono ?_); (case side1 => repeat (first | (with_reducible first | exact HB.out | apply below_alloc | apply pw_below_drewN | apply below_drew1) | exact HB.out)); (case side2 => exact Kd.R_tight rfl HO_5.out); rintro e w28 ⟨v250, rfl, ho0, hb, hkp⟩; have HO251 := Aside0.mk (Kd.R_mono (ok' := fun k_ => True) ho0 (fun k_ hk_ => trivial)); replace HB := Aside0.mk (hb); clear HO_5; (try clear hb); (try clear hkp); (try clear ho0))))
   go_ret
   exact ⟨_, by first | rfl | (simp [errW_none, errW_some] <;> rfl) | (simp only [← hji3]; first | rfl | (simp [errW_none, errW_some] <;> rfl)) | (simp [*, errW_none, errW_some] <;> rfl), uR HO251.out, uB⟩
end Go.Proofs.Ytlkinjhmgljapab.F
end
section
namespace Go.Proofs.Ytlkinjhmgljapab.F
open Go.RowKit Go.Proofs.YtlkinjhmgljapabW.PrintWords Go.Proofs.YtlkinjhmgljapabW.PrintLast Go.Proofs.YtlkinjhmgljapabW.PrintMore
attribute [local go_sem] max2_int min2_int max_two min_two max_three min_three max_four min_four
set_option linter.unusedVariables false
set_option linter.unusedSimpArgs false
mutual
def windbreakref01_div.l0 : Nat → List Int → List Int → List Int → List Int → Int → Option (List Int × List Int)
 | 0, _, _, _, _, _ => none
 | k + 1, x0, x1, x6, x7, x8 => if x8 ≥ 0 then (if 0 ≤ x8 then (if x8 < (x0.length : Int) then ((some (([rd x0 x8] : List Int) : List Int)).bind fun y264 => (if y264.length + x7.length < 17592186044416 then ((windbreakref01_cut.f k (y264 ++ x7)).bind fun t270 => (windbreakref01_div.l1 k x0 x1 x6 t270 x8 0 65535)) else (none))) else (none)) else (none)) else ((windbreakref01_cut.f k x6).bind fun t260 => (some (t260, x7)))
def windbreakref01_div.l1 : Nat → List Int → List Int → List Int → List Int → Int → Int → Int → Option (List Int × List Int)
 | 0, _, _, _, _, _, _, _ => none
 | k + 1, x0, x1, x6, x7, x8, x9, x10 => if x9 < x10 then ((windbreakref01_mul.f k x1 (([IntKind.u64.wrap (Int.tdiv (IntKind.u64.wrap ((IntKind.u64.wrap (x9 + x10)) + 1)) 2)] : List Int))).bind fun t286 => ((windbreakref01_compare.f k t286 x7).bind fun t289 => (if t289 ≤ 0 then (windbreakref01_div.l1 k x0 x1 x6 x7 x8 (IntKind.u64.wrap (Int.tdiv (IntKind.u64.wrap ((IntKind.u64.wrap (x9 + x10)) + 1)) 2)) x10) else (windbreakref01_div.l1 k x0 x1 x6 x7 x8 x9 (IntKind.u64.wrap ((IntKind.u64.wrap (Int.tdiv (IntKind.u64.wrap ((IntKind.u64.wrap (x9 + x10)) + 1)) 2)) - 1)))))) else (if 0 ≤ x8 then (if x8 < (x6.length : Int) then ((windbreakref01_mul.f k x1 (([x9] : List Int))).bind fun t277 => ((windbreakref01_sub.f k x7 t277).bind fun t280 => (windbreakref01_div.l0 k x0 x1 (x6.set (x8 : Int).toNat x9) t280 (wrap64 (x8 - 1))))) else (none)) else (none))
end
def windbreakref01_div.f (k : Nat) (l0 : List Int) (l1 : List Int) : Option (List Int × List Int) := if 0 ≤ (l0.length : Int) then (if ((l0.length : Int) : Int).toNat ≤ 35184372088832 then (windbreakref01_div.l0 k l0 l1 (List.replicate ((l0.length : Int) : Int).toNat 0) ([] : List Int) (wrap64 ((l0.length : Int) - 1))) else (none)) else (none)
set_option maxHeartbeats 8000000 in
set_option maxRecDepth 100000 in
theorem windbreakref01_div.calls (k : Nat) (A0 : Option Addr) (c0 : Nat) (l0 : List Int) (A1 : Option Addr) (c1 : Nat) (l1 : List Int) (r1 : List Int) (r2 : List Int) (w : World) (hr0 : Kd.C (Kd.int .u64) w A0 l0.length l0) (hc0 : l0.length ≤ c0) (hr1 : Kd.C (Kd.int .u64) w A1 l1.length l1) (hc1 : l1.length ≤ c1) (h : windbreakref01_div.f k l0 l1 = some (r1, r2)) :
  Calls Try.prog 80 #[.slice A0 l0.length c0, .slice A1 l1.length c1] w fun e w' => ∃ v0_ v1_ : Value, e = .returned (.tuple #[v0_, v1_]) ∧ Kd.R (Kd.int .u64) 47 w' w.heap.size (fun k_ => some k_ ≠ (v1_ : Value).ownBlock) v0_ r1 ∧ Kd.R (Kd.int .u64) 47 w' w.heap.size (fun k_ => some k_ ≠ (v0_ : Value).ownBlock) v1_ r2 ∧ Below w.heap.size w w' := by
 have HR0 := Aside0.mk hr0; have HC0 := Aside0.mk hc0; clear hr0 hc0; have HR1 := Aside0.mk hr1; have HC1 := Aside0.mk hc1; clear hr1 hc1
 have HB := Aside0.mk (Below.refl w.heap.size w)
 have H : (if 0 ≤ (l0.length : Int) then (if ((l0.length : Int) : Int).toNat ≤ 35184372088832 then (windbreakref01_div.l0 k l0 l1 (List.replicate ((l0.length : Int) : Int).toNat 0) ([] : List Int) (wrap64 ((l0.length : Int) - 1))) else (none)) else (none)) = some (r1, r2) := h
 clear h
 replace H := uT H; obtain ⟨c3, H⟩ := H
 have c3b0 := eq_true c3
 have c3b1 : decide (0 ≤ (l0.length : Int)) = true := decide_eq_true c3
 clear c3
 replace H := uT H; obtain ⟨c4, H⟩ := H
 have c4b0 := eq_true c4
 have c4b1 : decide (((l0.length : Int) : Int).toNat ≤ 35184372088832) = true := decide_eq_true c4
 clear c4
 obtain ⟨y257, hy257⟩ : ∃ y_ : List Int, y_ = (List.replicate ((l0.length : Int) : Int).toNat 0) := ⟨_, rfl⟩
 replace H : (windbreakref01_div.l0 k l0 l1 y257 ([] : List Int) (wrap64 ((l0.length : Int) - 1))) = some (r1, r2) := by first | (rw [hy257]; with_reducible exact H) | (have H2_ := (Option.bind_some _ _).symm.trans H; rw [hy257]; with_reducible exact H2_) | (have H2_ := (Option.bind_some _ _).symm.trans H; with_reducible exact H2_) | with_reducible exact H | (rw [hy257]; exact H) | exact H
 have Ny257 := Aside0.mk hy257; clear hy257
 have H' := Aside0.mk H
 clear H
 go_enter Try.func80, Try.ntmps80
 go_wp2_with (first | ((with_reducible refine gate_dst (N := 14) rfl ?_); refine Kd.R_make (Kd.int .u64) _ 47 rfl (N := 14) rfl 123 _ _ rfl (l0.length : Int) rfl rfl Try.underlying123 (.int .u64 0) 8 info47 rfl (by decide) (by omega) 0 (ok := fun _ => True) (okp := fun _ => True) rfl (fun _ hk => hk) trivial uO (Nat.le_trans (Nat.mul_le_mul_right _ (uO : (l0.length : Int).toNat ≤ 35184372088832)) (by omega)) (Below.refl _ _) (Nat.le_refl _) ?_; intro v258 w5 ho6 hb hg_ hnew_; clear hg_ hnew_; (first | rw [← Ny257.out] at ho6 | (simp only [Int.reduceToNat] at ho6; rw [← Ny257.out] at ho6)); have HO259 := Aside0.mk (Kd.R_lower ho6 (below_size uB)); replace HB := uy hb; clear hb ho6))
 go_loopg [7, 8] k (fun kq v7 v8 w' => ∃ (x6_1 : List Int) (x7_1 : List Int) (x8_1 : Int), v8 = .int .i64 x8_1 ∧ Aside0 (windbreakref01_div.l0 kq l0 l1 x6_1 x7_1 x8_1 = some (r1, r2)) ∧ Aside0 (kq ≤ k) ∧ Aside0 (Kd.R (Kd.int .u64) 47 w' w.heap.size (fun k_ => some k_ ≠ (v7 : Value).ownBlock) v258 x6_1) ∧ Aside0 (Kd.R (Kd.int .u64) 47 w' w.heap.size (fun k_ => some k_ ≠ (v258 : Value).ownBlock) v7 x7_1) ∧ Aside0 (Below w.heap.size w w'))
 case atStart => exact ⟨(y257), (([] : List Int)), (wrap64 ((l0.length : Int) - 1)), uG, H', ⟨Nat.le_refl _⟩, ⟨by (with_reducible repeat (first | apply Kd.R_alloc | apply Kd.R_drewN | apply Kd.R_drew)); exact Kd.R_mono HO259.out (fun _ hk => (by simp [Value.ownBlock]))⟩, ⟨by first | exact Kd.R_nil _ _ _ _ _ | exact Kd.N_nil _ _ _ _ _ | exact Kd.V_nil _ _ _ _ _ | exact Kd.Q_nil _ _ _ _ _ | exact Kd.S_nil _ _ _ _ _⟩, ⟨uB⟩⟩
 case round =>
  clear H'
  (try clear c1); (try clear p2); (try clear c3); (try clear c3b0); (try clear c3b1); (try clear c4); (try clear c4b0); (try clear c4b1); (try clear p6)
  obtain ⟨x6_1, x7_1, x8_1, rfl, HA, HK1, HO_6, HO_7, HB⟩ := hrel
  cases gk with
  | zero => exact absurd HA.out (by simp [windbreakref01_div.l0])
  | succ k1 =>
   have H := HA.out
   clear HA
   simp only [windbreakref01_div.l0] at H
   by_cases c7 : x8_1 ≥ 0
   ·
    rw [if_pos c7] at H
    have c7b0 : decide (0 ≤ x8_1) = true := decide_eq_true c7
    clear c7
    replace H := uT H; obtain ⟨c8, H⟩ := H
    have c8b0 : decide (0 ≤ x8_1) = true := decide_eq_true c8
    clear c8
    replace H := uT H; obtain ⟨c9, H⟩ := H
    have c9b0 : decide (x8_1 < (l0.length : Int)) = true := decide_eq_true c9
    clear c9
    obtain ⟨y264, hy264⟩ : ∃ y_ : List Int, y_ = (([rd l0 x8_1] : List Int)) := ⟨_, rfl⟩
    replace H : (if y264.length + x7_1.length < 17592186044416 then ((windbreakref01_cut.f k1 (y264 ++ x7_1)).bind fun t270 => (windbreakref01_div.l1 k1 l0 l1 x6_1 t270 x8_1 0 65535)) else (none)) = some (r1, r2) := by first | (rw [hy264]; with_reducible exact H) | (have H2_ := (Option.bind_some _ _).symm.trans H; rw [hy264]; with_reducible exact H2_) | (have H2_ := (Option.bind_some _ _).symm.trans H; with_reducible exact H2_) | with_reducible exact H | (rw [hy264]; exact H) | exact H
    have Ny264 := Aside0.mk hy264; clear hy264
    replace H := uT H; obtain ⟨c10, H⟩ := H
    have LMc10 := Aside0.mk c10; clear c10
    obtain ⟨y267, hy267⟩ : ∃ y_ : List Int, y_ = (y264 ++ x7_1) := ⟨_, rfl⟩
    replace H : ((windbreakref01_cut.f k1 y267).bind fun t270 => (windbreakref01_div.l1 k1 l0 l1 x6_1 t270 x8_1 0 65535)) = some (r1, r2) := by first | (rw [hy267]; with_reducible exact H) | (have H2_ := (Option.bind_some _ _).symm.trans H; rw [hy267]; with_reducible exact H2_) | (have H2_ := (Option.bind_some _ _).symm.trans H; with_reducible exact H2_) | with_reducible exact H | (rw [hy267]; exact H) | exact H
    have Ny267 := Aside0.mk hy267; clear hy267
    replace H := ub H; obtain ⟨t270, A11, H⟩ := H
    have H' := Aside0.mk H
    clear H
    have p263 : 0 ≤ (x8_1 : Int) := uO
    have q263 : x8_1 < (l0.length : Int) := uO
    obtain ⟨ad263, e263, hx263_0⟩ := Kd.at_int HR0.out x8_1 p263 q263
    cases e263
    replace hx263_0 := (HB.out.cell (World.block_lt_of_cell? w _ hx263_0)).trans hx263_0
    replace p263 := eq_true p263
    replace q263 := eq_true q263
    go_wp2_with (first | ((with_reducible refine gate_dst (N := 26) rfl ?_); refine Kd.R_lit (Kd.int .u64) _ 47 ?hg (N := 26) ?hd (xs := ([rd l0 x8_1] : List Int)) (inner := [.int .u64 (rd l0 x8_1)]) (ok := fun _ => True) (okp := fun _ => True) ?hr ?hp (fun _ hk => hk) trivial (Below.refl _ _) (Nat.le_refl _) (by simp) ?_; (case hd => rfl); (case hg => rfl); (case hr => first | (go_simp; done) | (go_simp; rfl) | (go_simp; simp only [u64_u8]; done) | (go_simp; simp only [u64_u8]; rfl)); (case hp => exact (Reps.one (show Kd.M (Kd.int .u64) _ _ _ (rd l0 x8_1) [.int .u64 (rd l0 x8_1)] from rfl) (Reps.none _ _))); intro v265 w12 ho13 hb hg_ hnew_; clear hg_ hnew_; (first | rw [← Ny264.out] at ho13 | (simp only [Int.reduceToNat] at ho13; rw [← Ny264.out] at ho13)); have HO266 := Aside0.mk (Kd.R_lower (Kd.R_new' (Kd.R_new' ho13 (Kd.R_lt (uR HO_6.out))) (Kd.R_lt (uR HO_7.out))) (below_size uB)); replace HO_6 := ueR HO_6 ho13 hb; replace HO_7 := ueR HO_7 ho13 hb; replace HB := uy hb; clear hb ho13; obtain ⟨Ao15, co15, eo15⟩ := Kd.R_slice HO_7.out; subst eo15) | ((with_reducible refine gate_builtin (b := .append) (xs := #[.tmp 26, .tmp 27]) rfl ?_); at_builtin; refine Kd.R_append_rows (Kd.int .u64) (w0 := w) w.heap.size rfl (.tmp 26) (.tmp 27) 123 47 (.int .u64 0) 8 rfl Try.underlying123 info47 rfl (by decide) (by omega) v265 y264 x7_1 _ _ _ (fun k_ => some k_ ≠ (v258 : Value).ownBlock ∧ some k_ ≠ (.slice Ao15 x7_1.length co15 : Value).ownBlock) (fun _ => False) rfl rfl ?aO ?aR (fun _ _ h => h) (fun _ h => h.elim) ?aF ?aB ?aS ?aL ?_; (case aR => exact uC (Kd.R_reads' HO_7.out).2.2); (case aB => exact uB); (case aF => exact (fun k_ hk => ⟨Kd.fresh' (Kd.R_lt (uR HO_6.out)) k_ hk, Kd.fresh' (Kd.R_lt (uR HO_7.out)) k_ hk⟩)); (case aO => exact (uR (Kd.R_mono HO266.out (fun _ hk => ⟨hk.1.2, hk.2⟩)))); (case aS => exact (below_size uB)); (case aL => have := LMc10.out; omega); intro v268 w14 ho hb hg hat; rw [← Ny267.out] at ho; replace HO_6 := Aside0.mk (Kd.R_after (ok := (fun k_ => some k_ ≠ (.slice Ao15 x7_1.length co15 : Value).ownBlock)) (uR HO_6.out) hg hat); replace HO_7 := Aside0.mk (Kd.R_after (ok := (fun k_ => some k_ ≠ (v258 : Value).ownBlock)) (uR HO_7.out) hg hat); replace HB := Aside0.mk (hb); have HO269 := Aside0.mk (ho); clear HO266; clear ho hb hg hat; obtain ⟨Ao16, co16, eo16⟩ := Kd.R_slice HO269.out; subst eo16) | ((with_reducible refine gate_callee (f := 79) rfl ?_); refine goesL_ (some 29) rfl rfl Try.func79 (by kernel_rfl) rfl #[.slice Ao16 y267.length co16] rfl uM ?_; (with_reducible refine (windbreakref01_cut.calls k1 (fun k_ => some k_ = (.slice Ao16 y267.length co16 : Value).ownBlock) (.slice Ao16 y267.length co16) y267 t270 w _ ?side1 ?side2 A11.out).mono ?_); (case side1 => repeat (first | (with_reducible first | exact HB.out | apply below_alloc | apply pw_below_drewN | apply below_drew1) | exact HB.out)); (case side2 => exact Kd.R_tight rfl HO269.out); rintro e w17 ⟨v271, rfl, ho0, hb, hkp⟩; refine ⟨_, rfl, ?_⟩; have HO272 := Aside0.mk (Kd.R_mono (ok' := fun k_ => some k_ ≠ (v258 : Value).ownBlock ∧ some k_ ≠ (.slice Ao15 x7_1.length co15 : Value).ownBlock) ho0 (fun k_ hk_ => ⟨Or.elim hk_ (fun hs_ => fun e_ => (((HO_6.out).1 k_ e_.symm).2) hs_) (fun hn_ => (Kd.fresh' (Kd.R_lt (uR HO_6.out)) k_ hn_)), Or.elim hk_ (fun hs_ => fun e_ => (((HO_7.out).1 k_ e_.symm).2) hs_) (fun hn_ => (Kd.fresh' (Kd.R_lt (uR HO_7.out)) k_ hn_))⟩)); replace HO_6 := Aside0.mk (Kd.R_mono (ok' := fun k_ => some k_ ≠ (.slice Ao15 x7_1.length co15 : Value).ownBlock ∧ some k_ ≠ (v271 : Value).ownBlock) (Kd.R_keptB (HO_6.out) hkp (fun k_ hk_ hs_ => (hk_.2) hs_)) (fun k_ hk_ => ⟨hk_.1.1, fun e_ => Or.elim (ho0.1 k_ e_.symm) (fun hs_ => hk_.2.1 hs_) (fun hn_ => Nat.not_le.2 hk_.2.2 hn_)⟩)); replace HO_7 := Aside0.mk (Kd.R_mono (ok' := fun k_ => some k_ ≠ (v258 : Value).ownBlock ∧ some k_ ≠ (v271 : Value).ownBlock) (Kd.R_keptB (HO_7.out) hkp (fun k_ hk_ hs_ => (hk_.2) hs_)) (fun k_ hk_ => ⟨hk_.1.1, fun e_ => Or.elim (ho0.1 k_ e_.symm) (fun hs_ => hk_.2.1 hs_) (fun hn_ => Nat.not_le.2 hk_.2.2 hn_)⟩)); replace HB := Aside0.mk (hb); clear HO269; (try clear hb); (try clear hkp); (try clear ho0)))
    go_loopg [9, 10] k1 (fun kq v9 v10 w' => ∃ (x9_2 : Int) (x10_2 : Int), v9 = .int .u64 x9_2 ∧ v10 = .int .u64 x10_2 ∧ Aside0 (windbreakref01_div.l1 kq l0 l1 x6_1 t270 x8_1 x9_2 x10_2 = some (r1, r2)) ∧ Aside0 (kq ≤ k1) ∧ Aside0 (Kd.R (Kd.int .u64) 47 w' w.heap.size (fun k_ => some k_ ≠ (v271 : Value).ownBlock) v258 x6_1) ∧ Aside0 (Kd.R (Kd.int .u64) 47 w' w.heap.size (fun k_ => some k_ ≠ (v258 : Value).ownBlock) v271 t270) ∧ Aside0 (Below w.heap.size w w'))
    case atStart => exact ⟨(0), (65535), uG, uG, H', ⟨Nat.le_refl _⟩, ⟨by (with_reducible repeat (first | apply Kd.R_alloc | apply Kd.R_drewN | apply Kd.R_drew)); exact Kd.R_mono HO_6.out (fun _ hk => hk.2)⟩, ⟨by (with_reducible repeat (first | apply Kd.R_alloc | apply Kd.R_drewN | apply Kd.R_drew)); exact Kd.R_mono HO272.out (fun _ hk => hk.1)⟩, ⟨uB⟩⟩
    case round =>
     clear H'
     (try clear c1); (try clear p2 p2); (try clear q2); (try clear hx2); (try clear c3); (try clear c3b0); (try clear c3b1); (try clear c4); (try clear c4b0); (try clear c4b1); (try clear p6 p6); (try clear c7); (try clear c7b0); (try clear c8); (try clear c8b0); (try clear c9); (try clear c9b0); (try clear c10); (try clear hx263_0); (try clear p263); (try clear q263)
     obtain ⟨x9_2, x10_2, rfl, rfl, HA, HK2, HO_6, HO_7, HB⟩ := hrel
     cases gk with
     | zero => exact absurd HA.out (by simp [windbreakref01_div.l1])
     | succ k2 =>
      have H := HA.out
      clear HA
      simp only [windbreakref01_div.l1] at H
      by_cases c18 : x9_2 < x10_2
      ·
       rw [if_pos c18] at H
       have c18b0 : decide (x9_2 < x10_2) = true := decide_eq_true c18
       clear c18
       obtain ⟨y283, hy283⟩ : ∃ y_ : List Int, y_ = (([IntKind.u64.wrap (Int.tdiv (IntKind.u64.wrap ((IntKind.u64.wrap (x9_2 + x10_2)) + 1)) 2)] : List Int)) := ⟨_, rfl⟩
       replace H : ((windbreakref01_mul.f k2 l1 y283).bind fun t286 => ((windbreakref01_compare.f k2 t286 t270).bind fun t289 => (if t289 ≤ 0 then (windbreakref01_div.l1 k2 l0 l1 x6_1 t270 x8_1 (IntKind.u64.wrap (Int.tdiv (IntKind.u64.wrap ((IntKind.u64.wrap (x9_2 + x10_2)) + 1)) 2)) x10_2) else (windbreakref01_div.l1 k2 l0 l1 x6_1 t270 x8_1 x9_2 (IntKind.u64.wrap ((IntKind.u64.wrap (Int.tdiv (IntKind.u64.wrap ((IntKind.u64.wrap (x9_2 + x10_2)) + 1)) 2)) - 1)))))) = some (r1, r2) := by first | (rw [hy283]; with_reducible exact H) | (have H2_ := (Option.bind_some _ _).symm.trans H; rw [hy283]; with_reducible exact H2_) | (have H2_ := (Option.bind_some _ _).symm.trans H; with_reducible exact H2_) | with_reducible exact H | (rw [hy283]; exact H) | exact H
       have Ny283 := Aside0.mk hy283; clear hy283
       replace H := ub H; obtain ⟨t286, A19, H⟩ := H
       replace H := ub H; obtain ⟨t289, A20, H⟩ := H
       by_cases c21 : t289 ≤ 0
       ·
        rw [if_pos c21] at H
        have c21b0 : decide (t289 ≤ 0) = true := decide_eq_true c21
        clear c21
        have H' := Aside0.mk H
        clear H
        go_wp2_with (first | ((with_reducible refine gate_dst (N := 40) rfl ?_); refine Kd.R_lit (Kd.int .u64) _ 47 ?hg (N := 40) ?hd (xs := ([IntKind.u64.wrap (Int.tdiv (IntKind.u64.wrap ((IntKind.u64.wrap (x9_2 + x10_2)) + 1)) 2)] : List Int)) (inner := [.int .u64 (IntKind.u64.wrap (Int.tdiv (IntKind.u64.wrap ((IntKind.u64.wrap (x9_2 + x10_2)) + 1)) 2))]) (ok := fun _ => True) (okp := fun _ => True) ?hr ?hp (fun _ hk => hk) trivial (Below.refl _ _) (Nat.le_refl _) (by simp) ?_; (case hd => rfl); (case hg => rfl); (case hr => first | (go_simp; done) | (go_simp; rfl) | (go_simp; simp only [u64_u8]; done) | (go_simp; simp only [u64_u8]; rfl)); (case hp => exact (Reps.one (show Kd.M (Kd.int .u64) _ _ _ (IntKind.u64.wrap (Int.tdiv (IntKind.u64.wrap ((IntKind.u64.wrap (x9_2 + x10_2)) + 1)) 2)) [.int .u64 (IntKind.u64.wrap (Int.tdiv (IntKind.u64.wrap ((IntKind.u64.wrap (x9_2 + x10_2)) + 1)) 2))] from rfl) (Reps.none _ _))); intro v284 w22 ho23 hb hg_ hnew_; clear hg_ hnew_; (first | rw [← Ny283.out] at ho23 | (simp only [Int.reduceToNat] at ho23; rw [← Ny283.out] at ho23)); have HO285 := Aside0.mk (Kd.R_lower (Kd.R_new' (Kd.R_new' ho23 (Kd.R_lt (uR HO_6.out))) (Kd.R_lt (uR HO_7.out))) (below_size uB)); replace HO_6 := ueR HO_6 ho23 hb; replace HO_7 := ueR HO_7 ho23 hb; replace HB := uy hb; clear hb ho23; obtain ⟨Ao24, co24, eo24⟩ := Kd.R_slice HO285.out; subst eo24) | ((with_reducible refine gate_callee (f := 82) rfl ?_); refine goesL_ (some 41) rfl rfl Try.func82 (by kernel_rfl) rfl #[.slice A1 l1.length c1, .slice Ao24 y283.length co24] rfl uM ?_; (with_reducible refine (windbreakref01_mul.calls k2 _ _ l1 _ _ y283 t286 _ ?side1 ?side2 ?side3 ?side4 A19.out).mono ?_); (case side1 => exact uC (Kd.C_below HR1.out HB.out)); (case side2 => exact HC1.out); (case side3 => exact uC (Kd.R_reads' HO285.out).2.2); (case side4 => exact (Kd.R_reads' HO285.out).2.1); rintro e w25 ⟨v287, rfl, ho0, hb⟩; refine ⟨_, rfl, ?_⟩; have HO288 := Aside0.mk (Kd.R_lower (Kd.R_new' (Kd.R_new' (Kd.R_new' ho0 (Kd.R_lt (uR HO_6.out))) (Kd.R_lt (uR HO_7.out))) (Kd.R_lt (uR HO285.out))) (below_size uB)); replace HO_6 := ueR HO_6 ho0 hb; replace HO_7 := ueR HO_7 ho0 hb; replace HO285 := ueR HO285 ho0 hb; replace HB := uy hb; (try clear hb ho0); obtain ⟨Ao26, co26, eo26⟩ := Kd.R_slice HO288.out; subst eo26; obtain ⟨Ao27, co27, eo27⟩ := Kd.R_slice HO_7.out; subst eo27) | ((with_reducible refine gate_callee (f := 76) rfl ?_); refine goesL_ (some 43) rfl rfl Try.func76 (by kernel_rfl) rfl #[.slice Ao26 t286.length co26, .slice Ao27 t270.length co27] rfl uM ?_; (with_reducible refine (windbreakref01_compare.calls k2 _ _ t286 _ _ t270 t289 _ ?side1 ?side2 ?side3 ?side4 A20.out).mono ?_); (case side1 => exact uC (Kd.R_reads' HO288.out).2.2); (case side2 => exact (Kd.R_reads' HO288.out).2.1); (case side3 => exact uC (Kd.R_reads' HO_7.out).2.2); (case side4 => exact (Kd.R_reads' HO_7.out).2.1); rintro e w' ⟨rfl, ⟨nd, rfl⟩⟩; refine ⟨_, rfl, ?_⟩))
        go_roundg k2
        case measure => have := HK1.out; have := HK2.out; omega
        case rel => exact ⟨(IntKind.u64.wrap (Int.tdiv (IntKind.u64.wrap ((IntKind.u64.wrap (x9_2 + x10_2)) + 1)) 2)), (x10_2), uG, uG, H', ⟨by have := HK1.out; have := HK2.out; omega⟩, ⟨by (with_reducible repeat (first | apply Kd.R_alloc | apply Kd.R_drewN | apply Kd.R_drew)); exact Kd.R_mono HO_6.out (fun _ hk => hk.1.1)⟩, ⟨by (with_reducible repeat (first | apply Kd.R_alloc | apply Kd.R_drewN | apply Kd.R_drew)); exact Kd.R_mono HO_7.out (fun _ hk => hk.1.1)⟩, ⟨uB⟩⟩
       rw [if_neg c21] at H
       have c21b0 : decide (t289 ≤ 0) = false := decide_eq_false c21
       clear c21
       have H' := Aside0.mk H
       clear H
       go_wp2_with (first | ((with_reducible refine gate_dst (N := 40) rfl ?_); refine Kd.R_lit (Kd.int .u64) _ 47 ?hg (N := 40) ?hd (xs := ([IntKind.u64.wrap (Int.tdiv (IntKind.u64.wrap ((IntKind.u64.wrap (x9_2 + x10_2)) + 1)) 2)] : List Int)) (inner := [.int .u64 (IntKind.u64.wrap (Int.tdiv (IntKind.u64.wrap ((IntKind.u64.wrap (x9_2 + x10_2)) + 1)) 2))]) (ok := fun _ => True) (okp := fun _ => True) ?hr ?hp (fun _ hk => hk) trivial (Below.refl _ _) (Nat.le_refl _) (by simp) ?_; (case hd => rfl); (case hg => rfl); (case hr => first | (go_simp; done) | (go_simp; rfl) | (go_simp; simp only [u64_u8]; done) | (go_simp; simp only [u64_u8]; rfl)); (case hp => exact (Reps.one (show Kd.M (Kd.int .u64) _ _ _ (IntKind.u64.wrap (Int.tdiv (IntKind.u64.wrap ((IntKind.u64.wrap (x9_2 + x10_2)) + 1)) 2)) [.int .u64 (IntKind.u64.wrap (Int.tdiv (IntKind.u64.wrap ((IntKind.u64.wrap (x9_2 + x10_2)) + 1)) 2))] from rfl) (Reps.none _ _))); intro v284 w28 ho29 hb hg_ hnew_; clear hg_ hnew_; (first | rw [← Ny283.out] at ho29 | (simp only [Int.reduceToNat] at ho29; rw [← Ny283.out] at ho29)); have HO285 := Aside0.mk (Kd.R_lower (Kd.R_new' (Kd.R_new' ho29 (Kd.R_lt (uR HO_6.out))) (Kd.R_lt (uR HO_7.out))) (below_size uB)); replace HO_6 := ueR HO_6 ho29 hb; replace HO_7 := ueR HO_7 ho29 hb; replace HB := uy hb; clear hb ho29; obtain ⟨Ao30, co30, eo30⟩ := Kd.R_slice HO285.out; subst eo30) | ((with_reducible refine gate_callee (f := 82) rfl ?_); refine goesL_ (some 41) rfl rfl Try.func82 (by kernel_rfl) rfl #[.slice A1 l1.length c1, .slice Ao30 y283.length co30] rfl uM ?_; (with_reducible refine (windbreakref01_mul.calls k2 _ _ l1 _ _ y283 t286 _ ?side1 ?side2 ?side3 ?side4 A19.out).mono ?_); (case side1 => exact uC (Kd.C_below HR1.out HB.out)); (case side2 => exact HC1.out); (case side3 => exact uC (Kd.R_reads' HO285.out).2.2); (case side4 => exact (Kd.R_reads' HO285.out).2.1); rintro e w31 ⟨v287, rfl, ho0, hb⟩; refine ⟨_, rfl, ?_⟩; have HO288 := Aside0.mk (Kd.R_lower (Kd.R_new' (Kd.R_new' (Kd.R_new' ho0 (Kd.R_lt (uR HO_6.out))) (Kd.R_lt (uR HO_7.out))) (Kd.R_lt (uR HO285.out))) (below_size uB)); replace HO_6 := ueR HO_6 ho0 hb; replace HO_7 := ueR HO_7 ho0 hb; replace HO285 := ueR HO285 ho0 hb; replace HB := uy hb; (try clear hb ho0); obtain ⟨Ao32, co32, eo32⟩ := Kd.R_slice HO288.out; subst eo32; obtain ⟨Ao33, co33, eo33⟩ := Kd.R_slice HO_7.out; subst eo33) | ((with_reducible refine gate_callee (f := 76) rfl ?_); refine goesL_ (some 43) rfl rfl Try.func76 (by kernel_rfl) rfl #[.slice Ao32 t286.length co32, .slice Ao33 t270.length co33] rfl uM ?_; (with_reducible refine (windbreakref01_compare.calls k2 _ _ t286 _ _ t270 t289 _ ?side1 ?side2 ?side3 ?side4 A20.out).mono ?_); (case side1 => exact uC (Kd.R_reads' HO288.out).2.2); (case side2 => exact (Kd.R_reads' HO288.out).2.1); (case side3 => exact uC (Kd.R_reads' HO_7.out).2.2); (case side4 => exact (Kd.R_reads' HO_7.out).2.1); rintro e w' ⟨rfl, ⟨nd, rfl⟩⟩; refine ⟨_, rfl, ?_⟩))
       go_roundg k2
       case measure => have := HK1.out; have := HK2.out; omega
       case rel => exact ⟨(x9_2), (IntKind.u64.wrap ((IntKind.u64.wrap (Int.tdiv (IntKind.u64.wrap ((IntKind.u64.wrap (x9_2 + x10_2)) + 1)) 2)) - 1)), uG, uG, H', ⟨by have := HK1.out; have := HK2.out; omega⟩, ⟨by (with_reducible repeat (first | apply Kd.R_alloc | apply Kd.R_drewN | apply Kd.R_drew)); exact Kd.R_mono HO_6.out (fun _ hk => hk.1.1)⟩, ⟨by (with_reducible repeat (first | apply Kd.R_alloc | apply Kd.R_drewN | apply Kd.R_drew)); exact Kd.R_mono HO_7.out (fun _ hk => hk.1.1)⟩, ⟨uB⟩⟩
      rw [if_neg c18] at H
      have c18b0 : decide (x9_2 < x10_2) = false := decide_eq_false c18
      clear c18
      replace H := uT H; obtain ⟨c34, H⟩ := H
      have c34b0 : decide (0 ≤ x8_1) = true := decide_eq_true c34
      clear c34
      replace H := uT H; obtain ⟨c35, H⟩ := H
      have c35b0 : decide (x8_1 < (x6_1.length : Int)) = true := decide_eq_true c35
      clear c35
      obtain ⟨y273, hy273⟩ : ∃ y_ : List Int, y_ = (x6_1.set (x8_1 : Int).toNat x9_2) := ⟨_, rfl⟩
      replace H : ((windbreakref01_mul.f k2 l1 (([x9_2] : List Int))).bind fun t277 => ((windbreakref01_sub.f k2 t270 t277).bind fun t280 => (windbreakref01_div.l0 k2 l0 l1 y273 t280 (wrap64 (x8_1 - 1))))) = some (r1, r2) := by first | (rw [hy273]; with_reducible exact H) | (have H2_ := (Option.bind_some _ _).symm.trans H; rw [hy273]; with_reducible exact H2_) | (have H2_ := (Option.bind_some _ _).symm.trans H; with_reducible exact H2_) | with_reducible exact H | (rw [hy273]; exact H) | exact H
      have Ny273 := Aside0.mk hy273; clear hy273
      obtain ⟨y274, hy274⟩ : ∃ y_ : List Int, y_ = (([x9_2] : List Int)) := ⟨_, rfl⟩
      replace H : ((windbreakref01_mul.f k2 l1 y274).bind fun t277 => ((windbreakref01_sub.f k2 t270 t277).bind fun t280 => (windbreakref01_div.l0 k2 l0 l1 y273 t280 (wrap64 (x8_1 - 1))))) = some (r1, r2) := by first | (rw [hy274]; with_reducible exact H) | (have H2_ := (Option.bind_some _ _).symm.trans H; rw [hy274]; with_reducible exact H2_) | (have H2_ := (Option.bind_some _ _).symm.trans H; with_reducible exact H2_) | with_reducible exact H | (rw [hy274]; exact H) | exact H
      have Ny274 := Aside0.mk hy274; clear hy274
      replace H := ub H; obtain ⟨t277, A37, H⟩ := H
      replace H := ub H; obtain ⟨t280, A38, H⟩ := H
      have H' := Aside0.mk H
      clear H
      have p36 : 0 ≤ (x8_1 : Int) := uO
      have q36 : (x8_1 : Int) < ((x6_1.length : Int) : Int) := uO
      obtain ⟨go36, co36, eo36, gb36, gl36, cl36, HG36⟩ := Kd.R_form HO_6.out (by omega)
      (first | cases eo36 | (injection eo36 with ea_ en_ ec_; (first | subst ea_ | (injection ea_ with ea_; subst ea_)); subst ec_; clear en_))
      have GB36 := Aside0.mk gb36; have GG36 := Aside0.mk HG36; clear gb36 gl36 HG36
      obtain ⟨hx36_0, hf36_0⟩ := Kd.R_celln 0 HO_6.out (x8_1 : Int) p36 q36
      replace p36 := eq_true p36
      replace q36 := eq_true q36
      have HP39 := Kd.R_putg HO_6.out (x8_1 : Int) x9_2
      go_wp2_with (first | ((with_reducible refine gate_store (t := 47) (p := 51) rfl ?_); refine store_event (t := 47) (p := 51) (v := ?vo_w40) (w1 := (wr.setCell ⟨go36, (x8_1 : Int).toNat, none⟩ (.int .u64 x9_2))) ?hg ?ho ?hn ?hr ?_; (case ho => rfl); (case hg => rfl); (case hn => rfl); (case hr => first | (go_simp; done) | (go_simp; rfl) | (obtain ⟨hy_, hz_⟩ := Kd.R_celln 0 HO_6.out (x8_1 : Int) uO uO; (try simp only [Go.IntWalk.toNatUp] at hy_ hz_); (try simp only [Int.reduceToNat, Int.toNat_zero, Int.toNat_ofNat] at hy_ hz_); first | (go_simp; done) | (go_simp; rfl))); intro w40 hw; have hg : wr.grownBy w40 (some go36) := (by rw [hw]; exact HP39.2); have hp_ : Kd.R (Kd.int .u64) 47 w40 w.heap.size (fun k_ => some k_ ≠ (v271 : Value).ownBlock) (.slice (some ⟨go36, 0, none⟩) x6_1.length co36) y273 := (by rw [hw, Ny273.out]; exact HP39.1); clear HP39; replace HO_6 := Aside0.mk (hp_); replace HO_7 := Aside0.mk (Kd.R_after (v := (.slice (some ⟨go36, 0, none⟩) x6_1.length co36)) (v1 := (.slice (some ⟨go36, 0, none⟩) x6_1.length co36)) (ok := (fun _ => True)) (uR (Kd.R_mono HO_7.out (fun _ hk => ⟨trivial, hk⟩))) hg (.inl rfl)); replace HB := Aside0.mk ((by rw [hw]; exact below_set (HB.out) GB36.out : Below w.heap.size w w40)); clear hg hw hp_) | ((with_reducible refine gate_dst (N := 55) rfl ?_); refine Kd.R_lit (Kd.int .u64) _ 47 ?hg (N := 55) ?hd (xs := ([x9_2] : List Int)) (inner := [.int .u64 x9_2]) (ok := fun _ => True) (okp := fun _ => True) ?hr ?hp (fun _ hk => hk) trivial (Below.refl _ _) (Nat.le_refl _) (by simp) ?_; (case hd => rfl); (case hg => rfl); (case hr => first | (go_simp; done) | (go_simp; rfl) | (go_simp; simp only [u64_u8]; done) | (go_simp; simp only [u64_u8]; rfl)); (case hp => exact (Reps.one (show Kd.M (Kd.int .u64) _ _ _ x9_2 [.int .u64 x9_2] from rfl) (Reps.none _ _))); intro v275 w41 ho42 hb hg_ hnew_; clear hg_ hnew_; (first | rw [← Ny274.out] at ho42 | (simp only [Int.reduceToNat] at ho42; rw [← Ny274.out] at ho42)); have HO276 := Aside0.mk (Kd.R_lower (Kd.R_new' (Kd.R_new' ho42 (Kd.R_lt (uR HO_6.out))) (Kd.R_lt (uR HO_7.out))) (below_size uB)); replace HO_6 := ueR HO_6 ho42 hb; replace HO_7 := ueR HO_7 ho42 hb; replace HB := uy hb; clear hb ho42; obtain ⟨Ao43, co43, eo43⟩ := Kd.R_slice HO276.out; subst eo43) | ((with_reducible refine gate_callee (f := 82) rfl ?_); refine goesL_ (some 56) rfl rfl Try.func82 (by kernel_rfl) rfl #[.slice A1 l1.length c1, .slice Ao43 y274.length co43] rfl uM ?_; (with_reducible refine (windbreakref01_mul.calls k2 _ _ l1 _ _ y274 t277 _ ?side1 ?side2 ?side3 ?side4 A37.out).mono ?_); (case side1 => exact uC (Kd.C_below HR1.out HB.out)); (case side2 => exact HC1.out); (case side3 => exact uC (Kd.R_reads' HO276.out).2.2); (case side4 => exact (Kd.R_reads' HO276.out).2.1); rintro e w44 ⟨v278, rfl, ho0, hb⟩; refine ⟨_, rfl, ?_⟩; have HO279 := Aside0.mk (Kd.R_lower (Kd.R_new' (Kd.R_new' (Kd.R_new' ho0 (Kd.R_lt (uR HO_6.out))) (Kd.R_lt (uR HO_7.out))) (Kd.R_lt (uR HO276.out))) (below_size uB)); replace HO_6 := ueR HO_6 ho0 hb; replace HO_7 := ueR HO_7 ho0 hb; replace HO276 := ueR HO276 ho0 hb; replace HB := uy hb; (try clear hb ho0); obtain ⟨Ao45, co45, eo45⟩ := Kd.R_slice HO_7.out; subst eo45; obtain ⟨Ao46, co46, eo46⟩ := Kd.R_slice HO279.out; subst eo46) | ((with_reducible refine gate_callee (f := 78) rfl ?_); refine goesL_ (some 57) rfl rfl Try.func78 (by kernel_rfl) rfl #[.slice Ao45 t270.length co45, .slice Ao46 t277.length co46] rfl uM ?_; (with_reducible refine (windbreakref01_sub.calls k2 _ _ t270 _ _ t277 t280 _ ?side1 ?side2 ?side3 ?side4 A38.out).mono ?_); (case side1 => exact uC (Kd.R_reads' HO_7.out).2.2); (case side2 => exact (Kd.R_reads' HO_7.out).2.1); (case side3 => exact uC (Kd.R_reads' HO279.out).2.2); (case side4 => exact (Kd.R_reads' HO279.out).2.1); rintro e w47 ⟨v281, rfl, ho0, hb⟩; refine ⟨_, rfl, ?_⟩; have HO282 := Aside0.mk (Kd.R_lower (Kd.R_new' (Kd.R_new' (Kd.R_new' (Kd.R_new' ho0 (Kd.R_lt (uR HO_6.out))) (Kd.R_lt (uR HO_7.out))) (Kd.R_lt (uR HO276.out))) (Kd.R_lt (uR HO279.out))) (below_size uB)); replace HO_6 := ueR HO_6 ho0 hb; replace HO_7 := ueR HO_7 ho0 hb; replace HO276 := ueR HO276 ho0 hb; replace HO279 := ueR HO279 ho0 hb; replace HB := uy hb; (try clear hb ho0)))
      go_roundg k2
      case measure => have := HK1.out; have := HK2.out; omega
      case rel => exact ⟨(y273), (t280), (wrap64 (x8_1 - 1)), uG, H', ⟨by have := HK1.out; have := HK2.out; omega⟩, ⟨by (with_reducible repeat (first | apply Kd.R_alloc | apply Kd.R_drewN | apply Kd.R_drew)); exact Kd.R_mono HO_6.out (fun _ hk => hk.2)⟩, ⟨by (with_reducible repeat (first | apply Kd.R_alloc | apply Kd.R_drewN | apply Kd.R_drew)); exact Kd.R_mono HO282.out (fun _ hk => hk.1.1.1.2)⟩, ⟨uB⟩⟩
   rw [if_neg c7] at H
   have c7b0 : decide (0 ≤ x8_1) = false := decide_eq_false c7
   clear c7
   replace H := ub H; obtain ⟨t260, A48, H⟩ := H
   simp only [Option.some.injEq, Prod.mk.injEq] at H
   obtain ⟨rfl, rfl⟩ := H
   obtain ⟨Ao49, co49, eo49⟩ := Kd.R_slice HO_6.out
   subst eo49
   go_wp2_with (first | ((with_reducible refine gate_callee (f := 79) rfl ?_); refine goesL_ (some 59) rfl rfl Try.func79 (by kernel_rfl) rfl #[.slice Ao49 x6_1.length co49] rfl uM ?_; (with_reducible refine (windbreakref01_cut.calls k1 (fun k_ => some k_ = (.slice Ao49 x6_1.length co49 : Value).ownBlock) (.slice Ao49 x6_1.length co49) x6_1 t260 w _ ?side1 ?side2 A48.out).mono ?_); (case side1 => repeat (first | (with_reducible first | exact HB.out | apply below_alloc | apply pw_below_drewN | apply below_drew1) | exact HB.out)); (case side2 => exact Kd.R_tight rfl HO_6.out); rintro e w50 ⟨v261, rfl, ho0, hb, hkp⟩; refine ⟨_, rfl, ?_⟩; have HO262 := Aside0.mk (Kd.R_mono (ok' := fun k_ => some k_ ≠ (u7 : Value).ownBlock) ho0 (fun k_ hk_ => Or.elim hk_ (fun hs_ => fun e_ => (((HO_7.out).1 k_ e_.symm)) hs_) (fun hn_ => (Kd.fresh' (Kd.R_lt (uR HO_7.out)) k_ hn_)))); replace HO_7 := Aside0.mk (Kd.R_mono (ok' := fun k_ => some k_ ≠ (v261 : Value).ownBlock) (Kd.R_keptB (HO_7.out) hkp (fun k_ hk_ hs_ => (hk_) hs_)) (fun k_ hk_ => fun e_ => Or.elim (ho0.1 k_ e_.symm) (fun hs_ => hk_.2.1 hs_) (fun hn_ => Nat.not_le.2 hk_.2.2 hn_))); replace HB := Aside0.mk (hb); clear HO_6; (try clear hb); (try clear hkp); (try clear ho0)))
   go_ret2
   exact ⟨_, _, uF, uR HO262.out, uR HO_7.out, uB⟩
end Go.Proofs.Ytlkinjhmgljapab.F
end
section
namespace Go.Proofs.Ytlkinjhmgljapab.F
open Go.RowKit Go.Proofs.YtlkinjhmgljapabW.PrintWords Go.Proofs.YtlkinjhmgljapabW.PrintLast Go.Proofs.YtlkinjhmgljapabW.PrintMore
attribute [local go_sem] max2_int min2_int max_two min_two max_three min_three max_four min_four
set_option linter.unusedVariables false
set_option linter.unusedSimpArgs false
def windbreakref01_Shr.j0 : Nat → List Int → Int → Bool → Option (List Int × Int)
 | 0, _, _, _ => none
 | k + 1, x0, x1, x16 => if x16 = true then (some (([] : List Int), 1)) else (if x1 ≥ 4096 then (some (([] : List Int), 0)) else ((windbreakref01_In.f k x0).bind fun t297 => ((windbreakref01_power.f k x1).bind fun t300 => ((windbreakref01_div.f k t297 t300).bind fun bt303 => ((windbreakref01_told.f k bt303.1).bind fun bt309 => (some (bt309.1, bt309.2)))))))
def windbreakref01_Shr.f (k : Nat) (l0 : List Int) (a1 : Int) : Option (List Int × Int) := (windbreakref01_Right.f l0).bind fun t296 => (if t296 = true then (windbreakref01_Shr.j0 k l0 a1 (decide (a1 < 0))) else (windbreakref01_Shr.j0 k l0 a1 true))
set_option maxHeartbeats 8000000 in
set_option maxRecDepth 100000 in
theorem windbreakref01_Shr.calls (k : Nat) (A0 : Option Addr) (c0 : Nat) (l0 : List Int) (a1 : Int) (r1 : List Int) (r2 : Int) (w : World) (hr0 : Kd.C (Kd.int .u64) w A0 l0.length l0) (hc0 : l0.length ≤ c0) (h : windbreakref01_Shr.f k l0 a1 = some (r1, r2)) :
  Calls Try.prog 50 #[.slice A0 l0.length c0, .int .i64 a1] w fun e w' => ∃ v0_ : Value, e = .returned (.tuple #[v0_, .int .i64 r2]) ∧ Kd.R (Kd.int .u64) 47 w' w.heap.size (fun _ => True) v0_ r1 ∧ Below w.heap.size w w' := by
 have HR0 := Aside0.mk hr0; have HC0 := Aside0.mk hc0; clear hr0 hc0
 have HB := Aside0.mk (Below.refl w.heap.size w)
 have H : ((windbreakref01_Right.f l0).bind fun t296 => (if t296 = true then (windbreakref01_Shr.j0 k l0 a1 (decide (a1 < 0))) else (windbreakref01_Shr.j0 k l0 a1 true))) = some (r1, r2) := h
 clear h
 replace H := ub H; obtain ⟨t296, A3, H⟩ := H
 have HC4 := Aside0.mk H; clear H
 go_enter Try.func50, Try.ntmps50
 go_upto_region 2 with (first | ((with_reducible refine gate_callee (f := 44) rfl ?_); refine goesL_ (some 10) rfl rfl Try.func44 (by kernel_rfl) rfl #[.slice A0 l0.length c0] rfl uM ?_; (with_reducible refine (windbreakref01_Right.calls _ _ l0 t296 _ ?side1 ?side2 A3.out).mono ?_); (case side1 => exact uC HR0.out); (case side2 => exact HC0.out); rintro e w' ⟨rfl, ⟨nd, rfl⟩⟩; refine ⟨_, rfl, ?_⟩))
 (try simp only [Act.put, List.setIfInBounds_toArray, List.set_cons_zero, List.set_cons_succ])
 go_cut [16] (fun v16 wc => ∃ (kq : Nat) (x16_3 : Bool), v16 = .bool x16_3 ∧ Aside0 (windbreakref01_Shr.j0 kq l0 a1 x16_3 = some (r1, r2)) ∧ Aside0 (kq ≤ k) ∧ Aside0 (Below w.heap.size w wc))
 case first =>
  have H := HC4.out
  clear HC4
  by_cases c5 : t296 = true
  ·
   subst c5
   have H1 : (windbreakref01_Shr.j0 k l0 a1 (decide (a1 < 0))) = some (r1, r2) := by rw [if_pos rfl] at H; exact H
   clear H; have H := H1; clear H1
   have H' := Aside0.mk H
   clear H
   go_wp2
   go_meet
   case rel => exact ⟨_, (decide (a1 < 0)), uG, H', ⟨uW⟩, ⟨uB⟩⟩
  replace c5 := Bool.eq_false_iff.mpr c5
  subst c5
  have H1 : (windbreakref01_Shr.j0 k l0 a1 true) = some (r1, r2) := by rw [if_neg (show ¬ (false = true) by decide)] at H; exact H
  clear H; have H := H1; clear H1
  have H' := Aside0.mk H
  clear H
  go_wp2
  go_meet
  case rel => exact ⟨_, (true), uG, H', ⟨uW⟩, ⟨uB⟩⟩
 case rest =>
  clear HC4; (try clear p2); (try clear c4); (try clear c5)
  obtain ⟨kq, x16_3, rfl, HA, HJ3, HB⟩ := hcut
  cases kq with
  | zero => exact absurd HA.out (by simp [windbreakref01_Shr.j0])
  | succ kj3 =>
   have H := HA.out
   clear HA
   simp only [windbreakref01_Shr.j0] at H
   by_cases c6 : x16_3 = true
   ·
    subst c6
    have H1 : (some (([] : List Int), 1)) = some (r1, r2) := by rw [if_pos rfl] at H; exact H
    clear H; have H := H1; clear H1
    simp only [Option.some.injEq, Prod.mk.injEq] at H
    obtain ⟨rfl, rfl⟩ := H
    go_wp2
    go_ret2
    exact ⟨_, by first | rfl | (simp [errW_none, errW_some] <;> rfl) | (simp [*, errW_none, errW_some] <;> rfl), by first | exact Kd.R_nil _ _ _ _ _ | exact Kd.N_nil _ _ _ _ _ | exact Kd.V_nil _ _ _ _ _ | exact Kd.Q_nil _ _ _ _ _ | exact Kd.S_nil _ _ _ _ _, uB⟩
   replace c6 := Bool.eq_false_iff.mpr c6
   subst c6
   have H1 : (if a1 ≥ 4096 then (some (([] : List Int), 0)) else ((windbreakref01_In.f kj3 l0).bind fun t297 => ((windbreakref01_power.f kj3 a1).bind fun t300 => ((windbreakref01_div.f kj3 t297 t300).bind fun bt303 => ((windbreakref01_told.f kj3 bt303.1).bind fun bt309 => (some (bt309.1, bt309.2))))))) = some (r1, r2) := by rw [if_neg (show ¬ (false = true) by decide)] at H; exact H
   clear H; have H := H1; clear H1
   by_cases c7 : a1 ≥ 4096
   ·
    rw [if_pos c7] at H
    have c7b0 : decide (4096 ≤ a1) = true := decide_eq_true c7
    clear c7
    simp only [Option.some.injEq, Prod.mk.injEq] at H
    obtain ⟨rfl, rfl⟩ := H
    go_wp2
    go_ret2
    exact ⟨_, by first | rfl | (simp [errW_none, errW_some] <;> rfl) | (simp [*, errW_none, errW_some] <;> rfl), by first | exact Kd.R_nil _ _ _ _ _ | exact Kd.N_nil _ _ _ _ _ | exact Kd.V_nil _ _ _ _ _ | exact Kd.Q_nil _ _ _ _ _ | exact Kd.S_nil _ _ _ _ _, uB⟩
   rw [if_neg c7] at H
   have c7b0 : decide (4096 ≤ a1) = false := decide_eq_false c7
   clear c7
   replace H := ub H; obtain ⟨t297, A8, H⟩ := H
   replace H := ub H; obtain ⟨t300, A9, H⟩ := H
   replace H := ub H; obtain ⟨⟨t303, t304⟩, A10, H⟩ := H
   (try dsimp only at H)
   replace H := ub H; obtain ⟨⟨t309, t310⟩, A11, H⟩ := H
   (try dsimp only at H)
   simp only [Option.some.injEq, Prod.mk.injEq] at H
   obtain ⟨rfl, rfl⟩ := H
   go_wp2_with (first | ((with_reducible refine gate_callee (f := 75) rfl ?_); refine goesL_ (some 21) rfl rfl Try.func75 (by kernel_rfl) rfl #[.slice A0 l0.length c0] rfl uM ?_; (with_reducible refine (windbreakref01_In.calls kj3 _ _ l0 t297 _ ?side1 ?side2 A8.out).mono ?_); (case side1 => exact uC (Kd.C_below HR0.out HB.out)); (case side2 => exact HC0.out); rintro e w12 ⟨v298, rfl, ho0, hb⟩; refine ⟨_, rfl, ?_⟩; have HO299 := Aside0.mk (Kd.R_lower ho0 (below_size uB)); replace HB := uy hb; (try clear hb ho0)) | ((with_reducible refine gate_callee (f := 81) rfl ?_); refine goesL_ (some 23) rfl rfl Try.func81 (by kernel_rfl) rfl #[.int .i64 a1] rfl uM ?_; (with_reducible refine (windbreakref01_power.calls kj3 a1 t300 _ A9.out).mono ?_); rintro e w13 ⟨v301, rfl, ho0, hb⟩; refine ⟨_, rfl, ?_⟩; have HO302 := Aside0.mk (Kd.R_lower (Kd.R_new' ho0 (Kd.R_lt (uR HO299.out))) (below_size uB)); replace HO299 := ueR HO299 ho0 hb; replace HB := uy hb; (try clear hb ho0); obtain ⟨Ao14, co14, eo14⟩ := Kd.R_slice HO299.out; subst eo14; obtain ⟨Ao15, co15, eo15⟩ := Kd.R_slice HO302.out; subst eo15) | ((with_reducible refine gate_callee (f := 80) rfl ?_); refine goesL_ (some 24) rfl rfl Try.func80 (by kernel_rfl) rfl #[.slice Ao14 t297.length co14, .slice Ao15 t300.length co15] rfl uM ?_; (with_reducible refine (windbreakref01_div.calls kj3 _ _ t297 _ _ t300 t303 t304 _ ?side1 ?side2 ?side3 ?side4 A10.out).mono ?_); (case side1 => exact uC (Kd.R_reads' HO299.out).2.2); (case side2 => exact (Kd.R_reads' HO299.out).2.1); (case side3 => exact uC (Kd.R_reads' HO302.out).2.2); (case side4 => exact (Kd.R_reads' HO302.out).2.1); rintro e w16 ⟨v305, v307, rfl, ho0, ho1, hb⟩; refine ⟨_, rfl, ?_⟩; have HO306 := Aside0.mk (Kd.R_lower (Kd.R_new' (Kd.R_new' ho0 (Kd.R_lt (uR HO299.out))) (Kd.R_lt (uR HO302.out))) (below_size uB)); have HO308 := Aside0.mk (Kd.R_lower (Kd.R_new' (Kd.R_new' ho1 (Kd.R_lt (uR HO299.out))) (Kd.R_lt (uR HO302.out))) (below_size uB)); replace HO299 := Aside0.mk (Kd.R_mono (Kd.R_told (Kd.R_told (Kd.R_old (uR HO299.out) hb) (Kd.R_base ho0)) (Kd.R_base ho1)) (fun _ h_ => h_.1)); replace HO302 := Aside0.mk (Kd.R_mono (Kd.R_told (Kd.R_told (Kd.R_old (uR HO302.out) hb) (Kd.R_base ho0)) (Kd.R_base ho1)) (fun _ h_ => h_.1)); replace HB := uy hb; (try clear hb ho0 ho1); obtain ⟨Ao17, co17, eo17⟩ := Kd.R_slice HO306.out; subst eo17) | ((with_reducible refine gate_callee (f := 77) rfl ?_); refine goesL_ (some 28) rfl rfl Try.func77 (by kernel_rfl) rfl #[.slice Ao17 t303.length co17] rfl uM ?_; (with_reducible refine (windbreakref01_told.calls kj3 _ _ t303 t309 t310 _ ?side1 ?side2 A11.out).mono ?_); (case side1 => exact uC (Kd.R_reads' HO306.out).2.2); (case side2 => exact (Kd.R_reads' HO306.out).2.1); rintro e w18 ⟨v311, rfl, ho0, hb⟩; refine ⟨_, rfl, ?_⟩; have HO312 := Aside0.mk (Kd.R_lower (Kd.R_new' (Kd.R_new' (Kd.R_new' (Kd.R_new' ho0 (Kd.R_lt (uR HO299.out))) (Kd.R_lt (uR HO302.out))) (Kd.R_lt (uR HO306.out))) (Kd.R_lt (uR HO308.out))) (below_size uB)); replace HO299 := ueR HO299 ho0 hb; replace HO302 := ueR HO302 ho0 hb; replace HO306 := ueR HO306 ho0 hb; replace HO308 := ueR HO308 ho0 hb; replace HB := uy hb; (try clear hb ho0)))
   go_ret2
   exact ⟨_, uF, by (with_reducible repeat (first | apply Kd.R_alloc | apply Kd.R_drewN | apply Kd.R_drew)); exact Kd.R_mono HO312.out (fun _ hk => trivial), uB⟩
def windbreakref01_Shl.j0 : Nat → List Int → Int → Bool → Option (List Int × Int)
 | 0, _, _, _ => none
 | k + 1, x0, x1, x14 => if x14 = true then (some (([] : List Int), 1)) else (if (x0.length : Int) = 0 then (some (([] : List Int), 0)) else (if x1 > 4096 then (some (([] : List Int), 4)) else ((windbreakref01_In.f k x0).bind fun t314 => ((windbreakref01_power.f k x1).bind fun t317 => ((windbreakref01_mul.f k t314 t317).bind fun t320 => ((windbreakref01_told.f k t320).bind fun bt323 => (some (bt323.1, bt323.2))))))))
def windbreakref01_Shl.f (k : Nat) (l0 : List Int) (a1 : Int) : Option (List Int × Int) := (windbreakref01_Right.f l0).bind fun t313 => (if t313 = true then (windbreakref01_Shl.j0 k l0 a1 (decide (a1 < 0))) else (windbreakref01_Shl.j0 k l0 a1 true))
set_option maxHeartbeats 8000000 in
set_option maxRecDepth 100000 in
theorem windbreakref01_Shl.calls (k : Nat) (A0 : Option Addr) (c0 : Nat) (l0 : List Int) (a1 : Int) (r1 : List Int) (r2 : Int) (w : World) (hr0 : Kd.C (Kd.int .u64) w A0 l0.length l0) (hc0 : l0.length ≤ c0) (h : windbreakref01_Shl.f k l0 a1 = some (r1, r2)) :
  Calls Try.prog 51 #[.slice A0 l0.length c0, .int .i64 a1] w fun e w' => ∃ v0_ : Value, e = .returned (.tuple #[v0_, .int .i64 r2]) ∧ Kd.R (Kd.int .u64) 47 w' w.heap.size (fun _ => True) v0_ r1 ∧ Below w.heap.size w w' := by
 have HR0 := Aside0.mk hr0; have HC0 := Aside0.mk hc0; clear hr0 hc0
 have HB := Aside0.mk (Below.refl w.heap.size w)
 have H : ((windbreakref01_Right.f l0).bind fun t313 => (if t313 = true then (windbreakref01_Shl.j0 k l0 a1 (decide (a1 < 0))) else (windbreakref01_Shl.j0 k l0 a1 true))) = some (r1, r2) := h
 clear h
 replace H := ub H; obtain ⟨t313, A3, H⟩ := H
 have HC4 := Aside0.mk H; clear H
 go_enter Try.func51, Try.ntmps51
 go_upto_region 2 with (first | ((with_reducible refine gate_callee (f := 44) rfl ?_); refine goesL_ (some 8) rfl rfl Try.func44 (by kernel_rfl) rfl #[.slice A0 l0.length c0] rfl uM ?_; (with_reducible refine (windbreakref01_Right.calls _ _ l0 t313 _ ?side1 ?side2 A3.out).mono ?_); (case side1 => exact uC HR0.out); (case side2 => exact HC0.out); rintro e w' ⟨rfl, ⟨nd, rfl⟩⟩; refine ⟨_, rfl, ?_⟩))
 (try simp only [Act.put, List.setIfInBounds_toArray, List.set_cons_zero, List.set_cons_succ])
 go_cut [14] (fun v14 wc => ∃ (kq : Nat) (x14_3 : Bool), v14 = .bool x14_3 ∧ Aside0 (windbreakref01_Shl.j0 kq l0 a1 x14_3 = some (r1, r2)) ∧ Aside0 (kq ≤ k) ∧ Aside0 (Below w.heap.size w wc))
 case first =>
  have H := HC4.out
  clear HC4
  by_cases c5 : t313 = true
  ·
   subst c5
   have H1 : (windbreakref01_Shl.j0 k l0 a1 (decide (a1 < 0))) = some (r1, r2) := by rw [if_pos rfl] at H; exact H
   clear H; have H := H1; clear H1
   have H' := Aside0.mk H
   clear H
   go_wp2
   go_meet
   case rel => exact ⟨_, (decide (a1 < 0)), uG, H', ⟨uW⟩, ⟨uB⟩⟩
  replace c5 := Bool.eq_false_iff.mpr c5
  subst c5
  have H1 : (windbreakref01_Shl.j0 k l0 a1 true) = some (r1, r2) := by rw [if_neg (show ¬ (false = true) by decide)] at H; exact H
  clear H; have H := H1; clear H1
  have H' := Aside0.mk H
  clear H
  go_wp2
  go_meet
  case rel => exact ⟨_, (true), uG, H', ⟨uW⟩, ⟨uB⟩⟩
 case rest =>
  clear HC4; (try clear p2); (try clear c4); (try clear c5)
  obtain ⟨kq, x14_3, rfl, HA, HJ3, HB⟩ := hcut
  cases kq with
  | zero => exact absurd HA.out (by simp [windbreakref01_Shl.j0])
  | succ kj3 =>
   have H := HA.out
   clear HA
   simp only [windbreakref01_Shl.j0] at H
   by_cases c6 : x14_3 = true
   ·
    subst c6
    have H1 : (some (([] : List Int), 1)) = some (r1, r2) := by rw [if_pos rfl] at H; exact H
    clear H; have H := H1; clear H1
    simp only [Option.some.injEq, Prod.mk.injEq] at H
    obtain ⟨rfl, rfl⟩ := H
    go_wp2
    go_ret2
    exact ⟨_, by first | rfl | (simp [errW_none, errW_some] <;> rfl) | (simp [*, errW_none, errW_some] <;> rfl), by first | exact Kd.R_nil _ _ _ _ _ | exact Kd.N_nil _ _ _ _ _ | exact Kd.V_nil _ _ _ _ _ | exact Kd.Q_nil _ _ _ _ _ | exact Kd.S_nil _ _ _ _ _, uB⟩
   replace c6 := Bool.eq_false_iff.mpr c6
   subst c6
   have H1 : (if (l0.length : Int) = 0 then (some (([] : List Int), 0)) else (if a1 > 4096 then (some (([] : List Int), 4)) else ((windbreakref01_In.f kj3 l0).bind fun t314 => ((windbreakref01_power.f kj3 a1).bind fun t317 => ((windbreakref01_mul.f kj3 t314 t317).bind fun t320 => ((windbreakref01_told.f kj3 t320).bind fun bt323 => (some (bt323.1, bt323.2)))))))) = some (r1, r2) := by rw [if_neg (show ¬ (false = true) by decide)] at H; exact H
   clear H; have H := H1; clear H1
   by_cases c7 : (l0.length : Int) = 0
   ·
    rw [if_pos c7] at H
    have c7b0 : ((l0.length : Int) == 0) = true := beq_iff_eq.mpr c7
    have c7b1 : ((l0.length : Int) != 0) = false := bne_eq_false_iff_eq.mpr c7
    clear c7
    simp only [Option.some.injEq, Prod.mk.injEq] at H
    obtain ⟨rfl, rfl⟩ := H
    go_wp2
    go_ret2
    exact ⟨_, by first | rfl | (simp [errW_none, errW_some] <;> rfl) | (simp [*, errW_none, errW_some] <;> rfl), by first | exact Kd.R_nil _ _ _ _ _ | exact Kd.N_nil _ _ _ _ _ | exact Kd.V_nil _ _ _ _ _ | exact Kd.Q_nil _ _ _ _ _ | exact Kd.S_nil _ _ _ _ _, uB⟩
   rw [if_neg c7] at H
   have c7b0 : ((l0.length : Int) == 0) = false := beq_eq_false_iff_ne.mpr c7
   have c7b1 : ((l0.length : Int) != 0) = true := bne_iff_ne.mpr c7
   have c7b2 : ¬ (l0 = []) := fun h_ => c7 (by rw [h_]; rfl)
   by_cases c8 : a1 > 4096
   ·
    rw [if_pos c8] at H
    have c8b0 : decide (4096 < a1) = true := decide_eq_true c8
    clear c8
    simp only [Option.some.injEq, Prod.mk.injEq] at H
    obtain ⟨rfl, rfl⟩ := H
    go_wp2
    go_ret2
    exact ⟨_, by first | rfl | (simp [errW_none, errW_some] <;> rfl) | (simp [*, errW_none, errW_some] <;> rfl), by first | exact Kd.R_nil _ _ _ _ _ | exact Kd.N_nil _ _ _ _ _ | exact Kd.V_nil _ _ _ _ _ | exact Kd.Q_nil _ _ _ _ _ | exact Kd.S_nil _ _ _ _ _, uB⟩
   rw [if_neg c8] at H
   have c8b0 : decide (4096 < a1) = false := decide_eq_false c8
   clear c8
   replace H := ub H; obtain ⟨t314, A9, H⟩ := H
   replace H := ub H; obtain ⟨t317, A10, H⟩ := H
   replace H := ub H; obtain ⟨t320, A11, H⟩ := H
   replace H := ub H; obtain ⟨⟨t323, t324⟩, A12, H⟩ := H
   (try dsimp only at H)
   simp only [Option.some.injEq, Prod.mk.injEq] at H
   obtain ⟨rfl, rfl⟩ := H
   go_wp2_with (first | ((with_reducible refine gate_callee (f := 75) rfl ?_); refine goesL_ (some 21) rfl rfl Try.func75 (by kernel_rfl) rfl #[.slice A0 l0.length c0] rfl uM ?_; (with_reducible refine (windbreakref01_In.calls kj3 _ _ l0 t314 _ ?side1 ?side2 A9.out).mono ?_); (case side1 => exact uC (Kd.C_below HR0.out HB.out)); (case side2 => exact HC0.out); rintro e w13 ⟨v315, rfl, ho0, hb⟩; refine ⟨_, rfl, ?_⟩; have HO316 := Aside0.mk (Kd.R_lower ho0 (below_size uB)); replace HB := uy hb; (try clear hb ho0)) | ((with_reducible refine gate_callee (f := 81) rfl ?_); refine goesL_ (some 23) rfl rfl Try.func81 (by kernel_rfl) rfl #[.int .i64 a1] rfl uM ?_; (with_reducible refine (windbreakref01_power.calls kj3 a1 t317 _ A10.out).mono ?_); rintro e w14 ⟨v318, rfl, ho0, hb⟩; refine ⟨_, rfl, ?_⟩; have HO319 := Aside0.mk (Kd.R_lower (Kd.R_new' ho0 (Kd.R_lt (uR HO316.out))) (below_size uB)); replace HO316 := ueR HO316 ho0 hb; replace HB := uy hb; (try clear hb ho0); obtain ⟨Ao15, co15, eo15⟩ := Kd.R_slice HO316.out; subst eo15; obtain ⟨Ao16, co16, eo16⟩ := Kd.R_slice HO319.out; subst eo16) | ((with_reducible refine gate_callee (f := 82) rfl ?_); refine goesL_ (some 24) rfl rfl Try.func82 (by kernel_rfl) rfl #[.slice Ao15 t314.length co15, .slice Ao16 t317.length co16] rfl uM ?_; (with_reducible refine (windbreakref01_mul.calls kj3 _ _ t314 _ _ t317 t320 _ ?side1 ?side2 ?side3 ?side4 A11.out).mono ?_); (case side1 => exact uC (Kd.R_reads' HO316.out).2.2); (case side2 => exact (Kd.R_reads' HO316.out).2.1); (case side3 => exact uC (Kd.R_reads' HO319.out).2.2); (case side4 => exact (Kd.R_reads' HO319.out).2.1); rintro e w17 ⟨v321, rfl, ho0, hb⟩; refine ⟨_, rfl, ?_⟩; have HO322 := Aside0.mk (Kd.R_lower (Kd.R_new' (Kd.R_new' ho0 (Kd.R_lt (uR HO316.out))) (Kd.R_lt (uR HO319.out))) (below_size uB)); replace HO316 := ueR HO316 ho0 hb; replace HO319 := ueR HO319 ho0 hb; replace HB := uy hb; (try clear hb ho0); obtain ⟨Ao18, co18, eo18⟩ := Kd.R_slice HO322.out; subst eo18) | ((with_reducible refine gate_callee (f := 77) rfl ?_); refine goesL_ (some 25) rfl rfl Try.func77 (by kernel_rfl) rfl #[.slice Ao18 t320.length co18] rfl uM ?_; (with_reducible refine (windbreakref01_told.calls kj3 _ _ t320 t323 t324 _ ?side1 ?side2 A12.out).mono ?_); (case side1 => exact uC (Kd.R_reads' HO322.out).2.2); (case side2 => exact (Kd.R_reads' HO322.out).2.1); rintro e w19 ⟨v325, rfl, ho0, hb⟩; refine ⟨_, rfl, ?_⟩; have HO326 := Aside0.mk (Kd.R_lower (Kd.R_new' (Kd.R_new' (Kd.R_new' ho0 (Kd.R_lt (uR HO316.out))) (Kd.R_lt (uR HO319.out))) (Kd.R_lt (uR HO322.out))) (below_size uB)); replace HO316 := ueR HO316 ho0 hb; replace HO319 := ueR HO319 ho0 hb; replace HO322 := ueR HO322 ho0 hb; replace HB := uy hb; (try clear hb ho0)))
   go_ret2
   exact ⟨_, uF, by (with_reducible repeat (first | apply Kd.R_alloc | apply Kd.R_drewN | apply Kd.R_drew)); exact Kd.R_mono HO326.out (fun _ hk => trivial), uB⟩
end Go.Proofs.Ytlkinjhmgljapab.F
end
