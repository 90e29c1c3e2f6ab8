/- Proved: the law SplitmaskFinds of layer 20: each cut of a node has one number, and it is found by that; for every input, without a condition. -/
import Derived.Test.YtnaphgnkhhapoaaMSplitmaskFindsa
import Derived.StillTailTactics
import Derived.Maps.Own
import Derived.DeepKeys4
import Derived.Laws.Tables
import Derived.Laws.Rows
import Derived.Laws.CopyOwn
import Derived.Deep.RegionLaw
import Derived.Deep.Slices
import Derived.Lib.SmallJoins
import Derived.OpenShut
import Derived.Laws.BitsLemmas
set_option maxHeartbeats 8000000
set_option maxRecDepth 100000
section
namespace Go.Proofs.Ytnaphgnkhhapoaa.F
open Go.RowKit Go.Proofs.YtnaphgnkhhapoaaW.PrintWords Go.Proofs.YtnaphgnkhhapoaaW.PrintLast Go.Proofs.YtnaphgnkhhapoaaW.PrintMore
set_option linter.unusedVariables false
set_option linter.unusedSimpArgs false
def Rf (w : World) (ok : Nat → Prop) (A : Option Addr) (c : Nat) (l : List Int) : Prop := Kd.F (Kd.int .u64) w ok A l.length l ∧ l.length ≤ c
theorem Rf.V {w : World} {ok : Nat → Prop} {A : Option Addr} {c : Nat} {l : List Int} (h : Rf w ok A c l) {base : Nat} : Kd.V (Kd.int .u64) 62 w base ok (.slice A l.length c) l := Kd.V_mk h.2 h.1
theorem Rf.C {w : World} {ok : Nat → Prop} {A : Option Addr} {c : Nat} {l : List Int} (h : Rf w ok A c l) : Kd.C (Kd.int .u64) w A l.length l := Kd.F_now h.1
theorem Rf.mono {w : World} {ok ok' : Nat → Prop} {A : Option Addr} {c : Nat} {l : List Int} (h : Rf w ok A c l) (hok : ∀ k, ok k → ok' k) : Rf w ok' A c l := ⟨Kd.F_mono h.1 hok, h.2⟩
theorem Rf.below {w w1 : World} {ok : Nat → Prop} {A : Option Addr} {c : Nat} {l : List Int} (h : Rf w ok A c l) (hb : Below w.heap.size w w1) : Rf w1 ok A c l := ⟨Kd.F_below h.1 hb, h.2⟩
theorem Rf.nil (w : World) (ok : Nat → Prop) : Rf w ok none 0 [] := ⟨Kd.F_nil _ _ _, Nat.le_refl _⟩
theorem Rf.of {w : World} {A : Option Addr} {c e base : Nat} {ok : Nat → Prop} {l : List Int} (h : Kd.R (Kd.int .u64) e w base ok (.slice A l.length c) l) : Rf w (fun k => base ≤ k) A c l := ⟨Kd.R_F (Kd.R_mono (Kd.R_bound h) (fun _ hk => hk.2.1)), (Kd.R_reads' h).2.1⟩
def Stay (w w' : World) (g : Nat) : Prop := KeepBut w w' g none ∧ w'.os = w.os ∧ w'.tape = w.tape ∧ w'.output = w.output
theorem Stay.refl (w : World) (g : Nat) : Stay w w g := ⟨KeepBut.refl _ _ _, rfl, rfl, rfl⟩
theorem Stay.of_below {w w1 : World} (h : Below w.heap.size w w1) (g : Nat) : Stay w w1 g := ⟨KeepBut.of_below h g none, h.os, h.tape, h.output⟩
theorem Stay.trans {w w1 w2 : World} {g : Nat} (h : Stay w w1 g) (k : Stay w1 w2 g) : Stay w w2 g := ⟨h.1.trans k.1 (.inl rfl), k.2.1.trans h.2.1, k.2.2.1.trans h.2.2.1, k.2.2.2.trans h.2.2.2⟩
theorem Stay.then {w w1 w2 : World} {g : Nat} (h : Stay w w1 g) (k : Below w1.heap.size w1 w2) : Stay w w2 g := h.trans (Stay.of_below k g)
theorem Stay.size {w w1 : World} {g : Nat} (h : Stay w w1 g) : w.heap.size ≤ w1.heap.size := h.1.1
theorem Stay.set_new {w w1 : World} {g : Nat} (h : Stay w w1 g) {p : Addr} (hp : w.heap.size ≤ p.block) (u : Value) : Stay w (w1.setCell p u) g := ⟨keep_far h.1 hp u, h.2.1, h.2.2.1, h.2.2.2⟩
theorem Rf.stay {w w1 : World} {ok : Nat → Prop} {A : Option Addr} {c g : Nat} {l : List Int} (h : Rf w ok A c l) (hs : Stay w w1 g) (hg : ¬ ok g) : Rf w1 ok A c l := ⟨Kd.F_step h.1 (fun k hk hlt => hs.1.2 k hlt (fun e => hg (e ▸ hk)) (by simp)), h.2⟩
theorem Stay.below {w w1 : World} {g : Nat} (h : Stay w w1 g) {w0 : World} (hb : Below w0.heap.size w0 w) (hg : w0.heap.size ≤ g) : Below w0.heap.size w0 w1 := keep_below hb h.1 h.2.1 h.2.2.1 h.2.2.2 hg
theorem Tp.bound {w : World} {g : Nat} {ok : Nat → Prop} {l : List Int} (h : Tp w g ok l) : Tp w g (fun k => ok k ∧ k < w.heap.size) l := by
  obtain ⟨A, c, h1, h2, h3⟩ := h
  exact ⟨A, c, h1, h2, Kd.F_bound h3⟩
theorem Tp.far {w : World} {g : Nat} {ok : Nat → Prop} {l : List Int} (h : Tp w g ok l) {p : Addr} (hp : p.block ≠ g) (hok : ∀ k, ok k → k ≠ p.block) (u : Value) : Tp (w.setCell p u) g ok l := by
  obtain ⟨A, c, h1, h2, h3⟩ := h
  exact ⟨A, c, (Below.heap_setCell w p u g (fun e => hp e.symm)).trans h1, h2, Kd.F_far h3 hok u⟩
def maskV (odd : Int) (x : List Int) : List Int := if odd > 0 then x.set 0 (Go.bits .and .u8 (x.getD 0 0) (IntKind.u8.wrap (IntKind.u8.wrap (2 ^ odd.toNat) - 1))) else x
def tape_draw.f (bits : Int) (n : List Int) : Nat → List Int → Option (List Int × Int × List Int)
  | 0, _ => none
  | k + 1, l => if (l.length : Int) < (bits + 7) / 8 then some ([], 7, l) else (nat_Read.f k (maskV (bits % 8) (l.take ((bits + 7) / 8).toNat))).bind fun x => (nat_Cmp.f k x.1 n).bind fun c => if c < 0 then some (x.1, 0, l.drop ((bits + 7) / 8).toNat) else tape_draw.f bits n k (l.drop ((bits + 7) / 8).toNat)
theorem own_head {k : IntKind} {e base n c : Nat} {ok : Nat → Prop} {A : Option Addr} {w : World} {xs : List Int} (h : Kd.R (Kd.int k) e w base ok (.slice A n c) xs) (hx : 0 < xs.length) : ∃ g, A = some ⟨g, 0, none⟩ ∧ base ≤ g := by
  obtain ⟨ad, rfl, _⟩ := Kd.at_int (Kd.R_reads' h).2.2 (0 : Int) (by omega) (by omega)
  obtain ⟨g, rfl⟩ := Kd.R_head h
  exact ⟨g, rfl, Kd.R_base h g rfl⟩
theorem tape_draw.calls (K : Nat) (g : Nat) (l n : List Int) (bits : Int) (An : Option Addr) (cn : Nat) (ok okn : Nat → Prop) (r : List Int) (er : Int) (l' : List Int) (w : World) (hT : Tp w g ok l) (hg : ¬ ok g) (hn : Rf w okn An cn n) (hgn : ¬ okn g) (hb0 : 0 < bits) (hb1 : bits ≤ 4096) (h : tape_draw.f bits n K l = some (r, er, l')) :
    Calls Try.prog 110 #[.func (.func 111) #[.pointer (some ⟨g, 0, none⟩)] #[], .int .i64 bits, .slice An n.length cn] w fun e w' => ∃ A c, e = .returned (.tuple #[.slice A r.length c, .int .i64 er]) ∧ Rf w' (fun k => w.heap.size ≤ k) A c r ∧ Tp w' g ok l' ∧ Stay w w' g := by
  have HT := Aside0.mk hT
  have HN := Aside0.mk hn
  have HH := Aside0.mk h
  have hd1 : wrap64 (bits + 7) = bits + 7 := by unfold wrap64; omega
  have hm0 : 0 ≤ (bits + 7) / 8 := by omega
  clear hT hn h
  go_enter Try.func110, Try.ntmps110
  go_wp2
  go_loopg [] K (fun gg wr => ∃ l1 : List Int, Aside0 (tape_draw.f bits n gg l1 = some (r, er, l')) ∧ Aside0 (Tp wr g ok l1) ∧ Aside0 (Stay w wr g))
  case atStart => exact ⟨l, HH, HT, ⟨Stay.refl _ _⟩⟩
  case round =>
    obtain ⟨l1, HK, HT1, HS⟩ := hrel
    cases gk with
    | zero => exact absurd HK.out (by simp [tape_draw.f])
    | succ k =>
      have hK := HK.out
      rw [tape_draw.f] at hK
      by_cases hfew : (l1.length : Int) < (bits + 7) / 8
      · rw [if_pos hfew] at hK
        simp only [Option.some.injEq, Prod.mk.injEq] at hK
        obtain ⟨rfl, rfl, rfl⟩ := hK
        have HFEW := Aside0.mk hfew
        clear HK hfew
        go_wp2_with (go_at_call 111; refine (tape_Take.few g l1 _ ok _ HT1.out (by omega) (by omega) HFEW.out).mono ?_; rintro e w' ⟨rfl, rfl⟩)
        go_ret2
        exact ⟨_, _, rfl, Rf.nil _ _, HT1.out, HS.out⟩
      · rw [if_neg hfew] at hK
        obtain ⟨⟨x1, x2⟩, hx, hK2⟩ := Option.bind_eq_some_iff.mp hK
        obtain ⟨c, hc, hK3⟩ := Option.bind_eq_some_iff.mp hK2
        have HX := Aside0.mk hx
        have HC := Aside0.mk hc
        have HK3 := Aside0.mk hK3
        have HFEW := Aside0.mk hfew
        have hlen : (l1.take ((bits + 7) / 8).toNat).length = ((bits + 7) / 8).toNat := by rw [List.length_take]; omega
        have HLEN := Aside0.mk hlen
        clear HK hfew hK hK2 hK3 hx hc hlen
        generalize hX : l1.take ((bits + 7) / 8).toNat = X at HX HLEN
        have HXX := Aside0.mk hX
        by_cases h8 : bits % 8 > 0
        · have h8z : decide (0 < bits % 8) = true := decide_eq_true h8
          have hm : maskV (bits % 8) X = X.set 0 (Go.bits .and .u8 (X.getD 0 0) (IntKind.u8.wrap (IntKind.u8.wrap (2 ^ (bits % 8).toNat) - 1))) := by unfold maskV; rw [if_pos h8]
          rw [hm] at HX
          clear hm hX
          go_wp2_with (go_at_call 111; refine (tape_Take.calls g l1 ((bits + 7) / 8) (fun k => ok k ∧ k < wr.heap.size) _ HT1.out.bound (fun h => hg h.1) (by omega) (by omega) (by have := HFEW.out; omega)).mono ?_; rintro e w2 ⟨v, rfl, hR, hT2, hk1, hk2, hk3, hk4⟩; rw [HXX.out] at hR; obtain ⟨Av, cv, ev⟩ := Kd.R_slice hR; subst ev; have HV := Aside0.mk hR; have HT2 := Aside0.mk hT2; have HS2 := Aside0.mk (HS.out.trans ⟨hk1, hk2, hk3, hk4⟩); have HG2 := Aside0.mk (show g < wr.heap.size from HT1.out.lt); clear hR hT2 hk1 hk2 hk3 hk4)
          have hX0 : 0 < X.length := by have := HLEN.out; omega
          obtain ⟨gv, hgv, hgb⟩ := own_head HV.out hX0
          subst hgv
          obtain ⟨x0, hx0⟩ : ∃ x0 : Int, x0 = X.getD 0 0 := ⟨_, rfl⟩
          have hcc0 := Kd.R_celln 0 HV.out 0 (by omega) (by omega)
          have hcell : w2.cell? ⟨gv, 0, none⟩ = some (.int .u8 x0) := by rw [hx0]; exact hcc0.1
          have hcell2 : w2.drew.cell? ⟨gv, 0, none⟩ = some (.int .u8 x0) := hcell
          have hz2 : (0 : Int) < (X.length : Int) := by omega
          have hfz : w2.frozen? ⟨gv, 0, none⟩ = false := hcc0.2
          have hfz2 : w2.drew.frozen? ⟨gv, 0, none⟩ = false := hcc0.2
          have h80 : (0 : Int) ≤ bits % 8 := by omega
          have HP := Aside0.mk (Kd.R_putg (Kd.R_drew HV.out) 0 (Go.bits .and .u8 x0 (IntKind.u8.wrap (IntKind.u8.wrap (2 ^ (bits % 8).toNat) - 1))))
          obtain ⟨Y, hY⟩ : ∃ Y : List Int, X.set 0 (Go.bits .and .u8 (X.getD 0 0) (IntKind.u8.wrap (IntKind.u8.wrap (2 ^ (bits % 8).toNat) - 1))) = Y := ⟨_, rfl⟩
          rw [hY] at HX
          rw [← hx0] at hY
          have HY := Aside0.mk hY
          have HYL := Aside0.mk (show Y.length = X.length from by rw [← hY, List.length_set])
          have HGB := Aside0.mk hgb
          clear hcc0 hx0 hY hgb
          by_cases hcc : c < 0
          · have hK4 := HK3.out
            rw [if_pos hcc] at hK4
            simp only [Option.some.injEq, Prod.mk.injEq] at hK4
            obtain ⟨rfl, rfl, rfl⟩ := hK4
            clear HK3
            go_still_tail 8, (by kernel_rfl)
            change wpList _ _ _ _ _ w2.drew
            go_wp2_with (first
              | ((with_reducible refine gate_store (t := 5) (p := 35) rfl ?_); refine store_event (t := 5) (p := 35) (v := ?vo) (w1 := (w2.drew.setCell ⟨gv, 0, none⟩ (.int .u8 (Go.bits .and .u8 x0 (IntKind.u8.wrap (IntKind.u8.wrap (2 ^ (bits % 8).toNat) - 1)))))) ?hg ?ho ?hn ?hr ?_; (case ho => rfl); (case hg => rfl); (case hn => rfl); (case hr => first | (go_simp; done) | (go_simp; rfl)); intro w5 hw; have HV5 := Aside0.mk (show Kd.R (Kd.int .u8) 5 w5 wr.heap.size (fun _ => True) (.slice (some ⟨gv, 0, none⟩) X.length cv) Y from by rw [hw, ← HY.out]; exact HP.out.1); have HT5 := Aside0.mk (show Tp w5 g (fun k => ok k ∧ k < wr.heap.size) _ from by rw [hw]; exact (HT2.out.below (below_drew (Below.refl _ _))).far (p := ⟨gv, 0, none⟩) (by have := HG2.out; have := HGB.out; show gv ≠ g; omega) (fun k hk => by have := HGB.out; show k ≠ gv; have := hk.2; omega) _); have HS5 := Aside0.mk (show Stay w w5 g from by rw [hw]; exact Stay.set_new (HS2.out.then (below_drew (Below.refl _ _))) (p := ⟨gv, 0, none⟩) (by have := HS.out.size; have := HGB.out; show w.heap.size ≤ gv; omega) _); clear hw)
              | (go_at_call 121; ((rw [show X.length = Y.length from HYL.out.symm]); refine (nat_Read.calls k (some ⟨gv, 0, none⟩) cv Y x1 x2 _ (Kd.R_reads' HV5.out).2.2 (by have := (Kd.R_reads' HV5.out).2.1; have := HYL.out; omega) HX.out).mono ?_; rintro e w6 ⟨v3, rfl, hR, hb⟩; obtain ⟨A3, c3, e3⟩ := Kd.R_slice hR; subst e3; have HR3 := Aside0.mk (Rf.of hR); have HT3 := Aside0.mk (HT5.out.below hb); have HS3 := Aside0.mk (HS5.out.then hb); clear hR hb))
              | (go_at_call 59; refine (nat_Cmp.calls k _ A3 c3 x1 _ An cn n c _ HR3.out.V (HN.out.stay HS3.out hgn).V HC.out).mono ?_; rintro e w4 ⟨rfl, hb⟩; have HR4 := Aside0.mk ((HR3.out.mono (ok' := fun k => w.heap.size ≤ k) (fun k hk => Nat.le_trans HS5.out.size hk)).below hb); have HT4 := Aside0.mk (HT3.out.below hb); have HS4 := Aside0.mk (HS3.out.then hb); clear hb))
            go_ret2
            exact ⟨_, _, rfl, HR4.out, HT4.out.mono (fun k hk => hk.1), HS4.out⟩
          · have hK4 := HK3.out
            rw [if_neg hcc] at hK4
            have HK5 := Aside0.mk hK4
            clear HK3 hK4
            go_still_tail 8, (by kernel_rfl)
            change wpList _ _ _ _ _ w2.drew
            go_wp2_with (first
              | ((with_reducible refine gate_store (t := 5) (p := 35) rfl ?_); refine store_event (t := 5) (p := 35) (v := ?vo) (w1 := (w2.drew.setCell ⟨gv, 0, none⟩ (.int .u8 (Go.bits .and .u8 x0 (IntKind.u8.wrap (IntKind.u8.wrap (2 ^ (bits % 8).toNat) - 1)))))) ?hg ?ho ?hn ?hr ?_; (case ho => rfl); (case hg => rfl); (case hn => rfl); (case hr => first | (go_simp; done) | (go_simp; rfl)); intro w5 hw; have HV5 := Aside0.mk (show Kd.R (Kd.int .u8) 5 w5 wr.heap.size (fun _ => True) (.slice (some ⟨gv, 0, none⟩) X.length cv) Y from by rw [hw, ← HY.out]; exact HP.out.1); have HT5 := Aside0.mk (show Tp w5 g (fun k => ok k ∧ k < wr.heap.size) _ from by rw [hw]; exact (HT2.out.below (below_drew (Below.refl _ _))).far (p := ⟨gv, 0, none⟩) (by have := HG2.out; have := HGB.out; show gv ≠ g; omega) (fun k hk => by have := HGB.out; show k ≠ gv; have := hk.2; omega) _); have HS5 := Aside0.mk (show Stay w w5 g from by rw [hw]; exact Stay.set_new (HS2.out.then (below_drew (Below.refl _ _))) (p := ⟨gv, 0, none⟩) (by have := HS.out.size; have := HGB.out; show w.heap.size ≤ gv; omega) _); clear hw)
              | (go_at_call 121; ((rw [show X.length = Y.length from HYL.out.symm]); refine (nat_Read.calls k (some ⟨gv, 0, none⟩) cv Y x1 x2 _ (Kd.R_reads' HV5.out).2.2 (by have := (Kd.R_reads' HV5.out).2.1; have := HYL.out; omega) HX.out).mono ?_; rintro e w6 ⟨v3, rfl, hR, hb⟩; obtain ⟨A3, c3, e3⟩ := Kd.R_slice hR; subst e3; have HR3 := Aside0.mk (Rf.of hR); have HT3 := Aside0.mk (HT5.out.below hb); have HS3 := Aside0.mk (HS5.out.then hb); clear hR hb))
              | (go_at_call 59; refine (nat_Cmp.calls k _ A3 c3 x1 _ An cn n c _ HR3.out.V (HN.out.stay HS3.out hgn).V HC.out).mono ?_; rintro e w4 ⟨rfl, hb⟩; have HR4 := Aside0.mk ((HR3.out.mono (ok' := fun k => w.heap.size ≤ k) (fun k hk => Nat.le_trans HS5.out.size hk)).below hb); have HT4 := Aside0.mk (HT3.out.below hb); have HS4 := Aside0.mk (HS3.out.then hb); clear hb))
            go_roundg k
            case measure => omega
            case rel => exact ⟨_, HK5, ⟨HT4.out.mono (fun k hk => hk.1)⟩, HS4⟩
        · have h8z : decide (0 < bits % 8) = false := decide_eq_false h8
          have hm : maskV (bits % 8) X = X := by unfold maskV; rw [if_neg h8]
          rw [hm] at HX
          clear hm h8 hX
          by_cases hcc : c < 0
          · have hK4 := HK3.out
            rw [if_pos hcc] at hK4
            simp only [Option.some.injEq, Prod.mk.injEq] at hK4
            obtain ⟨rfl, rfl, rfl⟩ := hK4
            clear HK3
            go_wp2_with (first
              | (go_at_call 111; refine (tape_Take.calls g l1 ((bits + 7) / 8) (fun k => ok k ∧ k < wr.heap.size) _ HT1.out.bound (fun h => hg h.1) (by omega) (by omega) (by have := HFEW.out; omega)).mono ?_; rintro e w2 ⟨v, rfl, hR, hT2, hk1, hk2, hk3, hk4⟩; rw [HXX.out] at hR; obtain ⟨Av, cv, ev⟩ := Kd.R_slice hR; subst ev; have HV := Aside0.mk hR; have HT2 := Aside0.mk hT2; have HS2 := Aside0.mk (HS.out.trans ⟨hk1, hk2, hk3, hk4⟩); clear hR hT2 hk1 hk2 hk3 hk4)
              | (go_at_call 121; (refine (nat_Read.calls k Av cv X x1 x2 _ (Kd.R_reads' HV.out).2.2 (Kd.R_reads' HV.out).2.1 HX.out).mono ?_; rintro e w3 ⟨v3, rfl, hR, hb⟩; obtain ⟨A3, c3, e3⟩ := Kd.R_slice hR; subst e3; have HR3 := Aside0.mk (Rf.of hR); have HT3 := Aside0.mk (HT2.out.below hb); have HS3 := Aside0.mk (HS2.out.then hb); clear hR hb))
              | (go_at_call 59; refine (nat_Cmp.calls k _ A3 c3 x1 _ An cn n c _ HR3.out.V (HN.out.stay HS3.out hgn).V HC.out).mono ?_; rintro e w4 ⟨rfl, hb⟩; have HR4 := Aside0.mk ((HR3.out.mono (ok' := fun k => w.heap.size ≤ k) (fun k hk => Nat.le_trans HS2.out.size hk)).below hb); have HT4 := Aside0.mk (HT3.out.below hb); have HS4 := Aside0.mk (HS3.out.then hb); clear hb))
            go_ret2
            exact ⟨_, _, rfl, HR4.out, HT4.out.mono (fun k hk => hk.1), HS4.out⟩
          · have hK4 := HK3.out
            rw [if_neg hcc] at hK4
            have HK5 := Aside0.mk hK4
            clear HK3 hK4
            go_wp2_with (first
              | (go_at_call 111; refine (tape_Take.calls g l1 ((bits + 7) / 8) (fun k => ok k ∧ k < wr.heap.size) _ HT1.out.bound (fun h => hg h.1) (by omega) (by omega) (by have := HFEW.out; omega)).mono ?_; rintro e w2 ⟨v, rfl, hR, hT2, hk1, hk2, hk3, hk4⟩; rw [HXX.out] at hR; obtain ⟨Av, cv, ev⟩ := Kd.R_slice hR; subst ev; have HV := Aside0.mk hR; have HT2 := Aside0.mk hT2; have HS2 := Aside0.mk (HS.out.trans ⟨hk1, hk2, hk3, hk4⟩); clear hR hT2 hk1 hk2 hk3 hk4)
              | (go_at_call 121; (refine (nat_Read.calls k Av cv X x1 x2 _ (Kd.R_reads' HV.out).2.2 (Kd.R_reads' HV.out).2.1 HX.out).mono ?_; rintro e w3 ⟨v3, rfl, hR, hb⟩; obtain ⟨A3, c3, e3⟩ := Kd.R_slice hR; subst e3; have HR3 := Aside0.mk (Rf.of hR); have HT3 := Aside0.mk (HT2.out.below hb); have HS3 := Aside0.mk (HS2.out.then hb); clear hR hb))
              | (go_at_call 59; refine (nat_Cmp.calls k _ A3 c3 x1 _ An cn n c _ HR3.out.V (HN.out.stay HS3.out hgn).V HC.out).mono ?_; rintro e w4 ⟨rfl, hb⟩; have HR4 := Aside0.mk ((HR3.out.mono (ok' := fun k => w.heap.size ≤ k) (fun k hk => Nat.le_trans HS2.out.size hk)).below hb); have HT4 := Aside0.mk (HT3.out.below hb); have HS4 := Aside0.mk (HS3.out.then hb); clear hb))
            go_roundg k
            case measure => omega
            case rel => exact ⟨_, HK5, ⟨HT4.out.mono (fun k hk => hk.1)⟩, HS4⟩
end Go.Proofs.Ytnaphgnkhhapoaa.F
end
section
namespace Go.Proofs.Ytnaphgnkhhapoaa.F
open Go.RowKit Go.Proofs.YtnaphgnkhhapoaaW.PrintWords Go.Proofs.YtnaphgnkhhapoaaW.PrintLast Go.Proofs.YtnaphgnkhhapoaaW.PrintMore
attribute [local go_sem] max2_int min2_int max_two min_two max_three min_three max_four min_four
set_option linter.unusedVariables false
set_option linter.unusedSimpArgs false
attribute [local go_sem] sub64_run
def nat_less.l0 : Nat → List Int → List Int → List Int → Int → Int → Int → Option (List Int)
 | 0, _, _, _, _, _, _ => none
 | k + 1, x0, x1, x5, x6, x13, x14 => if x14 < x13 then (if x14 < (x1.length : Int) then (if 0 ≤ x14 then (if x14 < (x0.length : Int) then (if carry01 x6 = true then (if x14 < (x5.length : Int) then (nat_less.l0 k x0 x1 (x5.set (x14 : Int).toNat (sub64_s (rd x0 x14) (rd x1 x14) x6)) (sub64_c (rd x0 x14) (rd x1 x14) x6) x13 (wrap64 (x14 + 1))) else (none)) else (none)) else (none)) else (none)) else (if 0 ≤ x14 then (if x14 < (x0.length : Int) then (if carry01 x6 = true then (if x14 < (x5.length : Int) then (nat_less.l0 k x0 x1 (x5.set (x14 : Int).toNat (sub64_s (rd x0 x14) 0 x6)) (sub64_c (rd x0 x14) 0 x6) x13 (wrap64 (x14 + 1))) else (none)) else (none)) else (none)) else (none))) else (some x5)
def nat_less.f (k : Nat) (l0 : List Int) (l1 : List Int) : Option (List Int) := if 0 ≤ (l0.length : Int) then (if ((l0.length : Int) : Int).toNat ≤ 35184372088832 then (nat_less.l0 k l0 l1 (List.replicate ((l0.length : Int) : Int).toNat 0) 0 (l0.length : Int) 0) else (none)) else (none)
theorem nat_less.calls (k : Nat) (A0 : Option Addr) (c0 : Nat) (l0 : List Int) (A1 : Option Addr) (c1 : Nat) (l1 : List Int) (r : List Int) (w : World) (hr0 : Kd.C (Kd.int .u64) w A0 l0.length l0) (hc0 : l0.length ≤ c0) (hr1 : Kd.C (Kd.int .u64) w A1 l1.length l1) (hc1 : l1.length ≤ c1) (h : nat_less.f k l0 l1 = some r) :
  Calls Try.prog 78 #[.slice A0 l0.length c0, .slice A1 l1.length c1] w fun e w' => ∃ v0_ : Value, e = .returned (v0_) ∧ Kd.R (Kd.int .u64) 62 w' w.heap.size (fun _ => True) v0_ r ∧ Below w.heap.size w w' := by
 have HR0 := Aside0.mk hr0; have HC0 := Aside0.mk hc0; clear hr0 hc0; have HR1 := Aside0.mk hr1; have HC1 := Aside0.mk hc1; clear hr1 hc1
 have HB := Aside0.mk (Below.refl w.heap.size w)
 have H : (if 0 ≤ (l0.length : Int) then (if ((l0.length : Int) : Int).toNat ≤ 35184372088832 then (nat_less.l0 k l0 l1 (List.replicate ((l0.length : Int) : Int).toNat 0) 0 (l0.length : Int) 0) else (none)) else (none)) = some r := h
 clear h
 replace H := uT H; obtain ⟨c3, H⟩ := H
 have c3b0 := eq_true c3
 have c3b1 := decide_eq_true c3
 clear c3
 replace H := uT H; obtain ⟨c4, H⟩ := H
 have c4b0 := eq_true c4
 have c4b1 := decide_eq_true c4
 clear c4
 obtain ⟨y131, hy131⟩ : ∃ y_ : List Int, y_ = (List.replicate ((l0.length : Int) : Int).toNat 0) := ⟨_, rfl⟩
 replace H : (nat_less.l0 k l0 l1 y131 0 (l0.length : Int) 0) = some r := by first | (rw [hy131]; with_reducible exact H) | (have H2_ := (Option.bind_some _ _).symm.trans H; rw [hy131]; with_reducible exact H2_) | (have H2_ := (Option.bind_some _ _).symm.trans H; with_reducible exact H2_) | with_reducible exact H | (rw [hy131]; exact H) | exact H
 have Ny131 := Aside0.mk hy131; clear hy131
 have H' := Aside0.mk H
 clear H
 go_enter Try.func78, Try.ntmps78
 go_wp2_with (first | ((with_reducible refine gate_dst (N := 11) rfl ?_); refine Kd.R_make (Kd.int .u64) _ 62 rfl (N := 11) rfl 57 _ _ rfl (l0.length : Int) rfl rfl Try.underlying57 (.int .u64 0) 8 info62 rfl (by decide) (by omega) 0 (ok := fun _ => True) (okp := fun _ => True) rfl (fun _ hk => hk) trivial uO (Nat.le_trans (Nat.mul_le_mul_right _ (uO : (l0.length : Int).toNat ≤ 35184372088832)) (by omega)) (Below.refl _ _) (Nat.le_refl _) ?_; intro v132 w5 ho6 hb hg_ hnew_; clear hg_ hnew_; (first | rw [← Ny131.out] at ho6 | (simp only [Int.reduceToNat] at ho6; rw [← Ny131.out] at ho6)); have HO133 := ulo ho6; replace HB := uy hb; clear hb ho6))
 go_loopg [6, 14] k (fun kq v6 v14 w' => ∃ (x5_1 : List Int) (x6_1 : Int) (x14_1 : Int), v6 = .int .u64 x6_1 ∧ v14 = .int .i64 x14_1 ∧ Aside0 (nat_less.l0 kq l0 l1 x5_1 x6_1 (l0.length : Int) x14_1 = some r) ∧ Aside0 (kq ≤ k) ∧ Aside0 (Kd.R (Kd.int .u64) 62 w' w.heap.size (fun _ => True) v132 x5_1) ∧ Aside0 (Below w.heap.size w w'))
 case atStart => exact ⟨(y131), (0), (0), uG, uG, H', ⟨Nat.le_refl _⟩, ⟨uR HO133.out⟩, ⟨uB⟩⟩
 case round =>
  clear H'
  obtain ⟨x5_1, x6_1, x14_1, rfl, rfl, HA, HK1, HO_5, HB⟩ := hrel
  cases gk with
  | zero => exact absurd HA.out (by simp [nat_less.l0])
  | succ k1 =>
   have H := HA.out
   clear HA
   simp only [nat_less.l0] at H
   by_cases c7 : x14_1 < (l0.length : Int)
   ·
    rw [if_pos c7] at H
    have c7b0 := decide_eq_true c7
    clear c7
    by_cases c8 : x14_1 < (l1.length : Int)
    ·
     rw [if_pos c8] at H
     have c8b0 := decide_eq_true c8
     clear c8
     replace H := uT H; obtain ⟨c9, H⟩ := H
     have c9b0 := decide_eq_true c9
     clear c9
     replace H := uT H; obtain ⟨c10, H⟩ := H
     have c10b0 := decide_eq_true c10
     clear c10
     replace H := uT H; obtain ⟨c11, H⟩ := H
     have c11b0 : carry01 x6_1 = true := c11
     clear c11
     replace H := uT H; obtain ⟨c12, H⟩ := H
     have c12b0 := decide_eq_true c12
     clear c12
     obtain ⟨y136, hy136⟩ : ∃ y_ : List Int, y_ = (x5_1.set (x14_1 : Int).toNat (sub64_s (rd l0 x14_1) (rd l1 x14_1) x6_1)) := ⟨_, rfl⟩
     replace H : (nat_less.l0 k1 l0 l1 y136 (sub64_c (rd l0 x14_1) (rd l1 x14_1) x6_1) (l0.length : Int) (wrap64 (x14_1 + 1))) = some r := by first | (rw [hy136]; with_reducible exact H) | (have H2_ := (Option.bind_some _ _).symm.trans H; rw [hy136]; with_reducible exact H2_) | (have H2_ := (Option.bind_some _ _).symm.trans H; with_reducible exact H2_) | with_reducible exact H | (rw [hy136]; exact H) | exact H
     have Ny136 := Aside0.mk hy136; clear hy136
     have H' := Aside0.mk H
     clear H
     have p134 : 0 ≤ (x14_1 : Int) := uO
     have q134 : x14_1 < (l1.length : Int) := uO
     obtain ⟨ad134, e134, hx134_0⟩ := Kd.at_int HR1.out x14_1 p134 q134
     cases e134
     replace hx134_0 := (HB.out.cell (World.block_lt_of_cell? w _ hx134_0)).trans hx134_0
     replace p134 := eq_true p134
     replace q134 := eq_true q134
     have p135 : 0 ≤ (x14_1 : Int) := uO
     have q135 : x14_1 < (l0.length : Int) := uO
     obtain ⟨ad135, e135, hx135_0⟩ := Kd.at_int HR0.out x14_1 p135 q135
     cases e135
     replace hx135_0 := (HB.out.cell (World.block_lt_of_cell? w _ hx135_0)).trans hx135_0
     replace p135 := eq_true p135
     replace q135 := eq_true q135
     have p13 : 0 ≤ (x14_1 : Int) := uO
     have q13 : (x14_1 : Int) < ((x5_1.length : Int) : Int) := uO
     obtain ⟨go13, co13, eo13, gb13, gl13, cl13, HG13⟩ := Kd.R_form HO_5.out (by omega)
     (first | cases eo13 | (injection eo13 with ea_ en_ ec_; (first | subst ea_ | (injection ea_ with ea_; subst ea_)); subst ec_; clear en_))
     have GB13 := Aside0.mk gb13; have GG13 := Aside0.mk HG13; clear gb13 gl13 HG13
     obtain ⟨hx13_0, hf13_0⟩ := Kd.R_celln 0 HO_5.out (x14_1 : Int) p13 q13
     replace p13 := eq_true p13
     replace q13 := eq_true q13
     have HP14 := Kd.R_putg HO_5.out (x14_1 : Int) (sub64_s (rd l0 x14_1) (rd l1 x14_1) x6_1)
     go_wp2_with (first | ((with_reducible refine gate_store (t := 62) (p := 37) rfl ?_); refine store_event (t := 62) (p := 37) (v := ?vo_w15) (w1 := (wr.setCell ⟨go13, (x14_1 : Int).toNat, none⟩ (.int .u64 (sub64_s (rd l0 x14_1) (rd l1 x14_1) x6_1)))) ?hg ?ho ?hn ?hr ?_; (case ho => rfl); (case hg => rfl); (case hn => rfl); (case hr => first | (go_simp; done) | (go_simp; rfl) | (obtain ⟨hy_, hz_⟩ := Kd.R_celln 0 HO_5.out (x14_1 : Int) uO uO; (try simp only [Go.IntWalk.toNatUp] at hy_ hz_); (try simp only [Int.reduceToNat, Int.toNat_zero, Int.toNat_ofNat] at hy_ hz_); first | (go_simp; done) | (go_simp; rfl))); intro w15 hw; have hg : wr.grownBy w15 (some go13) := (by rw [hw]; exact HP14.2); have hp_ : Kd.R (Kd.int .u64) 62 w15 w.heap.size (fun _ => True) (.slice (some ⟨go13, 0, none⟩) x5_1.length co13) y136 := (by rw [hw, Ny136.out]; exact HP14.1); clear HP14; replace HO_5 := Aside0.mk (hp_); replace HB := Aside0.mk ((by rw [hw]; exact below_set (HB.out) GB13.out : Below w.heap.size w w15)); clear hg hw hp_))
     go_roundg k1
     case measure => have := HK1.out; omega
     case rel => exact ⟨(y136), (sub64_c (rd l0 x14_1) (rd l1 x14_1) x6_1), (wrap64 (x14_1 + 1)), uG, uG, H', ⟨by have := HK1.out; omega⟩, ⟨uR HO_5.out⟩, ⟨uB⟩⟩
    rw [if_neg c8] at H
    have c8b0 := decide_eq_false c8
    clear c8
    replace H := uT H; obtain ⟨c16, H⟩ := H
    have c16b0 := decide_eq_true c16
    clear c16
    replace H := uT H; obtain ⟨c17, H⟩ := H
    have c17b0 := decide_eq_true c17
    clear c17
    replace H := uT H; obtain ⟨c18, H⟩ := H
    have c18b0 : carry01 x6_1 = true := c18
    clear c18
    replace H := uT H; obtain ⟨c19, H⟩ := H
    have c19b0 := decide_eq_true c19
    clear c19
    obtain ⟨y138, hy138⟩ : ∃ y_ : List Int, y_ = (x5_1.set (x14_1 : Int).toNat (sub64_s (rd l0 x14_1) 0 x6_1)) := ⟨_, rfl⟩
    replace H : (nat_less.l0 k1 l0 l1 y138 (sub64_c (rd l0 x14_1) 0 x6_1) (l0.length : Int) (wrap64 (x14_1 + 1))) = some r := by first | (rw [hy138]; with_reducible exact H) | (have H2_ := (Option.bind_some _ _).symm.trans H; rw [hy138]; with_reducible exact H2_) | (have H2_ := (Option.bind_some _ _).symm.trans H; with_reducible exact H2_) | with_reducible exact H | (rw [hy138]; exact H) | exact H
    have Ny138 := Aside0.mk hy138; clear hy138
    have H' := Aside0.mk H
    clear H
    have p137 : 0 ≤ (x14_1 : Int) := uO
    have q137 : x14_1 < (l0.length : Int) := uO
    obtain ⟨ad137, e137, hx137_0⟩ := Kd.at_int HR0.out x14_1 p137 q137
    cases e137
    replace hx137_0 := (HB.out.cell (World.block_lt_of_cell? w _ hx137_0)).trans hx137_0
    replace p137 := eq_true p137
    replace q137 := eq_true q137
    have p20 : 0 ≤ (x14_1 : Int) := uO
    have q20 : (x14_1 : Int) < ((x5_1.length : Int) : Int) := uO
    obtain ⟨go20, co20, eo20, gb20, gl20, cl20, HG20⟩ := Kd.R_form HO_5.out (by omega)
    (first | cases eo20 | (injection eo20 with ea_ en_ ec_; (first | subst ea_ | (injection ea_ with ea_; subst ea_)); subst ec_; clear en_))
    have GB20 := Aside0.mk gb20; have GG20 := Aside0.mk HG20; clear gb20 gl20 HG20
    obtain ⟨hx20_0, hf20_0⟩ := Kd.R_celln 0 HO_5.out (x14_1 : Int) p20 q20
    replace p20 := eq_true p20
    replace q20 := eq_true q20
    have HP21 := Kd.R_putg HO_5.out (x14_1 : Int) (sub64_s (rd l0 x14_1) 0 x6_1)
    go_wp2_with (first | ((with_reducible refine gate_store (t := 62) (p := 37) rfl ?_); refine store_event (t := 62) (p := 37) (v := ?vo_w22) (w1 := (wr.setCell ⟨go20, (x14_1 : Int).toNat, none⟩ (.int .u64 (sub64_s (rd l0 x14_1) 0 x6_1)))) ?hg ?ho ?hn ?hr ?_; (case ho => rfl); (case hg => rfl); (case hn => rfl); (case hr => first | (go_simp; done) | (go_simp; rfl) | (obtain ⟨hy_, hz_⟩ := Kd.R_celln 0 HO_5.out (x14_1 : Int) uO uO; (try simp only [Go.IntWalk.toNatUp] at hy_ hz_); (try simp only [Int.reduceToNat, Int.toNat_zero, Int.toNat_ofNat] at hy_ hz_); first | (go_simp; done) | (go_simp; rfl))); intro w22 hw; have hg : wr.grownBy w22 (some go20) := (by rw [hw]; exact HP21.2); have hp_ : Kd.R (Kd.int .u64) 62 w22 w.heap.size (fun _ => True) (.slice (some ⟨go20, 0, none⟩) x5_1.length co20) y138 := (by rw [hw, Ny138.out]; exact HP21.1); clear HP21; replace HO_5 := Aside0.mk (hp_); replace HB := Aside0.mk ((by rw [hw]; exact below_set (HB.out) GB20.out : Below w.heap.size w w22)); clear hg hw hp_))
    go_roundg k1
    case measure => have := HK1.out; omega
    case rel => exact ⟨(y138), (sub64_c (rd l0 x14_1) 0 x6_1), (wrap64 (x14_1 + 1)), uG, uG, H', ⟨by have := HK1.out; omega⟩, ⟨uR HO_5.out⟩, ⟨uB⟩⟩
   rw [if_neg c7] at H
   have c7b0 := decide_eq_false c7
   clear c7
   obtain rfl := Option.some.inj H
   go_wp2
   go_ret
   exact ⟨_, uF, uR HO_5.out, uB⟩
end Go.Proofs.Ytnaphgnkhhapoaa.F
end
section
namespace Go.Proofs.Ytnaphgnkhhapoaa.F
open Go.RowKit Go.Proofs.YtnaphgnkhhapoaaW.PrintWords Go.Proofs.YtnaphgnkhhapoaaW.PrintLast Go.Proofs.YtnaphgnkhhapoaaW.PrintMore
attribute [local go_sem] max2_int min2_int max_two min_two max_three min_three max_four min_four
set_option linter.unusedVariables false
set_option linter.unusedSimpArgs false
def nat_Sub.f (k : Nat) (l0 : List Int) (l1 : List Int) : Option (List Int × Int) := (nat_right.f (([l0, l1] : List (List Int)))).bind fun t142 => (if t142 = true then ((nat_compare.f k l0 l1).bind fun t143 => (if t143 < 0 then (some (([] : List Int), 2)) else ((nat_less.f k l0 l1).bind fun t144 => ((nat_told.f k t144).bind fun bt147 => (some (bt147.1, bt147.2)))))) else (some (([] : List Int), 1)))
theorem nat_Sub.calls (k : Nat) (P0_ : Nat → Prop) (A0 : Option Addr) (c0 : Nat) (l0 : List Int) (P1_ : Nat → Prop) (A1 : Option Addr) (c1 : Nat) (l1 : List Int) (r1 : List Int) (r2 : Int) (w : World) (hs0 : Kd.V (Kd.int .u64) 62 w w.heap.size (fun k_ => P0_ k_) (.slice A0 l0.length c0) l0) (hs1 : Kd.V (Kd.int .u64) 62 w w.heap.size (fun k_ => P1_ k_) (.slice A1 l1.length c1) l1) (h : nat_Sub.f k l0 l1 = some (r1, r2)) :
  Calls Try.prog 89 #[.slice A0 l0.length c0, .slice A1 l1.length c1] w fun e w' => ∃ v0_ : Value, e = .returned (.tuple #[v0_, .int .i64 r2]) ∧ Kd.R (Kd.int .u64) 62 w' w.heap.size (fun k_ => (w.heap.size ≤ k_)) v0_ r1 ∧ Below w.heap.size w w' := by
 have HO0 := Aside0.mk (show Kd.V (Kd.int .u64) 62 w w.heap.size (fun k_ => ((P0_ k_ ∨ P1_ k_) ∨ w.heap.size ≤ k_)) (.slice A0 l0.length c0) l0 from Kd.V_mono hs0 (fun k_ hk => .inl (.inl hk)))
 have HO1 := Aside0.mk (show Kd.V (Kd.int .u64) 62 w w.heap.size (fun k_ => ((P0_ k_ ∨ P1_ k_) ∨ w.heap.size ≤ k_)) (.slice A1 l1.length c1) l1 from Kd.V_mono hs1 (fun k_ hk => .inl (.inr hk)))
 have HB := Aside0.mk (Below.refl w.heap.size w)
 have H : ((nat_right.f (([l0, l1] : List (List Int)))).bind fun t142 => (if t142 = true then ((nat_compare.f k l0 l1).bind fun t143 => (if t143 < 0 then (some (([] : List Int), 2)) else ((nat_less.f k l0 l1).bind fun t144 => ((nat_told.f k t144).bind fun bt147 => (some (bt147.1, bt147.2)))))) else (some (([] : List Int), 1)))) = some (r1, r2) := h
 clear h
 obtain ⟨y139, hy139⟩ : ∃ y_ : List (List Int), y_ = (([l0, l1] : List (List Int))) := ⟨_, rfl⟩
 replace H : ((nat_right.f y139).bind fun t142 => (if t142 = true then ((nat_compare.f k l0 l1).bind fun t143 => (if t143 < 0 then (some (([] : List Int), 2)) else ((nat_less.f k l0 l1).bind fun t144 => ((nat_told.f k t144).bind fun bt147 => (some (bt147.1, bt147.2)))))) else (some (([] : List Int), 1)))) = some (r1, r2) := by first | (rw [hy139]; with_reducible exact H) | (have H2_ := (Option.bind_some _ _).symm.trans H; rw [hy139]; with_reducible exact H2_) | (have H2_ := (Option.bind_some _ _).symm.trans H; with_reducible exact H2_) | with_reducible exact H | (rw [hy139]; exact H) | exact H
 have Ny139 := Aside0.mk hy139; clear hy139
 replace H := ub H; obtain ⟨t142, A3, H⟩ := H
 by_cases c4 : t142 = true
 ·
  subst c4
  have H1 : ((nat_compare.f k l0 l1).bind fun t143 => (if t143 < 0 then (some (([] : List Int), 2)) else ((nat_less.f k l0 l1).bind fun t144 => ((nat_told.f k t144).bind fun bt147 => (some (bt147.1, bt147.2)))))) = some (r1, r2) := by rw [if_pos rfl] at H; exact H
  clear H; have H := H1; clear H1
  replace H := ub H; obtain ⟨t143, A5, H⟩ := H
  by_cases c6 : t143 < 0
  ·
   rw [if_pos c6] at H
   have c6b0 := decide_eq_true c6
   clear c6
   simp only [Option.some.injEq, Prod.mk.injEq] at H
   obtain ⟨rfl, rfl⟩ := H
   go_enter Try.func89, Try.ntmps89
   go_wp2_with (first | ((with_reducible refine gate_dst (N := 9) rfl ?_); refine Kd.N_lit (Kd.slice 62 (Kd.int .u64)) _ 57 ?hg (N' := 9) ?hd (xs := ([l0, l1] : List (List Int))) (inner := [.slice A0 l0.length c0, .slice A1 l1.length c1]) (ok := (fun k_ => ((P0_ k_ ∨ P1_ k_) ∨ w.heap.size ≤ k_))) (okp := (fun k_ => ((P0_ k_ ∨ P1_ k_) ∨ w.heap.size ≤ k_))) ?hr ?hp (fun _ hk => hk) ((show ∀ k_, w.heap.size ≤ k_ → (fun k_ => ((P0_ k_ ∨ P1_ k_) ∨ w.heap.size ≤ k_)) k_ from fun k_ hk => (.inr (Nat.le_trans (below_size uB) hk))) _ (Nat.le_refl _)) (Below.refl _ _) (Nat.le_refl _) (by simp) ?_; (case hd => rfl); (case hg => rfl); (case hr => first | (go_simp; done) | (go_simp; rfl) | (go_simp; simp only [u64_u8]; done) | (go_simp; simp only [u64_u8]; rfl)); (case hp => exact (Reps.one (show Kd.FK (Kd.slice 62 (Kd.int .u64)) _ _ l0 [.slice A0 l0.length c0] from (Kd.FK_slice_mk (Kd.V_reads' (Kd.V_mono (ok' := (fun k_ => ((P0_ k_ ∨ P1_ k_) ∨ w.heap.size ≤ k_))) (HO0.out) (fun k_ hk => hk))).2.1 (Kd.V_F (Kd.V_mono (ok' := (fun k_ => ((P0_ k_ ∨ P1_ k_) ∨ w.heap.size ≤ k_))) (HO0.out) (fun k_ hk => hk))))) (Reps.one (show Kd.FK (Kd.slice 62 (Kd.int .u64)) _ _ l1 [.slice A1 l1.length c1] from (Kd.FK_slice_mk (Kd.V_reads' (Kd.V_mono (ok' := (fun k_ => ((P0_ k_ ∨ P1_ k_) ∨ w.heap.size ≤ k_))) (HO1.out) (fun k_ hk => hk))).2.1 (Kd.V_F (Kd.V_mono (ok' := (fun k_ => ((P0_ k_ ∨ P1_ k_) ∨ w.heap.size ≤ k_))) (HO1.out) (fun k_ hk => hk))))) (Reps.none _ _)))); intro v140 w7 ho8 hb hg_ hnew_; clear hg_ hnew_; (first | rw [← Ny139.out] at ho8 | (simp only [Int.reduceToNat] at ho8; rw [← Ny139.out] at ho8)); replace HO0 := Aside0.mk (Kd.V_elder' (uV HO0.out) (Kd.N_base ho8) hb); replace HO1 := Aside0.mk (Kd.V_elder' (uV HO1.out) (Kd.N_base ho8) hb); have HO141 := Aside0.mk (Kd.N_lower ho8 (below_size uB)); replace HB := uy hb; clear hb ho8; obtain ⟨Ao9, co9, eo9⟩ := Kd.N_slice HO141.out; subst eo9) | ((with_reducible refine ug 41 rfl ?_); refine uh (some 10) rfl Try.func41 #[.slice Ao9 y139.length co9] ?_; (with_reducible refine (nat_right.calls _ _ y139 true _ ?side1 ?side2 A3.out).mono ?_); (case side1 => exact uC (Kd.N_reads' HO141.out).2.2); (case side2 => exact (Kd.N_reads' HO141.out).2.1); rintro e w' ⟨rfl, ⟨nd, rfl⟩⟩; refine ⟨_, rfl, ?_⟩) | ((with_reducible refine ug 47 rfl ?_); refine uh (some 15) rfl Try.func47 #[.slice A0 l0.length c0, .slice A1 l1.length c1] ?_; (with_reducible refine (nat_compare.calls k _ _ l0 _ _ l1 t143 _ ?side1 ?side2 ?side3 ?side4 A5.out).mono ?_); (case side1 => exact uC (Kd.V_reads' HO0.out).2.2); (case side2 => exact (Kd.V_reads' HO0.out).2.1); (case side3 => exact uC (Kd.V_reads' HO1.out).2.2); (case side4 => exact (Kd.V_reads' HO1.out).2.1); rintro e w' ⟨rfl, ⟨nd, rfl⟩⟩; refine ⟨_, rfl, ?_⟩))
   go_ret2
   exact ⟨_, uF, uI, uB⟩
  rw [if_neg c6] at H
  have c6b0 := decide_eq_false c6
  clear c6
  replace H := ub H; obtain ⟨t144, A10, H⟩ := H
  replace H := ub H; obtain ⟨⟨t147, t150⟩, A11, H⟩ := H
  (try dsimp only at H)
  simp only [Option.some.injEq, Prod.mk.injEq] at H
  obtain ⟨rfl, rfl⟩ := H
  go_enter Try.func89, Try.ntmps89
  go_wp2_with (first | ((with_reducible refine gate_dst (N := 9) rfl ?_); refine Kd.N_lit (Kd.slice 62 (Kd.int .u64)) _ 57 ?hg (N' := 9) ?hd (xs := ([l0, l1] : List (List Int))) (inner := [.slice A0 l0.length c0, .slice A1 l1.length c1]) (ok := (fun k_ => ((P0_ k_ ∨ P1_ k_) ∨ w.heap.size ≤ k_))) (okp := (fun k_ => ((P0_ k_ ∨ P1_ k_) ∨ w.heap.size ≤ k_))) ?hr ?hp (fun _ hk => hk) ((show ∀ k_, w.heap.size ≤ k_ → (fun k_ => ((P0_ k_ ∨ P1_ k_) ∨ w.heap.size ≤ k_)) k_ from fun k_ hk => (.inr (Nat.le_trans (below_size uB) hk))) _ (Nat.le_refl _)) (Below.refl _ _) (Nat.le_refl _) (by simp) ?_; (case hd => rfl); (case hg => rfl); (case hr => first | (go_simp; done) | (go_simp; rfl) | (go_simp; simp only [u64_u8]; done) | (go_simp; simp only [u64_u8]; rfl)); (case hp => exact (Reps.one (show Kd.FK (Kd.slice 62 (Kd.int .u64)) _ _ l0 [.slice A0 l0.length c0] from (Kd.FK_slice_mk (Kd.V_reads' (Kd.V_mono (ok' := (fun k_ => ((P0_ k_ ∨ P1_ k_) ∨ w.heap.size ≤ k_))) (HO0.out) (fun k_ hk => hk))).2.1 (Kd.V_F (Kd.V_mono (ok' := (fun k_ => ((P0_ k_ ∨ P1_ k_) ∨ w.heap.size ≤ k_))) (HO0.out) (fun k_ hk => hk))))) (Reps.one (show Kd.FK (Kd.slice 62 (Kd.int .u64)) _ _ l1 [.slice A1 l1.length c1] from (Kd.FK_slice_mk (Kd.V_reads' (Kd.V_mono (ok' := (fun k_ => ((P0_ k_ ∨ P1_ k_) ∨ w.heap.size ≤ k_))) (HO1.out) (fun k_ hk => hk))).2.1 (Kd.V_F (Kd.V_mono (ok' := (fun k_ => ((P0_ k_ ∨ P1_ k_) ∨ w.heap.size ≤ k_))) (HO1.out) (fun k_ hk => hk))))) (Reps.none _ _)))); intro v140 w12 ho13 hb hg_ hnew_; clear hg_ hnew_; (first | rw [← Ny139.out] at ho13 | (simp only [Int.reduceToNat] at ho13; rw [← Ny139.out] at ho13)); replace HO0 := Aside0.mk (Kd.V_elder' (uV HO0.out) (Kd.N_base ho13) hb); replace HO1 := Aside0.mk (Kd.V_elder' (uV HO1.out) (Kd.N_base ho13) hb); have HO141 := Aside0.mk (Kd.N_lower ho13 (below_size uB)); replace HB := uy hb; clear hb ho13; obtain ⟨Ao14, co14, eo14⟩ := Kd.N_slice HO141.out; subst eo14) | ((with_reducible refine ug 41 rfl ?_); refine uh (some 10) rfl Try.func41 #[.slice Ao14 y139.length co14] ?_; (with_reducible refine (nat_right.calls _ _ y139 true _ ?side1 ?side2 A3.out).mono ?_); (case side1 => exact uC (Kd.N_reads' HO141.out).2.2); (case side2 => exact (Kd.N_reads' HO141.out).2.1); rintro e w' ⟨rfl, ⟨nd, rfl⟩⟩; refine ⟨_, rfl, ?_⟩) | ((with_reducible refine ug 47 rfl ?_); refine uh (some 15) rfl Try.func47 #[.slice A0 l0.length c0, .slice A1 l1.length c1] ?_; (with_reducible refine (nat_compare.calls k _ _ l0 _ _ l1 t143 _ ?side1 ?side2 ?side3 ?side4 A5.out).mono ?_); (case side1 => exact uC (Kd.V_reads' HO0.out).2.2); (case side2 => exact (Kd.V_reads' HO0.out).2.1); (case side3 => exact uC (Kd.V_reads' HO1.out).2.2); (case side4 => exact (Kd.V_reads' HO1.out).2.1); rintro e w' ⟨rfl, ⟨nd, rfl⟩⟩; refine ⟨_, rfl, ?_⟩) | ((with_reducible refine ug 78 rfl ?_); refine uh (some 19) rfl Try.func78 #[.slice A0 l0.length c0, .slice A1 l1.length c1] ?_; (with_reducible refine (nat_less.calls k _ _ l0 _ _ l1 t144 _ ?side1 ?side2 ?side3 ?side4 A10.out).mono ?_); (case side1 => exact uC (Kd.V_reads' HO0.out).2.2); (case side2 => exact (Kd.V_reads' HO0.out).2.1); (case side3 => exact uC (Kd.V_reads' HO1.out).2.2); (case side4 => exact (Kd.V_reads' HO1.out).2.1); rintro e w15 ⟨v145, rfl, ho0, hb⟩; refine ⟨_, rfl, ?_⟩; replace HO0 := ueV HO0 ho0 hb; replace HO1 := ueV HO1 ho0 hb; replace HO141 := ueN HO141 ho0 hb; have HO146 := ulo (Kd.R_newM (M := fun k_ => (w.heap.size ≤ k_)) ho0 (below_size uB) (fun k_ h_ => h_)); replace HB := uy hb; (try clear hb ho0); obtain ⟨Ao16, co16, eo16⟩ := Kd.R_slice HO146.out; subst eo16) | ((with_reducible refine ug 42 rfl ?_); refine uh (some 20) rfl Try.func42 #[.slice Ao16 t144.length co16] ?_; (with_reducible refine (nat_told.calls k (fun k_ => some k_ = (.slice Ao16 t144.length co16 : Value).ownBlock) (.slice Ao16 t144.length co16) t144 t147 t150 w _ ?side1 ?side2 A11.out).mono ?_); (case side1 => repeat (first | (with_reducible first | exact HB.out | apply below_alloc | apply pw_below_drewN | apply below_drew1) | exact HB.out)); (case side2 => exact Kd.R_tight rfl HO146.out); rintro e w17 ⟨v148, rfl, ho0, hb, hkp⟩; refine ⟨_, rfl, ?_⟩; replace HO0 := Aside0.mk (Kd.V_mono (ok' := fun k_ => ((P0_ k_ ∨ P1_ k_) ∨ w.heap.size ≤ k_) ∧ some k_ ≠ (.slice Ao14 y139.length co14 : Value).ownBlock ∧ some k_ ≠ (v148 : Value).ownBlock) (Kd.V_keptB (HO0.out) hkp (fun k_ hk_ hs_ => (hk_.2) hs_)) (fun k_ hk_ => ⟨hk_.1.1.1, hk_.1.1.2, fun e_ => Or.elim (ho0.1 k_ e_.symm) (fun hs_ => hk_.2.1 hs_) (fun hn_ => Nat.not_le.2 hk_.2.2 hn_)⟩)); replace HO1 := Aside0.mk (Kd.V_mono (ok' := fun k_ => ((P0_ k_ ∨ P1_ k_) ∨ w.heap.size ≤ k_) ∧ some k_ ≠ (.slice Ao14 y139.length co14 : Value).ownBlock ∧ some k_ ≠ (v148 : Value).ownBlock) (Kd.V_keptB (HO1.out) hkp (fun k_ hk_ hs_ => (hk_.2) hs_)) (fun k_ hk_ => ⟨hk_.1.1.1, hk_.1.1.2, fun e_ => Or.elim (ho0.1 k_ e_.symm) (fun hs_ => hk_.2.1 hs_) (fun hn_ => Nat.not_le.2 hk_.2.2 hn_)⟩)); replace HO141 := Aside0.mk (Kd.N_mono (ok' := fun k_ => ((P0_ k_ ∨ P1_ k_) ∨ w.heap.size ≤ k_) ∧ some k_ ≠ (v148 : Value).ownBlock) (Kd.N_keptB (HO141.out) hkp (fun k_ hk_ hs_ => (hk_.2) hs_)) (fun k_ hk_ => ⟨hk_.1.1, fun e_ => Or.elim (ho0.1 k_ e_.symm) (fun hs_ => hk_.2.1 hs_) (fun hn_ => Nat.not_le.2 hk_.2.2 hn_)⟩)); have HO149 := Aside0.mk (Kd.R_mono (ok' := fun k_ => (w.heap.size ≤ k_)) ho0 (fun k_ hk_ => Or.elim hk_ (fun hs_ => (HO146.out.1 k_ (hs_).symm).1) (fun hn_ => (Nat.le_trans (below_size uB) hn_)))); replace HB := Aside0.mk (hb); clear HO146; (try clear hb); (try clear hkp); (try clear ho0)))
  go_ret2
  exact ⟨_, uF, uR HO149.out, uB⟩
 replace c4 := Bool.eq_false_iff.mpr c4
 subst c4
 have H1 : (some (([] : List Int), 1)) = some (r1, r2) := by rw [if_neg (show ¬ (false = true) by decide)] at H; exact H
 clear H; have H := H1; clear H1
 simp only [Option.some.injEq, Prod.mk.injEq] at H
 obtain ⟨rfl, rfl⟩ := H
 go_enter Try.func89, Try.ntmps89
 go_wp2_with (first | ((with_reducible refine gate_dst (N := 9) rfl ?_); refine Kd.N_lit (Kd.slice 62 (Kd.int .u64)) _ 57 ?hg (N' := 9) ?hd (xs := ([l0, l1] : List (List Int))) (inner := [.slice A0 l0.length c0, .slice A1 l1.length c1]) (ok := (fun k_ => ((P0_ k_ ∨ P1_ k_) ∨ w.heap.size ≤ k_))) (okp := (fun k_ => ((P0_ k_ ∨ P1_ k_) ∨ w.heap.size ≤ k_))) ?hr ?hp (fun _ hk => hk) ((show ∀ k_, w.heap.size ≤ k_ → (fun k_ => ((P0_ k_ ∨ P1_ k_) ∨ w.heap.size ≤ k_)) k_ from fun k_ hk => (.inr (Nat.le_trans (below_size uB) hk))) _ (Nat.le_refl _)) (Below.refl _ _) (Nat.le_refl _) (by simp) ?_; (case hd => rfl); (case hg => rfl); (case hr => first | (go_simp; done) | (go_simp; rfl) | (go_simp; simp only [u64_u8]; done) | (go_simp; simp only [u64_u8]; rfl)); (case hp => exact (Reps.one (show Kd.FK (Kd.slice 62 (Kd.int .u64)) _ _ l0 [.slice A0 l0.length c0] from (Kd.FK_slice_mk (Kd.V_reads' (Kd.V_mono (ok' := (fun k_ => ((P0_ k_ ∨ P1_ k_) ∨ w.heap.size ≤ k_))) (HO0.out) (fun k_ hk => hk))).2.1 (Kd.V_F (Kd.V_mono (ok' := (fun k_ => ((P0_ k_ ∨ P1_ k_) ∨ w.heap.size ≤ k_))) (HO0.out) (fun k_ hk => hk))))) (Reps.one (show Kd.FK (Kd.slice 62 (Kd.int .u64)) _ _ l1 [.slice A1 l1.length c1] from (Kd.FK_slice_mk (Kd.V_reads' (Kd.V_mono (ok' := (fun k_ => ((P0_ k_ ∨ P1_ k_) ∨ w.heap.size ≤ k_))) (HO1.out) (fun k_ hk => hk))).2.1 (Kd.V_F (Kd.V_mono (ok' := (fun k_ => ((P0_ k_ ∨ P1_ k_) ∨ w.heap.size ≤ k_))) (HO1.out) (fun k_ hk => hk))))) (Reps.none _ _)))); intro v140 w18 ho19 hb hg_ hnew_; clear hg_ hnew_; (first | rw [← Ny139.out] at ho19 | (simp only [Int.reduceToNat] at ho19; rw [← Ny139.out] at ho19)); replace HO0 := Aside0.mk (Kd.V_elder' (uV HO0.out) (Kd.N_base ho19) hb); replace HO1 := Aside0.mk (Kd.V_elder' (uV HO1.out) (Kd.N_base ho19) hb); have HO141 := Aside0.mk (Kd.N_lower ho19 (below_size uB)); replace HB := uy hb; clear hb ho19; obtain ⟨Ao20, co20, eo20⟩ := Kd.N_slice HO141.out; subst eo20) | ((with_reducible refine ug 41 rfl ?_); refine uh (some 10) rfl Try.func41 #[.slice Ao20 y139.length co20] ?_; (with_reducible refine (nat_right.calls _ _ y139 false _ ?side1 ?side2 A3.out).mono ?_); (case side1 => exact uC (Kd.N_reads' HO141.out).2.2); (case side2 => exact (Kd.N_reads' HO141.out).2.1); rintro e w' ⟨rfl, ⟨nd, rfl⟩⟩; refine ⟨_, rfl, ?_⟩))
 go_ret2
 exact ⟨_, uF, uI, uB⟩
end Go.Proofs.Ytnaphgnkhhapoaa.F
end
section
namespace Go.Proofs.Ytnaphgnkhhapoaa.F
open Go.RowKit Go.Proofs.YtnaphgnkhhapoaaW.PrintWords Go.Proofs.YtnaphgnkhhapoaaW.PrintLast Go.Proofs.YtnaphgnkhhapoaaW.PrintMore
set_option linter.unusedVariables false
set_option linter.unusedSimpArgs false
def tape_Below.f (k : Nat) (n l : List Int) : Option (List Int × Int × List Int) :=
  (nat_Right.f n).bind fun b => if b = true ∧ n.length ≠ 0 then (nat_Sub.f k n [1]).bind fun s => if s.1.length = 0 then some ([], 0, l) else (nat_Bits.f k s.1).bind fun z => if 0 < z ∧ z ≤ 4096 then tape_draw.f z n k l else none
  else some ([], 1, l)
def Drawn (w w' : World) (g : Nat) (ok : Nat → Prop) (e : Ending) (x : List Int × Int × List Int) : Prop := ∃ A c, e = .returned (.tuple #[.slice A x.1.length c, .int .i64 x.2.1]) ∧ Rf w' (fun k => w.heap.size ≤ k) A c x.1 ∧ Tp w' g ok x.2.2 ∧ Stay w w' g
theorem tape_Below.calls (k : Nat) (g : Nat) (l n : List Int) (An : Option Addr) (cn : Nat) (ok okn : Nat → Prop) (x : List Int × Int × List Int) (w : World) (hT : Tp w g ok l) (hg : ¬ ok g) (hn : Rf w okn An cn n) (hgn : ¬ okn g) (h : tape_Below.f k n l = some x) :
    Calls Try.prog 96 #[.pointer (some ⟨g, 0, none⟩), .slice An n.length cn] w fun e w' => Drawn w w' g ok e x := by
  have HT := Aside0.mk hT
  have HN := Aside0.mk hn
  have HB := Aside0.mk (Below.refl w.heap.size w)
  clear hT hn
  unfold tape_Below.f at h
  obtain ⟨b, hb, h1⟩ := Option.bind_eq_some_iff.mp h
  have HR := Aside0.mk hb
  clear h hb
  by_cases hc : b = true ∧ n.length ≠ 0
  · rw [if_pos hc] at h1
    obtain ⟨⟨s1, s2⟩, hs, h2⟩ := Option.bind_eq_some_iff.mp h1
    obtain ⟨rfl, hn0⟩ := hc
    have hn1 : ((n.length : Int) == 0) = false := beq_eq_false_iff_ne.mpr (by omega)
    have HS := Aside0.mk hs
    clear h1 hs
    by_cases h0 : s1.length = 0
    · rw [if_pos h0] at h2
      obtain rfl := Option.some.inj h2
      have h0b : ((s1.length : Int) == 0) = true := by rw [h0]; rfl
      clear h2
      go_enter Try.func96, Try.ntmps96
      go_wp2_with (first
        | (go_at_call 44; refine (nat_Right.calls An cn n true _ (HN.out.below uB).C HN.out.2 HR.out).mono ?_; rintro e w' ⟨rfl, ⟨z_, rfl⟩⟩)
        | ((with_reducible refine gate_dst (N := 18) rfl ?_); refine Kd.R_lit (Kd.int .u64) _ 62 ?hg (N := 18) ?hd (xs := ([1] : List Int)) (inner := [.int .u64 1]) (ok := fun _ => True) (okp := fun _ => True) ?hr ?hp (fun _ hk => hk) trivial (Below.refl _ _) (Nat.le_refl _) (by simp) ?_; (case hd => rfl); (case hg => rfl); (case hr => first | (go_simp; done) | (go_simp; rfl)); (case hp => exact (Reps.one (show Kd.M (Kd.int .u64) _ _ _ 1 [.int .u64 1] from rfl) (Reps.none _ _))); intro v1 w2 ho hb hg_ hnew_; clear hg_ hnew_; obtain ⟨A2, c2, e2⟩ := Kd.R_slice ho; subst e2; have HL := Aside0.mk (Rf.of ho); have HB2 := Aside0.mk (below_step uB hb); clear HB hb ho)
        | (go_at_call 89; refine (nat_Sub.calls k _ An cn n _ A2 c2 [1] s1 s2 _ (HN.out.below uB).V HL.out.V HS.out).mono ?_; rintro e w3 ⟨v3, rfl, hR3, hb3⟩; obtain ⟨A3, c3, e3⟩ := Kd.R_slice hR3; subst e3; have HS3 := Aside0.mk (Rf.of hR3); have HB3 := Aside0.mk (below_step uB hb3); clear HB2 hR3 hb3))
      go_ret2
      exact ⟨_, _, rfl, Rf.nil _ _, HT.out.below uB, Stay.of_below uB g⟩
    · rw [if_neg h0] at h2
      obtain ⟨z, hz, h3⟩ := Option.bind_eq_some_iff.mp h2
      by_cases hzz : 0 < z ∧ z ≤ 4096
      · rw [if_pos hzz] at h3
        have h0b : ((s1.length : Int) == 0) = false := beq_eq_false_iff_ne.mpr (by omega)
        have HZ := Aside0.mk hz
        have HD := Aside0.mk h3
        clear h2 hz h3
        go_enter Try.func96, Try.ntmps96
        go_wp2_with (first
          | (go_at_call 44; refine (nat_Right.calls An cn n true _ (HN.out.below uB).C HN.out.2 HR.out).mono ?_; rintro e w' ⟨rfl, ⟨z_, rfl⟩⟩)
          | ((with_reducible refine gate_dst (N := 18) rfl ?_); refine Kd.R_lit (Kd.int .u64) _ 62 ?hg (N := 18) ?hd (xs := ([1] : List Int)) (inner := [.int .u64 1]) (ok := fun _ => True) (okp := fun _ => True) ?hr ?hp (fun _ hk => hk) trivial (Below.refl _ _) (Nat.le_refl _) (by simp) ?_; (case hd => rfl); (case hg => rfl); (case hr => first | (go_simp; done) | (go_simp; rfl)); (case hp => exact (Reps.one (show Kd.M (Kd.int .u64) _ _ _ 1 [.int .u64 1] from rfl) (Reps.none _ _))); intro v1 w2 ho hb hg_ hnew_; clear hg_ hnew_; obtain ⟨A2, c2, e2⟩ := Kd.R_slice ho; subst e2; have HL := Aside0.mk (Rf.of ho); have HB2 := Aside0.mk (below_step uB hb); clear HB hb ho)
          | (go_at_call 89; refine (nat_Sub.calls k _ An cn n _ A2 c2 [1] s1 s2 _ (HN.out.below uB).V HL.out.V HS.out).mono ?_; rintro e w3 ⟨v3, rfl, hR3, hb3⟩; obtain ⟨A3, c3, e3⟩ := Kd.R_slice hR3; subst e3; have HS3 := Aside0.mk (Rf.of hR3); have HB3 := Aside0.mk (below_step uB hb3); clear HB2 hR3 hb3)
          | (go_at_call 56; refine (nat_Bits.calls k A3 c3 s1 z _ (HS3.out.below (by repeat (first | exact Below.refl _ _ | apply below_drew | apply pw_below_drewN))).C HS3.out.2 HZ.out).mono ?_; rintro e w' ⟨rfl, ⟨z2, rfl⟩⟩)
          | (go_at_call 110; refine (tape_draw.calls k g l n z An cn ok okn x.1 x.2.1 x.2.2 _ (HT.out.below uB) hg (HN.out.below uB) hgn hzz.1 hzz.2 HD.out).mono ?_; rintro e w5 ⟨A5, c5, rfl, hr5, hT5, hS5⟩; have HB5 := Aside0.mk (show Below w.heap.size w _ from uB); have HR5 := Aside0.mk (hr5.mono (ok' := fun k => w.heap.size ≤ k) (fun k hk => Nat.le_trans (below_size HB5.out) hk)); have HT5 := Aside0.mk hT5; have HS5 := Aside0.mk ((Stay.of_below HB5.out g).trans hS5); clear hr5 hT5 hS5))
        go_ret2
        exact ⟨_, _, rfl, HR5.out, HT5.out, HS5.out⟩
      · rw [if_neg hzz] at h3
        exact absurd h3 (by simp)
  · rw [if_neg hc] at h1
    obtain rfl := Option.some.inj h1
    have key : b = false ∨ (b = true ∧ ((n.length : Int) == 0) = true) := by
      cases b with
      | false => exact .inl rfl
      | true => exact .inr ⟨rfl, by have h2 : ¬ n.length ≠ 0 := fun e => hc ⟨rfl, e⟩; rw [show n.length = 0 from by omega]; rfl⟩
    clear hc h1
    rcases key with rfl | ⟨rfl, hk⟩
    all_goals
      go_enter Try.func96, Try.ntmps96
      go_wp2_with (go_at_call 44; refine (nat_Right.calls An cn n _ _ (HN.out.below uB).C HN.out.2 HR.out).mono ?_; rintro e w' ⟨rfl, ⟨z_, rfl⟩⟩)
      go_ret2
      exact ⟨_, _, rfl, Rf.nil _ _, HT.out.below uB, Stay.of_below uB g⟩
def tape_Small.f (k : Nat) (m : Int) (l : List Int) : Option (Int × Int × List Int) :=
  if m < 1 then some (0, 1, l) else (nat_Of.f k m).bind fun n => (tape_Below.f k n l).bind fun x => (nat_Small.f k x.1).bind fun z => some (wrap64 z.1, x.2.1, x.2.2)
theorem tape_Small.calls (k : Nat) (g : Nat) (l : List Int) (m : Int) (ok : Nat → Prop) (x : Int × Int × List Int) (w : World) (hT : Tp w g ok l) (hg : ¬ ok g) (hm : m ≤ 9223372036854775807) (h : tape_Small.f k m l = some x) :
    Calls Try.prog 66 #[.pointer (some ⟨g, 0, none⟩), .int .i64 m] w fun e w' => e = .returned (.tuple #[.int .i64 x.1, .int .i64 x.2.1]) ∧ Tp w' g ok x.2.2 ∧ Stay w w' g := by
  have HT := Aside0.mk hT
  have HB := Aside0.mk (Below.refl w.heap.size w)
  clear hT
  unfold tape_Small.f at h
  by_cases hm1 : m < 1
  · rw [if_pos hm1] at h
    obtain rfl := Option.some.inj h
    clear h
    go_enter Try.func66, Try.ntmps66
    go_wp2
    go_ret2
    exact ⟨rfl, HT.out, Stay.refl _ _⟩
  · rw [if_neg hm1] at h
    obtain ⟨n, hn, h1⟩ := Option.bind_eq_some_iff.mp h
    obtain ⟨⟨y1, y2, y3⟩, hy, h2⟩ := Option.bind_eq_some_iff.mp h1
    obtain ⟨⟨z1, z2⟩, hz, h3⟩ := Option.bind_eq_some_iff.mp h2
    obtain rfl := Option.some.inj h3
    have HN := Aside0.mk hn
    have HY := Aside0.mk hy
    have HZ := Aside0.mk hz
    have hmb : decide (m < 1) = false := decide_eq_false hm1
    have hmw : IntKind.u64.wrap m = m := by simp [IntKind.wrap, IntKind.bits, IntKind.signed]; omega
    have HSZ := Aside0.mk (show g < w.heap.size from HT.out.lt)
    clear h h1 h2 h3 hn hy hz
    go_enter Try.func66, Try.ntmps66
    go_wp2_with (first
      | (go_at_call 50; refine (nat_Of.calls k m n _ HN.out).mono ?_; rintro e w1 ⟨v1, rfl, hR, hb⟩; obtain ⟨A1, c1, e1⟩ := Kd.R_slice hR; subst e1; have HR1 := Aside0.mk (Rf.of hR); have HB1 := Aside0.mk (below_step uB hb); clear hR hb)
      | (go_at_call 96; refine (tape_Below.calls k g l n A1 c1 ok _ (y1, y2, y3) _ (HT.out.below HB1.out) hg HR1.out (by have := HSZ.out; omega) HY.out).mono ?_; rintro e w2 ⟨A2, c2, rfl, hr2, hT2, hS2⟩; have HR2 := Aside0.mk hr2; have HT2 := Aside0.mk hT2; have HS2 := Aside0.mk ((Stay.of_below HB1.out g).trans hS2); clear hr2 hT2 hS2)
      | (go_at_call 97; refine (nat_Small.calls k A2 c2 y1 z1 z2 _ HR2.out.C HR2.out.2 HZ.out).mono ?_; rintro e w' ⟨rfl, ⟨q, rfl⟩⟩))
    go_ret2
    exact ⟨rfl, HT2.out.below (pw_below_drewN (Below.refl _ _) _), HS2.out.then (pw_below_drewN (Below.refl _ _) _)⟩
theorem infoInt20 : (Try.prog.info? 3).map (fun i => (i.zero, i.size, i.bytes)) = some (some (.int .i64 0), 1, 8) := by kernel_rfl
def swapV (V : List Int) (i j : Nat) : List Int := (V.set i (V.getD j 0)).set j (V.getD i 0)
theorem swapV_len (V : List Int) (i j : Nat) : (swapV V i j).length = V.length := by simp [swapV]
def idV (n : Nat) : Nat → List Int
  | 0 => List.replicate n 0
  | i + 1 => (idV n i).set i (i : Int)
theorem idV_len (n i : Nat) : (idV n i).length = n := by
  induction i with
  | zero => simp [idV]
  | succ i ih => rw [idV]; simp [ih]
def shuf.f (k : Nat) : Nat → List Int → List Int → Option (List Int × Int × List Int)
  | 0, V, l => some (V, 0, l)
  | i + 1, V, l => (tape_Small.f k ((i : Int) + 2) l).bind fun x => if x.2.1 = 0 then (if 0 ≤ x.1 ∧ x.1 ≤ (i : Int) + 1 then shuf.f k i (swapV V (i + 1) x.1.toNat) x.2.2 else none) else some ([], x.2.1, x.2.2)
def shuffle.f (k : Nat) (n : Int) (l : List Int) : Option (List Int × Int × List Int) :=
  if n < 0 ∨ 16384 < n then some ([], 1, l) else shuf.f k (n.toNat - 1) (idV n.toNat n.toNat) l
def Ri (w : World) (ok : Nat → Prop) (A : Option Addr) (c : Nat) (l : List Int) : Prop := Kd.F (Kd.int .i64) w ok A l.length l ∧ l.length ≤ c
def shuf.T16 : Bool × List (List Nat × List Nat) := (true, [([], []), ([], []), ([], []), ([], []), ([], []), ([], []), ([4, 5], [4, 5]), ([6], [6]), ([], []), ([], []), ([8, 9], [8, 9]), ([10], [10]), ([0, 1, 0, 1, 4, 5, 6, 7, 11], [0, 1]), ([12, 7, 0, 1, 4, 5, 6, 7, 11], [7, 12]), ([2, 3, 0, 1, 2, 3, 4, 5, 6, 7, 8, 9, 10, 11, 12, 13], [2, 3]), ([14, 11, 13, 0, 1, 2, 3, 4, 5, 6, 7, 8, 9, 10, 11, 12, 13], [11, 14])])
def shuf.B16 : List Nat := [0, 0, 0, 0, 0, 0, 48, 112, 0, 0, 768, 1792, 4083, 8179, 16383, 32767]
theorem shuf.tab16 : rtab .any (opsOf Try.f32 16) = shuf.T16 := by kernel_rfl
theorem shuf.bits16 : waitsOk shuf.T16.2 shuf.B16 = true := by kernel_rfl
theorem shuffle.good (k : Nat) (g : Nat) (l : List Int) (n : Nat) (ok : Nat → Prop) (x : List Int × Int × List Int) (w : World) (hT : Tp w g ok l) (hg : ¬ ok g) (hok : ∀ k, ok k → k < w.heap.size) (hn0 : 1 ≤ n) (hn1 : n ≤ 16384) (h : shuf.f k (n - 1) (idV n n) l = some x) :
    Calls Try.prog 32 #[.pointer (some ⟨g, 0, none⟩), .int .i64 (n : Int)] w fun e w' => ∃ A c, e = .returned (.tuple #[.slice A x.1.length c, .int .i64 x.2.1]) ∧ Ri w' (fun k => w.heap.size ≤ k) A c x.1 ∧ Tp w' g ok x.2.2 ∧ Stay w w' g := by
  have HT := Aside0.mk hT
  have HH := Aside0.mk h
  have HGW := Aside0.mk (show g < w.heap.size from hT.lt)
  have HB := Aside0.mk (Below.refl w.heap.size w)
  have hz1 : decide ((n : Int) < 0) = false := decide_eq_false (by omega)
  have hz2 : decide ((16384 : Int) < (n : Int)) = false := decide_eq_false (by omega)
  have hK2 : ((n : Int)).toNat = n := Int.toNat_natCast n
  clear hT h
  go_enter Try.func32, Try.ntmps32
  go_wp2_with (first | ((with_reducible refine gate_dst (N := 23) rfl ?_); refine Kd.R_make (Kd.int .i64) _ 3 rfl (N := 23) rfl 32 _ _ rfl ((n : Int)) rfl rfl Try.underlying32 (.int .i64 0) 8 infoInt20 rfl (by decide) (by omega) 0 (ok := fun _ => True) (okp := fun _ => True) rfl (fun _ hk => hk) trivial (by omega) (by omega) (Below.refl _ _) (Nat.le_refl _) ?_; intro v0 w1 ho1 hb hg_ hnew_; clear hg_ hnew_; rw [hK2] at ho1; have HB1 := Aside0.mk (below_step uB hb); obtain ⟨gt, ct, ev, hgt, hgl, _⟩ := Kd.R_form ho1 (by simp; omega); rw [List.length_replicate] at ev; subst ev; have HO1 := Aside0.mk (Kd.R_lower (base' := w.heap.size) ho1 (below_size (w := w) uB)); clear HB hb ho1 hgt hgl))
  go_loopg [26] n (fun gg v26 wr => ∃ i : Nat, v26 = .int .i64 (i : Int) ∧ i ≤ n ∧ n - i ≤ gg ∧ Aside0 (Kd.R (Kd.int .i64) 3 wr w.heap.size (fun _ => True) (.slice (some ⟨gt, 0, none⟩) n ct) (idV n i)) ∧ Aside0 (Below w.heap.size w wr))
  case atStart => exact ⟨0, rfl, by omega, by omega, HO1, HB1⟩
  case round =>
    clear HO1 HB1
    obtain ⟨i, rfl, hi, hgg, HO, HB⟩ := hrel
    by_cases hlt : i < n
    · have hltz : (i : Int) < (n : Int) := by omega
      have hiz : (0 : Int) ≤ (i : Int) := by omega
      have hyc := Kd.R_celln 0 HO.out (i : Int) (by omega) (by omega)
      have hcell := hyc.1
      have hfz : wr.frozen? ⟨gt, i, none⟩ = false := hyc.2
      simp only [Int.toNat_natCast] at hcell
      have HP := Aside0.mk (Kd.R_putg HO.out (i : Int) (i : Int))
      have HB6 := Aside0.mk (below_set (g := gt) (j := i) (v := .int .i64 (i : Int)) HB.out (Kd.R_base HO.out gt rfl))
      clear hyc HO HB
      go_wp2_with ((with_reducible refine gate_store (t := 3) (p := 32) rfl ?_); refine store_event (t := 3) (p := 32) (v := ?vo) (w1 := (wr.setCell ⟨gt, i, none⟩ (.int .i64 (i : Int)))) ?hg ?ho ?hn ?hr ?_; (case ho => rfl); (case hg => rfl); (case hn => rfl); (case hr => first | (go_simp; done) | (go_simp; rfl)); intro w5 hw; subst hw)
      have HO6 := HP.out.1
      simp only [Int.toNat_natCast] at HO6
      go_roundg (n - (i + 1))
      case measure => omega
      case rel => exact ⟨i + 1, by go_num, by omega, by omega, ⟨HO6⟩, HB6⟩
    · have hltz : ¬ (i : Int) < (n : Int) := by omega
      obtain rfl : i = n := by omega
      have HT1 := Aside0.mk (HT.out.below HB.out)
      have HS1 := Aside0.mk (Stay.of_below HB.out g)
      clear hlt hltz hgg hi HB
      go_wp2
      go_loopg [9] i (fun gg v9 wq => ∃ (j : Nat) (V l1 : List Int), v9 = .int .i64 (j : Int) ∧ j ≤ i - 1 ∧ j ≤ gg ∧ V.length = i ∧ Aside0 (shuf.f k j V l1 = some x) ∧ Aside0 (Kd.R (Kd.int .i64) 3 wq w.heap.size (fun _ => True) (.slice (some ⟨gt, 0, none⟩) i ct) V) ∧ Aside0 (Tp wq g ok l1) ∧ Aside0 (Stay w wq g))
      case atStart => exact ⟨i - 1, idV i i, l, by congr 1; omega, Nat.le_refl _, by omega, idV_len i i, HH, HO, HT1, HS1⟩
      case round =>
        clear HO HT1 HS1
        obtain ⟨j, V, l1, rfl, hj, hgg, hVl, HK, HO, HT1, HS1⟩ := hrel
        by_cases hlt : 0 < j
        · have hltz : (0 : Int) < (j : Int) := by omega
          obtain ⟨j, rfl⟩ : ∃ j', j = j' + 1 := ⟨j - 1, by omega⟩
          have hK := HK.out
          rw [shuf.f] at hK
          obtain ⟨⟨y1, y2, y3⟩, hy, hK⟩ := Option.bind_eq_some_iff.mp hK
          have HY := Aside0.mk hy
          have HGT := Aside0.mk (show gt ≠ g from by have h1 := Kd.R_base HO.out gt rfl; have h2 := HGW.out; omega)
          clear HK hy
          by_cases hy0 : y2 = 0
          · subst hy0
            rw [if_pos rfl] at hK
            by_cases hyr : 0 ≤ y1 ∧ y1 ≤ (j : Int) + 1
            · rw [if_pos hyr] at hK
              obtain ⟨q, rfl⟩ := Int.eq_ofNat_of_zero_le hyr.1
              have hq : q ≤ j + 1 := by omega
              simp only [Int.toNat_natCast] at hK
              have HK := Aside0.mk hK
              have HVL := Aside0.mk hVl
              obtain ⟨a, ha⟩ : ∃ a, a = V.getD q 0 := ⟨_, rfl⟩
              obtain ⟨b, hb⟩ : ∃ b, b = V.getD (j + 1) 0 := ⟨_, rfl⟩
              have NA := Aside0.mk ha
              have NB := Aside0.mk hb
              clear hK hyr ha hb hVl
              go_wp2_with (go_at_call 66; refine (tape_Small.calls k g l1 ((j : Int) + 2) ok ((q : Int), 0, y3) _ HT1.out hg (by omega) HY.out).mono ?_; rintro e w3 ⟨rfl, hT3, hS3⟩; have HT3 := Aside0.mk hT3; have HS3 := Aside0.mk (HS1.out.trans hS3); have HO3 := Aside0.mk (Kd.R_mono (Kd.R_keep (Kd.R_tight rfl HO.out) hS3.1 (fun k hk => by have h := HGT.out; simp [Value.ownBlock] at hk; omega)) (ok' := fun _ => True) (fun _ _ => trivial)); clear hT3 hS3 HT1 HS1 HO)
              have hjz0 : (0 : Int) ≤ (q : Int) := by omega
              have hjz1 : (q : Int) < (i : Int) := by omega
              have hiz0 : (0 : Int) ≤ (j : Int) + 1 := by omega
              have hiz1 : (j : Int) + 1 < (i : Int) := by omega
              have hcq := Kd.R_celln 0 HO3.out (q : Int) (by omega) (by omega)
              have hcj := Kd.R_celln 0 HO3.out ((j + 1 : Nat) : Int) (by omega) (by omega)
              have hcellq : w3.cell? ⟨gt, q, none⟩ = some (.int .i64 a) := by rw [NA.out]; exact hcq.1
              have hcellj : w3.cell? ⟨gt, j + 1, none⟩ = some (.int .i64 b) := by rw [NB.out]; exact hcj.1
              have hcellq2 : w3.drew.cell? ⟨gt, q, none⟩ = some (.int .i64 a) := hcellq
              have hcellj2 : w3.drew.cell? ⟨gt, j + 1, none⟩ = some (.int .i64 b) := hcellj
              have hfzj : w3.drew.frozen? ⟨gt, j + 1, none⟩ = false := hcj.2
              have HP1 := Aside0.mk (Kd.R_putg (Kd.R_drew HO3.out) ((j + 1 : Nat) : Int) a)
              have hcq2 := Kd.R_celln 0 HP1.out.1 (q : Int) (by omega) (by omega)
              have hfzq : (w3.drew.setCell ⟨gt, j + 1, none⟩ (.int .i64 a)).frozen? ⟨gt, q, none⟩ = false := hcq2.2
              have hcellq3 := hcq2.1
              have HP2 := Aside0.mk (Kd.R_putg HP1.out.1 (q : Int) b)
              have HNW := Aside0.mk (show w.heap.size ≤ gt from Kd.R_base HO3.out gt rfl)
              have HTN := Aside0.mk (show ∀ k, ok k → k ≠ gt from fun k hk => by have h1 := hok k hk; have h2 := HNW.out; omega)
              simp only [Int.toNat_natCast] at hcellq3
              have HT3d := Aside0.mk (HT3.out.below (below_drew (Below.refl _ _)))
              have HS3d := Aside0.mk (HS3.out.then (below_drew (Below.refl _ _)))
              clear hcq hcj hcq2 hcellq hcellj
              refine start_ (n := 16) (S := fun w' => w'.cell? ⟨gt, q, none⟩ = some (.int .i64 a) ∧ w'.cell? ⟨gt, j + 1, none⟩ = some (.int .i64 b)) (ds := [13, 15]) #[false, false, false, false, false, false, false, false, false, false, false, false, false, false, false, false] (by kernel_rfl) rfl rfl ⟨hcellq2, hcellj2⟩ (fun hHeld => ?_); refine with_tabW shuf.tab16 shuf.bits16 (fun HT_ HW_ => ?_)
              generalize w3.drew = w10 at HP1 HP2 hcellq2 hcellj2 hfzj hfzq hcellq3 HT3d HS3d hHeld ⊢
              refine pure_ (i := 0) (N := some 52) (v := ?_) (a' := ?_) #[true, false, false, false, false, false, false, false, false, false, false, false, false, false, false, false] rfl rfl (any_of HT_.out (by kernel_rfl)) (fun _ _ _ h => h) (Or.inl ⟨by rfl, ?_⟩) ?_ ?_
              rotate_left
              · intro w'
                go_simp
                with_reducible rfl
              rotate_left
              · simp only [Act.put, List.setIfInBounds_toArray, List.set_cons_zero, List.set_cons_succ, i64_w, i32_w]
                rfl
              refine pure_ (i := 1) (N := some 53) (v := ?_) (a' := ?_) #[true, true, false, false, false, false, false, false, false, false, false, false, false, false, false, false] rfl rfl (any_of HT_.out (by kernel_rfl)) (fun _ _ _ h => h) (Or.inl ⟨by rfl, ?_⟩) ?_ ?_
              rotate_left
              · intro w'
                go_simp
                with_reducible rfl
              rotate_left
              · simp only [Act.put, List.setIfInBounds_toArray, List.set_cons_zero, List.set_cons_succ, i64_w, i32_w]
                rfl
              refine pure_ (i := 2) (N := some 54) (v := ?_) (a' := ?_) #[true, true, true, false, false, false, false, false, false, false, false, false, false, false, false, false] rfl rfl (any_of HT_.out (by kernel_rfl)) (fun _ _ _ h => h) (Or.inl ⟨by rfl, ?_⟩) ?_ ?_
              rotate_left
              · intro w'
                go_simp
                with_reducible rfl
              rotate_left
              · simp only [Act.put, List.setIfInBounds_toArray, List.set_cons_zero, List.set_cons_succ, i64_w, i32_w]
                rfl
              refine pure_ (i := 3) (N := some 55) (v := ?_) (a' := ?_) #[true, true, true, true, false, false, false, false, false, false, false, false, false, false, false, false] rfl rfl (any_of HT_.out (by kernel_rfl)) (fun _ _ _ h => h) (Or.inl ⟨by rfl, ?_⟩) ?_ ?_
              rotate_left
              · intro w'
                go_simp
                with_reducible rfl
              rotate_left
              · simp only [Act.put, List.setIfInBounds_toArray, List.set_cons_zero, List.set_cons_succ, i64_w, i32_w]
                rfl
              refine pure_ (i := 4) (N := some 56) (v := ?_) (a' := ?_) #[true, true, true, true, true, false, false, false, false, false, false, false, false, false, false, false] rfl rfl (any_of HT_.out (by kernel_rfl)) (fun _ _ _ h => h) (Or.inl ⟨by rfl, ?_⟩) ?_ ?_
              rotate_left
              · intro w'
                go_simp
                with_reducible rfl
              rotate_left
              · simp only [Act.put, List.setIfInBounds_toArray, List.set_cons_zero, List.set_cons_succ, i64_w, i32_w]
                rfl
              refine pure_ (i := 5) (N := some 57) (v := ?_) (a' := ?_) #[true, true, true, true, true, true, false, false, false, false, false, false, false, false, false, false] rfl rfl (any_of HT_.out (by kernel_rfl)) (fun _ _ _ h => h) (Or.inl ⟨by rfl, ?_⟩) ?_ ?_
              rotate_left
              · intro w'
                go_simp
                with_reducible rfl
              rotate_left
              · simp only [Act.put, List.setIfInBounds_toArray, List.set_cons_zero, List.set_cons_succ, i64_w, i32_w]
                rfl
              refine pure_ (i := 6) (N := some 58) (v := ?_) (a' := ?_) #[true, true, true, true, true, true, true, false, false, false, false, false, false, false, false, false] rfl rfl (any_of HT_.out (by kernel_rfl)) (fun _ _ _ h => h) (Or.inl ⟨by rfl, ?_⟩) ?_ ?_
              rotate_left
              · intro w'
                go_simp
                with_reducible rfl
              rotate_left
              · simp only [Act.put, List.setIfInBounds_toArray, List.set_cons_zero, List.set_cons_succ, i64_w, i32_w]
                rfl
              refine pure_ (i := 8) (N := some 60) (v := ?_) (a' := ?_) #[true, true, true, true, true, true, true, false, true, false, false, false, false, false, false, false] rfl rfl (any_of HT_.out (by kernel_rfl)) (fun _ _ _ h => h) (Or.inl ⟨by rfl, ?_⟩) ?_ ?_
              rotate_left
              · intro w'
                go_simp
                with_reducible rfl
              rotate_left
              · simp only [Act.put, List.setIfInBounds_toArray, List.set_cons_zero, List.set_cons_succ, i64_w, i32_w]
                rfl
              refine pure_ (i := 9) (N := some 61) (v := ?_) (a' := ?_) #[true, true, true, true, true, true, true, false, true, true, false, false, false, false, false, false] rfl rfl (any_of HT_.out (by kernel_rfl)) (fun _ _ _ h => h) (Or.inl ⟨by rfl, ?_⟩) ?_ ?_
              rotate_left
              · intro w'
                go_simp
                with_reducible rfl
              rotate_left
              · simp only [Act.put, List.setIfInBounds_toArray, List.set_cons_zero, List.set_cons_succ, i64_w, i32_w]
                rfl
              refine pure_ (i := 10) (N := some 62) (v := ?_) (a' := ?_) #[true, true, true, true, true, true, true, false, true, true, true, false, false, false, false, false] rfl rfl (any_of HT_.out (by kernel_rfl)) (fun _ _ _ h => h) (Or.inl ⟨by rfl, ?_⟩) ?_ ?_
              rotate_left
              · intro w'
                go_simp
                with_reducible rfl
              rotate_left
              · simp only [Act.put, List.setIfInBounds_toArray, List.set_cons_zero, List.set_cons_succ, i64_w, i32_w]
                rfl
              refine take_ (i := 7) (N := some 59) (v := ?_) (a' := ?_) #[true, true, true, true, true, true, true, true, true, true, true, false, false, false, false, false] rfl rfl (take_ofW HT_.out HW_.out (by kernel_rfl)) (fun _ _ _ h => h) (Or.inl ⟨by rfl, ?_⟩) hHeld ?_ ?_
              rotate_left
              · rintro w' ⟨s0, s1⟩
                go_simp
                with_reducible rfl
              rotate_left
              · simp only [Act.put, List.setIfInBounds_toArray, List.set_cons_zero, List.set_cons_succ, i64_w, i32_w]
                rfl
              refine take_ (i := 11) (N := some 63) (v := ?_) (a' := ?_) #[true, true, true, true, true, true, true, true, true, true, true, true, false, false, false, false] rfl rfl (take_ofW HT_.out HW_.out (by kernel_rfl)) (fun _ _ _ h => h) (Or.inl ⟨by rfl, ?_⟩) hHeld ?_ ?_
              rotate_left
              · rintro w' ⟨s0, s1⟩
                go_simp
                with_reducible rfl
              rotate_left
              · simp only [Act.put, List.setIfInBounds_toArray, List.set_cons_zero, List.set_cons_succ, i64_w, i32_w]
                rfl
              refine pure_ (i := 12) (N := some 64) (v := ?_) (a' := ?_) #[true, true, true, true, true, true, true, true, true, true, true, true, true, false, false, false] rfl rfl (any_of HT_.out (by kernel_rfl)) (fun _ _ _ h => h) (Or.inl ⟨by rfl, ?_⟩) ?_ ?_
              rotate_left
              · intro w'
                go_simp
                with_reducible rfl
              rotate_left
              · simp only [Act.put, List.setIfInBounds_toArray, List.set_cons_zero, List.set_cons_succ, i64_w, i32_w]
                rfl
              refine last_ (i := 13) (N := none) #[true, true, true, true, true, true, true, true, true, true, true, true, true, true, false, false] rfl rfl (one_of HT_.out (by kernel_rfl)) (by decide) (fun K hK => ?_)
              refine skip_ (w1 := ?_) (by rfl) rfl ?_ ?_
              rotate_left
              · go_simp
                rfl
              refine hK.out _ _ ?_
              clear hK K
              refine pure_ (i := 14) (N := some 65) (v := ?_) (a' := ?_) #[true, true, true, true, true, true, true, true, true, true, true, true, true, true, true, false] rfl rfl (any_of HT_.out (by kernel_rfl)) (fun _ _ _ h => h) (Or.inl ⟨by rfl, ?_⟩) ?_ ?_
              rotate_left
              · intro w'
                go_simp
                with_reducible rfl
              rotate_left
              · simp only [Act.put, List.setIfInBounds_toArray, List.set_cons_zero, List.set_cons_succ, i64_w, i32_w]
                rfl
              refine last_ (i := 15) (N := none) #[true, true, true, true, true, true, true, true, true, true, true, true, true, true, true, true] rfl rfl (one_of HT_.out (by kernel_rfl)) (by decide) (fun K hK => ?_)
              refine skip_ (w1 := ?_) (by rfl) rfl ?_ ?_
              rotate_left
              · go_simp
                rfl
              refine hK.out _ _ ?_
              clear hK K
              refine done_ (done_of HT_.out (by kernel_rfl)) ?_
              go_wp2
              have HO6 := HP2.out.1
              simp only [Int.toNat_natCast] at HO6
              go_roundg j
              case measure => omega
              case rel => exact ⟨j, swapV V (j + 1) q, y3, by go_num, by omega, Nat.le_refl _, by rw [swapV_len]; exact HVL.out, HK, ⟨by unfold swapV; rw [← NA.out, ← NB.out]; exact HO6⟩, ⟨(HT3d.out.far (p := ⟨gt, j + 1, none⟩) HGT.out HTN.out _).far (p := ⟨gt, q, none⟩) HGT.out HTN.out _⟩, ⟨(HS3d.out.set_new (p := ⟨gt, j + 1, none⟩) HNW.out _).set_new (p := ⟨gt, q, none⟩) HNW.out _⟩⟩
            · rw [if_neg hyr] at hK
              exact absurd hK (by simp)
          · rw [if_neg hy0] at hK
            obtain rfl := Option.some.inj hK
            have HY0 := Aside0.mk hy0
            clear hy0 hK
            go_wp2_with (go_at_call 66; refine (tape_Small.calls k g l1 ((j : Int) + 2) ok (y1, y2, y3) _ HT1.out hg (by omega) HY.out).mono ?_; rintro e w3 ⟨rfl, hT3, hS3⟩; have HT3 := Aside0.mk hT3; have HS3 := Aside0.mk (HS1.out.trans hS3); clear hT3 hS3 HT1 HS1)
            all_goals first
              | (have h5 : (y2 != 0) = false := by assumption
                 exact absurd (by simpa using h5) HY0.out)
              | (go_ret2; exact ⟨_, _, rfl, ⟨Kd.F_nil _ _ _, Nat.le_refl _⟩, HT3.out, HS3.out⟩)
        · have hltz : ¬ (0 : Int) < (j : Int) := by omega
          obtain rfl : j = 0 := by omega
          obtain rfl := Option.some.inj HK.out
          have HVL := Aside0.mk hVl
          clear HK hVl hj hgg
          go_wp2
          go_ret2
          refine ⟨some ⟨gt, 0, none⟩, ct, by have h := HVL.out; subst h; rfl, ?_, HT1.out, HS1.out⟩
          show Kd.F (Kd.int .i64) _ _ _ V.length V ∧ V.length ≤ ct
          rw [HVL.out]
          exact ⟨Kd.R_F (Kd.R_mono (Kd.R_bound HO.out) (fun k hk => hk.2.1)), (Kd.R_reads' HO.out).2.1⟩
def Shuffled (w w' : World) (g : Nat) (ok : Nat → Prop) (e : Ending) (x : List Int × Int × List Int) : Prop := ∃ A c, e = .returned (.tuple #[.slice A x.1.length c, .int .i64 x.2.1]) ∧ Ri w' (fun k => w.heap.size ≤ k) A c x.1 ∧ Tp w' g ok x.2.2 ∧ Stay w w' g
theorem shuffle.empty (g : Nat) (l : List Int) (ok : Nat → Prop) (w : World) (hT : Tp w g ok l) :
    Calls Try.prog 32 #[.pointer (some ⟨g, 0, none⟩), .int .i64 0] w fun e w' => Shuffled w w' g ok e ([], 0, l) := by
  have HT := Aside0.mk hT
  have HB := Aside0.mk (Below.refl w.heap.size w)
  clear hT
  go_enter Try.func32, Try.ntmps32
  go_wp2_with (first | ((with_reducible refine gate_dst (N := 23) rfl ?_); refine Kd.R_make (Kd.int .i64) _ 3 rfl (N := 23) rfl 32 _ _ rfl (0 : Int) rfl rfl Try.underlying32 (.int .i64 0) 8 infoInt20 rfl (by decide) (by omega) 0 (ok := fun _ => True) (okp := fun _ => True) rfl (fun _ hk => hk) trivial (by omega) (by omega) (Below.refl _ _) (Nat.le_refl _) ?_; intro v0 w1 ho1 hb hg_ hnew_; clear hg_ hnew_; have HB1 := Aside0.mk (below_step uB hb); have ho2 := Kd.R_lower ho1 (below_size (w := w) uB); obtain ⟨A1, c1, e1⟩ := Kd.R_slice ho2; subst e1; have HF := Aside0.mk (show Kd.F (Kd.int .i64) w1 (fun k => w.heap.size ≤ k) A1 0 [] from Kd.R_F (Kd.R_mono (Kd.R_bound ho2) (fun k hk => hk.2.1))); clear HB hb ho1 ho2))
  go_loopg [26] 0 (fun gg v26 wr => v26 = .int .i64 0 ∧ Aside0 (Kd.F (Kd.int .i64) wr (fun k => w.heap.size ≤ k) A1 0 []) ∧ Aside0 (Below w.heap.size w wr))
  case atStart => exact ⟨rfl, HF, HB1⟩
  case round =>
    clear HB1 HF
    obtain ⟨rfl, HF, HB⟩ := hrel
    go_wp2
    go_loopg [9] 0 (fun gg v9 wr => v9 = .int .i64 (-1) ∧ Aside0 (Kd.F (Kd.int .i64) wr (fun k => w.heap.size ≤ k) A1 0 []) ∧ Aside0 (Below w.heap.size w wr))
    case atStart => exact ⟨rfl, HF, HB⟩
    case round =>
      clear HB HF
      obtain ⟨rfl, HF, HB⟩ := hrel
      go_wp2
      go_ret2
      exact ⟨_, _, rfl, ⟨HF.out, Nat.zero_le _⟩, HT.out.below HB.out, Stay.of_below HB.out g⟩
theorem shuffle.bad (g : Nat) (n : Int) (w : World) (h : n < 0 ∨ 16384 < n) : Calls Try.prog 32 #[.pointer (some ⟨g, 0, none⟩), .int .i64 n] w fun e w' => e = .returned (.tuple #[.slice none 0 0, .int .i64 1]) ∧ w' = w := by
  have key : decide (n < 0) = true ∨ (decide (n < 0) = false ∧ decide (16384 < n) = true) := by
    by_cases h1 : n < 0
    · exact .inl (decide_eq_true h1)
    · exact .inr ⟨decide_eq_false h1, decide_eq_true (by omega)⟩
  clear h
  rcases key with h1 | ⟨h1, h2⟩
  all_goals
    go_enter Try.func32, Try.ntmps32
    go_wp2
    go_ret2
    exact ⟨rfl, rfl⟩
theorem shuffle.calls (k : Nat) (g : Nat) (l : List Int) (n : Int) (ok : Nat → Prop) (x : List Int × Int × List Int) (w : World) (hT : Tp w g ok l) (hg : ¬ ok g) (hok : ∀ k, ok k → k < w.heap.size) (h : shuffle.f k n l = some x) :
    Calls Try.prog 32 #[.pointer (some ⟨g, 0, none⟩), .int .i64 n] w fun e w' => Shuffled w w' g ok e x := by
  unfold shuffle.f at h
  by_cases hb : n < 0 ∨ 16384 < n
  · rw [if_pos hb] at h
    obtain rfl := Option.some.inj h
    refine (shuffle.bad g n w hb).mono ?_
    rintro e w' ⟨rfl, rfl⟩
    exact ⟨_, _, rfl, ⟨Kd.F_nil _ _ _, Nat.le_refl _⟩, hT, Stay.refl _ _⟩
  · rw [if_neg hb] at h
    obtain ⟨m, rfl⟩ := Int.eq_ofNat_of_zero_le (show 0 ≤ n by omega)
    rw [Int.toNat_natCast] at h
    by_cases h0 : m = 0
    · subst h0
      have hx : x = ([], 0, l) := (Option.some.inj h).symm
      subst hx
      exact shuffle.empty g l ok w hT
    · exact shuffle.good k g l m ok x w hT hg hok (by omega) (by omega) h
theorem Ri.C {w : World} {ok : Nat → Prop} {A : Option Addr} {c : Nat} {l : List Int} (h : Ri w ok A c l) : Kd.C (Kd.int .i64) w A l.length l := Kd.F_now h.1
theorem Ri.below {w w1 : World} {ok : Nat → Prop} {A : Option Addr} {c : Nat} {l : List Int} (h : Ri w ok A c l) (hb : Below w.heap.size w w1) : Ri w1 ok A c l := ⟨Kd.F_below h.1 hb, h.2⟩
theorem awake.calls (k : Nat) (r : List Int) (w : World) (h : shuffle.f k 3 [0, 0] = some ([1, 2, 0], 0, r)) :
    Calls Try.prog 7 #[] w fun e w' => e = .returned (.bool true) ∧ Below w.heap.size w w' := by
  have HB := Aside0.mk (Below.refl w.heap.size w)
  have HS := Aside0.mk (fun (W : World) (g : Nat) (hT : Tp W g (fun k => k < g) [0, 0]) => (show Calls Try.prog 32 #[.pointer (some ⟨g, 0, none⟩), .int .i64 3] W fun e w' => ∃ ad c, e = .returned (.tuple #[.slice (some ad) 3 c, .int .i64 0]) ∧ w'.cell? ad = some (.int .i64 1) ∧ w'.cell? ⟨ad.block, ad.off + 1, none⟩ = some (.int .i64 2) ∧ w'.cell? ⟨ad.block, ad.off + 2, none⟩ = some (.int .i64 0) ∧ Stay W w' g from (shuffle.calls k g [0, 0] 3 (fun k => k < g) ([1, 2, 0], 0, r) W hT (Nat.lt_irrefl _) (fun k hk => Nat.lt_trans hk hT.lt) h).mono (by
    rintro e w' ⟨A, c, rfl, hr, _, hs⟩
    have hC : Kd.C (Kd.int .i64) w' A ([1, 2, 0] : List Int).length [1, 2, 0] := hr.C
    obtain ⟨ad, hA, h0⟩ := Kd.at_int hC (0 : Int) (by omega) (by decide)
    obtain ⟨ad1, hA1, h1⟩ := Kd.at_int hC (1 : Int) (by omega) (by decide)
    obtain ⟨ad2, hA2, h2⟩ := Kd.at_int hC (2 : Int) (by omega) (by decide)
    subst hA
    obtain rfl : ad = ad1 := Option.some.inj hA1
    obtain rfl : ad = ad2 := Option.some.inj hA2
    exact ⟨ad, c, rfl, h0, h1, h2, hs⟩)))
  have FR := Aside0.mk (fun (W : World) (A : Option Addr) (c : Nat) (h : Kd.C (Kd.int .u8) W A ([0, 0] : List Int).length [0, 0]) (hc : 2 ≤ c) => (show Calls Try.prog 8 #[.slice A 2 c] W _ from tape_fresh20.both A c [0, 0] W h hc (by simp)))
  clear h
  go_enter Try.func7, Try.ntmps7
  go_wp2_with (first
    | ((with_reducible refine gate_dst (N := 7) rfl ?_); refine Kd.R_lit (Kd.int .u8) _ 5 ?hg (N := 7) ?hd (xs := ([0, 0] : List Int)) (inner := [.int .u8 0, .int .u8 0]) (ok := fun _ => True) (okp := fun _ => True) ?hr ?hp (fun _ hk => hk) trivial (Below.refl _ _) (Nat.le_refl _) (by simp) ?_; (case hd => rfl); (case hg => rfl); (case hr => first | (go_simp; done) | (go_simp; rfl)); (case hp => exact (Reps.one (show Kd.M (Kd.int .u8) _ _ _ 0 [.int .u8 0] from rfl) (Reps.one (show Kd.M (Kd.int .u8) _ _ _ 0 [.int .u8 0] from rfl) (Reps.none _ _)))); intro v1 w2 ho hb_ hg_ hnew_; clear hg_ hnew_; obtain ⟨A2, c2, e2⟩ := Kd.R_slice ho; subst e2; have HL2 := Aside0.mk ho; have HB2 := Aside0.mk (below_step uB hb_); clear HB hb_ ho)
    | (go_at_call 8; (refine (FR.out _ A2 c2 (Kd.R_reads' HL2.out).2.2 (by have h := (Kd.R_reads' HL2.out).2.1; exact h)).mono ?_); rintro e w3 ⟨g1, g2, rfl, hg1, hg2, hT1, hT2, hb_⟩; have G1 := Aside0.mk (Nat.le_trans (below_size HB2.out) hg1); have T1 := Aside0.mk hT1; have HB3 := Aside0.mk (below_step HB2.out hb_); clear HB2 HL2 hb_ hT1 hT2 hg1 hg2)
    | (go_at_call 32; refine (HS.out _ g1 T1.out).mono ?_; rintro e w4 ⟨ad, c4, rfl, hc0, hc1, hc2, hs⟩; have HB4 := Aside0.mk (hs.below HB3.out G1.out); clear HB3 hs T1))
  go_ret
  exact ⟨rfl, uB⟩
def metV (n : Nat) (v : List Int) : Nat → List Bool
  | 0 => List.replicate n false
  | i + 1 => (metV n v i).set (v.getD i 0).toNat true
theorem metV_len (n : Nat) (v : List Int) (i : Nat) : (metV n v i).length = n := by
  induction i with
  | zero => simp [metV]
  | succ i ih => rw [metV]; simp [ih]
theorem metV_at (n : Nat) (v : List Int) (i j : Nat) (hj : j < n) (h : ∀ b, b < i → (v.getD b 0).toNat ≠ j) : (metV n v i).getD j false = false := by
  induction i with
  | zero => simp [metV, hj]
  | succ i ih =>
    rw [metV, List.getD_eq_getElem?_getD, List.getElem?_set_ne (h i (Nat.lt_succ_self i)), ← List.getD_eq_getElem?_getD]
    exact ih (fun b hb => h b (by omega))
def OnceAt (n : Nat) (V : List Int) : Prop := V.length = n ∧ (∀ a, a < n → 0 ≤ V.getD a 0 ∧ V.getD a 0 < (n : Int)) ∧ ∀ a b, a < n → b < n → V.getD a 0 = V.getD b 0 → a = b
def ref4_draw.f (z : Int) (n L : List Int) : Nat → Nat → Option (List Int × Int × Nat)
  | 0, _ => none
  | k + 1, u => if ((L.drop u).length : Int) < (z + 7) / 8 then some ([], 7, u) else (windbreakref01_Read.f k ((L.drop u).take ((z + 7) / 8).toNat)).bind fun x => (windbreakref01_Shr.f k x.1 z).bind fun t => (windbreakref01_Shl.f k t.1 z).bind fun h => (windbreakref01_Sub.f k x.1 h.1).bind fun y => (windbreakref01_Cmp.f k y.1 n).bind fun c => if c < 0 then some (y.1, 0, u + ((z + 7) / 8).toNat) else ref4_draw.f z n L k (u + ((z + 7) / 8).toNat)
def ref4_Below.f (k : Nat) (n L : List Int) (u : Nat) : Option (List Int × Int × Nat) :=
  (windbreakref01_Right.f n).bind fun b => if b = true ∧ n.length ≠ 0 then (windbreakref01_Of.f 1).bind fun o => (windbreakref01_Sub.f k n o).bind fun s => (windbreakref01_Bits.f k s.1).bind fun z => if z = 0 then some ([], 0, u) else if 0 < z ∧ z ≤ 4096 then ref4_draw.f z n L k u else none
  else some ([], 1, u)
def ref4_Small.f (k : Nat) (m : Int) (L : List Int) (u : Nat) : Option (Int × Int × Nat) :=
  if m < 1 then some (0, 1, u) else (windbreakref01_Of.f m).bind fun n => (ref4_Below.f k n L u).bind fun x => (windbreakref01_Small.f k x.1).bind fun z => some (wrap64 z.1, x.2.1, x.2.2)
def cntV : Nat → List Int
  | 0 => []
  | i + 1 => cntV i ++ [(i : Int)]
theorem cntV_len (i : Nat) : (cntV i).length = i := by
  induction i with
  | zero => rfl
  | succ i ih => simp [cntV, ih]
def rshuf.f (k : Nat) (L : List Int) : Nat → List Int → Nat → Option (List Int × Int × Nat)
  | 0, V, u => some (V, 0, u)
  | i + 1, V, u => (ref4_Small.f k ((i : Int) + 2) L u).bind fun x => if x.2.1 = 0 then (if 0 ≤ x.1 ∧ x.1 ≤ (i : Int) + 1 ∧ x.2.2 ≤ L.length then rshuf.f k L i (swapV V (i + 1) x.1.toNat) x.2.2 else none) else (if x.2.2 ≤ L.length then some ([], x.2.1, x.2.2) else none)
def rshuffle.f (k : Nat) (n : Int) (L : List Int) (u : Nat) : Option (List Int × Int × Nat) :=
  if n < 0 ∨ 16384 < n then some ([], 1, u) else rshuf.f k L (n.toNat - 1) (cntV n.toNat) u
end Go.Proofs.Ytnaphgnkhhapoaa.F
end
section
namespace Go.Proofs.Ytnaphgnkhhapoaa.F
open Go.RowKit Go.Proofs.YtnaphgnkhhapoaaW.PrintWords Go.Proofs.YtnaphgnkhhapoaaW.PrintLast Go.Proofs.YtnaphgnkhhapoaaW.PrintMore
open Go.Maps
set_option linter.unusedVariables false
set_option linter.unusedSimpArgs false
theorem mask_laid : laidOutB Try.prog = true := by kernel_rfl
theorem mask_row : (23 : TypeId) < Try.prog.types.size := of_decide_eq_true (by kernel_rfl)
theorem mask_wide : (match Try.prog.underlying 23 with | some (.array _ _) | some (.struct _) => true | _ => false) = true := by rw [Try.underlying23]
theorem mask_law : Keyed Try.prog 23 := Keyed.of_law (deep_law_laid mask_laid (m := 2) (by omega) mask_row (by kernel_rfl) mask_wide)
def key2 (a b : Int) : Value := .agg #[.int .i64 a, .int .i64 b]
def lit2 (a b : Int) : Lit := .string (keyBytes [.int .i64 a, .int .i64 b])
theorem mask_cells : Try.prog.cellsOf 23 = 2 ∧ Try.prog.cellsOf 3 = 1 ∧ Try.prog.keyType 23 = true ∧ 2 ≤ Try.prog.types.size := ⟨by kernel_rfl, by kernel_rfl, by kernel_rfl, of_decide_eq_true (by kernel_rfl)⟩
theorem mask_lits {a b : Int} (ha : (Lit.int .i64 a).wf = true) (hb : (Lit.int .i64 b).wf = true) (d : Nat) : Try.prog.keyLits (d + 2) 23 [.int .i64 a, .int .i64 b] = some [.int .i64 a, .int .i64 b] := by
  obtain ⟨c1, c2, c3, c4⟩ := mask_cells
  have hone : ∀ x : Int, (Lit.int .i64 x).wf = true → Try.prog.keyLits (d + 1) 3 [.int .i64 x] = some [.int .i64 x] := by
    intro x hx
    unfold Program.keyLits
    simp [Try.underlying3, hx]
  unfold Program.keyLits
  simp only [Try.underlying23, c1, c2, List.length_cons, List.length_nil, if_true]
  have e : List.range 2 = [0, 1] := by decide
  rw [e]
  simp only [List.mapM_cons, List.mapM_nil, Nat.zero_mul, Nat.one_mul, List.drop_zero, List.drop_succ_cons, List.take_succ_cons, List.take_zero, hone a ha, hone b hb]
  rfl
theorem mask_key {a b : Int} (ha : (Lit.int .i64 a).wf = true) (hb : (Lit.int .i64 b).wf = true) : keyOf Try.prog 23 (key2 a b) = some (lit2 a b) := by
  obtain ⟨c1, c2, c3, c4⟩ := mask_cells
  obtain ⟨d, hd⟩ : ∃ d, Try.prog.types.size + 1 = d + 2 := ⟨Try.prog.types.size - 1, by omega⟩
  have hk := mask_lits ha hb d
  rw [← hd] at hk
  have hf : (key2 a b).formed Try.prog 23 = true := by
    unfold key2 Value.formed
    simp only [Try.underlying23, c1]
    rfl
  have hc : (key2 a b).cells.toList = [.int .i64 a, .int .i64 b] := rfl
  unfold keyOf lit2
  rw [Try.underlying23]
  simp only [c3, hf, Bool.and_self, if_true]
  rw [hc, hk]
  rfl
abbrev MapAt (w : World) (b n : Nat) (D : DataW Unit) : Prop := w.ownsMap Try.prog 23 (plainElem Try.prog 4) b n D
theorem zeroBool (w : World) : (zeroValue 4).run Try.prog w = .ok (.bool false) w := by kernel_rfl
theorem MapAt.look {w : World} {b n : Nat} {D : DataW Unit} (h : MapAt w b n D) {x y : Int} (hx : (Lit.int .i64 x).wf = true) (hy : (Lit.int .i64 y).wf = true) : ∃ c : Bool, (Instr.lookup 81 (.map (some b)) (key2 x y) false).run Try.prog w = .ok (.bool c) w ∧ D.atKey (lit2 x y) (.lit (.bool false)) = .lit (.bool c) := by
  obtain ⟨v, ps, hrun, hv⟩ := World.ownsMap.lookup h mask_law Try.underlying81 (zeroBool w) (plainElem_bool Try.underlying4 false) (mask_key hx hy)
  unfold plainElem at hv
  rw [Try.underlying4] at hv
  cases v <;> simp at hv
  obtain ⟨hv, _⟩ := hv
  exact ⟨_, hrun, hv.symm⟩
theorem MapAt.put {w : World} {b n : Nat} {D : DataW Unit} (h : MapAt w b n D) (hn : n < 9223372036854775807) {x y : Int} (hx : (Lit.int .i64 x).wf = true) (hy : (Lit.int .i64 y).wf = true) : ∃ w', (Instr.mapUpdate 81 (.map (some b)) (key2 x y) (.bool true)).run Try.prog w = .ok () w' ∧ MapAt w' b (n + 1) (D.put (lit2 x y) (.lit (.bool true))) ∧ w.grownBy w' (some b) :=
  World.ownsMap.update h mask_law Try.underlying81 (by simp only [maxLen]; omega) (mask_key hx hy) (plainElem_bool Try.underlying4 true)
def MaskAt (w : World) (g b : Nat) (v : Value) : Prop := w.heap[g]? = some (.cells #[v, .map (some b)] 84 (0, 0))
theorem mask_New.calls (w : World) :
    Calls Try.prog 9 #[] w fun e w' => ∃ g b, e = .returned (.pointer (some ⟨g, 0, none⟩)) ∧ w.heap.size ≤ b ∧ b < g ∧ MaskAt w' g b (.slice none 0 0) ∧ MapAt w' b 0 (.map []) ∧ Below w.heap.size w w' := by
  have hmm := @run_makeMap Try.prog
  go_enter Try.func9, Try.ntmps9
  go_wp2_with (first
    | ((with_reducible refine gate_dst (N := 3) rfl ?_); refine box_event ?hg (N := 3) ?hd (cs := #[.slice none 0 0, .map (some w.heap.size)]) (t := 84) ?hr ?_; (case hd => rfl); (case hg => rfl); (case hr => first | (go_simp; done) | (go_simp; rfl)); intro g hg w1 hbox hb; have BK := Aside0.mk hbox; have HB := Aside0.mk hb; have HG := Aside0.mk hg; clear hbox hb hg))
  go_ret
  have hm : MapAt (w.alloc (.map #[] 0)) w.heap.size 0 (.map []) := World.ownsMap_made _ _ _ _
  have hsz : (w.alloc (.map #[] 0)).heap.size = w.heap.size + 1 := by
    show (w.heap.push _).size = _
    simp
  have hg := HG.out
  refine ⟨g, w.heap.size, rfl, Nat.le_refl _, by omega, BK.out, World.ownsMap.kept hm (grown_of_below HB.out none) (by simp), below_step (below_alloc (Below.refl _ _) _) HB.out⟩
end Go.Proofs.Ytnaphgnkhhapoaa.F
end
section
namespace Go.Proofs.Ytnaphgnkhhapoaa.F
open Go.RowKit Go.Proofs.YtnaphgnkhhapoaaW.PrintWords Go.Proofs.YtnaphgnkhhapoaaW.PrintLast Go.Proofs.YtnaphgnkhhapoaaW.PrintMore
set_option linter.unusedVariables false
set_option linter.unusedSimpArgs false
abbrev GD : Kd (Int × Int × Int × Int) := Kd.pair (Kd.int .i64) (Kd.pair (Kd.int .i64) (Kd.pair (Kd.int .i64) (Kd.int .i64)))
theorem GD_cells {w : World} {x : Int × Int × Int × Int} {cs : List Value} (h : GD.K w x cs) : cs = [.int .i64 x.1, .int .i64 x.2.1, .int .i64 x.2.2.1, .int .i64 x.2.2.2] := by
  obtain ⟨_, _, e, rfl, _, _, rfl, rfl, _, _, rfl, rfl, rfl⟩ := h
  exact e
theorem GD_get {w : World} {A : Option Addr} {n : Nat} {gs : List (Int × Int × Int × Int)} (h : GD.C w A n gs) (i : Nat) (hi : i < n) : ∃ ad, A = some ad ∧ ∃ x, x = gs.getD i (0, 0, 0, 0) ∧ w.cell? (ad.add (i * 4)) = some (.int .i64 x.1) ∧ w.cell? ⟨(ad.add (i * 4)).block, (ad.add (i * 4)).off + 1, none⟩ = some (.int .i64 x.2.1) ∧ w.cell? ⟨(ad.add (i * 4)).block, (ad.add (i * 4)).off + 2, none⟩ = some (.int .i64 x.2.2.1) ∧ w.cell? ⟨(ad.add (i * 4)).block, (ad.add (i * 4)).off + 3, none⟩ = some (.int .i64 x.2.2.2) := by
  obtain ⟨ad, cs, hA, _, hK, hc⟩ := Kd.C_get h (0, 0, 0, 0) (i : Int) (by omega) (by omega)
  have e := GD_cells hK
  rw [Int.toNat_natCast] at hc e
  subst e
  exact ⟨ad, hA, _, rfl, hc 0 _ rfl, by rw [← add_field _ _ 1 (by omega)]; exact hc 1 _ rfl, by rw [← add_field _ _ 2 (by omega)]; exact hc 2 _ rfl, by rw [← add_field _ _ 3 (by omega)]; exact hc 3 _ rfl⟩
theorem results_find {P : Program} {fn : Func} {a b p u : Tmp} {ty : TypeId} (h : fn.results = #[.tmp a, .tmp b, .cell p ty, .tmp u]) (tmps : Array Value) (w : World) (g : Nat) (t : TypeId) (cs : Array Value) (fr : Nat × Nat) (d : TypeDesc)
    (hp : tmps.getD p undef = .pointer (some ⟨g, 0, none⟩)) (hg : w.heap[g]? = some (.cells cs t fr))
    (hu : P.underlying ty = some d) (hd : (match d with | .struct _ | .array _ _ => true | _ => false) = true) (hi : (P.info? ty).map (·.size) = some cs.size) (va vb v : Value) (ha : tmps.getD a undef = va) (hb : tmps.getD b undef = vb) (hv : tmps.getD u undef = v) :
    (results fn tmps).run P w = .ok (.tuple #[va, vb, .agg cs, v]) w := by
  have hp' : tmps[p]?.getD undef = .pointer (some ⟨g, 0, none⟩) := by simpa using hp
  have ha' : tmps[a]?.getD undef = va := by simpa using ha
  have hb' : tmps[b]?.getD undef = vb := by simpa using hb
  have hv' : tmps[u]?.getD undef = v := by simpa using hv
  simp [results, h, hp', ha', hb', hv', asAddr, run_loadVar_row w g t ty cs fr d hg hu hd hi]
theorem given_info : (Try.prog.info? 87).map (·.size) = some 4 := by kernel_rfl
theorem mask_Find.calls (g b : Nat) (v : Value) (gs : List (Int × Int × Int × Int)) (id : Nat) (A : Option Addr) (c : Nat) (w : World) (hM : MaskAt w g b (.slice A gs.length c)) (hC : GD.C w A gs.length gs) (hid : id < gs.length) :
    Calls Try.prog 11 #[.pointer (some ⟨g, 0, none⟩), .int .i64 (id : Int)] w fun e w' => e = .returned (.tuple #[.int .i64 (gs.getD id (0, 0, 0, 0)).2.2.1, .int .i64 (gs.getD id (0, 0, 0, 0)).2.2.2, .agg #[.int .i64 (gs.getD id (0, 0, 0, 0)).1, .int .i64 (gs.getD id (0, 0, 0, 0)).2.1], .bool true]) ∧ Below w.heap.size w w' := by
  obtain ⟨ad, hA, x, hx, h0, h1, h2, h3⟩ := GD_get hC id hid
  subst hA
  rw [← hx]
  have HM := Aside0.mk hM
  have HB := Aside0.mk (Below.refl w.heap.size w)
  have hv0 : w.cell? ⟨g, 0, none⟩ = some (.slice (some ad) gs.length c) := (blk_cell hM 0).trans rfl
  have hi0 : (0 : Int) ≤ (id : Int) := by omega
  have hi1 : (id : Int) < (gs.length : Int) := by omega
  have z1 : decide ((id : Int) < 0) = false := decide_eq_false (by omega)
  have z2 : decide ((gs.length : Int) ≤ (id : Int)) = false := decide_eq_false (by omega)
  clear hM hC hx hid
  obtain ⟨x0, x1, x2, x3⟩ := x
  simp only at h0 h1 h2 h3 ⊢
  go_enter Try.func11, Try.ntmps11
  go_wp2_with (first
    | ((with_reducible refine gate_dst (N := 6) rfl ?_); refine box_event ?hg (N := 6) ?hd (cs := #[.int .i64 0, .int .i64 0]) (t := 38) ?hr ?_; (case hd => rfl); (case hg => rfl); (case hr => first | (go_simp; done) | (go_simp; rfl)); intro gc hg w1 hbox hb; have BC := Aside0.mk hbox; have HB1 := Aside0.mk (below_step HB.out hb); have HGC := Aside0.mk (show w.heap.size ≤ gc from hg ▸ below_size HB.out); have k0 := pw_cell_below hb h0; have k1 := pw_cell_below hb h1; have k2 := pw_cell_below hb h2; have k3 := pw_cell_below hb h3; have kv := pw_cell_below hb hv0; clear h0 h1 h2 h3 hv0 HB hbox hb hg)
    | ((with_reducible refine gate_dst (N := 8) rfl ?_); refine box_event ?hg (N := 8) ?hd (cs := #[.int .i64 0, .int .i64 0, .int .i64 0, .int .i64 0]) (t := 87) ?hr ?_; (case hd => rfl); (case hg => rfl); (case hr => first | (go_simp; done) | (go_simp; rfl)); intro g8 hg w2 hbox hb; have B8 := Aside0.mk hbox; have BC2 := Aside0.mk (blk_below BC.out hb); have HB2 := Aside0.mk (below_step HB1.out hb); have HG8 := Aside0.mk (show w.heap.size ≤ g8 from hg ▸ below_size HB1.out); have HNE := Aside0.mk (show gc ≠ g8 from by rw [hg]; exact Nat.ne_of_lt (blk_lt BC.out)); clear k0 k1 k2 k3 kv BC HB1 hbox hb hg)
    | ((with_reducible refine gate_store (t := 87) (p := 8) rfl ?_); refine wpList_store_row rfl 87 (.tmp 8) (.tmp 27) rfl g8 #[.int .i64 x0, .int .i64 x1, .int .i64 x2, .int .i64 x3] rfl rfl 87 #[.int .i64 0, .int .i64 0, .int .i64 0, .int .i64 0] B8.out given_info rfl (by simp [Value.oneCell']) ?_; have B83 := Aside0.mk (setRow_heap w2 g8 _ #[.int .i64 x0, .int .i64 x1, .int .i64 x2, .int .i64 x3] _ _ B8.out); have BC3 := Aside0.mk ((setRow_other w2 g8 gc #[.int .i64 x0, .int .i64 x1, .int .i64 x2, .int .i64 x3] HNE.out).trans BC2.out); have HB3 := Aside0.mk (below_setRow (g := g8) HB2.out HG8.out #[.int .i64 x0, .int .i64 x1, .int .i64 x2, .int .i64 x3]); generalize w2.setRow g8 #[.int .i64 x0, .int .i64 x1, .int .i64 x2, .int .i64 x3] = w3 at B83 BC3 HB3 ⊢; clear B8 BC2 HB2))
  have q0 : w3.cell? ⟨g8, 0, none⟩ = some (.int .i64 x0) := (blk_cell B83.out 0).trans rfl
  have q1 : w3.cell? ⟨g8, 1, none⟩ = some (.int .i64 x1) := (blk_cell B83.out 1).trans rfl
  have q2 : w3.cell? ⟨g8, 2, none⟩ = some (.int .i64 x2) := (blk_cell B83.out 2).trans rfl
  have q3 : w3.cell? ⟨g8, 3, none⟩ = some (.int .i64 x3) := (blk_cell B83.out 3).trans rfl
  have r0 : w3.cell? ⟨gc, 0, none⟩ = some (.int .i64 0) := (blk_cell BC3.out 0).trans rfl
  have r1 : w3.cell? ⟨gc, 1, none⟩ = some (.int .i64 0) := (blk_cell BC3.out 1).trans rfl
  have s0 := blk_frozen BC3.out 0
  have s1 := blk_frozen BC3.out 1
  have ne1 := HNE.out
  have ne2 := Ne.symm HNE.out
  go_region_law (fail)
  all_goals
    go_wp2
    (try rw [Exit.noGoto_ret])
    have BE := blk_drew (blk_put (blk_put BC3.out 0 (.int .i64 x0) rfl) 1 (.int .i64 x1) rfl)
    exact bodyPost_ret (results_find rfl _ _ gc 38 #[.int .i64 x0, .int .i64 x1] (0, 0) _ rfl BE Try.underlying38 rfl (by kernel_rfl) _ _ _ rfl rfl rfl) rfl ⟨rfl, below_drew (below_set (below_set HB3.out HGC.out) HGC.out)⟩
end Go.Proofs.Ytnaphgnkhhapoaa.F
end
section
namespace Go.Proofs.Ytnaphgnkhhapoaa.F
open Go.RowKit Go.Proofs.YtnaphgnkhhapoaaW.PrintWords Go.Proofs.YtnaphgnkhhapoaaW.PrintLast Go.Proofs.YtnaphgnkhhapoaaW.PrintMore
set_option linter.unusedVariables false
set_option linter.unusedSimpArgs false
section
variable {P : Program} {ops : Array Oper} {Q : Exit → Act → World → Prop} {md : Region.Mode} {S : World → Prop} {ds : List Nat}
theorem upx (i : Nat) (N : Option Tmp) (l' : Array Bool) {oi : Oper} {fuel : Nat} {l : Array Bool} {a : Act} {w : World} {T : Bool × List (List Nat × List Nat)} (hi : ops[i]? = some oi) (hN : oi.dst = N) (hT : Aside0 (rtab md ops = T)) {a' : Act} (h : wpAnyLast P md ops Q S ds fuel l' a' w)
    (hc : anyT T l.toList l'.toList i = true := by kernel_rfl) (hQ : ∀ c a w, Q (.panic c) (a.put oi.dst undef) w → Q (.panic c) a w := by exact fun _ _ _ h => h) (hy : Yields P ops oi undef a := by exact Or.inr ⟨by rfl, rfl⟩) (ha : a.put N undef = a' := by simp only [Act.put, List.setIfInBounds_toArray, List.set_cons_zero, List.set_cons_succ, i64_w, i32_w]; rfl) : wpAnyLast P md ops Q S ds (fuel + 1) l a w := pure_ l' hi hN (any_of hT.out hc) hQ hy ha h
end
theorem goesV_ {P : Program} {ops : Array Oper} {Q : Exit → Act → World → Prop} {oi : Oper} {N : Option Tmp} {a : Act} {w : World} {K : Act → World → Prop} {f : FuncId} {fn : Func} {as_ : Array Operand} {ts : Array TypeId} {t : Tmp} (hf : P.funcs[f]? = some fn) (hname : (fn.name == "runtime.NumGoroutine") = false) (hb : fn.body.isSome = true) (args : Array Value)
    (hw : Region.wanted oi (yielded ops a.tmps) = true) (hN : oi.dst = N) (hop : oi.op = .call { callee := .value (.tmp t), args := as_, argTypes := ts }) (hv : a.eval (.tmp t) = .func (.func f) #[] #[]) (hargs : as_.map a.eval = args)
    (h : Calls P f args w fun e w' => ∃ v, e = .returned v ∧ K (a.put N v) w') : if Region.wanted oi (yielded ops a.tmps) = true then Oper.wp P oi a w K Q else K (a.put N undef) w := by
  refine call_ f args hw hN ?_ h
  have he := enters_ hf hname hb args w
  have hv' : a.tmps[t]?.getD undef = .func (.func f) #[] #[] := by simpa [Act.eval] using hv
  unfold execOp
  simp [hop, resolve, Deferred.ofValue, invoke, Act.eval, hargs, he, hv']
end Go.Proofs.Ytnaphgnkhhapoaa.F
end
section
namespace Go.Proofs.Ytnaphgnkhhapoaa.F
open Go.RowKit Go.Proofs.YtnaphgnkhhapoaaW.PrintWords Go.Proofs.YtnaphgnkhhapoaaW.PrintLast Go.Proofs.YtnaphgnkhhapoaaW.PrintMore
set_option linter.unusedVariables false
set_option linter.unusedSimpArgs false
def oddM (n : Int) : Bool := decide (n < 0) || decide (1073741824 < n)
theorem mask_odd.calls (n : Int) (w : World) :
    Calls Try.prog 35 #[.int .i64 n] w fun e w' => e = .returned (.bool (oddM n)) ∧ w' = w := by
  by_cases h : n < 0
  · have z1 : decide (n < 0) = true := decide_eq_true h
    have e : oddM n = true := by unfold oddM; rw [z1]; rfl
    rw [e]
    go_enter Try.func35, Try.ntmps35
    go_wp2
    go_ret
    exact ⟨rfl, rfl⟩
  · have z1 : decide (n < 0) = false := decide_eq_false h
    have e : oddM n = decide (1073741824 < n) := by unfold oddM; rw [z1]; rfl
    rw [e]
    go_enter Try.func35, Try.ntmps35
    go_wp2
    go_ret
    exact ⟨rfl, rfl⟩
def badM (tree node : Int) (inN : Bool) (m nc : Nat) : Bool := oddM tree || oddM node || inN || decide (1048576 < wrap64 ((m : Int) + (nc : Int)))
def issueR.T3 : Bool × List (List Nat × List Nat) := (true, [([], []), ([], []), ([0, 1], [0, 1]), ([2, 2], [2]), ([3], [3]), ([3], [3]), ([4, 5, 3, 3], [3, 4, 5]), ([3, 6], [3, 6]), ([7, 6], [7]), ([8], [8]), ([9, 8], [8, 9]), ([10, 8], [8, 10]), ([11, 8], [8, 11]), ([8], [8]), ([12, 13, 8], [8, 12, 13]), ([8, 14], [8, 14]), ([15, 8], [15]), ([16], [16]), ([17, 16], [16, 17]), ([18, 16], [16, 18]), ([19, 16], [16, 19]), ([20, 16], [16, 20]), ([16], [16]), ([22, 16], [16, 22]), ([21, 23, 16], [16, 21, 23]), ([24, 16], [16, 24]), ([16, 25], [16, 25])])
def issueR.B3 : List Nat := [0, 0, 3, 7, 15, 15, 63, 127, 255, 511, 1023, 2047, 4095, 511, 16383, 32767, 65535, 131071, 262143, 524287, 1048575, 2097151, 131071, 4325375, 16777215, 33554431, 67108863]
theorem issueR.tab3 : rtab .any (opsOf Try.f10 3) = issueR.T3 := by kernel_rfl
theorem issueR.bits3 : waitsOk issueR.T3.2 issueR.B3 = true := by kernel_rfl
def issueR.T13 : Bool × List (List Nat × List Nat) := (true, [([], []), ([], []), ([1], [1]), ([2], [2]), ([3], [3]), ([], []), ([], []), ([5, 6], [5, 6]), ([7], [7]), ([], []), ([8, 9], [8, 9]), ([10], [10]), ([4, 11], [4, 11]), ([0, 0, 1, 2, 3, 4, 5, 6, 7, 8, 9, 10, 11, 12], [0]), ([13, 0, 1, 2, 3, 4, 5, 6, 7, 8, 9, 10, 11, 12], [13]), ([14, 12, 12, 0, 1, 2, 3, 4, 5, 6, 7, 8, 9, 10, 11, 12], [12, 14])])
def issueR.B13 : List Nat := [0, 0, 2, 6, 14, 0, 0, 96, 224, 0, 992, 2016, 4094, 8191, 16383, 32767]
theorem issueR.tab13 : rtab .any (opsOf Try.f10 13) = issueR.T13 := by kernel_rfl
theorem issueR.bits13 : waitsOk issueR.T13.2 issueR.B13 = true := by kernel_rfl
theorem cellA {w : World} {p : Addr} {v : Value} (h : w.cell? p = some v) (o : Obj) : (w.alloc o).cell? p = some v := by
  rw [← h]
  exact World.cell?_of_block (Below.heap_alloc w o p.block (World.block_lt_of_cell? _ _ h))
theorem MapAt.of {w w' : World} {b n : Nat} {D : DataW Unit} (h : MapAt w b n D) (he : w'.heap[b]? = w.heap[b]?) : MapAt w' b n D := by
  obtain ⟨es, clock, hb, F, hs, hD⟩ := h
  exact ⟨es, clock, he.trans hb, F, hs, hD⟩
theorem MapAt.lt {w : World} {b n : Nat} {D : DataW Unit} (h : MapAt w b n D) : b < w.heap.size := by
  obtain ⟨es, clock, hb, F, hs, hD⟩ := h
  exact blk_lt hb
def MaskI (base : Nat) (w : World) (g b gt n : Nat) (D : DataW Unit) (gs : List (Int × Int × Int × Int)) : Prop :=
  ∃ A c, MaskAt w g b (.slice A gs.length c) ∧ Kd.R GD 87 w base (fun k => gt < k ∧ k ≠ g ∧ k ≠ b) (.slice A gs.length c) gs ∧ MapAt w b n D
structure IssI (W0 : World) (B1 B2 g b gt ga n : Nat) (tree node : Int) (D : DataW Unit) (L : List Int) (Ao : Option Addr) (co : Nat) (v : List Int) (sv gv : Value) (gs : List (Int × Int × Int × Int)) (iv : Value) (ids : List Int) (wr : World) : Prop where
  hb : Below W0.heap.size W0 wr
  size : B2 ≤ wr.heap.size
  mask : MaskAt wr g b sv
  giv : Kd.R GD 87 wr W0.heap.size (fun k => (k < B1 ∨ B2 ≤ k) ∧ gt < k ∧ k ≠ g ∧ k ≠ b) gv gs
  map : MapAt wr b n D
  tape : Tp wr gt (fun k => k < gt) L
  ord : Ri wr (fun k => B1 ≤ k ∧ k < B2) Ao co v
  at_ : wr.heap[ga]? = some (.cells #[.int .i64 tree, .int .i64 node] 23 (0, 0))
  ids : Kd.R (Kd.int .i64) 3 wr B2 (fun _ => True) iv ids
  st : W0.heap.size ≤ gt ∧ gt < g ∧ gt < b ∧ b ≠ g ∧ g < B1 ∧ b < B1 ∧ B1 ≤ ga ∧ ga < B2
section
variable {W0 wr w' : World} {B1 B2 g b gt ga n co : Nat} {tree node : Int} {D : DataW Unit} {L v ids : List Int} {Ao : Option Addr} {sv gv iv : Value} {gs : List (Int × Int × Int × Int)}
theorem Tp.same {w w1 : World} {l : List Int} (h : Tp w gt (fun k => k < gt) l) (hs : ∀ k, k ≤ gt → w1.heap[k]? = w.heap[k]?) : Tp w1 gt (fun k => k < gt) l := by
  obtain ⟨A, c, h1, h2, h3⟩ := h
  exact ⟨A, c, (hs gt (Nat.le_refl _)).trans h1, h2, Kd.F_step h3 (fun k hk _ => hs k (Nat.le_of_lt hk))⟩
theorem IssI.quiet (h : IssI W0 B1 B2 g b gt ga n tree node D L Ao co v sv gv gs iv ids wr) (hb : Below wr.heap.size wr w') : IssI W0 B1 B2 g b gt ga n tree node D L Ao co v sv gv gs iv ids w' := by
  have hst := h.st
  have h1 := h.size
  exact ⟨below_step h.hb hb, Nat.le_trans h.size hb.size, blk_below h.mask hb, Kd.R_below h.giv hb, h.map.of (hb.block b h.map.lt), h.tape.same (fun k hk => hb.block k (by omega)), ⟨Kd.F_below h.ord.1 hb, h.ord.2⟩, blk_below h.at_ hb, Kd.R_below h.ids hb, hst⟩
theorem IssI.more (h : IssI W0 B1 B2 g b gt ga n tree node D L Ao co v sv gv gs iv ids wr) {iv' : Value} {ids' : List Int} (hi : Kd.R (Kd.int .i64) 3 w' B2 (fun _ => True) iv' ids') (hg : wr.grownBy w' iv.ownBlock) : IssI W0 B1 B2 g b gt ga n tree node D L Ao co v sv gv gs iv' ids' w' := by
  have hst := h.st
  have h1 := h.size
  have hlow : ∀ k, k < B2 → w'.heap[k]? = wr.heap[k]? := fun k hk => hg.block k (by omega) (fun e => by have := Kd.R_base h.ids k e.symm; omega)
  refine ⟨h.hb.trans ⟨hg.os, hg.tape, hg.output, hg.size, fun k hk => hlow k (by omega)⟩, Nat.le_trans h.size hg.size, (hlow g (by omega)).trans h.mask, ?_, h.map.of (hlow b (by omega)), h.tape.same (fun k hk => hlow k (by omega)), ⟨Kd.F_step h.ord.1 (fun k hk _ => hlow k (by omega)), h.ord.2⟩, (hlow ga (by omega)).trans h.at_, hi, hst⟩
  exact Kd.R_mono (Kd.R_step (Kd.R_apartR h.giv h.ids (by decide)) (fun k hk hlt => hg.block k hlt hk.2)) (fun k hk => hk.1)
theorem IssI.given (h : IssI W0 B1 B2 g b gt ga n tree node D L Ao co v sv gv gs iv ids wr) {gv' : Value} {gs' : List (Int × Int × Int × Int)} (hv : Kd.R GD 87 w' W0.heap.size (fun k => (k < B1 ∨ B2 ≤ k) ∧ gt < k ∧ k ≠ g ∧ k ≠ b) gv' gs') (hg : wr.grownBy w' gv.ownBlock) : IssI W0 B1 B2 g b gt ga n tree node D L Ao co v sv gv' gs' iv ids w' := by
  have hst := h.st
  have h1 := h.size
  have hok := h.giv.1
  have hkeep : ∀ k, k < wr.heap.size → ¬ ((k < B1 ∨ B2 ≤ k) ∧ gt < k ∧ k ≠ g ∧ k ≠ b) → w'.heap[k]? = wr.heap[k]? := fun k hk hn => hg.block k hk (fun e => hn (hok k e.symm))
  refine ⟨h.hb.trans ⟨hg.os, hg.tape, hg.output, hg.size, fun k hk => hkeep k (by omega) (by omega)⟩, Nat.le_trans h.size hg.size, (hkeep g (by omega) (by omega)).trans h.mask, hv, h.map.of (hkeep b (by omega) (by omega)), h.tape.same (fun k hk => hkeep k (by omega) (by omega)), ⟨Kd.F_step h.ord.1 (fun k hk hlt => hkeep k hlt (by omega)), h.ord.2⟩, (hkeep ga (by omega) (by omega)).trans h.at_, ?_, hst⟩
  exact Kd.R_mono (Kd.R_step (Kd.R_apartR h.ids h.giv (by decide)) (fun k hk hlt => hg.block k hlt hk.2)) (fun k hk => hk.1)
theorem IssI.store (h : IssI W0 B1 B2 g b gt ga n tree node D L Ao co v sv gv gs iv ids wr) (u : Value) : IssI W0 B1 B2 g b gt ga n tree node D L Ao co v u gv gs iv ids (wr.setCell ⟨g, 0, none⟩ u) := by
  have hst := h.st
  have h1 := h.size
  have hk : ∀ k, k ≠ g → (wr.setCell ⟨g, 0, none⟩ u).heap[k]? = wr.heap[k]? := fun k hk => Below.heap_setCell wr ⟨g, 0, none⟩ u k hk
  exact ⟨h.hb.setCell (by show W0.heap.size ≤ g; omega) u, by simpa [World.setCell] using h.size, blk_put (cs := #[sv, .map (some b)]) h.mask 0 u rfl, Kd.R_step h.giv (fun k hk2 _ => hk k hk2.2.2.1), h.map.of (hk b (by omega)), h.tape.same (fun k hk2 => hk k (by omega)), ⟨Kd.F_step h.ord.1 (fun k hk2 _ => hk k (by omega)), h.ord.2⟩, (hk ga (by omega)).trans h.at_, Kd.R_step (Kd.R_mono (ok' := fun k => B2 ≤ k) (Kd.R_bound h.ids) (fun k hk2 => hk2.2.1)) (fun k hk2 _ => hk k (by omega)) |> fun z => Kd.R_mono z (fun _ _ => trivial), hst⟩
theorem IssI.mapped (h : IssI W0 B1 B2 g b gt ga n tree node D L Ao co v sv gv gs iv ids wr) {n' : Nat} {D' : DataW Unit} (hm : MapAt w' b n' D') (hg : wr.grownBy w' (some b)) : IssI W0 B1 B2 g b gt ga n' tree node D' L Ao co v sv gv gs iv ids w' := by
  have hst := h.st
  have h1 := h.size
  have hk : ∀ k, k < wr.heap.size → k ≠ b → w'.heap[k]? = wr.heap[k]? := fun k hk hn => hg.block k hk (fun e => hn (Option.some.inj e))
  exact ⟨h.hb.trans ⟨hg.os, hg.tape, hg.output, hg.size, fun k hk2 => hk k (by omega) (by omega)⟩, Nat.le_trans h.size hg.size, (hk g (by omega) (by omega)).trans h.mask, Kd.R_step h.giv (fun k hk2 hlt => hk k hlt hk2.2.2.2), hm, h.tape.same (fun k hk2 => hk k (by omega) (by omega)), ⟨Kd.F_step h.ord.1 (fun k hk2 hlt => hk k hlt (by omega)), h.ord.2⟩, (hk ga (by omega) (by omega)).trans h.at_, Kd.R_step (Kd.R_mono (ok' := fun k => B2 ≤ k) (Kd.R_bound h.ids) (fun k hk2 => hk2.2.1)) (fun k hk2 hlt => hk k hlt (by omega)) |> fun z => Kd.R_mono z (fun _ _ => trivial), hst⟩
theorem IssI.start {w wc w3 : World} (h : MaskI W0.heap.size w g b gt n D gs) (hW : Below W0.heap.size W0 w) (hst : W0.heap.size ≤ gt ∧ gt < g ∧ gt < b ∧ b ≠ g) (hwc : Below w.heap.size w wc) (hat : wc.heap[ga]? = some (.cells #[.int .i64 tree, .int .i64 node] 23 (0, 0))) (hga : w.heap.size ≤ ga) (hS : Stay wc w3 gt) (hT : Tp w3 gt (fun k => k < gt) L) (hr : Ri w3 (fun k => wc.heap.size ≤ k) Ao co v) :
    ∃ A c, IssI W0 w.heap.size w3.heap.size g b gt ga n tree node D L Ao co v (.slice A gs.length c) (.slice A gs.length c) gs (.slice none 0 0) [] w3 := by
  obtain ⟨A, c, h1, h2, h3⟩ := h
  have hg := blk_lt h1
  have hbl := h3.lt
  have hs1 := hwc.size
  have hs2 := hS.size
  have hgac := blk_lt hat
  have hk : ∀ k, k < w.heap.size → k ≠ gt → w3.heap[k]? = w.heap[k]? := fun k hk hn => (hS.1.2 k (by omega) hn (by simp)).trans (hwc.block k hk)
  refine ⟨A, c, hS.below (below_step hW hwc) hst.1, Nat.le_refl _, (hk g hg (by omega)).trans h1, ?_, h3.of (hk b hbl (by omega)), hT, ⟨Kd.F_mono (Kd.F_bound hr.1) (fun k hk2 => ⟨by omega, hk2.2⟩), hr.2⟩, (hS.1.2 ga hgac (by omega) (by simp)).trans hat, Kd.R_nil _ _ _ _ _, ⟨hst.1, hst.2.1, hst.2.2.1, hst.2.2.2, hg, hbl, hga, by omega⟩⟩
  exact Kd.R_step (Kd.R_mono (ok' := fun k => ((k < w.heap.size ∨ w3.heap.size ≤ k) ∧ gt < k ∧ k ≠ g ∧ k ≠ b) ∧ k < w.heap.size) (Kd.R_bound h2) (fun k hk2 => ⟨⟨.inl hk2.2.2.1, hk2.1⟩, hk2.2.2.1⟩)) (fun k hk2 _ => hk k hk2.2 (by omega)) |> fun z => Kd.R_mono z (fun _ hk2 => hk2.1)
end
def givenV (cuts : List (Int × Int)) (tree node : Int) (i : Int) : Int × Int × Int × Int := ((cuts.getD i.toNat (0, 0)).1, (cuts.getD i.toNat (0, 0)).2, tree, node)
def idsV (m n : Nat) : List Int := (List.range n).map fun i => ((m + i : Nat) : Int)
def issue.f (k : Nat) (tree node : Int) (inN : Bool) (cuts : List (Int × Int)) (gs : List (Int × Int × Int × Int)) (L : List Int) : Option (List Int × List Int × Int × List (Int × Int × Int × Int) × List Int) :=
  if badM tree node inN gs.length cuts.length = true then some ([], [], 1, gs, L) else (shuffle.f k (cuts.length : Int) L).bind fun x => if x.2.1 = 0 then (if x.1.length ≤ 16384 ∧ ∀ i ∈ x.1, 0 ≤ i ∧ i < (cuts.length : Int) then some (x.1, idsV gs.length x.1.length, 0, gs ++ x.1.map (givenV cuts tree node), x.2.2) else none) else some ([], [], x.2.1, gs, x.2.2)
abbrev CD : Kd (Int × Int) := Kd.pair (Kd.int .i64) (Kd.int .i64)
def IssPost (W0 w : World) (g b gt n : Nat) (tree node : Int) (D : DataW Unit) (r : List Int × List Int × Int × List (Int × Int × Int × Int) × List Int) (e : Ending) (w' : World) : Prop :=
  ∃ Ao co Ai ci, e = .returned (.tuple #[.slice Ao r.1.length co, .slice Ai r.2.1.length ci, .int .i64 r.2.2.1]) ∧ Ri w' (fun k => w.heap.size ≤ k) Ao co r.1 ∧ Ri w' (fun k => w.heap.size ≤ k) Ai ci r.2.1 ∧ Below W0.heap.size W0 w' ∧ Tp w' gt (fun k => k < gt) r.2.2.2.2 ∧ (if r.2.2.1 = 0 then MaskI W0.heap.size w' g b gt (n + 1) (D.put (lit2 tree node) (.lit (.bool true))) r.2.2.2.1 else MaskI W0.heap.size w' g b gt n D r.2.2.2.1)
theorem MaskI.below {base : Nat} {w w' : World} {g b gt n : Nat} {D : DataW Unit} {gs : List (Int × Int × Int × Int)} (h : MaskI base w g b gt n D gs) (hb : Below w.heap.size w w') : MaskI base w' g b gt n D gs := by
  obtain ⟨A, c, h1, h2, h3⟩ := h
  exact ⟨A, c, blk_below h1 hb, Kd.R_below h2 hb, h3.of (hb.block b h3.lt)⟩
theorem MaskI.stay {base : Nat} {w w' : World} {g b gt n : Nat} {D : DataW Unit} {gs : List (Int × Int × Int × Int)} (h : MaskI base w g b gt n D gs) (hs : Stay w w' gt) (h1 : gt < g) (h2 : gt < b) : MaskI base w' g b gt n D gs := by
  obtain ⟨A, c, m1, m2, m3⟩ := h
  have hk : ∀ k, k < w.heap.size → k ≠ gt → w'.heap[k]? = w.heap[k]? := fun k hk hn => hs.1.2 k hk hn (by simp)
  exact ⟨A, c, (hk g (blk_lt m1) (by omega)).trans m1, Kd.R_step m2 (fun k hk2 hlt => hk k hlt (by omega)), m3.of (hk b m3.lt (by omega))⟩
theorem Ri.nil0 (w : World) (ok : Nat → Prop) : Ri w ok none 0 [] := ⟨Kd.F_nil _ _ _, Nat.le_refl _⟩
theorem infoG : (Try.prog.info? 87).map (fun i => (i.zero, i.size, i.bytes)) = some (some (.agg #[.int .i64 0, .int .i64 0, .int .i64 0, .int .i64 0]), 4, 32) := by kernel_rfl
theorem GD_M (W : World) (base : Nat) (ok : Nat → Prop) (f c t n : Int) : GD.M W base ok (f, c, t, n) [.int .i64 f, .int .i64 c, .int .i64 t, .int .i64 n] := ⟨[_], _, rfl, rfl, [_], _, rfl, rfl, [_], _, rfl, rfl, rfl⟩
theorem CD_get {w : World} {A : Option Addr} {n : Nat} {cs : List (Int × Int)} (h : CD.C w A n cs) (i : Nat) (hi : i < n) : ∃ ad, A = some ad ∧ ∃ x, x = cs.getD i (0, 0) ∧ w.cell? (ad.add (i * 2)) = some (.int .i64 x.1) ∧ w.cell? ⟨(ad.add (i * 2)).block, (ad.add (i * 2)).off + 1, none⟩ = some (.int .i64 x.2) := by
  obtain ⟨ad, c, hA, _, hK, hc⟩ := Kd.C_get h (0, 0) (i : Int) (by omega) (by omega)
  obtain ⟨_, _, e, rfl, rfl⟩ := hK
  rw [Int.toNat_natCast] at hc e
  subst e
  exact ⟨ad, hA, _, rfl, hc 0 _ rfl, by rw [← add_field _ _ 1 (by omega)]; exact hc 1 _ rfl⟩
theorem mask_Issue.calls (k g b n gt nc cc : Nat) (Ac : Option Addr) (D : DataW Unit) (gs : List (Int × Int × Int × Int)) (cuts : List (Int × Int)) (tree node : Int) (inN : Bool) (L : List Int) (r : List Int × List Int × Int × List (Int × Int × Int × Int) × List Int) (W0 w : World) (hW : Below W0.heap.size W0 w) (hst : W0.heap.size ≤ gt ∧ gt < g ∧ gt < b ∧ b ≠ g) (hM : MaskI W0.heap.size w g b gt n D gs) (hgs : gs.length ≤ 1048576) (hnb : n < 9223372036854775807) (hTp : Tp w gt (fun k => k < gt) L) (hC : CD.C W0 Ac cuts.length cuts) (ht : (Lit.int .i64 tree).wf = true) (hn : (Lit.int .i64 node).wf = true) (hin : D.atKey (lit2 tree node) (.lit (.bool false)) = .lit (.bool inN)) (hf : issue.f k tree node inN cuts gs L = some r) :
    Calls Try.prog 10 #[.pointer (some ⟨g, 0, none⟩), .pointer (some ⟨gt, 0, none⟩), .int .i64 tree, .int .i64 node, .slice Ac cuts.length cc] w fun e w' => IssPost W0 w g b gt n tree node D r e w' := by
  have huA := Try.underlying23
  have huM := Try.underlying81
  have huC := Try.underlying38
  have huG := Try.underlying87
  have hm0 := hM
  obtain ⟨A, c, hM1, _, hmap⟩ := hm0
  have HM := Aside0.mk hM1
  have HB := Aside0.mk (Below.refl w.heap.size w)
  have HMAP := Aside0.mk hmap
  have HT := Aside0.mk ht
  have HN := Aside0.mk hn
  have HIN := Aside0.mk hin
  have HMI := Aside0.mk hM
  have HST := Aside0.mk hst
  have HW := Aside0.mk hW
  have HTP := Aside0.mk hTp
  have HCU := Aside0.mk hC
  have HF := Aside0.mk hf
  have HGS := Aside0.mk hgs
  have HNB := Aside0.mk hnb
  clear hM hM1 hmap ht hn hin hst hW hTp hC hf hgs hnb
  go_enter Try.func10, Try.ntmps10
  go_upto_region 3 with (first
    | ((with_reducible refine gate_dst (N := 14) rfl ?_); refine box_event ?hg (N := 14) ?hd (cs := #[.int .i64 0, .int .i64 0]) (t := 23) ?hr ?_; (case hd => rfl); (case hg => rfl); (case hr => first | (go_simp; done) | (go_simp; rfl)); intro ga hg w1 hbox hb; have BA := Aside0.mk hbox; have HB1 := Aside0.mk (below_step HB.out hb); have HGA := Aside0.mk (show w.heap.size ≤ ga from hg ▸ below_size HB.out); clear HB hbox hb hg)
    | ((with_reducible refine gate_store (t := 23) (p := 14) rfl ?_); refine wpList_store_row rfl 23 (.tmp 14) (.tmp 22) rfl ga #[.int .i64 tree, .int .i64 node] rfl rfl 23 #[.int .i64 0, .int .i64 0] BA.out (by kernel_rfl) rfl (by simp [Value.oneCell']) ?_; have BA2 := Aside0.mk (setRow_heap w1 ga _ #[.int .i64 tree, .int .i64 node] _ _ BA.out); have HB2 := Aside0.mk (below_setRow (g := ga) HB1.out HGA.out #[.int .i64 tree, .int .i64 node]); generalize w1.setRow ga #[.int .i64 tree, .int .i64 node] = w2 at BA2 HB2 ⊢; clear BA HB1))
  (try simp only [Act.put, List.setIfInBounds_toArray, List.set_cons_zero, List.set_cons_succ])
  go_cut [49] (fun v49 wc => v49 = .bool (badM tree node inN gs.length cuts.length) ∧ Aside0 (wc.heap[ga]? = some (.cells #[.int .i64 tree, .int .i64 node] 23 (0, 0))) ∧ Aside0 (Below w.heap.size w wc))
  case first =>
    have hm3 : MapAt w2.drew b n D := World.ownsMap.kept HMAP.out (grown_of_below (below_drew HB2.out) none) (by simp)
    obtain ⟨c', hlk, hc'⟩ := hm3.look HT.out HN.out
    obtain rfl : c' = inN := by have := hc'.symm.trans HIN.out; injection this with this; injection this
    have hM2 := blk_below HM.out HB2.out
    have hF : w2.drew.cell? ⟨g, 0, none⟩ = some (.slice A gs.length c) ∧ w2.drew.cell? ⟨g, 1, none⟩ = some (.map (some b)) ∧ w2.drew.cell? ⟨ga, 0, none⟩ = some (.int .i64 tree) ∧ w2.drew.cell? ⟨ga, 1, none⟩ = some (.int .i64 node) ∧ (Instr.lookup 81 (.map (some b)) (.agg #[.int .i64 tree, .int .i64 node]) false).run Try.prog w2.drew = .ok (.bool c') w2.drew := ⟨(blk_cell (blk_drew hM2) 0).trans rfl, (blk_cell (blk_drew hM2) 1).trans rfl, (blk_cell (blk_drew BA2.out) 0).trans rfl, (blk_cell (blk_drew BA2.out) 1).trans rfl, hlk⟩
    have HB3 := Aside0.mk (below_drew HB2.out)
    have BA3 := Aside0.mk (blk_drew BA2.out)
    clear hm3 hlk hc' hM2 HB2 BA2 HMAP HIN
    cases h1 : oddM tree
    · cases h2 : oddM node
      · cases c'
        ·
            have hod1 : ∀ W : World, Calls Try.prog 35 #[.int .i64 tree] W fun e w' => e = .returned (.bool false) ∧ w' = W := fun W => h1 ▸ mask_odd.calls tree W
            have hod2 : ∀ W : World, Calls Try.prog 35 #[.int .i64 node] W fun e w' => e = .returned (.bool false) ∧ w' = W := fun W => h2 ▸ mask_odd.calls node W
            refine start_ (n := 27) (S := fun w' => w'.cell? ⟨g, 0, none⟩ = some (.slice A gs.length c) ∧ w'.cell? ⟨g, 1, none⟩ = some (.map (some b)) ∧ w'.cell? ⟨ga, 0, none⟩ = some (.int .i64 tree) ∧ w'.cell? ⟨ga, 1, none⟩ = some (.int .i64 node) ∧ (Instr.lookup 81 (.map (some b)) (.agg #[.int .i64 tree, .int .i64 node]) false).run Try.prog w' = .ok (.bool false) w') (ds := []) (uA 27 0) (by kernel_rfl) rfl rfl ⟨hF.1, hF.2.1, hF.2.2.1, hF.2.2.2.1, hF.2.2.2.2⟩ (fun hHeld => ?_)
            refine with_tabW issueR.tab3 issueR.bits3 (fun HT_ HW_ => ?_)
            generalize w2.drew = w3 at hF hHeld HB3 BA3 ⊢
            refine upu 0 (some 23) (uA 27 1) rfl rfl HT_ ?_
            refine upu 1 (some 24) (uA 27 3) rfl rfl HT_ ?_
            refine one_ (i := 2) (N := some 25) (uA 27 7) rfl rfl (one_of HT_.out (by kernel_rfl)) (by decide) (fun K hK => ?_)
            refine goesV_ Try.func35 (by kernel_rfl) rfl #[.int .i64 tree] (by rfl) rfl rfl rfl uM ?_
            refine (hod1 _).mono ?_
            rintro e w9 ⟨rfl, rfl⟩
            refine ⟨_, rfl, ?_⟩
            refine hK.out _ _ ⟨hHeld.1, hHeld.2.1, hHeld.2.2.1, hHeld.2.2.2.1, hHeld.2.2.2.2⟩ (fun hHeld => ?_)
            clear hK K
            refine norm_ (a' := ?_) ?_ ?_
            rotate_left
            · exact (show Act.put _ (some 25) _ = _ from uQ)
            refine upu 3 (some 26) (uA 27 15) rfl rfl HT_ ?_
            refine upu 4 (some 27) (uA 27 31) rfl rfl HT_ ?_
            refine upu 5 (some 28) (uA 27 63) rfl rfl HT_ ?_
            refine one_ (i := 6) (N := some 29) (uA 27 127) rfl rfl (one_of HT_.out (by kernel_rfl)) (by decide) (fun K hK => ?_)
            refine goesV_ Try.func35 (by kernel_rfl) rfl #[.int .i64 node] (by rfl) rfl rfl rfl uM ?_
            refine (hod2 _).mono ?_
            rintro e w9 ⟨rfl, rfl⟩
            refine ⟨_, rfl, ?_⟩
            refine hK.out _ _ ⟨hHeld.1, hHeld.2.1, hHeld.2.2.1, hHeld.2.2.2.1, hHeld.2.2.2.2⟩ (fun hHeld => ?_)
            clear hK K
            refine norm_ (a' := ?_) ?_ ?_
            rotate_left
            · exact (show Act.put _ (some 29) _ = _ from uQ)
            refine upu 7 (some 30) (uA 27 255) rfl rfl HT_ ?_
            refine upu 8 (some 31) (uA 27 511) rfl rfl HT_ ?_
            refine upu 9 (some 32) (uA 27 1023) rfl rfl HT_ ?_
            refine upu 10 (some 33) (uA 27 2047) rfl rfl HT_ ?_
            refine upu 11 (some 34) (uA 27 4095) rfl rfl HT_ ?_
            refine take_ (i := 12) (N := some 35) (v := ?_) (a' := ?_) (uA 27 8191) rfl rfl (take_ofW HT_.out HW_.out (by kernel_rfl)) (fun _ _ _ h => h) (Or.inl ⟨by rfl, ?_⟩) hHeld ?_ ?_
            rotate_left
            · rintro w' ⟨s0, s1, s2, s3, s4⟩
              go_simp
              with_reducible rfl
            rotate_left
            · exact uQ
            refine take_ (i := 13) (N := some 36) (v := ?_) (a' := ?_) (uA 27 16383) rfl rfl (take_ofW HT_.out HW_.out (by kernel_rfl)) (fun _ _ _ h => h) (Or.inl ⟨by rfl, ?_⟩) hHeld ?_ ?_
            rotate_left
            · rintro w' ⟨s0, s1, s2, s3, s4⟩
              go_simp
              with_reducible rfl
            rotate_left
            · exact uQ
            refine take_ (i := 14) (N := some 37) (v := ?_) (a' := ?_) (uA 27 32767) rfl rfl (take_ofW HT_.out HW_.out (by kernel_rfl)) (fun _ _ _ h => h) (Or.inl ⟨by rfl, ?_⟩) hHeld ?_ ?_
            rotate_left
            · rintro w' ⟨s0, s1, s2, s3, s4⟩
              go_simp
              with_reducible rfl
            rotate_left
            · exact uQ
            refine upu 15 (some 38) (uA 27 65535) rfl rfl HT_ ?_
            refine upu 16 (some 39) (uA 27 131071) rfl rfl HT_ ?_
            refine upu 17 (some 40) (uA 27 262143) rfl rfl HT_ ?_
            refine upu 18 (some 41) (uA 27 524287) rfl rfl HT_ ?_
            refine upu 19 (some 42) (uA 27 1048575) rfl rfl HT_ ?_
            refine upu 22 (some 45) (uA 27 5242879) rfl rfl HT_ ?_
            refine upu 23 (some 46) (uA 27 13631487) rfl rfl HT_ ?_
            refine take_ (i := 20) (N := some 43) (v := ?_) (a' := ?_) (uA 27 14680063) rfl rfl (take_ofW HT_.out HW_.out (by kernel_rfl)) (fun _ _ _ h => h) (Or.inl ⟨by rfl, ?_⟩) hHeld ?_ ?_
            rotate_left
            · rintro w' ⟨s0, s1, s2, s3, s4⟩
              go_simp
              with_reducible rfl
            rotate_left
            · exact uQ
            refine upu 21 (some 44) (uA 27 16777215) rfl rfl HT_ ?_
            refine upu 24 (some 47) (uA 27 33554431) rfl rfl HT_ ?_
            refine upu 25 (some 48) (uA 27 67108863) rfl rfl HT_ ?_
            refine upu 26 (some 49) (uA 27 134217727) rfl rfl HT_ ?_
            refine done_ (done_of HT_.out (by kernel_rfl)) ?_
            try go_wp2
            go_meet
            case rel => exact ⟨by unfold badM; rw [h1, h2]; simp only [Bool.false_or, Bool.true_or, Bool.or_true], BA3, HB3⟩
        ·
            have hod1 : ∀ W : World, Calls Try.prog 35 #[.int .i64 tree] W fun e w' => e = .returned (.bool false) ∧ w' = W := fun W => h1 ▸ mask_odd.calls tree W
            have hod2 : ∀ W : World, Calls Try.prog 35 #[.int .i64 node] W fun e w' => e = .returned (.bool false) ∧ w' = W := fun W => h2 ▸ mask_odd.calls node W
            refine start_ (n := 27) (S := fun w' => w'.cell? ⟨g, 0, none⟩ = some (.slice A gs.length c) ∧ w'.cell? ⟨g, 1, none⟩ = some (.map (some b)) ∧ w'.cell? ⟨ga, 0, none⟩ = some (.int .i64 tree) ∧ w'.cell? ⟨ga, 1, none⟩ = some (.int .i64 node) ∧ (Instr.lookup 81 (.map (some b)) (.agg #[.int .i64 tree, .int .i64 node]) false).run Try.prog w' = .ok (.bool true) w') (ds := []) (uA 27 0) (by kernel_rfl) rfl rfl ⟨hF.1, hF.2.1, hF.2.2.1, hF.2.2.2.1, hF.2.2.2.2⟩ (fun hHeld => ?_)
            refine with_tabW issueR.tab3 issueR.bits3 (fun HT_ HW_ => ?_)
            generalize w2.drew = w3 at hF hHeld HB3 BA3 ⊢
            refine upu 0 (some 23) (uA 27 1) rfl rfl HT_ ?_
            refine upu 1 (some 24) (uA 27 3) rfl rfl HT_ ?_
            refine one_ (i := 2) (N := some 25) (uA 27 7) rfl rfl (one_of HT_.out (by kernel_rfl)) (by decide) (fun K hK => ?_)
            refine goesV_ Try.func35 (by kernel_rfl) rfl #[.int .i64 tree] (by rfl) rfl rfl rfl uM ?_
            refine (hod1 _).mono ?_
            rintro e w9 ⟨rfl, rfl⟩
            refine ⟨_, rfl, ?_⟩
            refine hK.out _ _ ⟨hHeld.1, hHeld.2.1, hHeld.2.2.1, hHeld.2.2.2.1, hHeld.2.2.2.2⟩ (fun hHeld => ?_)
            clear hK K
            refine norm_ (a' := ?_) ?_ ?_
            rotate_left
            · exact (show Act.put _ (some 25) _ = _ from uQ)
            refine upu 3 (some 26) (uA 27 15) rfl rfl HT_ ?_
            refine upu 4 (some 27) (uA 27 31) rfl rfl HT_ ?_
            refine upu 5 (some 28) (uA 27 63) rfl rfl HT_ ?_
            refine one_ (i := 6) (N := some 29) (uA 27 127) rfl rfl (one_of HT_.out (by kernel_rfl)) (by decide) (fun K hK => ?_)
            refine goesV_ Try.func35 (by kernel_rfl) rfl #[.int .i64 node] (by rfl) rfl rfl rfl uM ?_
            refine (hod2 _).mono ?_
            rintro e w9 ⟨rfl, rfl⟩
            refine ⟨_, rfl, ?_⟩
            refine hK.out _ _ ⟨hHeld.1, hHeld.2.1, hHeld.2.2.1, hHeld.2.2.2.1, hHeld.2.2.2.2⟩ (fun hHeld => ?_)
            clear hK K
            refine norm_ (a' := ?_) ?_ ?_
            rotate_left
            · exact (show Act.put _ (some 29) _ = _ from uQ)
            refine upu 7 (some 30) (uA 27 255) rfl rfl HT_ ?_
            refine upu 8 (some 31) (uA 27 511) rfl rfl HT_ ?_
            refine upu 9 (some 32) (uA 27 1023) rfl rfl HT_ ?_
            refine upu 10 (some 33) (uA 27 2047) rfl rfl HT_ ?_
            refine upu 11 (some 34) (uA 27 4095) rfl rfl HT_ ?_
            refine take_ (i := 12) (N := some 35) (v := ?_) (a' := ?_) (uA 27 8191) rfl rfl (take_ofW HT_.out HW_.out (by kernel_rfl)) (fun _ _ _ h => h) (Or.inl ⟨by rfl, ?_⟩) hHeld ?_ ?_
            rotate_left
            · rintro w' ⟨s0, s1, s2, s3, s4⟩
              go_simp
              with_reducible rfl
            rotate_left
            · exact uQ
            refine take_ (i := 13) (N := some 36) (v := ?_) (a' := ?_) (uA 27 16383) rfl rfl (take_ofW HT_.out HW_.out (by kernel_rfl)) (fun _ _ _ h => h) (Or.inl ⟨by rfl, ?_⟩) hHeld ?_ ?_
            rotate_left
            · rintro w' ⟨s0, s1, s2, s3, s4⟩
              go_simp
              with_reducible rfl
            rotate_left
            · exact uQ
            refine take_ (i := 14) (N := some 37) (v := ?_) (a' := ?_) (uA 27 32767) rfl rfl (take_ofW HT_.out HW_.out (by kernel_rfl)) (fun _ _ _ h => h) (Or.inl ⟨by rfl, ?_⟩) hHeld ?_ ?_
            rotate_left
            · rintro w' ⟨s0, s1, s2, s3, s4⟩
              go_simp
              with_reducible rfl
            rotate_left
            · exact uQ
            refine upu 15 (some 38) (uA 27 65535) rfl rfl HT_ ?_
            refine upu 16 (some 39) (uA 27 131071) rfl rfl HT_ ?_
            refine upx 17 (some 40) (uA 27 262143) rfl rfl HT_ ?_
            refine upx 18 (some 41) (uA 27 524287) rfl rfl HT_ ?_
            refine upx 19 (some 42) (uA 27 1048575) rfl rfl HT_ ?_
            refine upx 20 (some 43) (uA 27 2097151) rfl rfl HT_ ?_
            refine upx 21 (some 44) (uA 27 4194303) rfl rfl HT_ ?_
            refine upx 22 (some 45) (uA 27 8388607) rfl rfl HT_ ?_
            refine upx 23 (some 46) (uA 27 16777215) rfl rfl HT_ ?_
            refine upx 24 (some 47) (uA 27 33554431) rfl rfl HT_ ?_
            refine upx 25 (some 48) (uA 27 67108863) rfl rfl HT_ ?_
            refine upu 26 (some 49) (uA 27 134217727) rfl rfl HT_ ?_
            refine done_ (done_of HT_.out (by kernel_rfl)) ?_
            try go_wp2
            go_meet
            case rel => exact ⟨by unfold badM; rw [h1, h2]; simp only [Bool.false_or, Bool.true_or, Bool.or_true], BA3, HB3⟩
      ·
          have hod1 : ∀ W : World, Calls Try.prog 35 #[.int .i64 tree] W fun e w' => e = .returned (.bool false) ∧ w' = W := fun W => h1 ▸ mask_odd.calls tree W
          have hod2 : ∀ W : World, Calls Try.prog 35 #[.int .i64 node] W fun e w' => e = .returned (.bool true) ∧ w' = W := fun W => h2 ▸ mask_odd.calls node W
          refine start_ (n := 27) (S := fun w' => w'.cell? ⟨g, 0, none⟩ = some (.slice A gs.length c) ∧ w'.cell? ⟨g, 1, none⟩ = some (.map (some b)) ∧ w'.cell? ⟨ga, 0, none⟩ = some (.int .i64 tree) ∧ w'.cell? ⟨ga, 1, none⟩ = some (.int .i64 node) ∧ (Instr.lookup 81 (.map (some b)) (.agg #[.int .i64 tree, .int .i64 node]) false).run Try.prog w' = .ok (.bool c') w') (ds := []) (uA 27 0) (by kernel_rfl) rfl rfl ⟨hF.1, hF.2.1, hF.2.2.1, hF.2.2.2.1, hF.2.2.2.2⟩ (fun hHeld => ?_)
          refine with_tabW issueR.tab3 issueR.bits3 (fun HT_ HW_ => ?_)
          generalize w2.drew = w3 at hF hHeld HB3 BA3 ⊢
          refine upu 0 (some 23) (uA 27 1) rfl rfl HT_ ?_
          refine upu 1 (some 24) (uA 27 3) rfl rfl HT_ ?_
          refine one_ (i := 2) (N := some 25) (uA 27 7) rfl rfl (one_of HT_.out (by kernel_rfl)) (by decide) (fun K hK => ?_)
          refine goesV_ Try.func35 (by kernel_rfl) rfl #[.int .i64 tree] (by rfl) rfl rfl rfl uM ?_
          refine (hod1 _).mono ?_
          rintro e w9 ⟨rfl, rfl⟩
          refine ⟨_, rfl, ?_⟩
          refine hK.out _ _ ⟨hHeld.1, hHeld.2.1, hHeld.2.2.1, hHeld.2.2.2.1, hHeld.2.2.2.2⟩ (fun hHeld => ?_)
          clear hK K
          refine norm_ (a' := ?_) ?_ ?_
          rotate_left
          · exact (show Act.put _ (some 25) _ = _ from uQ)
          refine upu 3 (some 26) (uA 27 15) rfl rfl HT_ ?_
          refine upu 4 (some 27) (uA 27 31) rfl rfl HT_ ?_
          refine upu 5 (some 28) (uA 27 63) rfl rfl HT_ ?_
          refine one_ (i := 6) (N := some 29) (uA 27 127) rfl rfl (one_of HT_.out (by kernel_rfl)) (by decide) (fun K hK => ?_)
          refine goesV_ Try.func35 (by kernel_rfl) rfl #[.int .i64 node] (by rfl) rfl rfl rfl uM ?_
          refine (hod2 _).mono ?_
          rintro e w9 ⟨rfl, rfl⟩
          refine ⟨_, rfl, ?_⟩
          refine hK.out _ _ ⟨hHeld.1, hHeld.2.1, hHeld.2.2.1, hHeld.2.2.2.1, hHeld.2.2.2.2⟩ (fun hHeld => ?_)
          clear hK K
          refine norm_ (a' := ?_) ?_ ?_
          rotate_left
          · exact (show Act.put _ (some 29) _ = _ from uQ)
          refine upu 7 (some 30) (uA 27 255) rfl rfl HT_ ?_
          refine upu 8 (some 31) (uA 27 511) rfl rfl HT_ ?_
          refine upx 9 (some 32) (uA 27 1023) rfl rfl HT_ ?_
          refine upx 10 (some 33) (uA 27 2047) rfl rfl HT_ ?_
          refine upx 11 (some 34) (uA 27 4095) rfl rfl HT_ ?_
          refine upx 12 (some 35) (uA 27 8191) rfl rfl HT_ ?_
          refine upx 13 (some 36) (uA 27 16383) rfl rfl HT_ ?_
          refine upx 14 (some 37) (uA 27 32767) rfl rfl HT_ ?_
          refine upu 15 (some 38) (uA 27 65535) rfl rfl HT_ ?_
          refine upu 16 (some 39) (uA 27 131071) rfl rfl HT_ ?_
          refine upx 17 (some 40) (uA 27 262143) rfl rfl HT_ ?_
          refine upx 18 (some 41) (uA 27 524287) rfl rfl HT_ ?_
          refine upx 19 (some 42) (uA 27 1048575) rfl rfl HT_ ?_
          refine upx 20 (some 43) (uA 27 2097151) rfl rfl HT_ ?_
          refine upx 21 (some 44) (uA 27 4194303) rfl rfl HT_ ?_
          refine upx 22 (some 45) (uA 27 8388607) rfl rfl HT_ ?_
          refine upx 23 (some 46) (uA 27 16777215) rfl rfl HT_ ?_
          refine upx 24 (some 47) (uA 27 33554431) rfl rfl HT_ ?_
          refine upx 25 (some 48) (uA 27 67108863) rfl rfl HT_ ?_
          refine upu 26 (some 49) (uA 27 134217727) rfl rfl HT_ ?_
          refine done_ (done_of HT_.out (by kernel_rfl)) ?_
          try go_wp2
          go_meet
          case rel => exact ⟨by unfold badM; rw [h1, h2]; simp only [Bool.false_or, Bool.true_or, Bool.or_true], BA3, HB3⟩
    ·
        have hod1 : ∀ W : World, Calls Try.prog 35 #[.int .i64 tree] W fun e w' => e = .returned (.bool true) ∧ w' = W := fun W => h1 ▸ mask_odd.calls tree W
        refine start_ (n := 27) (S := fun w' => w'.cell? ⟨g, 0, none⟩ = some (.slice A gs.length c) ∧ w'.cell? ⟨g, 1, none⟩ = some (.map (some b)) ∧ w'.cell? ⟨ga, 0, none⟩ = some (.int .i64 tree) ∧ w'.cell? ⟨ga, 1, none⟩ = some (.int .i64 node) ∧ (Instr.lookup 81 (.map (some b)) (.agg #[.int .i64 tree, .int .i64 node]) false).run Try.prog w' = .ok (.bool c') w') (ds := []) (uA 27 0) (by kernel_rfl) rfl rfl ⟨hF.1, hF.2.1, hF.2.2.1, hF.2.2.2.1, hF.2.2.2.2⟩ (fun hHeld => ?_)
        refine with_tabW issueR.tab3 issueR.bits3 (fun HT_ HW_ => ?_)
        generalize w2.drew = w3 at hF hHeld HB3 BA3 ⊢
        refine upu 0 (some 23) (uA 27 1) rfl rfl HT_ ?_
        refine upu 1 (some 24) (uA 27 3) rfl rfl HT_ ?_
        refine one_ (i := 2) (N := some 25) (uA 27 7) rfl rfl (one_of HT_.out (by kernel_rfl)) (by decide) (fun K hK => ?_)
        refine goesV_ Try.func35 (by kernel_rfl) rfl #[.int .i64 tree] (by rfl) rfl rfl rfl uM ?_
        refine (hod1 _).mono ?_
        rintro e w9 ⟨rfl, rfl⟩
        refine ⟨_, rfl, ?_⟩
        refine hK.out _ _ ⟨hHeld.1, hHeld.2.1, hHeld.2.2.1, hHeld.2.2.2.1, hHeld.2.2.2.2⟩ (fun hHeld => ?_)
        clear hK K
        refine norm_ (a' := ?_) ?_ ?_
        rotate_left
        · exact (show Act.put _ (some 25) _ = _ from uQ)
        refine upu 3 (some 26) (uA 27 15) rfl rfl HT_ ?_
        refine upx 4 (some 27) (uA 27 31) rfl rfl HT_ ?_
        refine upx 5 (some 28) (uA 27 63) rfl rfl HT_ ?_
        refine upx 6 (some 29) (uA 27 127) rfl rfl HT_ ?_
        refine upu 7 (some 30) (uA 27 255) rfl rfl HT_ ?_
        refine upu 8 (some 31) (uA 27 511) rfl rfl HT_ ?_
        refine upx 9 (some 32) (uA 27 1023) rfl rfl HT_ ?_
        refine upx 10 (some 33) (uA 27 2047) rfl rfl HT_ ?_
        refine upx 11 (some 34) (uA 27 4095) rfl rfl HT_ ?_
        refine upx 12 (some 35) (uA 27 8191) rfl rfl HT_ ?_
        refine upx 13 (some 36) (uA 27 16383) rfl rfl HT_ ?_
        refine upx 14 (some 37) (uA 27 32767) rfl rfl HT_ ?_
        refine upu 15 (some 38) (uA 27 65535) rfl rfl HT_ ?_
        refine upu 16 (some 39) (uA 27 131071) rfl rfl HT_ ?_
        refine upx 17 (some 40) (uA 27 262143) rfl rfl HT_ ?_
        refine upx 18 (some 41) (uA 27 524287) rfl rfl HT_ ?_
        refine upx 19 (some 42) (uA 27 1048575) rfl rfl HT_ ?_
        refine upx 20 (some 43) (uA 27 2097151) rfl rfl HT_ ?_
        refine upx 21 (some 44) (uA 27 4194303) rfl rfl HT_ ?_
        refine upx 22 (some 45) (uA 27 8388607) rfl rfl HT_ ?_
        refine upx 23 (some 46) (uA 27 16777215) rfl rfl HT_ ?_
        refine upx 24 (some 47) (uA 27 33554431) rfl rfl HT_ ?_
        refine upx 25 (some 48) (uA 27 67108863) rfl rfl HT_ ?_
        refine upu 26 (some 49) (uA 27 134217727) rfl rfl HT_ ?_
        refine done_ (done_of HT_.out (by kernel_rfl)) ?_
        try go_wp2
        go_meet
        case rel => exact ⟨by unfold badM; rw [h1]; simp only [Bool.false_or, Bool.true_or, Bool.or_true], BA3, HB3⟩
  case rest =>
    obtain ⟨rfl, BA, HB⟩ := hcut
    have hf := HF.out
    clear HF HM HMAP
    unfold issue.f at hf
    by_cases hbad : badM tree node inN gs.length cuts.length = true
    · rw [if_pos hbad] at hf
      obtain rfl := Option.some.inj hf
      rw [hbad]
      clear hf hbad
      go_wp2
      go_ret3
      exact ⟨none, 0, none, 0, rfl, Ri.nil0 _ _, Ri.nil0 _ _, below_step HW.out HB.out, HTP.out.same (fun k hk => HB.out.block k (by have := HTP.out.lt; omega)), by show (if (1 : Int) = 0 then _ else _); rw [if_neg (by decide)]; exact HMI.out.below HB.out⟩
    · rw [if_neg hbad] at hf
      rw [Bool.eq_false_iff.mpr hbad]
      obtain ⟨⟨v, er, L2⟩, hsh, hf⟩ := Option.bind_eq_some_iff.mp hf
      have HSH := Aside0.mk hsh
      have HTW := Aside0.mk (show Tp wc gt (fun k => k < gt) L from HTP.out.same (fun k hk => HB.out.block k (by have := HTP.out.lt; omega)))
      simp only at hf
      clear hsh hbad
      by_cases he : er = 0
      · subst he
        rw [if_pos rfl] at hf
        by_cases hall : v.length ≤ 16384 ∧ ∀ i ∈ v, 0 ≤ i ∧ i < (cuts.length : Int)
        · rw [if_pos hall] at hf
          obtain rfl := Option.some.inj hf
          have HALL := Aside0.mk hall
          clear hf hall
          go_wp2_with (go_at_call 32; refine (shuffle.calls k gt L (cuts.length : Int) (fun k => k < gt) (v, _, L2) _ HTW.out (Nat.lt_irrefl _) (fun k hk => Nat.lt_trans hk HTW.out.lt) HSH.out).mono ?_; rintro e w3 ⟨Ao, co, rfl, hr3, hT3, hS3⟩; obtain ⟨A3, c3, hI⟩ := IssI.start HMI.out HW.out ⟨HST.out.1, HST.out.2.1, HST.out.2.2.1, HST.out.2.2.2⟩ HB.out BA.out HGA.out hS3 hT3 hr3; have HI := Aside0.mk hI; clear HTW HB BA hr3 hT3 hS3 hI)
          have hvl : v.length ≤ 16384 := HALL.out.1
          have hgl : gs.length ≤ 1048576 := HGS.out
          go_loopg [62, 17] v.length (fun gg v62 v17 wr => ∃ (i : Nat) (Av : Option Addr) (cv : Nat) (gi : List (Int × Int × Int × Int)) (iv : Value), v62 = .int .i64 (i : Int) ∧ v17 = iv ∧ i ≤ v.length ∧ v.length - i ≤ gg ∧ gi = gs ++ (v.take i).map (givenV cuts tree node) ∧ Aside0 (IssI W0 w.heap.size w3.heap.size g b gt ga n tree node D L2 Ao co v (.slice Av gi.length cv) (.slice Av gi.length cv) gi iv (idsV gs.length i) wr))
          case atStart => exact ⟨0, A3, c3, gs, _, rfl, rfl, by omega, by omega, by simp, HI⟩
          case round =>
            clear HI
            obtain ⟨i, Av, cv, gi, iv, rfl, e17, hi, hgg, hgi, HI⟩ := hrel
            replace e17 := e17.symm
            subst e17
            have hgil : gi.length = gs.length + i := by rw [hgi, List.length_append, List.length_map, List.length_take]; omega
            by_cases hlt : i < v.length
            · have hltz : decide ((i : Int) < (v.length : Int)) = true := decide_eq_true (by omega)
              have hiz : (0 : Int) ≤ (i : Int) := by omega
              have hiy : (i : Int) < (v.length : Int) := by omega
              obtain ⟨ao, hA, hx⟩ := Kd.at_int (Kd.F_now HI.out.ord.1) (i : Int) hiz hiy
              subst hA
              simp only [Go.IntWalk.toNatUp] at hx
              have hmem : v.getD i 0 ∈ v := by rw [List.getD_eq_getElem?_getD, List.getElem?_eq_getElem hlt]; exact List.getElem_mem hlt
              obtain ⟨hq0, hq1⟩ := HALL.out.2 _ hmem
              have hstep : v.take (i + 1) = v.take i ++ [v.getD i 0] := by rw [List.take_add_one, List.getD_eq_getElem?_getD, List.getElem?_eq_getElem hlt]; rfl
              have hrd : rd v (i : Int) = v.getD i 0 := rfl
              rw [hrd] at hx
              generalize v.getD i 0 = y at hx hq0 hq1 hstep
              obtain ⟨q, rfl⟩ := Int.eq_ofNat_of_zero_le hq0
              have hqn : q < cuts.length := by omega
              obtain ⟨ad, hAc, ⟨xf, xc⟩, hxe, hc0, hc1⟩ := CD_get HCU.out q hqn
              subst hAc
              simp only at hc0 hc1
              have HCC := Aside0.mk (show W0.cell? (ad.add (q * 2)) = some (.int .i64 xf) ∧ W0.cell? ⟨(ad.add (q * 2)).block, (ad.add (q * 2)).off + 1, none⟩ = some (.int .i64 xc) from ⟨hc0, hc1⟩)
              have HCL := Aside0.mk (show (ad.add (q * 2)).block < W0.heap.size ∧ (⟨(ad.add (q * 2)).block, (ad.add (q * 2)).off + 1, none⟩ : Addr).block < W0.heap.size from ⟨World.block_lt_of_cell? _ _ hc0, World.block_lt_of_cell? _ _ hc1⟩)
              have hgn : gi ++ [(xf, xc, tree, node)] = gs ++ (v.take (i + 1)).map (givenV cuts tree node) := by rw [hstep, List.map_append, ← List.append_assoc, ← hgi]; simp only [List.map_cons, List.map_nil, givenV, Int.toNat_natCast, ← hxe]
              have HGN := Aside0.mk hgn
              have HGIL := Aside0.mk hgil
              have hids : idsV gs.length (i + 1) = idsV gs.length i ++ [(gi.length : Int)] := by rw [hgil]; simp [idsV, List.range_succ]
              have HIDS := Aside0.mk hids
              have HGL := Aside0.mk (show (gi.length + 1) * 32 ≤ 140737488355328 by omega)
              have HIL := Aside0.mk (show (idsV gs.length i).length = i by simp [idsV])
              have hq2 : decide ((q : Int) < 0) = false := decide_eq_false (by omega)
              have hq3 : decide ((cuts.length : Int) ≤ (q : Int)) = false := decide_eq_false (by omega)
              have hm1 : wr.cell? ⟨g, 0, none⟩ = some (.slice Av gi.length cv) := (blk_cell HI.out.mask 0).trans rfl
              clear hgi hc0 hc1 hxe hgn hids hstep hmem hrd hgil
              go_upto_region 13 with (first
                | ((with_reducible refine gate_dst (N := 72) rfl ?_); refine Kd.R_lit (Kd.int .i64) _ 3 ?hg (N := 72) ?hd (xs := ([(gi.length : Int)] : List Int)) (inner := [.int .i64 (gi.length : Int)]) (ok := fun _ => True) (okp := fun _ => True) ?hr ?hp (fun _ hk => hk) trivial (Below.refl _ _) (Nat.le_refl _) (by simp) ?_; (case hd => rfl); (case hg => rfl); (case hr => first | (go_simp; done) | (go_simp; rfl)); (case hp => exact (Reps.one (show Kd.M (Kd.int .i64) _ _ _ (gi.length : Int) [.int .i64 (gi.length : Int)] from rfl) (Reps.none _ _))); intro v5 w5 ho hb hg_ hnew_; clear hg_ hnew_ hx hm1; obtain ⟨A5, c5, ev⟩ := Kd.R_slice ho; subst ev; have HO5 := Aside0.mk (Kd.R_reads' ho); have HI5 := Aside0.mk (HI.out.quiet hb); clear HI ho hb)
                | ((with_reducible refine gate_builtin (b := .append) (xs := #[.tmp 66, .tmp 72]) rfl ?_); at_builtin; refine Kd.R_append_rows (Kd.int .i64) (w0 := w5) w3.heap.size rfl (.tmp 66) (.tmp 72) 32 3 (.int .i64 0) 8 rfl Try.underlying32 infoInt20 rfl (by decide) (by omega) iv (idsV gs.length i) [(gi.length : Int)] _ _ _ (fun _ => True) (fun _ => False) rfl rfl HI5.out.ids HO5.out.2.2 (fun _ _ h => h) (fun _ h => h.elim) (fun _ _ => trivial) (Below.refl _ _) HI5.out.size (by have := HIL.out; simp only [List.length_cons, List.length_nil]; omega) ?_; intro v2 wp ho hb hg_ hat_; have HI := Aside0.mk (show IssI W0 w.heap.size w3.heap.size g b gt ga n tree node D L2 _ co v (.slice Av gi.length cv) (.slice Av gi.length cv) gi v2 (idsV gs.length (i + 1)) wp from HIDS.out ▸ HI5.out.more ho hg_); clear HI5 HO5 ho hb hg_ hat_))
              (try simp only [Act.put, List.setIfInBounds_toArray, List.set_cons_zero, List.set_cons_succ])
              replace HI := Aside0.mk (HI.out.quiet (below_drew1 (Below.refl _ _)))
              have hF : wp.drew.cell? ⟨g, 0, none⟩ = some (.slice Av gi.length cv) ∧ wp.drew.cell? (ad.add (q * 2)) = some (.int .i64 xf) ∧ wp.drew.cell? ⟨(ad.add (q * 2)).block, (ad.add (q * 2)).off + 1, none⟩ = some (.int .i64 xc) ∧ wp.drew.cell? ⟨ga, 0, none⟩ = some (.int .i64 tree) ∧ wp.drew.cell? ⟨ga, 1, none⟩ = some (.int .i64 node) := ⟨(blk_cell HI.out.mask 0).trans rfl, (HI.out.hb.cell HCL.out.1).trans HCC.out.1, (HI.out.hb.cell HCL.out.2).trans HCC.out.2, (blk_cell HI.out.at_ 0).trans rfl, (blk_cell HI.out.at_ 1).trans rfl⟩
              refine start_ (n := 16) (S := fun w' => w'.cell? ⟨g, 0, none⟩ = some (.slice Av gi.length cv) ∧ w'.cell? (ad.add (q * 2)) = some (.int .i64 xf) ∧ w'.cell? ⟨(ad.add (q * 2)).block, (ad.add (q * 2)).off + 1, none⟩ = some (.int .i64 xc) ∧ w'.cell? ⟨ga, 0, none⟩ = some (.int .i64 tree) ∧ w'.cell? ⟨ga, 1, none⟩ = some (.int .i64 node)) (ds := [15]) (uA 16 0) (by kernel_rfl) rfl rfl ⟨hF.1, hF.2.1, hF.2.2.1, hF.2.2.2.1, hF.2.2.2.2⟩ (fun hHeld => ?_)
              refine with_tabW issueR.tab13 issueR.bits13 (fun HT_ HW_ => ?_)
              generalize wp.drew = wq at hF hHeld HI ⊢
              refine upu 0 (some 74) (uA 16 1) rfl rfl HT_ ?_
              refine upu 1 (some 75) (uA 16 3) rfl rfl HT_ ?_
              refine upu 2 (some 76) (uA 16 7) rfl rfl HT_ ?_
              refine upu 3 (some 77) (uA 16 15) rfl rfl HT_ ?_
              refine upu 5 (some 79) (uA 16 47) rfl rfl HT_ ?_
              refine upu 6 (some 80) (uA 16 111) rfl rfl HT_ ?_
              refine upu 7 (some 81) (uA 16 239) rfl rfl HT_ ?_
              refine take_ (i := 4) (N := some 78) (v := ?_) (a' := ?_) (uA 16 255) rfl rfl (take_ofW HT_.out HW_.out (by kernel_rfl)) (fun _ _ _ h => h) (Or.inl ⟨by rfl, ?_⟩) hHeld ?_ ?_
              rotate_left
              · rintro w' ⟨s0, s1, s2, s3, s4⟩
                go_simp
                with_reducible rfl
              rotate_left
              · exact uQ
              refine take_ (i := 8) (N := some 82) (v := ?_) (a' := ?_) (uA 16 511) rfl rfl (take_ofW HT_.out HW_.out (by kernel_rfl)) (fun _ _ _ h => h) (Or.inl ⟨by rfl, ?_⟩) hHeld ?_ ?_
              rotate_left
              · rintro w' ⟨s0, s1, s2, s3, s4⟩
                go_simp
                with_reducible rfl
              rotate_left
              · exact uQ
              refine take_ (i := 9) (N := some 83) (v := ?_) (a' := ?_) (uA 16 1023) rfl rfl (take_ofW HT_.out HW_.out (by kernel_rfl)) (fun _ _ _ h => h) (Or.inl ⟨by rfl, ?_⟩) hHeld ?_ ?_
              rotate_left
              · rintro w' ⟨s0, s1, s2, s3, s4⟩
                go_simp
                with_reducible rfl
              rotate_left
              · exact uQ
              refine upu 10 (some 84) (uA 16 2047) rfl rfl HT_ ?_
              refine one_ (i := 11) (N := some 85) (uA 16 4095) rfl rfl (one_of HT_.out (by kernel_rfl)) (by decide) (fun K hK => ?_)
              refine value_ (w1 := wq.alloc (.cells #[.int .i64 xf, .int .i64 xc, .int .i64 tree, .int .i64 node] 87 (0, 0))) (v := .slice (some ⟨wq.heap.size, 0, none⟩) 1 1) (by rfl) rfl ?_ ?_
              · first | (go_simp; done) | (go_simp; rfl)
              refine hK.out _ _ ⟨cellA hHeld.1 _, cellA hHeld.2.1 _, cellA hHeld.2.2.1 _, cellA hHeld.2.2.2.1 _, cellA hHeld.2.2.2.2 _⟩ (fun hHeld => ?_)
              clear hK K
              refine norm_ (a' := ?_) ?_ ?_
              rotate_left
              · exact (show Act.put _ (some 85) _ = _ from uQ)
              refine one_ (i := 12) (N := some 86) (uA 16 8191) rfl rfl (one_of HT_.out (by kernel_rfl)) (by decide) (fun K hK => ?_)
              refine Kd.R_append_step GD (w0 := W0) W0.heap.size (by rfl) (.tmp 78) (.tmp 85) 82 87 (.agg #[.int .i64 0, .int .i64 0, .int .i64 0, .int .i64 0]) 32 rfl Try.underlying82 infoG rfl (by decide) (by omega) (.slice Av gi.length cv) gi (xf, xc, tree, node) [.int .i64 xf, .int .i64 xc, .int .i64 tree, .int .i64 node] (fun k => (k < w.heap.size ∨ w3.heap.size ≤ k) ∧ gt < k ∧ k ≠ g ∧ k ≠ b) (fun _ => False) rfl rfl (GD_M _ _ _ _ _ _ _) (fun _ h => h.elim) (fun k hk => by have := HI.out.size; have := HI.out.st; omega) HI.out.giv HI.out.hb HI.out.hb.size (by have := HGL.out; omega) ?_
              intro v1 w10 ho hb hg_ hat_
              have HI10 := Aside0.mk (HI.out.given ho hg_)
              obtain ⟨A1, c1, e1⟩ := Kd.R_slice ho
              subst e1
              clear HI ho hb hg_ hat_
              refine hK.out _ _ ⟨(blk_cell HI10.out.mask 0).trans rfl, (HI10.out.hb.cell HCL.out.1).trans HCC.out.1, (HI10.out.hb.cell HCL.out.2).trans HCC.out.2, (blk_cell HI10.out.at_ 0).trans rfl, (blk_cell HI10.out.at_ 1).trans rfl⟩ (fun hHeld => ?_)
              clear hK K
              refine norm_ (a' := ?_) ?_ ?_
              rotate_left
              · exact (show Act.put _ (some 86) _ = _ from uQ)
              refine upu 13 (some 87) (uA 16 16383) rfl rfl HT_ ?_
              refine upu 14 (some 88) (uA 16 32767) rfl rfl HT_ ?_
              refine last_ (i := 15) (N := none) (uA 16 65535) rfl rfl (one_of HT_.out (by kernel_rfl)) (by decide) (fun K hK => ?_)
              have hz0 : w10.cell? ⟨g, 0, none⟩ = some (.slice Av gi.length cv) := (blk_cell HI10.out.mask 0).trans rfl
              have hz1 := blk_frozen HI10.out.mask 0
              refine skip_ (w1 := w10.setCell ⟨g, 0, none⟩ (.slice A1 (gi ++ [(xf, xc, tree, node)]).length c1)) (by rfl) rfl ?_ ?_
              · first | (go_simp; done) | (go_simp; rfl)
              have HI11 := Aside0.mk (HI10.out.store (.slice A1 (gi ++ [(xf, xc, tree, node)]).length c1))
              clear HI10 hz0 hz1
              generalize w10.setCell ⟨g, 0, none⟩ (.slice A1 (gi ++ [(xf, xc, tree, node)]).length c1) = w11 at HI11 ⊢
              refine hK.out _ _ ?_
              clear hK K
              refine done_ (done_of HT_.out (by kernel_rfl)) ?_
              try go_wp2
              go_roundg (v.length - (i + 1))
              case measure => omega
              case rel => exact ⟨i + 1, A1, c1, gi ++ [(xf, xc, tree, node)], _, by go_num, rfl, by omega, by omega, HGN.out, HI11⟩
            · have hltz : decide ((i : Int) < (v.length : Int)) = false := decide_eq_false (by omega)
              obtain rfl : i = v.length := by omega
              rw [List.take_length] at hgi
              subst hgi
              obtain ⟨Ai, ci, ei⟩ := Kd.R_slice HI.out.ids
              subst ei
              clear hgil hgg hi
              go_upto_region 15 with (fail)
              (try simp only [Act.put, List.setIfInBounds_toArray, List.set_cons_zero, List.set_cons_succ])
              replace HI := Aside0.mk (HI.out.quiet (below_drew1 (Below.refl _ _)))
              have hF : wr.drew.cell? ⟨g, 1, none⟩ = some (.map (some b)) ∧ wr.drew.cell? ⟨ga, 0, none⟩ = some (.int .i64 tree) ∧ wr.drew.cell? ⟨ga, 1, none⟩ = some (.int .i64 node) := ⟨(blk_cell HI.out.mask 1).trans rfl, (blk_cell HI.out.at_ 0).trans rfl, (blk_cell HI.out.at_ 1).trans rfl⟩
              obtain ⟨w5, hrun, hmu⟩ := MapAt.put HI.out.map HNB.out HT.out HN.out
              replace hrun : (Instr.mapUpdate 81 (.map (some b)) (.agg #[.int .i64 tree, .int .i64 node]) (.bool true)).run Try.prog wr.drew = .ok () w5 := hrun
              have HMU := Aside0.mk (HI.out.mapped hmu.1 hmu.2)
              clear hmu
              refine start_ (n := 6) (S := fun w' => w'.cell? ⟨g, 1, none⟩ = some (.map (some b)) ∧ w'.cell? ⟨ga, 0, none⟩ = some (.int .i64 tree) ∧ w'.cell? ⟨ga, 1, none⟩ = some (.int .i64 node)) (ds := [5]) (uA 6 0) (by kernel_rfl) rfl rfl ⟨hF.1, hF.2.1, hF.2.2⟩ (fun hHeld => ?_)
              generalize wr.drew = wq at hF hHeld HI hrun HMU ⊢
              refine pure_ (i := 0) (N := some 90) (v := ?_) (a' := ?_) (uA 6 1) rfl rfl (by kernel_rfl) (fun _ _ _ h => h) (Or.inl ⟨by rfl, ?_⟩) ?_ ?_
              rotate_left
              · intro w'
                go_simp
                with_reducible rfl
              rotate_left
              · exact uQ
              refine pure_ (i := 1) (N := some 91) (v := ?_) (a' := ?_) (uA 6 3) rfl rfl (by kernel_rfl) (fun _ _ _ h => h) (Or.inl ⟨by rfl, ?_⟩) ?_ ?_
              rotate_left
              · intro w'
                go_simp
                with_reducible rfl
              rotate_left
              · exact uQ
              refine pure_ (i := 2) (N := some 92) (v := ?_) (a' := ?_) (uA 6 7) rfl rfl (by kernel_rfl) (fun _ _ _ h => h) (Or.inl ⟨by rfl, ?_⟩) ?_ ?_
              rotate_left
              · intro w'
                go_simp
                with_reducible rfl
              rotate_left
              · exact uQ
              refine take_ (i := 3) (N := some 93) (v := ?_) (a' := ?_) (uA 6 15) rfl rfl (by kernel_rfl) (fun _ _ _ h => h) (Or.inl ⟨by rfl, ?_⟩) hHeld ?_ ?_
              rotate_left
              · rintro w' ⟨s0, s1, s2⟩
                go_simp
                with_reducible rfl
              rotate_left
              · exact uQ
              refine take_ (i := 4) (N := some 94) (v := ?_) (a' := ?_) (uA 6 31) rfl rfl (by kernel_rfl) (fun _ _ _ h => h) (Or.inl ⟨by rfl, ?_⟩) hHeld ?_ ?_
              rotate_left
              · rintro w' ⟨s0, s1, s2⟩
                go_simp
                with_reducible rfl
              rotate_left
              · exact uQ
              refine last_ (i := 5) (N := none) (uA 6 63) rfl rfl (by kernel_rfl) (by decide) (fun K hK => ?_)
              refine skip_ (w1 := w5) (by rfl) rfl ?_ ?_
              · first | (go_simp; done) | (go_simp; rfl) | (go_simp; rw [hrun]; rfl) | (simp [execOp, Act.eval, hrun]; done)
              refine hK.out _ _ ?_
              clear hK K
              refine done_ (by kernel_rfl) ?_
              try go_wp2
              go_ret3
              have hF1 := HMU.out.st
              have hids := HMU.out.ids
              have hlen : (idsV gs.length v.length).length = v.length := by simp [idsV]
              exact ⟨Ao, co, Ai, ci, rfl, ⟨Kd.F_mono HMU.out.ord.1 (fun k hk => hk.1), HMU.out.ord.2⟩, ⟨Kd.R_F (Kd.R_mono (Kd.R_bound hids) (fun k hk => by have := hk.2.1; omega)), (Kd.R_reads' hids).2.1⟩, HMU.out.hb, HMU.out.tape, by show (if (0 : Int) = 0 then _ else _); rw [if_pos rfl]; exact ⟨Av, cv, HMU.out.mask, Kd.R_mono HMU.out.giv (fun k hk => hk.2), HMU.out.map⟩⟩
        · rw [if_neg hall] at hf
          cases hf
      · rw [if_neg he] at hf
        obtain rfl := Option.some.inj hf
        have hz : (er == 0) = false := beq_eq_false_iff_ne.mpr he
        have hz2 : (er != 0) = true := bne_iff_ne.mpr he
        have HE := Aside0.mk he
        clear hf he
        go_wp2_with (go_at_call 32; refine (shuffle.calls k gt L (cuts.length : Int) (fun k => k < gt) (v, _, L2) _ HTW.out (Nat.lt_irrefl _) (fun k hk => Nat.lt_trans hk HTW.out.lt) HSH.out).mono ?_; rintro e w3 ⟨Ao, co, rfl, hr3, hT3, hS3⟩; have HS3 := Aside0.mk hS3; have HT3 := Aside0.mk hT3; clear HTW hr3 hT3 hS3)
        go_ret3
        exact ⟨none, 0, none, 0, rfl, Ri.nil0 _ _, Ri.nil0 _ _, HS3.out.below (below_step HW.out HB.out) HST.out.1, HT3.out, by show (if er = 0 then _ else _); rw [if_neg HE.out]; exact (HMI.out.below HB.out).stay HS3.out HST.out.2.1 HST.out.2.2.1⟩
end Go.Proofs.Ytnaphgnkhhapoaa.F
end
section
namespace Go.Proofs.Ytnaphgnkhhapoaa.F
open Go.RowKit Go.Proofs.YtnaphgnkhhapoaaW.PrintWords Go.Proofs.YtnaphgnkhhapoaaW.PrintLast Go.Proofs.YtnaphgnkhhapoaaW.PrintMore
set_option linter.unusedVariables false
set_option linter.unusedSimpArgs false
theorem infoBoolF : (Try.prog.info? 4).map (fun i => (i.zero, i.size, i.bytes)) = some (some (.bool false), 1, 1) := by kernel_rfl
theorem eqCutS (d : Nat) (w : World) (x0 x1 : Int) : (Op.equalIn (d + 2) 38 (.agg #[.int .i64 x0, .int .i64 x1]) (.agg #[.int .i64 x0, .int .i64 x1])).run Try.prog w = .ok true w := by
  have h : (Op.equalIn (d + 2) 38 (.agg #[.int .i64 x0, .int .i64 x1]) (.agg #[.int .i64 x0, .int .i64 x1])).run Try.prog w = .ok (x0 == x0 && (x1 == x1)) w := by
    refine eqA_of Try.underlying38 (by kernel_rfl) ?_
    refine eqf_cons (by rfl) (by go_simp; rfl) (by go_simp; rfl) (by go_simp) ?_
    exact eqf_last (by rfl) (by go_simp; rfl) (by go_simp; rfl) (by go_simp)
  simpa using h
attribute [local go_sem high] eqCutS
def findsR.T16 : Bool × List (List Nat × List Nat) := (true, [([], []), ([0], [0]), ([1], [1]), ([2], [2]), ([2], [2]), ([4, 2], [2, 4]), ([3, 5, 2], [2, 3, 5]), ([2, 6], [2, 6]), ([7, 2], [7]), ([8], [8]), ([8], [8]), ([10, 8], [8, 10]), ([9, 11, 8], [8, 9, 11]), ([8, 12], [8, 12]), ([13, 8], [13]), ([14], [14]), ([14], [14]), ([15, 16, 14], [14, 15, 16]), ([17, 14], [14, 17]), ([18, 14], [14, 18]), ([14, 19], [14, 19]), ([20, 14], [20]), ([21], [21]), ([21], [21]), ([22, 23, 21], [21, 22, 23]), ([24, 21], [21, 24]), ([21], [21]), ([26, 21], [21, 26]), ([25, 27, 21], [21, 25, 27]), ([21, 28], [21, 28]), ([29, 21], [29]), ([30], [30]), ([30], [30]), ([30], [30]), ([32, 33, 30], [30, 32, 33]), ([34, 30], [30, 34]), ([31, 35, 30], [30, 31, 35]), ([36, 30], [30, 36]), ([30, 37], [30, 37]), ([38, 30], [38]), ([39], [39]), ([39], [39]), ([39], [39]), ([39], [39]), ([42, 43, 39], [39, 42, 43]), ([44, 39], [39, 44]), ([41, 45, 39], [39, 41, 45]), ([46, 39], [39, 46]), ([40, 47, 39], [39, 40, 47]), ([39, 48], [39, 48])])
def findsR.B16 : List Nat := [0, 1, 3, 7, 7, 23, 63, 127, 255, 511, 511, 1535, 4095, 8191, 16383, 32767, 32767, 131071, 262143, 524287, 1048575, 2097151, 4194303, 4194303, 16777215, 33554431, 4194303, 71303167, 268435455, 536870911, 1073741823, 2147483647, 2147483647, 2147483647, 15032385535, 32212254719, 68719476735, 137438953471, 274877906943, 549755813887, 1099511627775, 1099511627775, 1099511627775, 1099511627775, 14293651161087, 31885837205503, 69269232549887, 139637976727551, 281474976710655, 562949953421311]
theorem findsR.tab16 : rtab .any (opsOf Try.f3 16) = findsR.T16 := by kernel_rfl
theorem findsR.bits16 : waitsOk findsR.T16.2 findsR.B16 = true := by kernel_rfl
theorem windbreaklaw20_SplitmaskFinds.long (A0 : Option Addr) (c0 : Nat) (l0 : List Int) (tree node : Int) (Ac : Option Addr) (cc : Nat) (cuts : List (Int × Int)) (w : World) (hr0 : Kd.C (Kd.int .u8) w A0 l0.length l0) (hc0 : l0.length ≤ c0) (hC : CD.C w Ac cuts.length cuts) (ha : ∃ k r, shuffle.f k 3 [0, 0] = some ([1, 2, 0], 0, r)) (c2 : (l0.length : Int) > 65536) :
    Calls Try.prog 3 #[.slice A0 l0.length c0, .agg #[.int .i64 tree, .int .i64 node], .slice Ac cuts.length cc] w fun e w' => e = .returned (.bool true) ∧ Below w.heap.size w w' := by
  have HR0 := Aside0.mk hr0
  have HC0 := Aside0.mk hc0
  have HB := Aside0.mk (Below.refl w.heap.size w)
  have huA := Try.underlying23
  obtain ⟨ka, ra, hka⟩ := ha
  have HA := Aside0.mk hka
  have C2 := Aside0.mk c2
  have c2z : decide ((65536 : Int) < (l0.length : Int)) = true := decide_eq_true c2
  clear hr0 hka c2 hC
  go_enter Try.func3, Try.ntmps3
  go_wp2_with (first
    | ((with_reducible refine gate_dst (N := 4) rfl ?_); refine box_event ?hg (N := 4) ?hd (cs := #[.int .i64 tree, .int .i64 node]) (t := 23) ?hr ?_; (case hd => rfl); (case hg => rfl); (case hr => first | (go_simp; done) | (go_simp; rfl)); intro gb hg w0 hbox hb; have BX := Aside0.mk hbox; have HB0 := Aside0.mk (below_step HB.out hb); clear HB hbox hb hg)
    | (go_at_call 7; refine (awake.calls ka ra _ HA.out).mono ?_; rintro e w1 ⟨rfl, hb⟩; have HB1 := Aside0.mk (below_step HB0.out hb); have BX0 := Aside0.mk (blk_below BX.out hb); clear HB0 BX hb)
    | (go_at_call 8; (refine (tape_fresh20.long _ _ l0 _ (Kd.C_below HR0.out HB1.out) HC0.out C2.out).mono ?_); rintro e w2 ⟨rfl, hb⟩; have HB2 := Aside0.mk (below_step HB1.out hb); clear HB1 hb)
    | (go_at_call 9; refine (mask_New.calls _).mono ?_; rintro e w3 ⟨g, b, rfl, hb1, hb2, hM, hmap, hb⟩; have HB3 := Aside0.mk (below_step HB2.out hb); clear HB2 hb hb1 hb2 hM hmap))
  go_ret
  exact ⟨rfl, HB3.out⟩
theorem windbreaklaw20_SplitmaskFinds.many (A0 : Option Addr) (c0 : Nat) (l0 : List Int) (tree node : Int) (Ac : Option Addr) (cc : Nat) (cuts : List (Int × Int)) (w : World) (hr0 : Kd.C (Kd.int .u8) w A0 l0.length l0) (hc0 : l0.length ≤ c0) (hC : CD.C w Ac cuts.length cuts) (ha : ∃ k r, shuffle.f k 3 [0, 0] = some ([1, 2, 0], 0, r)) (hL : l0.length ≤ 65536) (hm : (cuts.length : Int) > 20000) :
    Calls Try.prog 3 #[.slice A0 l0.length c0, .agg #[.int .i64 tree, .int .i64 node], .slice Ac cuts.length cc] w fun e w' => e = .returned (.bool true) ∧ Below w.heap.size w w' := by
  have HR0 := Aside0.mk hr0
  have HC0 := Aside0.mk hc0
  have HB := Aside0.mk (Below.refl w.heap.size w)
  have huA := Try.underlying23
  obtain ⟨ka, ra, hka⟩ := ha
  have HA := Aside0.mk hka
  have HL0 := Aside0.mk hL
  have HCU := Aside0.mk hC
  have c2z : decide ((20000 : Int) < (cuts.length : Int)) = true := decide_eq_true hm
  clear hr0 hka hC hm
  go_enter Try.func3, Try.ntmps3
  go_wp2_with (first
    | ((with_reducible refine gate_dst (N := 4) rfl ?_); refine box_event ?hg (N := 4) ?hd (cs := #[.int .i64 tree, .int .i64 node]) (t := 23) ?hr ?_; (case hd => rfl); (case hg => rfl); (case hr => first | (go_simp; done) | (go_simp; rfl)); intro gb hg w0 hbox hb; have BX := Aside0.mk hbox; have HB0 := Aside0.mk (below_step HB.out hb); clear HB hbox hb hg)
    | (go_at_call 7; refine (awake.calls ka ra _ HA.out).mono ?_; rintro e w1 ⟨rfl, hb⟩; have HB1 := Aside0.mk (below_step HB0.out hb); have BX0 := Aside0.mk (blk_below BX.out hb); clear HB0 BX hb)
    | (go_at_call 8; (refine (tape_fresh20.both _ _ l0 _ (Kd.C_below HR0.out HB1.out) HC0.out (by have := HL0.out; omega)).mono ?_); rintro e w2 ⟨gt, g2, rfl, hg1, hg2, hT1, hT2, hb⟩; have G1 := Aside0.mk hg1; have T1 := Aside0.mk hT1; have BW := Aside0.mk hb; have HCW := Aside0.mk (Kd.C_below HCU.out HB1.out); have HB1S := Aside0.mk HB1.out; clear HB1 hb hT1 hT2 hg1 hg2)
    | (go_at_call 9; refine (mask_New.calls _).mono ?_; rintro e w3 ⟨g, b, rfl, hb1, hb2, hM, hmap, hb⟩; have HB3 := Aside0.mk (below_step (below_step HB1S.out BW.out) hb); clear BW hb hb1 hb2 hM hmap))
  go_ret
  exact ⟨rfl, HB3.out⟩
theorem windbreaklaw20_SplitmaskFinds.bad (A0 : Option Addr) (c0 : Nat) (l0 : List Int) (tree node : Int) (Ac : Option Addr) (cc : Nat) (cuts : List (Int × Int)) (w : World) (hr0 : Kd.C (Kd.int .u8) w A0 l0.length l0) (hc0 : l0.length ≤ c0) (hC : CD.C w Ac cuts.length cuts) (ha : ∃ k r, shuffle.f k 3 [0, 0] = some ([1, 2, 0], 0, r)) (hL : l0.length ≤ 65536) (hm : ¬ (cuts.length : Int) > 20000) (ht : (Lit.int .i64 tree).wf = true) (hn : (Lit.int .i64 node).wf = true) (k : Nat) (er : Int) (L2 : List Int) (his : issue.f k tree node false cuts [] l0 = some ([], [], er, [], L2)) (he : er = 1 ∨ er = 7) :
    Calls Try.prog 3 #[.slice A0 l0.length c0, .agg #[.int .i64 tree, .int .i64 node], .slice Ac cuts.length cc] w fun e w' => e = .returned (.bool true) ∧ Below w.heap.size w w' := by
  have HR0 := Aside0.mk hr0
  have HC0 := Aside0.mk hc0
  have HB := Aside0.mk (Below.refl w.heap.size w)
  have huA := Try.underlying23
  obtain ⟨ka, ra, hka⟩ := ha
  have HA := Aside0.mk hka
  have HL0 := Aside0.mk hL
  have HCU := Aside0.mk hC
  have HTW := Aside0.mk ht
  have HNW := Aside0.mk hn
  have HIS := Aside0.mk his
  have c2z : decide ((20000 : Int) < (cuts.length : Int)) = false := decide_eq_false hm
  clear hr0 hka hC hm ht hn his
  rcases he with rfl | rfl
  all_goals
    go_enter Try.func3, Try.ntmps3
    go_wp2_with (first
      | ((with_reducible refine gate_dst (N := 4) rfl ?_); refine box_event ?hg (N := 4) ?hd (cs := #[.int .i64 tree, .int .i64 node]) (t := 23) ?hr ?_; (case hd => rfl); (case hg => rfl); (case hr => first | (go_simp; done) | (go_simp; rfl)); intro gb hg w0 hbox hb; have BX := Aside0.mk hbox; have HB0 := Aside0.mk (below_step HB.out hb); clear HB hbox hb hg)
      | (go_at_call 7; refine (awake.calls ka ra _ HA.out).mono ?_; rintro e w1 ⟨rfl, hb⟩; have HB1 := Aside0.mk (below_step HB0.out hb); have BX0 := Aside0.mk (blk_below BX.out hb); clear HB0 BX hb)
      | (go_at_call 8; (refine (tape_fresh20.both _ _ l0 _ (Kd.C_below HR0.out HB1.out) HC0.out (by have := HL0.out; omega)).mono ?_); rintro e w2 ⟨gt, g2, rfl, hg1, hg2, hT1, hT2, hb⟩; have G1 := Aside0.mk hg1; have T1 := Aside0.mk hT1; have BW := Aside0.mk hb; have HCW := Aside0.mk (Kd.C_below HCU.out HB1.out); have BX1 := Aside0.mk BX0.out; have HB1S := Aside0.mk HB1.out; clear HB1 hb hT1 hT2 hg1 hg2)
      | (go_at_call 9; refine (mask_New.calls _).mono ?_; rintro e w3 ⟨g, b, rfl, hb1, hb2, hM, hmap, hb⟩; have HLT := Aside0.mk (Nat.lt_of_lt_of_le T1.out.lt hb1); have HBG := Aside0.mk hb2; have HM := Aside0.mk (show MaskI w1.heap.size w3 g b gt 0 (.map []) [] from ⟨none, 0, hM, Kd.R_nil _ _ _ _ _, hmap⟩); have BW3 := Aside0.mk (below_step BW.out hb); have T3 := Aside0.mk (T1.out.same (fun k hk => hb.block k (by have := T1.out.lt; omega))); have hz0 : w3.cell? ⟨gb, 0, none⟩ = some (.int .i64 tree) := (blk_cell (blk_below BX1.out BW3.out) 0).trans rfl; have hz1 : w3.cell? ⟨gb, 1, none⟩ = some (.int .i64 node) := (blk_cell (blk_below BX1.out BW3.out) 1).trans rfl; clear BW T1 hb hb1 hb2 hM hmap)
      | (go_at_call 10; refine (mask_Issue.calls k g b 0 gt cuts.length cc Ac (.map []) [] cuts tree node false l0 _ w1 w3 BW3.out ⟨G1.out, Nat.lt_trans HLT.out HBG.out, HLT.out, Nat.ne_of_lt HBG.out⟩ HM.out (Nat.zero_le _) (by decide) T3.out HCW.out HTW.out HNW.out rfl HIS.out).mono ?_; rintro e w4 ⟨Ao, co, Ai, ci, rfl, hro, hri, hb4, hT4, hM4⟩; have HB4 := Aside0.mk hb4; have KX := Aside0.mk hro; have KI := Aside0.mk hri; have HM4 := Aside0.mk hM4; clear HM T3 hro hri hb4 hT4 hM4 hz0 hz1))
    go_ret
    exact ⟨rfl, below_step HB1S.out HB4.out⟩
theorem windbreaklaw20_SplitmaskFinds.good (A0 : Option Addr) (c0 : Nat) (l0 : List Int) (tree node : Int) (Ac : Option Addr) (cc : Nat) (cuts : List (Int × Int)) (w : World) (hr0 : Kd.C (Kd.int .u8) w A0 l0.length l0) (hc0 : l0.length ≤ c0) (hC : CD.C w Ac cuts.length cuts) (ha : ∃ k r, shuffle.f k 3 [0, 0] = some ([1, 2, 0], 0, r)) (hL : l0.length ≤ 65536) (hm : ¬ (cuts.length : Int) > 20000) (ht : (Lit.int .i64 tree).wf = true) (hn : (Lit.int .i64 node).wf = true) (k : Nat) (v L2 : List Int) (his : issue.f k tree node false cuts [] l0 = some (v, idsV 0 v.length, 0, v.map (givenV cuts tree node), L2)) (ho : OnceAt cuts.length v) :
    Calls Try.prog 3 #[.slice A0 l0.length c0, .agg #[.int .i64 tree, .int .i64 node], .slice Ac cuts.length cc] w fun e w' => e = .returned (.bool true) ∧ Below w.heap.size w w' := by
  have HR0 := Aside0.mk hr0
  have HC0 := Aside0.mk hc0
  have HB := Aside0.mk (Below.refl w.heap.size w)
  have huA := Try.underlying23
  obtain ⟨ka, ra, hka⟩ := ha
  have HA := Aside0.mk hka
  have huC := Try.underlying38
  have HL0 := Aside0.mk hL
  have HCU := Aside0.mk hC
  have HTW := Aside0.mk ht
  have HNW := Aside0.mk hn
  have HIS := Aside0.mk his
  have c2z : decide ((20000 : Int) < (cuts.length : Int)) = false := decide_eq_false hm
  obtain ⟨hvl, hrange, hinj⟩ := ho
  have HVR := Aside0.mk hrange
  have HVI := Aside0.mk hinj
  have hidl : (idsV 0 v.length).length = v.length := by simp [idsV]
  have hidx : ∀ i, i < v.length → (idsV 0 v.length).getD i 0 = (i : Int) := fun i hi => by simp [idsV, List.getD_eq_getElem?_getD, hi]
  have hgd : ∀ i, i < v.length → (v.map (givenV cuts tree node)).getD i (0, 0, 0, 0) = givenV cuts tree node (v.getD i 0) := fun i hi => by simp [List.getD_eq_getElem?_getD, hi]
  have hgl : (v.map (givenV cuts tree node)).length = v.length := by simp
  have HIX := Aside0.mk hidx
  have HGD := Aside0.mk hgd
  generalize idsV 0 v.length = ids at *
  generalize hgs : v.map (givenV cuts tree node) = gs at *
  have hn1 : ((v.length : Int) != (cuts.length : Int)) = false := by rw [hvl]; simp
  have hn2 : ((ids.length : Int) != (cuts.length : Int)) = false := by rw [hidl, hvl]; simp
  have hK2 : ((cuts.length : Int)).toNat = cuts.length := Int.toNat_natCast _
  have hc0 : cuts.length ≤ 20000 := by omega
  clear hr0 hka hC hm ht hn his hrange hinj hidx hgd hgs
  go_enter Try.func3, Try.ntmps3
  go_wp2_with (first
    | ((with_reducible refine gate_dst (N := 4) rfl ?_); refine box_event ?hg (N := 4) ?hd (cs := #[.int .i64 tree, .int .i64 node]) (t := 23) ?hr ?_; (case hd => rfl); (case hg => rfl); (case hr => first | (go_simp; done) | (go_simp; rfl)); intro gb hg w0 hbox hb; have BX := Aside0.mk hbox; have HB0 := Aside0.mk (below_step HB.out hb); clear HB hbox hb hg)
    | (go_at_call 7; refine (awake.calls ka ra _ HA.out).mono ?_; rintro e w1 ⟨rfl, hb⟩; have HB1 := Aside0.mk (below_step HB0.out hb); have BX0 := Aside0.mk (blk_below BX.out hb); clear HB0 BX hb)
    | (go_at_call 8; (refine (tape_fresh20.both _ _ l0 _ (Kd.C_below HR0.out HB1.out) HC0.out (by have := HL0.out; omega)).mono ?_); rintro e w2 ⟨gt, g2, rfl, hg1, hg2, hT1, hT2, hb⟩; have G1 := Aside0.mk hg1; have T1 := Aside0.mk hT1; have BW := Aside0.mk hb; have HCW := Aside0.mk (Kd.C_below HCU.out HB1.out); have BX1 := Aside0.mk BX0.out; have HB1S := Aside0.mk HB1.out; clear HB1 hb hT1 hT2 hg1 hg2)
    | (go_at_call 9; refine (mask_New.calls _).mono ?_; rintro e w3 ⟨g, b, rfl, hb1, hb2, hM, hmap, hb⟩; have HLT := Aside0.mk (Nat.lt_of_lt_of_le T1.out.lt hb1); have HBG := Aside0.mk hb2; have HM := Aside0.mk (show MaskI w1.heap.size w3 g b gt 0 (.map []) [] from ⟨none, 0, hM, Kd.R_nil _ _ _ _ _, hmap⟩); have BW3 := Aside0.mk (below_step BW.out hb); have T3 := Aside0.mk (T1.out.same (fun k hk => hb.block k (by have := T1.out.lt; omega))); have hz0 : w3.cell? ⟨gb, 0, none⟩ = some (.int .i64 tree) := (blk_cell (blk_below BX1.out BW3.out) 0).trans rfl; have hz1 : w3.cell? ⟨gb, 1, none⟩ = some (.int .i64 node) := (blk_cell (blk_below BX1.out BW3.out) 1).trans rfl; clear BW T1 hb hb1 hb2 hM hmap)
    | (go_at_call 10; refine (mask_Issue.calls k g b 0 gt cuts.length cc Ac (.map []) [] cuts tree node false l0 _ w1 w3 BW3.out ⟨G1.out, Nat.lt_trans HLT.out HBG.out, HLT.out, Nat.ne_of_lt HBG.out⟩ HM.out (Nat.zero_le _) (by decide) T3.out HCW.out HTW.out HNW.out rfl HIS.out).mono ?_; rintro e w4 ⟨Ao, co, Ai, ci, rfl, hro, hri, hb4, hT4, hM4⟩; have HB4 := Aside0.mk hb4; have KX := Aside0.mk hro; have KI := Aside0.mk hri; have hM5 := hM4; change (if (0 : Int) = 0 then MaskI w1.heap.size w4 g b gt (0 + 1) _ gs else _) at hM5; rw [if_pos rfl] at hM5; obtain ⟨Ag, cg, m1, m2, m3⟩ := hM5; have MA := Aside0.mk m1; have MG := Aside0.mk (show Kd.F GD w4 (fun k => k < w4.heap.size) Ag gs.length gs from Kd.R_F (Kd.R_mono (Kd.R_bound m2) (fun k hk => hk.2.2.1))); clear m1 m2 m3; clear HM T3 hro hri hb4 hT4 hM4 hz0 hz1)
    | ((with_reducible refine gate_dst (N := 79) rfl ?_); refine Kd.R_make Kd.bool _ 4 rfl (N := 79) rfl 36 _ _ rfl ((cuts.length : Int)) rfl rfl Try.underlying36 (.bool false) 1 infoBoolF rfl (by decide) (by omega) false (ok := fun _ => True) (okp := fun _ => True) rfl (fun _ hk => hk) trivial (by omega) (by omega) (Below.refl _ _) (Nat.le_refl _) ?_; intro v0 w5 ho1 hb hg_ hnew_; clear hg_ hnew_; rw [hK2] at ho1; obtain ⟨Am, cm, em⟩ := Kd.R_slice ho1; rw [List.length_replicate] at em; subst em; have HO5 := Aside0.mk ho1; have HB5 := Aside0.mk (below_step HB4.out hb); have KX5 := Aside0.mk (show Ri w5 (fun k => k < w4.heap.size) Ao co v from ⟨Kd.F_mono (Kd.F_below (Kd.F_bound KX.out.1) hb) (fun k hk => hk.2), KX.out.2⟩); have KI5 := Aside0.mk (show Ri w5 (fun k => k < w4.heap.size) Ai ci ids from ⟨Kd.F_mono (Kd.F_below (Kd.F_bound KI.out.1) hb) (fun k hk => hk.2), KI.out.2⟩); have MA5 := Aside0.mk (blk_below MA.out hb); have MG5 := Aside0.mk (Kd.F_below MG.out hb); have HGM := Aside0.mk (blk_lt MA.out); clear HB4 KX KI MA MG hb ho1))
  go_loopg [16] cuts.length (fun gg v16 wr => ∃ i : Nat, v16 = .int .i64 (i : Int) ∧ i ≤ cuts.length ∧ cuts.length - i ≤ gg ∧ Aside0 (Kd.R Kd.bool 4 wr w4.heap.size (fun _ => True) (.slice Am cuts.length cm) (metV cuts.length v i)) ∧ Aside0 (Ri wr (fun k => k < w4.heap.size) Ao co v) ∧ Aside0 (Ri wr (fun k => k < w4.heap.size) Ai ci ids) ∧ Aside0 (MaskAt wr g b (.slice Ag gs.length cg)) ∧ Aside0 (Kd.F GD wr (fun k => k < w4.heap.size) Ag gs.length gs) ∧ Aside0 (Below w1.heap.size w1 wr))
  case atStart => exact ⟨0, rfl, by omega, by omega, HO5, KX5, KI5, MA5, MG5, HB5⟩
  case round =>
    clear HO5 KX5 KI5 MA5 MG5 HB5
    obtain ⟨i, rfl, hi, hgg, HO, KX, KI, MA, MG, HB⟩ := hrel
    by_cases hlt : i < cuts.length
    · have hltz : decide ((i : Int) < (ids.length : Int)) = true := decide_eq_true (by omega)
      have hiz : (0 : Int) ≤ (i : Int) := by omega
      have hiv : (i : Int) < (v.length : Int) := by omega
      have hii : (i : Int) < (ids.length : Int) := by omega
      obtain ⟨ao, hA, hx⟩ := Kd.at_int (Kd.F_now KX.out.1) (i : Int) hiz hiv
      obtain ⟨ai, hA2, hx2⟩ := Kd.at_int (Kd.F_now KI.out.1) (i : Int) hiz hii
      subst hA
      subst hA2
      simp only [Go.IntWalk.toNatUp] at hx hx2
      obtain ⟨hr1, hr2⟩ := HVR.out i hlt
      have hmet := metV_at cuts.length v i (v.getD i 0).toNat (by omega) (fun b hb he => by
        have h1 := HVR.out b (by omega)
        have h2 := HVI.out b i (by omega) hlt (by omega)
        omega)
      have hstep : metV cuts.length v (i + 1) = (metV cuts.length v i).set (v.getD i 0).toNat true := rfl
      have hrd : rd v (i : Int) = v.getD i 0 := rfl
      have hrd2 : rd ids (i : Int) = ids.getD i 0 := rfl
      rw [hrd] at hx
      rw [hrd2, HIX.out i (by omega)] at hx2
      have hgi := HGD.out i (by omega)
      generalize v.getD i 0 = y at hx hr1 hr2 hmet hstep hgi
      obtain ⟨q, rfl⟩ := Int.eq_ofNat_of_zero_le hr1
      simp only [Int.toNat_natCast] at hmet hstep
      have hqn : q < cuts.length := by omega
      obtain ⟨ad, hAc, ⟨xf, xc⟩, hxe, hc0, hc1⟩ := CD_get HCW.out q hqn
      subst hAc
      simp only at hc0 hc1
      have hgi2 : gs.getD i (0, 0, 0, 0) = (xf, xc, tree, node) := by rw [hgi]; simp only [givenV, Int.toNat_natCast, ← hxe]
      obtain ⟨am, hAm, hcm0⟩ := Kd.C_get (Kd.R_reads' HO.out).2.2 false (q : Int) (by omega) (by rw [metV_len]; omega) |> fun ⟨ad, c, h1, h2⟩ => (⟨ad, h1, trivial⟩ : ∃ ad, Am = some ad ∧ True)
      subst hAm
      obtain ⟨gm, rfl⟩ := Kd.R_head HO.out
      have hcm := Kd.R_celln false HO.out (q : Int) (by omega) (by omega)
      rw [Int.toNat_natCast] at hcm
      have hcell : wr.cell? ⟨gm, q, none⟩ = some (.bool false) := by rw [← hmet]; exact hcm.1
      have hgm : w4.heap.size ≤ gm := Kd.R_base HO.out gm rfl
      have HGE := Aside0.mk hgm
      have HX := Aside0.mk hx
      have HMC := Aside0.mk hcell
      have HC0 := Aside0.mk hc0
      have HC1 := Aside0.mk hc1
      have HST := Aside0.mk hstep
      have HGI := Aside0.mk hgi2
      have HIL := Aside0.mk (show i < gs.length by omega)
      have BXR := Aside0.mk (blk_below BX1.out HB.out)
      have hw4 : w1.heap.size ≤ gm := Nat.le_trans (Nat.le_trans G1.out (by have := HLT.out; have := HBG.out; have := HGM.out; omega)) hgm
      have HGW := Aside0.mk hw4
      clear hx hcm hcell hc0 hc1 hstep hmet hgi hgi2 hrd hrd2 hw4
      go_upto_region 16 with (first
        | (go_at_call 11; refine (mask_Find.calls g b (.slice Ag gs.length cg) gs i Ag cg wr MA.out (Kd.F_now MG.out) HIL.out).mono ?_; rintro e w6 ⟨he, hb⟩; rw [HGI.out] at he; subst he; have HB6 := Aside0.mk hb; clear hx2 hb)
        | ((with_reducible refine gate_dst (N := 19) rfl ?_); refine box_event ?hg (N := 19) ?hd (cs := #[.int .i64 0, .int .i64 0]) (t := 38) ?hr ?_; (case hd => rfl); (case hg => rfl); (case hr => first | (go_simp; done) | (go_simp; rfl)); intro gc hg w7 hbox hb; have BC := Aside0.mk hbox; have HB7 := Aside0.mk (below_step HB6.out hb); have HGC := Aside0.mk (show wr.heap.size ≤ gc from hg ▸ below_size HB6.out); clear HB6 hbox hb hg)
        | ((with_reducible refine gate_store (t := 38) (p := 19) rfl ?_); refine wpList_store_row rfl 38 (.tmp 19) (.tmp 95) rfl gc #[.int .i64 xf, .int .i64 xc] rfl rfl 38 #[.int .i64 0, .int .i64 0] BC.out (by kernel_rfl) rfl (by simp [Value.oneCell']) ?_; have BC2 := Aside0.mk (setRow_heap w7 gc _ #[.int .i64 xf, .int .i64 xc] _ _ BC.out); have HB8 := Aside0.mk (below_setRow (g := gc) HB7.out HGC.out #[.int .i64 xf, .int .i64 xc]); generalize w7.setRow gc #[.int .i64 xf, .int .i64 xc] = w8 at BC2 HB8 ⊢; clear BC HB7))
      (try simp only [Act.put, List.setIfInBounds_toArray, List.set_cons_zero, List.set_cons_succ])
      have HBQ : Aside0 (Below wr.heap.size wr w8.drew) := ⟨below_drew HB8.out⟩
      have BCQ : Aside0 (w8.drew.heap[gc]? = some (.cells #[.int .i64 xf, .int .i64 xc] 38 (0, 0))) := ⟨blk_drew BC2.out⟩
      have hF : w8.drew.cell? ⟨gb, 0, none⟩ = some (.int .i64 tree) ∧ w8.drew.cell? ⟨gb, 1, none⟩ = some (.int .i64 node) ∧ w8.drew.cell? (ao.add i) = some (.int .i64 (q : Int)) ∧ w8.drew.cell? ⟨gm, q, none⟩ = some (.bool false) ∧ w8.drew.cell? ⟨gc, 0, none⟩ = some (.int .i64 xf) ∧ w8.drew.cell? ⟨gc, 1, none⟩ = some (.int .i64 xc) ∧ w8.drew.cell? (ad.add (q * 2)) = some (.int .i64 xf) ∧ w8.drew.cell? ⟨(ad.add (q * 2)).block, (ad.add (q * 2)).off + 1, none⟩ = some (.int .i64 xc) := ⟨(blk_cell (blk_below BXR.out HBQ.out) 0).trans rfl, (blk_cell (blk_below BXR.out HBQ.out) 1).trans rfl, (HBQ.out.cell (World.block_lt_of_cell? _ _ HX.out)).trans HX.out, (HBQ.out.cell (World.block_lt_of_cell? _ _ HMC.out)).trans HMC.out, (blk_cell BCQ.out 0).trans rfl, (blk_cell BCQ.out 1).trans rfl, ((below_step HB.out HBQ.out).cell (World.block_lt_of_cell? _ _ HC0.out)).trans HC0.out, ((below_step HB.out HBQ.out).cell (World.block_lt_of_cell? _ _ HC1.out)).trans HC1.out⟩
      have e0 : (tree != tree) = false := by simp
      have e1 : (node != node) = false := by simp
      have e2 : decide ((q : Int) < 0) = false := decide_eq_false (by omega)
      have e3 : decide ((cuts.length : Int) ≤ (q : Int)) = false := decide_eq_false (by omega)
      have e4 : (0 : Int) ≤ (q : Int) := by omega
      have e6 : decide ((q : Int) < (cuts.length : Int)) = true := decide_eq_true (by omega)
      have e8 : decide (cuts.length ≤ q) = false := decide_eq_false (by omega)
      have e9 : ¬ cuts.length ≤ q := by omega
      have e7 : decide ((q : Int) ≥ (cuts.length : Int)) = false := decide_eq_false (by omega)
      have e5 : (q : Int) < (cuts.length : Int) := by omega
      clear HB8 BC2
      refine start_ (n := 50) (S := fun w' => w'.cell? ⟨gb, 0, none⟩ = some (.int .i64 tree) ∧ w'.cell? ⟨gb, 1, none⟩ = some (.int .i64 node) ∧ w'.cell? (ao.add i) = some (.int .i64 (q : Int)) ∧ w'.cell? ⟨gm, q, none⟩ = some (.bool false) ∧ w'.cell? ⟨gc, 0, none⟩ = some (.int .i64 xf) ∧ w'.cell? ⟨gc, 1, none⟩ = some (.int .i64 xc) ∧ w'.cell? (ad.add (q * 2)) = some (.int .i64 xf) ∧ w'.cell? ⟨(ad.add (q * 2)).block, (ad.add (q * 2)).off + 1, none⟩ = some (.int .i64 xc)) (ds := []) (uA 50 0) (by kernel_rfl) rfl rfl ⟨hF.1, hF.2.1, hF.2.2.1, hF.2.2.2.1, hF.2.2.2.2.1, hF.2.2.2.2.2.1, hF.2.2.2.2.2.2.1, hF.2.2.2.2.2.2.2⟩ (fun hHeld => ?_)
      refine with_tabW findsR.tab16 findsR.bits16 (fun HT_ HW_ => ?_)
      generalize w8.drew = wq at hF hHeld HBQ BCQ ⊢
      refine upu 0 (some 97) (uA 50 1) rfl rfl HT_ ?_
      refine upu 1 (some 98) (uA 50 3) rfl rfl HT_ ?_
      refine upu 2 (some 99) (uA 50 7) rfl rfl HT_ ?_
      refine upu 3 (some 100) (uA 50 15) rfl rfl HT_ ?_
      refine upu 4 (some 101) (uA 50 31) rfl rfl HT_ ?_
      refine take_ (i := 5) (N := some 102) (v := ?_) (a' := ?_) (uA 50 63) rfl rfl (take_ofW HT_.out HW_.out (by kernel_rfl)) (fun _ _ _ h => h) (Or.inl ⟨by rfl, ?_⟩) hHeld ?_ ?_
      rotate_left
      · rintro w' ⟨s0, s1, s2, s3, s4, s5, s6, s7⟩
        go_simp
        with_reducible rfl
      rotate_left
      · exact uQ
      refine upu 6 (some 103) (uA 50 127) rfl rfl HT_ ?_
      refine upu 7 (some 104) (uA 50 255) rfl rfl HT_ ?_
      refine upu 8 (some 105) (uA 50 511) rfl rfl HT_ ?_
      refine upu 9 (some 106) (uA 50 1023) rfl rfl HT_ ?_
      refine upu 10 (some 107) (uA 50 2047) rfl rfl HT_ ?_
      refine take_ (i := 11) (N := some 108) (v := ?_) (a' := ?_) (uA 50 4095) rfl rfl (take_ofW HT_.out HW_.out (by kernel_rfl)) (fun _ _ _ h => h) (Or.inl ⟨by rfl, ?_⟩) hHeld ?_ ?_
      rotate_left
      · rintro w' ⟨s0, s1, s2, s3, s4, s5, s6, s7⟩
        go_simp
        with_reducible rfl
      rotate_left
      · exact uQ
      refine upu 12 (some 109) (uA 50 8191) rfl rfl HT_ ?_
      refine upu 13 (some 110) (uA 50 16383) rfl rfl HT_ ?_
      refine upu 14 (some 111) (uA 50 32767) rfl rfl HT_ ?_
      refine upu 15 (some 112) (uA 50 65535) rfl rfl HT_ ?_
      refine upu 16 (some 113) (uA 50 131071) rfl rfl HT_ ?_
      refine upu 17 (some 114) (uA 50 262143) rfl rfl HT_ ?_
      refine take_ (i := 18) (N := some 115) (v := ?_) (a' := ?_) (uA 50 524287) rfl rfl (take_ofW HT_.out HW_.out (by kernel_rfl)) (fun _ _ _ h => h) (Or.inl ⟨by rfl, ?_⟩) hHeld ?_ ?_
      rotate_left
      · rintro w' ⟨s0, s1, s2, s3, s4, s5, s6, s7⟩
        go_simp
        with_reducible rfl
      rotate_left
      · exact uQ
      refine upu 19 (some 116) (uA 50 1048575) rfl rfl HT_ ?_
      refine upu 20 (some 117) (uA 50 2097151) rfl rfl HT_ ?_
      refine upu 21 (some 118) (uA 50 4194303) rfl rfl HT_ ?_
      refine upu 22 (some 119) (uA 50 8388607) rfl rfl HT_ ?_
      refine upu 23 (some 120) (uA 50 16777215) rfl rfl HT_ ?_
      refine upu 24 (some 121) (uA 50 33554431) rfl rfl HT_ ?_
      refine upu 26 (some 123) (uA 50 100663295) rfl rfl HT_ ?_
      refine upu 27 (some 124) (uA 50 234881023) rfl rfl HT_ ?_
      refine take_ (i := 25) (N := some 122) (v := ?_) (a' := ?_) (uA 50 268435455) rfl rfl (take_ofW HT_.out HW_.out (by kernel_rfl)) (fun _ _ _ h => h) (Or.inl ⟨by rfl, ?_⟩) hHeld ?_ ?_
      rotate_left
      · rintro w' ⟨s0, s1, s2, s3, s4, s5, s6, s7⟩
        go_simp
        with_reducible rfl
      rotate_left
      · exact uQ
      refine upu 28 (some 125) (uA 50 536870911) rfl rfl HT_ ?_
      refine upu 29 (some 126) (uA 50 1073741823) rfl rfl HT_ ?_
      refine upu 30 (some 127) (uA 50 2147483647) rfl rfl HT_ ?_
      refine upu 31 (some 128) (uA 50 4294967295) rfl rfl HT_ ?_
      refine upu 32 (some 129) (uA 50 8589934591) rfl rfl HT_ ?_
      refine upu 33 (some 130) (uA 50 17179869183) rfl rfl HT_ ?_
      refine upu 34 (some 131) (uA 50 34359738367) rfl rfl HT_ ?_
      refine take_ (i := 35) (N := some 132) (v := ?_) (a' := ?_) (uA 50 68719476735) rfl rfl (take_ofW HT_.out HW_.out (by kernel_rfl)) (fun _ _ _ h => h) (Or.inl ⟨by rfl, ?_⟩) hHeld ?_ ?_
      rotate_left
      · rintro w' ⟨s0, s1, s2, s3, s4, s5, s6, s7⟩
        go_simp
        with_reducible rfl
      rotate_left
      · exact uQ
      refine upu 36 (some 133) (uA 50 137438953471) rfl rfl HT_ ?_
      refine take_ (i := 37) (N := some 134) (v := ?_) (a' := ?_) (uA 50 274877906943) rfl rfl (take_ofW HT_.out HW_.out (by kernel_rfl)) (fun _ _ _ h => h) (Or.inl ⟨by rfl, ?_⟩) hHeld ?_ ?_
      rotate_left
      · rintro w' ⟨s0, s1, s2, s3, s4, s5, s6, s7⟩
        go_simp
        with_reducible rfl
      rotate_left
      · exact uQ
      refine upu 38 (some 135) (uA 50 549755813887) rfl rfl HT_ ?_
      refine upu 39 (some 136) (uA 50 1099511627775) rfl rfl HT_ ?_
      refine upu 41 (some 138) (uA 50 3298534883327) rfl rfl HT_ ?_
      refine upu 42 (some 139) (uA 50 7696581394431) rfl rfl HT_ ?_
      refine upu 43 (some 140) (uA 50 16492674416639) rfl rfl HT_ ?_
      refine upu 44 (some 141) (uA 50 34084860461055) rfl rfl HT_ ?_
      refine take_ (i := 40) (N := some 137) (v := ?_) (a' := ?_) (uA 50 35184372088831) rfl rfl (take_ofW HT_.out HW_.out (by kernel_rfl)) (fun _ _ _ h => h) (Or.inl ⟨by rfl, ?_⟩) hHeld ?_ ?_
      rotate_left
      · rintro w' ⟨s0, s1, s2, s3, s4, s5, s6, s7⟩
        go_simp
        with_reducible rfl
      rotate_left
      · exact uQ
      refine take_ (i := 45) (N := some 142) (v := ?_) (a' := ?_) (uA 50 70368744177663) rfl rfl (take_ofW HT_.out HW_.out (by kernel_rfl)) (fun _ _ _ h => h) (Or.inl ⟨by rfl, ?_⟩) hHeld ?_ ?_
      rotate_left
      · rintro w' ⟨s0, s1, s2, s3, s4, s5, s6, s7⟩
        go_simp
        with_reducible rfl
      rotate_left
      · exact uQ
      refine upu 46 (some 143) (uA 50 140737488355327) rfl rfl HT_ ?_
      refine take_ (i := 47) (N := some 144) (v := ?_) (a' := ?_) (uA 50 281474976710655) rfl rfl (take_ofW HT_.out HW_.out (by kernel_rfl)) (fun _ _ _ h => h) (Or.inl ⟨by rfl, ?_⟩) hHeld ?_ ?_
      rotate_left
      · rintro w' ⟨s0, s1, s2, s3, s4, s5, s6, s7⟩
        go_simp
        with_reducible rfl
      rotate_left
      · exact uQ
      refine upu 48 (some 145) (uA 50 562949953421311) rfl rfl HT_ ?_
      refine upu 49 (some 146) (uA 50 1125899906842623) rfl rfl HT_ ?_
      refine done_ (done_of HT_.out (by kernel_rfl)) ?_
      obtain ⟨f0, f1, f2, f3, _, _, _, _⟩ := hF
      have HOq := Kd.R_below HO.out HBQ.out
      have hfz : wq.frozen? ⟨gm, q, none⟩ = false := by have h_ := (Kd.R_celln false HOq (q : Int) (by omega) (by omega)).2; rw [Int.toNat_natCast] at h_; exact h_
      have HP := Aside0.mk (Kd.R_putn HOq (q : Int) true)
      have HB9 := Aside0.mk (below_set (g := gm) (j := q) (v := .bool true) (below_step HB.out HBQ.out) HGW.out)
      have KX9 := Aside0.mk (show Ri (wq.setCell ⟨gm, q, none⟩ (.bool true)) (fun k => k < w4.heap.size) (some ao) co v from ⟨Kd.F_far (Kd.F_below KX.out.1 HBQ.out) (p := ⟨gm, q, none⟩) (fun k hk => by have h := HGE.out; show k ≠ gm; omega) _, KX.out.2⟩)
      have KI9 := Aside0.mk (show Ri (wq.setCell ⟨gm, q, none⟩ (.bool true)) (fun k => k < w4.heap.size) (some ai) ci ids from ⟨Kd.F_far (Kd.F_below KI.out.1 HBQ.out) (p := ⟨gm, q, none⟩) (fun k hk => by have h := HGE.out; show k ≠ gm; omega) _, KI.out.2⟩)
      have MG9 := Aside0.mk (show Kd.F GD (wq.setCell ⟨gm, q, none⟩ (.bool true)) (fun k => k < w4.heap.size) Ag gs.length gs from Kd.F_far (Kd.F_below MG.out HBQ.out) (p := ⟨gm, q, none⟩) (fun k hk => by have h := HGE.out; show k ≠ gm; omega) _)
      have MA9 := Aside0.mk (show MaskAt (wq.setCell ⟨gm, q, none⟩ (.bool true)) g b (.slice Ag gs.length cg) from (Below.heap_setCell wq ⟨gm, q, none⟩ _ g (by have h := HGE.out; have h2 := HGM.out; show g ≠ gm; omega)).trans (blk_below MA.out HBQ.out))
      clear HO KX KI MA MG HB HOq HBQ BCQ
      go_wp2_with ((with_reducible refine gate_store (t := 4) (p := 152) rfl ?_); refine store_event (t := 4) (p := 152) (v := ?vo) (w1 := (wq.setCell ⟨gm, q, none⟩ (.bool true))) ?hg ?ho ?hn ?hr ?_; (case ho => rfl); (case hg => rfl); (case hn => rfl); (case hr => first | (go_simp; done) | (go_simp; rfl)); intro w9 hw; subst hw)
      have HO9 := HP.out
      simp only [Int.toNat_natCast] at HO9
      go_roundg (cuts.length - (i + 1))
      case measure => omega
      case rel => exact ⟨i + 1, by go_num, by omega, by omega, ⟨by rw [HST.out]; exact HO9⟩, KX9, KI9, MA9, MG9, HB9⟩
    · have hltz : decide ((i : Int) < (ids.length : Int)) = false := decide_eq_false (by omega)
      go_wp2
      go_ret
      exact ⟨rfl, below_step HB1S.out HB.out⟩
def windbreaklaw20_SplitmaskFinds.Pure : Prop := (∃ k r, shuffle.f k 3 [0, 0] = some ([1, 2, 0], 0, r)) ∧ ∀ (L : List Int) (tree node : Int) (cuts : List (Int × Int)), L.length ≤ 65536 → (∀ x ∈ L, (Lit.int .u8 x).wf = true) → ¬ (cuts.length : Int) > 20000 → ∃ k L2, (∃ er, issue.f k tree node false cuts [] L = some ([], [], er, [], L2) ∧ (er = 1 ∨ er = 7)) ∨ ∃ v, issue.f k tree node false cuts [] L = some (v, idsV 0 v.length, 0, v.map (givenV cuts tree node), L2) ∧ OnceAt cuts.length v
theorem windbreaklaw20_SplitmaskFinds.row (hp : windbreaklaw20_SplitmaskFinds.Pure) (w : World) (A0 : Option Addr) (n0 c0 : Nat) (x0 : List Int) (h0 : (Kd.slice 5 (Kd.int .u8)).K w x0 [.slice A0 n0 c0]) (o0 : x0.length ≤ maxLen ∧ ∀ x ∈ x0, (Lit.int .u8 x).wf = true) (cs1 : Array Value) (x1 : Int × Int) (h1 : CD.K w x1 cs1.toList) (o1 : (Lit.int .i64 x1.1).wf = true ∧ (Lit.int .i64 x1.2).wf = true) (A2 : Option Addr) (n2 c2 : Nat) (x2 : List (Int × Int)) (h2 : (Kd.slice 38 CD).K w x2 [.slice A2 n2 c2]) (o2 : x2.length ≤ maxLen ∧ ∀ x ∈ x2, (Lit.int .i64 x.1).wf = true ∧ (Lit.int .i64 x.2).wf = true) :
    Calls Try.prog 3 #[.slice A0 n0 c0, .agg cs1, .slice A2 n2 c2] w fun e w' => e = .returned (.bool true) ∧ Below w.heap.size w w' := by
  obtain ⟨B0, d0, e0, l0, r0⟩ := h0
  simp only [List.cons.injEq, Value.slice.injEq, and_true] at e0
  obtain ⟨rfl, rfl, rfl⟩ := e0
  obtain ⟨_, _, e1, rfl, rfl⟩ := h1
  obtain rfl : cs1 = #[.int .i64 x1.1, .int .i64 x1.2] := by
    cases cs1
    simp only [List.cons_append, List.nil_append] at e1
    rw [e1]
  obtain ⟨B2, d2, e2, l2, r2⟩ := h2
  simp only [List.cons.injEq, Value.slice.injEq, and_true] at e2
  obtain ⟨rfl, rfl, rfl⟩ := e2
  by_cases hL : x0.length ≤ 65536
  · by_cases hm : (x2.length : Int) > 20000
    · exact windbreaklaw20_SplitmaskFinds.many A0 c0 x0 x1.1 x1.2 A2 c2 x2 w r0 l0 r2 hp.1 hL hm
    · obtain ⟨k, L2, ⟨er, h3, h4⟩ | ⟨v, h3, h4⟩⟩ := hp.2 x0 x1.1 x1.2 x2 hL o0.2 hm
      · exact windbreaklaw20_SplitmaskFinds.bad A0 c0 x0 x1.1 x1.2 A2 c2 x2 w r0 l0 r2 hp.1 hL hm o1.1 o1.2 k er L2 h3 h4
      · exact windbreaklaw20_SplitmaskFinds.good A0 c0 x0 x1.1 x1.2 A2 c2 x2 w r0 l0 r2 hp.1 hL hm o1.1 o1.2 k v L2 h3 h4
  · exact windbreaklaw20_SplitmaskFinds.long A0 c0 x0 x1.1 x1.2 A2 c2 x2 w r0 l0 r2 hp.1 (by omega)
end Go.Proofs.Ytnaphgnkhhapoaa.F
end
section
namespace Go.Proofs.Ytnaphgnkhhapoaa.F
open Go.RowKit Go.Deep Go.ChangeShapes Go.Proofs.YtnaphgnkhhapoaaW.PrintWords
set_option linter.unusedSimpArgs false
set_option linter.unusedVariables false
def Opens {α : Type} (P : Program) (t : TypeId) (d : Kd α) (ok : α → Prop) : Prop :=
  ∀ {H : Type} (enc : TypeId × Value → H) (w : World) (held : Bool) (fuel : Nat) (cs : List Value) (x : DataW H × List MemPlace), DataW.trod enc P w 0 (fun _ => true) held fuel t cs = some x → ∃ a : α, d.K w a cs ∧ ok a
theorem Opens.int {P : Program} {t : TypeId} {k : IntKind} (ht : P.underlying t = some (.int k)) : Opens P t (Kd.int k) (fun n => (Lit.int k n).wf = true) := by
  intro H enc w held fuel cs x h
  obtain ⟨n, rfl, _, hw⟩ := DataW.trod_int ht h
  exact ⟨n, rfl, hw⟩
theorem choose_list {α : Type} {n : Nat} {p : Nat → α → Prop} (h : ∀ i, i < n → ∃ x, p i x) : ∃ l : List α, l.length = n ∧ ∀ i x, l[i]? = some x → p i x := by
  induction n with
  | zero => exact ⟨[], rfl, fun i x hx => by simp at hx⟩
  | succ n ih =>
    obtain ⟨l, hl, hp⟩ := ih (fun i hi => h i (by omega))
    obtain ⟨x, hx⟩ := h n (by omega)
    refine ⟨l ++ [x], by simp [hl], fun i y hy => ?_⟩
    rcases Nat.lt_or_ge i l.length with hi | hi
    · rw [List.getElem?_append_left hi] at hy
      exact hp i y hy
    · rw [List.getElem?_append_right hi] at hy
      have h0 : i - l.length = 0 := by
        rcases Nat.eq_zero_or_pos (i - l.length) with h0 | h0
        · exact h0
        · rw [List.getElem?_eq_none (by simp; omega)] at hy; cases hy
      rw [h0] at hy
      obtain rfl : x = y := by simpa using hy
      obtain rfl : i = n := by omega
      exact hx
theorem Opens.slice {α : Type} {P : Program} {t e : TypeId} {d : Kd α} {ok : α → Prop} (ht : P.underlying t = some (.slice e)) (hs : P.cellsOf e = d.sz) (hd : Opens P e d ok) : Opens P t (Kd.slice e d) (fun xs => xs.length ≤ maxLen ∧ ∀ x ∈ xs, ok x) := by
  intro H enc w held fuel cs x h
  rcases open_slice ht h with ⟨rfl, _⟩ | ⟨a, len, cap, m, n, D, Pl, rfl, _, hlc, hcm, hm, _, hel⟩
  · exact ⟨[], ⟨none, 0, rfl, Nat.le_refl _, Kd.C_nil d w⟩, Nat.zero_le _, fun x hx => by cases hx⟩
  · have hlm : len ≤ m := by simp at hm; omega
    have h1 : ∀ i, i < len → ∃ y : α, (∃ c, c.length = d.sz ∧ d.K w y c ∧ ∀ j u, c[j]? = some u → w.cell? (a.add (i * d.sz + j)) = some u) ∧ ok y := by
      intro i hi
      obtain ⟨cs', hc, htr⟩ := hel i (by omega)
      obtain ⟨y, hK, hok⟩ := hd enc w held n cs' _ htr
      obtain ⟨_, hl, hcell⟩ := World.cells?_some hc
      refine ⟨y, ⟨cs', by rw [hl, hs], hK, fun j u hu => ?_⟩, hok⟩
      have hj : j < P.cellsOf e := by have := (List.getElem?_eq_some_iff.1 hu).1; omega
      have := hcell j hj
      rw [Go.Deep.add_add, hs, hu] at this
      exact this
    obtain ⟨xs, hxl, hxp⟩ := choose_list h1
    have hml : len ≤ maxLen := Nat.le_trans hlc hcm
    refine ⟨xs, ⟨some a, cap, by rw [hxl], by omega, ⟨rfl, ?_, fun hp => ⟨a, rfl, fun j p hj => (hxp j p hj).1⟩⟩⟩, by omega, fun x hx => ?_⟩
    · unfold maxLen at hml; omega
    · obtain ⟨i, hi⟩ := List.getElem?_of_mem hx
      exact (hxp i x hi).2
theorem Opens.field {α : Type} {H : Type} {enc : TypeId × Value → H} {P : Program} {w : World} {held : Bool} {fuel : Nat} {t : TypeId} {cs : List Value} {x : DataW H × List MemPlace} {fs : Array Field} (ht : P.underlying t = some (.struct fs)) (h : DataW.trod enc P w 0 (fun _ => true) held fuel t cs = some x) {d : Kd α} {ok : α → Prop} (i : Nat) (f : Field) (hf : fs[i]? = some f) (hd : Opens P f.type d ok) :
    ∃ a : α, d.K w a ((cs.drop f.offset).take (P.cellsOf f.type)) ∧ ok a := by
  obtain ⟨xs, n, _, _, _, hl, hx⟩ := DataW.trod_struct ht h
  have h1 := hx i f hf
  have hi : i < fs.size := by
    rcases Nat.lt_or_ge i fs.size with h2 | h2
    · exact h2
    · rw [Array.getElem?_eq_none h2] at hf; cases hf
  rw [List.getElem?_eq_getElem (by omega)] at h1
  exact hd enc w held n _ _ h1
theorem Opens.elem {α : Type} {H : Type} {enc : TypeId × Value → H} {P : Program} {w : World} {held : Bool} {fuel : Nat} {t e : TypeId} {cs : List Value} {x : DataW H × List MemPlace} {n : Nat} (ht : P.underlying t = some (.array n e)) (h : DataW.trod enc P w 0 (fun _ => true) held fuel t cs = some x) {d : Kd α} {ok : α → Prop} (i : Nat) (hi : i < n) (hd : Opens P e d ok) :
    ∃ a : α, d.K w a ((cs.drop (i * P.cellsOf e)).take (P.cellsOf e)) ∧ ok a := by
  obtain ⟨xs, m, _, _, _, hl, hx⟩ := DataW.trod_array ht h
  have h1 := hx i hi
  rw [List.getElem?_eq_getElem (by omega)] at h1
  exact hd enc w held m _ _ h1
theorem Opens.struct_len {H : Type} {enc : TypeId × Value → H} {P : Program} {w : World} {held : Bool} {fuel : Nat} {t : TypeId} {cs : List Value} {x : DataW H × List MemPlace} {fs : Array Field} (ht : P.underlying t = some (.struct fs)) (h : DataW.trod enc P w 0 (fun _ => true) held fuel t cs = some x) : cs.length = P.cellsOf t := by
  obtain ⟨xs, n, _, _, hl, _⟩ := DataW.trod_struct ht h
  exact hl
theorem Opens.array_len {H : Type} {enc : TypeId × Value → H} {P : Program} {w : World} {held : Bool} {fuel : Nat} {t e : TypeId} {n : Nat} {cs : List Value} {x : DataW H × List MemPlace} (ht : P.underlying t = some (.array n e)) (h : DataW.trod enc P w 0 (fun _ => true) held fuel t cs = some x) : cs.length = P.cellsOf t := by
  obtain ⟨xs, m, _, _, hl, _⟩ := DataW.trod_array ht h
  exact hl
theorem Opens.array2 {α : Type} {P : Program} {t e : TypeId} {d : Kd α} {ok : α → Prop} (ht : P.underlying t = some (.array 2 e)) (h2 : P.cellsOf t = 2) (h1 : P.cellsOf e = 1) (hs : d.sz = 1) (hd : Opens P e d ok) : Opens P t (Kd.pair d d) (fun p => ok p.1 ∧ ok p.2) := by
  intro H enc w held fuel cs x h
  have hl := Opens.array_len ht h
  rw [h2] at hl
  obtain ⟨a, ha, oa⟩ := Opens.elem ht h 0 (by omega) hd
  obtain ⟨b, hb, ob⟩ := Opens.elem ht h 1 (by omega) hd
  rw [h1] at ha hb
  match cs, hl with
  | [c0, c1], _ => exact ⟨(a, b), ⟨[c0], [c1], rfl, ha, hb⟩, oa, ob⟩
theorem Opens.struct2 {α β : Type} {P : Program} {t : TypeId} {d1 : Kd α} {d2 : Kd β} {ok1 : α → Prop} {ok2 : β → Prop} {f1 f2 : Field} (ht : P.underlying t = some (.struct #[f1, f2])) (h3 : P.cellsOf t = 2) (o1 : f1.offset = 0) (n1 : P.cellsOf f1.type = 1) (o2 : f2.offset = 1) (n2 : P.cellsOf f2.type = 1) (hd1 : Opens P f1.type d1 ok1) (hd2 : Opens P f2.type d2 ok2) : Opens P t (Kd.pair d1 d2) (fun p => ok1 p.1 ∧ ok2 p.2) := by
  intro H enc w held fuel cs x h
  have hl := Opens.struct_len ht h
  rw [h3] at hl
  obtain ⟨a, ha, oa⟩ := Opens.field ht h 0 f1 rfl hd1
  obtain ⟨b, hb, ob⟩ := Opens.field ht h 1 f2 rfl hd2
  rw [o1, n1] at ha
  rw [o2, n2] at hb
  match cs, hl with
  | [c0, c1], _ => exact ⟨(a, b), ⟨[c0], [c1], rfl, ha, hb⟩, oa, ob⟩
end Go.Proofs.Ytnaphgnkhhapoaa.F
end
section
namespace Go.Proofs.Ytnaphgnkhhapoaa.Z
open Go.RowKit Go.Proofs.YtnaphgnkhhapoaaW.PrintWords
set_option linter.unusedSimpArgs false
set_option linter.unusedVariables false
def Evt {α : Type} (g : Nat → Option α) (r : α) : Prop := ∃ n, ∀ k, n ≤ k → g k = some r
theorem Evt.pure {α : Type} (r : α) : Evt (fun _ => some r) r := ⟨0, fun _ _ => rfl⟩
theorem Evt.bind {α β : Type} {g : Nat → Option α} {h : α → Nat → Option β} {a : α} {b : β} (h1 : Evt g a) (h2 : Evt (h a) b) : Evt (fun k => (g k).bind fun x => h x k) b := by
  obtain ⟨n, hn⟩ := h1
  obtain ⟨m, hm⟩ := h2
  exact ⟨n + m, fun k hk => by simp only [hn k (by omega), Option.bind_some]; exact hm k (by omega)⟩
theorem Evt.succ {α : Type} {g : Nat → Option α} {r : α} (h : Evt (fun k => g (k + 1)) r) : Evt g r := by
  obtain ⟨n, hn⟩ := h
  refine ⟨n + 1, fun k hk => ?_⟩
  obtain ⟨m, rfl⟩ : ∃ m, k = m + 1 := ⟨k - 1, by omega⟩
  exact hn m (by omega)
theorem Evt.congr {α : Type} {g g' : Nat → Option α} {r r' : α} (h : Evt g r) (hg : ∀ k, g' k = g k) (hr : r = r') : Evt g' r' := by
  subst hr
  obtain ⟨n, hn⟩ := h
  exact ⟨n, fun k hk => (hg k).trans (hn k hk)⟩
theorem Evt.ite_pos {α : Type} {c : Prop} [Decidable c] {g h : Nat → Option α} {r : α} (hc : c) (hg : Evt g r) : Evt (fun k => if c then g k else h k) r := by
  obtain ⟨n, hn⟩ := hg
  exact ⟨n, fun k hk => (if_pos hc).trans (hn k hk)⟩
theorem Evt.ite_neg {α : Type} {c : Prop} [Decidable c] {g h : Nat → Option α} {r : α} (hc : ¬ c) (hg : Evt h r) : Evt (fun k => if c then g k else h k) r := by
  obtain ⟨n, hn⟩ := hg
  exact ⟨n, fun k hk => (if_neg hc).trans (hn k hk)⟩
theorem Evt.cond {α : Type} {c : Prop} [Decidable c] {g h : Nat → Option α} {r s : α} (hg : c → Evt g r) (hh : ¬ c → Evt h s) : Evt (fun k => if c then g k else h k) (if c then r else s) := by
  by_cases hc : c
  · rw [if_pos hc]; exact Evt.ite_pos hc (hg hc)
  · rw [if_neg hc]; exact Evt.ite_neg hc (hh hc)
theorem w64 {x : Int} (h0 : -9223372036854775808 ≤ x) (h1 : x < 9223372036854775808) : wrap64 x = x := by unfold wrap64; omega
theorem wu64 (x : Int) : IntKind.u64.wrap x = x % 18446744073709551616 := by simp [IntKind.wrap, IntKind.bits, IntKind.signed]
theorem wu64_of {x : Int} (h0 : 0 ≤ x) (h1 : x < 18446744073709551616) : IntKind.u64.wrap x = x := by rw [wu64]; omega
theorem rd_getD (l : List Int) (i : Int) : rd l i = l.getD i.toNat 0 := rfl
theorem rd_nat (l : List Int) (i : Nat) : rd l (i : Int) = l.getD i 0 := rfl
def val (B : Int) : List Int → Int
  | [] => 0
  | d :: l => d + B * val B l
def Dig (B : Int) (l : List Int) : Prop := ∀ x, x ∈ l → 0 ≤ x ∧ x < B
def Can (l : List Int) : Prop := ∀ h : l ≠ [], l.getLast h ≠ 0
def strip : List Int → List Int
  | [] => []
  | d :: l => if strip l = [] then (if d = 0 then [] else [d]) else d :: strip l
theorem Dig.nil {B : Int} : Dig B [] := fun _ h => by simp at h
theorem Dig.cons {B d : Int} {l : List Int} : Dig B (d :: l) ↔ (0 ≤ d ∧ d < B) ∧ Dig B l := by
  unfold Dig
  simp
theorem Dig.append {B : Int} {l m : List Int} : Dig B (l ++ m) ↔ Dig B l ∧ Dig B m := by
  unfold Dig
  constructor
  · intro h
    exact ⟨fun x hx => h x (by simp [hx]), fun x hx => h x (by simp [hx])⟩
  · intro h x hx
    rcases List.mem_append.1 hx with hx | hx
    · exact h.1 x hx
    · exact h.2 x hx
theorem Dig.take {B : Int} {l : List Int} (h : Dig B l) (n : Nat) : Dig B (l.take n) := fun x hx => h x (List.mem_of_mem_take hx)
theorem Dig.drop {B : Int} {l : List Int} (h : Dig B l) (n : Nat) : Dig B (l.drop n) := fun x hx => h x (List.mem_of_mem_drop hx)
theorem Dig.getD {B : Int} {l : List Int} (h : Dig B l) (hB : 0 < B) (i : Nat) : 0 ≤ l.getD i 0 ∧ l.getD i 0 < B := by
  rw [List.getD_eq_getElem?_getD]
  cases he : l[i]? with
  | none => simp; omega
  | some x => simpa using h x (List.mem_of_getElem? he)
theorem Dig.set {B : Int} {l : List Int} (h : Dig B l) (i : Nat) {v : Int} (hv : 0 ≤ v ∧ v < B) : Dig B (l.set i v) := by
  intro x hx
  rcases List.mem_or_eq_of_mem_set hx with hx | rfl
  · exact h x hx
  · exact hv
theorem Dig.replicate {B : Int} (hB : 0 < B) (n : Nat) : Dig B (List.replicate n 0) := by
  intro x hx
  have := List.eq_of_mem_replicate hx
  omega
theorem val_append (B : Int) (l m : List Int) : val B (l ++ m) = val B l + B ^ l.length * val B m := by
  induction l with
  | nil => simp [val]
  | cons d l ih => simp only [List.cons_append, val, ih, List.length_cons, Int.pow_succ]; grind
theorem val_replicate (B : Int) (n : Nat) : val B (List.replicate n 0) = 0 := by
  induction n with
  | zero => rfl
  | succ n ih => simp [List.replicate_succ, val, ih]
theorem val_nonneg {B : Int} (hB : 0 < B) {l : List Int} (h : Dig B l) : 0 ≤ val B l := by
  induction l with
  | nil => simp [val]
  | cons d l ih =>
    have h' := Dig.cons.1 h
    have h1 := ih h'.2
    have : 0 ≤ B * val B l := Int.mul_nonneg (by omega) h1
    simp only [val]
    omega
theorem val_lt {B : Int} (hB : 0 < B) {l : List Int} (h : Dig B l) : val B l < B ^ l.length := by
  induction l with
  | nil => simp [val]
  | cons d l ih =>
    have h' := Dig.cons.1 h
    have h1 := ih h'.2
    have h2 : B * val B l ≤ B * (B ^ l.length - 1) := Int.mul_le_mul_of_nonneg_left (by omega) (by omega)
    have h3 : B * (B ^ l.length - 1) = B * B ^ l.length - B := by grind
    simp only [val, List.length_cons, Int.pow_succ]
    have h4 : B ^ l.length * B = B * B ^ l.length := Int.mul_comm _ _
    omega
theorem Can.nil : Can [] := fun h => absurd rfl h
theorem Can.tail {d : Int} {l : List Int} (h : Can (d :: l)) : Can l := by
  intro hl
  have := h (by simp)
  rwa [List.getLast_cons hl] at this
theorem Can.one {d : Int} (h : d ≠ 0) : Can [d] := fun _ => by simpa using h
theorem Can.cons {d : Int} {l : List Int} (h : Can l) (hl : l ≠ []) : Can (d :: l) := by
  intro _
  rw [List.getLast_cons hl]
  exact h hl
theorem val_pos {B : Int} (hB : 0 < B) {l : List Int} (h : Dig B l) (hc : Can l) (hl : l ≠ []) : B ^ (l.length - 1) ≤ val B l := by
  induction l with
  | nil => exact absurd rfl hl
  | cons d l ih =>
    have h' := Dig.cons.1 h
    by_cases e : l = []
    · subst e
      have := hc (by simp)
      simp [val] at this ⊢
      omega
    · have h1 := ih h'.2 hc.tail e
      have h2 : l.length - 1 + 1 = l.length := by have := List.length_pos_iff.2 e; omega
      simp only [val, List.length_cons, Nat.add_sub_cancel]
      rw [← h2, Int.pow_succ, Int.mul_comm]
      have : B * B ^ (l.length - 1) ≤ B * val B l := Int.mul_le_mul_of_nonneg_left h1 (by omega)
      omega
theorem val_zero {B : Int} (hB : 0 < B) {l : List Int} (h : Dig B l) (hc : Can l) (h0 : val B l = 0) : l = [] := by
  by_cases e : l = []
  · exact e
  · have := val_pos hB h hc e
    have h2 : 0 < B ^ (l.length - 1) := Int.pow_pos hB
    omega
theorem val_inj {B : Int} (hB : 0 < B) {l m : List Int} (hl : Dig B l) (hm : Dig B m) (cl : Can l) (cm : Can m) (h : val B l = val B m) : l = m := by
  induction l generalizing m with
  | nil => exact (val_zero hB hm cm h.symm).symm
  | cons d l ih =>
    cases m with
    | nil => exact val_zero hB hl cl h
    | cons e m =>
      have h1 := Dig.cons.1 hl
      have h2 := Dig.cons.1 hm
      simp only [val] at h
      have h3 : d = e := by
        have a1 : (d + B * val B l) % B = d := by rw [Int.add_mul_emod_self_left]; exact Int.emod_eq_of_lt h1.1.1 h1.1.2
        have a2 : (e + B * val B m) % B = e := by rw [Int.add_mul_emod_self_left]; exact Int.emod_eq_of_lt h2.1.1 h2.1.2
        rw [← a1, ← a2, h]
      subst h3
      have h4 : val B l = val B m := by
        have : B * val B l = B * val B m := by omega
        exact Int.eq_of_mul_eq_mul_left (by omega) this
      rw [ih h1.2 h2.2 cl.tail cm.tail h4]
theorem strip_val (B : Int) (l : List Int) : val B (strip l) = val B l := by
  induction l with
  | nil => rfl
  | cons d l ih =>
    simp only [strip]
    split
    · rename_i h
      rw [h] at ih
      simp only [val] at ih
      split
      · rename_i h0; simp [val, ← ih, h0]
      · simp [val, ← ih]
    · simp [val, ih]
theorem strip_can (l : List Int) : Can (strip l) := by
  induction l with
  | nil => exact Can.nil
  | cons d l ih =>
    simp only [strip]
    split
    · split
      · exact Can.nil
      · rename_i h; exact Can.one h
    · rename_i h; exact ih.cons h
theorem strip_dig {B : Int} {l : List Int} (h : Dig B l) : Dig B (strip l) := by
  induction l with
  | nil => exact Dig.nil
  | cons d l ih =>
    have h' := Dig.cons.1 h
    simp only [strip]
    split
    · split
      · exact Dig.nil
      · exact Dig.cons.2 ⟨h'.1, Dig.nil⟩
    · exact Dig.cons.2 ⟨h'.1, ih h'.2⟩
theorem strip_of_can {l : List Int} (h : Can l) : strip l = l := by
  induction l with
  | nil => rfl
  | cons d l ih =>
    simp only [strip]
    rw [ih h.tail]
    split
    · rename_i e
      subst e
      have := h (by simp)
      simp at this
      simp [this]
    · rfl
theorem strip_snoc_zero (l : List Int) : strip (l ++ [0]) = strip l := by
  induction l with
  | nil => simp [strip]
  | cons d l ih => simp only [List.cons_append, strip, ih]
theorem strip_snoc {l : List Int} {d : Int} (h : d ≠ 0) : strip (l ++ [d]) = l ++ [d] := by
  apply strip_of_can
  intro hl
  simpa using h
theorem pow_mono {B : Int} (hB : 0 < B) {m n : Nat} (h : m ≤ n) : B ^ m ≤ B ^ n := by
  induction n with
  | zero => have : m = 0 := by omega
            subst this
            exact Int.le_refl _
  | succ n ih =>
    by_cases e : m = n + 1
    · subst e
      exact Int.le_refl _
    · have h1 := ih (by omega)
      have h2 : 0 < B ^ n := Int.pow_pos hB
      have h3 : 1 * B ^ n ≤ B * B ^ n := Int.mul_le_mul_of_nonneg_right (by omega) (by omega)
      rw [Int.pow_succ, Int.mul_comm]
      omega
theorem val_lt_of_length {B : Int} (hB : 0 < B) {l m : List Int} (hl : Dig B l) (hm : Dig B m) (cm : Can m) (h : l.length < m.length) : val B l < val B m := by
  have h1 := val_lt hB hl
  have h2 := val_pos hB hm cm (by intro e; subst e; simp at h)
  have h3 : B ^ l.length ≤ B ^ (m.length - 1) := pow_mono hB (by omega)
  omega
def rightB (l : List Int) : Bool := decide (l.length ≤ 64) && ((l.length == 0) || (l.getD (l.length - 1) 0 != 0))
theorem can_iff (l : List Int) : Can l ↔ ((l.length == 0) || (l.getD (l.length - 1) 0 != 0)) = true := by
  cases l with
  | nil => simp [Can]
  | cons d l =>
    have h : (d :: l).getLast (by simp) = (d :: l).getD ((d :: l).length - 1) 0 := by
      rw [List.getLast_eq_getElem]
      simp
    unfold Can
    simp only [List.length_cons, Nat.add_one_ne_zero, beq_iff_eq, Bool.or_eq_true, bne_iff_ne, false_or]
    constructor
    · intro hc
      have := hc (by simp)
      rw [h] at this
      exact this
    · intro hc _
      rw [h]
      exact hc
theorem rightB_iff (l : List Int) : rightB l = true ↔ l.length ≤ 64 ∧ Can l := by
  unfold rightB
  rw [Bool.and_eq_true, decide_eq_true_iff, ← can_iff]
def smallV (l : List Int) : Int × Bool := if rightB l = true ∧ l.length ≤ 1 then (l.getD 0 0, true) else (0, false)
def toD (B : Nat) (v : Nat) : List Int := if h : 2 ≤ B ∧ 0 < v then ((v % B : Nat) : Int) :: toD B (v / B) else []
termination_by v
decreasing_by exact Nat.div_lt_self h.2 (by omega)
theorem toD_zero (B : Nat) : toD B 0 = [] := by rw [toD]; simp
theorem toD_pos {B v : Nat} (hB : 2 ≤ B) (hv : 0 < v) : toD B v = ((v % B : Nat) : Int) :: toD B (v / B) := by rw [toD]; simp [hB, hv]
theorem toD_dig {B : Nat} (hB : 2 ≤ B) (v : Nat) : Dig (B : Int) (toD B v) := by
  induction v using Nat.strongRecOn with
  | _ v ih =>
    by_cases hv : v = 0
    · subst hv; rw [toD_zero]; exact Dig.nil
    · rw [toD_pos hB (by omega)]
      have := Nat.mod_lt v (show B > 0 by omega)
      exact Dig.cons.2 ⟨by omega, ih _ (Nat.div_lt_self (by omega) (by omega))⟩
theorem toD_eq_nil {B v : Nat} (hB : 2 ≤ B) : toD B v = [] ↔ v = 0 := by
  constructor
  · intro h
    by_cases hv : v = 0
    · exact hv
    · rw [toD_pos hB (by omega)] at h; cases h
  · rintro rfl; exact toD_zero B
theorem toD_can {B : Nat} (hB : 2 ≤ B) (v : Nat) : Can (toD B v) := by
  induction v using Nat.strongRecOn with
  | _ v ih =>
    by_cases hv : v = 0
    · subst hv; rw [toD_zero]; exact Can.nil
    · rw [toD_pos hB (by omega)]
      by_cases hq : v / B = 0
      · rw [hq, toD_zero]
        have hlt : v < B := (Nat.div_eq_zero_iff_lt (by omega)).1 hq
        rw [Nat.mod_eq_of_lt hlt]
        exact Can.one (by omega)
      · exact (ih _ (Nat.div_lt_self (by omega) (by omega))).cons (fun e => hq ((toD_eq_nil hB).1 e))
theorem val_toD {B : Nat} (hB : 2 ≤ B) (v : Nat) : val (B : Int) (toD B v) = (v : Int) := by
  induction v using Nat.strongRecOn with
  | _ v ih =>
    by_cases hv : v = 0
    · subst hv; rw [toD_zero]; rfl
    · rw [toD_pos hB (by omega)]
      simp only [val]
      rw [ih _ (Nat.div_lt_self (by omega) (by omega))]
      have h2 := Nat.mod_add_div v B
      have h3 : ((v % B + B * (v / B) : Nat) : Int) = (v : Int) := by rw [h2]
      simpa using h3
theorem strip_toD {B : Nat} (hB : 2 ≤ B) {l : List Int} (h : Dig (B : Int) l) : strip l = toD B (val (B : Int) l).toNat := by
  have h0 : (0 : Int) < (B : Int) := by omega
  refine val_inj h0 (strip_dig h) (toD_dig hB _) (strip_can l) (toD_can hB _) ?_
  rw [strip_val, val_toD hB]
  have := val_nonneg h0 h
  omega
theorem can_toD {B : Nat} (hB : 2 ≤ B) {l : List Int} (h : Dig (B : Int) l) (hc : Can l) : l = toD B (val (B : Int) l).toNat := by
  rw [← strip_toD hB h, strip_of_can hc]
theorem pow_cast (B n : Nat) : ((B : Int)) ^ n = ((B ^ n : Nat) : Int) := by simp
theorem toD_len_le {B : Nat} (hB : 2 ≤ B) {v n : Nat} (h : v < B ^ n) : (toD B v).length ≤ n := by
  by_cases hv : v = 0
  · subst hv; rw [toD_zero]; simp
  · have h1 := val_pos (show (0 : Int) < (B : Int) by omega) (toD_dig hB v) (toD_can hB v) (fun e => hv ((toD_eq_nil hB).1 e))
    rw [val_toD hB, pow_cast] at h1
    have h2 : B ^ ((toD B v).length - 1) ≤ v := by omega
    have h3 : B ^ ((toD B v).length - 1) < B ^ n := by omega
    have h4 := (Nat.pow_lt_pow_iff_right (show 1 < B by omega)).1 h3
    omega
theorem toD_lt_pow {B : Nat} (hB : 2 ≤ B) (v : Nat) : v < B ^ (toD B v).length := by
  have h1 := val_lt (show (0 : Int) < (B : Int) by omega) (toD_dig hB v)
  rw [val_toD hB, pow_cast] at h1
  omega
theorem toD_len_iff {B : Nat} (hB : 2 ≤ B) (v n : Nat) : (toD B v).length ≤ n ↔ v < B ^ n :=
  ⟨fun h => Nat.lt_of_lt_of_le (toD_lt_pow hB v) (Nat.pow_le_pow_right (by omega) h), toD_len_le hB⟩
def b64 : Nat := 18446744073709551616
def b16 : Nat := 65536
theorem b64_two : 2 ≤ b64 := by decide
theorem b16_two : 2 ≤ b16 := by decide
theorem b64_pow : b64 = b16 ^ 4 := by decide
def num (l : List Int) : Nat := (val (b64 : Int) l).toNat
def num16 (l : List Int) : Nat := (val (b16 : Int) l).toNat
abbrev limbs (v : Nat) : List Int := toD b64 v
abbrev digs (v : Nat) : List Int := toD b16 v
theorem b64_pos : (0 : Int) < (b64 : Int) := by decide
theorem b16_pos : (0 : Int) < (b16 : Int) := by decide
theorem num_val {l : List Int} (h : Dig (b64 : Int) l) : (num l : Int) = val (b64 : Int) l := by
  have := val_nonneg b64_pos h
  unfold num; omega
theorem num16_val {l : List Int} (h : Dig (b16 : Int) l) : (num16 l : Int) = val (b16 : Int) l := by
  have := val_nonneg b16_pos h
  unfold num16; omega
theorem num_limbs (v : Nat) : num (limbs v) = v := by unfold num limbs; rw [val_toD b64_two]; omega
theorem num16_digs (v : Nat) : num16 (digs v) = v := by unfold num16 digs; rw [val_toD b16_two]; omega
theorem limbs_num {l : List Int} (h : Dig (b64 : Int) l) (hc : Can l) : limbs (num l) = l := (can_toD b64_two h hc).symm
theorem digs_num {l : List Int} (h : Dig (b16 : Int) l) (hc : Can l) : digs (num16 l) = l := (can_toD b16_two h hc).symm
theorem strip_limbs {l : List Int} (h : Dig (b64 : Int) l) : strip l = limbs (num l) := strip_toD b64_two h
theorem strip_digs {l : List Int} (h : Dig (b16 : Int) l) : strip l = digs (num16 l) := strip_toD b16_two h
theorem num_lt {l : List Int} (h : Dig (b64 : Int) l) : num l < b64 ^ l.length := by
  have h1 := val_lt b64_pos h
  rw [← num_val h, pow_cast] at h1
  omega
theorem num16_nil : num16 [] = 0 := rfl
def thousand : Nat := 1000
def lim : Nat := b64 ^ thousand
theorem lim_pow {n : Nat} (h : n ≤ 1000) : b64 ^ n ≤ lim := Nat.pow_le_pow_right (by decide) (show n ≤ thousand from h)
theorem num_lt_lim {l : List Int} (h : Dig (b64 : Int) l) (hl : l.length ≤ 1000) : num l < lim := Nat.lt_of_lt_of_le (num_lt h) (lim_pow hl)
theorem digs_len {v : Nat} (hv : v < lim) : (digs v).length ≤ 4000 := by
  have h : lim = b16 ^ (4 * thousand) := by
    unfold lim
    rw [b64_pow, ← Nat.pow_mul]
  rw [h] at hv
  have h2 := toD_len_le b16_two hv
  exact Nat.le_trans h2 (by decide)
theorem b64_pow2 (m : Nat) : b64 ^ m = 2 ^ (64 * m) := by
  have h : b64 = 2 ^ 64 := by decide
  rw [h, ← Nat.pow_mul]
theorem pow2_le_b64 {n m : Nat} (h : n ≤ 64 * m) : 2 ^ n ≤ b64 ^ m := by
  rw [b64_pow2]
  exact Nat.pow_le_pow_right (by decide) h
theorem b64_le_pow2 {n m : Nat} (h : 64 * m ≤ n) : b64 ^ m ≤ 2 ^ n := by
  rw [b64_pow2]
  exact Nat.pow_le_pow_right (by decide) h
theorem num_lt_p {a : List Int} (da : Dig (b64 : Int) a) (ha : a.length ≤ 64) : num a < b64 ^ 64 := Nat.lt_of_lt_of_le (num_lt da) (Nat.pow_le_pow_right (show b64 > 0 by decide) ha)
def cmpN (x y : Nat) : Int := if x < y then -1 else if x = y then 0 else 1
def toldV (v : Nat) : List Int × Int := if v < b64 ^ 64 then (limbs v, 0) else ([], 4)
theorem limbs_long (v : Nat) : (limbs v).length ≤ 64 ↔ v < b64 ^ 64 := toD_len_iff b64_two v 64
theorem val_base (l : List Int) (hl : Dig (b64 : Int) l) : ∃ m, Dig (b16 : Int) m ∧ m.length = 4 * l.length ∧ val (b16 : Int) m = val (b64 : Int) l ∧ m = l.flatMap (fun x => [x % 65536, x / 65536 % 65536, x / 65536 / 65536 % 65536, x / 65536 / 65536 / 65536 % 65536]) := by
  induction l with
  | nil => exact ⟨[], Dig.nil, rfl, rfl, rfl⟩
  | cons d l ih =>
    have h1 := Dig.cons.1 hl
    obtain ⟨m, hm, hlen, hv, he⟩ := ih h1.2
    refine ⟨[d % 65536, d / 65536 % 65536, d / 65536 / 65536 % 65536, d / 65536 / 65536 / 65536 % 65536] ++ m, ?_, ?_, ?_, ?_⟩
    · refine Dig.append.2 ⟨?_, hm⟩
      intro x hx
      simp only [List.mem_cons, List.not_mem_nil, or_false] at hx
      simp only [b16]
      omega
    · simp only [List.length_append, List.length_cons, List.length_nil, hlen]; omega
    · rw [val_append, hv]
      have h2 := h1.1
      simp only [b64] at h2 ⊢
      simp only [val, b16, List.length_cons, List.length_nil]
      omega
    · simp only [List.flatMap_cons, ← he]
def bl (n : Nat) : Nat := if n = 0 then 0 else n.log2 + 1
theorem bl_zero : bl 0 = 0 := rfl
theorem bl_lt (n : Nat) : n < 2 ^ bl n := by
  unfold bl
  by_cases h : n = 0
  · subst h; decide
  · rw [if_neg h]; exact Nat.lt_log2_self
theorem bl_ge {n : Nat} (h : n ≠ 0) : 2 ^ (bl n - 1) ≤ n := by
  unfold bl
  rw [if_neg h, Nat.add_sub_cancel]
  exact Nat.log2_self_le h
theorem bl_pos {n : Nat} (h : n ≠ 0) : 0 < bl n := by unfold bl; rw [if_neg h]; omega
theorem bl_unique {n m : Nat} (h1 : n < 2 ^ m) (h2 : m = 0 ∨ 2 ^ (m - 1) ≤ n) : bl n = m := by
  by_cases h : n = 0
  · subst h
    rcases h2 with h2 | h2
    · rw [h2]; rfl
    · have := Nat.pow_pos (a := 2) (n := m - 1) (by decide)
      omega
  · have a1 := bl_lt n
    have a2 := bl_ge h
    have a3 := bl_pos h
    have hm : 0 < m := by
      by_cases e : m = 0
      · subst e; simp at h1; omega
      · omega
    have b1 : bl n - 1 < m := (Nat.pow_lt_pow_iff_right (a := 2) (by decide)).1 (by omega)
    have b2 : m - 1 < bl n := by
      rcases h2 with h2 | h2
      · omega
      · exact (Nat.pow_lt_pow_iff_right (a := 2) (by decide)).1 (by omega)
    omega
theorem bl_shift (n s : Nat) (h : n / 2 ^ s ≠ 0) : bl n = s + bl (n / 2 ^ s) := by
  have a1 := bl_lt (n / 2 ^ s)
  have a2 := bl_ge h
  have a3 := bl_pos h
  have hp : 0 < 2 ^ s := Nat.pow_pos (by decide)
  refine bl_unique ?_ (Or.inr ?_)
  · rw [Nat.pow_add]
    have := Nat.lt_mul_of_div_lt a1 hp
    rw [Nat.mul_comm]
    exact this
  · rw [show s + bl (n / 2 ^ s) - 1 = s + (bl (n / 2 ^ s) - 1) from by omega, Nat.pow_add]
    have := Nat.mul_le_mul_left (2 ^ s) a2
    exact Nat.le_trans this (Nat.mul_div_le n (2 ^ s))
theorem bl_half {n : Nat} (h : n ≠ 0) : bl n = bl (n / 2) + 1 := by
  by_cases h1 : n / 2 = 0
  · have : n = 1 := by omega
    subst this
    decide
  · have := bl_shift n 1 (by simpa using h1)
    simp only [Nat.pow_one] at this
    omega
theorem bl_le {x m : Nat} (h : x < 2 ^ m) : bl x ≤ m := by
  by_cases hx : x = 0
  · subst hx; exact Nat.zero_le _
  · have a2 := bl_ge hx
    have a3 := bl_pos hx
    have : bl x - 1 < m := (Nat.pow_lt_pow_iff_right (a := 2) (by decide)).1 (by omega)
    omega
theorem bl_le8 {x : Nat} (h : x < 256) : bl x ≤ 8 := bl_le h
def bitsV (a : List Int) : Int := if rightB a = true ∧ a.length ≠ 0 then 64 * ((a.length : Int) - 1) + ((bl (a.getD (a.length - 1) 0).toNat : Nat) : Int) else 0
theorem mul_pow_lim {a : List Int} (da : Dig (b64 : Int) a) (ha : a.length ≤ 64) {n : Nat} (hn : n ≤ 4096) : num a * 2 ^ n < lim := by
  have h1 := num_lt_p da ha
  have h2 : 2 ^ n ≤ b64 ^ 64 := pow2_le_b64 (by omega)
  have h3 : num a * 2 ^ n ≤ num a * b64 ^ 64 := Nat.mul_le_mul_left _ h2
  have h4 : num a * b64 ^ 64 < b64 ^ 64 * b64 ^ 64 := Nat.mul_lt_mul_of_pos_right h1 (Nat.pow_pos (by decide))
  rw [← Nat.pow_add] at h4
  exact Nat.lt_of_le_of_lt h3 (Nat.lt_of_lt_of_le h4 (lim_pow (by omega)))
theorem pow2_lim {n : Nat} (hn : n ≤ 4096) : 2 ^ n * 65536 < lim := by
  have h2 : 2 ^ n ≤ b64 ^ 64 := pow2_le_b64 (by omega)
  have h3 : 2 ^ n * 65536 ≤ b64 ^ 64 * 65536 := Nat.mul_le_mul_right _ h2
  have h4 : b64 ^ 64 * 65536 < b64 ^ 64 * b64 := Nat.mul_lt_mul_of_pos_left (by decide) (Nat.pow_pos (by decide))
  have h5 : b64 ^ (64 + 1) ≤ lim := lim_pow (by omega)
  rw [Nat.pow_succ] at h5
  exact Nat.lt_of_le_of_lt h3 (Nat.lt_of_lt_of_le h4 h5)
end Go.Proofs.Ytnaphgnkhhapoaa.Z
end
section
namespace Go.Proofs.Ytnaphgnkhhapoaa.Z
open Go.RowKit Go.Proofs.Ytnaphgnkhhapoaa.F Go.Proofs.YtnaphgnkhhapoaaW.PrintWords
set_option linter.unusedSimpArgs false
set_option linter.unusedVariables false
theorem set_at {α : Type} (p : List α) (x v : α) (r : List α) : (p ++ x :: r).set p.length v = p ++ v :: r := by simp
theorem nat_trim_loop (l : List Int) (h : l.length ≤ maxLen) : ∀ n : Nat, n ≤ l.length → Evt (fun k => nat_trim.l0 k l (n : Int)) (strip (l.take n)) := by
  unfold maxLen at h
  intro n
  induction n with
  | zero =>
    intro _
    refine Evt.succ ?_
    simp only [nat_trim.l0]
    refine Evt.ite_neg (by omega) (Evt.ite_pos (by omega) (Evt.ite_pos (by omega) ?_))
    simp [strip]
    exact Evt.pure _
  | succ n ih =>
    intro hn
    refine Evt.succ ?_
    simp only [nat_trim.l0]
    rw [w64 (by omega) (by omega), show ((n + 1 : Nat) : Int) - 1 = (n : Int) from by omega]
    refine Evt.ite_pos (by omega) (Evt.ite_pos (by omega) (Evt.ite_pos (by omega) ?_))
    rw [rd_nat, List.take_succ_eq_append_getElem (show n < l.length by omega)]
    have hg : l.getD n 0 = l[n] := by simp [show n < l.length by omega]
    rw [hg]
    by_cases h0 : l[n] = 0
    · rw [h0, strip_snoc_zero]
      exact Evt.ite_pos rfl (ih (by omega))
    · rw [strip_snoc h0]
      refine Evt.ite_neg h0 (Evt.ite_pos (by omega) (Evt.ite_pos (by omega) ?_))
      rw [← List.take_succ_eq_append_getElem (show n < l.length by omega)]
      exact Evt.pure _
theorem nat_trim_ev (l : List Int) (h : l.length ≤ maxLen) : Evt (fun k => nat_trim.f k l) (strip l) := by
  have := nat_trim_loop l h l.length (Nat.le_refl _)
  exact this.congr (fun k => rfl) (by rw [List.take_length])
theorem nat_told_ev (l : List Int) (h : l.length ≤ 1000000) (d : Dig (b64 : Int) l) : Evt (fun k => nat_told.f k l) (toldV (num l)) := by
  unfold nat_told.f toldV
  refine Evt.bind (nat_trim_ev l (by simp [maxLen]; omega)) ?_
  rw [strip_limbs d]
  have hl := limbs_long (num l)
  by_cases h1 : num l < b64 ^ 64
  · rw [if_pos h1]
    have := hl.2 h1
    exact Evt.ite_neg (by omega) (Evt.pure _)
  · rw [if_neg h1]
    have : ¬ (limbs (num l)).length ≤ 64 := fun hh => h1 (hl.1 hh)
    exact Evt.ite_pos (by omega) (Evt.pure _)
theorem strip_split (l : List Int) : ∃ n, l = strip l ++ List.replicate n 0 := by
  induction l with
  | nil => exact ⟨0, rfl⟩
  | cons d l ih =>
    obtain ⟨n, hn⟩ := ih
    simp only [strip]
    by_cases h : strip l = []
    · rw [if_pos h]
      rw [h, List.nil_append] at hn
      by_cases h0 : d = 0
      · rw [if_pos h0]
        refine ⟨n + 1, ?_⟩
        rw [h0, List.replicate_succ, List.nil_append, ← hn]
      · rw [if_neg h0]
        refine ⟨n, ?_⟩
        rw [List.singleton_append, ← hn]
    · rw [if_neg h]
      refine ⟨n, ?_⟩
      rw [List.cons_append, ← hn]
theorem can_of_val {B : Nat} (hB : 2 ≤ B) {l : List Int} (h : Dig (B : Int) l) (hv : l ≠ [] → (B : Int) ^ (l.length - 1) ≤ val (B : Int) l) : Can l := by
  by_cases e : l = []
  · subst e; exact Can.nil
  · have h1 := hv e
    obtain ⟨n, hn⟩ := strip_split l
    have h2 := val_lt (show (0 : Int) < (B : Int) by omega) (strip_dig h)
    rw [strip_val] at h2
    have h3 : l.length = (strip l).length + n := by
      have := congrArg List.length hn
      simpa using this
    have h4 : n = 0 := by
      by_cases hn0 : n = 0
      · exact hn0
      · have := pow_mono (show (0 : Int) < (B : Int) by omega) (show (strip l).length ≤ l.length - 1 by omega)
        omega
    subst h4
    rw [List.replicate_zero, List.append_nil] at hn
    rw [hn]
    exact strip_can l
def grp (d : List Int) : Int := d.getD 0 0 + 65536 * (d.getD 1 0 + 65536 * (d.getD 2 0 + 65536 * d.getD 3 0))
def outN : Nat → List Int → List Int
  | 0, _ => []
  | n + 1, d => grp d :: outN n (d.drop 4)
theorem grp_range {d : List Int} (h : Dig (b16 : Int) d) : 0 ≤ grp d ∧ grp d < (b64 : Int) := by
  have h0 := h.getD b16_pos 0
  have h1 := h.getD b16_pos 1
  have h2 := h.getD b16_pos 2
  have h3 := h.getD b16_pos 3
  unfold grp
  simp only [b16, b64] at *
  omega
theorem val_four (d : List Int) : val (b16 : Int) d = grp d + (b64 : Int) * val (b16 : Int) (d.drop 4) := by
  unfold grp
  simp only [b16, b64]
  match d with
  | [] => simp [val]
  | [a] => simp [val]
  | [a, b] => simp [val]
  | [a, b, c] => simp [val]
  | a :: b :: c :: e :: d => simp [val]; omega
theorem outN_facts (n : Nat) : ∀ d : List Int, Dig (b16 : Int) d → d.length ≤ 4 * n → Dig (b64 : Int) (outN n d) ∧ val (b64 : Int) (outN n d) = val (b16 : Int) d ∧ (outN n d).length = n := by
  induction n with
  | zero =>
    intro d _ h
    have : d = [] := List.length_eq_zero_iff.1 (by omega)
    subst this
    exact ⟨Dig.nil, rfl, rfl⟩
  | succ n ih =>
    intro d hd h
    obtain ⟨i1, i2, i3⟩ := ih (d.drop 4) (hd.drop 4) (by simp; omega)
    refine ⟨Dig.cons.2 ⟨grp_range hd, i1⟩, ?_, by simp [outN, i3]⟩
    rw [val_four d]
    simp only [outN, val, i2]
theorem out_limbs (v : Nat) : outN (((digs v).length + 3) / 4) (digs v) = limbs v := by
  obtain ⟨f1, f2, f3⟩ := outN_facts (((digs v).length + 3) / 4) (digs v) (toD_dig b16_two v) (by omega)
  rw [val_toD b16_two] at f2
  have hc : Can (outN (((digs v).length + 3) / 4) (digs v)) := by
    refine can_of_val b64_two f1 (fun hne => ?_)
    rw [f2, f3, b64_pow, pow_cast, ← Nat.pow_mul]
    have hl : 0 < ((digs v).length + 3) / 4 := by rw [← f3]; exact List.length_pos_iff.2 hne
    have hd : digs v ≠ [] := by intro e; rw [e] at hl; simp at hl
    have h1 := val_pos b16_pos (toD_dig b16_two v) (toD_can b16_two v) hd
    rw [val_toD b16_two, pow_cast] at h1
    have h2 : b16 ^ (4 * (((digs v).length + 3) / 4 - 1)) ≤ b16 ^ ((digs v).length - 1) := Nat.pow_le_pow_right (by decide) (by omega)
    exact Int.le_trans (Int.ofNat_le.2 h2) h1
  have := limbs_num f1 hc
  rw [← this]
  unfold num
  rw [f2]
  rfl
theorem out_inner (d acc : List Int) (i : Nat) (hd : Dig (b16 : Int) d) (hacc : acc.length ≤ 1000000) (hi : i ≤ 4000000) {r : List Int × Bool}
    (h : Evt (fun k => windbreakref01_Out.l0 k d (acc ++ [grp (d.drop i)]) ((i + 4 : Nat) : Int)) r) : Evt (fun k => windbreakref01_Out.l1 k d acc (i : Int) 0 3) r := by
  have step : ∀ (x : Int) (j : Nat), j ≤ 3 → 0 ≤ x → x * 65536 + 65535 < 18446744073709551616 →
      Evt (fun k => windbreakref01_Out.l1 k d acc (i : Int) (x * 65536 + (d.drop i).getD j 0) ((j : Int) - 1)) r →
      Evt (fun k => windbreakref01_Out.l1 k d acc (i : Int) x (j : Int)) r := by
    intro x j hj hx hx2 hs
    have hdig := (hd.drop i).getD b16_pos j
    simp only [b16] at hdig
    refine Evt.succ ?_
    simp only [windbreakref01_Out.l1]
    refine Evt.ite_pos (by omega) ?_
    rw [w64 (show -9223372036854775808 ≤ (i : Int) + (j : Int) by omega) (by omega), w64 (show -9223372036854775808 ≤ (j : Int) - 1 by omega) (by omega), wu64_of (show 0 ≤ x * 65536 by omega) (by omega)]
    by_cases hlt : i + j < d.length
    · refine Evt.ite_pos (by omega) (Evt.ite_pos (by omega) ?_)
      have e : rd d ((i : Int) + (j : Int)) = (d.drop i).getD j 0 := by
        rw [rd_getD, show ((i : Int) + (j : Int)).toNat = i + j from by omega]
        simp [List.getD_eq_getElem?_getD]
      rw [e, wu64_of (by omega) (by omega)]
      exact hs
    · refine Evt.ite_neg (by omega) ?_
      have e : (d.drop i).getD j 0 = 0 := by
        simp [List.getD_eq_getElem?_getD, List.getElem?_eq_none (by omega : d.length ≤ i + j)]
      rw [e, Int.add_zero] at hs
      exact hs
  have h0 := (hd.drop i).getD b16_pos 0
  have h1 := (hd.drop i).getD b16_pos 1
  have h2 := (hd.drop i).getD b16_pos 2
  have h3 := (hd.drop i).getD b16_pos 3
  simp only [b16] at h0 h1 h2 h3
  refine step 0 3 (by omega) (by omega) (by omega) ?_
  refine (step (0 * 65536 + (d.drop i).getD 3 0) 2 (by omega) (by omega) (by omega) ?_).congr (fun k => rfl) rfl
  refine (step ((0 * 65536 + (d.drop i).getD 3 0) * 65536 + (d.drop i).getD 2 0) 1 (by omega) (by omega) (by omega) ?_).congr (fun k => rfl) rfl
  refine (step (((0 * 65536 + (d.drop i).getD 3 0) * 65536 + (d.drop i).getD 2 0) * 65536 + (d.drop i).getD 1 0) 0 (by omega) (by omega) (by omega) ?_).congr (fun k => rfl) rfl
  refine Evt.succ ?_
  simp only [windbreakref01_Out.l1]
  refine Evt.ite_neg (by omega) (Evt.ite_pos (by omega) ?_)
  rw [w64 (by omega) (by omega)]
  refine h.congr (fun k => ?_) rfl
  have e : (((0 * 65536 + (d.drop i).getD 3 0) * 65536 + (d.drop i).getD 2 0) * 65536 + (d.drop i).getD 1 0) * 65536 + (d.drop i).getD 0 0 = grp (d.drop i) := by
    unfold grp; omega
  rw [e, show (i : Int) + 4 = ((i + 4 : Nat) : Int) from by omega]
theorem out_loop (d : List Int) (hd : Dig (b16 : Int) d) (hlen : d.length ≤ 1000000) (n : Nat) : ∀ (i : Nat) (acc : List Int), acc.length ≤ i → i ≤ d.length + 3 → (d.length - i + 3) / 4 = n →
    Evt (fun k => windbreakref01_Out.l0 k d acc (i : Int)) (acc ++ outN n (d.drop i), decide ((acc ++ outN n (d.drop i)).length ≤ 64)) := by
  induction n with
  | zero =>
    intro i acc hacc hi hn
    refine Evt.succ ?_
    simp only [windbreakref01_Out.l0]
    refine Evt.ite_neg (by omega) ?_
    simp only [outN, List.append_nil]
    refine (Evt.pure _).congr (fun k => rfl) ?_
    congr 1
    simp only [decide_eq_decide]
    omega
  | succ n ih =>
    intro i acc hacc hi hn
    refine Evt.succ ?_
    simp only [windbreakref01_Out.l0]
    refine Evt.ite_pos (by omega) ?_
    refine out_inner d acc i hd (by omega) (by omega) ?_
    refine (ih (i + 4) (acc ++ [grp (d.drop i)]) (by simp; omega) (by omega) (by omega)).congr (fun k => rfl) ?_
    simp [outN, List.drop_drop]
theorem ref_Out_ev (v : Nat) (hv : v < lim) : Evt (fun k => windbreakref01_Out.f k (digs v)) (limbs v, decide (v < b64 ^ 64)) := by
  have hlen : (digs v).length ≤ 1000000 := Nat.le_trans (digs_len hv) (by omega)
  have h := out_loop (digs v) (toD_dig b16_two v) hlen (((digs v).length + 3) / 4) 0 [] (Nat.le_refl _) (by omega) (by omega)
  refine h.congr (fun k => rfl) ?_
  rw [List.nil_append, List.drop_zero, out_limbs]
  have := limbs_long v
  simp only [this]
theorem ref_told_ev (v : Nat) (hv : v < lim) : Evt (fun k => windbreakref01_told.f k (digs v)) (toldV v) := by
  unfold windbreakref01_told.f toldV
  refine Evt.bind (ref_Out_ev v hv) ?_
  by_cases h : v < b64 ^ 64
  · simp only [h, decide_true, if_true]
    exact Evt.pure _
  · simp only [h, decide_false, if_false]
    exact Evt.ite_neg (by simp) (Evt.pure _)
theorem windbreakref01_cut_loop (l : List Int) (h : l.length ≤ maxLen) : ∀ n : Nat, n ≤ l.length → Evt (fun k => windbreakref01_cut.l0 k l (n : Int)) (strip (l.take n)) := by
  unfold maxLen at h
  intro n
  induction n with
  | zero =>
    intro _
    refine Evt.succ ?_
    simp only [windbreakref01_cut.l0]
    refine Evt.ite_neg (by omega) (Evt.ite_pos (by omega) (Evt.ite_pos (by omega) ?_))
    simp [strip]
    exact Evt.pure _
  | succ n ih =>
    intro hn
    refine Evt.succ ?_
    simp only [windbreakref01_cut.l0]
    rw [w64 (by omega) (by omega), show ((n + 1 : Nat) : Int) - 1 = (n : Int) from by omega]
    refine Evt.ite_pos (by omega) (Evt.ite_pos (by omega) (Evt.ite_pos (by omega) ?_))
    rw [rd_nat, List.take_succ_eq_append_getElem (show n < l.length by omega)]
    have hg : l.getD n 0 = l[n] := by simp [show n < l.length by omega]
    rw [hg]
    by_cases h0 : l[n] = 0
    · rw [h0, strip_snoc_zero]
      exact Evt.ite_pos rfl (ih (by omega))
    · rw [strip_snoc h0]
      refine Evt.ite_neg h0 (Evt.ite_pos (by omega) (Evt.ite_pos (by omega) ?_))
      rw [← List.take_succ_eq_append_getElem (show n < l.length by omega)]
      exact Evt.pure _
theorem windbreakref01_cut_ev (l : List Int) (h : l.length ≤ maxLen) : Evt (fun k => windbreakref01_cut.f k l) (strip l) := by
  have := windbreakref01_cut_loop l h l.length (Nat.le_refl _)
  exact this.congr (fun k => rfl) (by rw [List.take_length])
theorem nat_Right_eq {l : List Int} (h : l.length ≤ maxLen) : nat_Right.f l = some (rightB l) := by
  unfold maxLen at h
  unfold nat_Right.f rightB
  by_cases h1 : l.length ≤ 64
  · rw [if_pos (by omega)]
    by_cases h2 : l.length = 0
    · rw [if_pos (by omega)]
      simp [h1, h2]
    · rw [if_neg (by omega), w64 (by omega) (by omega), if_pos (by omega), if_pos (by omega), rd_getD]
      rw [show ((l.length : Int) - 1).toNat = l.length - 1 from by omega]
      have h3 : (l.length == 0) = false := by simpa using h2
      rw [h3]
      simp [h1]
  · rw [if_neg (by omega)]
    simp [h1]
theorem nat_right_eq (ls : List (List Int)) (h : ∀ l ∈ ls, l.length ≤ maxLen) : nat_right.f ls = some (ls.all rightB) := by
  induction ls with
  | nil => rfl
  | cons a ls ih =>
    simp only [nat_right.f]
    rw [nat_Right_eq (h a (by simp)), ih (fun l hl => h l (by simp [hl]))]
    simp only [Option.bind_some, List.all_cons]
    cases rightB a <;> simp
def cmpL (B : Int) (l m : List Int) : Int := if val B l < val B m then -1 else if val B l = val B m then 0 else 1
theorem val_take_succ (B : Int) (l : List Int) (i : Nat) (h : i < l.length) : val B (l.take (i + 1)) = val B (l.take i) + B ^ i * l[i] := by
  rw [List.take_succ_eq_append_getElem h, val_append]
  simp only [val, List.length_take]
  rw [show min i l.length = i from by omega, Int.mul_zero, Int.add_zero]
theorem cmp_step {B : Int} (hB : 0 < B) {l m : List Int} (hl : Dig B l) (hm : Dig B m) (i : Nat) (h1 : i < l.length) (h2 : i < m.length) :
    (l[i] < m[i] → cmpL B (l.take (i + 1)) (m.take (i + 1)) = -1) ∧ (m[i] < l[i] → cmpL B (l.take (i + 1)) (m.take (i + 1)) = 1) ∧ (l[i] = m[i] → cmpL B (l.take (i + 1)) (m.take (i + 1)) = cmpL B (l.take i) (m.take i)) := by
  have a1 := val_nonneg hB (hl.take i)
  have a2 := val_nonneg hB (hm.take i)
  have b1 := val_lt hB (hl.take i)
  have b2 := val_lt hB (hm.take i)
  rw [List.length_take, show min i l.length = i from by omega] at b1
  rw [List.length_take, show min i m.length = i from by omega] at b2
  have hp : 0 < B ^ i := Int.pow_pos hB
  unfold cmpL
  rw [val_take_succ B l i h1, val_take_succ B m i h2]
  refine ⟨fun h => ?_, fun h => ?_, fun h => ?_⟩
  · have h3 : B ^ i * (l[i] + 1) ≤ B ^ i * m[i] := Int.mul_le_mul_of_nonneg_left (by omega) (by omega)
    rw [Int.mul_add, Int.mul_one] at h3
    rw [if_pos (by omega)]
  · have h3 : B ^ i * (m[i] + 1) ≤ B ^ i * l[i] := Int.mul_le_mul_of_nonneg_left (by omega) (by omega)
    rw [Int.mul_add, Int.mul_one] at h3
    rw [if_neg (by omega), if_neg (by omega)]
  · rw [h]
    by_cases c1 : val B (l.take i) < val B (m.take i)
    · rw [if_pos c1, if_pos (by omega)]
    · by_cases c2 : val B (l.take i) = val B (m.take i)
      · rw [if_neg c1, if_pos c2, if_neg (by omega), if_pos (by omega)]
      · rw [if_neg c1, if_neg c2, if_neg (by omega), if_neg (by omega)]
theorem ref_compare_loop {B : Int} (hB : 0 < B) (l m : List Int) (hl : Dig B l) (hm : Dig B m) (hlen : l.length = m.length) (hb : l.length ≤ 1000000) : ∀ i : Nat, i ≤ l.length → Evt (fun k => windbreakref01_compare.l0 k l m ((i : Int) - 1)) (cmpL B (l.take i) (m.take i)) := by
  intro i
  induction i with
  | zero =>
    intro _
    refine Evt.succ ?_
    simp only [windbreakref01_compare.l0]
    refine Evt.ite_neg (by omega) ?_
    exact Evt.pure _
  | succ i ih =>
    intro hi
    have h1 : i < l.length := by omega
    have h2 : i < m.length := by omega
    obtain ⟨s1, s2, s3⟩ := cmp_step hB hl hm i h1 h2
    rw [show (((i + 1 : Nat) : Int) - 1) = (i : Int) from by omega]
    refine Evt.succ ?_
    simp only [windbreakref01_compare.l0]
    refine Evt.ite_pos (by omega) (Evt.ite_pos (by omega) (Evt.ite_pos (by omega) (Evt.ite_pos (by omega) ?_)))
    have e1 : rd l (i : Int) = l[i] := by simp [rd_nat, h1]
    have e2 : rd m (i : Int) = m[i] := by simp [rd_nat, h2]
    rw [e1, e2]
    by_cases c1 : l[i] < m[i]
    · rw [s1 c1]; exact Evt.ite_pos c1 (Evt.pure _)
    · by_cases c2 : m[i] < l[i]
      · rw [s2 c2]; exact Evt.ite_neg c1 (Evt.ite_pos c2 (Evt.pure _))
      · rw [s3 (by omega)]
        refine Evt.ite_neg c1 (Evt.ite_neg c2 ?_)
        rw [w64 (by omega) (by omega)]
        exact ih (by omega)
theorem ref_compare_any {B : Int} (hB : 0 < B) (l m : List Int) (hl : Dig B l) (hm : Dig B m) (cl : Can l) (cm : Can m) (hb : l.length ≤ 1000000) : Evt (fun k => windbreakref01_compare.f k l m) (cmpL B l m) := by
  unfold windbreakref01_compare.f
  by_cases hlen : l.length = m.length
  · refine Evt.ite_pos (by omega) ?_
    rw [w64 (by omega) (by omega)]
    have := ref_compare_loop hB l m hl hm hlen hb l.length (Nat.le_refl _)
    refine this.congr (fun k => rfl) ?_
    rw [List.take_length, hlen, List.take_length]
  · refine Evt.ite_neg (by omega) ?_
    by_cases h2 : l.length < m.length
    · have := val_lt_of_length hB hl hm cm h2
      have e : cmpL B l m = -1 := if_pos this
      rw [e]
      exact Evt.ite_pos (by omega) (Evt.pure _)
    · have := val_lt_of_length hB hm hl cl (by omega)
      have e : cmpL B l m = 1 := by unfold cmpL; rw [if_neg (by omega), if_neg (by omega)]
      rw [e]
      exact Evt.ite_neg (by omega) (Evt.pure _)
theorem ref_compare_ev (v w : Nat) (hv : v < lim) : Evt (fun k => windbreakref01_compare.f k (digs v) (digs w)) (cmpN v w) := by
  have hlen : (digs v).length ≤ 1000000 := Nat.le_trans (digs_len hv) (by omega)
  refine (ref_compare_any b16_pos _ _ (toD_dig b16_two v) (toD_dig b16_two w) (toD_can b16_two v) (toD_can b16_two w) hlen).congr (fun k => rfl) ?_
  unfold cmpL cmpN
  rw [val_toD b16_two, val_toD b16_two]
  simp only [Int.ofNat_lt, Int.natCast_inj]
theorem nat_compare_loop {B : Int} (hB : 0 < B) (l m : List Int) (hl : Dig B l) (hm : Dig B m) (hlen : l.length = m.length) (hb : l.length ≤ 1000000) : ∀ i : Nat, i ≤ l.length → Evt (fun k => nat_compare.l0 k l m ((i : Int) - 1)) (cmpL B (l.take i) (m.take i)) := by
  intro i
  induction i with
  | zero =>
    intro _
    refine Evt.succ ?_
    simp only [nat_compare.l0]
    refine Evt.ite_neg (by omega) ?_
    exact Evt.pure _
  | succ i ih =>
    intro hi
    have h1 : i < l.length := by omega
    have h2 : i < m.length := by omega
    obtain ⟨s1, s2, s3⟩ := cmp_step hB hl hm i h1 h2
    rw [show (((i + 1 : Nat) : Int) - 1) = (i : Int) from by omega]
    refine Evt.succ ?_
    simp only [nat_compare.l0]
    refine Evt.ite_pos (by omega) (Evt.ite_pos (by omega) (Evt.ite_pos (by omega) (Evt.ite_pos (by omega) ?_)))
    have e1 : rd l (i : Int) = l[i] := by simp [rd_nat, h1]
    have e2 : rd m (i : Int) = m[i] := by simp [rd_nat, h2]
    rw [e1, e2]
    by_cases c0 : l[i] = m[i]
    · rw [s3 c0]
      refine Evt.ite_pos c0 ?_
      rw [w64 (by omega) (by omega)]
      exact ih (by omega)
    · refine Evt.ite_neg c0 ?_
      by_cases c1 : l[i] < m[i]
      · rw [s1 c1]; exact Evt.ite_pos c1 (Evt.pure _)
      · rw [s2 (by omega)]; exact Evt.ite_neg c1 (Evt.pure _)
theorem nat_compare_any {B : Int} (hB : 0 < B) (l m : List Int) (hl : Dig B l) (hm : Dig B m) (cl : Can l) (cm : Can m) (hb : l.length ≤ 1000000) : Evt (fun k => nat_compare.f k l m) (cmpL B l m) := by
  unfold nat_compare.f
  by_cases hlen : l.length = m.length
  · refine Evt.ite_pos (by omega) ?_
    rw [w64 (by omega) (by omega)]
    have := nat_compare_loop hB l m hl hm hlen hb l.length (Nat.le_refl _)
    refine this.congr (fun k => rfl) ?_
    rw [List.take_length, hlen, List.take_length]
  · refine Evt.ite_neg (by omega) ?_
    by_cases h2 : l.length < m.length
    · have := val_lt_of_length hB hl hm cm h2
      have e : cmpL B l m = -1 := if_pos this
      rw [e]
      exact Evt.ite_pos (by omega) (Evt.pure _)
    · have := val_lt_of_length hB hm hl cl (by omega)
      have e : cmpL B l m = 1 := by unfold cmpL; rw [if_neg (by omega), if_neg (by omega)]
      rw [e]
      exact Evt.ite_neg (by omega) (Evt.pure _)
theorem nat_compare_ev (l m : List Int) (hl : Dig (b64 : Int) l) (hm : Dig (b64 : Int) m) (cl : Can l) (cm : Can m) (hb : l.length ≤ 1000000) : Evt (fun k => nat_compare.f k l m) (cmpN (num l) (num m)) := by
  refine (nat_compare_any b64_pos l m hl hm cl cm hb).congr (fun k => rfl) ?_
  unfold cmpL cmpN
  rw [← num_val hl, ← num_val hm]
  simp only [Int.ofNat_lt, Int.natCast_inj]
def cmpV (a b : List Int) : Int := if rightB a = true ∧ rightB b = true then cmpN (num a) (num b) else 0
theorem nat_Cmp_ev (a b : List Int) (ha : a.length ≤ maxLen) (hb : b.length ≤ maxLen) (da : Dig (b64 : Int) a) (db : Dig (b64 : Int) b) : Evt (fun k => nat_Cmp.f k a b) (cmpV a b) := by
  unfold nat_Cmp.f cmpV
  rw [nat_right_eq _ (by intro l hl; simp at hl; rcases hl with rfl | rfl <;> assumption)]
  simp only [Option.bind_some, List.all_cons, List.all_nil, Bool.and_true, Bool.and_eq_true]
  by_cases h : rightB a = true ∧ rightB b = true
  · rw [if_pos h]
    refine Evt.ite_pos h ?_
    obtain ⟨h1, c1⟩ := (rightB_iff a).1 h.1
    obtain ⟨h2, c2⟩ := (rightB_iff b).1 h.2
    exact Evt.bind (nat_compare_ev a b da db c1 c2 (by omega)) (h := fun t _ => some t) (Evt.pure _)
  · rw [if_neg h]
    exact Evt.ite_neg h (Evt.pure _)
theorem windbreakref01_Right_eq {l : List Int} (h : l.length ≤ maxLen) : windbreakref01_Right.f l = some (rightB l) := by
  unfold maxLen at h
  unfold windbreakref01_Right.f rightB
  by_cases h1 : l.length ≤ 64
  · rw [if_pos (by omega)]
    by_cases h2 : l.length = 0
    · rw [if_pos (by omega)]
      simp [h1, h2]
    · rw [if_neg (by omega), w64 (by omega) (by omega), if_pos (by omega), if_pos (by omega), rd_getD]
      rw [show ((l.length : Int) - 1).toNat = l.length - 1 from by omega]
      have h3 : (l.length == 0) = false := by simpa using h2
      rw [h3]
      simp [h1]
  · rw [if_neg (by omega)]
    simp [h1]
def dg (x : Int) : List Int := [x % 65536, x / 65536 % 65536, x / 65536 / 65536 % 65536, x / 65536 / 65536 / 65536 % 65536]
theorem wdiv {x : Int} (h0 : 0 ≤ x) (h1 : x < 18446744073709551616) (c : Int) (hc : 0 < c) : IntKind.u64.wrap (Int.tdiv x c) = x / c := by
  rw [Int.tdiv_eq_ediv_of_nonneg h0]
  have h2 := Int.ediv_nonneg h0 (Int.le_of_lt hc)
  have h3 := Int.ediv_le_self c h0
  exact wu64_of h2 (by omega)
theorem in_step (a d : List Int) (i : Nat) (x : Int) (hx : 0 ≤ x ∧ x < 18446744073709551616) (hd : d.length ≤ 1000000) (hi : i ≤ 1000000) {r : List Int}
    (h : Evt (fun k => windbreakref01_In.l0 k a (d ++ dg x) ((i + 1 : Nat) : Int)) r) : Evt (fun k => windbreakref01_In.l1 k a d (i : Int) x 0) r := by
  refine Evt.succ ?_
  simp only [windbreakref01_In.l1]
  refine Evt.ite_pos (by omega) (Evt.ite_pos (by omega) ?_)
  rw [Int.tmod_eq_emod_of_nonneg hx.1, wdiv hx.1 hx.2 65536 (by omega), w64 (by omega) (by omega)]
  refine Evt.succ ?_
  simp only [windbreakref01_In.l1]
  refine Evt.ite_pos (by omega) (Evt.ite_pos (by simp; omega) ?_)
  rw [Int.tmod_eq_emod_of_nonneg (show 0 ≤ x / 65536 by omega), wdiv (show 0 ≤ x / 65536 by omega) (by omega) 65536 (by omega), w64 (by omega) (by omega)]
  refine Evt.succ ?_
  simp only [windbreakref01_In.l1]
  refine Evt.ite_pos (by omega) (Evt.ite_pos (by simp; omega) ?_)
  rw [Int.tmod_eq_emod_of_nonneg (show 0 ≤ x / 65536 / 65536 by omega), wdiv (show 0 ≤ x / 65536 / 65536 by omega) (by omega) 65536 (by omega), w64 (by omega) (by omega)]
  refine Evt.succ ?_
  simp only [windbreakref01_In.l1]
  refine Evt.ite_pos (by omega) (Evt.ite_pos (by simp; omega) ?_)
  rw [Int.tmod_eq_emod_of_nonneg (show 0 ≤ x / 65536 / 65536 / 65536 by omega), wdiv (show 0 ≤ x / 65536 / 65536 / 65536 by omega) (by omega) 65536 (by omega), w64 (by omega) (by omega)]
  refine Evt.succ ?_
  simp only [windbreakref01_In.l1]
  refine Evt.ite_neg (by omega) ?_
  rw [w64 (by omega) (by omega)]
  refine h.congr (fun k => ?_) rfl
  simp [dg]
theorem in_loop (a : List Int) (ha : a.length ≤ 1000) (hd : Dig (b64 : Int) a) (n : Nat) : ∀ i : Nat, i ≤ a.length → a.length - i = n → Evt (fun k => windbreakref01_In.l0 k a ((a.take i).flatMap dg) (i : Int)) (strip (a.flatMap dg)) := by
  have hlen : ∀ l : List Int, (l.flatMap dg).length = 4 * l.length := by
    intro l
    induction l with
    | nil => rfl
    | cons x l ih => simp only [List.flatMap_cons, List.length_append, ih, dg, List.length_cons, List.length_nil]; omega
  induction n with
  | zero =>
    intro i hi hn
    refine Evt.succ ?_
    simp only [windbreakref01_In.l0]
    refine Evt.ite_neg (by omega) ?_
    rw [List.take_of_length_le (by omega)]
    refine Evt.bind (windbreakref01_cut_ev _ (by rw [hlen]; simp [maxLen]; omega)) (h := fun t _ => some t) (Evt.pure _)
  | succ n ih =>
    intro i hi hn
    have hlt : i < a.length := by omega
    refine Evt.succ ?_
    simp only [windbreakref01_In.l0]
    refine Evt.ite_pos (by omega) (Evt.ite_pos (by omega) ?_)
    have hx : rd a (i : Int) = a[i] := by simp [rd_nat, hlt]
    have hr := hd a[i] (List.getElem_mem hlt)
    rw [hx]
    refine in_step a _ i _ hr (by rw [hlen, List.length_take]; omega) (by omega) ?_
    have := ih (i + 1) (by omega) (by omega)
    rw [List.take_succ_eq_append_getElem hlt, List.flatMap_append] at this
    refine this.congr (fun k => ?_) rfl
    simp
theorem ref_In_ev (a : List Int) (ha : a.length ≤ 1000) (hd : Dig (b64 : Int) a) : Evt (fun k => windbreakref01_In.f k a) (digs (num a)) := by
  have h := in_loop a ha hd a.length 0 (Nat.zero_le _) (by omega)
  obtain ⟨m, hm, _, hv, he⟩ := val_base a hd
  refine h.congr (fun k => rfl) ?_
  have e2 : a.flatMap dg = m := he.symm
  rw [e2, strip_digs hm]
  unfold num16 num
  rw [hv]
def cmpW (a b : List Int) : Int := if rightB a = true ∧ rightB b = true then cmpN (num a) (num b) else 0
theorem ref_Cmp_ev (a b : List Int) (ha : a.length ≤ maxLen) (hb : b.length ≤ maxLen) (da : Dig (b64 : Int) a) (db : Dig (b64 : Int) b) : Evt (fun k => windbreakref01_Cmp.f k a b) (cmpW a b) := by
  unfold windbreakref01_Cmp.f cmpW
  rw [windbreakref01_Right_eq ha, windbreakref01_Right_eq hb]
  simp only [Option.bind_some]
  have J : ∀ x : Bool, (x = false → rightB a = true ∧ rightB b = true) → Evt (fun k => windbreakref01_Cmp.j0 k a b x) (if x = true then 0 else cmpN (num a) (num b)) := by
    intro x hx
    refine Evt.succ ?_
    simp only [windbreakref01_Cmp.j0]
    refine Evt.cond (fun _ => Evt.pure _) (fun hc => ?_)
    have h := hx (by simpa using hc)
    obtain ⟨h1, c1⟩ := (rightB_iff a).1 h.1
    obtain ⟨h2, c2⟩ := (rightB_iff b).1 h.2
    refine Evt.bind (ref_In_ev a (by omega) da) (Evt.bind (ref_In_ev b (by omega) db) ?_)
    exact Evt.bind (ref_compare_ev _ _ (num_lt_lim da (by omega))) (h := fun t _ => some t) (Evt.pure _)
  cases hA : rightB a with
  | true =>
    refine Evt.ite_pos rfl ((J _ (fun h => ⟨hA, by simpa using h⟩)).congr (fun k => rfl) ?_)
    cases hB : rightB b <;> simp
  | false =>
    refine Evt.ite_neg (by simp) ((J _ (fun h => by simp at h)).congr (fun k => rfl) ?_)
    simp
theorem ref_digit_eq (l : List Int) (i : Nat) : windbreakref01_digit.f l (i : Int) = some (l.getD i 0) := by
  unfold windbreakref01_digit.f
  by_cases h : i < l.length
  · rw [if_pos (by omega), if_pos (by omega), rd_nat]
  · rw [if_neg (by omega)]
    simp [List.getD_eq_getElem?_getD, List.getElem?_eq_none (by omega : l.length ≤ i)]
def subL : Nat → List Int → List Int → Int → List Int
  | 0, _, _, _ => []
  | n + 1, a, b, c => (65536 + a.getD 0 0 - b.getD 0 0 - c) % 65536 :: subL n (a.drop 1) (b.drop 1) (1 - (65536 + a.getD 0 0 - b.getD 0 0 - c) / 65536)
theorem val_headS (B : Int) (b : List Int) : val B b = b.getD 0 0 + B * val B (b.drop 1) := by
  cases b with
  | nil => simp [val]
  | cons y b => simp [val]
theorem subL_len (n : Nat) : ∀ (a b : List Int) (c : Int), (subL n a b c).length = n := by
  induction n with
  | zero => intro a b c; rfl
  | succ n ih => intro a b c; simp only [subL, List.length_cons, ih]
theorem subL_facts (n : Nat) : ∀ (a b : List Int) (c : Int), Dig (b16 : Int) a → Dig (b16 : Int) b → a.length ≤ n → b.length ≤ n → (c = 0 ∨ c = 1) →
    Dig (b16 : Int) (subL n a b c) ∧ ∃ t, 0 ≤ t ∧ val (b16 : Int) (subL n a b c) = val (b16 : Int) a - val (b16 : Int) b - c + (b16 : Int) ^ n * t := by
  induction n with
  | zero =>
    intro a b c _ _ ha hb hc
    have e1 : a = [] := List.length_eq_zero_iff.1 (by omega)
    have e2 : b = [] := List.length_eq_zero_iff.1 (by omega)
    subst e1 e2
    exact ⟨Dig.nil, c, by omega, by simp [subL, val]; omega⟩
  | succ n ih =>
    intro a b c da db ha hb hc
    have h1 := da.getD b16_pos 0
    have h2 := db.getD b16_pos 0
    simp only [b16] at h1 h2
    obtain ⟨i1, t, ht, i2⟩ := ih (a.drop 1) (b.drop 1) (1 - (65536 + a.getD 0 0 - b.getD 0 0 - c) / 65536) (da.drop 1) (db.drop 1) (by simp; omega) (by simp; omega) (by omega)
    refine ⟨Dig.cons.2 ⟨by simp only [b16]; omega, i1⟩, t, ht, ?_⟩
    rw [val_headS (b16 : Int) a, val_headS (b16 : Int) b]
    simp only [subL, val]
    rw [i2, Int.pow_succ]
    generalize (b16 : Int) ^ n = P at *
    simp only [b16]
    generalize val ((65536 : Nat) : Int) (a.drop 1) = va at *
    generalize val ((65536 : Nat) : Int) (b.drop 1) = vb at *
    have h3 : ((65536 : Nat) : Int) * (va - vb - (1 - (65536 + a.getD 0 0 - b.getD 0 0 - c) / 65536) + P * t) = 65536 * va - 65536 * vb - 65536 * (1 - (65536 + a.getD 0 0 - b.getD 0 0 - c) / 65536) + P * ((65536 : Nat) : Int) * t := by grind
    rw [h3]
    omega
theorem ref_sub_loop (a b : List Int) (da : Dig (b16 : Int) a) (db : Dig (b16 : Int) b) (ha : a.length ≤ 1000000) (n : Nat) : ∀ (i : Nat) (p : List Int) (c : Int), p.length = i → i ≤ a.length → a.length - i = n → (c = 0 ∨ c = 1) →
    Evt (fun k => windbreakref01_sub.l0 k a b p c (i : Int)) (strip (p ++ subL n (a.drop i) (b.drop i) c)) := by
  induction n with
  | zero =>
    intro i p c hp hi hn hc
    refine Evt.succ ?_
    simp only [windbreakref01_sub.l0]
    refine Evt.ite_neg (by omega) ?_
    simp only [subL, List.append_nil]
    exact Evt.bind (windbreakref01_cut_ev p (by simp [maxLen]; omega)) (h := fun t _ => some t) (Evt.pure _)
  | succ n ih =>
    intro i p c hp hi hn hc
    have hlt : i < a.length := by omega
    refine Evt.succ ?_
    simp only [windbreakref01_sub.l0]
    refine Evt.ite_pos (by omega) (Evt.ite_pos (by omega) ?_)
    rw [ref_digit_eq, rd_nat]
    simp only [Option.bind_some]
    refine Evt.ite_pos (by omega) ?_
    have h1 := da.getD b16_pos i
    have h2 := db.getD b16_pos i
    simp only [b16] at h1 h2
    rw [wu64_of (show 0 ≤ 65536 + a.getD i 0 by omega) (by omega), wu64_of (show 0 ≤ 65536 + a.getD i 0 - b.getD i 0 by omega) (by omega), wu64_of (show 0 ≤ 65536 + a.getD i 0 - b.getD i 0 - c by omega) (by omega)]
    rw [Int.tmod_eq_emod_of_nonneg (by omega), Int.tdiv_eq_ediv_of_nonneg (by omega), wu64_of (show 0 ≤ (65536 + a.getD i 0 - b.getD i 0 - c) / 65536 by omega) (by omega), wu64_of (by omega) (by omega), w64 (by omega) (by omega)]
    have e1 : (a.drop i).getD 0 0 = a.getD i 0 := by simp [List.getD_eq_getElem?_getD]
    have e2 : (b.drop i).getD 0 0 = b.getD i 0 := by simp [List.getD_eq_getElem?_getD]
    refine (ih (i + 1) (p ++ [(65536 + a.getD i 0 - b.getD i 0 - c) % 65536]) (1 - (65536 + a.getD i 0 - b.getD i 0 - c) / 65536) (by simp [hp]) (by omega) (by omega) (by omega)).congr (fun k => rfl) ?_
    simp only [subL, e1, e2, List.drop_drop, List.append_assoc, List.singleton_append]
theorem ref_sub_ev (v w : Nat) (hv : v < lim) (hle : w ≤ v) : Evt (fun k => windbreakref01_sub.f k (digs v) (digs w)) (digs (v - w)) := by
  have h1 := digs_len hv
  have d1 := toD_dig b16_two v
  have d2 := toD_dig b16_two w
  have hlen : (digs w).length ≤ (digs v).length := by
    rw [toD_len_iff b16_two]
    exact Nat.lt_of_le_of_lt hle (toD_lt_pow b16_two v)
  have h := ref_sub_loop (digs v) (digs w) d1 d2 (by omega) (digs v).length 0 [] 0 rfl (Nat.zero_le _) (by omega) (Or.inl rfl)
  refine h.congr (fun k => rfl) ?_
  obtain ⟨f1, t, ht, f2⟩ := subL_facts (digs v).length (digs v) (digs w) 0 d1 d2 (Nat.le_refl _) hlen (Or.inl rfl)
  rw [List.nil_append, List.drop_zero, List.drop_zero, strip_digs f1]
  rw [val_toD b16_two, val_toD b16_two, pow_cast] at f2
  have h4 := val_lt b16_pos f1
  rw [subL_len, pow_cast] at h4
  have ht0 : t = 0 := by
    by_cases e : t = 0
    · exact e
    · have h5 : ((b16 ^ (digs v).length : Nat) : Int) * 1 ≤ ((b16 ^ (digs v).length : Nat) : Int) * t := Int.mul_le_mul_of_nonneg_left (by omega) (by omega)
      omega
  subst ht0
  rw [Int.mul_zero] at f2
  unfold num16
  rw [f2]
  congr 1
  omega
def subW (a b : List Int) : List Int × Int := if rightB a = true ∧ rightB b = true then (if num a < num b then ([], 2) else (limbs (num a - num b), 0)) else ([], 1)
theorem ref_Sub_ev (a b : List Int) (ha : a.length ≤ maxLen) (hb : b.length ≤ maxLen) (da : Dig (b64 : Int) a) (db : Dig (b64 : Int) b) : Evt (fun k => windbreakref01_Sub.f k a b) (subW a b) := by
  unfold windbreakref01_Sub.f subW
  rw [windbreakref01_Right_eq ha, windbreakref01_Right_eq hb]
  simp only [Option.bind_some]
  have J : ∀ x : Bool, (x = false → rightB a = true ∧ rightB b = true) → Evt (fun k => windbreakref01_Sub.j0 k a b x) (if x = true then ([], 1) else if num a < num b then ([], 2) else (limbs (num a - num b), 0)) := by
    intro x hx
    refine Evt.succ ?_
    simp only [windbreakref01_Sub.j0]
    refine Evt.cond (fun _ => Evt.pure _) (fun hc => ?_)
    have h := hx (by simpa using hc)
    obtain ⟨h1, c1⟩ := (rightB_iff a).1 h.1
    obtain ⟨h2, c2⟩ := (rightB_iff b).1 h.2
    have n1 : num a < b64 ^ 64 := num_lt_p da h1
    have n2 := num_lt_lim da (by omega)
    refine Evt.bind (ref_In_ev a (by omega) da) (Evt.bind (ref_In_ev b (by omega) db) ?_)
    refine Evt.bind (ref_compare_ev (num a) (num b) n2) ?_
    by_cases hlt : num a < num b
    · have e : cmpN (num a) (num b) = -1 := if_pos hlt
      rw [e, if_pos hlt]
      exact Evt.ite_pos (by omega) (Evt.pure _)
    · have e : ¬ cmpN (num a) (num b) < 0 := by
        unfold cmpN
        rw [if_neg hlt]
        by_cases e2 : num a = num b
        · rw [if_pos e2]; omega
        · rw [if_neg e2]; omega
      rw [if_neg hlt]
      refine Evt.ite_neg e ?_
      refine Evt.bind (ref_sub_ev (num a) (num b) n2 (by omega)) ?_
      have h5 := ref_told_ev (num a - num b) (by omega)
      have e3 : toldV (num a - num b) = (limbs (num a - num b), 0) := if_pos (by omega)
      rw [e3] at h5
      exact Evt.bind h5 (h := fun t _ => some (t.1, t.2)) (Evt.pure _)
  cases hA : rightB a with
  | true =>
    refine Evt.ite_pos rfl ((J _ (fun h => ⟨hA, by simpa using h⟩)).congr (fun k => rfl) ?_)
    cases hB : rightB b <;> simp
  | false =>
    refine Evt.ite_neg (by simp) ((J _ (fun h => by simp at h)).congr (fun k => rfl) ?_)
    simp
theorem carry_of {c : Int} (h : c = 0 ∨ c = 1) : carry01 c = true := decide_eq_true h
def lessL : List Int → List Int → Int → List Int
  | [], _, _ => []
  | x :: a, b, c => sub64_s x (b.getD 0 0) c :: lessL a (b.drop 1) (sub64_c x (b.getD 0 0) c)
theorem sub64_facts {x y c : Int} (hx : 0 ≤ x ∧ x < (b64 : Int)) (hy : 0 ≤ y ∧ y < (b64 : Int)) (hc : c = 0 ∨ c = 1) :
    sub64_s x y c - (b64 : Int) * sub64_c x y c = x - y - c ∧ (0 ≤ sub64_s x y c ∧ sub64_s x y c < (b64 : Int)) ∧ (sub64_c x y c = 0 ∨ sub64_c x y c = 1) := by
  unfold sub64_s sub64_c
  simp only [b64] at *
  by_cases h : x.toNat < y.toNat + c.toNat
  · rw [if_pos h]; omega
  · rw [if_neg h]; omega
theorem lessL_len : ∀ (a b : List Int) (c : Int), (lessL a b c).length = a.length := by
  intro a
  induction a with
  | nil => intro b c; rfl
  | cons z x ih => intro b c; simp only [lessL, List.length_cons, ih]
theorem lessL_facts : ∀ (a b : List Int) (c : Int), Dig (b64 : Int) a → Dig (b64 : Int) b → b.length ≤ a.length → (c = 0 ∨ c = 1) →
    Dig (b64 : Int) (lessL a b c) ∧ ∃ t, 0 ≤ t ∧ val (b64 : Int) (lessL a b c) = val (b64 : Int) a - val (b64 : Int) b - c + (b64 : Int) ^ a.length * t := by
  intro a
  induction a with
  | nil =>
    intro b c _ _ hlen hc
    have : b = [] := List.length_eq_zero_iff.1 (by simpa using hlen)
    subst this
    exact ⟨Dig.nil, c, by omega, by simp [lessL, val]; omega⟩
  | cons x a ih =>
    intro b c da db hlen hc
    have d1 := Dig.cons.1 da
    have hy := db.getD b64_pos 0
    obtain ⟨e1, e2, e3⟩ := sub64_facts d1.1 hy hc
    obtain ⟨i1, t, ht, i2⟩ := ih (b.drop 1) _ d1.2 (db.drop 1) (by simp at hlen ⊢; omega) e3
    refine ⟨Dig.cons.2 ⟨e2, i1⟩, t, ht, ?_⟩
    simp only [lessL, val]
    rw [i2]
    have hb : val (b64 : Int) b = b.getD 0 0 + (b64 : Int) * val (b64 : Int) (b.drop 1) := by
      cases b with
      | nil => simp [val]
      | cons y b => simp [val]
    rw [hb]
    generalize (b64 : Int) = B at *
    generalize sub64_s x (b.getD 0 0) c = s at *
    generalize sub64_c x (b.getD 0 0) c = u at *
    generalize val B a = va at *
    generalize val B (b.drop 1) = vb at *
    generalize b.getD 0 0 = y at *
    rw [List.length_cons, Int.pow_succ]
    generalize B ^ a.length = P at *
    have h1 : B * (va - vb - u + P * t) = B * va - B * vb - B * u + P * B * t := by grind
    omega
theorem nat_less_l0 (a b : List Int) (ha : a.length ≤ 1000) (hb : b.length ≤ 1000) (da : Dig (b64 : Int) a) (db : Dig (b64 : Int) b) (n : Nat) : ∀ (i : Nat) (p : List Int) (c : Int), p.length = i → i ≤ a.length → a.length - i = n → (c = 0 ∨ c = 1) →
    Evt (fun k => nat_less.l0 k a b (p ++ List.replicate n 0) c (a.length : Int) (i : Int)) (p ++ lessL (a.drop i) (b.drop i) c) := by
  induction n with
  | zero =>
    intro i p c hp hi hn hc
    refine Evt.succ ?_
    simp only [nat_less.l0]
    refine Evt.ite_neg (by omega) ?_
    rw [List.drop_of_length_le (show a.length ≤ i by omega)]
    simp only [lessL, List.replicate_zero]
    exact Evt.pure _
  | succ n ih =>
    intro i p c hp hi hn hc
    have hlt : i < a.length := by omega
    refine Evt.succ ?_
    simp only [nat_less.l0]
    refine Evt.ite_pos (by omega) ?_
    have hx : rd a (i : Int) = a[i] := by simp [rd_nat, hlt]
    have hxr := da a[i] (List.getElem_mem hlt)
    have hset : ∀ v : Int, (p ++ List.replicate (n + 1) 0).set ((i : Int)).toNat v = (p ++ [v]) ++ List.replicate n 0 := by
      intro v
      rw [show ((i : Int)).toNat = p.length from by omega, List.replicate_succ, set_at, List.append_assoc]
      rfl
    have hyr := (db.drop i).getD b64_pos 0
    have hfin : ∀ y : Int, y = (b.drop i).getD 0 0 → Evt (fun k => nat_less.l0 k a b ((p ++ List.replicate (n + 1) 0).set ((i : Int)).toNat (sub64_s (rd a (i : Int)) y c)) (sub64_c (rd a (i : Int)) y c) (a.length : Int) (wrap64 ((i : Int) + 1))) (p ++ lessL (a.drop i) (b.drop i) c) := by
      intro y hy
      subst hy
      obtain ⟨e1, e2, e3⟩ := sub64_facts hxr hyr hc
      rw [hx, hset, w64 (by omega) (by omega)]
      have h := ih (i + 1) (p ++ [sub64_s a[i] ((b.drop i).getD 0 0) c]) (sub64_c a[i] ((b.drop i).getD 0 0) c) (by simp [hp]) (by omega) (by omega) e3
      refine h.congr (fun k => rfl) ?_
      rw [List.drop_eq_getElem_cons hlt]
      simp only [lessL, List.drop_drop, List.append_assoc, List.singleton_append]
    by_cases hib : i < b.length
    · refine Evt.ite_pos (by omega) (Evt.ite_pos (by omega) (Evt.ite_pos (by omega) (Evt.ite_pos (carry_of hc) (Evt.ite_pos (by simp; omega) ?_))))
      refine hfin _ ?_
      simp [rd_nat, hib]
    · refine Evt.ite_neg (by omega) (Evt.ite_pos (by omega) (Evt.ite_pos (by omega) (Evt.ite_pos (carry_of hc) (Evt.ite_pos (by simp; omega) ?_))))
      refine hfin _ ?_
      simp [List.drop_of_length_le (show b.length ≤ i by omega)]
theorem nat_less_ev (a b : List Int) (ha : a.length ≤ 1000) (hb : b.length ≤ a.length) (da : Dig (b64 : Int) a) (db : Dig (b64 : Int) b) (hle : num b ≤ num a) : ∃ s, Evt (fun k => nat_less.f k a b) s ∧ Dig (b64 : Int) s ∧ num s = num a - num b ∧ s.length = a.length := by
  refine ⟨lessL a b 0, ?_, ?_⟩
  · unfold nat_less.f
    refine Evt.ite_pos (by omega) (Evt.ite_pos (by omega) ?_)
    have h := nat_less_l0 a b ha (by omega) da db a.length 0 [] 0 rfl (Nat.zero_le _) (by omega) (Or.inl rfl)
    exact h.congr (fun k => by simp) (by simp)
  · obtain ⟨f1, t, ht, f2⟩ := lessL_facts a b 0 da db hb (Or.inl rfl)
    refine ⟨f1, ?_, lessL_len a b 0⟩
    have h1 := num_val f1
    have h2 := num_val da
    have h3 := num_val db
    have h4 := num_lt f1
    rw [lessL_len] at h4
    rw [pow_cast] at f2
    have ht0 : t = 0 := by
      by_cases e : t = 0
      · exact e
      · have h5 : ((b64 ^ a.length : Nat) : Int) * 1 ≤ ((b64 ^ a.length : Nat) : Int) * t := Int.mul_le_mul_of_nonneg_left (by omega) (by omega)
        omega
    subst ht0
    rw [Int.mul_zero] at f2
    omega
def subV (a b : List Int) : List Int × Int := if rightB a = true ∧ rightB b = true then (if num a < num b then ([], 2) else (limbs (num a - num b), 0)) else ([], 1)
theorem len_of_num_le {a b : List Int} (da : Dig (b64 : Int) a) (db : Dig (b64 : Int) b) (ca : Can a) (cb : Can b) (h : num b ≤ num a) : b.length ≤ a.length := by
  by_cases hl : b.length ≤ a.length
  · exact hl
  · have := val_lt_of_length b64_pos da db cb (by omega)
    rw [← num_val da, ← num_val db] at this
    omega
theorem toldV_small {v : Nat} (h : v < b64 ^ 64) : toldV v = (limbs v, 0) := if_pos h
theorem nat_Sub_ev (a b : List Int) (ha : a.length ≤ maxLen) (hb : b.length ≤ maxLen) (da : Dig (b64 : Int) a) (db : Dig (b64 : Int) b) : Evt (fun k => nat_Sub.f k a b) (subV a b) := by
  unfold nat_Sub.f subV
  rw [nat_right_eq _ (by intro l hl; simp at hl; rcases hl with rfl | rfl <;> assumption)]
  simp only [Option.bind_some, List.all_cons, List.all_nil, Bool.and_true, Bool.and_eq_true]
  by_cases h : rightB a = true ∧ rightB b = true
  · rw [if_pos h]
    refine Evt.ite_pos h ?_
    obtain ⟨h1, c1⟩ := (rightB_iff a).1 h.1
    obtain ⟨h2, c2⟩ := (rightB_iff b).1 h.2
    refine Evt.bind (nat_compare_ev a b da db c1 c2 (by omega)) ?_
    by_cases hlt : num a < num b
    · have e : cmpN (num a) (num b) = -1 := if_pos hlt
      rw [e, if_pos hlt]
      exact Evt.ite_pos (by omega) (Evt.pure _)
    · have e : ¬ cmpN (num a) (num b) < 0 := by
        unfold cmpN
        rw [if_neg hlt]
        by_cases e2 : num a = num b
        · rw [if_pos e2]; omega
        · rw [if_neg e2]; omega
      rw [if_neg hlt]
      refine Evt.ite_neg e ?_
      obtain ⟨s, e1, e2, e3, e4⟩ := nat_less_ev a b (by omega) (len_of_num_le da db c1 c2 (by omega)) da db (by omega)
      refine Evt.bind e1 ?_
      have n1 : num a - num b < b64 ^ 64 := by
        have := num_lt_p da h1
        omega
      have h5 := nat_told_ev s (by omega) e2
      rw [e3, toldV_small n1] at h5
      exact Evt.bind h5 (h := fun t _ => some (t.1, t.2)) (Evt.pure _)
  · rw [if_neg h]
    exact Evt.ite_neg h (Evt.pure _)
theorem nat_Of_ev (n : Int) : Evt (fun k => nat_Of.f k n) (strip [n]) := by
  refine (Evt.bind (nat_trim_ev [n] (by simp [maxLen])) (h := fun t _ => some t) (Evt.pure _)).congr (fun k => rfl) rfl
theorem nat_Small_ev (l : List Int) (h : l.length ≤ maxLen) : Evt (fun k => nat_Small.f k l) (smallV l) := by
  unfold nat_Small.f smallV
  rw [nat_Right_eq h]
  simp only [Option.bind_some]
  have J : ∀ x : Bool, Evt (fun k => nat_Small.j0 k l x) (if x = true then (0, false) else (l.getD 0 0, true)) := by
    intro x
    refine Evt.succ ?_
    simp only [nat_Small.j0]
    refine Evt.cond (fun _ => Evt.pure _) (fun _ => ?_)
    by_cases h0 : l.length = 0
    · refine Evt.ite_pos (by omega) ?_
      rw [List.length_eq_zero_iff.1 h0]
      exact Evt.pure _
    · exact Evt.ite_neg (by omega) (Evt.ite_pos (by omega) (Evt.pure _))
  cases hr : rightB l with
  | true =>
    refine Evt.ite_pos rfl ?_
    refine (J _).congr (fun k => rfl) ?_
    by_cases h1 : l.length ≤ 1
    · rw [if_neg (by simp; omega), if_pos ⟨rfl, h1⟩]
    · rw [if_pos (by simp; omega), if_neg (fun h => h1 h.2)]
  | false =>
    refine Evt.ite_neg (by simp) ?_
    refine (J _).congr (fun k => rfl) ?_
    simp
theorem ref_Bits_loop (a : List Int) (ha : a.length ≤ 64) (h0 : a.length ≠ 0) (x : Nat) : ∀ c : Nat, x < 18446744073709551616 → c + bl x ≤ 64 → Evt (fun k => windbreakref01_Bits.l0 k a (c : Int) (x : Int)) ((c : Int) + ((bl x : Nat) : Int) + 64 * ((a.length : Int) - 1)) := by
  induction x using Nat.strongRecOn with
  | _ x ih =>
    intro c hx hc
    refine Evt.succ ?_
    simp only [windbreakref01_Bits.l0]
    by_cases h : x = 0
    · subst h
      refine Evt.ite_neg (by omega) ?_
      rw [w64 (show -9223372036854775808 ≤ (a.length : Int) - 1 by omega) (by omega), w64 (show -9223372036854775808 ≤ 64 * ((a.length : Int) - 1) by omega) (by omega), w64 (by omega) (by omega), bl_zero]
      exact (Evt.pure _).congr (fun k => rfl) (by omega)
    · refine Evt.ite_pos (by omega) ?_
      have hb := bl_half h
      rw [Int.tdiv_eq_ediv_of_nonneg (by omega), wu64_of (by omega) (by omega), w64 (by omega) (by omega), show (x : Int) / 2 = ((x / 2 : Nat) : Int) from by omega]
      have := ih (x / 2) (by omega) (c + 1) (by omega) (by omega)
      refine this.congr (fun k => rfl) ?_
      omega
theorem ref_Bits_ev (a : List Int) (ha : a.length ≤ maxLen) (da : Dig (b64 : Int) a) : Evt (fun k => windbreakref01_Bits.f k a) (bitsV a) := by
  unfold windbreakref01_Bits.f bitsV
  rw [windbreakref01_Right_eq ha]
  simp only [Option.bind_some]
  have J : ∀ x : Bool, (x = false → rightB a = true ∧ a.length ≠ 0) → Evt (fun k => windbreakref01_Bits.j0 k a x) (if x = true then 0 else 64 * ((a.length : Int) - 1) + ((bl (a.getD (a.length - 1) 0).toNat : Nat) : Int)) := by
    intro x hx
    refine Evt.succ ?_
    simp only [windbreakref01_Bits.j0]
    refine Evt.cond (fun _ => Evt.pure _) (fun hc => ?_)
    have h := hx (by simpa using hc)
    obtain ⟨h1, c1⟩ := (rightB_iff a).1 h.1
    have h0 := h.2
    rw [w64 (show -9223372036854775808 ≤ (a.length : Int) - 1 by omega) (by omega)]
    refine Evt.ite_pos (by omega) (Evt.ite_pos (by omega) ?_)
    rw [rd_getD, show ((a.length : Int) - 1).toNat = a.length - 1 from by omega]
    have hr := da.getD b64_pos (a.length - 1)
    simp only [b64] at hr
    have hb := bl_le (x := (a.getD (a.length - 1) 0).toNat) (m := 64) (by omega)
    have hl := ref_Bits_loop a h1 h0 (a.getD (a.length - 1) 0).toNat 0 (by omega) (by omega)
    refine hl.congr (fun k => ?_) (by omega)
    rw [show (((a.getD (a.length - 1) 0).toNat : Nat) : Int) = a.getD (a.length - 1) 0 from by omega]
    rfl
  cases hA : rightB a with
  | true =>
    refine Evt.ite_pos rfl ((J (a.length == 0) (fun h => ⟨hA, by simpa using h⟩)).congr (fun k => ?_) ?_)
    · have : ((a.length : Int) == 0) = (a.length == 0) := by
        rw [Bool.eq_iff_iff]; simp
      rw [this]
    · by_cases h0 : a.length = 0
      · simp [h0]
      · simp [h0]
  | false =>
    refine Evt.ite_neg (by simp) ((J _ (fun h => by simp at h)).congr (fun k => rfl) ?_)
    simp
theorem ref_Of_eq (n : Int) : windbreakref01_Of.f n = some (strip [n]) := by
  unfold windbreakref01_Of.f
  by_cases h : n = 0
  · simp [h, strip]
  · simp [h, strip]
theorem windbreakref01_Small_ev (l : List Int) (h : l.length ≤ maxLen) : Evt (fun k => windbreakref01_Small.f k l) (smallV l) := by
  unfold windbreakref01_Small.f smallV
  rw [windbreakref01_Right_eq h]
  simp only [Option.bind_some]
  have J : ∀ x : Bool, Evt (fun k => windbreakref01_Small.j0 k l x) (if x = true then (0, false) else (l.getD 0 0, true)) := by
    intro x
    refine Evt.succ ?_
    simp only [windbreakref01_Small.j0]
    refine Evt.cond (fun _ => Evt.pure _) (fun _ => ?_)
    by_cases h0 : l.length = 0
    · refine Evt.ite_pos (by omega) ?_
      rw [List.length_eq_zero_iff.1 h0]
      exact Evt.pure _
    · exact Evt.ite_neg (by omega) (Evt.ite_pos (by omega) (Evt.pure _))
  cases hr : rightB l with
  | true =>
    refine Evt.ite_pos rfl ?_
    refine (J _).congr (fun k => rfl) ?_
    by_cases h1 : l.length ≤ 1
    · rw [if_neg (by simp; omega), if_pos ⟨rfl, h1⟩]
    · rw [if_pos (by simp; omega), if_neg (fun h => h1 h.2)]
  | false =>
    refine Evt.ite_neg (by simp) ?_
    refine (J _).congr (fun k => rfl) ?_
    simp
end Go.Proofs.Ytnaphgnkhhapoaa.Z
end
section
namespace Go.Proofs.Ytnaphgnkhhapoaa.Z
open Go.RowKit Go.Proofs.Ytnaphgnkhhapoaa.F Go.Proofs.YtnaphgnkhhapoaaW.PrintWords Go.Proofs.YtnaphgnkhhapoaaW.PrintMore
set_option linter.unusedSimpArgs false
set_option linter.unusedVariables false
theorem val_set (B : Int) (l : List Int) : ∀ (i : Nat) (v : Int), i < l.length → val B (l.set i v) = val B l + B ^ i * (v - l.getD i 0) := by
  induction l with
  | nil => intro i v h; simp at h
  | cons d l ih =>
    intro i v h
    cases i with
    | zero => simp [val]; omega
    | succ i =>
      have h2 := ih i v (by simpa using h)
      simp only [List.set_cons_succ, val, h2, Int.pow_succ, List.getD_cons_succ]
      generalize l.getD i 0 = y
      generalize B ^ i = P
      generalize val B l = V
      grind
theorem getD_append_left {l m : List Int} {i : Nat} (h : i < l.length) : (l ++ m).getD i 0 = l.getD i 0 := by
  simp [List.getD_eq_getElem?_getD, List.getElem?_append_left h]
theorem set_append_left {l m : List Int} {i : Nat} {v : Int} (h : i < l.length) : (l ++ m).set i v = l.set i v ++ m := by
  rw [List.set_append, if_pos h]
theorem val_take_step (B : Int) (l : List Int) (i : Nat) (h : i < l.length) : val B (l.take (i + 1)) = val B (l.take i) + B ^ i * l[i] := by
  rw [List.take_succ_eq_append_getElem h, val_append]
  simp only [val, List.length_take]
  rw [show min i l.length = i from by omega, Int.mul_zero, Int.add_zero]
theorem wraps_u64 (n : Int) (h0 : 0 ≤ n) (h1 : n < 2 ^ 64) : IntKind.u64.wrap n = n := wu64_of h0 (by omega)
theorem or_u64 {x y : Int} (s : Nat) (hs : s ≤ 64) (hx0 : 0 ≤ x) (hx : x % 2 ^ s = 0) (hx1 : x < 18446744073709551616) (hy0 : 0 ≤ y) (hy : y < 2 ^ s) : Go.bits .or .u64 x y = x + y := by
  have h2 : (2 : Int) ^ s ≤ 2 ^ 64 := pow_mono (by omega) hs
  exact bits_join .u64 64 (by decide) wraps_u64 s x y hx0 hx (by omega) hy0 hy (by omega)
theorem or_comm_u64 {x y : Int} (hx0 : 0 ≤ x) (hx1 : x < 18446744073709551616) (hy0 : 0 ≤ y) (hy1 : y < 18446744073709551616) : Go.bits .or .u64 x y = Go.bits .or .u64 y x := by
  obtain ⟨a, rfl⟩ := Int.eq_ofNat_of_zero_le hx0
  obtain ⟨b, rfl⟩ := Int.eq_ofNat_of_zero_le hy0
  rw [(bits_nat .u64 64 (by decide) wraps_u64 a b (by omega) (by omega)).2, (bits_nat .u64 64 (by decide) wraps_u64 b a (by omega) (by omega)).2, Nat.or_comm]
theorem shl_u64 (x : Int) (s : Nat) (hs : s ≤ 64) : shl .u64 x (s : Int) = (x * 2 ^ s) % 18446744073709551616 := by
  unfold shl
  rw [wu64]
  simp only [IntKind.bits, Int.toNat_natCast]
  rw [show min s 64 = s from by omega]
theorem pow2_pos (s : Nat) : (0 : Int) < 2 ^ s := Int.pow_pos (by omega)
end Go.Proofs.Ytnaphgnkhhapoaa.Z
end
section
namespace Go.Proofs.Ytnaphgnkhhapoaa.Z
open Go.RowKit Go.Proofs.YtnaphgnkhhapoaaW.PrintWords
set_option linter.unusedSimpArgs false
set_option linter.unusedVariables false
def b8 : Nat := 256
theorem b8_pos : (0 : Int) < (b8 : Int) := by decide
theorem b8_pow2 (m : Nat) : b8 ^ m = 2 ^ (8 * m) := by
  have h : b8 = 2 ^ 8 := by decide
  rw [h, ← Nat.pow_mul]
theorem toD_getD {B : Nat} (hB : 2 ≤ B) (i : Nat) : ∀ v : Nat, (toD B v).getD i 0 = ((v / B ^ i % B : Nat) : Int) := by
  induction i with
  | zero =>
    intro v
    by_cases hv : v = 0
    · subst hv; rw [toD_zero]; simp
    · rw [toD_pos hB (by omega)]; simp
  | succ i ih =>
    intro v
    by_cases hv : v = 0
    · subst hv; rw [toD_zero]; simp
    · rw [toD_pos hB (by omega), List.getD_cons_succ, ih, Nat.div_div_eq_div_mul, Nat.pow_succ, Nat.mul_comm (B ^ i)]
theorem limb_at {a : List Int} (da : Dig (b64 : Int) a) (ca : Can a) (i : Nat) : a.getD i 0 = ((num a / b64 ^ i % b64 : Nat) : Int) := by
  have h := toD_getD b64_two i (num a)
  rw [show toD b64 (num a) = a from limbs_num da ca] at h
  exact h
theorem can_last {a : List Int} (ca : Can a) (h0 : a.length ≠ 0) : a.getD (a.length - 1) 0 ≠ 0 := by
  have h : a ≠ [] := fun e => h0 (by rw [e]; rfl)
  have h2 := ca h
  rw [List.getLast_eq_getElem] at h2
  rw [List.getD_eq_getElem?_getD, List.getElem?_eq_getElem (show a.length - 1 < a.length by omega)]
  exact h2
theorem bitsV_bl {a : List Int} (da : Dig (b64 : Int) a) (hA : rightB a = true) : bitsV a = ((bl (num a) : Nat) : Int) := by
  obtain ⟨h1, ca⟩ := (rightB_iff a).1 hA
  unfold bitsV
  by_cases h0 : a.length = 0
  · rw [if_neg (fun h => h.2 h0)]
    have e : a = [] := List.length_eq_zero_iff.1 h0
    subst e
    rfl
  · rw [if_pos ⟨hA, h0⟩]
    have e := limb_at da ca (a.length - 1)
    have hlt := num_lt da
    have hne := can_last ca h0
    have hl : num a / b64 ^ (a.length - 1) < b64 := by
      apply Nat.div_lt_of_lt_mul
      rw [← Nat.pow_succ, show (a.length - 1).succ = a.length from by omega]
      exact hlt
    rw [Nat.mod_eq_of_lt hl] at e
    rw [e] at hne ⊢
    rw [b64_pow2] at hne ⊢
    have h2 := bl_shift (num a) (64 * (a.length - 1)) (fun hh => hne (by rw [hh]; rfl))
    rw [h2, Int.toNat_natCast]
    omega
theorem tdiv_nat (i : Nat) (c : Nat) : Int.tdiv (i : Int) (c : Int) = ((i / c : Nat) : Int) := by
  rw [Int.tdiv_eq_ediv_of_nonneg (by omega)]; simp
theorem tmod_nat (i : Nat) (c : Nat) : Int.tmod (i : Int) (c : Int) = ((i % c : Nat) : Int) := by
  rw [Int.tmod_eq_emod_of_nonneg (by omega)]; simp
def readV (b : List Int) : List Int × Int := if b.length > 512 then ([], 4) else (limbs (val (b8 : Int) b.reverse).toNat, 0)
theorem val_b8_lt {b : List Int} (h : Dig (b8 : Int) b) (hl : b.length ≤ 512) : (val (b8 : Int) b.reverse).toNat < b64 ^ 64 := by
  have h1 : Dig (b8 : Int) b.reverse := fun x hx => h x (List.mem_reverse.1 hx)
  have h2 := val_lt b8_pos h1
  have h3 := val_nonneg b8_pos h1
  rw [pow_cast, List.length_reverse] at h2
  have h4 : b8 ^ b.length ≤ b64 ^ 64 := by
    rw [b8_pow2]
    exact pow2_le_b64 (by omega)
  omega
theorem right_one {x : Int} (h : x ≠ 0) : rightB [x] = true := (rightB_iff _).2 ⟨by simp, Can.one h⟩
theorem right_limbs' {v : Nat} (h : v < b64 ^ 64) : rightB (limbs v) = true := (rightB_iff _).2 ⟨(limbs_long v).2 h, toD_can b64_two v⟩
theorem dig_limbs' (v : Nat) : Dig (b64 : Int) (limbs v) := toD_dig b64_two v
theorem limbs_le64 {v : Nat} (h : v < b64 ^ 64) : (limbs v).length ≤ 64 := (limbs_long v).2 h
theorem num_zero_iff {b : List Int} (db : Dig (b64 : Int) b) (cb : Can b) : num b = 0 ↔ b.length = 0 := by
  constructor
  · intro h
    have := limbs_num db cb
    rw [h] at this
    rw [← this, show limbs 0 = [] from toD_zero b64]
    rfl
  · intro h
    rw [List.eq_nil_of_length_eq_zero h]
    rfl
theorem lz : limbs 0 = [] := toD_zero b64
theorem lz_iff (m : Nat) : (limbs m).length = 0 ↔ m = 0 := by
  constructor
  · intro h
    have h1 := num_limbs m
    rw [List.eq_nil_of_length_eq_zero h] at h1
    rw [← h1]; rfl
  · rintro rfl
    rw [lz]; rfl
theorem lmax {m : Nat} (h : m < b64 ^ 64) : (limbs m).length ≤ maxLen := by
  have := limbs_le64 h
  simp only [maxLen]
  omega
theorem limbs_one {m : Nat} (h0 : m ≠ 0) (h : m < b64) : limbs m = [(m : Int)] := by
  unfold limbs
  rw [toD_pos b64_two (by omega), Nat.mod_eq_of_lt h, Nat.div_eq_of_lt h, toD_zero]
end Go.Proofs.Ytnaphgnkhhapoaa.Z
end
section
namespace Go.Proofs.Ytnaphgnkhhapoaa.Z
open Go.RowKit Go.Proofs.Ytnaphgnkhhapoaa.F Go.Proofs.YtnaphgnkhhapoaaW.PrintWords
set_option linter.unusedSimpArgs false
set_option linter.unusedVariables false
theorem pow_b64_b8 (q r : Nat) : (b64 : Int) ^ q * 2 ^ (8 * r) = (b8 : Int) ^ (8 * q + r) := by
  rw [pow_cast, pow_cast, show (2 : Int) ^ (8 * r) = ((2 ^ (8 * r) : Nat) : Int) from by simp, ← Int.natCast_mul]
  congr 1
  rw [b64_pow2, b8_pow2, ← Nat.pow_add]
  congr 1
  omega
def room (i j : Nat) : Int := 2 ^ (8 * min 8 (i - 8 * j))
theorem room_mono (i j : Nat) : room i j ≤ room (i + 1) j := pow_mono (by omega) (by omega)
theorem room_max (i j : Nat) : room i j ≤ 18446744073709551616 := by
  have h : (2 : Int) ^ (8 * min 8 (i - 8 * j)) ≤ 2 ^ 64 := pow_mono (by omega) (by omega)
  exact h
theorem nat_Read_loop (b : List Int) (hb : b.length ≤ 512) (db : Dig (b8 : Int) b) {r : List Int × Int} (n : Nat) : ∀ (i : Nat) (out : List Int), i ≤ b.length → b.length - i = n → out.length = (b.length + 7) / 8 →
    (∀ j : Nat, 0 ≤ out.getD j 0 ∧ out.getD j 0 < room i j) → val (b64 : Int) out = val (b8 : Int) (b.reverse.take i) →
    (∀ o : List Int, o.length = (b.length + 7) / 8 → Dig (b64 : Int) o → val (b64 : Int) o = val (b8 : Int) b.reverse → Evt (fun k => (nat_told.f k o).bind fun t => some (t.1, t.2)) r) →
    Evt (fun k => nat_Read.l0 k b out (b.length : Int) (i : Int)) r := by
  induction n with
  | zero =>
    intro i out hi hn hl hj hv fin
    refine Evt.succ ?_
    simp only [nat_Read.l0]
    refine Evt.ite_neg (by omega) ?_
    rw [List.take_of_length_le (by simp; omega)] at hv
    refine fin out hl (fun x hx => ?_) hv
    obtain ⟨j, hj1, rfl⟩ := List.getElem_of_mem hx
    have h1 := hj j
    have h2 := room_max i j
    rw [List.getD_eq_getElem?_getD, List.getElem?_eq_getElem hj1] at h1
    simp only [Option.getD_some] at h1
    simp only [b64]
    omega
  | succ n ih =>
    intro i out hi hn hl hj hv fin
    have hlt : i < b.length := by omega
    refine Evt.succ ?_
    simp only [nat_Read.l0]
    have e1 : wrap64 (Int.tdiv (i : Int) 8) = ((i / 8 : Nat) : Int) := by
      rw [show (8 : Int) = ((8 : Nat) : Int) from rfl, tdiv_nat]
      exact w64 (by omega) (by omega)
    have e2 : wrap64 (8 * Int.tmod (i : Int) 8) = ((8 * (i % 8) : Nat) : Int) := by
      rw [show Int.tmod (i : Int) 8 = Int.tmod (i : Int) ((8 : Nat) : Int) from rfl, tmod_nat, w64 (by omega) (by omega)]
      omega
    have e3 : wrap64 (wrap64 ((b.length : Int) - 1) - (i : Int)) = ((b.length - 1 - i : Nat) : Int) := by
      rw [w64 (show -9223372036854775808 ≤ (b.length : Int) - 1 by omega) (by omega), w64 (by omega) (by omega)]
      omega
    rw [e1, e2, e3, w64 (show -9223372036854775808 ≤ (i : Int) + 1 by omega) (by omega)]
    refine Evt.ite_pos (by omega) (Evt.ite_pos (by omega) (Evt.ite_pos (by omega) (Evt.ite_pos (by omega) (Evt.ite_pos (by omega) ?_))))
    have hx := db.getD b8_pos (b.length - 1 - i)
    have hR : b.reverse[i]'(by simp; omega) = b.getD (b.length - 1 - i) 0 := by
      rw [List.getElem_reverse, List.getD_eq_getElem?_getD, List.getElem?_eq_getElem (show b.length - 1 - i < b.length by omega)]
      rfl
    have ho := hj (i / 8)
    rw [rd_nat, rd_nat, Int.toNat_natCast]
    generalize hxx : b.getD (b.length - 1 - i) 0 = x at *
    simp only [b8] at hx
    have hs : (2 : Int) ^ (8 * (i % 8)) * 256 ≤ 18446744073709551616 := by
      have h : (2 : Int) ^ (8 * (i % 8) + 8) ≤ 2 ^ 64 := pow_mono (by omega) (by omega)
      rw [Int.pow_add] at h
      exact h
    have hp := pow2_pos (8 * (i % 8))
    have hr0 : room i (i / 8) = 2 ^ (8 * (i % 8)) := by
      unfold room
      rw [show min 8 (i - 8 * (i / 8)) = i % 8 from by omega]
    have hr1 : room (i + 1) (i / 8) = 2 ^ (8 * (i % 8)) * 256 := by
      unfold room
      rw [show 8 * min 8 (i + 1 - 8 * (i / 8)) = 8 * (i % 8) + 8 from by omega, Int.pow_add]
      rfl
    rw [hr0] at ho
    have hxm : x * 2 ^ (8 * (i % 8)) ≤ 255 * 2 ^ (8 * (i % 8)) := Int.mul_le_mul_of_nonneg_right (by omega) (by omega)
    have hx0 : 0 ≤ x * 2 ^ (8 * (i % 8)) := Int.mul_nonneg hx.1 (by omega)
    have hmod : (x * 2 ^ (8 * (i % 8))) % 2 ^ (8 * (i % 8)) = 0 := Int.mul_emod_left _ _
    rw [wu64_of hx.1 (by omega), shl_u64 _ _ (by omega), Int.emod_eq_of_lt hx0 (by omega)]
    have hor : Go.bits .or .u64 (out.getD (i / 8) 0) (x * 2 ^ (8 * (i % 8))) = out.getD (i / 8) 0 + x * 2 ^ (8 * (i % 8)) := by
      rw [or_comm_u64 ho.1 (by omega) hx0 (by omega), or_u64 (8 * (i % 8)) (by omega) hx0 hmod (by omega) ho.1 ho.2, Int.add_comm]
    rw [hor]
    refine ih (i + 1) (out.set (i / 8) (out.getD (i / 8) 0 + x * 2 ^ (8 * (i % 8)))) hlt (by omega) (by simp; exact hl) (fun j => ?_) ?_ fin
    · by_cases hji : j = i / 8
      · subst hji
        rw [List.getD_eq_getElem?_getD, List.getElem?_set_self (by omega)]
        simp only [Option.getD_some]
        rw [hr1]
        omega
      · have h1 := hj j
        have h2 := room_mono i j
        rw [List.getD_eq_getElem?_getD] at h1 ⊢
        rw [List.getElem?_set_ne (by omega)]
        omega
    · rw [val_set _ _ _ _ (by omega), hv, val_take_step _ _ _ (by simp; omega), hR]
      have h3 := pow_b64_b8 (i / 8) (i % 8)
      rw [show 8 * (i / 8) + i % 8 = i from by omega] at h3
      rw [← h3]
      generalize out.getD (i / 8) 0 = o
      generalize (b64 : Int) ^ (i / 8) = P
      generalize (2 : Int) ^ (8 * (i % 8)) = Q
      grind
theorem nat_Read_ev (b : List Int) (hb : b.length ≤ maxLen) (db : Dig (b8 : Int) b) (k : Nat) (hk : k ≤ b.length) (hz : ∀ j, j < k → b.getD j 0 = 0) (hn : k < b.length → b.getD k 0 ≠ 0) : Evt (fun m => nat_Read.f m b) (readV (b.drop k)) := by
  have hbl : b.length ≤ 9223372036854775807 := by simp only [maxLen] at hb; omega
  unfold nat_Read.f readV
  simp only [nat_Read_ix.f, Option.bind_some]
  have hg : nat_Read_ix.g b 0 = (if k < b.length then (k : Int) else -1) := by
    rcases nat_Read_ix.g_of b 0 with ⟨h1, h2⟩ | ⟨q, h1, h2, h3, h4⟩
    · by_cases h : k < b.length
      · exact absurd (h2 k h) (hn h)
      · rw [if_neg h, h1]
    · by_cases h : k < b.length
      · rw [if_pos h, h2]
        have a1 : ¬ q < k := fun hq => h3 (hz q hq)
        have a2 : ¬ k < q := fun hq => hn h (h4 k hq)
        omega
      · exact absurd (hz q (by omega)) h3
  rw [hg]
  by_cases h : k < b.length
  · rw [if_pos h]
    refine Evt.ite_neg (by omega) (Evt.ite_pos (by omega) (Evt.ite_pos (by omega) ?_))
    rw [Int.toNat_natCast]
    have dc : Dig (b8 : Int) (b.drop k) := db.drop k
    generalize b.drop k = c at *
    by_cases hc : c.length > 512
    · rw [if_pos hc]
      exact Evt.ite_pos (by omega) (Evt.pure _)
    · rw [if_neg hc]
      have e : wrap64 (Int.tdiv (wrap64 ((c.length : Int) + 7)) 8) = (((c.length + 7) / 8 : Nat) : Int) := by
        rw [w64 (show -9223372036854775808 ≤ (c.length : Int) + 7 by omega) (by omega), show (c.length : Int) + 7 = ((c.length + 7 : Nat) : Int) from by omega, show (8 : Int) = ((8 : Nat) : Int) from rfl, tdiv_nat, w64 (by omega) (by omega)]
      rw [e]
      refine Evt.ite_neg (by omega) (Evt.ite_pos (by omega) (Evt.ite_pos (by omega) ?_))
      rw [Int.toNat_natCast]
      refine nat_Read_loop c (by omega) dc c.length 0 _ (Nat.zero_le _) (by omega) (by simp) (fun j => ?_) ?_ ?_
      · have e0 : (List.replicate ((c.length + 7) / 8) (0 : Int)).getD j 0 = 0 := by
          rw [List.getD_eq_getElem?_getD, List.getElem?_replicate]
          split <;> rfl
        rw [e0]
        exact ⟨Int.le_refl _, Int.pow_pos (by omega)⟩
      · rw [val_replicate]; rfl
      · intro o ho do_ hv
        have ht := nat_told_ev o (by omega) do_
        have hnum : num o = (val (b8 : Int) c.reverse).toNat := by unfold num; rw [hv]
        rw [hnum] at ht
        have hlt := val_b8_lt dc (by omega)
        unfold toldV at ht
        rw [if_pos hlt] at ht
        exact Evt.bind ht (h := fun t _ => some (t.1, t.2)) (Evt.pure _)
  · rw [if_neg h, show b.drop k = [] from List.drop_of_length_le (by omega)]
    refine Evt.ite_pos (by omega) ?_
    rw [if_neg (by simp)]
    have e : limbs (val (b8 : Int) ([] : List Int).reverse).toNat = [] := toD_zero b64
    rw [e]
    exact Evt.pure _
theorem pow_b16_b8 (p : Nat) : (b16 : Int) ^ p = (b8 : Int) ^ (2 * p) := by
  rw [pow_cast, pow_cast]
  congr 1
  rw [show b16 = b8 ^ 2 from by decide, ← Nat.pow_mul]
theorem rev_at {b : List Int} {k q : Nat} (hq : q < (b.drop k).reverse.length) : (b.drop k).reverse[q] = b.getD (b.length - 1 - q) 0 := by
  have hq' : q < b.length - k := by simpa using hq
  rw [List.getElem_reverse, List.getElem_drop, List.getD_eq_getElem?_getD, List.getElem?_eq_getElem (show b.length - 1 - q < b.length by omega)]
  simp only [Option.getD_some, List.length_drop]
  congr 1
  omega
theorem ref_Read_l1 (b : List Int) (k : Nat) (hk : k ≤ b.length) (hb : b.length ≤ 9223372036854775807) (db : Dig (b8 : Int) b) (h5 : (b.drop k).length ≤ 512) (n : Nat) : ∀ (d : List Int), Dig (b16 : Int) d → d.length ≤ 256 → (b.length - k + 1) / 2 - d.length = n →
    val (b16 : Int) d = val (b8 : Int) ((b.drop k).reverse.take (2 * d.length)) →
    Evt (fun m => windbreakref01_Read.l1 m b (k : Int) d ((b.length : Int) - 1 - 2 * (d.length : Int))) (limbs (val (b8 : Int) (b.drop k).reverse).toNat, 0) := by
  have h5' : b.length - k ≤ 512 := by simpa using h5
  induction n with
  | zero =>
    intro d dd hd hn hv
    refine Evt.succ ?_
    simp only [windbreakref01_Read.l1]
    refine Evt.ite_neg (by omega) ?_
    rw [List.take_of_length_le (by simp; omega)] at hv
    refine Evt.bind (windbreakref01_cut_ev d (by simp [maxLen]; omega)) ?_
    have hlt := val_b8_lt (db.drop k) h5
    have hnum : num16 d = (val (b8 : Int) (b.drop k).reverse).toNat := by unfold num16; rw [hv]
    rw [strip_digs dd, hnum]
    have hlim : (val (b8 : Int) (b.drop k).reverse).toNat < lim := Nat.lt_of_lt_of_le hlt (lim_pow (by omega))
    have ht := ref_told_ev _ hlim
    unfold toldV at ht
    rw [if_pos hlt] at ht
    exact Evt.bind ht (h := fun t _ => some (t.1, t.2)) (Evt.pure _)
  | succ n ih =>
    intro d dd hd hn hv
    refine Evt.succ ?_
    simp only [windbreakref01_Read.l1]
    have hx := db.getD b8_pos (b.length - 1 - 2 * d.length)
    have hy := db.getD b8_pos (b.length - 1 - (2 * d.length + 1))
    have r0 := rev_at (b := b) (k := k) (q := 2 * d.length) (by simp; omega)
    rw [w64 (show -9223372036854775808 ≤ (b.length : Int) - 1 - 2 * (d.length : Int) - 1 by omega) (by omega), w64 (show -9223372036854775808 ≤ (b.length : Int) - 1 - 2 * (d.length : Int) - 2 by omega) (by omega)]
    refine Evt.ite_pos (by omega) (Evt.ite_pos (by omega) (Evt.ite_pos (by omega) ?_))
    rw [rd_getD b ((b.length : Int) - 1 - 2 * (d.length : Int)), show ((b.length : Int) - 1 - 2 * (d.length : Int)).toNat = b.length - 1 - 2 * d.length from by omega]
    by_cases h2 : (b.length : Int) - 1 - 2 * (d.length : Int) - 1 ≥ (k : Int)
    · have r1 := rev_at (b := b) (k := k) (q := 2 * d.length + 1) (by simp; omega)
      refine Evt.ite_pos h2 (Evt.ite_pos (by omega) (Evt.ite_pos (by omega) (Evt.ite_pos (by omega) ?_)))
      rw [rd_getD b ((b.length : Int) - 1 - 2 * (d.length : Int) - 1), show ((b.length : Int) - 1 - 2 * (d.length : Int) - 1).toNat = b.length - 1 - (2 * d.length + 1) from by omega]
      generalize b.getD (b.length - 1 - 2 * d.length) 0 = x at *
      generalize b.getD (b.length - 1 - (2 * d.length + 1)) 0 = y at *
      simp only [b8] at hx hy
      rw [wu64_of (x := x) (by omega) (by omega), wu64_of (x := y) (by omega) (by omega), wu64_of (x := 256 * y) (by omega) (by omega), wu64_of (x := x + 256 * y) (by omega) (by omega)]
      have h := ih (d ++ [x + 256 * y]) (Dig.append.2 ⟨dd, fun z hz => by simp at hz; subst hz; simp only [b16]; omega⟩) (by simp; omega) (by simp; omega) ?_
      · refine h.congr (fun m => ?_) rfl
        congr 1
        simp
        omega
      · rw [val_append, hv, pow_b16_b8, List.length_append, List.length_singleton, show 2 * (d.length + 1) = 2 * d.length + 1 + 1 from by omega, val_take_step _ _ _ (by simp; omega), val_take_step _ _ _ (by simp; omega), r0, r1, Int.pow_succ]
        simp only [val]
        rw [show ((b8 : Nat) : Int) = 256 from rfl]
        generalize (256 : Int) ^ (2 * d.length) = P
        generalize val 256 _ = V
        grind
    · refine Evt.ite_neg h2 (Evt.ite_pos (by omega) ?_)
      generalize b.getD (b.length - 1 - 2 * d.length) 0 = x at *
      simp only [b8] at hx
      rw [wu64_of (x := x) (by omega) (by omega)]
      have h := ih (d ++ [x]) (Dig.append.2 ⟨dd, fun z hz => by simp at hz; subst hz; simp only [b16]; omega⟩) (by simp; omega) (by simp; omega) ?_
      · refine h.congr (fun m => ?_) rfl
        congr 1
        simp
        omega
      · rw [val_append, hv, pow_b16_b8, List.length_append, List.length_singleton, show 2 * (d.length + 1) = 2 * d.length + 1 + 1 from by omega]
        rw [List.take_of_length_le (i := 2 * d.length + 1 + 1) (by simp; omega), ← List.take_of_length_le (i := 2 * d.length + 1) (l := (b.drop k).reverse) (by simp; omega), val_take_step _ _ _ (by simp; omega), r0]
        rw [List.take_take, Nat.min_eq_left (by omega)]
        simp [val]
theorem ref_Read_ev (b : List Int) (hb : b.length ≤ maxLen) (db : Dig (b8 : Int) b) (k : Nat) (hk : k ≤ b.length) (hz : ∀ j, j < k → b.getD j 0 = 0) (hn : k < b.length → b.getD k 0 ≠ 0) : Evt (fun m => windbreakref01_Read.f m b) (readV (b.drop k)) := by
  have hbl : b.length ≤ 9223372036854775807 := by simp only [maxLen] at hb; omega
  have hj : Evt (fun m => windbreakref01_Read.j1 m b (k : Int)) (readV (b.drop k)) := by
    refine Evt.succ ?_
    simp only [windbreakref01_Read.j1]
    unfold readV
    rw [w64 (show -9223372036854775808 ≤ (b.length : Int) - (k : Int) by omega) (by omega), w64 (show -9223372036854775808 ≤ (b.length : Int) - 1 by omega) (by omega)]
    by_cases hc : (b.drop k).length > 512
    · have hc' : b.length - k > 512 := by simpa using hc
      rw [if_pos hc]
      exact Evt.ite_pos (by omega) (Evt.pure _)
    · have hc' : ¬ b.length - k > 512 := by simpa using hc
      rw [if_neg hc]
      refine Evt.ite_neg (by omega) ?_
      have h := ref_Read_l1 b k hk hbl db (by omega) ((b.length - k + 1) / 2) [] Dig.nil (by simp) (by simp) rfl
      refine h.congr (fun m => ?_) rfl
      simp
  have hl : ∀ (n i : Nat), k - i = n → i ≤ k → Evt (fun m => windbreakref01_Read.l0 m b (i : Int)) (readV (b.drop k)) := by
    intro n
    induction n with
    | zero =>
      intro i h1 h2
      obtain rfl : i = k := by omega
      refine Evt.succ ?_
      simp only [windbreakref01_Read.l0]
      by_cases h : i < b.length
      · refine Evt.ite_pos (by omega) (Evt.ite_pos (by omega) ?_)
        rw [rd_nat]
        exact Evt.ite_neg (hn h) hj
      · exact Evt.ite_neg (by omega) hj
    | succ n ih =>
      intro i h1 h2
      refine Evt.succ ?_
      simp only [windbreakref01_Read.l0]
      refine Evt.ite_pos (by omega) (Evt.ite_pos (by omega) ?_)
      rw [rd_nat, w64 (by omega) (by omega)]
      exact Evt.ite_pos (hz i (by omega)) (ih (i + 1) (by omega) (by omega))
  exact (hl k 0 (by omega) (Nat.zero_le _)).congr (fun m => rfl) rfl
end Go.Proofs.Ytnaphgnkhhapoaa.Z
end
