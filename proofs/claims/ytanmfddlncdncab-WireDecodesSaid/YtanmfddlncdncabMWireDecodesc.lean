/- Proved: the law WireDecodes of layer 12: the message that any bytes are is the document's; for every input, without a condition. -/
import Derived.Test.YtanmfddlncdncabMWireDecodesb
import Derived.Deep.RegionLaw
import Derived.Laws.ResultCell
section
namespace Go.Proofs.Ytanmfddlncdncab.F
open Go.RowKit Go.Proofs.YtanmfddlncdncabW.PrintWords Go.Proofs.YtanmfddlncdncabW.PrintLast Go.Proofs.YtanmfddlncdncabW.PrintMore
attribute [local go_sem] max2_int min2_int max_two min_two max_three min_three max_four min_four
set_option linter.unusedVariables false
set_option linter.unusedSimpArgs false
def IsS64 (w0 W : World) (g : Nat) (f0 : List Int) (f1 : Int) : Prop := ∃ A0 c0, W.heap[g]? = some (.cells #[.slice A0 f0.length c0, .int .i64 f1] 64 (0, 0)) ∧ (w0.heap.size ≤ g ∧ f0.length ≤ c0) ∧ Kd.C (Kd.int .u8) w0 A0 f0.length f0
theorem IsS64.grown {w0 W : World} {g : Nat} {f0 : List Int} {f1 : Int} {W1 : World} {row : Option Nat} (h : IsS64 w0 W g f0 f1) (hw : W.grownBy W1 row) (hne : some g ≠ row) : IsS64 w0 W1 g f0 f1 := by
 obtain ⟨A0, c0, hb, hg, hr0⟩ := h
 exact ⟨A0, c0, blk_grown hb hw hne, hg, hr0⟩
theorem IsS64.below {w0 W : World} {g : Nat} {f0 : List Int} {f1 : Int} {W1 : World} (h : IsS64 w0 W g f0 f1) (hw : Below W.heap.size W W1) : IsS64 w0 W1 g f0 f1 := h.grown (grown_of_below hw none) (by simp)
theorem IsS64.drewN {w0 W : World} {g : Nat} {f0 : List Int} {f1 : Int} (h : IsS64 w0 W g f0 f1) (m : Nat) : IsS64 w0 (W.drewN m) g f0 f1 := h
theorem IsS64.at_ {w0 W : World} {g : Nat} {f0 : List Int} {f1 : Int} {w' : World} {m : Nat} (hq : W.drewN m = w') (h : IsS64 w0 W g f0 f1) : IsS64 w0 w' g f0 f1 := by subst hq; exact IsS64.drewN h m
theorem IsS64.apart {w0 W : World} {g : Nat} {f0 : List Int} {f1 : Int} {α : Type} {d : Kd α} {e : Nat} {base : Nat} {ok : Nat → Prop} {v : Value} {xs : List α} (h : IsS64 w0 W g f0 f1) (ho : d.R e W base ok v xs) (ht : ∀ q, q ∈ e :: d.E → q ≠ 64) : d.R e W base (fun k => ok k ∧ k ≠ g) v xs := by
 obtain ⟨A0, c0, hb, hg, hr0⟩ := h
 exact Kd.R_types ho hb ht
theorem IsS64.own_ne {w0 W : World} {g : Nat} {f0 : List Int} {f1 : Int} {α : Type} {d : Kd α} {e : Nat} {base : Nat} {ok : Nat → Prop} {v : Value} {xs : List α} (h : IsS64 w0 W g f0 f1) (ho : d.R e W base ok v xs) (ht : e ≠ 64) : some g ≠ v.ownBlock := by
 obtain ⟨A0, c0, hb, hg, hr0⟩ := h
 exact Kd.R_ne ho hb ht
theorem IsS64.lt {w0 W : World} {g : Nat} {f0 : List Int} {f1 : Int} (h : IsS64 w0 W g f0 f1) : g < W.heap.size := by
 obtain ⟨A0, c0, hb, hg, hr0⟩ := h
 exact blk_lt hb
theorem IsS64.ge {w0 W : World} {g : Nat} {f0 : List Int} {f1 : Int} (h : IsS64 w0 W g f0 f1) : w0.heap.size ≤ g := by
 obtain ⟨A0, c0, hb, hg, hr0⟩ := h
 exact hg.1
theorem IsS64.far {w0 W : World} {g : Nat} {f0 : List Int} {f1 : Int} {p : Addr} (h : IsS64 w0 W g f0 f1) (hne : g ≠ p.block) (u : Value) : IsS64 w0 (W.setCell p u) g f0 f1 := by
 obtain ⟨A0, c0, hb, hg, hr0⟩ := h
 exact ⟨A0, c0, blk_far hb hne u, hg, hr0⟩
theorem cellS64_0 {W : World} {g : Nat} {A0 : Option Addr} {c0 : Nat} {f0 : List Int} {f1 : Int} (h : W.heap[g]? = some (.cells #[.slice A0 f0.length c0, .int .i64 f1] 64 (0, 0))) : W.cell? ⟨g, 0, none⟩ = some (.slice A0 f0.length c0) := (blk_cell h 0).trans rfl
theorem cellS64_1 {W : World} {g : Nat} {A0 : Option Addr} {c0 : Nat} {f0 : List Int} {f1 : Int} (h : W.heap[g]? = some (.cells #[.slice A0 f0.length c0, .int .i64 f1] 64 (0, 0))) : W.cell? ⟨g, 1, none⟩ = some (.int .i64 f1) := (blk_cell h 1).trans rfl
theorem IsS64.set_1 {w0 W : World} {g : Nat} {f0 : List Int} {f1 : Int} (h : IsS64 w0 W g f0 f1) (x : Int) : IsS64 w0 (W.setCell ⟨g, 1, none⟩ (.int .i64 x)) g f0 x := by
 obtain ⟨A0, c0, hb, hg, hr0⟩ := h
 exact ⟨A0, c0, by simpa using blk_set hb 1 (.int .i64 x), hg, hr0⟩
mutual
def windbreakref09_Reader_next.l0 : Nat → Int → Int → Int → List Int → Int → Option (Int × Int × Int)
 | 0, _, _, _, _, _ => none
 | k + 1, x4, x5, x6, x1000, x1001 => if (wrap64 (x1001 + x6)) < (x1000.length : Int) then (windbreakref09_Reader_next.j1 k x4 x5 x6 (decide (x6 < 10)) x1000 x1001) else (windbreakref09_Reader_next.j1 k x4 x5 x6 false x1000 x1001)
def windbreakref09_Reader_next.j1 : Nat → Int → Int → Int → Bool → List Int → Int → Option (Int × Int × Int)
 | 0, _, _, _, _, _, _ => none
 | k + 1, x4, x5, x6, x24, x1000, x1001 => if x24 = true then (if 0 ≤ (wrap64 (x1001 + x6)) then (if (wrap64 (x1001 + x6)) < (x1000.length : Int) then (if x6 = 9 then (windbreakref09_Reader_next.j2 k x4 x5 x6 (Int.tmod (IntKind.u64.wrap (rd x1000 (wrap64 (x1001 + x6)))) 128) (decide ((IntKind.u64.wrap (rd x1000 (wrap64 (x1001 + x6)))) ≥ 128)) (decide ((Int.tmod (IntKind.u64.wrap (rd x1000 (wrap64 (x1001 + x6)))) 128) > 1)) x1000 x1001) else (windbreakref09_Reader_next.j2 k x4 x5 x6 (Int.tmod (IntKind.u64.wrap (rd x1000 (wrap64 (x1001 + x6)))) 128) (decide ((IntKind.u64.wrap (rd x1000 (wrap64 (x1001 + x6)))) ≥ 128)) false x1000 x1001)) else (none)) else (none)) else (some (0, 0, x1001))
def windbreakref09_Reader_next.j2 : Nat → Int → Int → Int → Int → Bool → Bool → List Int → Int → Option (Int × Int × Int)
 | 0, _, _, _, _, _, _, _, _ => none
 | k + 1, x4, x5, x6, x7, x8, x49, x1000, x1001 => if x49 = true then (some (0, 0, x1001)) else (if x8 = true then (windbreakref09_Reader_next.l0 k (IntKind.u64.wrap (x4 + (IntKind.u64.wrap (x7 * x5)))) (IntKind.u64.wrap (x5 * 128)) (wrap64 (x6 + 1)) x1000 x1001) else (if x6 > 0 then (if x7 = 0 then (some (0, 0, x1001)) else (some (IntKind.u64.wrap (x4 + (IntKind.u64.wrap (x7 * x5))), wrap64 (x6 + 1), x1001))) else (some (IntKind.u64.wrap (x4 + (IntKind.u64.wrap (x7 * x5))), wrap64 (x6 + 1), x1001))))
end
def windbreakref09_Reader_next.f (k : Nat) (s0_0 : List Int) (s0_1 : Int) : Option (Int × Int × Int) := windbreakref09_Reader_next.l0 k 0 1 0 s0_0 s0_1
set_option maxHeartbeats 8000000 in
set_option maxRecDepth 100000 in
theorem windbreakref09_Reader_next.calls (k : Nat) (g : Nat) (s0_0 : List Int) (s0_1 : Int) (r1 : Int) (r2 : Int) (r3 : Int) (w0 w : World) (hI : IsS64 w0 w g s0_0 s0_1) (hB : Below w0.heap.size w0 w) (h : windbreakref09_Reader_next.f k s0_0 s0_1 = some (r1, r2, r3)) :
  Calls Try.prog 52 #[.pointer (some ⟨g, 0, none⟩)] w fun e w' => e = .returned (.tuple #[.int .u64 r1, .int .i64 r2]) ∧ IsS64 w0 w' g s0_0 r3 ∧ Below w0.heap.size w0 w' ∧ KeepBut w w' g none := by
 have HI0 := Aside0.mk hI
 have HK := Aside0.mk (KeepBut.refl w g none)
 have HL := Aside0.mk hB.size
 clear hI
 have HW0 := Aside0.mk hB.size
 have HB := Aside0.mk hB; clear hB
 have H : (windbreakref09_Reader_next.l0 k 0 1 0 s0_0 s0_1) = some (r1, r2, r3) := h
 clear h
 have H' := Aside0.mk H
 clear H
 go_enter Try.func52, Try.ntmps52
 go_wp2
 repeat (go_quiet (fail); try go_wp2)
 go_loopg [4, 5, 6] k (fun kq v4 v5 v6 w' => ∃ (x4_1 : Int) (x5_1 : Int) (x6_1 : Int), v4 = .int .u64 x4_1 ∧ v5 = .int .u64 x5_1 ∧ v6 = .int .i64 x6_1 ∧ Aside0 (windbreakref09_Reader_next.l0 kq x4_1 x5_1 x6_1 s0_0 s0_1 = some (r1, r2, r3)) ∧ Aside0 (kq ≤ k) ∧ Aside0 (IsS64 w0 w' g s0_0 s0_1) ∧ Aside0 (KeepBut w w' g none) ∧ Aside0 (Below w0.heap.size w0 w'))
 case atStart => exact ⟨(0), (1), (0), uG, uG, uG, H', ⟨Nat.le_refl _⟩, ⟨by repeat (first | (with_reducible first | exact HI0.out | apply IsS64.alloc | apply IsS64.drewN | apply IsS64.drew | apply IsS64.set_1) | exact HI0.out)⟩, ⟨by repeat (first | (with_reducible first | exact HK.out | apply KeepBut.set_ | apply keep_drewN | apply keep_drew | apply keep_alloc) | exact HK.out)⟩, ⟨by repeat (first | (with_reducible first | exact HB.out | apply below_alloc | apply pw_below_drewN | apply below_drew1 | refine below_set ?_ (IsS64.ge HI0.out)) | exact HB.out)⟩⟩
 case round =>
  clear H'
  obtain ⟨x4_1, x5_1, x6_1, rfl, rfl, rfl, HA, HK1, HI0, HK, HB⟩ := hrel
  cases gk with
  | zero => exact absurd HA.out (by simp [windbreakref09_Reader_next.l0])
  | succ k1 =>
   have H := HA.out
   clear HA
   simp only [windbreakref09_Reader_next.l0] at H
   have HC2 := Aside0.mk H; clear H
   go_upto_region 4 with (fail)
   repeat (go_quiet (fail); go_upto_region 4 with (fail))
   go_cut [24] (fun v24 wc => ∃ (kq : Nat) (x24_1 : Bool), v24 = .bool x24_1 ∧ Aside0 (windbreakref09_Reader_next.j1 kq x4_1 x5_1 x6_1 x24_1 s0_0 s0_1 = some (r1, r2, r3)) ∧ Aside0 (kq ≤ k1) ∧ Aside0 (IsS64 w0 wc g s0_0 s0_1) ∧ Aside0 (KeepBut w wc g none) ∧ Aside0 (Below w0.heap.size w0 wc))
   case first =>
    have H := HC2.out
    clear HC2
    by_cases c3 : (wrap64 (s0_1 + x6_1)) < (s0_0.length : Int)
    ·
     rw [if_pos c3] at H
     have c3b0 : decide ((wrap64 (s0_1 + x6_1)) < (s0_0.length : Int)) = true := decide_eq_true c3
     clear c3
     (first | rw [c3b0] | (simp only [i64_w, i32_w]; rw [c3b0]) | skip)
     have H' := Aside0.mk H
     clear H
     obtain ⟨ASz4_0, cSz4_0, HGz4, hgz4, HSz4_0⟩ := HI0.out
     have hcz4_0 := cellS64_0 HGz4
     have hcz4_1 := cellS64_1 HGz4
     have hfz4_1 := blk_frozen HGz4 1
     clear HGz4 hgz4
     go_wp2
     repeat (go_quiet (fail); try go_wp2)
     go_meet
     case rel => exact ⟨_, (decide (x6_1 < 10)), uG, H', ⟨by have := HK1.out; first | omega | exact Nat.le_refl _⟩, ⟨by repeat (first | (with_reducible first | exact HI0.out | apply IsS64.alloc | apply IsS64.drewN | apply IsS64.drew | apply IsS64.set_1) | exact HI0.out)⟩, ⟨by repeat (first | (with_reducible first | exact HK.out | apply KeepBut.set_ | apply keep_drewN | apply keep_drew | apply keep_alloc) | exact HK.out)⟩, ⟨by repeat (first | (with_reducible first | exact HB.out | apply below_alloc | apply pw_below_drewN | apply below_drew1 | refine below_set ?_ (IsS64.ge HI0.out)) | exact HB.out)⟩⟩
    rw [if_neg c3] at H
    have c3b0 : decide ((wrap64 (s0_1 + x6_1)) < (s0_0.length : Int)) = false := decide_eq_false c3
    clear c3
    (first | rw [c3b0] | (simp only [i64_w, i32_w]; rw [c3b0]) | skip)
    have H' := Aside0.mk H
    clear H
    obtain ⟨ASz5_0, cSz5_0, HGz5, hgz5, HSz5_0⟩ := HI0.out
    have hcz5_0 := cellS64_0 HGz5
    have hcz5_1 := cellS64_1 HGz5
    have hfz5_1 := blk_frozen HGz5 1
    clear HGz5 hgz5
    go_wp2
    repeat (go_quiet (fail); try go_wp2)
    go_meet
    case rel => exact ⟨_, (false), uG, H', ⟨by have := HK1.out; first | omega | exact Nat.le_refl _⟩, ⟨by repeat (first | (with_reducible first | exact HI0.out | apply IsS64.alloc | apply IsS64.drewN | apply IsS64.drew | apply IsS64.set_1) | exact HI0.out)⟩, ⟨by repeat (first | (with_reducible first | exact HK.out | apply KeepBut.set_ | apply keep_drewN | apply keep_drew | apply keep_alloc) | exact HK.out)⟩, ⟨by repeat (first | (with_reducible first | exact HB.out | apply below_alloc | apply pw_below_drewN | apply below_drew1 | refine below_set ?_ (IsS64.ge HI0.out)) | exact HB.out)⟩⟩
   case rest =>
    clear HC2; (try clear p2); (try clear c3); (try clear c3b0); (try clear c5); (try clear hcz4_0 hcz4_1); (try clear hcz5_0 hcz5_1); (try clear hfz4_1); (try clear hfz5_1)
    obtain ⟨kq, x24_1, rfl, HA, HJ1, HI0, HK, HB⟩ := hcut
    cases kq with
    | zero => exact absurd HA.out (by simp [windbreakref09_Reader_next.j1])
    | succ kj1 =>
     have H := HA.out
     clear HA
     simp only [windbreakref09_Reader_next.j1] at H
     by_cases c6 : x24_1 = true
     ·
      subst c6
      have H1 : (if 0 ≤ (wrap64 (s0_1 + x6_1)) then (if (wrap64 (s0_1 + x6_1)) < (s0_0.length : Int) then (if x6_1 = 9 then (windbreakref09_Reader_next.j2 kj1 x4_1 x5_1 x6_1 (Int.tmod (IntKind.u64.wrap (rd s0_0 (wrap64 (s0_1 + x6_1)))) 128) (decide ((IntKind.u64.wrap (rd s0_0 (wrap64 (s0_1 + x6_1)))) ≥ 128)) (decide ((Int.tmod (IntKind.u64.wrap (rd s0_0 (wrap64 (s0_1 + x6_1)))) 128) > 1)) s0_0 s0_1) else (windbreakref09_Reader_next.j2 kj1 x4_1 x5_1 x6_1 (Int.tmod (IntKind.u64.wrap (rd s0_0 (wrap64 (s0_1 + x6_1)))) 128) (decide ((IntKind.u64.wrap (rd s0_0 (wrap64 (s0_1 + x6_1)))) ≥ 128)) false s0_0 s0_1)) else (none)) else (none)) = some (r1, r2, r3) := by rw [if_pos rfl] at H; exact H
      clear H; have H := H1; clear H1
      obtain ⟨ji7, hji7⟩ : ∃ j_ : Int, (wrap64 (s0_1 + x6_1)) = j_ := ⟨_, rfl⟩
      first | rw [hji7] at H | simp only [hji7] at H
      have hji7w : (IntKind.i64.wrap (s0_1 + x6_1)) = ji7 := (i64_w _).trans hji7
      replace H := uT H; obtain ⟨c8, H⟩ := H
      have c8b0 : decide (0 ≤ (ji7)) = true := decide_eq_true c8
      clear c8
      replace H := uT H; obtain ⟨c9, H⟩ := H
      have c9b0 : decide ((ji7) < (s0_0.length : Int)) = true := decide_eq_true c9
      clear c9; have HC10 := Aside0.mk H; clear H
      obtain ⟨ASz11_0, cSz11_0, HGz11, hgz11, HSz11_0⟩ := HI0.out
      have hcz11_0 := cellS64_0 HGz11
      have hcz11_1 := cellS64_1 HGz11
      have hfz11_1 := blk_frozen HGz11 1
      clear HGz11 hgz11
      have p276 : 0 ≤ ((ji7) : Int) := uO
      have q276 : (ji7) < (s0_0.length : Int) := uO
      obtain ⟨ad276, e276, hx276_0⟩ := Kd.at_int HSz11_0 (ji7) p276 q276
      cases e276
      replace hx276_0 := pw_cell_below HB.out hx276_0
      replace p276 := eq_true p276
      replace q276 := eq_true q276
      go_upto_region 9 with (fail)
      repeat (go_quiet (fail); go_upto_region 9 with (fail))
      go_cut [49] (fun v49 wc => ∃ (kq : Nat) (x49_9 : Bool), v49 = .bool x49_9 ∧ Aside0 (windbreakref09_Reader_next.j2 kq x4_1 x5_1 x6_1 (Int.tmod (IntKind.u64.wrap (rd s0_0 (ji7))) 128) (decide ((IntKind.u64.wrap (rd s0_0 (ji7))) ≥ 128)) x49_9 s0_0 s0_1 = some (r1, r2, r3)) ∧ Aside0 (kq ≤ kj1) ∧ Aside0 (IsS64 w0 wc g s0_0 s0_1) ∧ Aside0 (KeepBut w wc g none) ∧ Aside0 (Below w0.heap.size w0 wc))
      case first =>
       have H := HC10.out
       clear HC10
       by_cases c12 : x6_1 = 9
       ·
        rw [if_pos c12] at H
        have c12b0 : (x6_1 == 9) = true := beq_iff_eq.mpr c12
        have c12b1 : (x6_1 != 9) = false := bne_eq_false_iff_eq.mpr c12
        clear c12
        (first | rw [c12b0] | (simp only [i64_w, i32_w]; rw [c12b0]) | skip)
        have H' := Aside0.mk H
        clear H
        go_wp2
        repeat (go_quiet (fail); try go_wp2)
        go_meet
        case rel => exact ⟨_, (decide ((Int.tmod (IntKind.u64.wrap (rd s0_0 (ji7))) 128) > 1)), (by first | rfl | (simp; done) | (simp only [← hji7] <;> (first | rfl | simp)) | (simp [*]; done)), H', ⟨by have := HK1.out; have := HJ1.out; first | omega | exact Nat.le_refl _⟩, ⟨by repeat (first | (with_reducible first | exact HI0.out | apply IsS64.alloc | apply IsS64.drewN | apply IsS64.drew | apply IsS64.set_1) | exact HI0.out)⟩, ⟨by repeat (first | (with_reducible first | exact HK.out | apply KeepBut.set_ | apply keep_drewN | apply keep_drew | apply keep_alloc) | exact HK.out)⟩, ⟨by repeat (first | (with_reducible first | exact HB.out | apply below_alloc | apply pw_below_drewN | apply below_drew1 | refine below_set ?_ (IsS64.ge HI0.out)) | exact HB.out)⟩⟩
       rw [if_neg c12] at H
       have c12b0 : (x6_1 == 9) = false := beq_eq_false_iff_ne.mpr c12
       have c12b1 : (x6_1 != 9) = true := bne_iff_ne.mpr c12
       (first | rw [c12b0] | (simp only [i64_w, i32_w]; rw [c12b0]) | skip)
       have H' := Aside0.mk H
       clear H
       go_wp2
       repeat (go_quiet (fail); try go_wp2)
       go_meet
       case rel => exact ⟨_, (false), uG, H', ⟨by have := HK1.out; have := HJ1.out; first | omega | exact Nat.le_refl _⟩, ⟨by repeat (first | (with_reducible first | exact HI0.out | apply IsS64.alloc | apply IsS64.drewN | apply IsS64.drew | apply IsS64.set_1) | exact HI0.out)⟩, ⟨by repeat (first | (with_reducible first | exact HK.out | apply KeepBut.set_ | apply keep_drewN | apply keep_drew | apply keep_alloc) | exact HK.out)⟩, ⟨by repeat (first | (with_reducible first | exact HB.out | apply below_alloc | apply pw_below_drewN | apply below_drew1 | refine below_set ?_ (IsS64.ge HI0.out)) | exact HB.out)⟩⟩
      case rest =>
       clear HC10; (try clear c1); (try clear p2 p2); (try clear q2); (try clear hx2); (try clear c3); (try clear c3b0); (try clear c5); (try clear c6); (try clear p6); (try clear c8); (try clear c8b0); (try clear c9); (try clear c9b0); (try clear c12); (try clear c12b0); (try clear c12b1); (try clear hcz11_0 hcz11_1); (try clear hcz4_0 hcz4_1); (try clear hcz5_0 hcz5_1); (try clear hfz11_1); (try clear hfz4_1); (try clear hfz5_1); (try clear hx276_0); (try clear p276); (try clear q276)
       obtain ⟨kq, x49_9, rfl, HA, HJ9, HI0, HK, HB⟩ := hcut
       cases kq with
       | zero => exact absurd HA.out (by simp [windbreakref09_Reader_next.j2])
       | succ kj9 =>
        have H := HA.out
        clear HA
        simp only [windbreakref09_Reader_next.j2] at H
        by_cases c13 : x49_9 = true
        ·
         subst c13
         have H1 : (some (0, 0, s0_1)) = some (r1, r2, r3) := by rw [if_pos rfl] at H; exact H
         clear H; have H := H1; clear H1
         simp only [Option.some.injEq, Prod.mk.injEq] at H
         obtain ⟨rfl, rfl, rfl⟩ := H
         go_wp2
         repeat (go_quiet (fail); try go_wp2)
         go_ret2
         exact ⟨by first | rfl | (simp [errW_none, errW_some] <;> rfl) | (simp only [← hji7]; first | rfl | (simp [errW_none, errW_some] <;> rfl)) | (simp [*, errW_none, errW_some] <;> rfl), by repeat (first | (with_reducible first | exact HI0.out | apply IsS64.alloc | apply IsS64.drewN | apply IsS64.drew | apply IsS64.set_1) | exact HI0.out), by repeat (first | (with_reducible first | exact HB.out | apply below_alloc | apply pw_below_drewN | apply below_drew1 | refine below_set ?_ (IsS64.ge HI0.out)) | exact HB.out), by repeat (first | (with_reducible first | exact HK.out | apply KeepBut.set_ | apply keep_drewN | apply keep_drew | apply keep_alloc) | exact HK.out)⟩
        replace c13 := Bool.eq_false_iff.mpr c13
        subst c13
        have H1 : (if (decide ((IntKind.u64.wrap (rd s0_0 (ji7))) ≥ 128)) = true then (windbreakref09_Reader_next.l0 kj9 (IntKind.u64.wrap (x4_1 + (IntKind.u64.wrap ((Int.tmod (IntKind.u64.wrap (rd s0_0 (ji7))) 128) * x5_1)))) (IntKind.u64.wrap (x5_1 * 128)) (wrap64 (x6_1 + 1)) s0_0 s0_1) else (if x6_1 > 0 then (if (Int.tmod (IntKind.u64.wrap (rd s0_0 (ji7))) 128) = 0 then (some (0, 0, s0_1)) else (some (IntKind.u64.wrap (x4_1 + (IntKind.u64.wrap ((Int.tmod (IntKind.u64.wrap (rd s0_0 (ji7))) 128) * x5_1))), wrap64 (x6_1 + 1), s0_1))) else (some (IntKind.u64.wrap (x4_1 + (IntKind.u64.wrap ((Int.tmod (IntKind.u64.wrap (rd s0_0 (ji7))) 128) * x5_1))), wrap64 (x6_1 + 1), s0_1)))) = some (r1, r2, r3) := by rw [if_neg (show ¬ (false = true) by decide)] at H; exact H
        clear H; have H := H1; clear H1
        by_cases c14 : (decide ((IntKind.u64.wrap (rd s0_0 (ji7))) ≥ 128)) = true
        ·
         rw [if_pos c14] at H
         have c14b0 : (decide ((IntKind.u64.wrap (rd s0_0 (ji7))) ≥ 128)) = true := c14
         clear c14
         have H' := Aside0.mk H
         clear H
         go_wp2
         repeat (go_quiet (fail); try go_wp2)
         first | go_roundg kj9 | ((try simp only [← hji7] at H'); simp only [← hji7]; go_roundg kj9)
         case measure => have := HK1.out; have := HJ1.out; have := HJ9.out; omega
         case rel => first | exact ⟨(IntKind.u64.wrap (x4_1 + (IntKind.u64.wrap ((Int.tmod (IntKind.u64.wrap (rd s0_0 (ji7))) 128) * x5_1)))), (IntKind.u64.wrap (x5_1 * 128)), (wrap64 (x6_1 + 1)), (by first | rfl | (simp; done) | (simp only [← hji7] <;> (first | rfl | simp)) | (simp [*]; done)), uG, uG, H', ⟨by have := HK1.out; have := HJ1.out; have := HJ9.out; omega⟩, ⟨by repeat (first | (with_reducible first | exact HI0.out | apply IsS64.alloc | apply IsS64.drewN | apply IsS64.drew | apply IsS64.set_1) | exact HI0.out)⟩, ⟨by repeat (first | (with_reducible first | exact HK.out | apply KeepBut.set_ | apply keep_drewN | apply keep_drew | apply keep_alloc) | exact HK.out)⟩, ⟨by repeat (first | (with_reducible first | exact HB.out | apply below_alloc | apply pw_below_drewN | apply below_drew1 | refine below_set ?_ (IsS64.ge HI0.out)) | exact HB.out)⟩⟩ | (simp only [← hji7] at H'; exact ⟨(IntKind.u64.wrap (x4_1 + (IntKind.u64.wrap ((Int.tmod (IntKind.u64.wrap (rd s0_0 (ji7))) 128) * x5_1)))), (IntKind.u64.wrap (x5_1 * 128)), (wrap64 (x6_1 + 1)), (by first | rfl | (simp; done) | (simp only [← hji7] <;> (first | rfl | simp)) | (simp [*]; done)), uG, uG, H', ⟨by have := HK1.out; have := HJ1.out; have := HJ9.out; omega⟩, ⟨by repeat (first | (with_reducible first | exact HI0.out | apply IsS64.alloc | apply IsS64.drewN | apply IsS64.drew | apply IsS64.set_1) | exact HI0.out)⟩, ⟨by repeat (first | (with_reducible first | exact HK.out | apply KeepBut.set_ | apply keep_drewN | apply keep_drew | apply keep_alloc) | exact HK.out)⟩, ⟨by repeat (first | (with_reducible first | exact HB.out | apply below_alloc | apply pw_below_drewN | apply below_drew1 | refine below_set ?_ (IsS64.ge HI0.out)) | exact HB.out)⟩⟩)
        rw [if_neg c14] at H
        have c14b0 : (decide ((IntKind.u64.wrap (rd s0_0 (ji7))) ≥ 128)) = false := by simpa using c14
        clear c14
        by_cases c15 : x6_1 > 0
        ·
         rw [if_pos c15] at H
         have c15b0 : decide (0 < x6_1) = true := decide_eq_true c15
         clear c15
         by_cases c16 : (Int.tmod (IntKind.u64.wrap (rd s0_0 (ji7))) 128) = 0
         ·
          rw [if_pos c16] at H
          have c16b0 : ((Int.tmod (IntKind.u64.wrap (rd s0_0 (ji7))) 128) == 0) = true := beq_iff_eq.mpr c16
          have c16b1 : ((Int.tmod (IntKind.u64.wrap (rd s0_0 (ji7))) 128) != 0) = false := bne_eq_false_iff_eq.mpr c16
          clear c16
          simp only [Option.some.injEq, Prod.mk.injEq] at H
          obtain ⟨rfl, rfl, rfl⟩ := H
          go_wp2
          repeat (go_quiet (fail); try go_wp2)
          go_ret2
          exact ⟨by first | rfl | (simp [errW_none, errW_some] <;> rfl) | (simp only [← hji7]; first | rfl | (simp [errW_none, errW_some] <;> rfl)) | (simp [*, errW_none, errW_some] <;> rfl), by repeat (first | (with_reducible first | exact HI0.out | apply IsS64.alloc | apply IsS64.drewN | apply IsS64.drew | apply IsS64.set_1) | exact HI0.out), by repeat (first | (with_reducible first | exact HB.out | apply below_alloc | apply pw_below_drewN | apply below_drew1 | refine below_set ?_ (IsS64.ge HI0.out)) | exact HB.out), by repeat (first | (with_reducible first | exact HK.out | apply KeepBut.set_ | apply keep_drewN | apply keep_drew | apply keep_alloc) | exact HK.out)⟩
         rw [if_neg c16] at H
         have c16b0 : ((Int.tmod (IntKind.u64.wrap (rd s0_0 (ji7))) 128) == 0) = false := beq_eq_false_iff_ne.mpr c16
         have c16b1 : ((Int.tmod (IntKind.u64.wrap (rd s0_0 (ji7))) 128) != 0) = true := bne_iff_ne.mpr c16
         simp only [Option.some.injEq, Prod.mk.injEq] at H
         obtain ⟨rfl, rfl, rfl⟩ := H
         go_wp2
         repeat (go_quiet (fail); try go_wp2)
         go_ret2
         exact ⟨by first | rfl | (simp [errW_none, errW_some] <;> rfl) | (simp only [← hji7]; first | rfl | (simp [errW_none, errW_some] <;> rfl)) | (simp [*, errW_none, errW_some] <;> rfl), by repeat (first | (with_reducible first | exact HI0.out | apply IsS64.alloc | apply IsS64.drewN | apply IsS64.drew | apply IsS64.set_1) | exact HI0.out), by repeat (first | (with_reducible first | exact HB.out | apply below_alloc | apply pw_below_drewN | apply below_drew1 | refine below_set ?_ (IsS64.ge HI0.out)) | exact HB.out), by repeat (first | (with_reducible first | exact HK.out | apply KeepBut.set_ | apply keep_drewN | apply keep_drew | apply keep_alloc) | exact HK.out)⟩
        rw [if_neg c15] at H
        have c15b0 : decide (0 < x6_1) = false := decide_eq_false c15
        clear c15
        simp only [Option.some.injEq, Prod.mk.injEq] at H
        obtain ⟨rfl, rfl, rfl⟩ := H
        go_wp2
        repeat (go_quiet (fail); try go_wp2)
        go_ret2
        exact ⟨by first | rfl | (simp [errW_none, errW_some] <;> rfl) | (simp only [← hji7]; first | rfl | (simp [errW_none, errW_some] <;> rfl)) | (simp [*, errW_none, errW_some] <;> rfl), by repeat (first | (with_reducible first | exact HI0.out | apply IsS64.alloc | apply IsS64.drewN | apply IsS64.drew | apply IsS64.set_1) | exact HI0.out), by repeat (first | (with_reducible first | exact HB.out | apply below_alloc | apply pw_below_drewN | apply below_drew1 | refine below_set ?_ (IsS64.ge HI0.out)) | exact HB.out), by repeat (first | (with_reducible first | exact HK.out | apply KeepBut.set_ | apply keep_drewN | apply keep_drew | apply keep_alloc) | exact HK.out)⟩
     replace c6 := Bool.eq_false_iff.mpr c6
     subst c6
     have H1 : (some (0, 0, s0_1)) = some (r1, r2, r3) := by rw [if_neg (show ¬ (false = true) by decide)] at H; exact H
     clear H; have H := H1; clear H1
     simp only [Option.some.injEq, Prod.mk.injEq] at H
     obtain ⟨rfl, rfl, rfl⟩ := H
     go_wp2
     repeat (go_quiet (fail); try go_wp2)
     go_ret2
     exact ⟨uF, by repeat (first | (with_reducible first | exact HI0.out | apply IsS64.alloc | apply IsS64.drewN | apply IsS64.drew | apply IsS64.set_1) | exact HI0.out), by repeat (first | (with_reducible first | exact HB.out | apply below_alloc | apply pw_below_drewN | apply below_drew1 | refine below_set ?_ (IsS64.ge HI0.out)) | exact HB.out), by repeat (first | (with_reducible first | exact HK.out | apply KeepBut.set_ | apply keep_drewN | apply keep_drew | apply keep_alloc) | exact HK.out)⟩
end Go.Proofs.Ytanmfddlncdncab.F
end
section
namespace Go.Proofs.Ytanmfddlncdncab.F
open Go.RowKit Go.Proofs.YtanmfddlncdncabW.PrintWords Go.Proofs.YtanmfddlncdncabW.PrintLast Go.Proofs.YtanmfddlncdncabW.PrintMore
attribute [local go_sem] max2_int min2_int max_two min_two max_three min_three max_four min_four
set_option linter.unusedVariables false
set_option linter.unusedSimpArgs false
def windbreakref09_Reader_Number.f (k : Nat) (s0_0 : List Int) (s0_1 : Int) (a1 : Int) : Option (Int × Int × Int) := (windbreakref09_Reader_next.f k s0_0 s0_1).bind fun bt277 => (if bt277.2.1 = 0 then (some (0, 13, bt277.2.2)) else (if bt277.1 > a1 then (some (0, 13, bt277.2.2)) else (some (bt277.1, 0, wrap64 (bt277.2.2 + bt277.2.1)))))
set_option maxHeartbeats 8000000 in
set_option maxRecDepth 100000 in
theorem windbreakref09_Reader_Number.calls (k : Nat) (g : Nat) (s0_0 : List Int) (s0_1 : Int) (a1 : Int) (r1 : Int) (r2 : Int) (r3 : Int) (w0 w : World) (hI : IsS64 w0 w g s0_0 s0_1) (hB : Below w0.heap.size w0 w) (h : windbreakref09_Reader_Number.f k s0_0 s0_1 a1 = some (r1, r2, r3)) :
  Calls Try.prog 31 #[.pointer (some ⟨g, 0, none⟩), .int .u64 a1] w fun e w' => e = .returned (.tuple #[.int .u64 r1, .int .i64 r2]) ∧ IsS64 w0 w' g s0_0 r3 ∧ Below w0.heap.size w0 w' ∧ KeepBut w w' g none := by
 have HI0 := Aside0.mk hI
 have HK := Aside0.mk (KeepBut.refl w g none)
 have HL := Aside0.mk hB.size
 clear hI
 have HW0 := Aside0.mk hB.size
 have HB := Aside0.mk hB; clear hB
 have H : ((windbreakref09_Reader_next.f k s0_0 s0_1).bind fun bt277 => (if bt277.2.1 = 0 then (some (0, 13, bt277.2.2)) else (if bt277.1 > a1 then (some (0, 13, bt277.2.2)) else (some (bt277.1, 0, wrap64 (bt277.2.2 + bt277.2.1)))))) = some (r1, r2, r3) := h
 clear h
 replace H := ub H; obtain ⟨⟨t277, t278, t279⟩, A3, H⟩ := H
 (try dsimp only at H)
 by_cases c4 : t278 = 0
 ·
  rw [if_pos c4] at H
  have c4b0 : (t278 == 0) = true := beq_iff_eq.mpr c4
  have c4b1 : (t278 != 0) = false := bne_eq_false_iff_eq.mpr c4
  clear c4
  simp only [Option.some.injEq, Prod.mk.injEq] at H
  obtain ⟨rfl, rfl, rfl⟩ := H
  go_enter Try.func31, Try.ntmps31
  go_wp2_with (first | ((with_reducible refine gate_callee (f := 52) rfl ?_); refine goesL_ (some 10) rfl rfl Try.func52 (by kernel_rfl) rfl #[.pointer (some ⟨g, 0, none⟩)] rfl uM ?_; (with_reducible refine (windbreakref09_Reader_next.calls k g s0_0 s0_1 t277 t278 t279 w0 _ ?side1 ?side2 A3.out).mono ?_); (case side1 => repeat (first | (with_reducible first | exact HI0.out | apply IsS64.alloc | apply IsS64.drewN | apply IsS64.drew | apply IsS64.set_1) | exact HI0.out)); (case side2 => repeat (first | (with_reducible first | exact HB.out | apply below_alloc | apply pw_below_drewN | apply below_drew1 | refine below_set ?_ (IsS64.ge HI0.out)) | exact HB.out)); rintro e w5 ⟨rfl, hi, hb, hk⟩; refine ⟨_, rfl, ?_⟩; replace HK := Aside0.mk (KeepBut.trans (by repeat (first | (with_reducible first | exact HK.out | apply KeepBut.set_ | apply keep_drewN | apply keep_drew | apply keep_alloc) | exact HK.out)) hk (.inl rfl)); replace HB := Aside0.mk (hb); replace HI0 := Aside0.mk (hi); (try clear hb); (try clear hb2); (try clear hk); (try clear hi)))
  go_ret2
  exact ⟨uF, by repeat (first | (with_reducible first | exact HI0.out | apply IsS64.alloc | apply IsS64.drewN | apply IsS64.drew | apply IsS64.set_1) | exact HI0.out), by repeat (first | (with_reducible first | exact HB.out | apply below_alloc | apply pw_below_drewN | apply below_drew1 | refine below_set ?_ (IsS64.ge HI0.out)) | exact HB.out), by repeat (first | (with_reducible first | exact HK.out | apply KeepBut.set_ | apply keep_drewN | apply keep_drew | apply keep_alloc) | exact HK.out)⟩
 rw [if_neg c4] at H
 have c4b0 : (t278 == 0) = false := beq_eq_false_iff_ne.mpr c4
 have c4b1 : (t278 != 0) = true := bne_iff_ne.mpr c4
 by_cases c6 : t277 > a1
 ·
  rw [if_pos c6] at H
  have c6b0 : decide (a1 < t277) = true := decide_eq_true c6
  clear c6
  simp only [Option.some.injEq, Prod.mk.injEq] at H
  obtain ⟨rfl, rfl, rfl⟩ := H
  go_enter Try.func31, Try.ntmps31
  go_wp2_with (first | ((with_reducible refine gate_callee (f := 52) rfl ?_); refine goesL_ (some 10) rfl rfl Try.func52 (by kernel_rfl) rfl #[.pointer (some ⟨g, 0, none⟩)] rfl uM ?_; (with_reducible refine (windbreakref09_Reader_next.calls k g s0_0 s0_1 t277 t278 t279 w0 _ ?side1 ?side2 A3.out).mono ?_); (case side1 => repeat (first | (with_reducible first | exact HI0.out | apply IsS64.alloc | apply IsS64.drewN | apply IsS64.drew | apply IsS64.set_1) | exact HI0.out)); (case side2 => repeat (first | (with_reducible first | exact HB.out | apply below_alloc | apply pw_below_drewN | apply below_drew1 | refine below_set ?_ (IsS64.ge HI0.out)) | exact HB.out)); rintro e w7 ⟨rfl, hi, hb, hk⟩; refine ⟨_, rfl, ?_⟩; replace HK := Aside0.mk (KeepBut.trans (by repeat (first | (with_reducible first | exact HK.out | apply KeepBut.set_ | apply keep_drewN | apply keep_drew | apply keep_alloc) | exact HK.out)) hk (.inl rfl)); replace HB := Aside0.mk (hb); replace HI0 := Aside0.mk (hi); (try clear hb); (try clear hb2); (try clear hk); (try clear hi)))
  go_ret2
  exact ⟨uF, by repeat (first | (with_reducible first | exact HI0.out | apply IsS64.alloc | apply IsS64.drewN | apply IsS64.drew | apply IsS64.set_1) | exact HI0.out), by repeat (first | (with_reducible first | exact HB.out | apply below_alloc | apply pw_below_drewN | apply below_drew1 | refine below_set ?_ (IsS64.ge HI0.out)) | exact HB.out), by repeat (first | (with_reducible first | exact HK.out | apply KeepBut.set_ | apply keep_drewN | apply keep_drew | apply keep_alloc) | exact HK.out)⟩
 rw [if_neg c6] at H
 have c6b0 : decide (a1 < t277) = false := decide_eq_false c6
 clear c6
 simp only [Option.some.injEq, Prod.mk.injEq] at H
 obtain ⟨rfl, rfl, rfl⟩ := H
 go_enter Try.func31, Try.ntmps31
 go_wp2_with (first | ((with_reducible refine gate_callee (f := 52) rfl ?_); refine goesL_ (some 10) rfl rfl Try.func52 (by kernel_rfl) rfl #[.pointer (some ⟨g, 0, none⟩)] rfl uM ?_; (with_reducible refine (windbreakref09_Reader_next.calls k g s0_0 s0_1 t277 t278 t279 w0 _ ?side1 ?side2 A3.out).mono ?_); (case side1 => repeat (first | (with_reducible first | exact HI0.out | apply IsS64.alloc | apply IsS64.drewN | apply IsS64.drew | apply IsS64.set_1) | exact HI0.out)); (case side2 => repeat (first | (with_reducible first | exact HB.out | apply below_alloc | apply pw_below_drewN | apply below_drew1 | refine below_set ?_ (IsS64.ge HI0.out)) | exact HB.out)); rintro e w8 ⟨rfl, hi, hb, hk⟩; refine ⟨_, rfl, ?_⟩; replace HK := Aside0.mk (KeepBut.trans (by repeat (first | (with_reducible first | exact HK.out | apply KeepBut.set_ | apply keep_drewN | apply keep_drew | apply keep_alloc) | exact HK.out)) hk (.inl rfl)); replace HB := Aside0.mk (hb); replace HI0 := Aside0.mk (hi); (try clear hb); (try clear hb2); (try clear hk); (try clear hi); obtain ⟨ASz9_0, cSz9_0, HGz9, hgz9, HSz9_0⟩ := HI0.out; have hcz9_0 := cellS64_0 HGz9; have hcz9_1 := cellS64_1 HGz9; have hfz9_1 := blk_frozen HGz9 1; clear HGz9 hgz9))
 go_ret2
 exact ⟨uF, by repeat (first | (with_reducible first | exact HI0.out | apply IsS64.alloc | apply IsS64.drewN | apply IsS64.drew | apply IsS64.set_1) | exact HI0.out), by repeat (first | (with_reducible first | exact HB.out | apply below_alloc | apply pw_below_drewN | apply below_drew1 | refine below_set ?_ (IsS64.ge HI0.out)) | exact HB.out), by repeat (first | (with_reducible first | exact HK.out | apply KeepBut.set_ | apply keep_drewN | apply keep_drew | apply keep_alloc) | exact HK.out)⟩
def windbreakref12_readList.l0 : Nat → Int → List Int → Int → List Int → Int → Option (List Int × Bool × Int)
 | 0, _, _, _, _, _ => none
 | k + 1, x4, x6, x7, x1000, x1001 => if x7 < x4 then ((windbreakref09_Reader_Number.f k x1000 x1001 1073741824).bind fun bt283 => (if bt283.2.1 = 0 then (if x6.length < 17592186044416 then (windbreakref12_readList.l0 k x4 (x6 ++ [wrap64 (bt283.1)]) (IntKind.u64.wrap (x7 + 1)) x1000 bt283.2.2) else (none)) else (some (([] : List Int), false, bt283.2.2)))) else (some (x6, true, x1001))
def windbreakref12_readList.f (k : Nat) (s0_0 : List Int) (s0_1 : Int) : Option (List Int × Bool × Int) := (windbreakref09_Reader_Number.f k s0_0 s0_1 16384).bind fun bt280 => (if bt280.2.1 = 0 then (windbreakref12_readList.l0 k bt280.1 ([] : List Int) 0 s0_0 bt280.2.2) else (some (([] : List Int), false, bt280.2.2)))
set_option maxHeartbeats 8000000 in
set_option maxRecDepth 100000 in
theorem windbreakref12_readList.calls (k : Nat) (g : Nat) (s0_0 : List Int) (s0_1 : Int) (r1 : List Int) (r2 : Bool) (r3 : Int) (w0 w : World) (hI : IsS64 w0 w g s0_0 s0_1) (hB : Below w0.heap.size w0 w) (h : windbreakref12_readList.f k s0_0 s0_1 = some (r1, r2, r3)) :
  Calls Try.prog 32 #[.pointer (some ⟨g, 0, none⟩)] w fun e w' => ∃ v0_ : Value, e = .returned (.tuple #[v0_, .bool r2]) ∧ Kd.R (Kd.int .i64) 3 w' w.heap.size (fun _ => True) v0_ r1 ∧ IsS64 w0 w' g s0_0 r3 ∧ Below w0.heap.size w0 w' ∧ KeepBut w w' g none := by
 have HI0 := Aside0.mk hI
 have HK := Aside0.mk (KeepBut.refl w g none)
 have HL := Aside0.mk hB.size
 clear hI
 have HW0 := Aside0.mk hB.size
 have HB := Aside0.mk hB; clear hB
 have H : ((windbreakref09_Reader_Number.f k s0_0 s0_1 16384).bind fun bt280 => (if bt280.2.1 = 0 then (windbreakref12_readList.l0 k bt280.1 ([] : List Int) 0 s0_0 bt280.2.2) else (some (([] : List Int), false, bt280.2.2)))) = some (r1, r2, r3) := h
 clear h
 replace H := ub H; obtain ⟨⟨t280, t281, t282⟩, A2, H⟩ := H
 (try dsimp only at H)
 by_cases c3 : t281 = 0
 ·
  rw [if_pos c3] at H
  have c3b0 : (t281 == 0) = true := beq_iff_eq.mpr c3
  have c3b1 : (t281 != 0) = false := bne_eq_false_iff_eq.mpr c3
  clear c3
  have H' := Aside0.mk H
  clear H
  go_enter Try.func32, Try.ntmps32
  go_wp2_with (first | ((with_reducible refine gate_callee (f := 31) rfl ?_); refine goesL_ (some 12) rfl rfl Try.func31 (by kernel_rfl) rfl #[.pointer (some ⟨g, 0, none⟩), .int .u64 16384] rfl uM ?_; (with_reducible refine (windbreakref09_Reader_Number.calls k g s0_0 s0_1 16384 t280 t281 t282 w0 _ ?side1 ?side2 A2.out).mono ?_); (case side1 => repeat (first | (with_reducible first | exact HI0.out | apply IsS64.alloc | apply IsS64.drewN | apply IsS64.drew | apply IsS64.set_1) | exact HI0.out)); (case side2 => repeat (first | (with_reducible first | exact HB.out | apply below_alloc | apply pw_below_drewN | apply below_drew1 | refine below_set ?_ (IsS64.ge HI0.out)) | exact HB.out)); rintro e w4 ⟨rfl, hi, hb, hk⟩; refine ⟨_, rfl, ?_⟩; replace HK := Aside0.mk (KeepBut.trans (by repeat (first | (with_reducible first | exact HK.out | apply KeepBut.set_ | apply keep_drewN | apply keep_drew | apply keep_alloc) | exact HK.out)) hk (.inl rfl)); replace HB := Aside0.mk (hb); replace HI0 := Aside0.mk (hi); (try clear hb); (try clear hb2); (try clear hk); (try clear hi)))
  go_loopg [6, 7] k (fun kq v6 v7 w' => ∃ (x6_1 : List Int) (x7_1 : Int) (x1001_1 : Int), v7 = .int .u64 x7_1 ∧ Aside0 (windbreakref12_readList.l0 kq t280 x6_1 x7_1 s0_0 x1001_1 = some (r1, r2, r3)) ∧ Aside0 (kq ≤ k) ∧ Aside0 (Kd.R (Kd.int .i64) 3 w' w.heap.size (fun _ => True) v6 x6_1) ∧ Aside0 (IsS64 w0 w' g s0_0 x1001_1) ∧ Aside0 (KeepBut w w' g none) ∧ Aside0 (Below w0.heap.size w0 w'))
  case atStart => exact ⟨(([] : List Int)), (0), (t282), uG, H', ⟨Nat.le_refl _⟩, ⟨by first | exact Kd.R_nil _ _ _ _ _ | exact Kd.N_nil _ _ _ _ _ | exact Kd.V_nil _ _ _ _ _ | exact Kd.Q_nil _ _ _ _ _ | exact Kd.S_nil _ _ _ _ _⟩, ⟨by repeat (first | (with_reducible first | exact HI0.out | apply IsS64.alloc | apply IsS64.drewN | apply IsS64.drew | apply IsS64.set_1) | exact HI0.out)⟩, ⟨by repeat (first | (with_reducible first | exact HK.out | apply KeepBut.set_ | apply keep_drewN | apply keep_drew | apply keep_alloc) | exact HK.out)⟩, ⟨by repeat (first | (with_reducible first | exact HB.out | apply below_alloc | apply pw_below_drewN | apply below_drew1 | refine below_set ?_ (IsS64.ge HI0.out)) | exact HB.out)⟩⟩
  case round =>
   clear H'
   (try clear p2); (try clear c3); (try clear c3b0); (try clear c3b1)
   obtain ⟨x6_1, x7_1, x1001_1, rfl, HA, HK1, HO_6, HI0, HK, HB⟩ := hrel
   cases gk with
   | zero => exact absurd HA.out (by simp [windbreakref12_readList.l0])
   | succ k1 =>
    have H := HA.out
    clear HA
    simp only [windbreakref12_readList.l0] at H
    by_cases c5 : x7_1 < t280
    ·
     rw [if_pos c5] at H
     have c5b0 : decide (x7_1 < t280) = true := decide_eq_true c5
     clear c5
     replace H := ub H; obtain ⟨⟨t283, t284, t285⟩, A6, H⟩ := H
     (try dsimp only at H)
     by_cases c7 : t284 = 0
     ·
      rw [if_pos c7] at H
      have c7b0 : (t284 == 0) = true := beq_iff_eq.mpr c7
      have c7b1 : (t284 != 0) = false := bne_eq_false_iff_eq.mpr c7
      clear c7
      replace H := uT H; obtain ⟨c8, H⟩ := H
      have LMc8 := Aside0.mk c8; clear c8
      obtain ⟨y286, hy286⟩ : ∃ y_ : List Int, y_ = (x6_1 ++ [wrap64 (t283)]) := ⟨_, rfl⟩
      replace H : (windbreakref12_readList.l0 k1 t280 y286 (IntKind.u64.wrap (x7_1 + 1)) s0_0 t285) = some (r1, r2, r3) := by first | (rw [hy286]; with_reducible exact H) | (have H2_ := (Option.bind_some _ _).symm.trans H; rw [hy286]; with_reducible exact H2_) | (have H2_ := (Option.bind_some _ _).symm.trans H; with_reducible exact H2_) | with_reducible exact H | (rw [hy286]; exact H) | exact H
      have Ny286 := Aside0.mk hy286; clear hy286
      have H' := Aside0.mk H
      clear H
      go_wp2_with (first | ((with_reducible refine gate_callee (f := 31) rfl ?_); refine goesL_ (some 24) rfl rfl Try.func31 (by kernel_rfl) rfl #[.pointer (some ⟨g, 0, none⟩), .int .u64 1073741824] rfl uM ?_; (with_reducible refine (windbreakref09_Reader_Number.calls k1 g s0_0 x1001_1 1073741824 t283 t284 t285 w0 _ ?side1 ?side2 A6.out).mono ?_); (case side1 => repeat (first | (with_reducible first | exact HI0.out | apply IsS64.alloc | apply IsS64.drewN | apply IsS64.drew | apply IsS64.set_1) | exact HI0.out)); (case side2 => repeat (first | (with_reducible first | exact HB.out | apply below_alloc | apply pw_below_drewN | apply below_drew1 | refine below_set ?_ (IsS64.ge HI0.out)) | exact HB.out)); rintro e w9 ⟨rfl, hi, hb, hk⟩; refine ⟨_, rfl, ?_⟩; replace HO_6 := Aside0.mk (Kd.R_mono (Kd.R_keep (IsS64.apart (show IsS64 w0 _ g s0_0 x1001_1 from by repeat (first | (with_reducible first | exact HI0.out | apply IsS64.alloc | apply IsS64.drewN | apply IsS64.drew | apply IsS64.set_1) | exact HI0.out)) (uR HO_6.out) (by decide)) hk (fun _ h => h.2)) (fun _ h => h.1)); replace HK := Aside0.mk (KeepBut.trans (by repeat (first | (with_reducible first | exact HK.out | apply KeepBut.set_ | apply keep_drewN | apply keep_drew | apply keep_alloc) | exact HK.out)) hk (.inl rfl)); replace HB := Aside0.mk (hb); replace HI0 := Aside0.mk (hi); (try clear hb); (try clear hb2); (try clear hk); (try clear hi)) | ((with_reducible refine gate_builtin (b := .append) (xs := #[.tmp 29, .tmp 32]) rfl ?_); at_builtin; refine Kd.R_append (Kd.int .i64) w.heap.size rfl (.tmp 29) (.tmp 32) 22 3 (.int .i64 0) 8 rfl Try.underlying22 info3 rfl (by decide) (by omega) u6 x6_1 (wrap64 (t283)) [.int .i64 (wrap64 (t283))] (fun _ => True) (fun _ => False) rfl rfl ?aP (fun _ hk => hk.elim) ?aF ?aO (Below.refl _ _) ?aS ?aL ?_; (case aP => exact rfl); (case aF => exact (fun _ _ => trivial)); (case aO => exact (uR HO_6.out)); (case aS => exact (keep_size (w := w) (g := g) (row := none) (by repeat (first | (with_reducible first | exact HK.out | apply KeepBut.set_ | apply keep_drewN | apply keep_drew | apply keep_alloc) | exact HK.out)))); (case aL => have := LMc8.out; omega); intro v287 w10 ho hb hg hat; rw [← Ny286.out] at ho; replace HB := Aside0.mk (below_weaken (by repeat (first | (with_reducible first | exact HB.out | apply below_alloc | apply pw_below_drewN | apply below_drew1 | refine below_set ?_ (IsS64.ge HI0.out)) | exact HB.out)) HL.out hb); replace HI0 := Aside0.mk (IsS64.grown (by repeat (first | (with_reducible first | exact HI0.out | apply IsS64.alloc | apply IsS64.drewN | apply IsS64.drew | apply IsS64.set_1) | exact HI0.out)) hg (IsS64.own_ne HI0.out HO_6.out (by decide))); replace HK := Aside0.mk (KeepBut.trans (by repeat (first | (with_reducible first | exact HK.out | apply KeepBut.set_ | apply keep_drewN | apply keep_drew | apply keep_alloc) | exact HK.out)) (KeepBut.of_grown hg g) (Kd.R_base2 HO_6.out)); have HO288 := Aside0.mk (ho); clear HO_6; clear ho hb hg hat))
      go_roundg k1
      case measure => have := HK1.out; omega
      case rel => exact ⟨(y286), (IntKind.u64.wrap (x7_1 + 1)), (t285), uG, H', ⟨by have := HK1.out; omega⟩, ⟨uR HO288.out⟩, ⟨by repeat (first | (with_reducible first | exact HI0.out | apply IsS64.alloc | apply IsS64.drewN | apply IsS64.drew | apply IsS64.set_1) | exact HI0.out)⟩, ⟨by repeat (first | (with_reducible first | exact HK.out | apply KeepBut.set_ | apply keep_drewN | apply keep_drew | apply keep_alloc) | exact HK.out)⟩, ⟨by repeat (first | (with_reducible first | exact HB.out | apply below_alloc | apply pw_below_drewN | apply below_drew1 | refine below_set ?_ (IsS64.ge HI0.out)) | exact HB.out)⟩⟩
     rw [if_neg c7] at H
     have c7b0 : (t284 == 0) = false := beq_eq_false_iff_ne.mpr c7
     have c7b1 : (t284 != 0) = true := bne_iff_ne.mpr c7
     simp only [Option.some.injEq, Prod.mk.injEq] at H
     obtain ⟨rfl, rfl, rfl⟩ := H
     go_wp2_with (first | ((with_reducible refine gate_callee (f := 31) rfl ?_); refine goesL_ (some 24) rfl rfl Try.func31 (by kernel_rfl) rfl #[.pointer (some ⟨g, 0, none⟩), .int .u64 1073741824] rfl uM ?_; (with_reducible refine (windbreakref09_Reader_Number.calls k1 g s0_0 x1001_1 1073741824 t283 t284 t285 w0 _ ?side1 ?side2 A6.out).mono ?_); (case side1 => repeat (first | (with_reducible first | exact HI0.out | apply IsS64.alloc | apply IsS64.drewN | apply IsS64.drew | apply IsS64.set_1) | exact HI0.out)); (case side2 => repeat (first | (with_reducible first | exact HB.out | apply below_alloc | apply pw_below_drewN | apply below_drew1 | refine below_set ?_ (IsS64.ge HI0.out)) | exact HB.out)); rintro e w11 ⟨rfl, hi, hb, hk⟩; refine ⟨_, rfl, ?_⟩; replace HO_6 := Aside0.mk (Kd.R_mono (Kd.R_keep (IsS64.apart (show IsS64 w0 _ g s0_0 x1001_1 from by repeat (first | (with_reducible first | exact HI0.out | apply IsS64.alloc | apply IsS64.drewN | apply IsS64.drew | apply IsS64.set_1) | exact HI0.out)) (uR HO_6.out) (by decide)) hk (fun _ h => h.2)) (fun _ h => h.1)); replace HK := Aside0.mk (KeepBut.trans (by repeat (first | (with_reducible first | exact HK.out | apply KeepBut.set_ | apply keep_drewN | apply keep_drew | apply keep_alloc) | exact HK.out)) hk (.inl rfl)); replace HB := Aside0.mk (hb); replace HI0 := Aside0.mk (hi); (try clear hb); (try clear hb2); (try clear hk); (try clear hi)))
     go_ret2
     exact ⟨_, by first | rfl | (simp [errW_none, errW_some] <;> rfl) | (simp [*, errW_none, errW_some] <;> rfl), by first | exact Kd.R_nil _ _ _ _ _ | exact Kd.N_nil _ _ _ _ _ | exact Kd.V_nil _ _ _ _ _ | exact Kd.Q_nil _ _ _ _ _ | exact Kd.S_nil _ _ _ _ _, by repeat (first | (with_reducible first | exact HI0.out | apply IsS64.alloc | apply IsS64.drewN | apply IsS64.drew | apply IsS64.set_1) | exact HI0.out), by repeat (first | (with_reducible first | exact HB.out | apply below_alloc | apply pw_below_drewN | apply below_drew1 | refine below_set ?_ (IsS64.ge HI0.out)) | exact HB.out), by repeat (first | (with_reducible first | exact HK.out | apply KeepBut.set_ | apply keep_drewN | apply keep_drew | apply keep_alloc) | exact HK.out)⟩
    rw [if_neg c5] at H
    have c5b0 : decide (x7_1 < t280) = false := decide_eq_false c5
    clear c5
    simp only [Option.some.injEq, Prod.mk.injEq] at H
    obtain ⟨rfl, rfl, rfl⟩ := H
    go_wp2
    go_ret2
    exact ⟨_, uF, uR HO_6.out, by repeat (first | (with_reducible first | exact HI0.out | apply IsS64.alloc | apply IsS64.drewN | apply IsS64.drew | apply IsS64.set_1) | exact HI0.out), by repeat (first | (with_reducible first | exact HB.out | apply below_alloc | apply pw_below_drewN | apply below_drew1 | refine below_set ?_ (IsS64.ge HI0.out)) | exact HB.out), by repeat (first | (with_reducible first | exact HK.out | apply KeepBut.set_ | apply keep_drewN | apply keep_drew | apply keep_alloc) | exact HK.out)⟩
 rw [if_neg c3] at H
 have c3b0 : (t281 == 0) = false := beq_eq_false_iff_ne.mpr c3
 have c3b1 : (t281 != 0) = true := bne_iff_ne.mpr c3
 simp only [Option.some.injEq, Prod.mk.injEq] at H
 obtain ⟨rfl, rfl, rfl⟩ := H
 go_enter Try.func32, Try.ntmps32
 go_wp2_with (first | ((with_reducible refine gate_callee (f := 31) rfl ?_); refine goesL_ (some 12) rfl rfl Try.func31 (by kernel_rfl) rfl #[.pointer (some ⟨g, 0, none⟩), .int .u64 16384] rfl uM ?_; (with_reducible refine (windbreakref09_Reader_Number.calls k g s0_0 s0_1 16384 t280 t281 t282 w0 _ ?side1 ?side2 A2.out).mono ?_); (case side1 => repeat (first | (with_reducible first | exact HI0.out | apply IsS64.alloc | apply IsS64.drewN | apply IsS64.drew | apply IsS64.set_1) | exact HI0.out)); (case side2 => repeat (first | (with_reducible first | exact HB.out | apply below_alloc | apply pw_below_drewN | apply below_drew1 | refine below_set ?_ (IsS64.ge HI0.out)) | exact HB.out)); rintro e w12 ⟨rfl, hi, hb, hk⟩; refine ⟨_, rfl, ?_⟩; replace HK := Aside0.mk (KeepBut.trans (by repeat (first | (with_reducible first | exact HK.out | apply KeepBut.set_ | apply keep_drewN | apply keep_drew | apply keep_alloc) | exact HK.out)) hk (.inl rfl)); replace HB := Aside0.mk (hb); replace HI0 := Aside0.mk (hi); (try clear hb); (try clear hb2); (try clear hk); (try clear hi)))
 go_ret2
 exact ⟨_, by first | rfl | (simp [errW_none, errW_some] <;> rfl) | (simp [*, errW_none, errW_some] <;> rfl), by first | exact Kd.R_nil _ _ _ _ _ | exact Kd.N_nil _ _ _ _ _ | exact Kd.V_nil _ _ _ _ _ | exact Kd.Q_nil _ _ _ _ _ | exact Kd.S_nil _ _ _ _ _, by repeat (first | (with_reducible first | exact HI0.out | apply IsS64.alloc | apply IsS64.drewN | apply IsS64.drew | apply IsS64.set_1) | exact HI0.out), by repeat (first | (with_reducible first | exact HB.out | apply below_alloc | apply pw_below_drewN | apply below_drew1 | refine below_set ?_ (IsS64.ge HI0.out)) | exact HB.out), by repeat (first | (with_reducible first | exact HK.out | apply KeepBut.set_ | apply keep_drewN | apply keep_drew | apply keep_alloc) | exact HK.out)⟩
end Go.Proofs.Ytanmfddlncdncab.F
end
section
namespace Go.Proofs.Ytanmfddlncdncab.Z
open Go.RowKit Go.Proofs.Ytanmfddlncdncab.F Go.Proofs.YtanmfddlncdncabW.PrintWords
set_option linter.unusedSimpArgs false
set_option linter.unusedVariables false
theorem ref09_next_end (a pl : Int) (b : List Int) (p : Nat) : Evt (fun k => windbreakref09_Reader_next.l0 k a pl 10 b (p : Int)) (0, 0, (p : Int)) := by
  refine Evt.succ ?_
  simp only [windbreakref09_Reader_next.l0]
  refine Evt.cond' (fun _ => Evt.succ ?_) (fun _ => Evt.succ ?_) <;>
  · simp only [windbreakref09_Reader_next.j1]
    exact Evt.ite_neg (by decide) (Evt.pure _)
theorem ref09_next_l (b : List Int) (p : Nat) (hb : b.length < 140737488355328) (hd : Dig 256 b) (m : Nat) : ∀ (j a P : Nat), j ≤ 9 → P = 128 ^ j → a < P → p + j ≤ b.length → b.length - (p + j) = m →
    Evt (fun k => windbreakref09_Reader_next.l0 k (a : Int) (P : Int) (j : Int) b (p : Int)) (((finN j a (b.drop (p + j))).1 : Int), ((finN j a (b.drop (p + j))).2 : Int), (p : Int)) := by
  induction m with
  | zero =>
    intro j a P hj hP ha hp hm
    refine Evt.succ ?_
    simp only [windbreakref09_Reader_next.l0]
    rw [w64 (by omega) (by omega)]
    refine Evt.ite_neg (by omega) (Evt.succ ?_)
    simp only [windbreakref09_Reader_next.j1]
    rw [List.drop_of_length_le (by omega)]
    exact Evt.ite_neg (by decide) (Evt.pure _)
  | succ m ih =>
    intro j a P hj hP ha hp hm
    have hlt : p + j < b.length := by omega
    refine Evt.succ ?_
    simp only [windbreakref09_Reader_next.l0]
    rw [w64 (x := (p : Int) + (j : Int)) (by omega) (by omega)]
    refine Evt.ite_pos (by omega) (Evt.succ ?_)
    simp only [windbreakref09_Reader_next.j1]
    rw [w64 (x := (p : Int) + (j : Int)) (by omega) (by omega)]
    refine Evt.ite_pos (by simp; omega) (Evt.ite_pos (by omega) (Evt.ite_pos (by omega) ?_))
    have e1 : rd b ((p : Int) + (j : Int)) = b.getD (p + j) 0 := by
      rw [show (p : Int) + (j : Int) = ((p + j : Nat) : Int) from by omega, rd_nat]
    have hc := hd.getD (by omega) (p + j)
    have hdrop : b.drop (p + j) = b.getD (p + j) 0 :: b.drop (p + (j + 1)) := by
      rw [List.drop_eq_getElem_cons hlt, List.getD_eq_getElem?_getD, List.getElem?_eq_getElem hlt]
      rfl
    rw [e1, hdrop]
    generalize b.getD (p + j) 0 = x at hc
    obtain ⟨c, rfl⟩ := Int.eq_ofNat_of_zero_le hc.1
    rw [wu64_of (by omega) (by omega)]
    have hpw : P ≤ 9223372036854775808 := by rw [hP]; exact Nat.le_trans (Nat.pow_le_pow_right (by decide) hj : 128 ^ j ≤ 128 ^ 9) (by decide)
    have hp8 : j ≠ 9 → P ≤ 72057594037927936 := fun h => by rw [hP]; exact Nat.le_trans (Nat.pow_le_pow_right (by decide) (by omega) : 128 ^ j ≤ 128 ^ 8) (by decide)
    obtain ⟨V, hV⟩ : ∃ V, V = a + P * (c % 128) := ⟨_, rfl⟩
    obtain ⟨D, hD⟩ : ∃ D, D = c % 128 := ⟨_, rfl⟩
    have em : Int.tmod (c : Int) 128 = ((c % 128 : Nat) : Int) := by
      rw [Int.tmod_eq_emod_of_nonneg (by omega)]; simp
    rw [em]
    have main : ∀ big : Bool, (big = true ↔ j = 9 ∧ 1 < c % 128) → Evt (fun k => windbreakref09_Reader_next.j2 k (a : Int) (P : Int) (j : Int) ((c % 128 : Nat) : Int) (decide ((c : Int) ≥ 128)) big b (p : Int)) (((finN j a ((c : Int) :: b.drop (p + (j + 1)))).1 : Int), ((finN j a ((c : Int) :: b.drop (p + (j + 1)))).2 : Int), (p : Int)) := by
      intro big hbig
      refine Evt.succ ?_
      simp only [windbreakref09_Reader_next.j2]
      by_cases h1 : j = 9 ∧ 1 < c % 128
      · rw [finN_bad (.inl ⟨h1.1, .inl h1.2⟩)]
        exact Evt.ite_pos (hbig.2 h1) (Evt.pure _)
      · refine Evt.ite_neg (fun h => h1 (hbig.1 h)) ?_
        have hsm : (c % 128) * P + a < 18446744073709551616 := by
          by_cases h9 : j = 9
          · have hc1 : c % 128 ≤ 1 := by omega
            have := Nat.mul_le_mul_right P hc1
            omega
          · have := Nat.mul_le_mul (show c % 128 ≤ 127 by omega) (hp8 h9)
            omega
        have e2 : IntKind.u64.wrap (((c % 128 : Nat) : Int) * (P : Int)) = ((c % 128 * P : Nat) : Int) := by
          rw [← Int.natCast_mul]
          exact wu64_of (by omega) (by omega)
        have e3 : IntKind.u64.wrap ((a : Int) + ((c % 128 * P : Nat) : Int)) = (V : Int) := by
          rw [← Int.natCast_add, Nat.mul_comm, ← hV]
          rw [Nat.mul_comm] at hsm
          exact wu64_of (by omega) (by omega)
        have e4 : wrap64 ((j : Int) + 1) = ((j + 1 : Nat) : Int) := by rw [w64 (by omega) (by omega)]; omega
        rw [e2, e3, e4]
        clear e2 e3 e4
        by_cases h2 : c < 128
        · have hm1 : c % 128 = c := Nat.mod_eq_of_lt h2
          refine Evt.ite_neg (by simp; omega) ?_
          by_cases h3 : 0 < j
          · refine Evt.ite_pos (by omega) ?_
            by_cases h4 : c = 0
            · rw [finN_bad (.inr ⟨h4, h3⟩)]
              exact Evt.ite_pos (by omega) (Evt.pure _)
            · rw [finN_last h2 (by omega) (by omega), ← hP, show a + P * c = V by rw [hV, hm1]]
              exact Evt.ite_neg (by omega) (Evt.pure _)
          · rw [finN_last h2 (by omega) (by omega), ← hP, show a + P * c = V by rw [hV, hm1]]
            exact Evt.ite_neg (by omega) (Evt.pure _)
        · refine Evt.ite_pos (by simp; omega) ?_
          by_cases h9 : j = 9
          · subst h9
            rw [finN_bad (.inl ⟨rfl, .inr (by omega)⟩)]
            exact ref09_next_end _ _ b p
          · rw [finN_more h2 h9, ← hP, ← hV]
            have e5 : IntKind.u64.wrap ((P : Int) * 128) = ((P * 128 : Nat) : Int) := by
              have := hp8 h9
              exact wu64_of (by omega) (by omega)
            rw [e5]
            refine ih (j + 1) V (P * 128) (by omega) (by rw [hP, Nat.pow_succ]) ?_ (by omega) (by omega)
            have := Nat.mul_le_mul_left P (show c % 128 + 1 ≤ 128 by omega)
            rw [Nat.mul_add, Nat.mul_one] at this
            omega
    by_cases h9 : j = 9
    · refine Evt.ite_pos (by omega) (main _ ?_)
      simp [h9]; omega
    · refine Evt.ite_neg (by omega) (main false ?_)
      simp [h9]
theorem ref09_next_ev (b : List Int) (p : Nat) (hb : b.length < 140737488355328) (hd : Dig 256 b) (hp : p ≤ b.length) : Evt (fun k => windbreakref09_Reader_next.f k b (p : Int)) ((((nxt 0 (b.drop p)).getD (0, 0)).1 : Int), (((nxt 0 (b.drop p)).getD (0, 0)).2 : Int), (p : Int)) := by
  have h := ref09_next_l b p hb hd _ 0 0 1 (by omega) rfl (by omega) (by omega) rfl
  rw [Nat.add_zero, finN_zero] at h
  exact h
theorem ref09_Number_ev (b : List Int) (p most : Nat) (hb : b.length < 140737488355328) (hd : Dig 256 b) (hp : p ≤ b.length) : ∃ p' : Nat, p' ≤ b.length ∧ b.drop p' = (numV most (b.drop p)).2.2 ∧ Evt (fun k => windbreakref09_Reader_Number.f k b (p : Int) (most : Int)) (((numV most (b.drop p)).1 : Int), (numV most (b.drop p)).2.1, (p' : Int)) := by
  have hn := ref09_next_ev b p hb hd hp
  unfold windbreakref09_Reader_Number.f numV
  rcases h : nxt 0 (b.drop p) with _ | ⟨n, k⟩
  · rw [h] at hn
    exact ⟨p, hp, rfl, Evt.bind hn (Evt.ite_pos rfl (Evt.pure _))⟩
  · rw [h] at hn
    have hk := nxt_pos h
    have hl := (nxt_of _ 0 n k (hd.drop p) (by omega) h).1
    rw [List.length_drop] at hl
    simp only
    by_cases hm : most < n
    · rw [if_pos hm]
      exact ⟨p, hp, rfl, Evt.bind hn (Evt.ite_neg (by simp; omega) (Evt.ite_pos (by simp; omega) (Evt.pure _)))⟩
    · rw [if_neg hm]
      refine ⟨p + k, by omega, by rw [List.drop_drop], Evt.bind hn (Evt.ite_neg (by simp; omega) (Evt.ite_neg (by simp; omega) ((Evt.pure _).congr (fun k => rfl) ?_)))⟩
      simp only [Option.getD_some]
      rw [w64 (by omega) (by omega)]
      simp
theorem ref12_list_l (b : List Int) (hb : b.length < 140737488355328) (hd : Dig 256 b) (n m : Nat) (hn : n ≤ 16384) : ∀ (i p : Nat) (ys : List Int), i ≤ n → n - i = m → p ≤ b.length → ys.length = i →
    ∃ p' : Nat, p' ≤ b.length ∧ (∀ r, readN (n - i) (b.drop p) = some r → b.drop p' = r.2) ∧ Evt (fun k => windbreakref12_readList.l0 k (n : Int) ys (i : Int) b (p : Int)) (match readN (n - i) (b.drop p) with | some r => (ys ++ r.1, true, (p' : Int)) | none => ([], false, (p' : Int))) := by
  induction m with
  | zero =>
    intro i p ys hi hm hp hy
    rw [hm]
    refine ⟨p, hp, fun r h => by simp only [readN, Option.some.injEq] at h; subst h; rfl, Evt.succ ?_⟩
    simp only [windbreakref12_readList.l0, readN, List.append_nil]
    exact Evt.ite_neg (by omega) (Evt.pure _)
  | succ m ih =>
    intro i p ys hi hm hp hy
    obtain ⟨p1, hp1, hq1, hN⟩ := ref09_Number_ev b p 1073741824 hb hd hp
    have hle := numV_le (most := 1073741824) (l := b.drop p)
    rw [hm]
    by_cases hx : (numV 1073741824 (b.drop p)).2.1 = 0
    · obtain ⟨p', hp', hq', hE⟩ := ih (i + 1) p1 (ys ++ [((numV 1073741824 (b.drop p)).1 : Int)]) (by omega) (by omega) hp1 (by simp [hy])
      rw [show n - (i + 1) = m from by omega, hq1] at hq' hE
      refine ⟨p', hp', fun r h => ?_, Evt.succ ?_⟩
      · rw [readN, if_pos hx] at h
        obtain ⟨s, hs, rfl⟩ := Option.map_eq_some_iff.mp h
        exact hq' s hs
      · simp only [windbreakref12_readList.l0]
        refine Evt.ite_pos (by omega) (Evt.bind hN ?_)
        rw [w64 (by omega) (by omega), wu64_of (x := (i : Int) + 1) (by omega) (by omega)]
        refine Evt.ite_pos hx (Evt.ite_pos (by omega) (hE.congr (fun k => rfl) ?_))
        rw [readN, if_pos hx]
        cases readN m (numV 1073741824 (b.drop p)).2.2 <;> simp
    · refine ⟨p1, hp1, fun r h => by rw [readN, if_neg hx] at h; simp at h, Evt.succ ?_⟩
      simp only [windbreakref12_readList.l0]
      refine Evt.ite_pos (by omega) (Evt.bind hN (Evt.ite_neg hx ?_))
      rw [readN, if_neg hx]
      exact Evt.pure _
theorem ref12_list_ev (b : List Int) (p : Nat) (hb : b.length < 140737488355328) (hd : Dig 256 b) (hp : p ≤ b.length) : ∃ p' : Nat, p' ≤ b.length ∧ ((readI (b.drop p)).2.1 = true → b.drop p' = (readI (b.drop p)).2.2) ∧ Evt (fun k => windbreakref12_readList.f k b (p : Int)) ((readI (b.drop p)).1, (readI (b.drop p)).2.1, (p' : Int)) := by
  obtain ⟨p1, hp1, hq1, hN⟩ := ref09_Number_ev b p 16384 hb hd hp
  have hle := numV_le (most := 16384) (l := b.drop p)
  unfold windbreakref12_readList.f readI
  by_cases hx : (numV 16384 (b.drop p)).2.1 = 0
  · obtain ⟨p', hp', hq', hE⟩ := ref12_list_l b hb hd _ _ hle 0 p1 [] (by omega) rfl hp1 rfl
    rw [Nat.sub_zero, hq1] at hq' hE
    rw [if_pos hx]
    refine ⟨p', hp', fun h => ?_, Evt.bind hN (Evt.ite_pos hx (hE.congr (fun k => rfl) ?_))⟩
    · rcases hr : readN (numV 16384 (b.drop p)).1 (numV 16384 (b.drop p)).2.2 with _ | r
      · rw [hr] at h; simp at h
      · exact hq' r hr
    · cases readN (numV 16384 (b.drop p)).1 (numV 16384 (b.drop p)).2.2 <;> simp
  · rw [if_neg hx]
    exact ⟨p1, hp1, fun h => by simp at h, Evt.bind hN (Evt.ite_neg hx (Evt.pure _))⟩
theorem leadW_ex (b : List Int) : ∃ k : Nat, k ≤ b.length ∧ (∀ j, j < k → b.getD j 0 = 0) ∧ (k < b.length → b.getD k 0 ≠ 0) ∧ val (b8 : Int) (b.drop k).reverse = val (b8 : Int) b.reverse := by
  induction b with
  | nil => exact ⟨0, Nat.le_refl _, fun j hj => absurd hj (Nat.not_lt_zero _), fun h => absurd h (Nat.not_lt_zero _), rfl⟩
  | cons c b ih =>
    by_cases h : c = 0
    · obtain ⟨k, h1, h2, h3, h4⟩ := ih
      refine ⟨k + 1, by simp; omega, fun j hj => ?_, fun hh => by simpa using h3 (by simpa using hh), ?_⟩
      · cases j with
        | zero => simpa using h
        | succ j => simpa using h2 j (by omega)
      · rw [List.drop_succ_cons, h4, List.reverse_cons, val_append, h]
        simp [val]
    · exact ⟨0, Nat.zero_le _, fun j hj => absurd hj (Nat.not_lt_zero _), fun _ => by simpa using h, rfl⟩
def bvW (b : List Int) : Nat := (val (b8 : Int) b.reverse).toNat
def rdW (b : List Int) : List Int × Int := (limbs (bvW b), 0)
theorem rdW_ev (b : List Int) (d : Dig 256 b) (h : b.length ≤ 32) : ∃ k, nat_Read.f k b = some (rdW b) := by
  obtain ⟨k, h1, h2, h3, h4⟩ := leadW_ex b
  refine Evt.get ((nat_Read_ev b (by simp only [maxLen]; omega) d k h1 h2 h3).congr (fun k => rfl) ?_)
  unfold readV rdW bvW
  rw [if_neg (by rw [List.length_drop]; omega), h4]
theorem bvW_bytes (v : Nat) : bvW (byts v).reverse = v := by
  unfold bvW
  rw [List.reverse_reverse]
  have e : val (b8 : Int) (byts v) = (v : Int) := val_toD b8_two v
  rw [e]; rfl
theorem byts_lead (v : Nat) : 0 < (byts v).reverse.length → (byts v).reverse.getD 0 0 ≠ 0 := by
  intro h
  have hc : Can (byts v) := toD_can b8_two v
  have hl : 0 < (byts v).length := by simpa using h
  have hn : byts v ≠ [] := List.ne_nil_of_length_pos hl
  have := hc hn
  rw [List.getD_eq_getElem?_getD, List.getElem?_eq_getElem h, Option.getD_some, List.getElem_reverse]
  rw [List.getLast_eq_getElem] at this
  simpa using this
theorem natOne_enc {a x : List Int} (da : Dig (b64 : Int) a) (hr : rightB a = true) (h4 : a.length ≤ 4) : natOne rdW (encY (bytesV a) ++ x) = (a, true, x) := by
  have h1 := bytesV_len da hr h4
  unfold natOne
  rw [bytV_enc (most := 32) h1 (by omega)]
  simp only
  unfold bytesV
  rw [if_pos hr]
  unfold natRd rdW
  rw [if_pos ⟨rfl, fun h => byts_lead _ h.1 h.2⟩, bvW_bytes, limbs_num da ((rightB_iff a).1 hr).2]
  rfl
theorem natOne_ok {l : List Int} (hd : Dig 256 l) (h : (natOne rdW l).2.1 = true) : l = encY (bytesV (natOne rdW l).1) ++ (natOne rdW l).2.2 ∧ Dig (b64 : Int) (natOne rdW l).1 ∧ rightB (natOne rdW l).1 = true ∧ (natOne rdW l).1.length ≤ 4 ∧ Dig 256 (natOne rdW l).2.2 := by
  have hb := bytV_dig (most := 32) hd
  have hs := bytV_short (most := 32) (l := l)
  have hk := bytV_ok (most := 32) hd
  unfold natOne at h ⊢
  simp only at h ⊢
  generalize bytV 32 l = v at *
  obtain ⟨c, er, l2⟩ := v
  simp only at *
  unfold natRd at h ⊢
  by_cases hc : er = 0 ∧ ¬ (0 < c.length ∧ c.getD 0 0 = 0)
  · rw [if_pos hc] at h ⊢
    obtain ⟨h0, h1⟩ := hc
    obtain ⟨e, _⟩ := hk h0
    have dr : Dig (b8 : Int) c.reverse := fun y hy => hb.2.1 y (List.mem_reverse.1 hy)
    have cr : Can c.reverse := by
      intro hn
      rw [List.getLast_reverse]
      cases c with
      | nil => simp at hn
      | cons y c => simpa using h1
    have eb : byts (bvW c) = c.reverse := (can_toD b8_two dr cr).symm
    have hv : bvW c < b64 ^ 4 := by
      have h2 := val_lt b8_pos dr
      have h3 := val_nonneg b8_pos dr
      rw [pow_cast, List.length_reverse] at h2
      have h5 : b8 ^ c.length ≤ b8 ^ 32 := Nat.pow_le_pow_right (by decide) hs
      have h6 : b8 ^ 32 = b64 ^ 4 := by decide
      unfold bvW
      omega
    have hl : (limbs (bvW c)).length ≤ 4 := toD_len_le b64_two hv
    have hR : rightB (limbs (bvW c)) = true := (rightB_iff _).2 ⟨by omega, toD_can b64_two _⟩
    refine ⟨?_, toD_dig b64_two _, hR, hl, hb.1⟩
    show l = encY (bytesV (limbs (bvW c))) ++ l2
    unfold bytesV
    rw [if_pos hR, num_limbs, eb, List.reverse_reverse]
    exact e
  · rw [if_neg hc] at h
    exact absurd h (by decide)
def NatM (a : List Int) : Prop := Dig (b64 : Int) a ∧ rightB a = true ∧ a.length ≤ 4
theorem readNs_enc : ∀ (l : List (List Int)) (x : List Int), (∀ a ∈ l, NatM a) → readNs rdW l.length (encB l ++ x) = some (l, x) := by
  intro l
  induction l with
  | nil => intro x _; rfl
  | cons a l ih =>
    intro x h
    obtain ⟨h0, h1, h2⟩ := h a (by simp)
    rw [List.length_cons, readNs, encB_cons, List.append_assoc, natOne_enc h0 h1 h2]
    simp only [if_true]
    rw [ih x (fun b hb => h b (by simp [hb]))]
    rfl
theorem readNs_ok : ∀ (n : Nat) (l : List Int) (r : List (List Int) × List Int), Dig 256 l → readNs rdW n l = some r → l = encB r.1 ++ r.2 ∧ r.1.length = n ∧ (∀ a ∈ r.1, NatM a) ∧ Dig 256 r.2 := by
  intro n
  induction n with
  | zero =>
    intro l r hd h
    simp only [readNs, Option.some.injEq] at h
    subst h
    exact ⟨rfl, rfl, fun a ha => absurd ha (by simp), hd⟩
  | succ n ih =>
    intro l r hd h
    rw [readNs] at h
    by_cases c : (natOne rdW l).2.1 = true
    · rw [if_pos c] at h
      obtain ⟨q, hq, rfl⟩ := Option.map_eq_some_iff.mp h
      obtain ⟨e, n1, n2, n3, n4⟩ := natOne_ok hd c
      obtain ⟨e2, e3, e4, e5⟩ := ih _ q n4 hq
      refine ⟨?_, by simp [e3], fun a ha => ?_, e5⟩
      · rw [encB_cons, List.append_assoc, ← e2]; exact e
      · rcases List.mem_cons.1 ha with rfl | ha
        · exact ⟨n1, n2, n3⟩
        · exact e4 a ha
    · rw [if_neg c] at h; simp at h
theorem readN_ok : ∀ (n : Nat) (l : List Int) (r : List Int × List Int), Dig 256 l → readN n l = some r → l = encL r.1 ++ r.2 ∧ r.1.length = n ∧ (∀ a ∈ r.1, 0 ≤ a ∧ a ≤ 1073741824) ∧ Dig 256 r.2 := by
  intro n
  induction n with
  | zero =>
    intro l r hd h
    simp only [readN, Option.some.injEq] at h
    subst h
    exact ⟨rfl, rfl, fun a ha => absurd ha (by simp), hd⟩
  | succ n ih =>
    intro l r hd h
    rw [readN] at h
    by_cases c : (numV 1073741824 l).2.1 = 0
    · rw [if_pos c] at h
      obtain ⟨q, hq, rfl⟩ := Option.map_eq_some_iff.mp h
      obtain ⟨e, n1, n2⟩ := numV_ok hd c
      obtain ⟨e2, e3, e4, e5⟩ := ih _ q (numV_dig hd) hq
      refine ⟨?_, by simp [e3], fun a ha => ?_, e5⟩
      · rw [encL_cons, List.append_assoc, ← e2, Int.toNat_natCast]; exact e
      · rcases List.mem_cons.1 ha with rfl | ha
        · exact ⟨by omega, by omega⟩
        · exact e4 a ha
    · rw [if_neg c] at h; simp at h
theorem readI_enc {l x : List Int} (hl : l.length ≤ 16384) (h : ∀ a ∈ l, 0 ≤ a ∧ a ≤ 1073741824) : readI (encN l.length ++ (encL l ++ x)) = (l, true, x) := by
  unfold readI
  rw [numV_enc hl (by omega)]
  simp only [if_true]
  rw [readN_enc l x h]
theorem readI_ok {l : List Int} (hd : Dig 256 l) (h : (readI l).2.1 = true) : l = encN (readI l).1.length ++ (encL (readI l).1 ++ (readI l).2.2) ∧ Dig 256 (readI l).2.2 := by
  unfold readI at h ⊢
  by_cases c : (numV 16384 l).2.1 = 0
  · rw [if_pos c] at h ⊢
    rcases hr : readN (numV 16384 l).1 (numV 16384 l).2.2 with _ | r
    · rw [hr] at h; exact absurd h (by decide)
    · simp only
      obtain ⟨e, n1, n2⟩ := numV_ok hd c
      obtain ⟨e2, e3, e4, e5⟩ := readN_ok _ _ r (numV_dig hd) hr
      rw [e3, ← e2]
      exact ⟨e, e5⟩
  · rw [if_neg c] at h; exact absurd h (by decide)
theorem readNats_enc {l : List (List Int)} {x : List Int} (hl : l.length ≤ 16384) (h : ∀ a ∈ l, NatM a) : readNats rdW (encN l.length ++ (encB l ++ x)) = (l, true, x) := by
  unfold readNats
  rw [numV_enc hl (by omega)]
  simp only [if_true]
  rw [readNs_enc l x h]
theorem readNats_ok {l : List Int} (hd : Dig 256 l) (h : (readNats rdW l).2.1 = true) : l = encN (readNats rdW l).1.length ++ (encB (readNats rdW l).1 ++ (readNats rdW l).2.2) ∧ ∀ a ∈ (readNats rdW l).1, NatM a := by
  unfold readNats at h ⊢
  by_cases c : (numV 16384 l).2.1 = 0
  · rw [if_pos c] at h ⊢
    rcases hr : readNs rdW (numV 16384 l).1 (numV 16384 l).2.2 with _ | r
    · rw [hr] at h; exact absurd h (by decide)
    · simp only
      obtain ⟨e, n1, n2⟩ := numV_ok hd c
      obtain ⟨e2, e3, e4, e5⟩ := readNs_ok _ _ r (numV_dig hd) hr
      rw [e3, ← e2]
      exact ⟨e, e4⟩
  · rw [if_neg c] at h; exact absurd h (by decide)
abbrev Msg := Int × Int × Int × Int × List Int × List Int × List (List Int)
def decT (n : Nat) (a0 a1 a2 a3 : Int) (l : List Int) : Msg × Int :=
  if (readI l).2.1 = true then (if (readI (readI l).2.2).2.1 = true then (if (readNats rdW (readI (readI l).2.2).2.2).2.1 = true ∧ (readNats rdW (readI (readI l).2.2).2.2).2.2 = [] ∧ n ≤ 1048576 ∧ rightV a0 a1 a2 a3 (readI l).1 (readI (readI l).2.2).1 (readNats rdW (readI (readI l).2.2).2.2).1 = true then ((a0, a1, a2, a3, (readI l).1, (readI (readI l).2.2).1, (readNats rdW (readI (readI l).2.2).2.2).1), 0) else ((0, 0, 0, 0, [], [], []), 16)) else ((0, 0, 0, 0, [], [], []), 16)) else ((0, 0, 0, 0, [], [], []), 16)
def decodeV (b : List Int) : Msg × Int := match readN 4 b with | some r => decT b.length (r.1.getD 0 0) (r.1.getD 1 0) (r.1.getD 2 0) (r.1.getD 3 0) r.2 | none => ((0, 0, 0, 0, [], [], []), 16)
theorem decode_enc {a0 a1 a2 a3 : Int} {l4 l5 : List Int} {l6 : List (List Int)} (h : rightV a0 a1 a2 a3 l4 l5 l6 = true) (hd : ∀ a ∈ l6, Dig (b64 : Int) a) (hl : (encM a0 a1 a2 a3 l4 l5 l6).length ≤ 1048576) : decodeV (encM a0 a1 a2 a3 l4 l5 l6) = ((a0, a1, a2, a3, l4, l5, l6), 0) := by
  obtain ⟨o0, o1, o2, o3, n4, n5, n6, h4, h5, h6⟩ := right_parts h
  have e : encM a0 a1 a2 a3 l4 l5 l6 = encL [a0, a1, a2, a3] ++ (encN l4.length ++ (encL l4 ++ (encN l5.length ++ (encL l5 ++ (encN l6.length ++ (encB l6 ++ [])))))) := by
    unfold encM
    simp only [List.append_assoc, List.append_nil]
  unfold decodeV
  generalize hn : (encM a0 a1 a2 a3 l4 l5 l6).length = n at hl ⊢
  rw [e, show (4 : Nat) = [a0, a1, a2, a3].length from rfl, readN_enc _ _ (by intro x hx; simp at hx; rcases hx with rfl | rfl | rfl | rfl <;> assumption)]
  simp only
  unfold decT
  rw [readI_enc n4 h4]
  simp only [if_true]
  rw [readI_enc n5 h5]
  simp only [if_true]
  rw [readNats_enc n6 (fun a ha => ⟨hd a ha, h6 a ha⟩)]
  exact if_pos ⟨rfl, rfl, hl, h⟩
theorem decode_ok {b : List Int} (hd : Dig 256 b) : decodeV b = ((0, 0, 0, 0, [], [], []), 16) ∨ ∃ a0 a1 a2 a3 l4 l5 l6, decodeV b = ((a0, a1, a2, a3, l4, l5, l6), 0) ∧ b = encM a0 a1 a2 a3 l4 l5 l6 ∧ rightV a0 a1 a2 a3 l4 l5 l6 = true ∧ (∀ a ∈ l6, NatM a) ∧ b.length ≤ 1048576 := by
  unfold decodeV
  rcases hr : readN 4 b with _ | ⟨h, l⟩
  · exact .inl rfl
  · obtain ⟨e, e3, e4, e5⟩ := readN_ok _ _ _ hd hr
    simp only at e e3 e4 e5 ⊢
    match h, e3 with
    | [a0, a1, a2, a3], _ =>
      show decT b.length a0 a1 a2 a3 l = _ ∨ ∃ b0 b1 b2 b3 l4 l5 l6, decT b.length a0 a1 a2 a3 l = _ ∧ _
      unfold decT
      have R1 := @readI_ok l e5
      generalize readI l = p at R1 ⊢
      have R2 := @readI_ok p.2.2
      generalize readI p.2.2 = q at R2 ⊢
      have R3 := @readNats_ok q.2.2
      generalize readNats rdW q.2.2 = s at R3 ⊢
      by_cases c1 : p.2.1 = true
      · rw [if_pos c1]
        obtain ⟨f1, d1⟩ := R1 c1
        by_cases c2 : q.2.1 = true
        · rw [if_pos c2]
          obtain ⟨f2, d2⟩ := R2 d1 c2
          by_cases c3 : s.2.1 = true ∧ s.2.2 = [] ∧ b.length ≤ 1048576 ∧ rightV a0 a1 a2 a3 p.1 q.1 s.1 = true
          · rw [if_pos c3]
            obtain ⟨f3, d3⟩ := R3 d2 c3.1
            refine .inr ⟨_, _, _, _, _, _, _, rfl, ?_, c3.2.2.2, d3, c3.2.2.1⟩
            rw [e, f1, f2, f3, c3.2.1]
            unfold encM
            simp only [List.append_assoc, List.append_nil]
          · exact .inl (if_neg c3)
        · exact .inl (if_neg c2)
      · exact .inl (if_neg c1)
end Go.Proofs.Ytanmfddlncdncab.Z
end
section
namespace Go.Proofs.Ytanmfddlncdncab.F
open Go.RowKit Go.Proofs.YtanmfddlncdncabW.PrintWords Go.Proofs.YtanmfddlncdncabW.PrintLast Go.Proofs.YtanmfddlncdncabW.PrintMore
open Go.Proofs.Ytanmfddlncdncab.Z (nxt encN Dig readN)
set_option linter.unusedVariables false
set_option linter.unusedSimpArgs false
abbrev RdQ (w0 w : World) (g : Nat) (b : List Int) (p : Nat) : Prop := IsS64 w0 w g b (p : Int)
theorem sub_len {b : List Int} {p k : Nat} (hp : p ≤ b.length) (hb : b.length < 140737488355328) (hk : k ≤ b.length - p) : wrap64 (wrap64 ((b.length : Int) - (p : Int)) - (k : Int)) = ((b.length - p - k : Nat) : Int) := by
  unfold wrap64; omega
set_option maxHeartbeats 8000000 in
set_option maxRecDepth 100000 in
theorem ref_readB.calls (g p : Nat) (b : List Int) (w0 w : World) (hI : RdQ w0 w g b p) (hB : Below w0.heap.size w0 w) (hp : p ≤ b.length) (hb : b.length < 140737488355328) (hd : Dig 256 b) :
    Calls Try.prog 33 #[.pointer (some ⟨g, 0, none⟩), .int .i64 32] w fun e w' => ∃ (v : Value) (p' : Nat), e = .returned (.tuple #[v, .int .i64 (bytV 32 (b.drop p)).2.1]) ∧ Kd.R (Kd.int .u8) 5 w' w.heap.size (fun _ => True) v (bytV 32 (b.drop p)).1 ∧ RdQ w0 w' g b p' ∧ p' ≤ b.length ∧ b.drop p' = (bytV 32 (b.drop p)).2.2 ∧ Below w0.heap.size w0 w' ∧ KeepBut w w' g none := by
  obtain ⟨kn, hn⟩ := (Z.ref09_next_ev b p hb hd hp).get
  have HI := Aside0.mk hI
  have HB := Aside0.mk hB
  have hgw : g < w.heap.size := hI.lt
  clear hI hB
  obtain ⟨rv, hv⟩ : ∃ rv, bytV 32 (b.drop p) = rv := ⟨_, rfl⟩
  rw [hv]
  unfold bytV at hv
  have hwm : IntKind.u64.wrap (32 : Int) = 32 := by decide
  rcases hx : nxt 0 (b.drop p) with _ | ⟨n, k⟩ <;> rw [hx] at hv hn <;> simp only [Option.getD_none, Option.getD_some] at hv hn
  · have HN := Aside0.mk (show windbreakref09_Reader_next.f kn b (p : Int) = some (0, 0, (p : Int)) from hn)
    subst hv; clear hn hx
    go_enter Try.func33, Try.ntmps33
    go_wp2_with (go_at_call 52; (with_reducible refine (windbreakref09_Reader_next.calls kn g b (p : Int) 0 0 (p : Int) w0 _ HI.out HB.out HN.out).mono ?_); rintro e w1 ⟨rfl, hi, hb1, hk1⟩; have HI1 := Aside0.mk hi; have HB1 := Aside0.mk hb1; have HK1 := Aside0.mk hk1; clear hi hb1 hk1)
    repeat (go_quiet (fail); try go_wp2)
    all_goals (try go_ret2)
    all_goals exact ⟨_, p, rfl, Kd.R_nil _ _ _ _ _, HI1.out, hp, rfl, by first | exact HB1.out | exact pw_below_drewN HB1.out _, by first | exact HK1.out | exact keep_drewN HK1.out _⟩
  · have hpos := nxt_pos hx
    obtain ⟨hl, _, hn64, _⟩ := Z.nxt_of (b.drop p) 0 n k (hd.drop p) (by omega) hx
    rw [List.length_drop] at hl
    have HN := Aside0.mk (show windbreakref09_Reader_next.f kn b (p : Int) = some ((n : Int), (k : Int), (p : Int)) from hn)
    clear hn hx
    have hkz : ((k : Int) == 0) = false := beq_eq_false_iff_ne.mpr (by omega)
    have hs1 := sub_len hp hb hl
    have hs0 : wrap64 ((b.length : Int) - (p : Int)) = ((b.length - p : Nat) : Int) := by unfold wrap64; omega
    have hs2 : IntKind.u64.wrap ((b.length - p - k : Nat) : Int) = ((b.length - p - k : Nat) : Int) := Z.wu64_of (by omega) (by omega)
    have hs3 : wrap64 (((b.length - p : Nat) : Int) - (k : Int)) = ((b.length - p - k : Nat) : Int) := by rw [← hs0]; exact hs1
    by_cases hm : 32 < n ∨ (b.drop p).length - k < n
    · rw [if_pos hm] at hv; subst hv
      rw [List.length_drop] at hm
      by_cases hm1 : 32 < n
      · have hmz : decide ((32 : Int) < (n : Int)) = true := decide_eq_true (by omega)
        go_enter Try.func33, Try.ntmps33
        go_wp2_with (go_at_call 52; (with_reducible refine (windbreakref09_Reader_next.calls kn g b (p : Int) (n : Int) (k : Int) (p : Int) w0 _ HI.out HB.out HN.out).mono ?_); rintro e w1 ⟨rfl, hi, hb1, hk1⟩; obtain ⟨A, c, hbx, ⟨hg0, hlc⟩, hC⟩ := id hi; have HBX := Aside0.mk hbx; have HLC := Aside0.mk hlc; have HCC := Aside0.mk hC; have hcell0 := (blk_cell hbx 0).trans rfl; have hcell1 := (blk_cell hbx 1).trans rfl; have hfz := blk_frozen hbx 1; have HI1 := Aside0.mk hi; have HB1 := Aside0.mk hb1; have HK1 := Aside0.mk hk1; clear hi hb1 hk1 hbx hlc hC)
        repeat (go_quiet (fail); try go_wp2)
        all_goals (try go_ret2)
        all_goals exact ⟨_, p, rfl, Kd.R_nil _ _ _ _ _, HI1.out, hp, rfl, by first | exact HB1.out | exact pw_below_drewN HB1.out _, by first | exact HK1.out | exact keep_drewN HK1.out _⟩
      · have hmz : decide ((32 : Int) < (n : Int)) = false := decide_eq_false (by omega)
        have hmy : decide (((b.length - p - k : Nat) : Int) < (n : Int)) = true := decide_eq_true (by omega)
        go_enter Try.func33, Try.ntmps33
        go_wp2_with (go_at_call 52; (with_reducible refine (windbreakref09_Reader_next.calls kn g b (p : Int) (n : Int) (k : Int) (p : Int) w0 _ HI.out HB.out HN.out).mono ?_); rintro e w1 ⟨rfl, hi, hb1, hk1⟩; obtain ⟨A, c, hbx, ⟨hg0, hlc⟩, hC⟩ := id hi; have HBX := Aside0.mk hbx; have HLC := Aside0.mk hlc; have HCC := Aside0.mk hC; have hcell0 := (blk_cell hbx 0).trans rfl; have hcell1 := (blk_cell hbx 1).trans rfl; have hfz := blk_frozen hbx 1; have HI1 := Aside0.mk hi; have HB1 := Aside0.mk hb1; have HK1 := Aside0.mk hk1; clear hi hb1 hk1 hbx hlc hC)
        repeat (go_quiet (fail); try go_wp2)
        all_goals (try go_ret2)
        all_goals exact ⟨_, p, rfl, Kd.R_nil _ _ _ _ _, HI1.out, hp, rfl, by first | exact HB1.out | exact pw_below_drewN HB1.out _, by first | exact HK1.out | exact keep_drewN HK1.out _⟩
    · rw [if_neg hm] at hv
      obtain ⟨X, hX⟩ : ∃ X, X = ((b.drop p).drop k).take n := ⟨_, rfl⟩
      rw [← hX] at hv
      subst hv
      rw [List.length_drop] at hm
      have hmz : decide ((32 : Int) < (n : Int)) = false := decide_eq_false (by omega)
      have hmy : decide (((b.length - p - k : Nat) : Int) < (n : Int)) = false := decide_eq_false (by omega)
      go_enter Try.func33, Try.ntmps33
      go_wp2_with (go_at_call 52; (with_reducible refine (windbreakref09_Reader_next.calls kn g b (p : Int) (n : Int) (k : Int) (p : Int) w0 _ HI.out HB.out HN.out).mono ?_); rintro e w1 ⟨rfl, hi, hb1, hk1⟩; obtain ⟨A, c, hbx, ⟨hg0, hlc⟩, hC⟩ := id hi; have HBX := Aside0.mk hbx; have HLC := Aside0.mk hlc; have HCC := Aside0.mk hC; have hcell0 := (blk_cell hbx 0).trans rfl; have hcell1 := (blk_cell hbx 1).trans rfl; have hfz := blk_frozen hbx 1; have HI1 := Aside0.mk hi; have HB1 := Aside0.mk hb1; have HK1 := Aside0.mk hk1; clear hi hb1 hk1 hbx hlc hC)
      repeat (go_quiet (fail); try go_wp2)
      obtain ⟨w2, hw2⟩ : ∃ w2, w2 = (w1.drewN nq).setCell ⟨g, 1, none⟩ (.int .i64 ((p : Int) + (k : Int) + (n : Int))) := ⟨_, rfl⟩
      rw [← hw2]
      have hb2 : w2.heap[g]? = some (.cells #[.slice A b.length c, .int .i64 ((p : Int) + (k : Int) + (n : Int))] 64 (0, 0)) := by rw [hw2]; exact blk_put (blk_drewN HBX.out _) 1 _ rfl
      have HBX2 := Aside0.mk hb2
      have HB2 := Aside0.mk (show Below w0.heap.size w0 w2 by rw [hw2]; exact below_set (pw_below_drewN HB1.out _) hg0)
      have HK2 := Aside0.mk (show KeepBut w w2 g none by rw [hw2]; exact KeepBut.set_ (keep_drewN HK1.out _) 1 _)
      have hle : p + k + n ≤ b.length := by omega
      clear hw2 hcell0 hcell1 hfz
      obtain ⟨i0, hi0, _, hsz, _⟩ := info_parts info5
      obtain ⟨A2, c2, hA2, hcut2⟩ : ∃ (A2 : Option Addr) (c2 : Nat), (∀ W : World, Kd.C (Kd.int .u8) W A b.length b → Kd.C (Kd.int .u8) W A2 (((b.drop p).drop k).take n).length (((b.drop p).drop k).take n)) ∧ ∀ W : World, (Instr.slice 27 (.slice A b.length c) (some (.int .i64 ((p : Int) + (k : Int)))) (some (.int .i64 ((p : Int) + (k : Int) + (n : Int)))) none).run Try.prog W = .ok (.slice A2 (((b.drop p).drop k).take n).length c2) W := by
        have e1 : (b.take ((p : Int) + (k : Int) + (n : Int)).toNat).drop ((p : Int) + (k : Int)).toNat = ((b.drop p).drop k).take n := by
          rw [List.drop_take, List.drop_drop, show ((p : Int) + (k : Int) + (n : Int)).toNat - ((p : Int) + (k : Int)).toNat = n from by omega, show ((p : Int) + (k : Int)).toNat = p + k from by omega]
        have e2 : (((b.drop p).drop k).take n).length = ((p : Int) + (k : Int) + (n : Int)).toNat - ((p : Int) + (k : Int)).toNat := by
          rw [List.length_take, List.length_drop, List.length_drop]; omega
        refine ⟨if c = ((p : Int) + (k : Int)).toNat then A else A.map (·.add (((p : Int) + (k : Int)).toNat * 1)), c - ((p : Int) + (k : Int)).toNat, fun W h => ?_, fun W => ?_⟩
        · rw [← e1]
          exact Kd.C_mid (lo := ((p : Int) + (k : Int)).toNat) (hi := ((p : Int) + (k : Int) + (n : Int)).toNat) h (by omega) (by omega) HLC.out
        · rw [e2]
          exact cut_mid (P := Try.prog) 27 5 .i64 .i64 Try.underlying27 hi0 1 hsz A b.length c ((p : Int) + (k : Int)) ((p : Int) + (k : Int) + (n : Int)) (by omega) (by omega) (by omega) HLC.out W
      have hdr : b.drop (p + k + n) = (b.drop p).drop (k + n) := by rw [List.drop_drop, Nat.add_assoc]
      rw [← hX] at hA2 hcut2
      have hxl : X.length ≤ 32 := by rw [hX, List.length_take]; omega
      have HXL := Aside0.mk hxl
      have HA2 := Aside0.mk hA2
      have HDR := Aside0.mk hdr
      clear hX hA2 hxl hdr hs0 hs1 hs2 hs3
      have hcA : ∀ (o : Obj), ((w2.alloc o).drew).cell? ⟨g, 0, none⟩ = some (.slice A b.length c) := fun o => (blk_cell (blk_drew (blk_alloc HBX2.out o)) 0).trans rfl
      have hcB : ∀ (o : Obj), ((w2.alloc o).drew).cell? ⟨g, 1, none⟩ = some (.int .i64 ((p : Int) + (k : Int) + (n : Int))) := fun o => (blk_cell (blk_drew (blk_alloc HBX2.out o)) 1).trans rfl
      have hcA0 : w2.drew.cell? ⟨g, 0, none⟩ = some (.slice A b.length c) := (blk_cell (blk_drew HBX2.out) 0).trans rfl
      have hcB0 : w2.drew.cell? ⟨g, 1, none⟩ = some (.int .i64 ((p : Int) + (k : Int) + (n : Int))) := (blk_cell (blk_drew HBX2.out) 1).trans rfl
      have hcA1 : ∀ (o : Obj), ((w2.drew).alloc o).cell? ⟨g, 0, none⟩ = some (.slice A b.length c) := fun o => (blk_cell (blk_alloc (blk_drew HBX2.out) o) 0).trans rfl
      have hcB1 : ∀ (o : Obj), ((w2.drew).alloc o).cell? ⟨g, 1, none⟩ = some (.int .i64 ((p : Int) + (k : Int) + (n : Int))) := fun o => (blk_cell (blk_alloc (blk_drew HBX2.out) o) 1).trans rfl
      have hcl : Kd.R (Kd.int .u8) 5 ((w2.alloc (.cells #[] 5)).drew) w2.heap.size (fun _ => True) (.slice (some ⟨w2.heap.size, 0, none⟩) 0 0) [] := Kd.R_drew (Kd.R_of_own (by simpa [encs, nums] using own_lit w2 w2.heap.size 5 .u8 [] (Nat.le_refl _) (by simp)) (fun _ _ => trivial))
      have hcBl : Below w2.heap.size w2 ((w2.alloc (.cells #[] 5)).drew) := below_drew (below_alloc (Below.refl _ _) _)
      have hcC : Kd.C (Kd.int .u8) ((w2.alloc (.cells #[] 5)).drew) A2 X.length X := HA2.out _ (Kd.C_below HCC.out (below_step HB2.out hcBl))
      have HCL := Aside0.mk hcl
      have HCM := Aside0.mk hcC
      have HCB := Aside0.mk hcBl
      clear hcl hcC hcBl
      go_region_law (first | (refine Kd.R_append_rows_step (Kd.int .u8) (w0 := w2) w2.heap.size (by first | rfl | simp [Region.wanted]) (.tmp 56) (.tmp 66) 27 5 (.int .u8 0) 1 rfl Try.underlying27 info5 rfl (by decide) (by omega) (.slice (some ⟨w2.heap.size, 0, none⟩) 0 0) [] X A2 X.length c2 (fun _ => True) (fun _ => False) rfl rfl HCL.out HCM.out (fun _ _ h => h) (fun _ h => h.elim) (fun _ _ => trivial) HCB.out HCB.out.size (by have := HXL.out; simp only [List.length_nil]; omega) ?_; intro v113 w6 ho hb hg_ hat_; rw [List.nil_append] at ho; obtain ⟨A1_, c1_, rfl⟩ := Kd.R_slice ho; have HO := Aside0.mk ho; have HB6 := Aside0.mk hb; clear ho hb hg_ hat_))
      all_goals
        go_wp2
        go_ret2
        exact ⟨_, p + k + n, rfl, Kd.R_mono (Kd.R_lower (Kd.R_bound HO.out) HK2.out.1) (fun _ _ => trivial), ⟨A, c, by have h := blk_below HBX2.out HB6.out; simpa using h, ⟨hg0, HLC.out⟩, HCC.out⟩, hle, HDR.out, below_step HB2.out HB6.out, HK2.out.trans (KeepBut.of_below HB6.out g none) (.inl rfl)⟩
end Go.Proofs.Ytanmfddlncdncab.F
end
section
namespace Go.Proofs.Ytanmfddlncdncab.F
open Go.RowKit Go.Proofs.YtanmfddlncdncabW.PrintWords Go.Proofs.YtanmfddlncdncabW.PrintLast Go.Proofs.YtanmfddlncdncabW.PrintMore
open Go.Proofs.Ytanmfddlncdncab.Z (nxt encN Dig readN rdW decodeV decT Msg rdW_ev)
set_option linter.unusedVariables false
set_option linter.unusedSimpArgs false
set_option maxHeartbeats 8000000 in
set_option maxRecDepth 100000 in
theorem codec_left.calls (g : Nat) (l : List Int) (ok : Nat → Prop) (w : World) (hR : Rdr w g ok l) :
    Calls Try.prog 30 #[.pointer (some ⟨g, 0, none⟩)] w fun e w' => e = .returned (.int .i64 (l.length : Int)) ∧ w' = w := by
  obtain ⟨A, c, h1, h2, h3⟩ := hR
  have hcg : w.cell? ⟨g, 0, none⟩ = some (.slice A l.length c) := (blk_cell h1 0).trans rfl
  clear h1 h3
  go_enter Try.func30, Try.ntmps30
  go_wp2
  go_ret
  exact ⟨rfl, rfl⟩
theorem results_row_tmp {P : Program} {fn : Func} {p u : Tmp} {ty : TypeId} (h : fn.results = #[.cell p ty, .tmp u]) (tmps : Array Value) (w : World) (g : Nat) (t : TypeId) (cs : Array Value) (fr : Nat × Nat) (d : TypeDesc)
    (hp : tmps.getD p undef = .pointer (some ⟨g, 0, none⟩)) (hg : w.heap[g]? = some (.cells cs t fr))
    (hu : P.underlying ty = some d) (hd : (match d with | .struct _ | .array _ _ => true | _ => false) = true) (hi : (P.info? ty).map (·.size) = some cs.size) (v : Value) (hv : tmps.getD u undef = v) :
    (results fn tmps).run P w = .ok (.tuple #[.agg cs, v]) w := by
  rw [results_cell_tmp h, hp]
  simp only [asAddr, Sem.run_pure, Result.andThen_ok, run_loadVar_row w g t ty cs fr d hg hu hd hi]
  rw [hv]
theorem rd1_mk {w : World} {A : Option Addr} {c : Nat} {l : List Int} (h1 : Kd.C (Kd.int .i64) w A l.length l) (h2 : l.length ≤ c) : Rd1 w A c l := ⟨h1, h2⟩
def msgCells (ys : List Int) (v4 v5 v6 : Value) : Array Value := (ys.map (Value.int .i64) ++ [v4, v5, v6]).toArray
theorem msgCells_set {ys : List Int} {v4 v5 v6 : Value} {i : Nat} (hi : i < ys.length) (x : Int) : (msgCells ys v4 v5 v6).setIfInBounds i (.int .i64 x) = msgCells (ys.set i x) v4 v5 v6 := by
  unfold msgCells
  rw [List.setIfInBounds_toArray, List.set_append_left _ _ (by simpa using hi), List.map_set]
theorem msgCells_get {ys : List Int} {v4 v5 v6 : Value} {i : Nat} (hi : i < ys.length) : (msgCells ys v4 v5 v6)[i]? = some (.int .i64 (ys.getD i 0)) := by
  unfold msgCells
  rw [List.getElem?_toArray, List.getElem?_append_left (by simpa using hi), List.getElem?_map, List.getD_eq_getElem?_getD, List.getElem?_eq_getElem hi]
  rfl
def MsgAt (w : World) (v : Value) (m : Msg) : Prop := ∃ (A4 : Option Addr) (c4 : Nat) (A5 : Option Addr) (c5 : Nat) (A6 : Option Addr) (c6 : Nat), v = .agg #[.int .i64 m.1, .int .i64 m.2.1, .int .i64 m.2.2.1, .int .i64 m.2.2.2.1, .slice A4 m.2.2.2.2.1.length c4, .slice A5 m.2.2.2.2.2.1.length c5, .slice A6 m.2.2.2.2.2.2.length c6] ∧ Rd1 w A4 c4 m.2.2.2.2.1 ∧ Rd1 w A5 c5 m.2.2.2.2.2.1 ∧ Kd.C (Kd.slice 37 (Kd.int .u64)) w A6 m.2.2.2.2.2.2.length m.2.2.2.2.2.2 ∧ m.2.2.2.2.2.2.length ≤ c6
theorem MsgAt.zero (w : World) : MsgAt w (.agg (msgCells [0, 0, 0, 0] (.slice none 0 0) (.slice none 0 0) (.slice none 0 0))) ((0, 0, 0, 0, [], [], [])) :=
  ⟨none, 0, none, 0, none, 0, rfl, ⟨Kd.C_nil _ _, Nat.le_refl _⟩, ⟨Kd.C_nil _ _, Nat.le_refl _⟩, Kd.C_nil _ _, Nat.le_refl _⟩
abbrev nilS : Value := .slice none 0 0
def ptrs (gm : Nat) : Array Value := #[.pointer (some ⟨gm, 0, none⟩), .pointer (some ⟨gm, 1, none⟩), .pointer (some ⟨gm, 2, none⟩), .pointer (some ⟨gm, 3, none⟩)]
theorem ptrs_at (gm i : Nat) (h : i < 4) : (ptrs gm)[i]? = some (.pointer (some ⟨gm, i, none⟩)) := by
  match i, h with
  | 0, _ => rfl
  | 1, _ => rfl
  | 2, _ => rfl
  | 3, _ => rfl
theorem msg_one (a0 a1 a2 a3 : Int) (A : Value) (B C : Value) (hA : A.oneCell' = true) (hB : B.oneCell' = true) (hC : C.oneCell' = true) : (msgCells [a0, a1, a2, a3] A B C).all (·.oneCell') = true := by
  simp only [msgCells, List.map_cons, List.map_nil, List.cons_append, List.nil_append, List.all_toArray, List.all_cons, List.all_nil, hA, hB, hC]
  rfl
theorem msg_info : (Try.prog.info? 25).map (·.size) = some 7 := by kernel_rfl
set_option maxHeartbeats 16000000 in
set_option maxRecDepth 100000 in
theorem wire_Decode.calls (A0 : Option Addr) (c0 : Nat) (l0 : List Int) (w : World) (hr0 : Kd.C (Kd.int .u8) w A0 l0.length l0) (hc0 : l0.length ≤ c0) (hl : l0.length < 140737488355328) (hd : Dig 256 l0) :
    Calls Try.prog 9 #[.slice A0 l0.length c0] w fun e w' => ∃ v : Value, e = .returned (.tuple #[v, .int .i64 (decodeV l0).2]) ∧ MsgAt w' v (decodeV l0).1 ∧ Below w.heap.size w w' := by
  have HR0 := Aside0.mk hr0
  have HC0 := Aside0.mk hc0
  have HL := Aside0.mk hl
  have HD := Aside0.mk hd
  have HB := Aside0.mk (Below.refl w.heap.size w)
  obtain ⟨rv, hrv⟩ : ∃ rv, decodeV l0 = rv := ⟨_, rfl⟩
  rw [hrv]
  have HRV := Aside0.mk hrv
  clear hr0 hc0 hl hd hrv
  go_enter Try.func9, Try.ntmps9
  go_wp2_with (first
    | ((with_reducible refine gate_dst (N := 2) rfl ?_); refine box_event ?hg (N := 2) ?hd (cs := msgCells [0, 0, 0, 0] nilS nilS nilS) (t := 25) ?hr ?_; (case hd => rfl); (case hg => rfl); (case hr => first | (go_simp; done) | (go_simp; rfl)); intro g2 hg w1 hbox hb; have BZ := Aside0.mk hbox; have HB1 := Aside0.mk (below_step HB.out hb); have HG2 := Aside0.mk (show w.heap.size ≤ g2 from hg ▸ below_size HB.out); clear HB hb hbox hg)
    | (go_at_call 22; ((with_reducible refine (codec_New.calls A0 c0 l0 _ (Kd.C_below HR0.out uB) HC0.out HL.out).mono ?_); rintro e w2 ⟨g, rfl, hgg, hr, hb⟩; obtain ⟨ok, hok1, hok2, hr⟩ : ∃ ok : Nat → Prop, (∀ k, ok k → k ≠ g) ∧ (∀ k, ok k → k < g) ∧ Rdr w2 g ok l0 := ⟨_, fun k hk => Nat.ne_of_lt hk.2, fun k hk => hk.2, hr⟩; have HR2 := Aside0.mk hr; have OK1 := Aside0.mk hok1; have OK2 := Aside0.mk hok2; have HGG := Aside0.mk (show g2 < g from Nat.lt_of_lt_of_le (blk_lt BZ.out) hgg); have BZ2 := Aside0.mk (blk_below BZ.out hb); have HB2 := Aside0.mk (below_step HB1.out hb); clear BZ HB1 hb hr hok1 hok2 hgg))
    | ((with_reducible refine gate_dst (N := 4) rfl ?_); refine box_event ?hg (N := 4) ?hd (cs := #[.pointer none]) (t := 45) ?hr ?_; (case hd => rfl); (case hg => rfl); (case hr => first | (go_simp; done) | (go_simp; rfl)); intro gr hg w3 hbox hb; have BR := Aside0.mk hbox; have HGR := Aside0.mk (show g < gr from hg ▸ HR2.out.lt); have HR3 := Aside0.mk (HR2.out.below hb); have BZ3 := Aside0.mk (blk_below BZ2.out hb); have HB3 := Aside0.mk (below_step HB2.out hb); clear HR2 BZ2 HB2 hb hbox hg)
    | ((with_reducible refine gate_store (t := 45) (p := 4) rfl ?_); refine store_event (t := 45) (p := 4) (v := .tmp 16) (w1 := w3.setCell ⟨gr, 0, none⟩ (.pointer (some ⟨g, 0, none⟩))) ?hg ?ho ?hn ?hr ?_; (case ho => rfl); (case hg => rfl); (case hn => rfl); (case hr => (have hy_ := (blk_cell BR.out 0).trans rfl; have hz_ := blk_frozen BR.out 0; first | (go_simp; done) | (go_simp; rfl))); intro w4 hw; have BR4 := Aside0.mk (show RBox w4 gr g by rw [hw]; exact blk_put BR.out 0 _ rfl); have BZ4 := Aside0.mk (show w4.heap[g2]? = some (.cells (msgCells [0, 0, 0, 0] nilS nilS nilS) 25 (0, 0)) by rw [hw]; exact blk_far BZ3.out (by have := HGR.out; have := HGG.out; show g2 ≠ gr; omega) _); have HR4 := Aside0.mk (show Rdr w4 g ok l0 by rw [hw]; exact HR3.out.far (by have := HGR.out; show gr ≠ g; omega) (fun k hk => by have := OK2.out k hk; have := HGR.out; show k ≠ gr; omega) _); have HB4 := Aside0.mk (show Below w.heap.size w w4 by rw [hw]; exact below_set HB3.out (by have := HG2.out; have := HGG.out; have := HGR.out; omega)); clear BR BZ3 HR3 HB3 hw)
    | ((with_reducible refine gate_dst (N := 7) rfl ?_); refine box_event ?hg (N := 7) ?hd (cs := msgCells [0, 0, 0, 0] nilS nilS nilS) (t := 25) ?hr ?_; (case hd => rfl); (case hg => rfl); (case hr => first | (go_simp; done) | (go_simp; rfl)); intro gm hg w5 hbox hb; have BM := Aside0.mk hbox; have HGM := Aside0.mk (show gr < gm from hg ▸ blk_lt BR4.out); have HR5 := Aside0.mk (HR4.out.below hb); have BR5 := Aside0.mk (show RBox w5 gr g from blk_below BR4.out hb); have BZ5 := Aside0.mk (blk_below BZ4.out hb); have HB5 := Aside0.mk (below_step HB4.out hb); clear HR4 BR4 BZ4 HB4 hb hbox hg)
    | ((with_reducible refine gate_dst (N := 23) rfl ?_); refine slice_event ?hg (N := 23) ?hd (cs := ptrs gm) (n := 4) (t := 54) ?hr ?_; (case hd => rfl); (case hg => rfl); (case hr => first | (go_simp; done) | (go_simp; rfl)); intro gs hg w6 hbox hb; have BP := Aside0.mk hbox; have HGS := Aside0.mk (show gm < gs from hg ▸ blk_lt BM.out); have HR6 := Aside0.mk (HR5.out.below hb); have BR6 := Aside0.mk (show RBox w6 gr g from blk_below BR5.out hb); have BZ6 := Aside0.mk (blk_below BZ5.out hb); have BM6 := Aside0.mk (blk_below BM.out hb); have HB6 := Aside0.mk (below_step HB5.out hb); clear HR5 BR5 BZ5 HB5 BM hb hbox hg))
  go_loopg [25] 4 (fun gg v25 wr => ∃ (i : Nat) (ys li : List Int), v25 = .int .i64 (i : Int) ∧ i ≤ 4 ∧ 4 - i ≤ gg ∧ ys.length = 4 ∧ Aside0 ((readN (4 - i) li).map (fun r => (ys.take i ++ r.1, r.2)) = readN 4 l0) ∧ Aside0 (Dig 256 li ∧ li.length < 140737488355328) ∧ Aside0 (Rdr wr g ok li) ∧ Aside0 (RBox wr gr g) ∧ Aside0 (wr.heap[g2]? = some (.cells (msgCells [0, 0, 0, 0] nilS nilS nilS) 25 (0, 0))) ∧ Aside0 (wr.heap[gm]? = some (.cells (msgCells ys nilS nilS nilS) 25 (0, 0))) ∧ Aside0 (wr.heap[gs]? = some (.cells (ptrs gm) 54 (0, 0))) ∧ Aside0 (Below w.heap.size w wr))
  case atStart => exact ⟨0, [0, 0, 0, 0], l0, rfl, by omega, by omega, rfl, ⟨by rw [Nat.sub_zero]; cases readN 4 l0 <;> rfl⟩, ⟨HD.out, HL.out⟩, HR6, BR6, BZ6, BM6, BP, HB6⟩
  case round =>
    clear HR6 BR6 BZ6 BM6 BP HB6
    obtain ⟨i, ys, li, rfl, hi, hgg, hyl, HT, HDi, HRi, BRi, BZi, BMi, BPi, HBi⟩ := hrel
    by_cases hlt : i < 4
    · have hltz : (i : Int) < 4 := by omega
      have h0z : (0 : Int) ≤ (i : Int) := by omega
      have hptr : wr.cell? ⟨gs, i, none⟩ = some (.pointer (some ⟨gm, i, none⟩)) := (blk_cell BPi.out i).trans (ptrs_at gm i hlt)
      obtain ⟨m, hm⟩ : ∃ m, 4 - i = m + 1 := ⟨4 - i - 1, by omega⟩
      have hT := HT.out
      rw [hm, readN] at hT
      have hdec := wire_decnum.calls gr g li ok
      have hdx := numV_dig (most := 1073741824) HDi.out.1
      have hlx := numV_len (most := 1073741824) (l := li)
      generalize numV 1073741824 li = u at hT hdec hdx hlx
      obtain ⟨x, ex, l2⟩ := u
      simp only at hT hdec hdx hlx
      have HDC := Aside0.mk hdec
      have HDX := Aside0.mk (show Dig 256 l2 ∧ l2.length < 140737488355328 from ⟨hdx, Nat.lt_of_le_of_lt hlx HDi.out.2⟩)
      clear hdec hdx HT hlx
      by_cases hex : ex = 0
      · subst hex
        rw [if_pos rfl] at hT
        have HT := Aside0.mk hT
        clear hT
        go_wp2_with (first | (go_at_call 23; ((with_reducible refine (HDC.out _ BRi.out HRi.out OK1.out HDi.out.1).mono ?_); rintro e w7 ⟨rfl, hr, hk⟩; have HR7 := Aside0.mk hr; have BR7 := Aside0.mk (show RBox w7 gr g from blk_kept BRi.out hk.kept (by have := HGR.out; show ¬ gr = g; omega)); have BZ7 := Aside0.mk (blk_kept BZi.out hk.kept (by have := HGG.out; show ¬ g2 = g; omega)); have BM7 := Aside0.mk (blk_kept BMi.out hk.kept (by have := HGR.out; have := HGM.out; show ¬ gm = g; omega)); have BP7 := Aside0.mk (blk_kept BPi.out hk.kept (by have := HGR.out; have := HGM.out; have := HGS.out; show ¬ gs = g; omega)); have HB7 := Aside0.mk (hk.base HBi.out (by have := HG2.out; have := HGG.out; omega)); have hcm := (blk_cell BM7.out i).trans (msgCells_get (by rw [hyl]; exact hlt)); have hfm := blk_frozen BM7.out i; clear HRi BRi BZi BMi BPi HBi hr hk hptr)))
        have BM8 := Aside0.mk (blk_put BM7.out i _ (msgCells_set (by rw [hyl]; exact hlt) (x : Int)))
        have BR8 := Aside0.mk (show RBox (w7.setCell ⟨gm, i, none⟩ (.int .i64 (x : Int))) gr g from blk_far BR7.out (by have := HGM.out; show gr ≠ gm; omega) _)
        have BZ8 := Aside0.mk (blk_far BZ7.out (p := ⟨gm, i, none⟩) (by have := HGM.out; have := HGR.out; have := HGG.out; show g2 ≠ gm; omega) (.int .i64 (x : Int)))
        have BP8 := Aside0.mk (blk_far BP7.out (p := ⟨gm, i, none⟩) (by have := HGS.out; show gs ≠ gm; omega) (.int .i64 (x : Int)))
        have HR8 := Aside0.mk (HR7.out.far (p := ⟨gm, i, none⟩) (by have := HGM.out; have := HGR.out; show gm ≠ g; omega) (fun k hk => by have := OK2.out k hk; have := HGM.out; have := HGR.out; show k ≠ gm; omega) (.int .i64 (x : Int)))
        have HB8 := Aside0.mk (below_set (g := gm) (j := i) (v := .int .i64 (x : Int)) HB7.out (by have := HG2.out; have := HGG.out; have := HGR.out; have := HGM.out; omega))
        go_roundg (4 - (i + 1))
        case measure => omega
        case rel =>
          refine ⟨i + 1, ys.set i (x : Int), l2, by go_num, by omega, by omega, by rw [List.length_set]; exact hyl, ⟨?_⟩, HDX, HR8, BR8, BZ8, BM8, BP8, HB8⟩
          rw [show 4 - (i + 1) = m from by omega, ← HT.out, List.take_succ_eq_append_getElem (by rw [List.length_set]; omega), List.take_set_of_le (Nat.le_refl _), List.getElem_set_self]
          cases readN m l2 <;> simp
      · rw [if_neg hex] at hT
        have hrv : ((0, 0, 0, 0, [], [], []), 16) = rv := by
          rw [← HRV.out]
          unfold decodeV
          rw [← hT]
          rfl
        subst hrv
        have hexz : (ex == 0) = false := beq_eq_false_iff_ne.mpr hex
        clear hT
        go_wp2_with (first
          | (go_at_call 23; ((with_reducible refine (HDC.out _ BRi.out HRi.out OK1.out HDi.out.1).mono ?_); rintro e w7 ⟨rfl, hr, hk⟩; have BZ7 := Aside0.mk (blk_kept BZi.out hk.kept (by have := HGG.out; show ¬ g2 = g; omega)); have HB7 := Aside0.mk (hk.base HBi.out (by have := HG2.out; have := HGG.out; omega)); clear HRi BRi BZi BMi BPi HBi hr hk hptr))
          | ((with_reducible refine gate_store (t := 25) (p := 2) rfl ?_); refine wpList_store_row rfl 25 (.tmp 2) (.tmp 36) rfl g2 (msgCells [0, 0, 0, 0] nilS nilS nilS) rfl rfl 25 (msgCells [0, 0, 0, 0] nilS nilS nilS) BZ7.out (by kernel_rfl) (by kernel_rfl) (by kernel_rfl) ?_; have BZ9 := Aside0.mk (setRow_heap w7 g2 _ (msgCells [0, 0, 0, 0] nilS nilS nilS) _ _ BZ7.out); have HB9 := Aside0.mk (below_setRow HB7.out HG2.out (msgCells [0, 0, 0, 0] nilS nilS nilS)); generalize w7.setRow g2 (msgCells [0, 0, 0, 0] nilS nilS nilS) = w9 at BZ9 HB9 ⊢; clear BZ7 HB7))
        (try rw [Exit.noGoto_ret])
        exact bodyPost_ret (results_row_tmp rfl _ _ g2 25 (msgCells [0, 0, 0, 0] nilS nilS nilS) (0, 0) _ rfl BZ9.out Try.underlying25 rfl (by kernel_rfl) (.int .i64 16) rfl) rfl ⟨_, rfl, MsgAt.zero _, HB9.out⟩
    · obtain rfl : i = 4 := by omega
      have hT := HT.out
      rw [show 4 - 4 = 0 from rfl, readN, Option.map_some, List.append_nil, List.take_of_length_le (by omega)] at hT
      have hrv := HRV.out
      unfold decodeV at hrv
      rw [← hT] at hrv
      simp only at hrv
      obtain ⟨a0, a1, a2, a3, rfl⟩ : ∃ a0 a1 a2 a3, ys = [a0, a1, a2, a3] := by
        match ys, hyl with
        | [a0, a1, a2, a3], _ => exact ⟨_, _, _, _, rfl⟩
      change decT l0.length a0 a1 a2 a3 li = rv at hrv
      unfold decT at hrv
      have hltz : ¬ ((4 : Nat) : Int) < 4 := by omega
      have hc1 := fun w h1 h2 => wire_readints.calls gr g li ok w h1 h2 OK1.out HDi.out.1 (by have := HGR.out; omega) OK2.out
      have hd1 := @Z.readI_ok li HDi.out.1
      generalize readI li = p at hrv hc1 hd1
      obtain ⟨p1, pb, p2⟩ := p
      simp only at hrv hc1 hd1
      have hc2 := fun (h : pb = true) w h1 h2 => wire_readints.calls gr g p2 ok w h1 h2 OK1.out (hd1 h).2 (by have := HGR.out; omega) OK2.out
      have hd2 := fun (h : pb = true) => @Z.readI_ok p2 (hd1 h).2
      generalize readI p2 = q at hrv hc2 hd2
      obtain ⟨q1, qb, q2⟩ := q
      simp only at hrv hc2 hd2
      have hlen : pb = true → qb = true → q2.length < 9223372036854775808 := fun h1 h2 => by
        have e1 := congrArg List.length (hd1 h1).1
        have e2 := congrArg List.length (hd2 h1 h2).1
        have := HDi.out.2
        simp only [List.length_append] at e1 e2
        omega
      have hc3 := fun (h1 : pb = true) (h2 : qb = true) w hB hR => wire_readnats.calls rdW rdW_ev gr g q2 ok w hB hR OK1.out (hd2 h1 h2).2 (hlen h1 h2) (by have := HGR.out; omega) OK2.out
      have hd3 := fun (h1 : pb = true) (h2 : qb = true) => @Z.readNats_ok q2 (hd2 h1 h2).2
      generalize readNats rdW q2 = s at hrv hc3 hd3
      obtain ⟨s1, sb, s2⟩ := s
      simp only at hrv hc3 hd3
      have hR : pb = true → qb = true → sb = true → wire_Right.f a0 a1 a2 a3 p1 q1 s1 = some (Z.rightV a0 a1 a2 a3 p1 q1 s1) := fun h1 h2 h3 => Z.wire_Right_eq _ _ _ _ _ _ _ (fun a ha => by have := ((hd3 h1 h2 h3).2 a ha).2.2; simp only [maxLen]; omega)
      have HC1 := Aside0.mk hc1
      have HC2 := Aside0.mk hc2
      have HC3 := Aside0.mk hc3
      have BR9 := BRi; have HR9 := HRi; have BZ9 := BZi; have BM9 := BMi; have HB9 := HBi
      obtain ⟨N0, hN0⟩ : ∃ N0, N0 = wr.heap.size := ⟨_, rfl⟩
      have HNG := Aside0.mk (show g2 < N0 ∧ g < N0 ∧ gm < N0 from ⟨by rw [hN0]; exact blk_lt BZi.out, by rw [hN0]; exact HRi.out.lt, by rw [hN0]; exact blk_lt BMi.out⟩)
      have HN9 := Aside0.mk (Nat.le_of_eq hN0)
      have hcr := (blk_cell BR9.out 0).trans rfl
      clear hc1 hc2 hc3 hd1 hd2 hd3 hlen hT HT HRi BRi BZi BMi BPi HBi hN0 HRV HDi
      have hcase : rv = ((0, 0, 0, 0, [], [], []), 16) ∧ (pb = false ∨ pb = true ∧ (qb = false ∨ qb = true ∧ (sb = false ∨ sb = true ∧ (0 < s2.length ∨ s2.length = 0 ∧ (1048576 < l0.length ∨ l0.length ≤ 1048576 ∧ wire_Right.f a0 a1 a2 a3 p1 q1 s1 = some false))))) ∨ rv = ((a0, a1, a2, a3, p1, q1, s1), 0) ∧ pb = true ∧ qb = true ∧ sb = true ∧ s2.length = 0 ∧ l0.length ≤ 1048576 ∧ wire_Right.f a0 a1 a2 a3 p1 q1 s1 = some true := by
        cases pb with
        | false => exact .inl ⟨hrv.symm, .inl rfl⟩
        | true =>
          cases qb with
          | false => exact .inl ⟨hrv.symm, .inr ⟨rfl, .inl rfl⟩⟩
          | true =>
            cases sb with
            | false =>
              rw [if_pos rfl, if_pos rfl] at hrv
              exact .inl ⟨hrv.symm.trans (if_neg (fun h => absurd h.1 (by decide))), .inr ⟨rfl, .inr ⟨rfl, .inl rfl⟩⟩⟩
            | true =>
              rw [if_pos rfl, if_pos rfl] at hrv
              by_cases k1 : s2 = []
              · by_cases k2 : l0.length ≤ 1048576
                · have hR' := hR rfl rfl rfl
                  cases k3 : Z.rightV a0 a1 a2 a3 p1 q1 s1 with
                  | false => rw [k3] at hR' hrv; exact .inl ⟨hrv.symm.trans (if_neg (fun h => absurd h.2.2.2 (by decide))), .inr ⟨rfl, .inr ⟨rfl, .inr ⟨rfl, .inr ⟨by rw [k1]; rfl, .inr ⟨k2, hR'⟩⟩⟩⟩⟩⟩
                  | true => rw [k3] at hR' hrv; exact .inr ⟨hrv.symm.trans (if_pos ⟨rfl, k1, k2, rfl⟩), rfl, rfl, rfl, by rw [k1]; rfl, k2, hR'⟩
                · exact .inl ⟨hrv.symm.trans (if_neg (fun h => k2 h.2.2.1)), .inr ⟨rfl, .inr ⟨rfl, .inr ⟨rfl, .inr ⟨by rw [k1]; rfl, .inl (by omega)⟩⟩⟩⟩⟩
              · exact .inl ⟨hrv.symm.trans (if_neg (fun h => k1 h.2.1)), .inr ⟨rfl, .inr ⟨rfl, .inr ⟨rfl, .inl (List.length_pos_iff.mpr k1)⟩⟩⟩⟩
      clear hrv hR
      rcases hcase with ⟨rfl, hc⟩ | ⟨rfl, rfl, rfl, rfl, k1, k2, k3⟩
      · rcases hc with rfl | ⟨rfl, rfl | ⟨rfl, rfl | ⟨rfl, k1 | ⟨k1, k2 | ⟨k2, k3⟩⟩⟩⟩⟩
        case inl =>
          go_wp2_with (first
            | (go_at_call 28; ((with_reducible refine (HC1.out _ BR9.out HR9.out).mono ?_); rintro e w10 ⟨vp, rfl, ho, ⟨lp', hr, hlp⟩, hk⟩; obtain ⟨Ap, dp, ep⟩ := Kd.R_slice ho; subst ep; have HR10 := Aside0.mk hr; have HLLp := Aside0.mk hlp; have HFp := Aside0.mk (Kd.R_V (base' := 0) (Kd.R_mono (Kd.R_bound ho) (fun k hk => (Nat.le_trans HN9.out hk.2.1 : N0 ≤ k)))); have BR10 := Aside0.mk (show RBox w10 gr g from blk_kept BR9.out hk.kept (by have := HGR.out; show ¬ gr = g; omega)); have BZ10 := Aside0.mk (blk_kept BZ9.out hk.kept (by have := HGG.out; show ¬ g2 = g; omega)); have BM10 := Aside0.mk (blk_kept BM9.out hk.kept (by have := HGR.out; have := HGM.out; show ¬ gm = g; omega)); have HB10 := Aside0.mk (hk.base HB9.out (by have := HG2.out; have := HGG.out; omega)); have HN10 := Aside0.mk (Nat.le_trans HN9.out hk.kept.1); clear HR9 BR9 BZ9 BM9 HB9 hcr ho hr hk hlp))
            | ((with_reducible refine gate_store (t := 22) (p := 47) rfl ?_); refine store_event (t := 22) (p := 47) (v := .tmp 45) (w1 := w10.setCell ⟨gm, 4, none⟩ (.slice Ap p1.length dp)) ?hg ?ho ?hn ?hr ?_; (case ho => rfl); (case hg => rfl); (case hn => rfl); (case hr => (have hy_ := (blk_cell BM10.out 4).trans rfl; have hz_ := blk_frozen BM10.out 4; first | (go_simp; done) | (go_simp; rfl))); intro w11 hw; have BM11 := Aside0.mk (show w11.heap[gm]? = some (.cells (msgCells [a0, a1, a2, a3] (.slice Ap p1.length dp) nilS nilS) 25 (0, 0)) by rw [hw]; exact blk_put BM10.out 4 _ rfl); have BR11 := Aside0.mk (show RBox w11 gr g by rw [hw]; exact blk_far BR10.out (by have := HGM.out; show gr ≠ gm; omega) _); have BZ11 := Aside0.mk (show w11.heap[g2]? = some (.cells (msgCells [0, 0, 0, 0] nilS nilS nilS) 25 (0, 0)) by rw [hw]; exact blk_far BZ10.out (by have := HGM.out; have := HGR.out; have := HGG.out; show g2 ≠ gm; omega) _); have HR11 := Aside0.mk (show Rdr w11 g ok lp' by rw [hw]; exact HR10.out.far (by have := HGM.out; have := HGR.out; show gm ≠ g; omega) (fun k hk => by have := OK2.out k hk; have := HGM.out; have := HGR.out; show k ≠ gm; omega) _); have HB11 := Aside0.mk (show Below w.heap.size w w11 by rw [hw]; exact below_set HB10.out (by have := HG2.out; have := HGG.out; have := HGR.out; have := HGM.out; omega)); have HN11 := Aside0.mk (show N0 ≤ w11.heap.size by rw [hw]; simpa [World.setCell] using HN10.out); have HFpk := Aside0.mk (show Kd.V _ 0 w11 0 (fun k => N0 ≤ k) _ _ by rw [hw]; exact Kd.V_far HFp.out (fun k hk1 => by have := HNG.out; have := HGM.out; show k ≠ gm; omega) _); replace HFp := HFpk; clear HFpk; have hcr := (blk_cell BR11.out 0).trans rfl; clear HR10 BR10 BZ10 BM10 HB10 HN10 hw)
            | ((with_reducible refine gate_store (t := 25) (p := 2) rfl ?_); refine wpList_store_row rfl 25 (.tmp 2) (.tmp 81) rfl g2 (msgCells [0, 0, 0, 0] nilS nilS nilS) rfl rfl 25 (msgCells [0, 0, 0, 0] nilS nilS nilS) BZ11.out (by kernel_rfl) (by kernel_rfl) (by kernel_rfl) ?_; have BE := Aside0.mk (setRow_heap w11 g2 _ (msgCells [0, 0, 0, 0] nilS nilS nilS) _ _ BZ11.out); have HE := Aside0.mk (below_setRow HB11.out HG2.out (msgCells [0, 0, 0, 0] nilS nilS nilS)); generalize w11.setRow g2 (msgCells [0, 0, 0, 0] nilS nilS nilS) = w20 at BE HE ⊢))
          (try rw [Exit.noGoto_ret])
          exact bodyPost_ret (results_row_tmp rfl _ _ g2 25 (msgCells [0, 0, 0, 0] nilS nilS nilS) (0, 0) _ rfl BE.out Try.underlying25 rfl (by kernel_rfl) (.int .i64 16) rfl) rfl ⟨_, rfl, MsgAt.zero _, HE.out⟩
        all_goals (try have y1 : decide (0 < (s2.length : Int)) = true := decide_eq_true (by omega)); (try have y2 : decide (0 < (s2.length : Int)) = false := decide_eq_false (by omega)); (try have y3 : decide (1048576 < (l0.length : Int)) = true := decide_eq_true (by omega)); (try have y4 : decide (1048576 < (l0.length : Int)) = false := decide_eq_false (by omega))
        all_goals (try have HRR := Aside0.mk k3)
        all_goals (try clear k3)
        all_goals
          go_wp2_with (first
            | (go_at_call 28; ((with_reducible refine (HC1.out _ BR9.out HR9.out).mono ?_); rintro e w10 ⟨vp, rfl, ho, ⟨lp', hr, hlp⟩, hk⟩; obtain ⟨Ap, dp, ep⟩ := Kd.R_slice ho; subst ep; have HR10 := Aside0.mk hr; have HLLp := Aside0.mk hlp; have HFp := Aside0.mk (Kd.R_V (base' := 0) (Kd.R_mono (Kd.R_bound ho) (fun k hk => (Nat.le_trans HN9.out hk.2.1 : N0 ≤ k)))); have BR10 := Aside0.mk (show RBox w10 gr g from blk_kept BR9.out hk.kept (by have := HGR.out; show ¬ gr = g; omega)); have BZ10 := Aside0.mk (blk_kept BZ9.out hk.kept (by have := HGG.out; show ¬ g2 = g; omega)); have BM10 := Aside0.mk (blk_kept BM9.out hk.kept (by have := HGR.out; have := HGM.out; show ¬ gm = g; omega)); have HB10 := Aside0.mk (hk.base HB9.out (by have := HG2.out; have := HGG.out; omega)); have HN10 := Aside0.mk (Nat.le_trans HN9.out hk.kept.1); clear HR9 BR9 BZ9 BM9 HB9 hcr ho hr hk hlp))
            | ((with_reducible refine gate_store (t := 22) (p := 47) rfl ?_); refine store_event (t := 22) (p := 47) (v := .tmp 45) (w1 := w10.setCell ⟨gm, 4, none⟩ (.slice Ap p1.length dp)) ?hg ?ho ?hn ?hr ?_; (case ho => rfl); (case hg => rfl); (case hn => rfl); (case hr => (have hy_ := (blk_cell BM10.out 4).trans rfl; have hz_ := blk_frozen BM10.out 4; first | (go_simp; done) | (go_simp; rfl))); intro w11 hw; have BM11 := Aside0.mk (show w11.heap[gm]? = some (.cells (msgCells [a0, a1, a2, a3] (.slice Ap p1.length dp) nilS nilS) 25 (0, 0)) by rw [hw]; exact blk_put BM10.out 4 _ rfl); have BR11 := Aside0.mk (show RBox w11 gr g by rw [hw]; exact blk_far BR10.out (by have := HGM.out; show gr ≠ gm; omega) _); have BZ11 := Aside0.mk (show w11.heap[g2]? = some (.cells (msgCells [0, 0, 0, 0] nilS nilS nilS) 25 (0, 0)) by rw [hw]; exact blk_far BZ10.out (by have := HGM.out; have := HGR.out; have := HGG.out; show g2 ≠ gm; omega) _); have HR11 := Aside0.mk (show Rdr w11 g ok lp' by rw [hw]; exact HR10.out.far (by have := HGM.out; have := HGR.out; show gm ≠ g; omega) (fun k hk => by have := OK2.out k hk; have := HGM.out; have := HGR.out; show k ≠ gm; omega) _); have HB11 := Aside0.mk (show Below w.heap.size w w11 by rw [hw]; exact below_set HB10.out (by have := HG2.out; have := HGG.out; have := HGR.out; have := HGM.out; omega)); have HN11 := Aside0.mk (show N0 ≤ w11.heap.size by rw [hw]; simpa [World.setCell] using HN10.out); have HFpk := Aside0.mk (show Kd.V _ 0 w11 0 (fun k => N0 ≤ k) _ _ by rw [hw]; exact Kd.V_far HFp.out (fun k hk1 => by have := HNG.out; have := HGM.out; show k ≠ gm; omega) _); replace HFp := HFpk; clear HFpk; have hcr := (blk_cell BR11.out 0).trans rfl; clear HR10 BR10 BZ10 BM10 HB10 HN10 hw)
            | (go_at_call 28; ((with_reducible refine (HC2.out (by first | rfl | trivial) _ BR11.out (show Rdr w11 g ok p2 by rw [← (show lp' = p2 by first | exact HLLp.out rfl | exact HLLp.out trivial | exact HLLp.out)]; exact HR11.out)).mono ?_); rintro e w12 ⟨vq, rfl, ho, ⟨lq', hr, hlq⟩, hk⟩; obtain ⟨Aq, dq, eq⟩ := Kd.R_slice ho; subst eq; have HR12 := Aside0.mk hr; have HLLq := Aside0.mk hlq; have HFq := Aside0.mk (Kd.R_V (base' := 0) (Kd.R_mono (Kd.R_bound ho) (fun k hk => (Nat.le_trans HN11.out hk.2.1 : N0 ≤ k)))); have BR12 := Aside0.mk (show RBox w12 gr g from blk_kept BR11.out hk.kept (by have := HGR.out; show ¬ gr = g; omega)); have BZ12 := Aside0.mk (blk_kept BZ11.out hk.kept (by have := HGG.out; show ¬ g2 = g; omega)); have BM12 := Aside0.mk (blk_kept BM11.out hk.kept (by have := HGR.out; have := HGM.out; show ¬ gm = g; omega)); have HB12 := Aside0.mk (hk.base HB11.out (by have := HG2.out; have := HGG.out; omega)); have HN12 := Aside0.mk (Nat.le_trans HN11.out hk.kept.1); have HFpk := Aside0.mk (Kd.V_kept HFp.out hk.kept (fun k hk1 e => by have := HNG.out; change k = g at e; omega)); replace HFp := HFpk; clear HFpk; clear HR11 BR11 BZ11 BM11 HB11 hcr ho hr hk hlq))
            | ((with_reducible refine gate_store (t := 22) (p := 55) rfl ?_); refine store_event (t := 22) (p := 55) (v := .tmp 53) (w1 := w12.setCell ⟨gm, 5, none⟩ (.slice Aq q1.length dq)) ?hg ?ho ?hn ?hr ?_; (case ho => rfl); (case hg => rfl); (case hn => rfl); (case hr => (have hy_ := (blk_cell BM12.out 5).trans rfl; have hz_ := blk_frozen BM12.out 5; first | (go_simp; done) | (go_simp; rfl))); intro w13 hw; have BM13 := Aside0.mk (show w13.heap[gm]? = some (.cells (msgCells [a0, a1, a2, a3] (.slice Ap p1.length dp) (.slice Aq q1.length dq) nilS) 25 (0, 0)) by rw [hw]; exact blk_put BM12.out 5 _ rfl); have BR13 := Aside0.mk (show RBox w13 gr g by rw [hw]; exact blk_far BR12.out (by have := HGM.out; show gr ≠ gm; omega) _); have BZ13 := Aside0.mk (show w13.heap[g2]? = some (.cells (msgCells [0, 0, 0, 0] nilS nilS nilS) 25 (0, 0)) by rw [hw]; exact blk_far BZ12.out (by have := HGM.out; have := HGR.out; have := HGG.out; show g2 ≠ gm; omega) _); have HR13 := Aside0.mk (show Rdr w13 g ok lq' by rw [hw]; exact HR12.out.far (by have := HGM.out; have := HGR.out; show gm ≠ g; omega) (fun k hk => by have := OK2.out k hk; have := HGM.out; have := HGR.out; show k ≠ gm; omega) _); have HB13 := Aside0.mk (show Below w.heap.size w w13 by rw [hw]; exact below_set HB12.out (by have := HG2.out; have := HGG.out; have := HGR.out; have := HGM.out; omega)); have HN13 := Aside0.mk (show N0 ≤ w13.heap.size by rw [hw]; simpa [World.setCell] using HN12.out); have HFpk := Aside0.mk (show Kd.V _ 0 w13 0 (fun k => N0 ≤ k) _ _ by rw [hw]; exact Kd.V_far HFp.out (fun k hk1 => by have := HNG.out; have := HGM.out; show k ≠ gm; omega) _); replace HFp := HFpk; clear HFpk; have HFqk := Aside0.mk (show Kd.V _ 0 w13 0 (fun k => N0 ≤ k) _ _ by rw [hw]; exact Kd.V_far HFq.out (fun k hk1 => by have := HNG.out; have := HGM.out; show k ≠ gm; omega) _); replace HFq := HFqk; clear HFqk; have hcr := (blk_cell BR13.out 0).trans rfl; clear HR12 BR12 BZ12 BM12 HB12 HN12 hw)
            | (go_at_call 29; ((with_reducible refine (HC3.out (by first | rfl | trivial) (by first | rfl | trivial) _ BR13.out (show Rdr w13 g ok q2 by rw [← (show lq' = q2 by first | exact HLLq.out rfl | exact HLLq.out trivial | exact HLLq.out)]; exact HR13.out)).mono ?_); rintro e w14 ⟨vs, rfl, ho, ⟨ls', hr, hls⟩, hk⟩; obtain ⟨As, ds, es⟩ := Kd.R_slice ho; subst es; have HR14 := Aside0.mk hr; have HLLs := Aside0.mk hls; have HFs := Aside0.mk (Kd.R_V (base' := 0) (Kd.R_mono (Kd.R_bound ho) (fun k hk => (Nat.le_trans HN13.out hk.2.1 : N0 ≤ k)))); have BR14 := Aside0.mk (show RBox w14 gr g from blk_kept BR13.out hk.kept (by have := HGR.out; show ¬ gr = g; omega)); have BZ14 := Aside0.mk (blk_kept BZ13.out hk.kept (by have := HGG.out; show ¬ g2 = g; omega)); have BM14 := Aside0.mk (blk_kept BM13.out hk.kept (by have := HGR.out; have := HGM.out; show ¬ gm = g; omega)); have HB14 := Aside0.mk (hk.base HB13.out (by have := HG2.out; have := HGG.out; omega)); have HN14 := Aside0.mk (Nat.le_trans HN13.out hk.kept.1); have HFpk := Aside0.mk (Kd.V_kept HFp.out hk.kept (fun k hk1 e => by have := HNG.out; change k = g at e; omega)); replace HFp := HFpk; clear HFpk; have HFqk := Aside0.mk (Kd.V_kept HFq.out hk.kept (fun k hk1 e => by have := HNG.out; change k = g at e; omega)); replace HFq := HFqk; clear HFqk; clear HR13 BR13 BZ13 BM13 HB13 hcr ho hr hk hls))
            | ((with_reducible refine gate_store (t := 23) (p := 63) rfl ?_); refine store_event (t := 23) (p := 63) (v := .tmp 61) (w1 := w14.setCell ⟨gm, 6, none⟩ (.slice As s1.length ds)) ?hg ?ho ?hn ?hr ?_; (case ho => rfl); (case hg => rfl); (case hn => rfl); (case hr => (have hy_ := (blk_cell BM14.out 6).trans rfl; have hz_ := blk_frozen BM14.out 6; first | (go_simp; done) | (go_simp; rfl))); intro w15 hw; have BM15 := Aside0.mk (show w15.heap[gm]? = some (.cells (msgCells [a0, a1, a2, a3] (.slice Ap p1.length dp) (.slice Aq q1.length dq) (.slice As s1.length ds)) 25 (0, 0)) by rw [hw]; exact blk_put BM14.out 6 _ rfl); have BR15 := Aside0.mk (show RBox w15 gr g by rw [hw]; exact blk_far BR14.out (by have := HGM.out; show gr ≠ gm; omega) _); have BZ15 := Aside0.mk (show w15.heap[g2]? = some (.cells (msgCells [0, 0, 0, 0] nilS nilS nilS) 25 (0, 0)) by rw [hw]; exact blk_far BZ14.out (by have := HGM.out; have := HGR.out; have := HGG.out; show g2 ≠ gm; omega) _); have HR15 := Aside0.mk (show Rdr w15 g ok ls' by rw [hw]; exact HR14.out.far (by have := HGM.out; have := HGR.out; show gm ≠ g; omega) (fun k hk => by have := OK2.out k hk; have := HGM.out; have := HGR.out; show k ≠ gm; omega) _); have HB15 := Aside0.mk (show Below w.heap.size w w15 by rw [hw]; exact below_set HB14.out (by have := HG2.out; have := HGG.out; have := HGR.out; have := HGM.out; omega)); have HN15 := Aside0.mk (show N0 ≤ w15.heap.size by rw [hw]; simpa [World.setCell] using HN14.out); have HFpk := Aside0.mk (show Kd.V _ 0 w15 0 (fun k => N0 ≤ k) _ _ by rw [hw]; exact Kd.V_far HFp.out (fun k hk1 => by have := HNG.out; have := HGM.out; show k ≠ gm; omega) _); replace HFp := HFpk; clear HFpk; have HFqk := Aside0.mk (show Kd.V _ 0 w15 0 (fun k => N0 ≤ k) _ _ by rw [hw]; exact Kd.V_far HFq.out (fun k hk1 => by have := HNG.out; have := HGM.out; show k ≠ gm; omega) _); replace HFq := HFqk; clear HFqk; have HFsk := Aside0.mk (show Kd.V _ 0 w15 0 (fun k => N0 ≤ k) _ _ by rw [hw]; exact Kd.V_far HFs.out (fun k hk1 => by have := HNG.out; have := HGM.out; show k ≠ gm; omega) _); replace HFs := HFsk; clear HFsk; have hcr := (blk_cell BR15.out 0).trans rfl; have hm0 : w15.cell? ⟨gm, 0, none⟩ = some (.int .i64 a0) := (blk_cell BM15.out 0).trans rfl; have hm1 : w15.cell? ⟨gm, 1, none⟩ = some (.int .i64 a1) := (blk_cell BM15.out 1).trans rfl; have hm2 : w15.cell? ⟨gm, 2, none⟩ = some (.int .i64 a2) := (blk_cell BM15.out 2).trans rfl; have hm3 : w15.cell? ⟨gm, 3, none⟩ = some (.int .i64 a3) := (blk_cell BM15.out 3).trans rfl; have hm4 : w15.cell? ⟨gm, 4, none⟩ = some (.slice Ap p1.length dp) := (blk_cell BM15.out 4).trans rfl; have hm5 : w15.cell? ⟨gm, 5, none⟩ = some (.slice Aq q1.length dq) := (blk_cell BM15.out 5).trans rfl; have hm6 : w15.cell? ⟨gm, 6, none⟩ = some (.slice As s1.length ds) := (blk_cell BM15.out 6).trans rfl; clear HR14 BR14 BZ14 BM14 HB14 HN14 hw)
            | (go_at_call 30; (with_reducible refine (codec_left.calls g s2 ok _ (show Rdr w15 g ok s2 by rw [← (show ls' = s2 by first | exact HLLs.out rfl | exact HLLs.out trivial | exact HLLs.out)]; exact HR15.out)).mono ?_); rintro e w16 ⟨rfl, rfl⟩)
            | (go_at_call 12; (with_reducible refine (wire_Right.call7 a0 a1 a2 a3 Ap dp p1 Aq dq q1 As ds s1 _ _ (rd1_mk (Kd.V_reads' HFp.out).2.2 (Kd.V_reads' HFp.out).2.1) (rd1_mk (Kd.V_reads' HFq.out).2.2 (Kd.V_reads' HFq.out).2.1) ⟨(Kd.V_reads' HFs.out).2.2, (Kd.V_reads' HFs.out).2.1⟩ HRR.out).mono ?_); rintro e w17 ⟨rfl, hb⟩; have BZ17 := Aside0.mk (blk_below BZ15.out hb); have BM17 := Aside0.mk (blk_below BM15.out hb); have HB17 := Aside0.mk (below_step HB15.out hb); have HFp17 := Aside0.mk (Kd.V_below HFp.out hb); have HFq17 := Aside0.mk (Kd.V_below HFq.out hb); have HFs17 := Aside0.mk (Kd.V_below HFs.out hb); clear hm0 hm1 hm2 hm3 hm4 hm5 hm6; have hm0 : w17.cell? ⟨gm, 0, none⟩ = some (.int .i64 a0) := (blk_cell BM17.out 0).trans rfl; have hm1 : w17.cell? ⟨gm, 1, none⟩ = some (.int .i64 a1) := (blk_cell BM17.out 1).trans rfl; have hm2 : w17.cell? ⟨gm, 2, none⟩ = some (.int .i64 a2) := (blk_cell BM17.out 2).trans rfl; have hm3 : w17.cell? ⟨gm, 3, none⟩ = some (.int .i64 a3) := (blk_cell BM17.out 3).trans rfl; have hm4 : w17.cell? ⟨gm, 4, none⟩ = some (.slice Ap p1.length dp) := (blk_cell BM17.out 4).trans rfl; have hm5 : w17.cell? ⟨gm, 5, none⟩ = some (.slice Aq q1.length dq) := (blk_cell BM17.out 5).trans rfl; have hm6 : w17.cell? ⟨gm, 6, none⟩ = some (.slice As s1.length ds) := (blk_cell BM17.out 6).trans rfl; clear BZ15 BM15 HB15 HFp HFq HFs hb hcr)
            | ((with_reducible refine gate_store (t := 25) (p := 2) rfl ?_); refine wpList_store_row rfl 25 (.tmp 2) (.tmp 81) rfl g2 (msgCells [0, 0, 0, 0] nilS nilS nilS) rfl rfl 25 (msgCells [0, 0, 0, 0] nilS nilS nilS) BZ17.out (by kernel_rfl) (by kernel_rfl) (by kernel_rfl) ?_; have BE := Aside0.mk (setRow_heap _ g2 _ (msgCells [0, 0, 0, 0] nilS nilS nilS) _ _ BZ17.out); have HE := Aside0.mk (below_setRow HB17.out HG2.out (msgCells [0, 0, 0, 0] nilS nilS nilS)))
            | ((with_reducible refine gate_store (t := 25) (p := 2) rfl ?_); refine wpList_store_row rfl 25 (.tmp 2) (.tmp 81) rfl g2 (msgCells [0, 0, 0, 0] nilS nilS nilS) rfl rfl 25 (msgCells [0, 0, 0, 0] nilS nilS nilS) BZ15.out (by kernel_rfl) (by kernel_rfl) (by kernel_rfl) ?_; have BE := Aside0.mk (setRow_heap _ g2 _ (msgCells [0, 0, 0, 0] nilS nilS nilS) _ _ BZ15.out); have HE := Aside0.mk (below_setRow HB15.out HG2.out (msgCells [0, 0, 0, 0] nilS nilS nilS)))
            | ((with_reducible refine gate_store (t := 25) (p := 2) rfl ?_); refine wpList_store_row rfl 25 (.tmp 2) (.tmp 81) rfl g2 (msgCells [0, 0, 0, 0] nilS nilS nilS) rfl rfl 25 (msgCells [0, 0, 0, 0] nilS nilS nilS) BZ13.out (by kernel_rfl) (by kernel_rfl) (by kernel_rfl) ?_; have BE := Aside0.mk (setRow_heap _ g2 _ (msgCells [0, 0, 0, 0] nilS nilS nilS) _ _ BZ13.out); have HE := Aside0.mk (below_setRow HB13.out HG2.out (msgCells [0, 0, 0, 0] nilS nilS nilS))))
        all_goals (try rw [Exit.noGoto_ret])
        all_goals exact bodyPost_ret (results_row_tmp rfl _ _ g2 25 (msgCells [0, 0, 0, 0] nilS nilS nilS) (0, 0) _ rfl BE.out Try.underlying25 rfl (by kernel_rfl) (.int .i64 16) rfl) rfl ⟨_, rfl, MsgAt.zero _, HE.out⟩
      · have y2 : decide (0 < (s2.length : Int)) = false := decide_eq_false (by omega)
        have y4 : decide (1048576 < (l0.length : Int)) = false := decide_eq_false (by omega)
        have HRR := Aside0.mk k3
        clear k3
        go_wp2_with (first
          | (go_at_call 28; ((with_reducible refine (HC1.out _ BR9.out HR9.out).mono ?_); rintro e w10 ⟨vp, rfl, ho, ⟨lp', hr, hlp⟩, hk⟩; obtain ⟨Ap, dp, ep⟩ := Kd.R_slice ho; subst ep; have HR10 := Aside0.mk hr; have HLLp := Aside0.mk hlp; have HFp := Aside0.mk (Kd.R_V (base' := 0) (Kd.R_mono (Kd.R_bound ho) (fun k hk => (Nat.le_trans HN9.out hk.2.1 : N0 ≤ k)))); have BR10 := Aside0.mk (show RBox w10 gr g from blk_kept BR9.out hk.kept (by have := HGR.out; show ¬ gr = g; omega)); have BZ10 := Aside0.mk (blk_kept BZ9.out hk.kept (by have := HGG.out; show ¬ g2 = g; omega)); have BM10 := Aside0.mk (blk_kept BM9.out hk.kept (by have := HGR.out; have := HGM.out; show ¬ gm = g; omega)); have HB10 := Aside0.mk (hk.base HB9.out (by have := HG2.out; have := HGG.out; omega)); have HN10 := Aside0.mk (Nat.le_trans HN9.out hk.kept.1); clear HR9 BR9 BZ9 BM9 HB9 hcr ho hr hk hlp))
          | ((with_reducible refine gate_store (t := 22) (p := 47) rfl ?_); refine store_event (t := 22) (p := 47) (v := .tmp 45) (w1 := w10.setCell ⟨gm, 4, none⟩ (.slice Ap p1.length dp)) ?hg ?ho ?hn ?hr ?_; (case ho => rfl); (case hg => rfl); (case hn => rfl); (case hr => (have hy_ := (blk_cell BM10.out 4).trans rfl; have hz_ := blk_frozen BM10.out 4; first | (go_simp; done) | (go_simp; rfl))); intro w11 hw; have BM11 := Aside0.mk (show w11.heap[gm]? = some (.cells (msgCells [a0, a1, a2, a3] (.slice Ap p1.length dp) nilS nilS) 25 (0, 0)) by rw [hw]; exact blk_put BM10.out 4 _ rfl); have BR11 := Aside0.mk (show RBox w11 gr g by rw [hw]; exact blk_far BR10.out (by have := HGM.out; show gr ≠ gm; omega) _); have BZ11 := Aside0.mk (show w11.heap[g2]? = some (.cells (msgCells [0, 0, 0, 0] nilS nilS nilS) 25 (0, 0)) by rw [hw]; exact blk_far BZ10.out (by have := HGM.out; have := HGR.out; have := HGG.out; show g2 ≠ gm; omega) _); have HR11 := Aside0.mk (show Rdr w11 g ok lp' by rw [hw]; exact HR10.out.far (by have := HGM.out; have := HGR.out; show gm ≠ g; omega) (fun k hk => by have := OK2.out k hk; have := HGM.out; have := HGR.out; show k ≠ gm; omega) _); have HB11 := Aside0.mk (show Below w.heap.size w w11 by rw [hw]; exact below_set HB10.out (by have := HG2.out; have := HGG.out; have := HGR.out; have := HGM.out; omega)); have HN11 := Aside0.mk (show N0 ≤ w11.heap.size by rw [hw]; simpa [World.setCell] using HN10.out); have HFpk := Aside0.mk (show Kd.V _ 0 w11 0 (fun k => N0 ≤ k) _ _ by rw [hw]; exact Kd.V_far HFp.out (fun k hk1 => by have := HNG.out; have := HGM.out; show k ≠ gm; omega) _); replace HFp := HFpk; clear HFpk; have hcr := (blk_cell BR11.out 0).trans rfl; clear HR10 BR10 BZ10 BM10 HB10 HN10 hw)
          | (go_at_call 28; ((with_reducible refine (HC2.out (by first | rfl | trivial) _ BR11.out (show Rdr w11 g ok p2 by rw [← (show lp' = p2 by first | exact HLLp.out rfl | exact HLLp.out trivial | exact HLLp.out)]; exact HR11.out)).mono ?_); rintro e w12 ⟨vq, rfl, ho, ⟨lq', hr, hlq⟩, hk⟩; obtain ⟨Aq, dq, eq⟩ := Kd.R_slice ho; subst eq; have HR12 := Aside0.mk hr; have HLLq := Aside0.mk hlq; have HFq := Aside0.mk (Kd.R_V (base' := 0) (Kd.R_mono (Kd.R_bound ho) (fun k hk => (Nat.le_trans HN11.out hk.2.1 : N0 ≤ k)))); have BR12 := Aside0.mk (show RBox w12 gr g from blk_kept BR11.out hk.kept (by have := HGR.out; show ¬ gr = g; omega)); have BZ12 := Aside0.mk (blk_kept BZ11.out hk.kept (by have := HGG.out; show ¬ g2 = g; omega)); have BM12 := Aside0.mk (blk_kept BM11.out hk.kept (by have := HGR.out; have := HGM.out; show ¬ gm = g; omega)); have HB12 := Aside0.mk (hk.base HB11.out (by have := HG2.out; have := HGG.out; omega)); have HN12 := Aside0.mk (Nat.le_trans HN11.out hk.kept.1); have HFpk := Aside0.mk (Kd.V_kept HFp.out hk.kept (fun k hk1 e => by have := HNG.out; change k = g at e; omega)); replace HFp := HFpk; clear HFpk; clear HR11 BR11 BZ11 BM11 HB11 hcr ho hr hk hlq))
          | ((with_reducible refine gate_store (t := 22) (p := 55) rfl ?_); refine store_event (t := 22) (p := 55) (v := .tmp 53) (w1 := w12.setCell ⟨gm, 5, none⟩ (.slice Aq q1.length dq)) ?hg ?ho ?hn ?hr ?_; (case ho => rfl); (case hg => rfl); (case hn => rfl); (case hr => (have hy_ := (blk_cell BM12.out 5).trans rfl; have hz_ := blk_frozen BM12.out 5; first | (go_simp; done) | (go_simp; rfl))); intro w13 hw; have BM13 := Aside0.mk (show w13.heap[gm]? = some (.cells (msgCells [a0, a1, a2, a3] (.slice Ap p1.length dp) (.slice Aq q1.length dq) nilS) 25 (0, 0)) by rw [hw]; exact blk_put BM12.out 5 _ rfl); have BR13 := Aside0.mk (show RBox w13 gr g by rw [hw]; exact blk_far BR12.out (by have := HGM.out; show gr ≠ gm; omega) _); have BZ13 := Aside0.mk (show w13.heap[g2]? = some (.cells (msgCells [0, 0, 0, 0] nilS nilS nilS) 25 (0, 0)) by rw [hw]; exact blk_far BZ12.out (by have := HGM.out; have := HGR.out; have := HGG.out; show g2 ≠ gm; omega) _); have HR13 := Aside0.mk (show Rdr w13 g ok lq' by rw [hw]; exact HR12.out.far (by have := HGM.out; have := HGR.out; show gm ≠ g; omega) (fun k hk => by have := OK2.out k hk; have := HGM.out; have := HGR.out; show k ≠ gm; omega) _); have HB13 := Aside0.mk (show Below w.heap.size w w13 by rw [hw]; exact below_set HB12.out (by have := HG2.out; have := HGG.out; have := HGR.out; have := HGM.out; omega)); have HN13 := Aside0.mk (show N0 ≤ w13.heap.size by rw [hw]; simpa [World.setCell] using HN12.out); have HFpk := Aside0.mk (show Kd.V _ 0 w13 0 (fun k => N0 ≤ k) _ _ by rw [hw]; exact Kd.V_far HFp.out (fun k hk1 => by have := HNG.out; have := HGM.out; show k ≠ gm; omega) _); replace HFp := HFpk; clear HFpk; have HFqk := Aside0.mk (show Kd.V _ 0 w13 0 (fun k => N0 ≤ k) _ _ by rw [hw]; exact Kd.V_far HFq.out (fun k hk1 => by have := HNG.out; have := HGM.out; show k ≠ gm; omega) _); replace HFq := HFqk; clear HFqk; have hcr := (blk_cell BR13.out 0).trans rfl; clear HR12 BR12 BZ12 BM12 HB12 HN12 hw)
          | (go_at_call 29; ((with_reducible refine (HC3.out (by first | rfl | trivial) (by first | rfl | trivial) _ BR13.out (show Rdr w13 g ok q2 by rw [← (show lq' = q2 by first | exact HLLq.out rfl | exact HLLq.out trivial | exact HLLq.out)]; exact HR13.out)).mono ?_); rintro e w14 ⟨vs, rfl, ho, ⟨ls', hr, hls⟩, hk⟩; obtain ⟨As, ds, es⟩ := Kd.R_slice ho; subst es; have HR14 := Aside0.mk hr; have HLLs := Aside0.mk hls; have HFs := Aside0.mk (Kd.R_V (base' := 0) (Kd.R_mono (Kd.R_bound ho) (fun k hk => (Nat.le_trans HN13.out hk.2.1 : N0 ≤ k)))); have BR14 := Aside0.mk (show RBox w14 gr g from blk_kept BR13.out hk.kept (by have := HGR.out; show ¬ gr = g; omega)); have BZ14 := Aside0.mk (blk_kept BZ13.out hk.kept (by have := HGG.out; show ¬ g2 = g; omega)); have BM14 := Aside0.mk (blk_kept BM13.out hk.kept (by have := HGR.out; have := HGM.out; show ¬ gm = g; omega)); have HB14 := Aside0.mk (hk.base HB13.out (by have := HG2.out; have := HGG.out; omega)); have HN14 := Aside0.mk (Nat.le_trans HN13.out hk.kept.1); have HFpk := Aside0.mk (Kd.V_kept HFp.out hk.kept (fun k hk1 e => by have := HNG.out; change k = g at e; omega)); replace HFp := HFpk; clear HFpk; have HFqk := Aside0.mk (Kd.V_kept HFq.out hk.kept (fun k hk1 e => by have := HNG.out; change k = g at e; omega)); replace HFq := HFqk; clear HFqk; clear HR13 BR13 BZ13 BM13 HB13 hcr ho hr hk hls))
          | ((with_reducible refine gate_store (t := 23) (p := 63) rfl ?_); refine store_event (t := 23) (p := 63) (v := .tmp 61) (w1 := w14.setCell ⟨gm, 6, none⟩ (.slice As s1.length ds)) ?hg ?ho ?hn ?hr ?_; (case ho => rfl); (case hg => rfl); (case hn => rfl); (case hr => (have hy_ := (blk_cell BM14.out 6).trans rfl; have hz_ := blk_frozen BM14.out 6; first | (go_simp; done) | (go_simp; rfl))); intro w15 hw; have BM15 := Aside0.mk (show w15.heap[gm]? = some (.cells (msgCells [a0, a1, a2, a3] (.slice Ap p1.length dp) (.slice Aq q1.length dq) (.slice As s1.length ds)) 25 (0, 0)) by rw [hw]; exact blk_put BM14.out 6 _ rfl); have BR15 := Aside0.mk (show RBox w15 gr g by rw [hw]; exact blk_far BR14.out (by have := HGM.out; show gr ≠ gm; omega) _); have BZ15 := Aside0.mk (show w15.heap[g2]? = some (.cells (msgCells [0, 0, 0, 0] nilS nilS nilS) 25 (0, 0)) by rw [hw]; exact blk_far BZ14.out (by have := HGM.out; have := HGR.out; have := HGG.out; show g2 ≠ gm; omega) _); have HR15 := Aside0.mk (show Rdr w15 g ok ls' by rw [hw]; exact HR14.out.far (by have := HGM.out; have := HGR.out; show gm ≠ g; omega) (fun k hk => by have := OK2.out k hk; have := HGM.out; have := HGR.out; show k ≠ gm; omega) _); have HB15 := Aside0.mk (show Below w.heap.size w w15 by rw [hw]; exact below_set HB14.out (by have := HG2.out; have := HGG.out; have := HGR.out; have := HGM.out; omega)); have HN15 := Aside0.mk (show N0 ≤ w15.heap.size by rw [hw]; simpa [World.setCell] using HN14.out); have HFpk := Aside0.mk (show Kd.V _ 0 w15 0 (fun k => N0 ≤ k) _ _ by rw [hw]; exact Kd.V_far HFp.out (fun k hk1 => by have := HNG.out; have := HGM.out; show k ≠ gm; omega) _); replace HFp := HFpk; clear HFpk; have HFqk := Aside0.mk (show Kd.V _ 0 w15 0 (fun k => N0 ≤ k) _ _ by rw [hw]; exact Kd.V_far HFq.out (fun k hk1 => by have := HNG.out; have := HGM.out; show k ≠ gm; omega) _); replace HFq := HFqk; clear HFqk; have HFsk := Aside0.mk (show Kd.V _ 0 w15 0 (fun k => N0 ≤ k) _ _ by rw [hw]; exact Kd.V_far HFs.out (fun k hk1 => by have := HNG.out; have := HGM.out; show k ≠ gm; omega) _); replace HFs := HFsk; clear HFsk; have hcr := (blk_cell BR15.out 0).trans rfl; have hm0 : w15.cell? ⟨gm, 0, none⟩ = some (.int .i64 a0) := (blk_cell BM15.out 0).trans rfl; have hm1 : w15.cell? ⟨gm, 1, none⟩ = some (.int .i64 a1) := (blk_cell BM15.out 1).trans rfl; have hm2 : w15.cell? ⟨gm, 2, none⟩ = some (.int .i64 a2) := (blk_cell BM15.out 2).trans rfl; have hm3 : w15.cell? ⟨gm, 3, none⟩ = some (.int .i64 a3) := (blk_cell BM15.out 3).trans rfl; have hm4 : w15.cell? ⟨gm, 4, none⟩ = some (.slice Ap p1.length dp) := (blk_cell BM15.out 4).trans rfl; have hm5 : w15.cell? ⟨gm, 5, none⟩ = some (.slice Aq q1.length dq) := (blk_cell BM15.out 5).trans rfl; have hm6 : w15.cell? ⟨gm, 6, none⟩ = some (.slice As s1.length ds) := (blk_cell BM15.out 6).trans rfl; clear HR14 BR14 BZ14 BM14 HB14 HN14 hw)
          | (go_at_call 30; (with_reducible refine (codec_left.calls g s2 ok _ (show Rdr w15 g ok s2 by rw [← (show ls' = s2 by first | exact HLLs.out rfl | exact HLLs.out trivial | exact HLLs.out)]; exact HR15.out)).mono ?_); rintro e w16 ⟨rfl, rfl⟩)
          | (go_at_call 12; (with_reducible refine (wire_Right.call7 a0 a1 a2 a3 Ap dp p1 Aq dq q1 As ds s1 _ _ (rd1_mk (Kd.V_reads' HFp.out).2.2 (Kd.V_reads' HFp.out).2.1) (rd1_mk (Kd.V_reads' HFq.out).2.2 (Kd.V_reads' HFq.out).2.1) ⟨(Kd.V_reads' HFs.out).2.2, (Kd.V_reads' HFs.out).2.1⟩ HRR.out).mono ?_); rintro e w17 ⟨rfl, hb⟩; have BZ17 := Aside0.mk (blk_below BZ15.out hb); have BM17 := Aside0.mk (blk_below BM15.out hb); have HB17 := Aside0.mk (below_step HB15.out hb); have HFp17 := Aside0.mk (Kd.V_below HFp.out hb); have HFq17 := Aside0.mk (Kd.V_below HFq.out hb); have HFs17 := Aside0.mk (Kd.V_below HFs.out hb); clear hm0 hm1 hm2 hm3 hm4 hm5 hm6; have hm0 : w17.cell? ⟨gm, 0, none⟩ = some (.int .i64 a0) := (blk_cell BM17.out 0).trans rfl; have hm1 : w17.cell? ⟨gm, 1, none⟩ = some (.int .i64 a1) := (blk_cell BM17.out 1).trans rfl; have hm2 : w17.cell? ⟨gm, 2, none⟩ = some (.int .i64 a2) := (blk_cell BM17.out 2).trans rfl; have hm3 : w17.cell? ⟨gm, 3, none⟩ = some (.int .i64 a3) := (blk_cell BM17.out 3).trans rfl; have hm4 : w17.cell? ⟨gm, 4, none⟩ = some (.slice Ap p1.length dp) := (blk_cell BM17.out 4).trans rfl; have hm5 : w17.cell? ⟨gm, 5, none⟩ = some (.slice Aq q1.length dq) := (blk_cell BM17.out 5).trans rfl; have hm6 : w17.cell? ⟨gm, 6, none⟩ = some (.slice As s1.length ds) := (blk_cell BM17.out 6).trans rfl; clear BZ15 BM15 HB15 HFp HFq HFs hb hcr)
          | ((with_reducible refine gate_store (t := 25) (p := 2) rfl ?_); refine wpList_store_row rfl 25 (.tmp 2) (.tmp 82) rfl g2 (msgCells [a0, a1, a2, a3] (.slice Ap p1.length dp) (.slice Aq q1.length dq) (.slice As s1.length ds)) rfl rfl 25 (msgCells [0, 0, 0, 0] nilS nilS nilS) BZ17.out msg_info rfl (msg_one _ _ _ _ _ _ _ rfl rfl rfl) ?_; have BE := Aside0.mk (setRow_heap _ g2 _ (msgCells [a0, a1, a2, a3] (.slice Ap p1.length dp) (.slice Aq q1.length dq) (.slice As s1.length ds)) _ _ BZ17.out); have HE := Aside0.mk (below_setRow HB17.out HG2.out (msgCells [a0, a1, a2, a3] (.slice Ap p1.length dp) (.slice Aq q1.length dq) (.slice As s1.length ds)))))
        (try rw [Exit.noGoto_ret])
        have HS := fun (w9 : World) (k : Nat) (hk : N0 ≤ k) => setRow_other w9 g2 k (msgCells [a0, a1, a2, a3] (.slice Ap p1.length dp) (.slice Aq q1.length dq) (.slice As s1.length ds)) (by have := HNG.out; omega)
        exact bodyPost_ret (results_row_tmp rfl _ _ g2 25 (msgCells [a0, a1, a2, a3] (.slice Ap p1.length dp) (.slice Aq q1.length dq) (.slice As s1.length ds)) (0, 0) _ rfl BE.out Try.underlying25 rfl msg_info (.int .i64 0) rfl) rfl ⟨_, rfl, ⟨Ap, dp, Aq, dq, As, ds, rfl, ⟨(Kd.V_reads' (Kd.V_step HFp17.out (fun k hk _ => HS _ k hk))).2.2, (Kd.V_reads' HFp17.out).2.1⟩, ⟨(Kd.V_reads' (Kd.V_step HFq17.out (fun k hk _ => HS _ k hk))).2.2, (Kd.V_reads' HFq17.out).2.1⟩, (Kd.V_reads' (Kd.V_step HFs17.out (fun k hk _ => HS _ k hk))).2.2, (Kd.V_reads' HFs17.out).2.1⟩, HE.out⟩
end Go.Proofs.Ytanmfddlncdncab.F
end
section
namespace Go.Proofs.Ytanmfddlncdncab.F
open Go.RowKit Go.Proofs.YtanmfddlncdncabW.PrintWords Go.Proofs.YtanmfddlncdncabW.PrintLast Go.Proofs.YtanmfddlncdncabW.PrintMore
attribute [local go_sem] max2_int min2_int max_two min_two max_three min_three max_four min_four
set_option linter.unusedVariables false
set_option linter.unusedSimpArgs false
mutual
def windbreakref01_In.l0 : Nat → List Int → List Int → Int → Option (List Int)
 | 0, _, _, _ => none
 | k + 1, x0, x3, x4 => if x4 < (x0.length : Int) then (if 0 ≤ x4 then (windbreakref01_In.l1 k x0 x3 x4 (rd x0 x4) 0) else (none)) else ((windbreakref01_cut.f k x3).bind fun t161 => (some t161))
def windbreakref01_In.l1 : Nat → List Int → List Int → Int → Int → Int → Option (List Int)
 | 0, _, _, _, _, _ => none
 | k + 1, x0, x3, x4, x5, x6 => if x6 < 4 then (if x3.length < 17592186044416 then (windbreakref01_In.l1 k x0 (x3 ++ [Int.tmod x5 65536]) x4 (IntKind.u64.wrap (Int.tdiv x5 65536)) (wrap64 (x6 + 1))) else (none)) else (windbreakref01_In.l0 k x0 x3 (wrap64 (x4 + 1)))
end
def windbreakref01_In.f (k : Nat) (l0 : List Int) : Option (List Int) := windbreakref01_In.l0 k l0 ([] : List Int) 0
set_option maxHeartbeats 8000000 in
set_option maxRecDepth 100000 in
theorem windbreakref01_In.calls (k : Nat) (A0 : Option Addr) (c0 : Nat) (l0 : List Int) (r : List Int) (w : World) (hr0 : Kd.C (Kd.int .u64) w A0 l0.length l0) (hc0 : l0.length ≤ c0) (h : windbreakref01_In.f k l0 = some r) :
  Calls Try.prog 46 #[.slice A0 l0.length c0] w fun e w' => ∃ v0_ : Value, e = .returned (v0_) ∧ Kd.R (Kd.int .u64) 37 w' w.heap.size (fun _ => True) v0_ r ∧ Below w.heap.size w w' := by
 have HR0 := Aside0.mk hr0; have HC0 := Aside0.mk hc0; clear hr0 hc0
 have HB := Aside0.mk (Below.refl w.heap.size w)
 have H : (windbreakref01_In.l0 k l0 ([] : List Int) 0) = some r := h
 clear h
 have H' := Aside0.mk H
 clear H
 go_enter Try.func46, Try.ntmps46
 go_wp2
 go_loopg [3, 4] k (fun kq v3 v4 w' => ∃ (x3_1 : List Int) (x4_1 : Int), v4 = .int .i64 x4_1 ∧ Aside0 (windbreakref01_In.l0 kq l0 x3_1 x4_1 = some r) ∧ Aside0 (kq ≤ k) ∧ Aside0 (Kd.R (Kd.int .u64) 37 w' w.heap.size (fun _ => True) v3 x3_1) ∧ Aside0 (Below w.heap.size w w'))
 case atStart => exact ⟨(([] : List Int)), (0), uG, H', ⟨Nat.le_refl _⟩, ⟨by first | exact Kd.R_nil _ _ _ _ _ | exact Kd.N_nil _ _ _ _ _ | exact Kd.V_nil _ _ _ _ _ | exact Kd.Q_nil _ _ _ _ _ | exact Kd.S_nil _ _ _ _ _⟩, ⟨uB⟩⟩
 case round =>
  clear H'
  obtain ⟨x3_1, x4_1, rfl, HA, HK1, HO_3, HB⟩ := hrel
  cases gk with
  | zero => exact absurd HA.out (by simp [windbreakref01_In.l0])
  | succ k1 =>
   have H := HA.out
   clear HA
   simp only [windbreakref01_In.l0] at H
   by_cases c2 : x4_1 < (l0.length : Int)
   ·
    rw [if_pos c2] at H
    have c2b0 : decide (x4_1 < (l0.length : Int)) = true := decide_eq_true c2
    clear c2
    replace H := uT H; obtain ⟨c3, H⟩ := H
    have c3b0 : decide (0 ≤ x4_1) = true := decide_eq_true c3
    clear c3
    have H' := Aside0.mk H
    clear H
    have p164 : 0 ≤ (x4_1 : Int) := uO
    have q164 : x4_1 < (l0.length : Int) := uO
    obtain ⟨ad164, e164, hx164_0⟩ := Kd.at_int HR0.out x4_1 p164 q164
    cases e164
    replace hx164_0 := (HB.out.cell (World.block_lt_of_cell? w _ hx164_0)).trans hx164_0
    replace p164 := eq_true p164
    replace q164 := eq_true q164
    go_wp2
    go_loopg [3, 5, 6] k1 (fun kq v3 v5 v6 w' => ∃ (x3_2 : List Int) (x5_2 : Int) (x6_2 : Int), v5 = .int .u64 x5_2 ∧ v6 = .int .i64 x6_2 ∧ Aside0 (windbreakref01_In.l1 kq l0 x3_2 x4_1 x5_2 x6_2 = some r) ∧ Aside0 (kq ≤ k1) ∧ Aside0 (Kd.R (Kd.int .u64) 37 w' w.heap.size (fun _ => True) v3 x3_2) ∧ Aside0 (Below w.heap.size w w'))
    case atStart => exact ⟨(x3_1), (rd l0 x4_1), (0), uG, uG, H', ⟨Nat.le_refl _⟩, ⟨uR HO_3.out⟩, ⟨uB⟩⟩
    case round =>
     clear H'
     (try clear p1); (try clear q1); (try clear hx1); (try clear c2); (try clear c2b0); (try clear p2); (try clear c3); (try clear c3b0); (try clear hx164_0); (try clear p164); (try clear q164)
     obtain ⟨x3_2, x5_2, x6_2, rfl, rfl, HA, HK2, HO_3, HB⟩ := hrel
     cases gk with
     | zero => exact absurd HA.out (by simp [windbreakref01_In.l1])
     | succ k2 =>
      have H := HA.out
      clear HA
      simp only [windbreakref01_In.l1] at H
      by_cases c4 : x6_2 < 4
      ·
       rw [if_pos c4] at H
       have c4b0 : decide (x6_2 < 4) = true := decide_eq_true c4
       clear c4
       replace H := uT H; obtain ⟨c5, H⟩ := H
       have LMc5 := Aside0.mk c5; clear c5
       obtain ⟨y165, hy165⟩ : ∃ y_ : List Int, y_ = (x3_2 ++ [Int.tmod x5_2 65536]) := ⟨_, rfl⟩
       replace H : (windbreakref01_In.l1 k2 l0 y165 x4_1 (IntKind.u64.wrap (Int.tdiv x5_2 65536)) (wrap64 (x6_2 + 1))) = some r := by first | (rw [hy165]; with_reducible exact H) | (have H2_ := (Option.bind_some _ _).symm.trans H; rw [hy165]; with_reducible exact H2_) | (have H2_ := (Option.bind_some _ _).symm.trans H; with_reducible exact H2_) | with_reducible exact H | (rw [hy165]; exact H) | exact H
       have Ny165 := Aside0.mk hy165; clear hy165
       have H' := Aside0.mk H
       clear H
       go_wp2_with (first | ((with_reducible refine gate_builtin (b := .append) (xs := #[.tmp 21, .tmp 24]) rfl ?_); at_builtin; refine Kd.R_append (Kd.int .u64) (w0 := w) w.heap.size rfl (.tmp 21) (.tmp 24) 80 37 (.int .u64 0) 8 rfl Try.underlying80 info37 rfl (by decide) (by omega) u3 x3_2 (Int.tmod x5_2 65536) [.int .u64 (Int.tmod x5_2 65536)] (fun _ => True) (fun _ => False) rfl rfl ?aP (fun _ hk => hk.elim) ?aF ?aO ?aB ?aS ?aL ?_; (case aP => exact rfl); (case aB => exact uB); (case aF => exact (fun _ _ => trivial)); (case aO => exact (uR HO_3.out)); (case aS => exact (below_size uB)); (case aL => have := LMc5.out; omega); intro v166 w6 ho hb hg hat; rw [← Ny165.out] at ho; replace HB := Aside0.mk (hb); have HO167 := Aside0.mk (ho); clear HO_3; clear ho hb hg hat))
       go_roundg k2
       case measure => have := HK1.out; have := HK2.out; omega
       case rel => exact ⟨(y165), (IntKind.u64.wrap (Int.tdiv x5_2 65536)), (wrap64 (x6_2 + 1)), uG, uG, H', ⟨by have := HK1.out; have := HK2.out; omega⟩, ⟨uR HO167.out⟩, ⟨uB⟩⟩
      rw [if_neg c4] at H
      have c4b0 : decide (x6_2 < 4) = false := decide_eq_false c4
      clear c4
      have H' := Aside0.mk H
      clear H
      go_wp2
      go_roundg k2
      case measure => have := HK1.out; have := HK2.out; omega
      case rel => exact ⟨(x3_2), (wrap64 (x4_1 + 1)), uG, H', ⟨by have := HK1.out; have := HK2.out; omega⟩, ⟨uR HO_3.out⟩, ⟨uB⟩⟩
   rw [if_neg c2] at H
   have c2b0 : decide (x4_1 < (l0.length : Int)) = false := decide_eq_false c2
   clear c2
   replace H := ub H; obtain ⟨t161, A7, H⟩ := H
   obtain rfl := Option.some.inj H
   obtain ⟨Ao8, co8, eo8⟩ := Kd.R_slice HO_3.out
   subst eo8
   go_wp2_with (first | ((with_reducible refine gate_callee (f := 54) rfl ?_); refine goesL_ (some 29) rfl rfl Try.func54 (by kernel_rfl) rfl #[.slice Ao8 x3_1.length co8] rfl uM ?_; (with_reducible refine (windbreakref01_cut.calls k1 (fun k_ => some k_ = (.slice Ao8 x3_1.length co8 : Value).ownBlock) (.slice Ao8 x3_1.length co8) x3_1 t161 w _ ?side1 ?side2 A7.out).mono ?_); (case side1 => repeat (first | (with_reducible first | exact HB.out | apply below_alloc | apply pw_below_drewN | apply below_drew1) | exact HB.out)); (case side2 => exact Kd.R_tight rfl HO_3.out); rintro e w9 ⟨v162, rfl, ho0, hb, hkp⟩; refine ⟨_, rfl, ?_⟩; have HO163 := Aside0.mk (Kd.R_mono (ok' := fun k_ => True) ho0 (fun k_ hk_ => trivial)); replace HB := Aside0.mk (hb); clear HO_3; (try clear hb); (try clear hkp); (try clear ho0)))
   go_ret
   exact ⟨_, uF, uR HO163.out, uB⟩
end Go.Proofs.Ytanmfddlncdncab.F
end
section
namespace Go.Proofs.Ytanmfddlncdncab.F
open Go.RowKit Go.Proofs.YtanmfddlncdncabW.PrintWords Go.Proofs.YtanmfddlncdncabW.PrintLast Go.Proofs.YtanmfddlncdncabW.PrintMore
attribute [local go_sem] max2_int min2_int max_two min_two max_three min_three max_four min_four
set_option linter.unusedVariables false
set_option linter.unusedSimpArgs false
def windbreakref01_Bytes.l0 : Nat → List Int → List Int → Int → Option (List Int)
 | 0, _, _, _ => none
 | k + 1, x4, x5, x6 => if x6 ≥ 0 then (if (x5.length : Int) > 0 then (if 0 ≤ x6 then (if x6 < (x4.length : Int) then (if x5.length < 140737488355328 then ((some (x5 ++ [(IntKind.u64.wrap (Int.tdiv (rd x4 x6) 256)) % 256] : List Int)).bind fun y173 => (if y173.length < 140737488355328 then (windbreakref01_Bytes.l0 k x4 (y173 ++ [(Int.tmod (rd x4 x6) 256) % 256]) (wrap64 (x6 - 1))) else (none))) else (none)) else (none)) else (none)) else (if 0 ≤ x6 then (if x6 < (x4.length : Int) then (if (rd x4 x6) > 255 then (if x5.length < 140737488355328 then ((some (x5 ++ [(IntKind.u64.wrap (Int.tdiv (rd x4 x6) 256)) % 256] : List Int)).bind fun y182 => (if y182.length < 140737488355328 then (windbreakref01_Bytes.l0 k x4 (y182 ++ [(Int.tmod (rd x4 x6) 256) % 256]) (wrap64 (x6 - 1))) else (none))) else (none)) else (if x5.length < 140737488355328 then (windbreakref01_Bytes.l0 k x4 (x5 ++ [(Int.tmod (rd x4 x6) 256) % 256]) (wrap64 (x6 - 1))) else (none))) else (none)) else (none))) else (some x5)
def windbreakref01_Bytes.f (k : Nat) (l0 : List Int) : Option (List Int) := (windbreakref01_Right.f l0).bind fun t168 => (if t168 = true then ((windbreakref01_In.f k l0).bind fun t169 => (windbreakref01_Bytes.l0 k t169 ([] : List Int) (wrap64 ((t169.length : Int) - 1)))) else (some ([] : List Int)))
set_option maxHeartbeats 8000000 in
set_option maxRecDepth 100000 in
theorem windbreakref01_Bytes.calls (k : Nat) (A0 : Option Addr) (c0 : Nat) (l0 : List Int) (r : List Int) (w : World) (hr0 : Kd.C (Kd.int .u64) w A0 l0.length l0) (hc0 : l0.length ≤ c0) (h : windbreakref01_Bytes.f k l0 = some r) :
  Calls Try.prog 21 #[.slice A0 l0.length c0] w fun e w' => ∃ v0_ : Value, e = .returned (v0_) ∧ Kd.R (Kd.int .u8) 5 w' w.heap.size (fun _ => True) v0_ r ∧ Below w.heap.size w w' := by
 have HR0 := Aside0.mk hr0; have HC0 := Aside0.mk hc0; clear hr0 hc0
 have HB := Aside0.mk (Below.refl w.heap.size w)
 have H : ((windbreakref01_Right.f l0).bind fun t168 => (if t168 = true then ((windbreakref01_In.f k l0).bind fun t169 => (windbreakref01_Bytes.l0 k t169 ([] : List Int) (wrap64 ((t169.length : Int) - 1)))) else (some ([] : List Int)))) = some r := h
 clear h
 replace H := ub H; obtain ⟨t168, A2, H⟩ := H
 by_cases c3 : t168 = true
 ·
  subst c3
  have H1 : ((windbreakref01_In.f k l0).bind fun t169 => (windbreakref01_Bytes.l0 k t169 ([] : List Int) (wrap64 ((t169.length : Int) - 1)))) = some r := by rw [if_pos rfl] at H; exact H
  clear H; have H := H1; clear H1
  replace H := ub H; obtain ⟨t169, A4, H⟩ := H
  have H' := Aside0.mk H
  clear H
  go_enter Try.func21, Try.ntmps21
  go_wp2_with (first | ((with_reducible refine gate_callee (f := 45) rfl ?_); refine goesL_ (some 8) rfl rfl Try.func45 (by kernel_rfl) rfl #[.slice A0 l0.length c0] rfl uM ?_; (with_reducible refine (windbreakref01_Right.calls _ _ l0 true _ ?side1 ?side2 A2.out).mono ?_); (case side1 => exact uC HR0.out); (case side2 => exact HC0.out); rintro e w' ⟨rfl, ⟨nd, rfl⟩⟩; refine ⟨_, rfl, ?_⟩) | ((with_reducible refine gate_callee (f := 46) rfl ?_); refine goesL_ (some 12) rfl rfl Try.func46 (by kernel_rfl) rfl #[.slice A0 l0.length c0] rfl uM ?_; (with_reducible refine (windbreakref01_In.calls k _ _ l0 t169 _ ?side1 ?side2 A4.out).mono ?_); (case side1 => exact uC HR0.out); (case side2 => exact HC0.out); rintro e w5 ⟨v170, rfl, ho0, hb⟩; refine ⟨_, rfl, ?_⟩; have HO171 := Aside0.mk (Kd.R_lower ho0 (below_size uB)); replace HB := uy hb; (try clear hb ho0); obtain ⟨Ao6, co6, eo6⟩ := Kd.R_slice HO171.out; subst eo6))
  go_loopg [5, 6] k (fun kq v5 v6 w' => ∃ (x5_1 : List Int) (x6_1 : Int), v6 = .int .i64 x6_1 ∧ Aside0 (windbreakref01_Bytes.l0 kq t169 x5_1 x6_1 = some r) ∧ Aside0 (kq ≤ k) ∧ Aside0 (Kd.R (Kd.int .u64) 37 w' w.heap.size (fun _ => True) (.slice Ao6 t169.length co6) t169) ∧ Aside0 (Kd.R (Kd.int .u8) 5 w' w.heap.size (fun _ => True) v5 x5_1) ∧ Aside0 (Below w.heap.size w w'))
  case atStart => exact ⟨(([] : List Int)), (wrap64 ((t169.length : Int) - 1)), uG, H', ⟨Nat.le_refl _⟩, ⟨uR HO171.out⟩, ⟨by first | exact Kd.R_nil _ _ _ _ _ | exact Kd.N_nil _ _ _ _ _ | exact Kd.V_nil _ _ _ _ _ | exact Kd.Q_nil _ _ _ _ _ | exact Kd.S_nil _ _ _ _ _⟩, ⟨uB⟩⟩
  case round =>
   clear H'
   (try clear c2); (try clear p2); (try clear c3); (try clear c4); (try clear p6)
   obtain ⟨x5_1, x6_1, rfl, HA, HK1, HO_4, HO_5, HB⟩ := hrel
   cases gk with
   | zero => exact absurd HA.out (by simp [windbreakref01_Bytes.l0])
   | succ k1 =>
    have H := HA.out
    clear HA
    simp only [windbreakref01_Bytes.l0] at H
    by_cases c7 : x6_1 ≥ 0
    ·
     rw [if_pos c7] at H
     have c7b0 : decide (0 ≤ x6_1) = true := decide_eq_true c7
     clear c7
     by_cases c8 : (x5_1.length : Int) > 0
     ·
      rw [if_pos c8] at H
      have c8b0 : decide (0 < (x5_1.length : Int)) = true := decide_eq_true c8
      have c8b1 : decide (0 < x5_1.length) = true := decide_eq_true (by omega)
      clear c8
      replace H := uT H; obtain ⟨c9, H⟩ := H
      have c9b0 : decide (0 ≤ x6_1) = true := decide_eq_true c9
      clear c9
      replace H := uT H; obtain ⟨c10, H⟩ := H
      have c10b0 : decide (x6_1 < (t169.length : Int)) = true := decide_eq_true c10
      clear c10
      replace H := uT H; obtain ⟨c11, H⟩ := H
      have LMc11 := Aside0.mk c11; clear c11
      obtain ⟨y173, hy173⟩ : ∃ y_ : List Int, y_ = (x5_1 ++ [(IntKind.u64.wrap (Int.tdiv (rd t169 x6_1) 256)) % 256]) := ⟨_, rfl⟩
      replace H : (if y173.length < 140737488355328 then (windbreakref01_Bytes.l0 k1 t169 (y173 ++ [(Int.tmod (rd t169 x6_1) 256) % 256]) (wrap64 (x6_1 - 1))) else (none)) = some r := by first | (rw [hy173]; with_reducible exact H) | (have H2_ := (Option.bind_some _ _).symm.trans H; rw [hy173]; with_reducible exact H2_) | (have H2_ := (Option.bind_some _ _).symm.trans H; with_reducible exact H2_) | with_reducible exact H | (rw [hy173]; exact H) | exact H
      have Ny173 := Aside0.mk hy173; clear hy173
      replace H := uT H; obtain ⟨c12, H⟩ := H
      have LMc12 := Aside0.mk c12; clear c12
      obtain ⟨y177, hy177⟩ : ∃ y_ : List Int, y_ = (y173 ++ [(Int.tmod (rd t169 x6_1) 256) % 256]) := ⟨_, rfl⟩
      replace H : (windbreakref01_Bytes.l0 k1 t169 y177 (wrap64 (x6_1 - 1))) = some r := by first | (rw [hy177]; with_reducible exact H) | (have H2_ := (Option.bind_some _ _).symm.trans H; rw [hy177]; with_reducible exact H2_) | (have H2_ := (Option.bind_some _ _).symm.trans H; with_reducible exact H2_) | with_reducible exact H | (rw [hy177]; exact H) | exact H
      have Ny177 := Aside0.mk hy177; clear hy177
      have H' := Aside0.mk H
      clear H
      obtain ⟨Ao13, co13, eo13⟩ := Kd.R_slice HO_5.out
      subst eo13
      have p172 : 0 ≤ (x6_1 : Int) := uO
      have q172 : x6_1 < (t169.length : Int) := uO
      obtain ⟨ad172, e172, hx172_0⟩ := Kd.at_int (Kd.R_reads' HO_4.out).2.2 x6_1 p172 q172
      cases e172
      replace p172 := eq_true p172
      replace q172 := eq_true q172
      go_wp2_with (first | ((with_reducible refine gate_builtin (b := .append) (xs := #[.tmp 30, .tmp 37]) rfl ?_); at_builtin; refine Kd.R_append (Kd.int .u8) (w0 := w) w.heap.size rfl (.tmp 30) (.tmp 37) 27 5 (.int .u8 0) 1 rfl Try.underlying27 info5 rfl (by decide) (by omega) (.slice Ao13 x5_1.length co13) x5_1 ((IntKind.u64.wrap (Int.tdiv (rd t169 x6_1) 256)) % 256) [.int .u8 ((IntKind.u64.wrap (Int.tdiv (rd t169 x6_1) 256)) % 256)] (fun _ => True) (fun _ => False) rfl rfl ?aP (fun _ hk => hk.elim) ?aF ?aO ?aB ?aS ?aL ?_; (case aP => exact rfl); (case aB => exact uB); (case aF => exact (fun _ _ => trivial)); (case aO => exact (uR HO_5.out)); (case aS => exact (below_size uB)); (case aL => have := LMc11.out; omega); intro v174 w14 ho hb hg hat; rw [← Ny173.out] at ho; replace HO_4 := Aside0.mk (Kd.R_over' (uR HO_4.out) (Kd.R_typed (uR HO_5.out)) (by decide) hg); replace HB := Aside0.mk (hb); have HO175 := Aside0.mk (ho); clear HO_5; clear ho hb hg hat; have p176 : 0 ≤ (x6_1 : Int) := uO; have q176 : x6_1 < (t169.length : Int) := uO; obtain ⟨ad176, e176, hx176_0⟩ := Kd.at_int (Kd.R_reads' HO_4.out).2.2 x6_1 p176 q176; obtain rfl : ad172 = ad176 := (by injection e176); replace p176 := eq_true p176; replace q176 := eq_true q176) | ((with_reducible refine gate_builtin (b := .append) (xs := #[.tmp 39, .tmp 46]) rfl ?_); at_builtin; refine Kd.R_append (Kd.int .u8) (w0 := w) w.heap.size rfl (.tmp 39) (.tmp 46) 27 5 (.int .u8 0) 1 rfl Try.underlying27 info5 rfl (by decide) (by omega) v174 y173 ((Int.tmod (rd t169 x6_1) 256) % 256) [.int .u8 ((Int.tmod (rd t169 x6_1) 256) % 256)] (fun _ => True) (fun _ => False) rfl rfl ?aP (fun _ hk => hk.elim) ?aF ?aO ?aB ?aS ?aL ?_; (case aP => exact rfl); (case aB => exact uB); (case aF => exact (fun _ _ => trivial)); (case aO => exact (uR HO175.out)); (case aS => exact (below_size uB)); (case aL => have := LMc12.out; omega); intro v178 w15 ho hb hg hat; rw [← Ny177.out] at ho; replace HO_4 := Aside0.mk (Kd.R_over' (uR HO_4.out) (Kd.R_typed (uR HO175.out)) (by decide) hg); replace HB := Aside0.mk (hb); have HO179 := Aside0.mk (ho); clear HO175; clear ho hb hg hat))
      go_roundg k1
      case measure => have := HK1.out; omega
      case rel => exact ⟨(y177), (wrap64 (x6_1 - 1)), uG, H', ⟨by have := HK1.out; omega⟩, ⟨uR HO_4.out⟩, ⟨uR HO179.out⟩, ⟨uB⟩⟩
     rw [if_neg c8] at H
     have c8b0 : decide (0 < (x5_1.length : Int)) = false := decide_eq_false c8
     have c8b1 : decide (0 < x5_1.length) = false := decide_eq_false (by omega)
     clear c8
     replace H := uT H; obtain ⟨c16, H⟩ := H
     have c16b0 : decide (0 ≤ x6_1) = true := decide_eq_true c16
     clear c16
     replace H := uT H; obtain ⟨c17, H⟩ := H
     have c17b0 : decide (x6_1 < (t169.length : Int)) = true := decide_eq_true c17
     clear c17
     by_cases c18 : (rd t169 x6_1) > 255
     ·
      rw [if_pos c18] at H
      have c18b0 : decide (255 < (rd t169 x6_1)) = true := decide_eq_true c18
      clear c18
      replace H := uT H; obtain ⟨c19, H⟩ := H
      have LMc19 := Aside0.mk c19; clear c19
      obtain ⟨y182, hy182⟩ : ∃ y_ : List Int, y_ = (x5_1 ++ [(IntKind.u64.wrap (Int.tdiv (rd t169 x6_1) 256)) % 256]) := ⟨_, rfl⟩
      replace H : (if y182.length < 140737488355328 then (windbreakref01_Bytes.l0 k1 t169 (y182 ++ [(Int.tmod (rd t169 x6_1) 256) % 256]) (wrap64 (x6_1 - 1))) else (none)) = some r := by first | (rw [hy182]; with_reducible exact H) | (have H2_ := (Option.bind_some _ _).symm.trans H; rw [hy182]; with_reducible exact H2_) | (have H2_ := (Option.bind_some _ _).symm.trans H; with_reducible exact H2_) | with_reducible exact H | (rw [hy182]; exact H) | exact H
      have Ny182 := Aside0.mk hy182; clear hy182
      replace H := uT H; obtain ⟨c20, H⟩ := H
      have LMc20 := Aside0.mk c20; clear c20
      obtain ⟨y186, hy186⟩ : ∃ y_ : List Int, y_ = (y182 ++ [(Int.tmod (rd t169 x6_1) 256) % 256]) := ⟨_, rfl⟩
      replace H : (windbreakref01_Bytes.l0 k1 t169 y186 (wrap64 (x6_1 - 1))) = some r := by first | (rw [hy186]; with_reducible exact H) | (have H2_ := (Option.bind_some _ _).symm.trans H; rw [hy186]; with_reducible exact H2_) | (have H2_ := (Option.bind_some _ _).symm.trans H; with_reducible exact H2_) | with_reducible exact H | (rw [hy186]; exact H) | exact H
      have Ny186 := Aside0.mk hy186; clear hy186
      have H' := Aside0.mk H
      clear H
      obtain ⟨Ao21, co21, eo21⟩ := Kd.R_slice HO_5.out
      subst eo21
      have p180 : 0 ≤ (x6_1 : Int) := uO
      have q180 : x6_1 < (t169.length : Int) := uO
      obtain ⟨ad180, e180, hx180_0⟩ := Kd.at_int (Kd.R_reads' HO_4.out).2.2 x6_1 p180 q180
      cases e180
      replace p180 := eq_true p180
      replace q180 := eq_true q180
      have p181 : 0 ≤ (x6_1 : Int) := uO
      have q181 : x6_1 < (t169.length : Int) := uO
      obtain ⟨ad181, e181, hx181_0⟩ := Kd.at_int (Kd.R_reads' HO_4.out).2.2 x6_1 p181 q181
      obtain rfl : ad180 = ad181 := (by injection e181)
      replace p181 := eq_true p181
      replace q181 := eq_true q181
      go_wp2_with (first | ((with_reducible refine gate_builtin (b := .append) (xs := #[.tmp 30, .tmp 37]) rfl ?_); at_builtin; refine Kd.R_append (Kd.int .u8) (w0 := w) w.heap.size rfl (.tmp 30) (.tmp 37) 27 5 (.int .u8 0) 1 rfl Try.underlying27 info5 rfl (by decide) (by omega) (.slice Ao21 x5_1.length co21) x5_1 ((IntKind.u64.wrap (Int.tdiv (rd t169 x6_1) 256)) % 256) [.int .u8 ((IntKind.u64.wrap (Int.tdiv (rd t169 x6_1) 256)) % 256)] (fun _ => True) (fun _ => False) rfl rfl ?aP (fun _ hk => hk.elim) ?aF ?aO ?aB ?aS ?aL ?_; (case aP => exact rfl); (case aB => exact uB); (case aF => exact (fun _ _ => trivial)); (case aO => exact (uR HO_5.out)); (case aS => exact (below_size uB)); (case aL => have := LMc19.out; omega); intro v183 w22 ho hb hg hat; rw [← Ny182.out] at ho; replace HO_4 := Aside0.mk (Kd.R_over' (uR HO_4.out) (Kd.R_typed (uR HO_5.out)) (by decide) hg); replace HB := Aside0.mk (hb); have HO184 := Aside0.mk (ho); clear HO_5; clear ho hb hg hat; have p185 : 0 ≤ (x6_1 : Int) := uO; have q185 : x6_1 < (t169.length : Int) := uO; obtain ⟨ad185, e185, hx185_0⟩ := Kd.at_int (Kd.R_reads' HO_4.out).2.2 x6_1 p185 q185; obtain rfl : ad180 = ad185 := (by injection e185); replace p185 := eq_true p185; replace q185 := eq_true q185) | ((with_reducible refine gate_builtin (b := .append) (xs := #[.tmp 39, .tmp 46]) rfl ?_); at_builtin; refine Kd.R_append (Kd.int .u8) (w0 := w) w.heap.size rfl (.tmp 39) (.tmp 46) 27 5 (.int .u8 0) 1 rfl Try.underlying27 info5 rfl (by decide) (by omega) v183 y182 ((Int.tmod (rd t169 x6_1) 256) % 256) [.int .u8 ((Int.tmod (rd t169 x6_1) 256) % 256)] (fun _ => True) (fun _ => False) rfl rfl ?aP (fun _ hk => hk.elim) ?aF ?aO ?aB ?aS ?aL ?_; (case aP => exact rfl); (case aB => exact uB); (case aF => exact (fun _ _ => trivial)); (case aO => exact (uR HO184.out)); (case aS => exact (below_size uB)); (case aL => have := LMc20.out; omega); intro v187 w23 ho hb hg hat; rw [← Ny186.out] at ho; replace HO_4 := Aside0.mk (Kd.R_over' (uR HO_4.out) (Kd.R_typed (uR HO184.out)) (by decide) hg); replace HB := Aside0.mk (hb); have HO188 := Aside0.mk (ho); clear HO184; clear ho hb hg hat))
      go_roundg k1
      case measure => have := HK1.out; omega
      case rel => exact ⟨(y186), (wrap64 (x6_1 - 1)), uG, H', ⟨by have := HK1.out; omega⟩, ⟨uR HO_4.out⟩, ⟨uR HO188.out⟩, ⟨uB⟩⟩
     rw [if_neg c18] at H
     have c18b0 : decide (255 < (rd t169 x6_1)) = false := decide_eq_false c18
     clear c18
     replace H := uT H; obtain ⟨c24, H⟩ := H
     have LMc24 := Aside0.mk c24; clear c24
     obtain ⟨y190, hy190⟩ : ∃ y_ : List Int, y_ = (x5_1 ++ [(Int.tmod (rd t169 x6_1) 256) % 256]) := ⟨_, rfl⟩
     replace H : (windbreakref01_Bytes.l0 k1 t169 y190 (wrap64 (x6_1 - 1))) = some r := by first | (rw [hy190]; with_reducible exact H) | (have H2_ := (Option.bind_some _ _).symm.trans H; rw [hy190]; with_reducible exact H2_) | (have H2_ := (Option.bind_some _ _).symm.trans H; with_reducible exact H2_) | with_reducible exact H | (rw [hy190]; exact H) | exact H
     have Ny190 := Aside0.mk hy190; clear hy190
     have H' := Aside0.mk H
     clear H
     obtain ⟨Ao25, co25, eo25⟩ := Kd.R_slice HO_5.out
     subst eo25
     have p180 : 0 ≤ (x6_1 : Int) := uO
     have q180 : x6_1 < (t169.length : Int) := uO
     obtain ⟨ad180, e180, hx180_0⟩ := Kd.at_int (Kd.R_reads' HO_4.out).2.2 x6_1 p180 q180
     cases e180
     replace p180 := eq_true p180
     replace q180 := eq_true q180
     have p189 : 0 ≤ (x6_1 : Int) := uO
     have q189 : x6_1 < (t169.length : Int) := uO
     obtain ⟨ad189, e189, hx189_0⟩ := Kd.at_int (Kd.R_reads' HO_4.out).2.2 x6_1 p189 q189
     obtain rfl : ad180 = ad189 := (by injection e189)
     replace p189 := eq_true p189
     replace q189 := eq_true q189
     go_wp2_with (first | ((with_reducible refine gate_builtin (b := .append) (xs := #[.tmp 39, .tmp 46]) rfl ?_); at_builtin; refine Kd.R_append (Kd.int .u8) (w0 := w) w.heap.size rfl (.tmp 39) (.tmp 46) 27 5 (.int .u8 0) 1 rfl Try.underlying27 info5 rfl (by decide) (by omega) (.slice Ao25 x5_1.length co25) x5_1 ((Int.tmod (rd t169 x6_1) 256) % 256) [.int .u8 ((Int.tmod (rd t169 x6_1) 256) % 256)] (fun _ => True) (fun _ => False) rfl rfl ?aP (fun _ hk => hk.elim) ?aF ?aO ?aB ?aS ?aL ?_; (case aP => exact rfl); (case aB => exact uB); (case aF => exact (fun _ _ => trivial)); (case aO => exact (uR HO_5.out)); (case aS => exact (below_size uB)); (case aL => have := LMc24.out; omega); intro v191 w26 ho hb hg hat; rw [← Ny190.out] at ho; replace HO_4 := Aside0.mk (Kd.R_over' (uR HO_4.out) (Kd.R_typed (uR HO_5.out)) (by decide) hg); replace HB := Aside0.mk (hb); have HO192 := Aside0.mk (ho); clear HO_5; clear ho hb hg hat))
     go_roundg k1
     case measure => have := HK1.out; omega
     case rel => exact ⟨(y190), (wrap64 (x6_1 - 1)), uG, H', ⟨by have := HK1.out; omega⟩, ⟨uR HO_4.out⟩, ⟨uR HO192.out⟩, ⟨uB⟩⟩
    rw [if_neg c7] at H
    have c7b0 : decide (0 ≤ x6_1) = false := decide_eq_false c7
    clear c7
    obtain rfl := Option.some.inj H
    go_wp2
    go_ret
    exact ⟨_, uF, uR HO_5.out, uB⟩
 replace c3 := Bool.eq_false_iff.mpr c3
 subst c3
 have H1 : (some ([] : List Int)) = some r := by rw [if_neg (show ¬ (false = true) by decide)] at H; exact H
 clear H; have H := H1; clear H1
 obtain rfl := Option.some.inj H
 go_enter Try.func21, Try.ntmps21
 go_wp2_with (first | ((with_reducible refine gate_callee (f := 45) rfl ?_); refine goesL_ (some 8) rfl rfl Try.func45 (by kernel_rfl) rfl #[.slice A0 l0.length c0] rfl uM ?_; (with_reducible refine (windbreakref01_Right.calls _ _ l0 false _ ?side1 ?side2 A2.out).mono ?_); (case side1 => exact uC HR0.out); (case side2 => exact HC0.out); rintro e w' ⟨rfl, ⟨nd, rfl⟩⟩; refine ⟨_, rfl, ?_⟩))
 go_ret
 exact ⟨_, by first | rfl | (simp [errW_none, errW_some] <;> rfl) | (simp [*, errW_none, errW_some] <;> rfl), by first | exact Kd.R_nil _ _ _ _ _ | exact Kd.N_nil _ _ _ _ _ | exact Kd.V_nil _ _ _ _ _ | exact Kd.Q_nil _ _ _ _ _ | exact Kd.S_nil _ _ _ _ _, uB⟩
end Go.Proofs.Ytanmfddlncdncab.F
end
section
namespace Go.Proofs.Ytanmfddlncdncab.F
open Go.RowKit Go.Proofs.YtanmfddlncdncabW.PrintWords Go.Proofs.YtanmfddlncdncabW.PrintLast Go.Proofs.YtanmfddlncdncabW.PrintMore
attribute [local go_sem] max2_int min2_int max_two min_two max_three min_three max_four min_four
set_option linter.unusedVariables false
set_option linter.unusedSimpArgs false
mutual
def windbreakref12_numbers.j0 : Nat → Int → Bool → Option (Int)
 | 0, _, _ => none
 | k + 1, x3, x4 => if x4 = true then (some 1) else (if x3 = 1 then (windbreakref12_numbers.j1 k x3 (x3 == 1)) else (if x3 = 2 then (windbreakref12_numbers.j1 k x3 (x3 == 2)) else (if x3 = 4 then (windbreakref12_numbers.j1 k x3 (x3 == 4)) else (if x3 = 5 then (windbreakref12_numbers.j1 k x3 (x3 == 5)) else (if x3 = 6 then (windbreakref12_numbers.j1 k x3 (x3 == 6)) else (windbreakref12_numbers.j1 k x3 (x3 == 8)))))))
def windbreakref12_numbers.j1 : Nat → Int → Bool → Option (Int)
 | 0, _, _ => none
 | k + 1, x3, x8 => if x8 = true then (some 2) else (if x3 = 7 then (some 3) else (if x3 = 9 then (some 3) else (some 0)))
end
def windbreakref12_numbers.f (k : Nat) (a0 : Int) : Option (Int) := if a0 = 3 then (windbreakref12_numbers.j0 k a0 (a0 == 3)) else (if a0 = 10 then (windbreakref12_numbers.j0 k a0 (a0 == 10)) else (windbreakref12_numbers.j0 k a0 (a0 == 11)))
set_option maxHeartbeats 8000000 in
set_option maxRecDepth 100000 in
theorem windbreakref12_numbers.calls (k : Nat) (a0 : Int) (r : Int) (w : World) (h : windbreakref12_numbers.f k a0 = some r) :
  Calls Try.prog 44 #[.int .i64 a0] w fun e w' => e = .returned (.int .i64 r) ∧ Drawn0 w w' := by
 have H : (if a0 = 3 then (windbreakref12_numbers.j0 k a0 (a0 == 3)) else (if a0 = 10 then (windbreakref12_numbers.j0 k a0 (a0 == 10)) else (windbreakref12_numbers.j0 k a0 (a0 == 11)))) = some r := h
 clear h; have HC2 := Aside0.mk H; clear H
 go_enter Try.func44, Try.ntmps44
 go_upto_if 4 with (fail)
 go_cut [4] (fun v4 wc => ∃ (kq : Nat) (x4_1 : Bool), v4 = .bool x4_1 ∧ Aside0 (windbreakref12_numbers.j0 kq a0 x4_1 = some r) ∧ Aside0 (kq ≤ k) ∧ Drawn0 w wc)
 case first =>
  have H := HC2.out
  clear HC2
  by_cases c3 : a0 = 3
  ·
   rw [if_pos c3] at H
   have c3b0 : (a0 == 3) = true := beq_iff_eq.mpr c3
   have c3b1 : (a0 != 3) = false := bne_eq_false_iff_eq.mpr c3
   clear c3
   (first | rw [c3b0] | (simp only [i64_w, i32_w]; rw [c3b0]) | skip)
   have H' := Aside0.mk H
   clear H
   go_wp2
   go_meet
   case rel => exact ⟨_, ((a0 == 3)), uG, H', ⟨uW⟩, by repeat (first | exact Drawn0.refl _ | apply Drawn0.step)⟩
  rw [if_neg c3] at H
  have c3b0 : (a0 == 3) = false := beq_eq_false_iff_ne.mpr c3
  have c3b1 : (a0 != 3) = true := bne_iff_ne.mpr c3
  (first | rw [c3b0] | (simp only [i64_w, i32_w]; rw [c3b0]) | skip)
  by_cases c4 : a0 = 10
  ·
   rw [if_pos c4] at H
   have c4b0 : (a0 == 10) = true := beq_iff_eq.mpr c4
   have c4b1 : (a0 != 10) = false := bne_eq_false_iff_eq.mpr c4
   clear c4
   have H' := Aside0.mk H
   clear H
   go_wp2
   go_meet
   case rel => exact ⟨_, ((a0 == 10)), uG, H', ⟨uW⟩, by repeat (first | exact Drawn0.refl _ | apply Drawn0.step)⟩
  rw [if_neg c4] at H
  have c4b0 : (a0 == 10) = false := beq_eq_false_iff_ne.mpr c4
  have c4b1 : (a0 != 10) = true := bne_iff_ne.mpr c4
  have H' := Aside0.mk H
  clear H
  go_wp2
  go_meet
  case rel => exact ⟨_, ((a0 == 11)), uG, H', ⟨uW⟩, by repeat (first | exact Drawn0.refl _ | apply Drawn0.step)⟩
 case rest =>
  clear HC2; (try clear p2); (try clear c3); (try clear c3b0); (try clear c3b1); (try clear c4); (try clear c4b0); (try clear c4b1)
  obtain ⟨kq, x4_1, rfl, HA, HJ1, ⟨mc1, rfl⟩⟩ := hcut
  cases kq with
  | zero => exact absurd HA.out (by simp [windbreakref12_numbers.j0])
  | succ kj1 =>
   have H := HA.out
   clear HA
   simp only [windbreakref12_numbers.j0] at H
   by_cases c5 : x4_1 = true
   ·
    subst c5
    have H1 : (some 1) = some r := by rw [if_pos rfl] at H; exact H
    clear H; have H := H1; clear H1
    obtain rfl := Option.some.inj H
    go_wp2
    go_ret
    exact ⟨by first | rfl | (simp; done) | (simp [*]; done), by repeat (first | exact Drawn0.refl _ | apply Drawn0.step)⟩
   replace c5 := Bool.eq_false_iff.mpr c5
   subst c5
   have H1 : (if a0 = 1 then (windbreakref12_numbers.j1 kj1 a0 (a0 == 1)) else (if a0 = 2 then (windbreakref12_numbers.j1 kj1 a0 (a0 == 2)) else (if a0 = 4 then (windbreakref12_numbers.j1 kj1 a0 (a0 == 4)) else (if a0 = 5 then (windbreakref12_numbers.j1 kj1 a0 (a0 == 5)) else (if a0 = 6 then (windbreakref12_numbers.j1 kj1 a0 (a0 == 6)) else (windbreakref12_numbers.j1 kj1 a0 (a0 == 8))))))) = some r := by rw [if_neg (show ¬ (false = true) by decide)] at H; exact H
   clear H; have H := H1; clear H1; have HC6 := Aside0.mk H; clear H
   go_upto_if 8 with (fail)
   go_cut [8] (fun v8 wc => ∃ (kq : Nat) (x8_5 : Bool), v8 = .bool x8_5 ∧ Aside0 (windbreakref12_numbers.j1 kq a0 x8_5 = some r) ∧ Aside0 (kq ≤ kj1) ∧ Drawn0 w wc)
   case first =>
    have H := HC6.out
    clear HC6
    by_cases c7 : a0 = 1
    ·
     rw [if_pos c7] at H
     have c7b0 : (a0 == 1) = true := beq_iff_eq.mpr c7
     have c7b1 : (a0 != 1) = false := bne_eq_false_iff_eq.mpr c7
     clear c7
     (first | rw [c7b0] | (simp only [i64_w, i32_w]; rw [c7b0]) | skip)
     have H' := Aside0.mk H
     clear H
     go_wp2
     go_meet
     case rel => exact ⟨_, ((a0 == 1)), uG, H', ⟨by have := HJ1.out; first | omega | exact Nat.le_refl _⟩, by repeat (first | exact Drawn0.refl _ | apply Drawn0.step)⟩
    rw [if_neg c7] at H
    have c7b0 : (a0 == 1) = false := beq_eq_false_iff_ne.mpr c7
    have c7b1 : (a0 != 1) = true := bne_iff_ne.mpr c7
    (first | rw [c7b0] | (simp only [i64_w, i32_w]; rw [c7b0]) | skip)
    by_cases c8 : a0 = 2
    ·
     rw [if_pos c8] at H
     have c8b0 : (a0 == 2) = true := beq_iff_eq.mpr c8
     have c8b1 : (a0 != 2) = false := bne_eq_false_iff_eq.mpr c8
     clear c8
     have H' := Aside0.mk H
     clear H
     go_wp2
     go_meet
     case rel => exact ⟨_, ((a0 == 2)), uG, H', ⟨by have := HJ1.out; first | omega | exact Nat.le_refl _⟩, by repeat (first | exact Drawn0.refl _ | apply Drawn0.step)⟩
    rw [if_neg c8] at H
    have c8b0 : (a0 == 2) = false := beq_eq_false_iff_ne.mpr c8
    have c8b1 : (a0 != 2) = true := bne_iff_ne.mpr c8
    by_cases c9 : a0 = 4
    ·
     rw [if_pos c9] at H
     have c9b0 : (a0 == 4) = true := beq_iff_eq.mpr c9
     have c9b1 : (a0 != 4) = false := bne_eq_false_iff_eq.mpr c9
     clear c9
     have H' := Aside0.mk H
     clear H
     go_wp2
     go_meet
     case rel => exact ⟨_, ((a0 == 4)), uG, H', ⟨by have := HJ1.out; first | omega | exact Nat.le_refl _⟩, by repeat (first | exact Drawn0.refl _ | apply Drawn0.step)⟩
    rw [if_neg c9] at H
    have c9b0 : (a0 == 4) = false := beq_eq_false_iff_ne.mpr c9
    have c9b1 : (a0 != 4) = true := bne_iff_ne.mpr c9
    by_cases c10 : a0 = 5
    ·
     rw [if_pos c10] at H
     have c10b0 : (a0 == 5) = true := beq_iff_eq.mpr c10
     have c10b1 : (a0 != 5) = false := bne_eq_false_iff_eq.mpr c10
     clear c10
     have H' := Aside0.mk H
     clear H
     go_wp2
     go_meet
     case rel => exact ⟨_, ((a0 == 5)), uG, H', ⟨by have := HJ1.out; first | omega | exact Nat.le_refl _⟩, by repeat (first | exact Drawn0.refl _ | apply Drawn0.step)⟩
    rw [if_neg c10] at H
    have c10b0 : (a0 == 5) = false := beq_eq_false_iff_ne.mpr c10
    have c10b1 : (a0 != 5) = true := bne_iff_ne.mpr c10
    by_cases c11 : a0 = 6
    ·
     rw [if_pos c11] at H
     have c11b0 : (a0 == 6) = true := beq_iff_eq.mpr c11
     have c11b1 : (a0 != 6) = false := bne_eq_false_iff_eq.mpr c11
     clear c11
     have H' := Aside0.mk H
     clear H
     go_wp2
     go_meet
     case rel => exact ⟨_, ((a0 == 6)), uG, H', ⟨by have := HJ1.out; first | omega | exact Nat.le_refl _⟩, by repeat (first | exact Drawn0.refl _ | apply Drawn0.step)⟩
    rw [if_neg c11] at H
    have c11b0 : (a0 == 6) = false := beq_eq_false_iff_ne.mpr c11
    have c11b1 : (a0 != 6) = true := bne_iff_ne.mpr c11
    have H' := Aside0.mk H
    clear H
    go_wp2
    go_meet
    case rel => exact ⟨_, ((a0 == 8)), uG, H', ⟨by have := HJ1.out; first | omega | exact Nat.le_refl _⟩, by repeat (first | exact Drawn0.refl _ | apply Drawn0.step)⟩
   case rest =>
    clear HC6; (try clear c1); (try clear p2); (try clear c3); (try clear c3b0); (try clear c3b1); (try clear c4); (try clear c4b0); (try clear c4b1); (try clear c5); (try clear c7); (try clear c7b0); (try clear c7b1); (try clear c8); (try clear c8b0); (try clear c8b1); (try clear c9); (try clear c9b0); (try clear c9b1); (try clear c10); (try clear c10b0); (try clear c10b1); (try clear c11); (try clear c11b0); (try clear c11b1); (try clear p2)
    obtain ⟨kq, x8_5, rfl, HA, HJ5, ⟨mc5, rfl⟩⟩ := hcut
    cases kq with
    | zero => exact absurd HA.out (by simp [windbreakref12_numbers.j1])
    | succ kj5 =>
     have H := HA.out
     clear HA
     simp only [windbreakref12_numbers.j1] at H
     by_cases c12 : x8_5 = true
     ·
      subst c12
      have H1 : (some 2) = some r := by rw [if_pos rfl] at H; exact H
      clear H; have H := H1; clear H1
      obtain rfl := Option.some.inj H
      go_wp2
      go_ret
      exact ⟨by first | rfl | (simp; done) | (simp [*]; done), by repeat (first | exact Drawn0.refl _ | apply Drawn0.step)⟩
     replace c12 := Bool.eq_false_iff.mpr c12
     subst c12
     have H1 : (if a0 = 7 then (some 3) else (if a0 = 9 then (some 3) else (some 0))) = some r := by rw [if_neg (show ¬ (false = true) by decide)] at H; exact H
     clear H; have H := H1; clear H1
     by_cases c13 : a0 = 7
     ·
      rw [if_pos c13] at H
      have c13b0 : (a0 == 7) = true := beq_iff_eq.mpr c13
      have c13b1 : (a0 != 7) = false := bne_eq_false_iff_eq.mpr c13
      clear c13
      obtain rfl := Option.some.inj H
      go_wp2
      go_ret
      exact ⟨by first | rfl | (simp; done) | (simp [*]; done), by repeat (first | exact Drawn0.refl _ | apply Drawn0.step)⟩
     rw [if_neg c13] at H
     have c13b0 : (a0 == 7) = false := beq_eq_false_iff_ne.mpr c13
     have c13b1 : (a0 != 7) = true := bne_iff_ne.mpr c13
     by_cases c14 : a0 = 9
     ·
      rw [if_pos c14] at H
      have c14b0 : (a0 == 9) = true := beq_iff_eq.mpr c14
      have c14b1 : (a0 != 9) = false := bne_eq_false_iff_eq.mpr c14
      clear c14
      obtain rfl := Option.some.inj H
      go_wp2
      go_ret
      exact ⟨by first | rfl | (simp; done) | (simp [*]; done), by repeat (first | exact Drawn0.refl _ | apply Drawn0.step)⟩
     rw [if_neg c14] at H
     have c14b0 : (a0 == 9) = false := beq_eq_false_iff_ne.mpr c14
     have c14b1 : (a0 != 9) = true := bne_iff_ne.mpr c14
     obtain rfl := Option.some.inj H
     go_wp2
     go_ret
     exact ⟨by first | rfl | (simp; done) | (simp [*]; done), by repeat (first | exact Drawn0.refl _ | apply Drawn0.step)⟩
end Go.Proofs.Ytanmfddlncdncab.F
end
section
namespace Go.Proofs.Ytanmfddlncdncab.F
open Go.RowKit Go.Proofs.YtanmfddlncdncabW.PrintWords Go.Proofs.YtanmfddlncdncabW.PrintLast Go.Proofs.YtanmfddlncdncabW.PrintMore
set_option linter.unusedVariables false
set_option linter.unusedSimpArgs false
theorem ref_numbers_is (n : Nat) (h1 : 1 ≤ n) (h2 : n < 12) : windbreakref12_numbers.f 3 (n : Int) = some (wire_kindOf n).1 := by
  match n, h1, h2 with
  | 1, _, _ => rfl
  | 2, _, _ => rfl
  | 3, _, _ => rfl
  | 4, _, _ => rfl
  | 5, _, _ => rfl
  | 6, _, _ => rfl
  | 7, _, _ => rfl
  | 8, _, _ => rfl
  | 9, _, _ => rfl
  | 10, _, _ => rfl
  | 11, _, _ => rfl
  | n + 12, _, h => omega
theorem ref_flags (n : Nat) (h1 : 1 ≤ n) (h2 : n < 12) {nk : Int} {ik rk tk : Bool} (hp : wire_kindOf n = (nk, ik, rk, tk)) : (((n : Int) == 5) || ((n : Int) == 6)) = ik ∧ (((n : Int) == 4) || ((n : Int) == 7)) = rk ∧ (((n : Int) == 1) || ((n : Int) == 3) || ((n : Int) == 5)) = tk := by
  match n, h1, h2 with
  | 1, _, _ => cases hp; exact ⟨rfl, rfl, rfl⟩
  | 2, _, _ => cases hp; exact ⟨rfl, rfl, rfl⟩
  | 3, _, _ => cases hp; exact ⟨rfl, rfl, rfl⟩
  | 4, _, _ => cases hp; exact ⟨rfl, rfl, rfl⟩
  | 5, _, _ => cases hp; exact ⟨rfl, rfl, rfl⟩
  | 6, _, _ => cases hp; exact ⟨rfl, rfl, rfl⟩
  | 7, _, _ => cases hp; exact ⟨rfl, rfl, rfl⟩
  | 8, _, _ => cases hp; exact ⟨rfl, rfl, rfl⟩
  | 9, _, _ => cases hp; exact ⟨rfl, rfl, rfl⟩
  | 10, _, _ => cases hp; exact ⟨rfl, rfl, rfl⟩
  | 11, _, _ => cases hp; exact ⟨rfl, rfl, rfl⟩
  | n + 12, _, h => omega
theorem ref_nk (n : Nat) (h1 : 1 ≤ n) (h2 : n < 12) {nk : Int} {x : Bool × Bool × Bool} (hp : wire_kindOf n = (nk, x)) : 1 ≤ nk := by
  match n, h1, h2 with
  | 1, _, _ => cases hp; decide
  | 2, _, _ => cases hp; decide
  | 3, _, _ => cases hp; decide
  | 4, _, _ => cases hp; decide
  | 5, _, _ => cases hp; decide
  | 6, _, _ => cases hp; decide
  | 7, _, _ => cases hp; decide
  | 8, _, _ => cases hp; decide
  | 9, _, _ => cases hp; decide
  | 10, _, _ => cases hp; decide
  | 11, _, _ => cases hp; decide
  | n + 12, _, h => omega
theorem g_false {p : Int × Bool × Bool × Bool} {a0 a1 a2 a3 : Int} {l4 l5 : List Int} {l6 : List (List Int)} {r : Bool} (h : wire_Right.g p a0 a1 a2 a3 l4 l5 l6 = some r) (hf : wire_noughts p.1 a1 a2 a3 = false ∨ wire_may l4.length p.2.1 (wire_ints.f l4) = false ∨ wire_may l5.length p.2.2.1 (wire_ints.f l5) = false ∨ (∀ b, wire_nats.f l6 = some b → wire_may l6.length p.2.2.2 b = false) ∨ wire_incr l5 = false ∨ wire_last a0 a3 l4 l6 = false) : r = false := by
  unfold wire_Right.g at h
  by_cases c1 : wire_noughts p.1 a1 a2 a3 = true
  · rw [if_pos c1] at h
    by_cases c2 : wire_may l4.length p.2.1 (wire_ints.f l4) = true
    · rw [if_pos c2] at h
      by_cases c3 : wire_may l5.length p.2.2.1 (wire_ints.f l5) = true
      · rw [if_pos c3] at h
        obtain ⟨b, hb, h⟩ := Option.bind_eq_some_iff.mp h
        by_cases c4 : wire_may l6.length p.2.2.2 b = true
        · rw [if_pos c4] at h
          obtain rfl := Option.some.inj h
          rcases hf with hf | hf | hf | hf | hf | hf
          · rw [hf] at c1; cases c1
          · rw [hf] at c2; cases c2
          · rw [hf] at c3; cases c3
          · rw [hf b hb] at c4; cases c4
          · rw [hf]; rfl
          · rw [hf]; simp
        · rw [if_neg c4] at h; exact (Option.some.inj h).symm
      · rw [if_neg c3] at h; exact (Option.some.inj h).symm
    · rw [if_neg c2] at h; exact (Option.some.inj h).symm
  · rw [if_neg c1] at h; exact (Option.some.inj h).symm
theorem g_true {p : Int × Bool × Bool × Bool} {a0 a1 a2 a3 : Int} {l4 l5 : List Int} {l6 : List (List Int)} {r : Bool} (h : wire_Right.g p a0 a1 a2 a3 l4 l5 l6 = some r) (c1 : wire_noughts p.1 a1 a2 a3 = true) (c2 : wire_may l4.length p.2.1 (wire_ints.f l4) = true) (c3 : wire_may l5.length p.2.2.1 (wire_ints.f l5) = true) : ∃ b, wire_nats.f l6 = some b ∧ r = (wire_may l6.length p.2.2.2 b && (wire_incr l5 && wire_last a0 a3 l4 l6)) := by
  unfold wire_Right.g at h
  rw [if_pos c1, if_pos c2, if_pos c3] at h
  obtain ⟨b, hb, h⟩ := Option.bind_eq_some_iff.mp h
  refine ⟨b, hb, ?_⟩
  by_cases c4 : wire_may l6.length p.2.2.2 b = true
  · rw [if_pos c4] at h
    rw [c4, Bool.true_and]
    exact (Option.some.inj h).symm
  · rw [if_neg c4] at h
    rw [Bool.eq_false_iff.mpr c4, Bool.false_and]
    exact (Option.some.inj h).symm
theorem ref_noughts {nk a1 a2 a3 : Int} (h1 : 1 ≤ nk) : wire_noughts nk a1 a2 a3 = !(decide (nk < 2) && (a2 != 0) || decide (nk < 3) && (a3 != 0)) := by
  unfold wire_noughts wire_okAt
  have e0 : decide (((0 : Nat) : Int) < nk) = true := decide_eq_true (by omega)
  have e1 : decide (((1 : Nat) : Int) < nk) = !decide (nk < 2) := by rw [Bool.eq_iff_iff]; simp; omega
  have e2 : decide (((2 : Nat) : Int) < nk) = !decide (nk < 3) := by rw [Bool.eq_iff_iff]; simp; omega
  have f1 : ([a1, a2, a3].getD 1 0 == 0) = !(a2 != 0) := by show (a2 == 0) = _; simp [bne]
  have f2 : ([a1, a2, a3].getD 2 0 == 0) = !(a3 != 0) := by show (a3 == 0) = _; simp [bne]
  rw [e0, e1, e2, f1, f2]
  cases decide (nk < 2) <;> cases (a2 != 0) <;> cases decide (nk < 3) <;> cases (a3 != 0) <;> rfl
theorem ref_last (n : Nat) (a3 : Int) (l4 : List Int) (l6 : List (List Int)) : wire_last (n : Int) a3 l4 l6 = !(((n : Int) == 1) && ((l6.length : Int) != 1) || ((n : Int) == 5) && ((l6.length : Int) != (l4.length : Int)) || ((n : Int) == 6) && ((l4.length : Int) == 0) || ((n : Int) == 9) && decide (1 < a3)) := by
  unfold wire_last
  rw [Bool.eq_iff_iff]
  by_cases e1 : (n : Int) = 1
  · rw [if_pos e1, e1]; simp; omega
  · rw [if_neg e1]
    by_cases e5 : (n : Int) = 5
    · rw [if_pos e5, e5]; simp; omega
    · rw [if_neg e5]
      by_cases e6 : (n : Int) = 6
      · rw [if_pos e6, e6]; simp [Nat.pos_iff_ne_zero]
      · rw [if_neg e6]
        by_cases e9 : (n : Int) = 9
        · rw [if_pos e9, e9]; simp
        · rw [if_neg e9]; simp [e1, e5, e6, e9]
theorem ref_bne_one (n : Nat) : (n != 1) = ((n : Int) != 1) := by
  by_cases h : n = 1
  · subst h; rfl
  · rw [bne_iff_ne.mpr h, bne_iff_ne.mpr (show (n : Int) ≠ 1 by omega)]
theorem ref_bne_nn (a b : Nat) : (a != b) = ((a : Int) != (b : Int)) := by
  by_cases h : a = b
  · subst h; simp
  · rw [bne_iff_ne.mpr h, bne_iff_ne.mpr (show (a : Int) ≠ (b : Int) by omega)]
theorem ref_beq_zero (n : Nat) : (n == 0) = ((n : Int) == 0) := by
  by_cases h : n = 0
  · subst h; rfl
  · rw [beq_eq_false_iff_ne.mpr h, beq_eq_false_iff_ne.mpr (show (n : Int) ≠ 0 by omega)]
theorem ints_true {l : List Int} (h : ∀ j, j < l.length → wire_ok (l.getD j 0) = true) : wire_ints.f l = true := by
  unfold wire_ints.f
  rw [List.all_eq_true]
  intro x hx
  obtain ⟨j, hj, rfl⟩ := List.getElem_of_mem hx
  have := h j hj
  rwa [List.getD_eq_getElem?_getD, List.getElem?_eq_getElem hj] at this
theorem ints_false {l : List Int} {j : Nat} (hj : j < l.length) (h : wire_ok (l.getD j 0) = false) : wire_ints.f l = false := by
  unfold wire_ints.f
  rw [List.all_eq_false]
  refine ⟨l[j], List.getElem_mem hj, ?_⟩
  rw [List.getD_eq_getElem?_getD, List.getElem?_eq_getElem hj] at h
  show ¬ (wire_ok l[j] = true)
  rw [show wire_ok l[j] = false from h]
  decide
set_option maxHeartbeats 8000000 in
set_option maxRecDepth 100000 in
theorem ref_Right.bad (a0 a1 a2 a3 : Int) (A4 : Option Addr) (c4 : Nat) (l4 : List Int) (A5 : Option Addr) (c5 : Nat) (l5 : List Int) (A6 : Option Addr) (c6 : Nat) (l6 : List (List Int)) (w : World) (h : ¬ (1 ≤ a0 ∧ a0 < 12 ∧ wire_ok a1 = true ∧ wire_ok a2 = true ∧ wire_ok a3 = true)) :
    Calls Try.prog 17 #[.agg #[.int .i64 a0, .int .i64 a1, .int .i64 a2, .int .i64 a3, .slice A4 l4.length c4, .slice A5 l5.length c5, .slice A6 l6.length c6]] w fun e w' => e = .returned (.bool false) ∧ Below w.heap.size w w' := by
  have key : decide (a0 < 1) = true ∨ decide (a0 < 1) = false ∧ (decide ((11 : Int) < a0) = true ∨ decide ((11 : Int) < a0) = false ∧ (decide (a1 < 0) = true ∨ decide (a1 < 0) = false ∧ (decide ((1073741824 : Int) < a1) = true ∨ decide ((1073741824 : Int) < a1) = false ∧ (decide (a2 < 0) = true ∨ decide (a2 < 0) = false ∧ (decide ((1073741824 : Int) < a2) = true ∨ decide ((1073741824 : Int) < a2) = false ∧ (decide (a3 < 0) = true ∨ decide (a3 < 0) = false ∧ decide ((1073741824 : Int) < a3) = true)))))) := by
    unfold wire_ok at h
    simp only [Bool.and_eq_true, decide_eq_true_eq, decide_eq_false_iff_not] at h ⊢
    omega
  have HB := Aside0.mk (Below.refl w.heap.size w)
  clear h
  rcases key with h1 | ⟨h1, h2 | ⟨h2, h3 | ⟨h3, h4 | ⟨h4, h5 | ⟨h5, h6 | ⟨h6, h7 | ⟨h7, h8⟩⟩⟩⟩⟩⟩⟩
  all_goals as_aux_lemma =>
    go_enter Try.func17, Try.ntmps17
    go_wp2_with ((with_reducible refine gate_dst (N := 1) rfl ?_); refine box_event ?hg (N := 1) ?hd (cs := #[.int .i64 a0, .int .i64 a1, .int .i64 a2, .int .i64 a3, .slice A4 l4.length c4, .slice A5 l5.length c5, .slice A6 l6.length c6]) (t := 25) ?hr ?_; (case hd => rfl); (case hg => rfl); (case hr => first | (go_simp; done) | (go_simp; rfl)); intro gm hg w1 hbox hb; have HB1 := Aside0.mk (below_step HB.out hb); have hm0 : w1.cell? ⟨gm, 0, none⟩ = some (.int .i64 a0) := (blk_cell hbox 0).trans rfl; have hm1 : w1.cell? ⟨gm, 1, none⟩ = some (.int .i64 a1) := (blk_cell hbox 1).trans rfl; have hm2 : w1.cell? ⟨gm, 2, none⟩ = some (.int .i64 a2) := (blk_cell hbox 2).trans rfl; have hm3 : w1.cell? ⟨gm, 3, none⟩ = some (.int .i64 a3) := (blk_cell hbox 3).trans rfl; clear HB hb hbox hg)
    go_ret
    exact ⟨rfl, uB⟩
set_option maxHeartbeats 8000000 in
set_option maxRecDepth 100000 in
theorem ref_Right.good (n : Nat) (nk : Int) (ik rk tk : Bool) (a1 a2 a3 : Int) (A4 : Option Addr) (c4 : Nat) (l4 : List Int) (A5 : Option Addr) (c5 : Nat) (l5 : List Int) (A6 : Option Addr) (c6 : Nat) (l6 : List (List Int)) (w : World) (hn1 : 1 ≤ n) (hn2 : n < 12) (h1 : 0 ≤ a1 ∧ a1 ≤ 1073741824) (h2 : 0 ≤ a2 ∧ a2 ≤ 1073741824) (h3 : 0 ≤ a3 ∧ a3 ≤ 1073741824) (hp : wire_kindOf n = (nk, ik, rk, tk)) (r : Bool) (hg : wire_Right.g (nk, ik, rk, tk) (n : Int) a1 a2 a3 l4 l5 l6 = some r) (h4 : Rd1 w A4 c4 l4) (h5 : Rd1 w A5 c5 l5) (h6 : Kd.C (Kd.slice 37 (Kd.int .u64)) w A6 l6.length l6 ∧ l6.length ≤ c6) :
    Calls Try.prog 17 #[.agg #[.int .i64 (n : Int), .int .i64 a1, .int .i64 a2, .int .i64 a3, .slice A4 l4.length c4, .slice A5 l5.length c5, .slice A6 l6.length c6]] w fun e w' => e = .returned (.bool r) ∧ Below w.heap.size w w' := by
  have HB := Aside0.mk (Below.refl w.heap.size w)
  have HP := Aside0.mk hp
  have HG := Aside0.mk hg
  have H4 := Aside0.mk h4
  have H5 := Aside0.mk h5
  have H6 := Aside0.mk h6
  have z1 : decide ((n : Int) < 1) = false := decide_eq_false (by omega)
  have z2 : decide ((11 : Int) < (n : Int)) = false := decide_eq_false (by omega)
  have z3 : decide (a1 < 0) = false := decide_eq_false (by omega)
  have z4 : decide ((1073741824 : Int) < a1) = false := decide_eq_false (by omega)
  have z5 : decide (a2 < 0) = false := decide_eq_false (by omega)
  have z6 : decide ((1073741824 : Int) < a2) = false := decide_eq_false (by omega)
  have z7 : decide (a3 < 0) = false := decide_eq_false (by omega)
  have z8 : decide ((1073741824 : Int) < a3) = false := decide_eq_false (by omega)
  have HNUM := Aside0.mk (show windbreakref12_numbers.f 3 (n : Int) = some nk from by rw [ref_numbers_is n hn1 hn2, hp])
  clear hp hg h4 h5 h6
  go_enter Try.func17, Try.ntmps17
  go_upto_region 4 with (first
    | ((with_reducible refine gate_dst (N := 1) rfl ?_); refine box_event ?hg (N := 1) ?hd (cs := #[.int .i64 (n : Int), .int .i64 a1, .int .i64 a2, .int .i64 a3, .slice A4 l4.length c4, .slice A5 l5.length c5, .slice A6 l6.length c6]) (t := 25) ?hr ?_; (case hd => rfl); (case hg => rfl); (case hr => first | (go_simp; done) | (go_simp; rfl)); intro gm hg w1 hbox hb; have BM := Aside0.mk hbox; have HB1 := Aside0.mk (below_step HB.out hb); have hm0 : w1.cell? ⟨gm, 0, none⟩ = some (.int .i64 (n : Int)) := (blk_cell hbox 0).trans rfl; have hm1 : w1.cell? ⟨gm, 1, none⟩ = some (.int .i64 a1) := (blk_cell hbox 1).trans rfl; have hm2 : w1.cell? ⟨gm, 2, none⟩ = some (.int .i64 a2) := (blk_cell hbox 2).trans rfl; have hm3 : w1.cell? ⟨gm, 3, none⟩ = some (.int .i64 a3) := (blk_cell hbox 3).trans rfl; have hm4 : w1.cell? ⟨gm, 4, none⟩ = some (.slice A4 l4.length c4) := (blk_cell hbox 4).trans rfl; have hm5 : w1.cell? ⟨gm, 5, none⟩ = some (.slice A5 l5.length c5) := (blk_cell hbox 5).trans rfl; have hm6 : w1.cell? ⟨gm, 6, none⟩ = some (.slice A6 l6.length c6) := (blk_cell hbox 6).trans rfl; clear HB hb hbox hg)
    | (go_at_call 44; ((with_reducible refine (windbreakref12_numbers.calls 3 (n : Int) nk _ HNUM.out).mono ?_); rintro e w2 ⟨rfl, ⟨y, rfl⟩⟩)))
  obtain ⟨t2, b1⟩ : ∃ b, decide (nk < 2) = b := ⟨_, rfl⟩
  obtain ⟨n2, b2⟩ : ∃ b, (a2 != 0) = b := ⟨_, rfl⟩
  obtain ⟨t3, b3⟩ : ∃ b, decide (nk < 3) = b := ⟨_, rfl⟩
  obtain ⟨n3, b4⟩ : ∃ b, (a3 != 0) = b := ⟨_, rfl⟩
  obtain ⟨e9, b5⟩ : ∃ b, ((n : Int) == 9) = b := ⟨_, rfl⟩
  obtain ⟨g3, b6⟩ : ∃ b, decide (1 < a3) = b := ⟨_, rfl⟩
  go_cut [77] (fun v77 wc => v77 = .bool (t2 && n2 || t3 && n3 || e9 && g3) ∧ Aside0 (Below w1.heap.size w1 wc))
  case first => as_aux_lemma =>
    clear HG HP H4 H5 H6
    go_wp2
    all_goals (go_meet; refine ⟨?_, ⟨by repeat (first | exact Below.refl _ _ | apply pw_below_drewN)⟩⟩; simp [*])
  case rest => as_aux_lemma =>
    obtain ⟨rfl, HBC⟩ := hcut
    have HNO := Aside0.mk (ref_noughts (nk := nk) (a1 := a1) (a2 := a2) (a3 := a3) (ref_nk n hn1 hn2 HP.out))
    have HLA := Aside0.mk (ref_last n a3 l4 l6)
    rw [b1, b2, b3, b4] at HNO
    rw [b5, b6] at HLA
    have BMA := Aside0.mk (blk_below BM.out HBC.out)
    have HBA := Aside0.mk (below_step HB1.out HBC.out)
    clear HBC HB1 BM hm0 hm1 hm2 hm3 hm4 hm5 hm6 b1 b2 b3 b4 b5 b6 z1 z2 z3 z4 z5 z6 z7 z8 HNUM
    have hm0 : wc.cell? ⟨gm, 0, none⟩ = some (.int .i64 (n : Int)) := (blk_cell BMA.out 0).trans rfl
    have hm4 : wc.cell? ⟨gm, 4, none⟩ = some (.slice A4 l4.length c4) := (blk_cell BMA.out 4).trans rfl
    have hm5 : wc.cell? ⟨gm, 5, none⟩ = some (.slice A5 l5.length c5) := (blk_cell BMA.out 5).trans rfl
    have hm6 : wc.cell? ⟨gm, 6, none⟩ = some (.slice A6 l6.length c6) := (blk_cell BMA.out 6).trans rfl
    obtain ⟨q1, hq1⟩ : ∃ q1, (t2 && n2 || t3 && n3) = q1 := ⟨_, rfl⟩
    obtain ⟨q2, hq2⟩ : ∃ q2, (e9 && g3) = q2 := ⟨_, rfl⟩
    rw [hq1] at HNO
    rw [hq2] at HLA
    rw [hq1, hq2]
    clear hq1 hq2
    cases q1 with
    | true =>
      obtain rfl := g_false HG.out (.inl HNO.out)
      clear HG HNO HLA
      rw [Bool.true_or]
      go_wp2
      go_ret
      exact ⟨rfl, uB⟩
    | false =>
      cases q2 with
      | true =>
        obtain rfl := g_false HG.out (.inr (.inr (.inr (.inr (.inr (by rw [HLA.out]; simp))))))
        clear HG HNO HLA
        rw [Bool.false_or]
        go_wp2
        go_ret
        exact ⟨rfl, uB⟩
      | false =>
        rw [Bool.false_or]
        go_upto_region 6 with (fail)
        obtain ⟨f1, f2, f3⟩ := ref_flags n hn1 hn2 HP.out
        obtain ⟨e1, d1⟩ : ∃ b, ((n : Int) == 1) = b := ⟨_, rfl⟩
        obtain ⟨e3, d3⟩ : ∃ b, ((n : Int) == 3) = b := ⟨_, rfl⟩
        obtain ⟨e4, d4⟩ : ∃ b, ((n : Int) == 4) = b := ⟨_, rfl⟩
        obtain ⟨e5, d5⟩ : ∃ b, ((n : Int) == 5) = b := ⟨_, rfl⟩
        obtain ⟨e6, d6⟩ : ∃ b, ((n : Int) == 6) = b := ⟨_, rfl⟩
        obtain ⟨e7, d7⟩ : ∃ b, ((n : Int) == 7) = b := ⟨_, rfl⟩
        rw [d5, d6] at f1
        rw [d4, d7] at f2
        rw [d1, d3, d5] at f3
        rw [d1, d5, d6, Bool.or_false] at HLA
        have F1 := Aside0.mk f1
        have F2 := Aside0.mk f2
        have F3 := Aside0.mk f3
        clear f1 f2 f3
        go_cut [4] (fun v4 wd => v4 = .bool (e5 || e6) ∧ wd = wc)
        case first => as_aux_lemma =>
          cases e5 <;> cases e6 <;> (go_wp2; go_meet; exact ⟨rfl, rfl⟩)
        case rest => as_aux_lemma =>
          obtain ⟨rfl, rfl⟩ := hcut
          rw [F1.out]
          go_upto_region 7 with (fail)
          go_cut [5] (fun v5 we => v5 = .bool (e4 || e7) ∧ we = wc)
          case first => as_aux_lemma =>
            cases e4 <;> cases e7 <;> (go_wp2; go_meet; exact ⟨rfl, rfl⟩)
          case rest => as_aux_lemma =>
            obtain ⟨rfl, rfl⟩ := hcut
            rw [F2.out]
            go_upto_region 8 with (fail)
            go_cut [6] (fun v6 wf => v6 = .bool (e1 || e3 || e5) ∧ wf = wc)
            case first => as_aux_lemma =>
              cases e1 <;> cases e3 <;> cases e5 <;> (go_wp2; go_meet; exact ⟨rfl, rfl⟩)
            case rest => as_aux_lemma =>
              obtain ⟨rfl, rfl⟩ := hcut
              rw [F3.out]
              clear F1 F2 F3 d4 d7 d3 e4 e7 e3
              go_upto_region 9 with (fail)
              obtain ⟨L4, g4⟩ : ∃ b, decide (0 < l4.length) = b := ⟨_, rfl⟩
              obtain ⟨L5, g5⟩ : ∃ b, decide (0 < l5.length) = b := ⟨_, rfl⟩
              obtain ⟨L6, g6⟩ : ∃ b, decide (0 < l6.length) = b := ⟨_, rfl⟩
              have k4 : decide ((0 : Int) < (l4.length : Int)) = L4 := by rw [← g4]; simp
              have k5 : decide ((0 : Int) < (l5.length : Int)) = L5 := by rw [← g5]; simp
              have k6 : decide ((0 : Int) < (l6.length : Int)) = L6 := by rw [← g6]; simp
              go_cut [4, 5, 6, 134] (fun _ _ _ v134 wf => v134 = .bool (!ik && L4 || !rk && L5 || !tk && L6) ∧ wf = wc)
              case first => as_aux_lemma =>
                go_wp2
                all_goals (go_meet; refine ⟨?_, rfl⟩; simp [*])
              case rest => as_aux_lemma =>
                obtain ⟨rfl, rfl⟩ := hcut
                have may4 := fun b => show wire_may l4.length ik b = (decide (l4.length ≤ 16384) && (ik || decide (l4.length = 0)) && b) from rfl
                have may5 := fun b => show wire_may l5.length rk b = (decide (l5.length ≤ 16384) && (rk || decide (l5.length = 0)) && b) from rfl
                have may6 := fun b => show wire_may l6.length tk b = (decide (l6.length ≤ 16384) && (tk || decide (l6.length = 0)) && b) from rfl
                rw [show decide (l4.length = 0) = !L4 from by rw [← g4, Bool.eq_iff_iff]; simp] at may4
                rw [show decide (l5.length = 0) = !L5 from by rw [← g5, Bool.eq_iff_iff]; simp] at may5
                rw [show decide (l6.length = 0) = !L6 from by rw [← g6, Bool.eq_iff_iff]; simp] at may6
                have MY4 := Aside0.mk may4
                have MY5 := Aside0.mk may5
                have MY6 := Aside0.mk may6
                clear may4 may5 may6 g4 g5 g6 k4 k5 k6
                obtain ⟨p4, hp4⟩ : ∃ b, (ik || !L4) = b := ⟨_, rfl⟩
                obtain ⟨p5, hp5⟩ : ∃ b, (rk || !L5) = b := ⟨_, rfl⟩
                obtain ⟨p6, hp6⟩ : ∃ b, (tk || !L6) = b := ⟨_, rfl⟩
                rw [show (!ik && L4) = !p4 from by rw [← hp4]; cases ik <;> cases L4 <;> rfl, show (!rk && L5) = !p5 from by rw [← hp5]; cases rk <;> cases L5 <;> rfl, show (!tk && L6) = !p6 from by rw [← hp6]; cases tk <;> cases L6 <;> rfl]
                rw [hp4] at MY4
                rw [hp5] at MY5
                rw [hp6] at MY6
                clear hp4 hp5 hp6
                by_cases hbad : (!p4 || !p5 || !p6) = true
                · have hr : r = false := g_false HG.out (by
                    cases p4 with
                    | false => exact .inr (.inl (by rw [MY4.out]; simp))
                    | true =>
                      cases p5 with
                      | false => exact .inr (.inr (.inl (by rw [MY5.out]; simp)))
                      | true =>
                        cases p6 with
                        | false => exact .inr (.inr (.inr (.inl (fun b _ => by rw [MY6.out]; simp))))
                        | true => exact absurd hbad (by decide))
                  subst hr
                  rw [hbad]
                  clear HG HNO HLA MY4 MY5 MY6 hbad
                  go_wp2
                  go_ret
                  exact ⟨rfl, uB⟩
                · obtain ⟨rfl, rfl, rfl⟩ : p4 = true ∧ p5 = true ∧ p6 = true := by
                    cases p4 <;> cases p5 <;> cases p6 <;> first | exact ⟨rfl, rfl, rfl⟩ | exact absurd rfl hbad
                  clear hbad
                  rw [show (!true || !true || !true) = false from rfl]
                  go_upto_region 11 with (fail)
                  obtain ⟨M4, g4⟩ : ∃ b, decide ((16384 : Int) < (l4.length : Int)) = b := ⟨_, rfl⟩
                  obtain ⟨M5, g5⟩ : ∃ b, decide ((16384 : Int) < (l5.length : Int)) = b := ⟨_, rfl⟩
                  obtain ⟨M6, g6⟩ : ∃ b, decide ((16384 : Int) < (l6.length : Int)) = b := ⟨_, rfl⟩
                  go_cut [150] (fun v150 wf => v150 = .bool (M4 || M5 || M6) ∧ wf = wc)
                  case first => as_aux_lemma =>
                    go_wp2
                    all_goals (go_meet; refine ⟨?_, rfl⟩; simp [*])
                  case rest => as_aux_lemma =>
                    obtain ⟨rfl, rfl⟩ := hcut
                    rw [show decide (l4.length ≤ 16384) = !M4 from by rw [← g4, Bool.eq_iff_iff]; simp; omega] at MY4
                    rw [show decide (l5.length ≤ 16384) = !M5 from by rw [← g5, Bool.eq_iff_iff]; simp; omega] at MY5
                    rw [show decide (l6.length ≤ 16384) = !M6 from by rw [← g6, Bool.eq_iff_iff]; simp; omega] at MY6
                    clear g4 g5 g6
                    by_cases hbad : (M4 || M5 || M6) = true
                    · have hr : r = false := g_false HG.out (by
                        cases M4 with
                        | true => exact .inr (.inl (by rw [MY4.out]; simp))
                        | false =>
                          cases M5 with
                          | true => exact .inr (.inr (.inl (by rw [MY5.out]; simp)))
                          | false =>
                            cases M6 with
                            | true => exact .inr (.inr (.inr (.inl (fun b _ => by rw [MY6.out]; simp))))
                            | false => exact absurd hbad (by decide))
                      subst hr
                      rw [hbad]
                      clear HG HNO HLA MY4 MY5 MY6 hbad
                      go_wp2
                      go_ret
                      exact ⟨rfl, uB⟩
                    · obtain ⟨rfl, rfl, rfl⟩ : M4 = false ∧ M5 = false ∧ M6 = false := by
                        cases M4 <;> cases M5 <;> cases M6 <;> first | exact ⟨rfl, rfl, rfl⟩ | exact absurd rfl hbad
                      clear hbad
                      rw [show (false || false || false) = false from rfl]
                      go_upto_region 13 with (fail)
                      obtain ⟨k1, g1⟩ : ∃ b, ((l6.length : Int) != 1) = b := ⟨_, rfl⟩
                      obtain ⟨k5, g5⟩ : ∃ b, ((l6.length : Int) != (l4.length : Int)) = b := ⟨_, rfl⟩
                      obtain ⟨k6, g6⟩ : ∃ b, ((l4.length : Int) == 0) = b := ⟨_, rfl⟩
                      have g1' : (l6.length != 1) = k1 := by rw [← g1]; exact ref_bne_one _
                      have g5' : (l6.length != l4.length) = k5 := by rw [← g5]; exact ref_bne_nn _ _
                      have g6' : (l4.length == 0) = k6 := by rw [← g6]; exact ref_beq_zero _
                      rw [g1, g5, g6] at HLA
                      go_cut [184] (fun v184 wf => v184 = .bool (e1 && k1 || e5 && k5 || e6 && k6) ∧ wf = wc)
                      case first => as_aux_lemma =>
                        go_wp2
                        all_goals (go_meet; refine ⟨?_, rfl⟩; simp [*])
                      case rest => as_aux_lemma =>
                        obtain ⟨rfl, rfl⟩ := hcut
                        clear g1 g5 g6 g1' g5' g6' d1 d5 d6
                        by_cases hbad : (e1 && k1 || e5 && k5 || e6 && k6) = true
                        · have hr : r = false := g_false HG.out (.inr (.inr (.inr (.inr (.inr (by rw [HLA.out, hbad]; rfl))))))
                          subst hr
                          rw [hbad]
                          clear HG HNO HLA MY4 MY5 MY6 hbad
                          go_wp2
                          go_ret
                          exact ⟨rfl, uB⟩
                        · rw [Bool.eq_false_iff.mpr hbad] at HLA ⊢
                          clear hbad
                          go_wp2
                          go_loopg [7] l4.length (fun gg v7 wr => ∃ i : Nat, v7 = .int .i64 (i : Int) ∧ i ≤ l4.length ∧ l4.length - i ≤ gg ∧ Aside0 (∀ j, j < i → wire_ok (l4.getD j 0) = true) ∧ wr = wc)
                          case atStart => exact ⟨0, rfl, by omega, by omega, ⟨fun j hj => absurd hj (Nat.not_lt_zero _)⟩, rfl⟩
                          case round => as_aux_lemma =>
                            obtain ⟨i, rfl, hi, hgg, HJ, rfl⟩ := hrel
                            have hbig : l4.length ≤ 9223372036854775807 := H4.out.C.2.1
                            by_cases hlt : i < l4.length
                            · have hltz : (i : Int) < (l4.length : Int) := by omega
                              have h0z : (0 : Int) ≤ (i : Int) := by omega
                              obtain ⟨ad, hA, hcl⟩ := Kd.at_int (H4.out.below HBA.out).C (i : Int) h0z hltz
                              subst hA
                              simp only [Go.IntWalk.toNatUp] at hcl
                              rw [show rd l4 (i : Int) = l4.getD i 0 from rfl] at hcl
                              have hok : wire_ok (l4.getD i 0) = (decide (0 ≤ l4.getD i 0) && decide (l4.getD i 0 ≤ 1073741824)) := rfl
                              have hbadI : wire_ok (l4.getD i 0) = false → r = false := fun h => g_false HG.out (.inr (.inl (by rw [MY4.out, ints_false hlt h]; simp)))
                              generalize hxe : l4.getD i 0 = x at hcl hok hbadI
                              by_cases hx1 : x < 0
                              · have hxz : decide (x < 0) = true := decide_eq_true hx1
                                have hr := hbadI (by rw [hok, decide_eq_false (by omega)]; rfl)
                                subst hr
                                clear hbadI hok hx1 hxe HG HNO HLA MY4 MY5 MY6
                                go_wp2
                                go_ret
                                exact ⟨rfl, uB⟩
                              · have hxz : decide (x < 0) = false := decide_eq_false hx1
                                by_cases hx2 : 1073741824 < x
                                · have hyz : decide ((1073741824 : Int) < x) = true := decide_eq_true hx2
                                  have hr := hbadI (by rw [hok, decide_eq_false (show ¬ x ≤ 1073741824 by omega)]; simp)
                                  subst hr
                                  clear hbadI hok hx1 hx2 hxe HG HNO HLA MY4 MY5 MY6
                                  go_wp2
                                  go_ret
                                  exact ⟨rfl, uB⟩
                                · have hyz : decide ((1073741824 : Int) < x) = false := decide_eq_false hx2
                                  have HXK := Aside0.mk (show wire_ok x = true from by rw [hok, decide_eq_true (show 0 ≤ x by omega), decide_eq_true (show x ≤ 1073741824 by omega)]; rfl)
                                  have HXE := Aside0.mk hxe.symm
                                  clear hbadI hok hx1 hx2 hxe
                                  go_wp2
                                  go_roundg (l4.length - (i + 1))
                                  case measure => omega
                                  case rel => exact ⟨i + 1, by go_num, by omega, by omega, ⟨fun j hj => by rcases Nat.lt_succ_iff_lt_or_eq.mp hj with h | h; exact HJ.out j h; rw [h, ← HXE.out]; exact HXK.out⟩, rfl⟩
                            · have hltz : ¬ (i : Int) < (l4.length : Int) := by omega
                              have HI4 := Aside0.mk (ints_true (l := l4) (fun j hj => HJ.out j (by omega)))
                              clear HJ
                              go_wp2
                              go_loopg [8] l5.length (fun gg v8 wr => ∃ i : Nat, v8 = .int .i64 (i : Int) ∧ i ≤ l5.length ∧ l5.length - i ≤ gg ∧ Aside0 (∀ j, j < i → wire_ok (l5.getD j 0) = true) ∧ Aside0 (∀ j, j < i → 0 < j → l5.getD (j - 1) 0 < l5.getD j 0) ∧ Aside0 (wr.heap[gm]? = some (.cells #[.int .i64 (n : Int), .int .i64 a1, .int .i64 a2, .int .i64 a3, .slice A4 l4.length c4, .slice A5 l5.length c5, .slice A6 l6.length c6] 25 (0, 0))) ∧ Aside0 (Below w.heap.size w wr))
                              case atStart => exact ⟨0, rfl, by omega, by omega, ⟨fun j hj => absurd hj (Nat.not_lt_zero _)⟩, ⟨fun j hj => absurd hj (Nat.not_lt_zero _)⟩, BMA, HBA⟩
                              case round => as_aux_lemma =>
                                clear hm0 hm4 hm5 hm6 BMA HBA hltz hbig hi
                                obtain ⟨i, rfl, hi, hgg, HJ, HJ2, BM9, HB9⟩ := hrel
                                have hbig : l5.length ≤ 9223372036854775807 := H5.out.C.2.1
                                have hm5 : wr.cell? ⟨gm, 5, none⟩ = some (.slice A5 l5.length c5) := (blk_cell BM9.out 5).trans rfl
                                by_cases hlt : i < l5.length
                                · have hltz : (i : Int) < (l5.length : Int) := by omega
                                  have h0z : (0 : Int) ≤ (i : Int) := by omega
                                  have hC := (H5.out.below HB9.out).C
                                  obtain ⟨ad, hA, hc1⟩ := Kd.at_int hC (i : Int) h0z hltz
                                  subst hA
                                  simp only [Go.IntWalk.toNatUp] at hc1
                                  rw [show rd l5 (i : Int) = l5.getD i 0 from rfl] at hc1
                                  have hok : wire_ok (l5.getD i 0) = (decide (0 ≤ l5.getD i 0) && decide (l5.getD i 0 ≤ 1073741824)) := rfl
                                  have hbadI : wire_ok (l5.getD i 0) = false → r = false := fun h => g_false HG.out (.inr (.inr (.inl (by rw [MY5.out, ints_false hlt h]; simp))))
                                  have hbadJ : 0 < i → l5.getD i 0 ≤ l5.getD (i - 1) 0 → r = false := fun h0 h => g_false HG.out (.inr (.inr (.inr (.inr (.inl (wire_incr_not hlt h0 h))))))
                                  obtain ⟨x, hx⟩ : ∃ x, x = l5.getD i 0 := ⟨_, rfl⟩
                                  rw [← hx] at hc1 hok hbadI hbadJ
                                  have HX := Aside0.mk hx
                                  clear hx
                                  by_cases hx1 : x < 0
                                  · have hxz : decide (x < 0) = true := decide_eq_true hx1
                                    have hr := hbadI (by rw [hok, decide_eq_false (by omega)]; rfl)
                                    subst hr
                                    clear hbadI hbadJ hok hx1 HG HNO HLA MY4 MY5 MY6 hC
                                    go_wp2
                                    go_quiet (fail)
                                    go_wp2
                                    go_ret
                                    exact ⟨rfl, uB⟩
                                  · have hxz : decide (x < 0) = false := decide_eq_false hx1
                                    by_cases hx2 : 1073741824 < x
                                    · have hyz : decide ((1073741824 : Int) < x) = true := decide_eq_true hx2
                                      have hr := hbadI (by rw [hok, decide_eq_false (show ¬ x ≤ 1073741824 by omega)]; simp)
                                      subst hr
                                      clear hbadI hbadJ hok hx1 hx2 HG HNO HLA MY4 MY5 MY6 hC
                                      go_wp2
                                      go_quiet (fail)
                                      go_wp2
                                      go_ret
                                      exact ⟨rfl, uB⟩
                                    · have hyz : decide ((1073741824 : Int) < x) = false := decide_eq_false hx2
                                      have HXK := Aside0.mk (show wire_ok x = true from by rw [hok, decide_eq_true (show 0 ≤ x by omega), decide_eq_true (show x ≤ 1073741824 by omega)]; rfl)
                                      clear hbadI hok hx1 hx2
                                      by_cases h0 : i = 0
                                      · have h0y : decide (0 < i) = false := decide_eq_false (by omega)
                                        have h0x : decide ((0 : Int) < (i : Int)) = false := decide_eq_false (by omega)
                                        have HI := Aside0.mk h0
                                        clear h0 hC hbadJ
                                        go_wp2
                                        go_quiet (fail)
                                        go_wp2
                                        go_roundg (l5.length - (i + 1))
                                        case measure => omega
                                        case rel => exact ⟨i + 1, by go_num, by omega, by omega, ⟨fun j hj => by rcases Nat.lt_succ_iff_lt_or_eq.mp hj with h | h; exact HJ.out j h; rw [h, ← HX.out]; exact HXK.out⟩, ⟨fun j hj hj0 => by have := HI.out; omega⟩, ⟨uK BM9.out⟩, ⟨uB⟩⟩
                                      · have h0x : decide ((0 : Int) < (i : Int)) = true := decide_eq_true (by omega)
                                        have h0y : decide (0 < i) = true := decide_eq_true (by omega)
                                        obtain ⟨ad2, hA2, hc2⟩ := Kd.at_int hC ((i : Int) - 1) (by omega) (by omega)
                                        obtain rfl : ad = ad2 := by injection hA2
                                        clear hA2 hC
                                        rw [show ((i : Int) - 1).toNat = i - 1 from by omega] at hc2
                                        rw [show rd l5 ((i : Int) - 1) = l5.getD (i - 1) 0 from by show l5.getD ((i : Int) - 1).toNat 0 = _; rw [show ((i : Int) - 1).toNat = i - 1 from by omega]] at hc2
                                        obtain ⟨y, hy⟩ : ∃ y, y = l5.getD (i - 1) 0 := ⟨_, rfl⟩
                                        rw [← hy] at hc2 hbadJ
                                        have HY := Aside0.mk hy
                                        have HI := Aside0.mk h0
                                        have p1 : (0 : Int) ≤ (i : Int) - 1 := by omega
                                        have p2 : (i : Int) - 1 < (l5.length : Int) := by omega
                                        have p3 : ((i : Int) - 1).toNat = i - 1 := by omega
                                        have p4 : IntKind.i64.wrap ((i : Int) - 1) = (i : Int) - 1 := by rw [i64_w]; unfold wrap64; omega
                                        clear hy h0
                                        by_cases hxy : x ≤ y
                                        · have hxyz : decide (x ≤ y) = true := decide_eq_true hxy
                                          have hr := hbadJ (by have := HI.out; omega) hxy
                                          subst hr
                                          clear hbadJ hxy HG HNO HLA MY4 MY5 MY6
                                          go_wp2
                                          go_quiet (fail)
                                          go_wp2
                                          go_ret
                                          exact ⟨rfl, uB⟩
                                        · have hxyz : decide (x ≤ y) = false := decide_eq_false hxy
                                          have HLT := Aside0.mk (show l5.getD (i - 1) 0 < l5.getD i 0 from by rw [← HX.out, ← HY.out]; omega)
                                          clear hxy hbadJ
                                          go_wp2
                                          go_quiet (fail)
                                          clear p4
                                          go_wp2
                                          go_roundg (l5.length - (i + 1))
                                          case measure => omega
                                          case rel => exact ⟨i + 1, by go_num, by omega, by omega, ⟨fun j hj => by rcases Nat.lt_succ_iff_lt_or_eq.mp hj with h | h; exact HJ.out j h; rw [h, ← HX.out]; exact HXK.out⟩, ⟨fun j hj hj0 => by rcases Nat.lt_succ_iff_lt_or_eq.mp hj with h | h; exact HJ2.out j h hj0; rw [h]; exact HLT.out⟩, ⟨uK BM9.out⟩, ⟨uB⟩⟩
                                · have hltz : ¬ (i : Int) < (l5.length : Int) := by omega
                                  obtain ⟨b, hb, hr⟩ := g_true HG.out (by rw [HNO.out]; rfl) (by rw [MY4.out, HI4.out]; rfl) (by rw [MY5.out, ints_true (l := l5) (fun j hj => HJ.out j (by omega))]; rfl)
                                  have hrb : r = b := by
                                    rw [hr, wire_incr_of (l := l5) (fun j hj hj0 => HJ2.out j (by omega) hj0), HLA.out]
                                    show (wire_may l6.length tk b && (true && !false)) = b
                                    rw [MY6.out]
                                    cases b <;> rfl
                                  obtain ⟨kx, _, hk1, hk2, hk3, hk4⟩ := wire_nats.ix_of hb
                                  subst hrb
                                  have HK2 := Aside0.mk hk2
                                  have HK3 := Aside0.mk hk3
                                  have HK4 := Aside0.mk hk4
                                  clear HG HNO HLA MY4 MY5 MY6 HJ HJ2 hb hr hk2 hk3 hk4 HI4
                                  go_wp2
                                  go_loopg [9] l6.length (fun gg v9 wr => ∃ i : Nat, v9 = .int .i64 (i : Int) ∧ i ≤ kx ∧ l6.length - i ≤ gg ∧ Aside0 (wr.heap[gm]? = some (.cells #[.int .i64 (n : Int), .int .i64 a1, .int .i64 a2, .int .i64 a3, .slice A4 l4.length c4, .slice A5 l5.length c5, .slice A6 l6.length c6] 25 (0, 0))) ∧ Aside0 (Below w.heap.size w wr))
                                  case atStart => exact ⟨0, rfl, by omega, by omega, BM9, HB9⟩
                                  case round => as_aux_lemma =>
                                    clear hm5 BM9 HB9 hltz hbig hi
                                    obtain ⟨i, rfl, hi, hgg, BM9, HB9⟩ := hrel
                                    have hbig : l6.length ≤ 9223372036854775807 := H6.out.1.2.1
                                    have hm6 : wr.cell? ⟨gm, 6, none⟩ = some (.slice A6 l6.length c6) := (blk_cell BM9.out 6).trans rfl
                                    by_cases hlt : i < l6.length
                                    · have hltz : (i : Int) < (l6.length : Int) := by omega
                                      have h0z : (0 : Int) ≤ (i : Int) := by omega
                                      obtain ⟨ad, c, hA, _, hKK, hc⟩ := Kd.C_get (Kd.C_below H6.out.1 HB9.out) ([] : List Int) (i : Int) h0z hltz
                                      obtain ⟨Ae, ce, rfl, hle, hie⟩ := hKK
                                      subst hA
                                      have hcl := hc 0 _ rfl
                                      rw [Nat.add_zero, show (Kd.slice 37 (Kd.int .u64)).sz = 1 from rfl, Nat.mul_one] at hcl
                                      simp only [Go.IntWalk.toNatUp] at hcl hle hie
                                      have h3 := HK3.out i
                                      have h4 := HK4.out
                                      have hone : wire_nats.one (l6.getD i []) = (windbreakref01_Right.f (l6.getD i [])).bind fun b => some (b && decide (((l6.getD i []).length : Int) ≤ 4)) := rfl
                                      have h4' : i = kx → wire_nats.one (l6.getD i []) = some false := fun e => by rw [e]; exact h4 (by omega)
                                      generalize l6.getD i [] = x at hcl hle hie h3 h4' hone
                                      have HE := Aside0.mk (And.intro hie hle)
                                      clear hie hle hc h4
                                      by_cases hik : i < kx
                                      · have ho := h3 hik
                                        rw [hone] at ho
                                        obtain ⟨b, hb, ho⟩ := Option.bind_eq_some_iff.mp ho
                                        have ho := Option.some.inj ho
                                        rw [Bool.and_eq_true, decide_eq_true_eq] at ho
                                        obtain ⟨rfl, hlen⟩ := ho
                                        have hlz : decide ((4 : Int) < (x.length : Int)) = false := decide_eq_false (by omega)
                                        have HBX := Aside0.mk hb
                                        clear h3 h4' hone hb hlen
                                        go_wp2_with (go_at_call 45; ((with_reducible refine (windbreakref01_Right.calls Ae ce x true _ HE.out.1 HE.out.2 HBX.out).mono ?_); rintro e w2 ⟨rfl, ⟨y, rfl⟩⟩))
                                        go_roundg (l6.length - (i + 1))
                                        case measure => omega
                                        case rel => exact ⟨i + 1, by go_num, by omega, by omega, ⟨uK BM9.out⟩, ⟨uB⟩⟩
                                      · have hr : r = false := by
                                          cases r with
                                          | false => rfl
                                          | true => have := HK2.out.1 rfl; omega
                                        have ho := h4' (by omega)
                                        rw [hone] at ho
                                        obtain ⟨b, hb, ho⟩ := Option.bind_eq_some_iff.mp ho
                                        have ho := Option.some.inj ho
                                        have HBX := Aside0.mk hb
                                        have HR := Aside0.mk hr
                                        clear h3 h4' hone hb hr
                                        cases b with
                                        | false =>
                                          clear ho
                                          go_wp2_with (go_at_call 45; ((with_reducible refine (windbreakref01_Right.calls Ae ce x false _ HE.out.1 HE.out.2 HBX.out).mono ?_); rintro e w2 ⟨rfl, ⟨y, rfl⟩⟩))
                                          go_ret
                                          exact ⟨wire_ret HR.out.symm, uB⟩
                                        | true =>
                                          rw [Bool.true_and] at ho
                                          have hlz : decide ((4 : Int) < (x.length : Int)) = true := decide_eq_true (by have := of_decide_eq_false ho; omega)
                                          clear ho
                                          go_wp2_with (go_at_call 45; ((with_reducible refine (windbreakref01_Right.calls Ae ce x true _ HE.out.1 HE.out.2 HBX.out).mono ?_); rintro e w2 ⟨rfl, ⟨y, rfl⟩⟩))
                                          go_ret
                                          exact ⟨wire_ret HR.out.symm, uB⟩
                                    · have hltz : ¬ (i : Int) < (l6.length : Int) := by omega
                                      have HR := Aside0.mk (HK2.out.2 (by omega))
                                      go_wp2
                                      go_ret
                                      exact ⟨wire_ret HR.out.symm, uB⟩
def windbreakref12_Right.f (a0 a1 a2 a3 : Int) (l4 l5 : List Int) (l6 : List (List Int)) : Option Bool := wire_Right.f a0 a1 a2 a3 l4 l5 l6
theorem windbreakref12_Right.calls (a0 a1 a2 a3 : Int) (A4 : Option Addr) (c4 : Nat) (l4 : List Int) (A5 : Option Addr) (c5 : Nat) (l5 : List Int) (A6 : Option Addr) (c6 : Nat) (l6 : List (List Int)) (r : Bool) (w : World) (hr4 : Kd.C (Kd.int .i64) w A4 l4.length l4) (hc4 : l4.length ≤ c4) (hr5 : Kd.C (Kd.int .i64) w A5 l5.length l5) (hc5 : l5.length ≤ c5) (hr6 : Kd.C (Kd.slice 37 (Kd.int .u64)) w A6 l6.length l6) (hc6 : l6.length ≤ c6) (h : windbreakref12_Right.f a0 a1 a2 a3 l4 l5 l6 = some r) :
    Calls Try.prog 17 #[.agg #[.int .i64 a0, .int .i64 a1, .int .i64 a2, .int .i64 a3, .slice A4 l4.length c4, .slice A5 l5.length c5, .slice A6 l6.length c6]] w fun e w' => e = .returned (.bool r) ∧ Below w.heap.size w w' := by
  unfold windbreakref12_Right.f wire_Right.f at h
  by_cases hc : 1 ≤ a0 ∧ a0 < 12 ∧ wire_ok a1 = true ∧ wire_ok a2 = true ∧ wire_ok a3 = true
  · rw [if_pos hc] at h
    obtain ⟨h0, h0', q1, q2, q3⟩ := hc
    obtain ⟨n, rfl⟩ := Int.eq_ofNat_of_zero_le (show 0 ≤ a0 by omega)
    rw [Int.toNat_natCast] at h
    have ok : ∀ {x : Int}, wire_ok x = true → 0 ≤ x ∧ x ≤ 1073741824 := by
      intro x hx
      unfold wire_ok at hx
      simpa [Bool.and_eq_true] using hx
    exact ref_Right.good n (wire_kindOf n).1 (wire_kindOf n).2.1 (wire_kindOf n).2.2.1 (wire_kindOf n).2.2.2 a1 a2 a3 A4 c4 l4 A5 c5 l5 A6 c6 l6 w (by omega) (by omega) (ok q1) (ok q2) (ok q3) rfl r h ⟨hr4, hc4⟩ ⟨hr5, hc5⟩ ⟨hr6, hc6⟩
  · rw [if_neg hc] at h
    obtain rfl := Option.some.inj h
    exact ref_Right.bad a0 a1 a2 a3 A4 c4 l4 A5 c5 l5 A6 c6 l6 w hc
end Go.Proofs.Ytanmfddlncdncab.F
end
section
namespace Go.Proofs.Ytanmfddlncdncab.F
open Go.RowKit Go.Proofs.YtanmfddlncdncabW.PrintWords Go.Proofs.YtanmfddlncdncabW.PrintLast Go.Proofs.YtanmfddlncdncabW.PrintMore
attribute [local go_sem] max2_int min2_int max_two min_two max_three min_three max_four min_four
set_option linter.unusedVariables false
set_option linter.unusedSimpArgs false
mutual
def windbreakref12_Encode.l0 : Nat → List Int → List Int → Int → Int → Int → Int → Int → List Int → List Int → List (List Int) → Option (List Int × Int)
 | 0, _, _, _, _, _, _, _, _, _, _ => none
 | k + 1, x5, x6, x7, x194000, x194001, x194002, x194003, x194004, x194005, x194006 => if x7 < 4 then (if 0 ≤ x7 then (if x7 < (x6.length : Int) then ((windbreakref09_Number.f k (IntKind.u64.wrap (rd x6 x7))).bind fun t199 => (if x5.length + t199.length < 140737488355328 then (windbreakref12_Encode.l0 k (x5 ++ t199) x6 (wrap64 (x7 + 1)) x194000 x194001 x194002 x194003 x194004 x194005 x194006) else (none))) else (none)) else (none)) else ((windbreakref12_list.f k x194004).bind fun t205 => (if x5.length + t205.length < 140737488355328 then ((some (x5 ++ t205 : List Int)).bind fun y208 => ((windbreakref12_list.f k x194005).bind fun t211 => (if y208.length + t211.length < 140737488355328 then ((some (y208 ++ t211 : List Int)).bind fun y214 => ((windbreakref09_Number.f k (IntKind.u64.wrap ((x194006.length : Int)))).bind fun t217 => (if y214.length + t217.length < 140737488355328 then (windbreakref12_Encode.l1 k (y214 ++ t217) 0 x194000 x194001 x194002 x194003 x194004 x194005 x194006) else (none)))) else (none)))) else (none)))
def windbreakref12_Encode.l1 : Nat → List Int → Int → Int → Int → Int → Int → List Int → List Int → List (List Int) → Option (List Int × Int)
 | 0, _, _, _, _, _, _, _, _, _ => none
 | k + 1, x5, x8, x194000, x194001, x194002, x194003, x194004, x194005, x194006 => if x8 < (x194006.length : Int) then (if 0 ≤ x8 then ((windbreakref01_Bytes.f k (rd_L3 x194006 x8)).bind fun t224 => ((windbreakref09_Bytes.f k t224).bind fun t227 => (if x5.length + t227.length < 140737488355328 then (windbreakref12_Encode.l1 k (x5 ++ t227) (wrap64 (x8 + 1)) x194000 x194001 x194002 x194003 x194004 x194005 x194006) else (none)))) else (none)) else (if (x5.length : Int) > 1048576 then (some (([] : List Int), 16)) else (some (x5, 0)))
end
def windbreakref12_Encode.f (k : Nat) (a0_0 : Int) (a0_1 : Int) (a0_2 : Int) (a0_3 : Int) (l0_4 : List Int) (l0_5 : List Int) (l0_6 : List (List Int)) : Option (List Int × Int) := (windbreakref12_Right.f a0_0 a0_1 a0_2 a0_3 l0_4 l0_5 l0_6).bind fun t194 => (if t194 = true then (windbreakref12_Encode.l0 k ([] : List Int) (([a0_0, a0_1, a0_2, a0_3] : List Int)) 0 a0_0 a0_1 a0_2 a0_3 l0_4 l0_5 l0_6) else (some (([] : List Int), 16)))
set_option maxHeartbeats 8000000 in
set_option maxRecDepth 100000 in
theorem windbreakref12_Encode.calls (k : Nat) (a0_0 : Int) (a0_1 : Int) (a0_2 : Int) (a0_3 : Int) (A0_4 : Option Addr) (c0_4 : Nat) (l0_4 : List Int) (A0_5 : Option Addr) (c0_5 : Nat) (l0_5 : List Int) (A0_6 : Option Addr) (c0_6 : Nat) (l0_6 : List (List Int)) (r1 : List Int) (r2 : Int) (w : World) (hr0_4 : Kd.C (Kd.int .i64) w A0_4 l0_4.length l0_4) (hc0_4 : l0_4.length ≤ c0_4) (hr0_5 : Kd.C (Kd.int .i64) w A0_5 l0_5.length l0_5) (hc0_5 : l0_5.length ≤ c0_5) (hr0_6 : Kd.C (Kd.slice 37 (Kd.int .u64)) w A0_6 l0_6.length l0_6) (hc0_6 : l0_6.length ≤ c0_6) (h : windbreakref12_Encode.f k a0_0 a0_1 a0_2 a0_3 l0_4 l0_5 l0_6 = some (r1, r2)) :
  Calls Try.prog 8 #[.agg #[.int .i64 a0_0, .int .i64 a0_1, .int .i64 a0_2, .int .i64 a0_3, .slice A0_4 l0_4.length c0_4, .slice A0_5 l0_5.length c0_5, .slice A0_6 l0_6.length c0_6]] w fun e w' => ∃ v0_ : Value, e = .returned (.tuple #[v0_, .int .i64 r2]) ∧ Kd.R (Kd.int .u8) 5 w' w.heap.size (fun _ => True) v0_ r1 ∧ Below w.heap.size w w' := by
 have hu25 := Try.underlying25
 have HR0_4 := Aside0.mk hr0_4; have HC0_4 := Aside0.mk hc0_4; clear hr0_4 hc0_4; have HR0_5 := Aside0.mk hr0_5; have HC0_5 := Aside0.mk hc0_5; clear hr0_5 hc0_5; have HR0_6 := Aside0.mk hr0_6; have HC0_6 := Aside0.mk hc0_6; clear hr0_6 hc0_6
 have HB := Aside0.mk (Below.refl w.heap.size w)
 have H : ((windbreakref12_Right.f a0_0 a0_1 a0_2 a0_3 l0_4 l0_5 l0_6).bind fun t194 => (if t194 = true then (windbreakref12_Encode.l0 k ([] : List Int) (([a0_0, a0_1, a0_2, a0_3] : List Int)) 0 a0_0 a0_1 a0_2 a0_3 l0_4 l0_5 l0_6) else (some (([] : List Int), 16)))) = some (r1, r2) := h
 clear h
 replace H := ub H; obtain ⟨t194, A2, H⟩ := H
 by_cases c3 : t194 = true
 ·
  subst c3
  have H1 : (windbreakref12_Encode.l0 k ([] : List Int) (([a0_0, a0_1, a0_2, a0_3] : List Int)) 0 a0_0 a0_1 a0_2 a0_3 l0_4 l0_5 l0_6) = some (r1, r2) := by rw [if_pos rfl] at H; exact H
  clear H; have H := H1; clear H1
  obtain ⟨y195, hy195⟩ : ∃ y_ : List Int, y_ = (([a0_0, a0_1, a0_2, a0_3] : List Int)) := ⟨_, rfl⟩
  replace H : (windbreakref12_Encode.l0 k ([] : List Int) y195 0 a0_0 a0_1 a0_2 a0_3 l0_4 l0_5 l0_6) = some (r1, r2) := by first | (rw [hy195]; with_reducible exact H) | (have H2_ := (Option.bind_some _ _).symm.trans H; rw [hy195]; with_reducible exact H2_) | (have H2_ := (Option.bind_some _ _).symm.trans H; with_reducible exact H2_) | with_reducible exact H | (rw [hy195]; exact H) | exact H
  have Ny195 := Aside0.mk hy195; clear hy195
  have H' := Aside0.mk H
  clear H
  go_enter Try.func8, Try.ntmps8
  go_wp2_with (first | ((with_reducible refine gate_dst (N := 1) rfl ?_); refine box_event ?hg (N := 1) ?hd (cs := #[.int .i64 a0_0, .int .i64 a0_1, .int .i64 a0_2, .int .i64 a0_3, .slice A0_4 l0_4.length c0_4, .slice A0_5 l0_5.length c0_5, .slice A0_6 l0_6.length c0_6]) (t := 25) ?hr ?_; (case hd => rfl); (case hg => rfl); (case hr => first | (go_simp; done) | (go_simp; rfl)); intro gb193 hg w4 hbox hb; have BK193 := Aside0.mk (hbox); have GW193 := us hg; have GE193 := us hg; replace HB := uy hb; clear hb hbox hg; have hcz5_0 : w4.cell? ⟨gb193, 0, none⟩ = some (.int .i64 a0_0) := (blk_cell BK193.out 0).trans rfl; have hcz5_1 : w4.cell? ⟨gb193, 1, none⟩ = some (.int .i64 a0_1) := (blk_cell BK193.out 1).trans rfl; have hcz5_2 : w4.cell? ⟨gb193, 2, none⟩ = some (.int .i64 a0_2) := (blk_cell BK193.out 2).trans rfl; have hcz5_3 : w4.cell? ⟨gb193, 3, none⟩ = some (.int .i64 a0_3) := (blk_cell BK193.out 3).trans rfl; have hcz5_4 : w4.cell? ⟨gb193, 4, none⟩ = some (.slice A0_4 l0_4.length c0_4) := (blk_cell BK193.out 4).trans rfl; have hcz5_5 : w4.cell? ⟨gb193, 5, none⟩ = some (.slice A0_5 l0_5.length c0_5) := (blk_cell BK193.out 5).trans rfl; have hcz5_6 : w4.cell? ⟨gb193, 6, none⟩ = some (.slice A0_6 l0_6.length c0_6) := (blk_cell BK193.out 6).trans rfl; have hfz5_0 := blk_frozen BK193.out 0; have hfz5_1 := blk_frozen BK193.out 1; have hfz5_2 := blk_frozen BK193.out 2; have hfz5_3 := blk_frozen BK193.out 3; have hfz5_4 := blk_frozen BK193.out 4; have hfz5_5 := blk_frozen BK193.out 5; have hfz5_6 := blk_frozen BK193.out 6) | ((with_reducible refine gate_callee (f := 17) rfl ?_); refine goesL_ (some 10) rfl rfl Try.func17 (by kernel_rfl) rfl #[.agg #[.int .i64 a0_0, .int .i64 a0_1, .int .i64 a0_2, .int .i64 a0_3, .slice A0_4 l0_4.length c0_4, .slice A0_5 l0_5.length c0_5, .slice A0_6 l0_6.length c0_6]] rfl uM ?_; (with_reducible refine (windbreakref12_Right.calls a0_0 a0_1 a0_2 a0_3 _ _ l0_4 _ _ l0_5 _ _ l0_6 true _ ?side1 ?side2 ?side3 ?side4 ?side5 ?side6 A2.out).mono ?_); (case side1 => exact uC (Kd.C_below HR0_4.out HB.out)); (case side2 => exact HC0_4.out); (case side3 => exact uC (Kd.C_below HR0_5.out HB.out)); (case side4 => exact HC0_5.out); (case side5 => exact uC (Kd.C_below HR0_6.out HB.out)); (case side6 => exact HC0_6.out); rintro e w6 ⟨rfl, hb⟩; refine ⟨_, rfl, ?_⟩; replace BK193 := ux BK193 hb; replace HB := uy hb; (try clear hb); have hcz7_0 : w6.cell? ⟨gb193, 0, none⟩ = some (.int .i64 a0_0) := (blk_cell BK193.out 0).trans rfl; have hcz7_1 : w6.cell? ⟨gb193, 1, none⟩ = some (.int .i64 a0_1) := (blk_cell BK193.out 1).trans rfl; have hcz7_2 : w6.cell? ⟨gb193, 2, none⟩ = some (.int .i64 a0_2) := (blk_cell BK193.out 2).trans rfl; have hcz7_3 : w6.cell? ⟨gb193, 3, none⟩ = some (.int .i64 a0_3) := (blk_cell BK193.out 3).trans rfl; have hcz7_4 : w6.cell? ⟨gb193, 4, none⟩ = some (.slice A0_4 l0_4.length c0_4) := (blk_cell BK193.out 4).trans rfl; have hcz7_5 : w6.cell? ⟨gb193, 5, none⟩ = some (.slice A0_5 l0_5.length c0_5) := (blk_cell BK193.out 5).trans rfl; have hcz7_6 : w6.cell? ⟨gb193, 6, none⟩ = some (.slice A0_6 l0_6.length c0_6) := (blk_cell BK193.out 6).trans rfl; have hfz7_0 := blk_frozen BK193.out 0; have hfz7_1 := blk_frozen BK193.out 1; have hfz7_2 := blk_frozen BK193.out 2; have hfz7_3 := blk_frozen BK193.out 3; have hfz7_4 := blk_frozen BK193.out 4; have hfz7_5 := blk_frozen BK193.out 5; have hfz7_6 := blk_frozen BK193.out 6) | ((with_reducible refine gate_dst (N := 21) rfl ?_); refine Kd.R_lit (Kd.int .i64) _ 3 ?hg (N := 21) ?hd (xs := ([a0_0, a0_1, a0_2, a0_3] : List Int)) (inner := [.int .i64 a0_0, .int .i64 a0_1, .int .i64 a0_2, .int .i64 a0_3]) (ok := fun _ => True) (okp := fun _ => True) ?hr ?hp (fun _ hk => hk) trivial (Below.refl _ _) (Nat.le_refl _) (by simp) ?_; (case hd => rfl); (case hg => rfl); (case hr => first | (go_simp; done) | (go_simp; rfl) | (go_simp; simp only [u64_u8]; done) | (go_simp; simp only [u64_u8]; rfl)); (case hp => exact (Reps.one (show Kd.M (Kd.int .i64) _ _ _ a0_0 [.int .i64 a0_0] from rfl) (Reps.one (show Kd.M (Kd.int .i64) _ _ _ a0_1 [.int .i64 a0_1] from rfl) (Reps.one (show Kd.M (Kd.int .i64) _ _ _ a0_2 [.int .i64 a0_2] from rfl) (Reps.one (show Kd.M (Kd.int .i64) _ _ _ a0_3 [.int .i64 a0_3] from rfl) (Reps.none _ _)))))); intro v196 w8 ho9 hb hg_ hnew_; clear hg_ hnew_; (first | rw [← Ny195.out] at ho9 | (simp only [Int.reduceToNat] at ho9; rw [← Ny195.out] at ho9)); have HO197 := Aside0.mk (Kd.R_lower ho9 (below_size uB)); replace BK193 := ux BK193 hb; replace HB := uy hb; clear hb ho9))
  go_loopg [5, 7] k (fun kq v5 v7 w' => ∃ (x5_1 : List Int) (x7_1 : Int), v7 = .int .i64 x7_1 ∧ Aside0 (windbreakref12_Encode.l0 kq x5_1 y195 x7_1 a0_0 a0_1 a0_2 a0_3 l0_4 l0_5 l0_6 = some (r1, r2)) ∧ Aside0 (kq ≤ k) ∧ Aside0 (Kd.R (Kd.int .u8) 5 w' w.heap.size (fun _ => True) v5 x5_1) ∧ Aside0 (Kd.R (Kd.int .i64) 3 w' w.heap.size (fun _ => True) v196 y195) ∧ Aside0 (w'.heap[gb193]? = some (.cells #[.int .i64 a0_0, .int .i64 a0_1, .int .i64 a0_2, .int .i64 a0_3, (.slice A0_4 l0_4.length c0_4), (.slice A0_5 l0_5.length c0_5), (.slice A0_6 l0_6.length c0_6)] 25 (0, 0))) ∧ Aside0 (Below w.heap.size w w'))
  case atStart => exact ⟨(([] : List Int)), (0), uG, H', ⟨Nat.le_refl _⟩, ⟨by first | exact Kd.R_nil _ _ _ _ _ | exact Kd.N_nil _ _ _ _ _ | exact Kd.V_nil _ _ _ _ _ | exact Kd.Q_nil _ _ _ _ _ | exact Kd.S_nil _ _ _ _ _⟩, ⟨uR HO197.out⟩, ⟨uK BK193.out⟩, ⟨uB⟩⟩
  case round =>
   clear H'
   (try clear c1); (try clear p2); (try clear c3); (try clear c8); (try clear hcz5_0 hcz5_1 hcz5_2 hcz5_3 hcz5_4 hcz5_5 hcz5_6); (try clear hcz7_0 hcz7_1 hcz7_2 hcz7_3 hcz7_4 hcz7_5 hcz7_6); (try clear hfz5_0 hfz5_1 hfz5_2 hfz5_3 hfz5_4 hfz5_5 hfz5_6); (try clear hfz7_0 hfz7_1 hfz7_2 hfz7_3 hfz7_4 hfz7_5 hfz7_6)
   obtain ⟨x5_1, x7_1, rfl, HA, HK1, HO_5, HO_6, BK193, HB⟩ := hrel
   cases gk with
   | zero => exact absurd HA.out (by simp [windbreakref12_Encode.l0])
   | succ k1 =>
    have H := HA.out
    clear HA
    simp only [windbreakref12_Encode.l0] at H
    by_cases c10 : x7_1 < 4
    ·
     rw [if_pos c10] at H
     have c10b0 : decide (x7_1 < 4) = true := decide_eq_true c10
     clear c10
     replace H := uT H; obtain ⟨c11, H⟩ := H
     have c11b0 : decide (0 ≤ x7_1) = true := decide_eq_true c11
     clear c11
     replace H := uT H; obtain ⟨c12, H⟩ := H
     have c12b0 : decide (x7_1 < (y195.length : Int)) = true := decide_eq_true c12
     clear c12
     replace H := ub H; obtain ⟨t199, A13, H⟩ := H
     replace H := uT H; obtain ⟨c14, H⟩ := H
     have LMc14 := Aside0.mk c14; clear c14
     obtain ⟨y202, hy202⟩ : ∃ y_ : List Int, y_ = (x5_1 ++ t199) := ⟨_, rfl⟩
     replace H : (windbreakref12_Encode.l0 k1 y202 y195 (wrap64 (x7_1 + 1)) a0_0 a0_1 a0_2 a0_3 l0_4 l0_5 l0_6) = some (r1, r2) := by first | (rw [hy202]; with_reducible exact H) | (have H2_ := (Option.bind_some _ _).symm.trans H; rw [hy202]; with_reducible exact H2_) | (have H2_ := (Option.bind_some _ _).symm.trans H; with_reducible exact H2_) | with_reducible exact H | (rw [hy202]; exact H) | exact H
     have Ny202 := Aside0.mk hy202; clear hy202
     have H' := Aside0.mk H
     clear H
     obtain ⟨Ao15, co15, eo15⟩ := Kd.R_slice HO_6.out
     subst eo15
     have p198 : 0 ≤ (x7_1 : Int) := uO
     have q198 : x7_1 < (y195.length : Int) := uO
     obtain ⟨ad198, e198, hx198_0⟩ := Kd.at_int (Kd.R_reads' HO_6.out).2.2 x7_1 p198 q198
     cases e198
     replace p198 := eq_true p198
     replace q198 := eq_true q198
     go_wp2_with (first | ((with_reducible refine gate_callee (f := 18) rfl ?_); refine goesL_ (some 32) rfl rfl Try.func18 (by kernel_rfl) rfl #[.int .u64 (IntKind.u64.wrap (rd y195 x7_1))] rfl uM ?_; (with_reducible refine (windbreakref09_Number.calls k1 (IntKind.u64.wrap (rd y195 x7_1)) t199 _ A13.out).mono ?_); rintro e w16 ⟨v200, rfl, ho0, hb⟩; refine ⟨_, rfl, ?_⟩; replace HO_6 := Aside0.mk (Kd.R_below (uR HO_6.out) hb); have HO201 := Aside0.mk (Kd.R_lower (Kd.R_new' ho0 (Kd.R_lt (uR HO_5.out))) (below_size uB)); replace HO_5 := ueR HO_5 ho0 hb; replace BK193 := ux BK193 hb; replace HB := uy hb; (try clear hb ho0); obtain ⟨Ao18, co18, eo18⟩ := Kd.R_slice HO201.out; subst eo18) | ((with_reducible refine gate_builtin (b := .append) (xs := #[.tmp 26, .tmp 32]) rfl ?_); at_builtin; refine Kd.R_append_rows (Kd.int .u8) (w0 := w) w.heap.size rfl (.tmp 26) (.tmp 32) 27 5 (.int .u8 0) 1 rfl Try.underlying27 info5 rfl (by decide) (by omega) u5 x5_1 t199 _ _ _ (fun k_ => some k_ ≠ (.slice Ao18 t199.length co18 : Value).ownBlock) (fun _ => False) rfl rfl ?aO ?aR (fun _ _ h => h) (fun _ h => h.elim) ?aF ?aB ?aS ?aL ?_; (case aR => exact uC (Kd.R_reads' HO201.out).2.2); (case aB => exact uB); (case aF => exact (fun k_ hk => Kd.fresh' (Kd.R_lt (uR HO201.out)) k_ hk)); (case aO => exact (uR (Kd.R_mono HO_5.out (fun _ hk => hk.2)))); (case aS => exact (below_size uB)); (case aL => have := LMc14.out; omega); intro v203 w17 ho hb hg hat; rw [← Ny202.out] at ho; replace HO_6 := Aside0.mk (Kd.R_over' (uR HO_6.out) (Kd.R_typed (uR HO_5.out)) (by decide) hg); replace BK193 := Aside0.mk (blk_grown (g := gb193) (o := .cells #[.int .i64 a0_0, .int .i64 a0_1, .int .i64 a0_2, .int .i64 a0_3, .slice A0_4 l0_4.length c0_4, .slice A0_5 l0_5.length c0_5, .slice A0_6 l0_6.length c0_6] 25 (0, 0)) (uK BK193.out) hg (Kd.R_ne HO_5.out BK193.out (by decide))); replace HO201 := Aside0.mk (Kd.R_after (ok := (fun _ => True)) (uR HO201.out) hg hat); replace HB := Aside0.mk (hb); have HO204 := Aside0.mk (ho); clear HO_5; clear ho hb hg hat))
     go_roundg k1
     case measure => have := HK1.out; omega
     case rel => exact ⟨(y202), (wrap64 (x7_1 + 1)), uG, H', ⟨by have := HK1.out; omega⟩, ⟨by (with_reducible repeat (first | apply Kd.R_alloc | apply Kd.R_drewN | apply Kd.R_drew)); exact Kd.R_mono HO204.out (fun _ hk => trivial)⟩, ⟨uR HO_6.out⟩, ⟨uK BK193.out⟩, ⟨uB⟩⟩
    rw [if_neg c10] at H
    have c10b0 : decide (x7_1 < 4) = false := decide_eq_false c10
    clear c10
    replace H := ub H; obtain ⟨t205, A19, H⟩ := H
    replace H := uT H; obtain ⟨c20, H⟩ := H
    have LMc20 := Aside0.mk c20; clear c20
    obtain ⟨y208, hy208⟩ : ∃ y_ : List Int, y_ = (x5_1 ++ t205) := ⟨_, rfl⟩
    replace H : ((windbreakref12_list.f k1 l0_5).bind fun t211 => (if y208.length + t211.length < 140737488355328 then ((some (y208 ++ t211 : List Int)).bind fun y214 => ((windbreakref09_Number.f k1 (IntKind.u64.wrap ((l0_6.length : Int)))).bind fun t217 => (if y214.length + t217.length < 140737488355328 then (windbreakref12_Encode.l1 k1 (y214 ++ t217) 0 a0_0 a0_1 a0_2 a0_3 l0_4 l0_5 l0_6) else (none)))) else (none))) = some (r1, r2) := by first | (rw [hy208]; with_reducible exact H) | (have H2_ := (Option.bind_some _ _).symm.trans H; rw [hy208]; with_reducible exact H2_) | (have H2_ := (Option.bind_some _ _).symm.trans H; with_reducible exact H2_) | with_reducible exact H | (rw [hy208]; exact H) | exact H
    have Ny208 := Aside0.mk hy208; clear hy208
    replace H := ub H; obtain ⟨t211, A21, H⟩ := H
    replace H := uT H; obtain ⟨c22, H⟩ := H
    have LMc22 := Aside0.mk c22; clear c22
    obtain ⟨y214, hy214⟩ : ∃ y_ : List Int, y_ = (y208 ++ t211) := ⟨_, rfl⟩
    replace H : ((windbreakref09_Number.f k1 (IntKind.u64.wrap ((l0_6.length : Int)))).bind fun t217 => (if y214.length + t217.length < 140737488355328 then (windbreakref12_Encode.l1 k1 (y214 ++ t217) 0 a0_0 a0_1 a0_2 a0_3 l0_4 l0_5 l0_6) else (none))) = some (r1, r2) := by first | (rw [hy214]; with_reducible exact H) | (have H2_ := (Option.bind_some _ _).symm.trans H; rw [hy214]; with_reducible exact H2_) | (have H2_ := (Option.bind_some _ _).symm.trans H; with_reducible exact H2_) | with_reducible exact H | (rw [hy214]; exact H) | exact H
    have Ny214 := Aside0.mk hy214; clear hy214
    replace H := ub H; obtain ⟨t217, A23, H⟩ := H
    replace H := uT H; obtain ⟨c24, H⟩ := H
    have LMc24 := Aside0.mk c24; clear c24
    obtain ⟨y220, hy220⟩ : ∃ y_ : List Int, y_ = (y214 ++ t217) := ⟨_, rfl⟩
    replace H : (windbreakref12_Encode.l1 k1 y220 0 a0_0 a0_1 a0_2 a0_3 l0_4 l0_5 l0_6) = some (r1, r2) := by first | (rw [hy220]; with_reducible exact H) | (have H2_ := (Option.bind_some _ _).symm.trans H; rw [hy220]; with_reducible exact H2_) | (have H2_ := (Option.bind_some _ _).symm.trans H; with_reducible exact H2_) | with_reducible exact H | (rw [hy220]; exact H) | exact H
    have Ny220 := Aside0.mk hy220; clear hy220
    have H' := Aside0.mk H
    clear H; have hcz25_0 : wr.cell? ⟨gb193, 0, none⟩ = some (.int .i64 a0_0) := (blk_cell BK193.out 0).trans rfl; have hcz25_1 : wr.cell? ⟨gb193, 1, none⟩ = some (.int .i64 a0_1) := (blk_cell BK193.out 1).trans rfl; have hcz25_2 : wr.cell? ⟨gb193, 2, none⟩ = some (.int .i64 a0_2) := (blk_cell BK193.out 2).trans rfl; have hcz25_3 : wr.cell? ⟨gb193, 3, none⟩ = some (.int .i64 a0_3) := (blk_cell BK193.out 3).trans rfl; have hcz25_4 : wr.cell? ⟨gb193, 4, none⟩ = some (.slice A0_4 l0_4.length c0_4) := (blk_cell BK193.out 4).trans rfl; have hcz25_5 : wr.cell? ⟨gb193, 5, none⟩ = some (.slice A0_5 l0_5.length c0_5) := (blk_cell BK193.out 5).trans rfl; have hcz25_6 : wr.cell? ⟨gb193, 6, none⟩ = some (.slice A0_6 l0_6.length c0_6) := (blk_cell BK193.out 6).trans rfl; have hfz25_0 := blk_frozen BK193.out 0; have hfz25_1 := blk_frozen BK193.out 1; have hfz25_2 := blk_frozen BK193.out 2; have hfz25_3 := blk_frozen BK193.out 3; have hfz25_4 := blk_frozen BK193.out 4; have hfz25_5 := blk_frozen BK193.out 5; have hfz25_6 := blk_frozen BK193.out 6
    go_wp2_with (first | ((with_reducible refine gate_callee (f := 19) rfl ?_); refine goesL_ (some 37) rfl rfl Try.func19 (by kernel_rfl) rfl #[.slice A0_4 l0_4.length c0_4] rfl uM ?_; (with_reducible refine (windbreakref12_list.calls k1 _ _ l0_4 t205 _ ?side1 ?side2 A19.out).mono ?_); (case side1 => exact uC (Kd.C_below HR0_4.out HB.out)); (case side2 => exact HC0_4.out); rintro e w26 ⟨v206, rfl, ho0, hb⟩; refine ⟨_, rfl, ?_⟩; replace HO_6 := Aside0.mk (Kd.R_below (uR HO_6.out) hb); have HO207 := Aside0.mk (Kd.R_lower (Kd.R_new' ho0 (Kd.R_lt (uR HO_5.out))) (below_size uB)); replace HO_5 := ueR HO_5 ho0 hb; replace BK193 := ux BK193 hb; replace HB := uy hb; (try clear hb ho0); obtain ⟨Ao28, co28, eo28⟩ := Kd.R_slice HO207.out; subst eo28) | ((with_reducible refine gate_builtin (b := .append) (xs := #[.tmp 34, .tmp 37]) rfl ?_); at_builtin; refine Kd.R_append_rows (Kd.int .u8) (w0 := w) w.heap.size rfl (.tmp 34) (.tmp 37) 27 5 (.int .u8 0) 1 rfl Try.underlying27 info5 rfl (by decide) (by omega) u5 x5_1 t205 _ _ _ (fun k_ => some k_ ≠ (.slice Ao28 t205.length co28 : Value).ownBlock) (fun _ => False) rfl rfl ?aO ?aR (fun _ _ h => h) (fun _ h => h.elim) ?aF ?aB ?aS ?aL ?_; (case aR => exact uC (Kd.R_reads' HO207.out).2.2); (case aB => exact uB); (case aF => exact (fun k_ hk => Kd.fresh' (Kd.R_lt (uR HO207.out)) k_ hk)); (case aO => exact (uR (Kd.R_mono HO_5.out (fun _ hk => hk.2)))); (case aS => exact (below_size uB)); (case aL => have := LMc20.out; omega); intro v209 w27 ho hb hg hat; rw [← Ny208.out] at ho; replace HO_6 := Aside0.mk (Kd.R_over' (uR HO_6.out) (Kd.R_typed (uR HO_5.out)) (by decide) hg); replace BK193 := Aside0.mk (blk_grown (g := gb193) (o := .cells #[.int .i64 a0_0, .int .i64 a0_1, .int .i64 a0_2, .int .i64 a0_3, .slice A0_4 l0_4.length c0_4, .slice A0_5 l0_5.length c0_5, .slice A0_6 l0_6.length c0_6] 25 (0, 0)) (uK BK193.out) hg (Kd.R_ne HO_5.out BK193.out (by decide))); replace HO207 := Aside0.mk (Kd.R_after (ok := (fun _ => True)) (uR HO207.out) hg hat); replace HB := Aside0.mk (hb); have HO210 := Aside0.mk (ho); clear HO_5; clear ho hb hg hat; have hcz29_0 : w27.cell? ⟨gb193, 0, none⟩ = some (.int .i64 a0_0) := (blk_cell BK193.out 0).trans rfl; have hcz29_1 : w27.cell? ⟨gb193, 1, none⟩ = some (.int .i64 a0_1) := (blk_cell BK193.out 1).trans rfl; have hcz29_2 : w27.cell? ⟨gb193, 2, none⟩ = some (.int .i64 a0_2) := (blk_cell BK193.out 2).trans rfl; have hcz29_3 : w27.cell? ⟨gb193, 3, none⟩ = some (.int .i64 a0_3) := (blk_cell BK193.out 3).trans rfl; have hcz29_4 : w27.cell? ⟨gb193, 4, none⟩ = some (.slice A0_4 l0_4.length c0_4) := (blk_cell BK193.out 4).trans rfl; have hcz29_5 : w27.cell? ⟨gb193, 5, none⟩ = some (.slice A0_5 l0_5.length c0_5) := (blk_cell BK193.out 5).trans rfl; have hcz29_6 : w27.cell? ⟨gb193, 6, none⟩ = some (.slice A0_6 l0_6.length c0_6) := (blk_cell BK193.out 6).trans rfl; have hfz29_0 := blk_frozen BK193.out 0; have hfz29_1 := blk_frozen BK193.out 1; have hfz29_2 := blk_frozen BK193.out 2; have hfz29_3 := blk_frozen BK193.out 3; have hfz29_4 := blk_frozen BK193.out 4; have hfz29_5 := blk_frozen BK193.out 5; have hfz29_6 := blk_frozen BK193.out 6) | ((with_reducible refine gate_callee (f := 19) rfl ?_); refine goesL_ (some 42) rfl rfl Try.func19 (by kernel_rfl) rfl #[.slice A0_5 l0_5.length c0_5] rfl uM ?_; (with_reducible refine (windbreakref12_list.calls k1 _ _ l0_5 t211 _ ?side1 ?side2 A21.out).mono ?_); (case side1 => exact uC (Kd.C_below HR0_5.out HB.out)); (case side2 => exact HC0_5.out); rintro e w30 ⟨v212, rfl, ho0, hb⟩; refine ⟨_, rfl, ?_⟩; replace HO_6 := Aside0.mk (Kd.R_below (uR HO_6.out) hb); have HO213 := Aside0.mk (Kd.R_lower (Kd.R_new' (Kd.R_new' ho0 (Kd.R_lt (uR HO207.out))) (Kd.R_lt (uR HO210.out))) (below_size uB)); replace HO207 := ueR HO207 ho0 hb; replace HO210 := ueR HO210 ho0 hb; replace BK193 := ux BK193 hb; replace HB := uy hb; (try clear hb ho0); obtain ⟨Ao32, co32, eo32⟩ := Kd.R_slice HO213.out; subst eo32) | ((with_reducible refine gate_builtin (b := .append) (xs := #[.tmp 39, .tmp 42]) rfl ?_); at_builtin; refine Kd.R_append_rows (Kd.int .u8) (w0 := w) w.heap.size rfl (.tmp 39) (.tmp 42) 27 5 (.int .u8 0) 1 rfl Try.underlying27 info5 rfl (by decide) (by omega) v209 y208 t211 _ _ _ (fun k_ => some k_ ≠ (.slice Ao28 t205.length co28 : Value).ownBlock ∧ some k_ ≠ (.slice Ao32 t211.length co32 : Value).ownBlock) (fun _ => False) rfl rfl ?aO ?aR (fun _ _ h => h) (fun _ h => h.elim) ?aF ?aB ?aS ?aL ?_; (case aR => exact uC (Kd.R_reads' HO213.out).2.2); (case aB => exact uB); (case aF => exact (fun k_ hk => ⟨Kd.fresh' (Kd.R_lt (uR HO207.out)) k_ hk, Kd.fresh' (Kd.R_lt (uR HO213.out)) k_ hk⟩)); (case aO => exact (uR HO210.out)); (case aS => exact (below_size uB)); (case aL => have := LMc22.out; omega); intro v215 w31 ho hb hg hat; rw [← Ny214.out] at ho; replace HO_6 := Aside0.mk (Kd.R_over' (uR HO_6.out) (Kd.R_typed (uR HO210.out)) (by decide) hg); replace BK193 := Aside0.mk (blk_grown (g := gb193) (o := .cells #[.int .i64 a0_0, .int .i64 a0_1, .int .i64 a0_2, .int .i64 a0_3, .slice A0_4 l0_4.length c0_4, .slice A0_5 l0_5.length c0_5, .slice A0_6 l0_6.length c0_6] 25 (0, 0)) (uK BK193.out) hg (Kd.R_ne HO210.out BK193.out (by decide))); replace HO207 := Aside0.mk (Kd.R_after (ok := (fun k_ => some k_ ≠ (.slice Ao32 t211.length co32 : Value).ownBlock)) (uR (Kd.R_mono HO207.out (fun _ hk => ⟨hk.2, hk.1.2⟩))) hg hat); replace HO213 := Aside0.mk (Kd.R_after (ok := (fun k_ => some k_ ≠ (.slice Ao28 t205.length co28 : Value).ownBlock)) (uR (Kd.R_mono HO213.out (fun _ hk => ⟨hk.1.2, hk.2⟩))) hg hat); replace HB := Aside0.mk (hb); have HO216 := Aside0.mk (ho); clear HO210; clear ho hb hg hat; have hcz33_0 : w31.cell? ⟨gb193, 0, none⟩ = some (.int .i64 a0_0) := (blk_cell BK193.out 0).trans rfl; have hcz33_1 : w31.cell? ⟨gb193, 1, none⟩ = some (.int .i64 a0_1) := (blk_cell BK193.out 1).trans rfl; have hcz33_2 : w31.cell? ⟨gb193, 2, none⟩ = some (.int .i64 a0_2) := (blk_cell BK193.out 2).trans rfl; have hcz33_3 : w31.cell? ⟨gb193, 3, none⟩ = some (.int .i64 a0_3) := (blk_cell BK193.out 3).trans rfl; have hcz33_4 : w31.cell? ⟨gb193, 4, none⟩ = some (.slice A0_4 l0_4.length c0_4) := (blk_cell BK193.out 4).trans rfl; have hcz33_5 : w31.cell? ⟨gb193, 5, none⟩ = some (.slice A0_5 l0_5.length c0_5) := (blk_cell BK193.out 5).trans rfl; have hcz33_6 : w31.cell? ⟨gb193, 6, none⟩ = some (.slice A0_6 l0_6.length c0_6) := (blk_cell BK193.out 6).trans rfl; have hfz33_0 := blk_frozen BK193.out 0; have hfz33_1 := blk_frozen BK193.out 1; have hfz33_2 := blk_frozen BK193.out 2; have hfz33_3 := blk_frozen BK193.out 3; have hfz33_4 := blk_frozen BK193.out 4; have hfz33_5 := blk_frozen BK193.out 5; have hfz33_6 := blk_frozen BK193.out 6) | ((with_reducible refine gate_callee (f := 18) rfl ?_); refine goesL_ (some 49) rfl rfl Try.func18 (by kernel_rfl) rfl #[.int .u64 (IntKind.u64.wrap ((l0_6.length : Int)))] rfl uM ?_; (with_reducible refine (windbreakref09_Number.calls k1 (IntKind.u64.wrap ((l0_6.length : Int))) t217 _ A23.out).mono ?_); rintro e w34 ⟨v218, rfl, ho0, hb⟩; refine ⟨_, rfl, ?_⟩; replace HO_6 := Aside0.mk (Kd.R_below (uR HO_6.out) hb); have HO219 := Aside0.mk (Kd.R_lower (Kd.R_new' (Kd.R_new' (Kd.R_new' ho0 (Kd.R_lt (uR HO207.out))) (Kd.R_lt (uR HO213.out))) (Kd.R_lt (uR HO216.out))) (below_size uB)); replace HO207 := ueR HO207 ho0 hb; replace HO213 := ueR HO213 ho0 hb; replace HO216 := ueR HO216 ho0 hb; replace BK193 := ux BK193 hb; replace HB := uy hb; (try clear hb ho0); obtain ⟨Ao36, co36, eo36⟩ := Kd.R_slice HO219.out; subst eo36) | ((with_reducible refine gate_builtin (b := .append) (xs := #[.tmp 44, .tmp 49]) rfl ?_); at_builtin; refine Kd.R_append_rows (Kd.int .u8) (w0 := w) w.heap.size rfl (.tmp 44) (.tmp 49) 27 5 (.int .u8 0) 1 rfl Try.underlying27 info5 rfl (by decide) (by omega) v215 y214 t217 _ _ _ (fun k_ => some k_ ≠ (.slice Ao28 t205.length co28 : Value).ownBlock ∧ some k_ ≠ (.slice Ao32 t211.length co32 : Value).ownBlock ∧ some k_ ≠ (.slice Ao36 t217.length co36 : Value).ownBlock) (fun _ => False) rfl rfl ?aO ?aR (fun _ _ h => h) (fun _ h => h.elim) ?aF ?aB ?aS ?aL ?_; (case aR => exact uC (Kd.R_reads' HO219.out).2.2); (case aB => exact uB); (case aF => exact (fun k_ hk => ⟨Kd.fresh' (Kd.R_lt (uR HO207.out)) k_ hk, Kd.fresh' (Kd.R_lt (uR HO213.out)) k_ hk, Kd.fresh' (Kd.R_lt (uR HO219.out)) k_ hk⟩)); (case aO => exact (uR (Kd.R_mono HO216.out (fun _ hk => ⟨hk.1.1, ⟨hk.1.2, hk.2⟩⟩)))); (case aS => exact (below_size uB)); (case aL => have := LMc24.out; omega); intro v221 w35 ho hb hg hat; rw [← Ny220.out] at ho; replace HO_6 := Aside0.mk (Kd.R_over' (uR HO_6.out) (Kd.R_typed (uR HO216.out)) (by decide) hg); replace BK193 := Aside0.mk (blk_grown (g := gb193) (o := .cells #[.int .i64 a0_0, .int .i64 a0_1, .int .i64 a0_2, .int .i64 a0_3, .slice A0_4 l0_4.length c0_4, .slice A0_5 l0_5.length c0_5, .slice A0_6 l0_6.length c0_6] 25 (0, 0)) (uK BK193.out) hg (Kd.R_ne HO216.out BK193.out (by decide))); replace HO207 := Aside0.mk (Kd.R_after (ok := (fun k_ => some k_ ≠ (.slice Ao32 t211.length co32 : Value).ownBlock ∧ some k_ ≠ (.slice Ao36 t217.length co36 : Value).ownBlock)) (uR (Kd.R_mono HO207.out (fun _ hk => ⟨⟨hk.1.1, hk.2⟩, hk.1.2⟩))) hg hat); replace HO213 := Aside0.mk (Kd.R_after (ok := (fun k_ => some k_ ≠ (.slice Ao28 t205.length co28 : Value).ownBlock ∧ some k_ ≠ (.slice Ao36 t217.length co36 : Value).ownBlock)) (uR (Kd.R_mono HO213.out (fun _ hk => ⟨⟨hk.1.1, hk.2⟩, hk.1.2⟩))) hg hat); replace HO219 := Aside0.mk (Kd.R_after (ok := (fun k_ => some k_ ≠ (.slice Ao28 t205.length co28 : Value).ownBlock ∧ some k_ ≠ (.slice Ao32 t211.length co32 : Value).ownBlock)) (uR (Kd.R_mono HO219.out (fun _ hk => ⟨⟨hk.1.1.2, hk.1.2⟩, hk.2⟩))) hg hat); replace HB := Aside0.mk (hb); have HO222 := Aside0.mk (ho); clear HO216; clear ho hb hg hat))
    go_loopg [5, 8] k1 (fun kq v5 v8 w' => ∃ (x5_2 : List Int) (x8_2 : Int), v8 = .int .i64 x8_2 ∧ Aside0 (windbreakref12_Encode.l1 kq x5_2 x8_2 a0_0 a0_1 a0_2 a0_3 l0_4 l0_5 l0_6 = some (r1, r2)) ∧ Aside0 (kq ≤ k1) ∧ Aside0 (Kd.R (Kd.int .u8) 5 w' w.heap.size (fun _ => True) v5 x5_2) ∧ Aside0 (w'.heap[gb193]? = some (.cells #[.int .i64 a0_0, .int .i64 a0_1, .int .i64 a0_2, .int .i64 a0_3, (.slice A0_4 l0_4.length c0_4), (.slice A0_5 l0_5.length c0_5), (.slice A0_6 l0_6.length c0_6)] 25 (0, 0))) ∧ Aside0 (Below w.heap.size w w'))
    case atStart => exact ⟨(y220), (0), uG, H', ⟨Nat.le_refl _⟩, ⟨by (with_reducible repeat (first | apply Kd.R_alloc | apply Kd.R_drewN | apply Kd.R_drew)); exact Kd.R_mono HO222.out (fun _ hk => trivial)⟩, ⟨uK BK193.out⟩, ⟨uB⟩⟩
    case round =>
     clear H'
     (try clear c1); (try clear p1); (try clear q1); (try clear hx1); (try clear c2); (try clear p2 p2); (try clear c3); (try clear p6); (try clear c8); (try clear c10); (try clear c10b0); (try clear c11); (try clear c11b0); (try clear c12); (try clear c12b0); (try clear c14); (try clear c17); (try clear c18); (try clear c19); (try clear p19); (try clear q19); (try clear hx19); (try clear c20); (try clear c22); (try clear c24); (try clear hcz25_0 hcz25_1 hcz25_2 hcz25_3 hcz25_4 hcz25_5 hcz25_6); (try clear hcz29_0 hcz29_1 hcz29_2 hcz29_3 hcz29_4 hcz29_5 hcz29_6); (try clear hcz33_0 hcz33_1 hcz33_2 hcz33_3 hcz33_4 hcz33_5 hcz33_6); (try clear hcz5_0 hcz5_1 hcz5_2 hcz5_3 hcz5_4 hcz5_5 hcz5_6); (try clear hcz7_0 hcz7_1 hcz7_2 hcz7_3 hcz7_4 hcz7_5 hcz7_6); (try clear hfz25_0 hfz25_1 hfz25_2 hfz25_3 hfz25_4 hfz25_5 hfz25_6); (try clear hfz29_0 hfz29_1 hfz29_2 hfz29_3 hfz29_4 hfz29_5 hfz29_6); (try clear hfz33_0 hfz33_1 hfz33_2 hfz33_3 hfz33_4 hfz33_5 hfz33_6); (try clear hfz5_0 hfz5_1 hfz5_2 hfz5_3 hfz5_4 hfz5_5 hfz5_6); (try clear hfz7_0 hfz7_1 hfz7_2 hfz7_3 hfz7_4 hfz7_5 hfz7_6); (try clear hx198_0); (try clear p198); (try clear q198)
     obtain ⟨x5_2, x8_2, rfl, HA, HK2, HO_5, BK193, HB⟩ := hrel
     cases gk with
     | zero => exact absurd HA.out (by simp [windbreakref12_Encode.l1])
     | succ k2 =>
      have H := HA.out
      clear HA
      simp only [windbreakref12_Encode.l1] at H
      by_cases c37 : x8_2 < (l0_6.length : Int)
      ·
       rw [if_pos c37] at H
       have c37b0 : decide (x8_2 < (l0_6.length : Int)) = true := decide_eq_true c37
       clear c37
       replace H := uT H; obtain ⟨c38, H⟩ := H
       have c38b0 : decide (0 ≤ x8_2) = true := decide_eq_true c38
       clear c38
       replace H := ub H; obtain ⟨t224, A39, H⟩ := H
       replace H := ub H; obtain ⟨t227, A40, H⟩ := H
       replace H := uT H; obtain ⟨c41, H⟩ := H
       have LMc41 := Aside0.mk c41; clear c41
       obtain ⟨y230, hy230⟩ : ∃ y_ : List Int, y_ = (x5_2 ++ t227) := ⟨_, rfl⟩
       replace H : (windbreakref12_Encode.l1 k2 y230 (wrap64 (x8_2 + 1)) a0_0 a0_1 a0_2 a0_3 l0_4 l0_5 l0_6) = some (r1, r2) := by first | (rw [hy230]; with_reducible exact H) | (have H2_ := (Option.bind_some _ _).symm.trans H; rw [hy230]; with_reducible exact H2_) | (have H2_ := (Option.bind_some _ _).symm.trans H; with_reducible exact H2_) | with_reducible exact H | (rw [hy230]; exact H) | exact H
       have Ny230 := Aside0.mk hy230; clear hy230
       have H' := Aside0.mk H
       clear H; have hcz42_0 : wr.cell? ⟨gb193, 0, none⟩ = some (.int .i64 a0_0) := (blk_cell BK193.out 0).trans rfl; have hcz42_1 : wr.cell? ⟨gb193, 1, none⟩ = some (.int .i64 a0_1) := (blk_cell BK193.out 1).trans rfl; have hcz42_2 : wr.cell? ⟨gb193, 2, none⟩ = some (.int .i64 a0_2) := (blk_cell BK193.out 2).trans rfl; have hcz42_3 : wr.cell? ⟨gb193, 3, none⟩ = some (.int .i64 a0_3) := (blk_cell BK193.out 3).trans rfl; have hcz42_4 : wr.cell? ⟨gb193, 4, none⟩ = some (.slice A0_4 l0_4.length c0_4) := (blk_cell BK193.out 4).trans rfl; have hcz42_5 : wr.cell? ⟨gb193, 5, none⟩ = some (.slice A0_5 l0_5.length c0_5) := (blk_cell BK193.out 5).trans rfl; have hcz42_6 : wr.cell? ⟨gb193, 6, none⟩ = some (.slice A0_6 l0_6.length c0_6) := (blk_cell BK193.out 6).trans rfl; have hfz42_0 := blk_frozen BK193.out 0; have hfz42_1 := blk_frozen BK193.out 1; have hfz42_2 := blk_frozen BK193.out 2; have hfz42_3 := blk_frozen BK193.out 3; have hfz42_4 := blk_frozen BK193.out 4; have hfz42_5 := blk_frozen BK193.out 5; have hfz42_6 := blk_frozen BK193.out 6
       have p223 : 0 ≤ (x8_2 : Int) := uO
       have q223 : x8_2 < (l0_6.length : Int) := uO
       obtain ⟨ad223, A223_0, c223_0, e223, hx223_0, hl223_0, hi223_0⟩ := at_L3 HR0_6.out x8_2 p223 q223
       cases e223
       replace hx223_0 := (HB.out.cell (World.block_lt_of_cell? w _ hx223_0)).trans hx223_0
       have HR223_0 := Aside0.mk hi223_0; have HC223_0 := Aside0.mk hl223_0; clear hi223_0 hl223_0
       replace p223 := eq_true p223
       replace q223 := eq_true q223
       go_wp2_with (first | ((with_reducible refine gate_callee (f := 21) rfl ?_); refine goesL_ (some 64) rfl rfl Try.func21 (by kernel_rfl) rfl #[.slice A223_0 (rd_L3 l0_6 x8_2).length c223_0] rfl uM ?_; (with_reducible refine (windbreakref01_Bytes.calls k2 _ _ (rd_L3 l0_6 x8_2) t224 _ ?side1 ?side2 A39.out).mono ?_); (case side1 => exact uC (Kd.C_below HR223_0.out HB.out)); (case side2 => exact HC223_0.out); rintro e w43 ⟨v225, rfl, ho0, hb⟩; refine ⟨_, rfl, ?_⟩; have HO226 := Aside0.mk (Kd.R_lower (Kd.R_new' ho0 (Kd.R_lt (uR HO_5.out))) (below_size uB)); replace HO_5 := ueR HO_5 ho0 hb; replace BK193 := ux BK193 hb; replace HB := uy hb; (try clear hb ho0); obtain ⟨Ao44, co44, eo44⟩ := Kd.R_slice HO226.out; subst eo44) | ((with_reducible refine gate_callee (f := 20) rfl ?_); refine goesL_ (some 65) rfl rfl Try.func20 (by kernel_rfl) rfl #[.slice Ao44 t224.length co44] rfl uM ?_; (with_reducible refine (windbreakref09_Bytes.calls k2 _ _ t224 t227 _ ?side1 ?side2 A40.out).mono ?_); (case side1 => exact uC (Kd.R_reads' HO226.out).2.2); (case side2 => exact (Kd.R_reads' HO226.out).2.1); rintro e w45 ⟨v228, rfl, ho0, hb⟩; refine ⟨_, rfl, ?_⟩; have HO229 := Aside0.mk (Kd.R_lower (Kd.R_new' (Kd.R_new' ho0 (Kd.R_lt (uR HO_5.out))) (Kd.R_lt (uR HO226.out))) (below_size uB)); replace HO_5 := ueR HO_5 ho0 hb; replace HO226 := ueR HO226 ho0 hb; replace BK193 := ux BK193 hb; replace HB := uy hb; (try clear hb ho0); obtain ⟨Ao47, co47, eo47⟩ := Kd.R_slice HO229.out; subst eo47) | ((with_reducible refine gate_builtin (b := .append) (xs := #[.tmp 58, .tmp 65]) rfl ?_); at_builtin; refine Kd.R_append_rows (Kd.int .u8) (w0 := w) w.heap.size rfl (.tmp 58) (.tmp 65) 27 5 (.int .u8 0) 1 rfl Try.underlying27 info5 rfl (by decide) (by omega) u5 x5_2 t227 _ _ _ (fun k_ => some k_ ≠ (.slice Ao44 t224.length co44 : Value).ownBlock ∧ some k_ ≠ (.slice Ao47 t227.length co47 : Value).ownBlock) (fun _ => False) rfl rfl ?aO ?aR (fun _ _ h => h) (fun _ h => h.elim) ?aF ?aB ?aS ?aL ?_; (case aR => exact uC (Kd.R_reads' HO229.out).2.2); (case aB => exact uB); (case aF => exact (fun k_ hk => ⟨Kd.fresh' (Kd.R_lt (uR HO226.out)) k_ hk, Kd.fresh' (Kd.R_lt (uR HO229.out)) k_ hk⟩)); (case aO => exact (uR (Kd.R_mono HO_5.out (fun _ hk => ⟨hk.1.2, hk.2⟩)))); (case aS => exact (below_size uB)); (case aL => have := LMc41.out; omega); intro v231 w46 ho hb hg hat; rw [← Ny230.out] at ho; replace BK193 := Aside0.mk (blk_grown (g := gb193) (o := .cells #[.int .i64 a0_0, .int .i64 a0_1, .int .i64 a0_2, .int .i64 a0_3, .slice A0_4 l0_4.length c0_4, .slice A0_5 l0_5.length c0_5, .slice (some ad223) l0_6.length c0_6] 25 (0, 0)) (uK BK193.out) hg (Kd.R_ne HO_5.out BK193.out (by decide))); replace HO226 := Aside0.mk (Kd.R_after (ok := (fun k_ => some k_ ≠ (.slice Ao47 t227.length co47 : Value).ownBlock)) (uR (Kd.R_mono HO226.out (fun _ hk => ⟨hk.2, hk.1.2⟩))) hg hat); replace HO229 := Aside0.mk (Kd.R_after (ok := (fun k_ => some k_ ≠ (.slice Ao44 t224.length co44 : Value).ownBlock)) (uR (Kd.R_mono HO229.out (fun _ hk => ⟨hk.2, hk.1.2⟩))) hg hat); replace HB := Aside0.mk (hb); have HO232 := Aside0.mk (ho); clear HO_5; clear ho hb hg hat))
       go_roundg k2
       case measure => have := HK1.out; have := HK2.out; omega
       case rel => exact ⟨(y230), (wrap64 (x8_2 + 1)), uG, H', ⟨by have := HK1.out; have := HK2.out; omega⟩, ⟨by (with_reducible repeat (first | apply Kd.R_alloc | apply Kd.R_drewN | apply Kd.R_drew)); exact Kd.R_mono HO232.out (fun _ hk => trivial)⟩, ⟨uK BK193.out⟩, ⟨uB⟩⟩
      rw [if_neg c37] at H
      have c37b0 : decide (x8_2 < (l0_6.length : Int)) = false := decide_eq_false c37
      clear c37
      by_cases c48 : (x5_2.length : Int) > 1048576
      ·
       rw [if_pos c48] at H
       have c48b0 : decide (1048576 < (x5_2.length : Int)) = true := decide_eq_true c48
       have c48b1 : decide (1048576 < x5_2.length) = true := decide_eq_true (by omega)
       clear c48
       simp only [Option.some.injEq, Prod.mk.injEq] at H
       obtain ⟨rfl, rfl⟩ := H
       have hcz49_0 : wr.cell? ⟨gb193, 0, none⟩ = some (.int .i64 a0_0) := (blk_cell BK193.out 0).trans rfl; have hcz49_1 : wr.cell? ⟨gb193, 1, none⟩ = some (.int .i64 a0_1) := (blk_cell BK193.out 1).trans rfl; have hcz49_2 : wr.cell? ⟨gb193, 2, none⟩ = some (.int .i64 a0_2) := (blk_cell BK193.out 2).trans rfl; have hcz49_3 : wr.cell? ⟨gb193, 3, none⟩ = some (.int .i64 a0_3) := (blk_cell BK193.out 3).trans rfl; have hcz49_4 : wr.cell? ⟨gb193, 4, none⟩ = some (.slice A0_4 l0_4.length c0_4) := (blk_cell BK193.out 4).trans rfl; have hcz49_5 : wr.cell? ⟨gb193, 5, none⟩ = some (.slice A0_5 l0_5.length c0_5) := (blk_cell BK193.out 5).trans rfl; have hcz49_6 : wr.cell? ⟨gb193, 6, none⟩ = some (.slice A0_6 l0_6.length c0_6) := (blk_cell BK193.out 6).trans rfl; have hfz49_0 := blk_frozen BK193.out 0; have hfz49_1 := blk_frozen BK193.out 1; have hfz49_2 := blk_frozen BK193.out 2; have hfz49_3 := blk_frozen BK193.out 3; have hfz49_4 := blk_frozen BK193.out 4; have hfz49_5 := blk_frozen BK193.out 5; have hfz49_6 := blk_frozen BK193.out 6
       obtain ⟨Ao50, co50, eo50⟩ := Kd.R_slice HO_5.out
       subst eo50
       go_wp2
       go_ret2
       exact ⟨_, by first | rfl | (simp [errW_none, errW_some] <;> rfl) | (simp [*, errW_none, errW_some] <;> rfl), by first | exact Kd.R_nil _ _ _ _ _ | exact Kd.N_nil _ _ _ _ _ | exact Kd.V_nil _ _ _ _ _ | exact Kd.Q_nil _ _ _ _ _ | exact Kd.S_nil _ _ _ _ _, uB⟩
      rw [if_neg c48] at H
      have c48b0 : decide (1048576 < (x5_2.length : Int)) = false := decide_eq_false c48
      have c48b1 : decide (1048576 < x5_2.length) = false := decide_eq_false (by omega)
      clear c48
      simp only [Option.some.injEq, Prod.mk.injEq] at H
      obtain ⟨rfl, rfl⟩ := H
      have hcz51_0 : wr.cell? ⟨gb193, 0, none⟩ = some (.int .i64 a0_0) := (blk_cell BK193.out 0).trans rfl; have hcz51_1 : wr.cell? ⟨gb193, 1, none⟩ = some (.int .i64 a0_1) := (blk_cell BK193.out 1).trans rfl; have hcz51_2 : wr.cell? ⟨gb193, 2, none⟩ = some (.int .i64 a0_2) := (blk_cell BK193.out 2).trans rfl; have hcz51_3 : wr.cell? ⟨gb193, 3, none⟩ = some (.int .i64 a0_3) := (blk_cell BK193.out 3).trans rfl; have hcz51_4 : wr.cell? ⟨gb193, 4, none⟩ = some (.slice A0_4 l0_4.length c0_4) := (blk_cell BK193.out 4).trans rfl; have hcz51_5 : wr.cell? ⟨gb193, 5, none⟩ = some (.slice A0_5 l0_5.length c0_5) := (blk_cell BK193.out 5).trans rfl; have hcz51_6 : wr.cell? ⟨gb193, 6, none⟩ = some (.slice A0_6 l0_6.length c0_6) := (blk_cell BK193.out 6).trans rfl; have hfz51_0 := blk_frozen BK193.out 0; have hfz51_1 := blk_frozen BK193.out 1; have hfz51_2 := blk_frozen BK193.out 2; have hfz51_3 := blk_frozen BK193.out 3; have hfz51_4 := blk_frozen BK193.out 4; have hfz51_5 := blk_frozen BK193.out 5; have hfz51_6 := blk_frozen BK193.out 6
      obtain ⟨Ao52, co52, eo52⟩ := Kd.R_slice HO_5.out
      subst eo52
      go_wp2
      go_ret2
      exact ⟨_, uF, uR HO_5.out, uB⟩
 replace c3 := Bool.eq_false_iff.mpr c3
 subst c3
 have H1 : (some (([] : List Int), 16)) = some (r1, r2) := by rw [if_neg (show ¬ (false = true) by decide)] at H; exact H
 clear H; have H := H1; clear H1
 simp only [Option.some.injEq, Prod.mk.injEq] at H
 obtain ⟨rfl, rfl⟩ := H
 go_enter Try.func8, Try.ntmps8
 go_wp2_with (first | ((with_reducible refine gate_dst (N := 1) rfl ?_); refine box_event ?hg (N := 1) ?hd (cs := #[.int .i64 a0_0, .int .i64 a0_1, .int .i64 a0_2, .int .i64 a0_3, .slice A0_4 l0_4.length c0_4, .slice A0_5 l0_5.length c0_5, .slice A0_6 l0_6.length c0_6]) (t := 25) ?hr ?_; (case hd => rfl); (case hg => rfl); (case hr => first | (go_simp; done) | (go_simp; rfl)); intro gb193 hg w53 hbox hb; have BK193 := Aside0.mk (hbox); have GW193 := us hg; have GE193 := us hg; replace HB := uy hb; clear hb hbox hg; have hcz54_0 : w53.cell? ⟨gb193, 0, none⟩ = some (.int .i64 a0_0) := (blk_cell BK193.out 0).trans rfl; have hcz54_1 : w53.cell? ⟨gb193, 1, none⟩ = some (.int .i64 a0_1) := (blk_cell BK193.out 1).trans rfl; have hcz54_2 : w53.cell? ⟨gb193, 2, none⟩ = some (.int .i64 a0_2) := (blk_cell BK193.out 2).trans rfl; have hcz54_3 : w53.cell? ⟨gb193, 3, none⟩ = some (.int .i64 a0_3) := (blk_cell BK193.out 3).trans rfl; have hcz54_4 : w53.cell? ⟨gb193, 4, none⟩ = some (.slice A0_4 l0_4.length c0_4) := (blk_cell BK193.out 4).trans rfl; have hcz54_5 : w53.cell? ⟨gb193, 5, none⟩ = some (.slice A0_5 l0_5.length c0_5) := (blk_cell BK193.out 5).trans rfl; have hcz54_6 : w53.cell? ⟨gb193, 6, none⟩ = some (.slice A0_6 l0_6.length c0_6) := (blk_cell BK193.out 6).trans rfl; have hfz54_0 := blk_frozen BK193.out 0; have hfz54_1 := blk_frozen BK193.out 1; have hfz54_2 := blk_frozen BK193.out 2; have hfz54_3 := blk_frozen BK193.out 3; have hfz54_4 := blk_frozen BK193.out 4; have hfz54_5 := blk_frozen BK193.out 5; have hfz54_6 := blk_frozen BK193.out 6) | ((with_reducible refine gate_callee (f := 17) rfl ?_); refine goesL_ (some 10) rfl rfl Try.func17 (by kernel_rfl) rfl #[.agg #[.int .i64 a0_0, .int .i64 a0_1, .int .i64 a0_2, .int .i64 a0_3, .slice A0_4 l0_4.length c0_4, .slice A0_5 l0_5.length c0_5, .slice A0_6 l0_6.length c0_6]] rfl uM ?_; (with_reducible refine (windbreakref12_Right.calls a0_0 a0_1 a0_2 a0_3 _ _ l0_4 _ _ l0_5 _ _ l0_6 false _ ?side1 ?side2 ?side3 ?side4 ?side5 ?side6 A2.out).mono ?_); (case side1 => exact uC (Kd.C_below HR0_4.out HB.out)); (case side2 => exact HC0_4.out); (case side3 => exact uC (Kd.C_below HR0_5.out HB.out)); (case side4 => exact HC0_5.out); (case side5 => exact uC (Kd.C_below HR0_6.out HB.out)); (case side6 => exact HC0_6.out); rintro e w55 ⟨rfl, hb⟩; refine ⟨_, rfl, ?_⟩; replace BK193 := ux BK193 hb; replace HB := uy hb; (try clear hb)))
 go_ret2
 exact ⟨_, by first | rfl | (simp [errW_none, errW_some] <;> rfl) | (simp [*, errW_none, errW_some] <;> rfl), by first | exact Kd.R_nil _ _ _ _ _ | exact Kd.N_nil _ _ _ _ _ | exact Kd.V_nil _ _ _ _ _ | exact Kd.Q_nil _ _ _ _ _ | exact Kd.S_nil _ _ _ _ _, uB⟩
end Go.Proofs.Ytanmfddlncdncab.F
end
section
namespace Go.Proofs.Ytanmfddlncdncab.F
open Go.RowKit Go.Proofs.YtanmfddlncdncabW.PrintWords Go.Proofs.YtanmfddlncdncabW.PrintLast Go.Proofs.YtanmfddlncdncabW.PrintMore
attribute [local go_sem] max2_int min2_int max_two min_two max_three min_three max_four min_four
set_option linter.unusedVariables false
set_option linter.unusedSimpArgs false
mutual
def windbreakref01_Out.l0 : Nat → List Int → List Int → Int → Option (List Int × Bool)
 | 0, _, _, _ => none
 | k + 1, x0, x4, x5 => if x5 < (x0.length : Int) then (windbreakref01_Out.l1 k x0 x4 x5 0 3) else (some (x4, decide ((x4.length : Int) ≤ 64)))
def windbreakref01_Out.l1 : Nat → List Int → List Int → Int → Int → Int → Option (List Int × Bool)
 | 0, _, _, _, _, _ => none
 | k + 1, x0, x4, x5, x6, x7 => if x7 ≥ 0 then (if (wrap64 (x5 + x7)) < (x0.length : Int) then (if 0 ≤ (wrap64 (x5 + x7)) then (windbreakref01_Out.l1 k x0 x4 x5 (IntKind.u64.wrap ((IntKind.u64.wrap (x6 * 65536)) + (rd x0 (wrap64 (x5 + x7))))) (wrap64 (x7 - 1))) else (none)) else (windbreakref01_Out.l1 k x0 x4 x5 (IntKind.u64.wrap (x6 * 65536)) (wrap64 (x7 - 1)))) else (if x4.length < 17592186044416 then (windbreakref01_Out.l0 k x0 (x4 ++ [x6]) (wrap64 (x5 + 4))) else (none))
end
def windbreakref01_Out.f (k : Nat) (l0 : List Int) : Option (List Int × Bool) := windbreakref01_Out.l0 k l0 ([] : List Int) 0
set_option maxHeartbeats 8000000 in
set_option maxRecDepth 100000 in
theorem windbreakref01_Out.calls (k : Nat) (A0 : Option Addr) (c0 : Nat) (l0 : List Int) (r1 : List Int) (r2 : Bool) (w : World) (hr0 : Kd.C (Kd.int .u64) w A0 l0.length l0) (hc0 : l0.length ≤ c0) (h : windbreakref01_Out.f k l0 = some (r1, r2)) :
  Calls Try.prog 60 #[.slice A0 l0.length c0] w fun e w' => ∃ v0_ : Value, e = .returned (.tuple #[v0_, .bool r2]) ∧ Kd.R (Kd.int .u64) 37 w' w.heap.size (fun _ => True) v0_ r1 ∧ Below w.heap.size w w' := by
 have HR0 := Aside0.mk hr0; have HC0 := Aside0.mk hc0; clear hr0 hc0
 have HB := Aside0.mk (Below.refl w.heap.size w)
 have H : (windbreakref01_Out.l0 k l0 ([] : List Int) 0) = some (r1, r2) := h
 clear h
 have H' := Aside0.mk H
 clear H
 go_enter Try.func60, Try.ntmps60
 go_wp2
 go_loopg [4, 5] k (fun kq v4 v5 w' => ∃ (x4_1 : List Int) (x5_1 : Int), v5 = .int .i64 x5_1 ∧ Aside0 (windbreakref01_Out.l0 kq l0 x4_1 x5_1 = some (r1, r2)) ∧ Aside0 (kq ≤ k) ∧ Aside0 (Kd.R (Kd.int .u64) 37 w' w.heap.size (fun _ => True) v4 x4_1) ∧ Aside0 (Below w.heap.size w w'))
 case atStart => exact ⟨(([] : List Int)), (0), uG, H', ⟨Nat.le_refl _⟩, ⟨by first | exact Kd.R_nil _ _ _ _ _ | exact Kd.N_nil _ _ _ _ _ | exact Kd.V_nil _ _ _ _ _ | exact Kd.Q_nil _ _ _ _ _ | exact Kd.S_nil _ _ _ _ _⟩, ⟨uB⟩⟩
 case round =>
  clear H'
  obtain ⟨x4_1, x5_1, rfl, HA, HK1, HO_4, HB⟩ := hrel
  cases gk with
  | zero => exact absurd HA.out (by simp [windbreakref01_Out.l0])
  | succ k1 =>
   have H := HA.out
   clear HA
   simp only [windbreakref01_Out.l0] at H
   by_cases c2 : x5_1 < (l0.length : Int)
   ·
    rw [if_pos c2] at H
    have c2b0 : decide (x5_1 < (l0.length : Int)) = true := decide_eq_true c2
    clear c2
    have H' := Aside0.mk H
    clear H
    go_wp2
    go_loopg [6, 7] k1 (fun kq v6 v7 w' => ∃ (x6_2 : Int) (x7_2 : Int), v6 = .int .u64 x6_2 ∧ v7 = .int .i64 x7_2 ∧ Aside0 (windbreakref01_Out.l1 kq l0 x4_1 x5_1 x6_2 x7_2 = some (r1, r2)) ∧ Aside0 (kq ≤ k1) ∧ Aside0 (Kd.R (Kd.int .u64) 37 w' w.heap.size (fun _ => True) u4 x4_1) ∧ Aside0 (Below w.heap.size w w'))
    case atStart => exact ⟨(0), (3), uG, uG, H', ⟨Nat.le_refl _⟩, ⟨uR HO_4.out⟩, ⟨uB⟩⟩
    case round =>
     clear H'
     (try clear c2); (try clear c2b0); (try clear p2)
     obtain ⟨x6_2, x7_2, rfl, rfl, HA, HK2, HO_4, HB⟩ := hrel
     cases gk with
     | zero => exact absurd HA.out (by simp [windbreakref01_Out.l1])
     | succ k2 =>
      have H := HA.out
      clear HA
      simp only [windbreakref01_Out.l1] at H
      by_cases c3 : x7_2 ≥ 0
      ·
       rw [if_pos c3] at H
       have c3b0 : decide (0 ≤ x7_2) = true := decide_eq_true c3
       clear c3
       by_cases c4 : (wrap64 (x5_1 + x7_2)) < (l0.length : Int)
       ·
        rw [if_pos c4] at H
        have c4b0 : decide ((wrap64 (x5_1 + x7_2)) < (l0.length : Int)) = true := decide_eq_true c4
        clear c4
        obtain ⟨ji5, hji5⟩ : ∃ j_ : Int, (wrap64 (x5_1 + x7_2)) = j_ := ⟨_, rfl⟩
        first | rw [hji5] at H | simp only [hji5] at H
        (try rw [hji5] at c4b0)
        have hji5w : (IntKind.i64.wrap (x5_1 + x7_2)) = ji5 := (i64_w _).trans hji5
        replace H := uT H; obtain ⟨c6, H⟩ := H
        have c6b0 : decide (0 ≤ (ji5)) = true := decide_eq_true c6
        clear c6
        have H' := Aside0.mk H
        clear H
        have p295 : 0 ≤ ((ji5) : Int) := uO
        have q295 : (ji5) < (l0.length : Int) := uO
        obtain ⟨ad295, e295, hx295_0⟩ := Kd.at_int HR0.out (ji5) p295 q295
        cases e295
        replace hx295_0 := (HB.out.cell (World.block_lt_of_cell? w _ hx295_0)).trans hx295_0
        replace p295 := eq_true p295
        replace q295 := eq_true q295
        go_wp2
        first | go_roundg k2 | ((try simp only [← hji5] at H'); simp only [← hji5]; go_roundg k2)
        case measure => have := HK1.out; have := HK2.out; omega
        case rel => first | exact ⟨(IntKind.u64.wrap ((IntKind.u64.wrap (x6_2 * 65536)) + (rd l0 (ji5)))), (wrap64 (x7_2 - 1)), (by first | rfl | (simp; done) | (simp only [← hji5] <;> (first | rfl | simp)) | (simp [*]; done)), uG, H', ⟨by have := HK1.out; have := HK2.out; omega⟩, ⟨uR HO_4.out⟩, ⟨uB⟩⟩ | (simp only [← hji5] at H'; exact ⟨(IntKind.u64.wrap ((IntKind.u64.wrap (x6_2 * 65536)) + (rd l0 (ji5)))), (wrap64 (x7_2 - 1)), (by first | rfl | (simp; done) | (simp only [← hji5] <;> (first | rfl | simp)) | (simp [*]; done)), uG, H', ⟨by have := HK1.out; have := HK2.out; omega⟩, ⟨uR HO_4.out⟩, ⟨uB⟩⟩)
       rw [if_neg c4] at H
       have c4b0 : decide ((wrap64 (x5_1 + x7_2)) < (l0.length : Int)) = false := decide_eq_false c4
       clear c4
       have H' := Aside0.mk H
       clear H
       go_wp2
       first | go_roundg k2 | ((try simp only [← hji5] at H'); simp only [← hji5]; go_roundg k2)
       case measure => have := HK1.out; have := HK2.out; omega
       case rel => first | exact ⟨(IntKind.u64.wrap (x6_2 * 65536)), (wrap64 (x7_2 - 1)), uG, uG, H', ⟨by have := HK1.out; have := HK2.out; omega⟩, ⟨uR HO_4.out⟩, ⟨uB⟩⟩ | (simp only [← hji5] at H'; exact ⟨(IntKind.u64.wrap (x6_2 * 65536)), (wrap64 (x7_2 - 1)), uG, uG, H', ⟨by have := HK1.out; have := HK2.out; omega⟩, ⟨uR HO_4.out⟩, ⟨uB⟩⟩)
      rw [if_neg c3] at H
      have c3b0 : decide (0 ≤ x7_2) = false := decide_eq_false c3
      clear c3
      replace H := uT H; obtain ⟨c7, H⟩ := H
      have LMc7 := Aside0.mk c7; clear c7
      obtain ⟨y296, hy296⟩ : ∃ y_ : List Int, y_ = (x4_1 ++ [x6_2]) := ⟨_, rfl⟩
      replace H : (windbreakref01_Out.l0 k2 l0 y296 (wrap64 (x5_1 + 4))) = some (r1, r2) := by first | (rw [hy296]; with_reducible exact H) | (have H2_ := (Option.bind_some _ _).symm.trans H; rw [hy296]; with_reducible exact H2_) | (have H2_ := (Option.bind_some _ _).symm.trans H; with_reducible exact H2_) | with_reducible exact H | (rw [hy296]; exact H) | exact H
      have Ny296 := Aside0.mk hy296; clear hy296
      have H' := Aside0.mk H
      clear H
      go_wp2_with (first | ((with_reducible refine gate_builtin (b := .append) (xs := #[.tmp 34, .tmp 36]) rfl ?_); at_builtin; refine Kd.R_append (Kd.int .u64) (w0 := w) w.heap.size rfl (.tmp 34) (.tmp 36) 41 37 (.int .u64 0) 8 rfl Try.underlying41 info37 rfl (by decide) (by omega) u4 x4_1 x6_2 [.int .u64 x6_2] (fun _ => True) (fun _ => False) rfl rfl ?aP (fun _ hk => hk.elim) ?aF ?aO ?aB ?aS ?aL ?_; (case aP => exact rfl); (case aB => exact uB); (case aF => exact (fun _ _ => trivial)); (case aO => exact (uR HO_4.out)); (case aS => exact (below_size uB)); (case aL => have := LMc7.out; omega); intro v297 w8 ho hb hg hat; rw [← Ny296.out] at ho; replace HB := Aside0.mk (hb); have HO298 := Aside0.mk (ho); clear HO_4; clear ho hb hg hat))
      first | go_roundg k2 | ((try simp only [← hji5] at H'); simp only [← hji5]; go_roundg k2)
      case measure => have := HK1.out; have := HK2.out; omega
      case rel => first | exact ⟨(y296), (wrap64 (x5_1 + 4)), uG, H', ⟨by have := HK1.out; have := HK2.out; omega⟩, ⟨uR HO298.out⟩, ⟨uB⟩⟩ | (simp only [← hji5] at H'; exact ⟨(y296), (wrap64 (x5_1 + 4)), uG, H', ⟨by have := HK1.out; have := HK2.out; omega⟩, ⟨uR HO298.out⟩, ⟨uB⟩⟩)
   rw [if_neg c2] at H
   have c2b0 : decide (x5_1 < (l0.length : Int)) = false := decide_eq_false c2
   clear c2
   simp only [Option.some.injEq, Prod.mk.injEq] at H
   obtain ⟨rfl, rfl⟩ := H
   obtain ⟨Ao9, co9, eo9⟩ := Kd.R_slice HO_4.out
   subst eo9
   go_wp2
   go_ret2
   exact ⟨_, uF, uR HO_4.out, uB⟩
end Go.Proofs.Ytanmfddlncdncab.F
end
section
namespace Go.Proofs.Ytanmfddlncdncab.F
open Go.RowKit Go.Proofs.YtanmfddlncdncabW.PrintWords Go.Proofs.YtanmfddlncdncabW.PrintLast Go.Proofs.YtanmfddlncdncabW.PrintMore
attribute [local go_sem] max2_int min2_int max_two min_two max_three min_three max_four min_four
set_option linter.unusedVariables false
set_option linter.unusedSimpArgs false
def windbreakref01_told.f (k : Nat) (l0 : List Int) : Option (List Int × Int) := (windbreakref01_Out.f k l0).bind fun bt299 => (if bt299.2 = true then (some (bt299.1, 0)) else (some (([] : List Int), 4)))
set_option maxHeartbeats 8000000 in
set_option maxRecDepth 100000 in
theorem windbreakref01_told.calls (k : Nat) (A0 : Option Addr) (c0 : Nat) (l0 : List Int) (r1 : List Int) (r2 : Int) (w : World) (hr0 : Kd.C (Kd.int .u64) w A0 l0.length l0) (hc0 : l0.length ≤ c0) (h : windbreakref01_told.f k l0 = some (r1, r2)) :
  Calls Try.prog 53 #[.slice A0 l0.length c0] w fun e w' => ∃ v0_ : Value, e = .returned (.tuple #[v0_, .int .i64 r2]) ∧ Kd.R (Kd.int .u64) 37 w' w.heap.size (fun _ => True) v0_ r1 ∧ Below w.heap.size w w' := by
 have HR0 := Aside0.mk hr0; have HC0 := Aside0.mk hc0; clear hr0 hc0
 have HB := Aside0.mk (Below.refl w.heap.size w)
 have H : ((windbreakref01_Out.f k l0).bind fun bt299 => (if bt299.2 = true then (some (bt299.1, 0)) else (some (([] : List Int), 4)))) = some (r1, r2) := h
 clear h
 replace H := ub H; obtain ⟨⟨t299, t300⟩, A2, H⟩ := H
 (try dsimp only at H)
 by_cases c3 : t300 = true
 ·
  subst c3
  have H1 : (some (t299, 0)) = some (r1, r2) := by rw [if_pos rfl] at H; exact H
  clear H; have H := H1; clear H1
  simp only [Option.some.injEq, Prod.mk.injEq] at H
  obtain ⟨rfl, rfl⟩ := H
  go_enter Try.func53, Try.ntmps53
  go_wp2_with (first | ((with_reducible refine gate_callee (f := 60) rfl ?_); refine goesL_ (some 8) rfl rfl Try.func60 (by kernel_rfl) rfl #[.slice A0 l0.length c0] rfl uM ?_; (with_reducible refine (windbreakref01_Out.calls k _ _ l0 t299 true _ ?side1 ?side2 A2.out).mono ?_); (case side1 => exact uC HR0.out); (case side2 => exact HC0.out); rintro e w4 ⟨v301, rfl, ho0, hb⟩; refine ⟨_, rfl, ?_⟩; have HO302 := Aside0.mk (Kd.R_lower ho0 (below_size uB)); replace HB := uy hb; (try clear hb ho0)))
  go_ret2
  exact ⟨_, uF, uR HO302.out, uB⟩
 replace c3 := Bool.eq_false_iff.mpr c3
 subst c3
 have H1 : (some (([] : List Int), 4)) = some (r1, r2) := by rw [if_neg (show ¬ (false = true) by decide)] at H; exact H
 clear H; have H := H1; clear H1
 simp only [Option.some.injEq, Prod.mk.injEq] at H
 obtain ⟨rfl, rfl⟩ := H
 go_enter Try.func53, Try.ntmps53
 go_wp2_with (first | ((with_reducible refine gate_callee (f := 60) rfl ?_); refine goesL_ (some 8) rfl rfl Try.func60 (by kernel_rfl) rfl #[.slice A0 l0.length c0] rfl uM ?_; (with_reducible refine (windbreakref01_Out.calls k _ _ l0 t299 false _ ?side1 ?side2 A2.out).mono ?_); (case side1 => exact uC HR0.out); (case side2 => exact HC0.out); rintro e w5 ⟨v301, rfl, ho0, hb⟩; refine ⟨_, rfl, ?_⟩; have HO302 := Aside0.mk (Kd.R_lower ho0 (below_size uB)); replace HB := uy hb; (try clear hb ho0)))
 go_ret2
 exact ⟨_, by first | rfl | (simp [errW_none, errW_some] <;> rfl) | (simp [*, errW_none, errW_some] <;> rfl), by first | exact Kd.R_nil _ _ _ _ _ | exact Kd.N_nil _ _ _ _ _ | exact Kd.V_nil _ _ _ _ _ | exact Kd.Q_nil _ _ _ _ _ | exact Kd.S_nil _ _ _ _ _, uB⟩
end Go.Proofs.Ytanmfddlncdncab.F
end
