/- Proved: the law WireBack of layer 12: what was encoded is decoded as it was; for every input, without a condition. -/
import Derived.Test.YtanmfddlncdncabMWireBackb
import Derived.Laws.ResultCell
import Derived.SizedLaws
import Derived.ChangeSlices
import Derived.Test.YtanmfddlncdncabRows
import Derived.WalkKit
import Derived.ProofKit
import Derived.OpenShut
import Derived.ShutString
import Derived.ChangeOld
import Derived.Below
section
namespace Go.Proofs.Ytanmfddlncdncab.F
open Go.RowKit Go.Proofs.YtanmfddlncdncabW.PrintWords Go.Proofs.YtanmfddlncdncabW.PrintLast Go.Proofs.YtanmfddlncdncabW.PrintMore
open Go.Proofs.Ytanmfddlncdncab.Z (nxt encN Dig readN rdW decodeV decT Msg rdW_ev)
set_option linter.unusedVariables false
set_option linter.unusedSimpArgs false
set_option maxHeartbeats 8000000 in
set_option maxRecDepth 100000 in
theorem codec_left.calls (g : Nat) (l : List Int) (ok : Nat → Prop) (w : World) (hR : Rdr w g ok l) :
    Calls Try.prog 30 #[.pointer (some ⟨g, 0, none⟩)] w fun e w' => e = .returned (.int .i64 (l.length : Int)) ∧ w' = w := by
  obtain ⟨A, c, h1, h2, h3⟩ := hR
  have hcg : w.cell? ⟨g, 0, none⟩ = some (.slice A l.length c) := (blk_cell h1 0).trans rfl
  clear h1 h3
  go_enter Try.func30, Try.ntmps30
  go_wp2
  go_ret
  exact ⟨rfl, rfl⟩
theorem results_row_tmp {P : Program} {fn : Func} {p u : Tmp} {ty : TypeId} (h : fn.results = #[.cell p ty, .tmp u]) (tmps : Array Value) (w : World) (g : Nat) (t : TypeId) (cs : Array Value) (fr : Nat × Nat) (d : TypeDesc)
    (hp : tmps.getD p undef = .pointer (some ⟨g, 0, none⟩)) (hg : w.heap[g]? = some (.cells cs t fr))
    (hu : P.underlying ty = some d) (hd : (match d with | .struct _ | .array _ _ => true | _ => false) = true) (hi : (P.info? ty).map (·.size) = some cs.size) (v : Value) (hv : tmps.getD u undef = v) :
    (results fn tmps).run P w = .ok (.tuple #[.agg cs, v]) w := by
  rw [results_cell_tmp h, hp]
  simp only [asAddr, Sem.run_pure, Result.andThen_ok, run_loadVar_row w g t ty cs fr d hg hu hd hi]
  rw [hv]
theorem rd1_mk {w : World} {A : Option Addr} {c : Nat} {l : List Int} (h1 : Kd.C (Kd.int .i64) w A l.length l) (h2 : l.length ≤ c) : Rd1 w A c l := ⟨h1, h2⟩
def msgCells (ys : List Int) (v4 v5 v6 : Value) : Array Value := (ys.map (Value.int .i64) ++ [v4, v5, v6]).toArray
theorem msgCells_set {ys : List Int} {v4 v5 v6 : Value} {i : Nat} (hi : i < ys.length) (x : Int) : (msgCells ys v4 v5 v6).setIfInBounds i (.int .i64 x) = msgCells (ys.set i x) v4 v5 v6 := by
  unfold msgCells
  rw [List.setIfInBounds_toArray, List.set_append_left _ _ (by simpa using hi), List.map_set]
theorem msgCells_get {ys : List Int} {v4 v5 v6 : Value} {i : Nat} (hi : i < ys.length) : (msgCells ys v4 v5 v6)[i]? = some (.int .i64 (ys.getD i 0)) := by
  unfold msgCells
  rw [List.getElem?_toArray, List.getElem?_append_left (by simpa using hi), List.getElem?_map, List.getD_eq_getElem?_getD, List.getElem?_eq_getElem hi]
  rfl
def MsgAt (w : World) (v : Value) (m : Msg) : Prop := ∃ (A4 : Option Addr) (c4 : Nat) (A5 : Option Addr) (c5 : Nat) (A6 : Option Addr) (c6 : Nat), v = .agg #[.int .i64 m.1, .int .i64 m.2.1, .int .i64 m.2.2.1, .int .i64 m.2.2.2.1, .slice A4 m.2.2.2.2.1.length c4, .slice A5 m.2.2.2.2.2.1.length c5, .slice A6 m.2.2.2.2.2.2.length c6] ∧ Rd1 w A4 c4 m.2.2.2.2.1 ∧ Rd1 w A5 c5 m.2.2.2.2.2.1 ∧ Kd.C (Kd.slice 37 (Kd.int .u64)) w A6 m.2.2.2.2.2.2.length m.2.2.2.2.2.2 ∧ m.2.2.2.2.2.2.length ≤ c6
theorem MsgAt.zero (w : World) : MsgAt w (.agg (msgCells [0, 0, 0, 0] (.slice none 0 0) (.slice none 0 0) (.slice none 0 0))) ((0, 0, 0, 0, [], [], [])) :=
  ⟨none, 0, none, 0, none, 0, rfl, ⟨Kd.C_nil _ _, Nat.le_refl _⟩, ⟨Kd.C_nil _ _, Nat.le_refl _⟩, Kd.C_nil _ _, Nat.le_refl _⟩
abbrev nilS : Value := .slice none 0 0
def ptrs (gm : Nat) : Array Value := #[.pointer (some ⟨gm, 0, none⟩), .pointer (some ⟨gm, 1, none⟩), .pointer (some ⟨gm, 2, none⟩), .pointer (some ⟨gm, 3, none⟩)]
theorem ptrs_at (gm i : Nat) (h : i < 4) : (ptrs gm)[i]? = some (.pointer (some ⟨gm, i, none⟩)) := by
  match i, h with
  | 0, _ => rfl
  | 1, _ => rfl
  | 2, _ => rfl
  | 3, _ => rfl
theorem msg_one (a0 a1 a2 a3 : Int) (A : Value) (B C : Value) (hA : A.oneCell' = true) (hB : B.oneCell' = true) (hC : C.oneCell' = true) : (msgCells [a0, a1, a2, a3] A B C).all (·.oneCell') = true := by
  simp only [msgCells, List.map_cons, List.map_nil, List.cons_append, List.nil_append, List.all_toArray, List.all_cons, List.all_nil, hA, hB, hC]
  rfl
theorem msg_info : (Try.prog.info? 25).map (·.size) = some 7 := by kernel_rfl
set_option maxHeartbeats 16000000 in
set_option maxRecDepth 100000 in
theorem wire_Decode.calls (A0 : Option Addr) (c0 : Nat) (l0 : List Int) (w : World) (hr0 : Kd.C (Kd.int .u8) w A0 l0.length l0) (hc0 : l0.length ≤ c0) (hl : l0.length ≤ 100000000) (hd : Dig 256 l0) :
    Calls Try.prog 9 #[.slice A0 l0.length c0] w fun e w' => ∃ v : Value, e = .returned (.tuple #[v, .int .i64 (decodeV l0).2]) ∧ MsgAt w' v (decodeV l0).1 ∧ Below w.heap.size w w' := by
  have HR0 := Aside0.mk hr0
  have HC0 := Aside0.mk hc0
  have HL := Aside0.mk hl
  have HD := Aside0.mk hd
  have HB := Aside0.mk (Below.refl w.heap.size w)
  obtain ⟨rv, hrv⟩ : ∃ rv, decodeV l0 = rv := ⟨_, rfl⟩
  rw [hrv]
  have HRV := Aside0.mk hrv
  clear hr0 hc0 hl hd hrv
  go_enter Try.func9, Try.ntmps9
  go_wp2_with (first
    | ((with_reducible refine gate_dst (N := 2) rfl ?_); refine box_event ?hg (N := 2) ?hd (cs := msgCells [0, 0, 0, 0] nilS nilS nilS) (t := 25) ?hr ?_; (case hd => rfl); (case hg => rfl); (case hr => first | (go_simp; done) | (go_simp; rfl)); intro g2 hg w1 hbox hb; have BZ := Aside0.mk hbox; have HB1 := Aside0.mk (below_step HB.out hb); have HG2 := Aside0.mk (show w.heap.size ≤ g2 from hg ▸ below_size HB.out); clear HB hb hbox hg)
    | (go_at_call 22; ((with_reducible refine (codec_New.calls A0 c0 l0 _ (Kd.C_below HR0.out uB) HC0.out HL.out).mono ?_); rintro e w2 ⟨g, rfl, hgg, hr, hb⟩; obtain ⟨ok, hok1, hok2, hr⟩ : ∃ ok : Nat → Prop, (∀ k, ok k → k ≠ g) ∧ (∀ k, ok k → k < g) ∧ Rdr w2 g ok l0 := ⟨_, fun k hk => Nat.ne_of_lt hk.2, fun k hk => hk.2, hr⟩; have HR2 := Aside0.mk hr; have OK1 := Aside0.mk hok1; have OK2 := Aside0.mk hok2; have HGG := Aside0.mk (show g2 < g from Nat.lt_of_lt_of_le (blk_lt BZ.out) hgg); have BZ2 := Aside0.mk (blk_below BZ.out hb); have HB2 := Aside0.mk (below_step HB1.out hb); clear BZ HB1 hb hr hok1 hok2 hgg))
    | ((with_reducible refine gate_dst (N := 4) rfl ?_); refine box_event ?hg (N := 4) ?hd (cs := #[.pointer none]) (t := 45) ?hr ?_; (case hd => rfl); (case hg => rfl); (case hr => first | (go_simp; done) | (go_simp; rfl)); intro gr hg w3 hbox hb; have BR := Aside0.mk hbox; have HGR := Aside0.mk (show g < gr from hg ▸ HR2.out.lt); have HR3 := Aside0.mk (HR2.out.below hb); have BZ3 := Aside0.mk (blk_below BZ2.out hb); have HB3 := Aside0.mk (below_step HB2.out hb); clear HR2 BZ2 HB2 hb hbox hg)
    | ((with_reducible refine gate_store (t := 45) (p := 4) rfl ?_); refine store_event (t := 45) (p := 4) (v := .tmp 16) (w1 := w3.setCell ⟨gr, 0, none⟩ (.pointer (some ⟨g, 0, none⟩))) ?hg ?ho ?hn ?hr ?_; (case ho => rfl); (case hg => rfl); (case hn => rfl); (case hr => (have hy_ := (blk_cell BR.out 0).trans rfl; have hz_ := blk_frozen BR.out 0; first | (go_simp; done) | (go_simp; rfl))); intro w4 hw; have BR4 := Aside0.mk (show RBox w4 gr g by rw [hw]; exact blk_put BR.out 0 _ rfl); have BZ4 := Aside0.mk (show w4.heap[g2]? = some (.cells (msgCells [0, 0, 0, 0] nilS nilS nilS) 25 (0, 0)) by rw [hw]; exact blk_far BZ3.out (by have := HGR.out; have := HGG.out; show g2 ≠ gr; omega) _); have HR4 := Aside0.mk (show Rdr w4 g ok l0 by rw [hw]; exact HR3.out.far (by have := HGR.out; show gr ≠ g; omega) (fun k hk => by have := OK2.out k hk; have := HGR.out; show k ≠ gr; omega) _); have HB4 := Aside0.mk (show Below w.heap.size w w4 by rw [hw]; exact below_set HB3.out (by have := HG2.out; have := HGG.out; have := HGR.out; omega)); clear BR BZ3 HR3 HB3 hw)
    | ((with_reducible refine gate_dst (N := 7) rfl ?_); refine box_event ?hg (N := 7) ?hd (cs := msgCells [0, 0, 0, 0] nilS nilS nilS) (t := 25) ?hr ?_; (case hd => rfl); (case hg => rfl); (case hr => first | (go_simp; done) | (go_simp; rfl)); intro gm hg w5 hbox hb; have BM := Aside0.mk hbox; have HGM := Aside0.mk (show gr < gm from hg ▸ blk_lt BR4.out); have HR5 := Aside0.mk (HR4.out.below hb); have BR5 := Aside0.mk (show RBox w5 gr g from blk_below BR4.out hb); have BZ5 := Aside0.mk (blk_below BZ4.out hb); have HB5 := Aside0.mk (below_step HB4.out hb); clear HR4 BR4 BZ4 HB4 hb hbox hg)
    | ((with_reducible refine gate_dst (N := 23) rfl ?_); refine slice_event ?hg (N := 23) ?hd (cs := ptrs gm) (n := 4) (t := 54) ?hr ?_; (case hd => rfl); (case hg => rfl); (case hr => first | (go_simp; done) | (go_simp; rfl)); intro gs hg w6 hbox hb; have BP := Aside0.mk hbox; have HGS := Aside0.mk (show gm < gs from hg ▸ blk_lt BM.out); have HR6 := Aside0.mk (HR5.out.below hb); have BR6 := Aside0.mk (show RBox w6 gr g from blk_below BR5.out hb); have BZ6 := Aside0.mk (blk_below BZ5.out hb); have BM6 := Aside0.mk (blk_below BM.out hb); have HB6 := Aside0.mk (below_step HB5.out hb); clear HR5 BR5 BZ5 HB5 BM hb hbox hg))
  go_loopg [25] 4 (fun gg v25 wr => ∃ (i : Nat) (ys li : List Int), v25 = .int .i64 (i : Int) ∧ i ≤ 4 ∧ 4 - i ≤ gg ∧ ys.length = 4 ∧ Aside0 ((readN (4 - i) li).map (fun r => (ys.take i ++ r.1, r.2)) = readN 4 l0) ∧ Aside0 (Dig 256 li ∧ li.length ≤ 100000000) ∧ Aside0 (Rdr wr g ok li) ∧ Aside0 (RBox wr gr g) ∧ Aside0 (wr.heap[g2]? = some (.cells (msgCells [0, 0, 0, 0] nilS nilS nilS) 25 (0, 0))) ∧ Aside0 (wr.heap[gm]? = some (.cells (msgCells ys nilS nilS nilS) 25 (0, 0))) ∧ Aside0 (wr.heap[gs]? = some (.cells (ptrs gm) 54 (0, 0))) ∧ Aside0 (Below w.heap.size w wr))
  case atStart => exact ⟨0, [0, 0, 0, 0], l0, rfl, by omega, by omega, rfl, ⟨by rw [Nat.sub_zero]; cases readN 4 l0 <;> rfl⟩, ⟨HD.out, HL.out⟩, HR6, BR6, BZ6, BM6, BP, HB6⟩
  case round =>
    clear HR6 BR6 BZ6 BM6 BP HB6
    obtain ⟨i, ys, li, rfl, hi, hgg, hyl, HT, HDi, HRi, BRi, BZi, BMi, BPi, HBi⟩ := hrel
    by_cases hlt : i < 4
    · have hltz : (i : Int) < 4 := by omega
      have h0z : (0 : Int) ≤ (i : Int) := by omega
      have hptr : wr.cell? ⟨gs, i, none⟩ = some (.pointer (some ⟨gm, i, none⟩)) := (blk_cell BPi.out i).trans (ptrs_at gm i hlt)
      obtain ⟨m, hm⟩ : ∃ m, 4 - i = m + 1 := ⟨4 - i - 1, by omega⟩
      have hT := HT.out
      rw [hm, readN] at hT
      have hdec := wire_decnum.calls gr g li ok
      have hdx := numV_dig (most := 1073741824) HDi.out.1
      have hlx := numV_len (most := 1073741824) (l := li)
      generalize numV 1073741824 li = u at hT hdec hdx hlx
      obtain ⟨x, ex, l2⟩ := u
      simp only at hT hdec hdx hlx
      have HDC := Aside0.mk hdec
      have HDX := Aside0.mk (show Dig 256 l2 ∧ l2.length ≤ 100000000 from ⟨hdx, Nat.le_trans hlx HDi.out.2⟩)
      clear hdec hdx HT hlx
      by_cases hex : ex = 0
      · subst hex
        rw [if_pos rfl] at hT
        have HT := Aside0.mk hT
        clear hT
        go_wp2_with (first | (go_at_call 23; ((with_reducible refine (HDC.out _ BRi.out HRi.out OK1.out HDi.out.1).mono ?_); rintro e w7 ⟨rfl, hr, hk⟩; have HR7 := Aside0.mk hr; have BR7 := Aside0.mk (show RBox w7 gr g from blk_kept BRi.out hk.kept (by have := HGR.out; show ¬ gr = g; omega)); have BZ7 := Aside0.mk (blk_kept BZi.out hk.kept (by have := HGG.out; show ¬ g2 = g; omega)); have BM7 := Aside0.mk (blk_kept BMi.out hk.kept (by have := HGR.out; have := HGM.out; show ¬ gm = g; omega)); have BP7 := Aside0.mk (blk_kept BPi.out hk.kept (by have := HGR.out; have := HGM.out; have := HGS.out; show ¬ gs = g; omega)); have HB7 := Aside0.mk (hk.base HBi.out (by have := HG2.out; have := HGG.out; omega)); have hcm := (blk_cell BM7.out i).trans (msgCells_get (by rw [hyl]; exact hlt)); have hfm := blk_frozen BM7.out i; clear HRi BRi BZi BMi BPi HBi hr hk hptr)))
        have BM8 := Aside0.mk (blk_put BM7.out i _ (msgCells_set (by rw [hyl]; exact hlt) (x : Int)))
        have BR8 := Aside0.mk (show RBox (w7.setCell ⟨gm, i, none⟩ (.int .i64 (x : Int))) gr g from blk_far BR7.out (by have := HGM.out; show gr ≠ gm; omega) _)
        have BZ8 := Aside0.mk (blk_far BZ7.out (p := ⟨gm, i, none⟩) (by have := HGM.out; have := HGR.out; have := HGG.out; show g2 ≠ gm; omega) (.int .i64 (x : Int)))
        have BP8 := Aside0.mk (blk_far BP7.out (p := ⟨gm, i, none⟩) (by have := HGS.out; show gs ≠ gm; omega) (.int .i64 (x : Int)))
        have HR8 := Aside0.mk (HR7.out.far (p := ⟨gm, i, none⟩) (by have := HGM.out; have := HGR.out; show gm ≠ g; omega) (fun k hk => by have := OK2.out k hk; have := HGM.out; have := HGR.out; show k ≠ gm; omega) (.int .i64 (x : Int)))
        have HB8 := Aside0.mk (below_set (g := gm) (j := i) (v := .int .i64 (x : Int)) HB7.out (by have := HG2.out; have := HGG.out; have := HGR.out; have := HGM.out; omega))
        go_roundg (4 - (i + 1))
        case measure => omega
        case rel =>
          refine ⟨i + 1, ys.set i (x : Int), l2, by go_num, by omega, by omega, by rw [List.length_set]; exact hyl, ⟨?_⟩, HDX, HR8, BR8, BZ8, BM8, BP8, HB8⟩
          rw [show 4 - (i + 1) = m from by omega, ← HT.out, List.take_succ_eq_append_getElem (by rw [List.length_set]; omega), List.take_set_of_le (Nat.le_refl _), List.getElem_set_self]
          cases readN m l2 <;> simp
      · rw [if_neg hex] at hT
        have hrv : ((0, 0, 0, 0, [], [], []), 16) = rv := by
          rw [← HRV.out]
          unfold decodeV
          rw [← hT]
          rfl
        subst hrv
        have hexz : (ex == 0) = false := beq_eq_false_iff_ne.mpr hex
        clear hT
        go_wp2_with (first
          | (go_at_call 23; ((with_reducible refine (HDC.out _ BRi.out HRi.out OK1.out HDi.out.1).mono ?_); rintro e w7 ⟨rfl, hr, hk⟩; have BZ7 := Aside0.mk (blk_kept BZi.out hk.kept (by have := HGG.out; show ¬ g2 = g; omega)); have HB7 := Aside0.mk (hk.base HBi.out (by have := HG2.out; have := HGG.out; omega)); clear HRi BRi BZi BMi BPi HBi hr hk hptr))
          | ((with_reducible refine gate_store (t := 25) (p := 2) rfl ?_); refine wpList_store_row rfl 25 (.tmp 2) (.tmp 36) rfl g2 (msgCells [0, 0, 0, 0] nilS nilS nilS) rfl rfl 25 (msgCells [0, 0, 0, 0] nilS nilS nilS) BZ7.out (by kernel_rfl) (by kernel_rfl) (by kernel_rfl) ?_; have BZ9 := Aside0.mk (setRow_heap w7 g2 _ (msgCells [0, 0, 0, 0] nilS nilS nilS) _ _ BZ7.out); have HB9 := Aside0.mk (below_setRow HB7.out HG2.out (msgCells [0, 0, 0, 0] nilS nilS nilS)); generalize w7.setRow g2 (msgCells [0, 0, 0, 0] nilS nilS nilS) = w9 at BZ9 HB9 ⊢; clear BZ7 HB7))
        (try rw [Exit.noGoto_ret])
        exact bodyPost_ret (results_row_tmp rfl _ _ g2 25 (msgCells [0, 0, 0, 0] nilS nilS nilS) (0, 0) _ rfl BZ9.out Try.underlying25 rfl (by kernel_rfl) (.int .i64 16) rfl) rfl ⟨_, rfl, MsgAt.zero _, HB9.out⟩
    · obtain rfl : i = 4 := by omega
      have hT := HT.out
      rw [show 4 - 4 = 0 from rfl, readN, Option.map_some, List.append_nil, List.take_of_length_le (by omega)] at hT
      have hrv := HRV.out
      unfold decodeV at hrv
      rw [← hT] at hrv
      simp only at hrv
      obtain ⟨a0, a1, a2, a3, rfl⟩ : ∃ a0 a1 a2 a3, ys = [a0, a1, a2, a3] := by
        match ys, hyl with
        | [a0, a1, a2, a3], _ => exact ⟨_, _, _, _, rfl⟩
      change decT l0.length a0 a1 a2 a3 li = rv at hrv
      unfold decT at hrv
      have hltz : ¬ ((4 : Nat) : Int) < 4 := by omega
      have hc1 := fun w h1 h2 => wire_readints.calls gr g li ok w h1 h2 OK1.out HDi.out.1 (by have := HGR.out; omega) OK2.out
      have hd1 := @Z.readI_ok li HDi.out.1
      generalize readI li = p at hrv hc1 hd1
      obtain ⟨p1, pb, p2⟩ := p
      simp only at hrv hc1 hd1
      have hc2 := fun (h : pb = true) w h1 h2 => wire_readints.calls gr g p2 ok w h1 h2 OK1.out (hd1 h).2 (by have := HGR.out; omega) OK2.out
      have hd2 := fun (h : pb = true) => @Z.readI_ok p2 (hd1 h).2
      generalize readI p2 = q at hrv hc2 hd2
      obtain ⟨q1, qb, q2⟩ := q
      simp only at hrv hc2 hd2
      have hlen : pb = true → qb = true → q2.length < 9223372036854775808 := fun h1 h2 => by
        have e1 := congrArg List.length (hd1 h1).1
        have e2 := congrArg List.length (hd2 h1 h2).1
        have := HDi.out.2
        simp only [List.length_append] at e1 e2
        omega
      have hc3 := fun (h1 : pb = true) (h2 : qb = true) w hB hR => wire_readnats.calls rdW rdW_ev gr g q2 ok w hB hR OK1.out (hd2 h1 h2).2 (hlen h1 h2) (by have := HGR.out; omega) OK2.out
      have hd3 := fun (h1 : pb = true) (h2 : qb = true) => @Z.readNats_ok q2 (hd2 h1 h2).2
      generalize readNats rdW q2 = s at hrv hc3 hd3
      obtain ⟨s1, sb, s2⟩ := s
      simp only at hrv hc3 hd3
      have hR : pb = true → qb = true → sb = true → wire_Right.f a0 a1 a2 a3 p1 q1 s1 = some (Z.rightV a0 a1 a2 a3 p1 q1 s1) := fun h1 h2 h3 => Z.wire_Right_eq _ _ _ _ _ _ _ (fun a ha => by have := ((hd3 h1 h2 h3).2 a ha).2.2; simp only [maxLen]; omega)
      have HC1 := Aside0.mk hc1
      have HC2 := Aside0.mk hc2
      have HC3 := Aside0.mk hc3
      have BR9 := BRi; have HR9 := HRi; have BZ9 := BZi; have BM9 := BMi; have HB9 := HBi
      obtain ⟨N0, hN0⟩ : ∃ N0, N0 = wr.heap.size := ⟨_, rfl⟩
      have HNG := Aside0.mk (show g2 < N0 ∧ g < N0 ∧ gm < N0 from ⟨by rw [hN0]; exact blk_lt BZi.out, by rw [hN0]; exact HRi.out.lt, by rw [hN0]; exact blk_lt BMi.out⟩)
      have HN9 := Aside0.mk (Nat.le_of_eq hN0)
      have hcr := (blk_cell BR9.out 0).trans rfl
      clear hc1 hc2 hc3 hd1 hd2 hd3 hlen hT HT HRi BRi BZi BMi BPi HBi hN0 HRV HDi
      have hcase : rv = ((0, 0, 0, 0, [], [], []), 16) ∧ (pb = false ∨ pb = true ∧ (qb = false ∨ qb = true ∧ (sb = false ∨ sb = true ∧ (0 < s2.length ∨ s2.length = 0 ∧ (1048576 < l0.length ∨ l0.length ≤ 1048576 ∧ wire_Right.f a0 a1 a2 a3 p1 q1 s1 = some false))))) ∨ rv = ((a0, a1, a2, a3, p1, q1, s1), 0) ∧ pb = true ∧ qb = true ∧ sb = true ∧ s2.length = 0 ∧ l0.length ≤ 1048576 ∧ wire_Right.f a0 a1 a2 a3 p1 q1 s1 = some true := by
        cases pb with
        | false => exact .inl ⟨hrv.symm, .inl rfl⟩
        | true =>
          cases qb with
          | false => exact .inl ⟨hrv.symm, .inr ⟨rfl, .inl rfl⟩⟩
          | true =>
            cases sb with
            | false =>
              rw [if_pos rfl, if_pos rfl] at hrv
              exact .inl ⟨hrv.symm.trans (if_neg (fun h => absurd h.1 (by decide))), .inr ⟨rfl, .inr ⟨rfl, .inl rfl⟩⟩⟩
            | true =>
              rw [if_pos rfl, if_pos rfl] at hrv
              by_cases k1 : s2 = []
              · by_cases k2 : l0.length ≤ 1048576
                · have hR' := hR rfl rfl rfl
                  cases k3 : Z.rightV a0 a1 a2 a3 p1 q1 s1 with
                  | false => rw [k3] at hR' hrv; exact .inl ⟨hrv.symm.trans (if_neg (fun h => absurd h.2.2.2 (by decide))), .inr ⟨rfl, .inr ⟨rfl, .inr ⟨rfl, .inr ⟨by rw [k1]; rfl, .inr ⟨k2, hR'⟩⟩⟩⟩⟩⟩
                  | true => rw [k3] at hR' hrv; exact .inr ⟨hrv.symm.trans (if_pos ⟨rfl, k1, k2, rfl⟩), rfl, rfl, rfl, by rw [k1]; rfl, k2, hR'⟩
                · exact .inl ⟨hrv.symm.trans (if_neg (fun h => k2 h.2.2.1)), .inr ⟨rfl, .inr ⟨rfl, .inr ⟨rfl, .inr ⟨by rw [k1]; rfl, .inl (by omega)⟩⟩⟩⟩⟩
              · exact .inl ⟨hrv.symm.trans (if_neg (fun h => k1 h.2.1)), .inr ⟨rfl, .inr ⟨rfl, .inr ⟨rfl, .inl (List.length_pos_iff.mpr k1)⟩⟩⟩⟩
      clear hrv hR
      rcases hcase with ⟨rfl, hc⟩ | ⟨rfl, rfl, rfl, rfl, k1, k2, k3⟩
      · rcases hc with rfl | ⟨rfl, rfl | ⟨rfl, rfl | ⟨rfl, k1 | ⟨k1, k2 | ⟨k2, k3⟩⟩⟩⟩⟩
        case inl =>
          go_wp2_with (first
            | (go_at_call 28; ((with_reducible refine (HC1.out _ BR9.out HR9.out).mono ?_); rintro e w10 ⟨vp, rfl, ho, ⟨lp', hr, hlp⟩, hk⟩; obtain ⟨Ap, dp, ep⟩ := Kd.R_slice ho; subst ep; have HR10 := Aside0.mk hr; have HLLp := Aside0.mk hlp; have HFp := Aside0.mk (Kd.R_V (base' := 0) (Kd.R_mono (Kd.R_bound ho) (fun k hk => (Nat.le_trans HN9.out hk.2.1 : N0 ≤ k)))); have BR10 := Aside0.mk (show RBox w10 gr g from blk_kept BR9.out hk.kept (by have := HGR.out; show ¬ gr = g; omega)); have BZ10 := Aside0.mk (blk_kept BZ9.out hk.kept (by have := HGG.out; show ¬ g2 = g; omega)); have BM10 := Aside0.mk (blk_kept BM9.out hk.kept (by have := HGR.out; have := HGM.out; show ¬ gm = g; omega)); have HB10 := Aside0.mk (hk.base HB9.out (by have := HG2.out; have := HGG.out; omega)); have HN10 := Aside0.mk (Nat.le_trans HN9.out hk.kept.1); clear HR9 BR9 BZ9 BM9 HB9 hcr ho hr hk hlp))
            | ((with_reducible refine gate_store (t := 22) (p := 47) rfl ?_); refine store_event (t := 22) (p := 47) (v := .tmp 45) (w1 := w10.setCell ⟨gm, 4, none⟩ (.slice Ap p1.length dp)) ?hg ?ho ?hn ?hr ?_; (case ho => rfl); (case hg => rfl); (case hn => rfl); (case hr => (have hy_ := (blk_cell BM10.out 4).trans rfl; have hz_ := blk_frozen BM10.out 4; first | (go_simp; done) | (go_simp; rfl))); intro w11 hw; have BM11 := Aside0.mk (show w11.heap[gm]? = some (.cells (msgCells [a0, a1, a2, a3] (.slice Ap p1.length dp) nilS nilS) 25 (0, 0)) by rw [hw]; exact blk_put BM10.out 4 _ rfl); have BR11 := Aside0.mk (show RBox w11 gr g by rw [hw]; exact blk_far BR10.out (by have := HGM.out; show gr ≠ gm; omega) _); have BZ11 := Aside0.mk (show w11.heap[g2]? = some (.cells (msgCells [0, 0, 0, 0] nilS nilS nilS) 25 (0, 0)) by rw [hw]; exact blk_far BZ10.out (by have := HGM.out; have := HGR.out; have := HGG.out; show g2 ≠ gm; omega) _); have HR11 := Aside0.mk (show Rdr w11 g ok lp' by rw [hw]; exact HR10.out.far (by have := HGM.out; have := HGR.out; show gm ≠ g; omega) (fun k hk => by have := OK2.out k hk; have := HGM.out; have := HGR.out; show k ≠ gm; omega) _); have HB11 := Aside0.mk (show Below w.heap.size w w11 by rw [hw]; exact below_set HB10.out (by have := HG2.out; have := HGG.out; have := HGR.out; have := HGM.out; omega)); have HN11 := Aside0.mk (show N0 ≤ w11.heap.size by rw [hw]; simpa [World.setCell] using HN10.out); have HFpk := Aside0.mk (show Kd.V _ 0 w11 0 (fun k => N0 ≤ k) _ _ by rw [hw]; exact Kd.V_far HFp.out (fun k hk1 => by have := HNG.out; have := HGM.out; show k ≠ gm; omega) _); replace HFp := HFpk; clear HFpk; have hcr := (blk_cell BR11.out 0).trans rfl; clear HR10 BR10 BZ10 BM10 HB10 HN10 hw)
            | ((with_reducible refine gate_store (t := 25) (p := 2) rfl ?_); refine wpList_store_row rfl 25 (.tmp 2) (.tmp 81) rfl g2 (msgCells [0, 0, 0, 0] nilS nilS nilS) rfl rfl 25 (msgCells [0, 0, 0, 0] nilS nilS nilS) BZ11.out (by kernel_rfl) (by kernel_rfl) (by kernel_rfl) ?_; have BE := Aside0.mk (setRow_heap w11 g2 _ (msgCells [0, 0, 0, 0] nilS nilS nilS) _ _ BZ11.out); have HE := Aside0.mk (below_setRow HB11.out HG2.out (msgCells [0, 0, 0, 0] nilS nilS nilS)); generalize w11.setRow g2 (msgCells [0, 0, 0, 0] nilS nilS nilS) = w20 at BE HE ⊢))
          (try rw [Exit.noGoto_ret])
          exact bodyPost_ret (results_row_tmp rfl _ _ g2 25 (msgCells [0, 0, 0, 0] nilS nilS nilS) (0, 0) _ rfl BE.out Try.underlying25 rfl (by kernel_rfl) (.int .i64 16) rfl) rfl ⟨_, rfl, MsgAt.zero _, HE.out⟩
        all_goals (try have y1 : decide (0 < (s2.length : Int)) = true := decide_eq_true (by omega)); (try have y2 : decide (0 < (s2.length : Int)) = false := decide_eq_false (by omega)); (try have y3 : decide (1048576 < (l0.length : Int)) = true := decide_eq_true (by omega)); (try have y4 : decide (1048576 < (l0.length : Int)) = false := decide_eq_false (by omega))
        all_goals (try have HRR := Aside0.mk k3)
        all_goals (try clear k3)
        all_goals
          go_wp2_with (first
            | (go_at_call 28; ((with_reducible refine (HC1.out _ BR9.out HR9.out).mono ?_); rintro e w10 ⟨vp, rfl, ho, ⟨lp', hr, hlp⟩, hk⟩; obtain ⟨Ap, dp, ep⟩ := Kd.R_slice ho; subst ep; have HR10 := Aside0.mk hr; have HLLp := Aside0.mk hlp; have HFp := Aside0.mk (Kd.R_V (base' := 0) (Kd.R_mono (Kd.R_bound ho) (fun k hk => (Nat.le_trans HN9.out hk.2.1 : N0 ≤ k)))); have BR10 := Aside0.mk (show RBox w10 gr g from blk_kept BR9.out hk.kept (by have := HGR.out; show ¬ gr = g; omega)); have BZ10 := Aside0.mk (blk_kept BZ9.out hk.kept (by have := HGG.out; show ¬ g2 = g; omega)); have BM10 := Aside0.mk (blk_kept BM9.out hk.kept (by have := HGR.out; have := HGM.out; show ¬ gm = g; omega)); have HB10 := Aside0.mk (hk.base HB9.out (by have := HG2.out; have := HGG.out; omega)); have HN10 := Aside0.mk (Nat.le_trans HN9.out hk.kept.1); clear HR9 BR9 BZ9 BM9 HB9 hcr ho hr hk hlp))
            | ((with_reducible refine gate_store (t := 22) (p := 47) rfl ?_); refine store_event (t := 22) (p := 47) (v := .tmp 45) (w1 := w10.setCell ⟨gm, 4, none⟩ (.slice Ap p1.length dp)) ?hg ?ho ?hn ?hr ?_; (case ho => rfl); (case hg => rfl); (case hn => rfl); (case hr => (have hy_ := (blk_cell BM10.out 4).trans rfl; have hz_ := blk_frozen BM10.out 4; first | (go_simp; done) | (go_simp; rfl))); intro w11 hw; have BM11 := Aside0.mk (show w11.heap[gm]? = some (.cells (msgCells [a0, a1, a2, a3] (.slice Ap p1.length dp) nilS nilS) 25 (0, 0)) by rw [hw]; exact blk_put BM10.out 4 _ rfl); have BR11 := Aside0.mk (show RBox w11 gr g by rw [hw]; exact blk_far BR10.out (by have := HGM.out; show gr ≠ gm; omega) _); have BZ11 := Aside0.mk (show w11.heap[g2]? = some (.cells (msgCells [0, 0, 0, 0] nilS nilS nilS) 25 (0, 0)) by rw [hw]; exact blk_far BZ10.out (by have := HGM.out; have := HGR.out; have := HGG.out; show g2 ≠ gm; omega) _); have HR11 := Aside0.mk (show Rdr w11 g ok lp' by rw [hw]; exact HR10.out.far (by have := HGM.out; have := HGR.out; show gm ≠ g; omega) (fun k hk => by have := OK2.out k hk; have := HGM.out; have := HGR.out; show k ≠ gm; omega) _); have HB11 := Aside0.mk (show Below w.heap.size w w11 by rw [hw]; exact below_set HB10.out (by have := HG2.out; have := HGG.out; have := HGR.out; have := HGM.out; omega)); have HN11 := Aside0.mk (show N0 ≤ w11.heap.size by rw [hw]; simpa [World.setCell] using HN10.out); have HFpk := Aside0.mk (show Kd.V _ 0 w11 0 (fun k => N0 ≤ k) _ _ by rw [hw]; exact Kd.V_far HFp.out (fun k hk1 => by have := HNG.out; have := HGM.out; show k ≠ gm; omega) _); replace HFp := HFpk; clear HFpk; have hcr := (blk_cell BR11.out 0).trans rfl; clear HR10 BR10 BZ10 BM10 HB10 HN10 hw)
            | (go_at_call 28; ((with_reducible refine (HC2.out (by first | rfl | trivial) _ BR11.out (show Rdr w11 g ok p2 by rw [← (show lp' = p2 by first | exact HLLp.out rfl | exact HLLp.out trivial | exact HLLp.out)]; exact HR11.out)).mono ?_); rintro e w12 ⟨vq, rfl, ho, ⟨lq', hr, hlq⟩, hk⟩; obtain ⟨Aq, dq, eq⟩ := Kd.R_slice ho; subst eq; have HR12 := Aside0.mk hr; have HLLq := Aside0.mk hlq; have HFq := Aside0.mk (Kd.R_V (base' := 0) (Kd.R_mono (Kd.R_bound ho) (fun k hk => (Nat.le_trans HN11.out hk.2.1 : N0 ≤ k)))); have BR12 := Aside0.mk (show RBox w12 gr g from blk_kept BR11.out hk.kept (by have := HGR.out; show ¬ gr = g; omega)); have BZ12 := Aside0.mk (blk_kept BZ11.out hk.kept (by have := HGG.out; show ¬ g2 = g; omega)); have BM12 := Aside0.mk (blk_kept BM11.out hk.kept (by have := HGR.out; have := HGM.out; show ¬ gm = g; omega)); have HB12 := Aside0.mk (hk.base HB11.out (by have := HG2.out; have := HGG.out; omega)); have HN12 := Aside0.mk (Nat.le_trans HN11.out hk.kept.1); have HFpk := Aside0.mk (Kd.V_kept HFp.out hk.kept (fun k hk1 e => by have := HNG.out; change k = g at e; omega)); replace HFp := HFpk; clear HFpk; clear HR11 BR11 BZ11 BM11 HB11 hcr ho hr hk hlq))
            | ((with_reducible refine gate_store (t := 22) (p := 55) rfl ?_); refine store_event (t := 22) (p := 55) (v := .tmp 53) (w1 := w12.setCell ⟨gm, 5, none⟩ (.slice Aq q1.length dq)) ?hg ?ho ?hn ?hr ?_; (case ho => rfl); (case hg => rfl); (case hn => rfl); (case hr => (have hy_ := (blk_cell BM12.out 5).trans rfl; have hz_ := blk_frozen BM12.out 5; first | (go_simp; done) | (go_simp; rfl))); intro w13 hw; have BM13 := Aside0.mk (show w13.heap[gm]? = some (.cells (msgCells [a0, a1, a2, a3] (.slice Ap p1.length dp) (.slice Aq q1.length dq) nilS) 25 (0, 0)) by rw [hw]; exact blk_put BM12.out 5 _ rfl); have BR13 := Aside0.mk (show RBox w13 gr g by rw [hw]; exact blk_far BR12.out (by have := HGM.out; show gr ≠ gm; omega) _); have BZ13 := Aside0.mk (show w13.heap[g2]? = some (.cells (msgCells [0, 0, 0, 0] nilS nilS nilS) 25 (0, 0)) by rw [hw]; exact blk_far BZ12.out (by have := HGM.out; have := HGR.out; have := HGG.out; show g2 ≠ gm; omega) _); have HR13 := Aside0.mk (show Rdr w13 g ok lq' by rw [hw]; exact HR12.out.far (by have := HGM.out; have := HGR.out; show gm ≠ g; omega) (fun k hk => by have := OK2.out k hk; have := HGM.out; have := HGR.out; show k ≠ gm; omega) _); have HB13 := Aside0.mk (show Below w.heap.size w w13 by rw [hw]; exact below_set HB12.out (by have := HG2.out; have := HGG.out; have := HGR.out; have := HGM.out; omega)); have HN13 := Aside0.mk (show N0 ≤ w13.heap.size by rw [hw]; simpa [World.setCell] using HN12.out); have HFpk := Aside0.mk (show Kd.V _ 0 w13 0 (fun k => N0 ≤ k) _ _ by rw [hw]; exact Kd.V_far HFp.out (fun k hk1 => by have := HNG.out; have := HGM.out; show k ≠ gm; omega) _); replace HFp := HFpk; clear HFpk; have HFqk := Aside0.mk (show Kd.V _ 0 w13 0 (fun k => N0 ≤ k) _ _ by rw [hw]; exact Kd.V_far HFq.out (fun k hk1 => by have := HNG.out; have := HGM.out; show k ≠ gm; omega) _); replace HFq := HFqk; clear HFqk; have hcr := (blk_cell BR13.out 0).trans rfl; clear HR12 BR12 BZ12 BM12 HB12 HN12 hw)
            | (go_at_call 29; ((with_reducible refine (HC3.out (by first | rfl | trivial) (by first | rfl | trivial) _ BR13.out (show Rdr w13 g ok q2 by rw [← (show lq' = q2 by first | exact HLLq.out rfl | exact HLLq.out trivial | exact HLLq.out)]; exact HR13.out)).mono ?_); rintro e w14 ⟨vs, rfl, ho, ⟨ls', hr, hls⟩, hk⟩; obtain ⟨As, ds, es⟩ := Kd.R_slice ho; subst es; have HR14 := Aside0.mk hr; have HLLs := Aside0.mk hls; have HFs := Aside0.mk (Kd.R_V (base' := 0) (Kd.R_mono (Kd.R_bound ho) (fun k hk => (Nat.le_trans HN13.out hk.2.1 : N0 ≤ k)))); have BR14 := Aside0.mk (show RBox w14 gr g from blk_kept BR13.out hk.kept (by have := HGR.out; show ¬ gr = g; omega)); have BZ14 := Aside0.mk (blk_kept BZ13.out hk.kept (by have := HGG.out; show ¬ g2 = g; omega)); have BM14 := Aside0.mk (blk_kept BM13.out hk.kept (by have := HGR.out; have := HGM.out; show ¬ gm = g; omega)); have HB14 := Aside0.mk (hk.base HB13.out (by have := HG2.out; have := HGG.out; omega)); have HN14 := Aside0.mk (Nat.le_trans HN13.out hk.kept.1); have HFpk := Aside0.mk (Kd.V_kept HFp.out hk.kept (fun k hk1 e => by have := HNG.out; change k = g at e; omega)); replace HFp := HFpk; clear HFpk; have HFqk := Aside0.mk (Kd.V_kept HFq.out hk.kept (fun k hk1 e => by have := HNG.out; change k = g at e; omega)); replace HFq := HFqk; clear HFqk; clear HR13 BR13 BZ13 BM13 HB13 hcr ho hr hk hls))
            | ((with_reducible refine gate_store (t := 23) (p := 63) rfl ?_); refine store_event (t := 23) (p := 63) (v := .tmp 61) (w1 := w14.setCell ⟨gm, 6, none⟩ (.slice As s1.length ds)) ?hg ?ho ?hn ?hr ?_; (case ho => rfl); (case hg => rfl); (case hn => rfl); (case hr => (have hy_ := (blk_cell BM14.out 6).trans rfl; have hz_ := blk_frozen BM14.out 6; first | (go_simp; done) | (go_simp; rfl))); intro w15 hw; have BM15 := Aside0.mk (show w15.heap[gm]? = some (.cells (msgCells [a0, a1, a2, a3] (.slice Ap p1.length dp) (.slice Aq q1.length dq) (.slice As s1.length ds)) 25 (0, 0)) by rw [hw]; exact blk_put BM14.out 6 _ rfl); have BR15 := Aside0.mk (show RBox w15 gr g by rw [hw]; exact blk_far BR14.out (by have := HGM.out; show gr ≠ gm; omega) _); have BZ15 := Aside0.mk (show w15.heap[g2]? = some (.cells (msgCells [0, 0, 0, 0] nilS nilS nilS) 25 (0, 0)) by rw [hw]; exact blk_far BZ14.out (by have := HGM.out; have := HGR.out; have := HGG.out; show g2 ≠ gm; omega) _); have HR15 := Aside0.mk (show Rdr w15 g ok ls' by rw [hw]; exact HR14.out.far (by have := HGM.out; have := HGR.out; show gm ≠ g; omega) (fun k hk => by have := OK2.out k hk; have := HGM.out; have := HGR.out; show k ≠ gm; omega) _); have HB15 := Aside0.mk (show Below w.heap.size w w15 by rw [hw]; exact below_set HB14.out (by have := HG2.out; have := HGG.out; have := HGR.out; have := HGM.out; omega)); have HN15 := Aside0.mk (show N0 ≤ w15.heap.size by rw [hw]; simpa [World.setCell] using HN14.out); have HFpk := Aside0.mk (show Kd.V _ 0 w15 0 (fun k => N0 ≤ k) _ _ by rw [hw]; exact Kd.V_far HFp.out (fun k hk1 => by have := HNG.out; have := HGM.out; show k ≠ gm; omega) _); replace HFp := HFpk; clear HFpk; have HFqk := Aside0.mk (show Kd.V _ 0 w15 0 (fun k => N0 ≤ k) _ _ by rw [hw]; exact Kd.V_far HFq.out (fun k hk1 => by have := HNG.out; have := HGM.out; show k ≠ gm; omega) _); replace HFq := HFqk; clear HFqk; have HFsk := Aside0.mk (show Kd.V _ 0 w15 0 (fun k => N0 ≤ k) _ _ by rw [hw]; exact Kd.V_far HFs.out (fun k hk1 => by have := HNG.out; have := HGM.out; show k ≠ gm; omega) _); replace HFs := HFsk; clear HFsk; have hcr := (blk_cell BR15.out 0).trans rfl; have hm0 : w15.cell? ⟨gm, 0, none⟩ = some (.int .i64 a0) := (blk_cell BM15.out 0).trans rfl; have hm1 : w15.cell? ⟨gm, 1, none⟩ = some (.int .i64 a1) := (blk_cell BM15.out 1).trans rfl; have hm2 : w15.cell? ⟨gm, 2, none⟩ = some (.int .i64 a2) := (blk_cell BM15.out 2).trans rfl; have hm3 : w15.cell? ⟨gm, 3, none⟩ = some (.int .i64 a3) := (blk_cell BM15.out 3).trans rfl; have hm4 : w15.cell? ⟨gm, 4, none⟩ = some (.slice Ap p1.length dp) := (blk_cell BM15.out 4).trans rfl; have hm5 : w15.cell? ⟨gm, 5, none⟩ = some (.slice Aq q1.length dq) := (blk_cell BM15.out 5).trans rfl; have hm6 : w15.cell? ⟨gm, 6, none⟩ = some (.slice As s1.length ds) := (blk_cell BM15.out 6).trans rfl; clear HR14 BR14 BZ14 BM14 HB14 HN14 hw)
            | (go_at_call 30; (with_reducible refine (codec_left.calls g s2 ok _ (show Rdr w15 g ok s2 by rw [← (show ls' = s2 by first | exact HLLs.out rfl | exact HLLs.out trivial | exact HLLs.out)]; exact HR15.out)).mono ?_); rintro e w16 ⟨rfl, rfl⟩)
            | (go_at_call 12; (with_reducible refine (wire_Right.call7 a0 a1 a2 a3 Ap dp p1 Aq dq q1 As ds s1 _ _ (rd1_mk (Kd.V_reads' HFp.out).2.2 (Kd.V_reads' HFp.out).2.1) (rd1_mk (Kd.V_reads' HFq.out).2.2 (Kd.V_reads' HFq.out).2.1) ⟨(Kd.V_reads' HFs.out).2.2, (Kd.V_reads' HFs.out).2.1⟩ HRR.out).mono ?_); rintro e w17 ⟨rfl, hb⟩; have BZ17 := Aside0.mk (blk_below BZ15.out hb); have BM17 := Aside0.mk (blk_below BM15.out hb); have HB17 := Aside0.mk (below_step HB15.out hb); have HFp17 := Aside0.mk (Kd.V_below HFp.out hb); have HFq17 := Aside0.mk (Kd.V_below HFq.out hb); have HFs17 := Aside0.mk (Kd.V_below HFs.out hb); clear hm0 hm1 hm2 hm3 hm4 hm5 hm6; have hm0 : w17.cell? ⟨gm, 0, none⟩ = some (.int .i64 a0) := (blk_cell BM17.out 0).trans rfl; have hm1 : w17.cell? ⟨gm, 1, none⟩ = some (.int .i64 a1) := (blk_cell BM17.out 1).trans rfl; have hm2 : w17.cell? ⟨gm, 2, none⟩ = some (.int .i64 a2) := (blk_cell BM17.out 2).trans rfl; have hm3 : w17.cell? ⟨gm, 3, none⟩ = some (.int .i64 a3) := (blk_cell BM17.out 3).trans rfl; have hm4 : w17.cell? ⟨gm, 4, none⟩ = some (.slice Ap p1.length dp) := (blk_cell BM17.out 4).trans rfl; have hm5 : w17.cell? ⟨gm, 5, none⟩ = some (.slice Aq q1.length dq) := (blk_cell BM17.out 5).trans rfl; have hm6 : w17.cell? ⟨gm, 6, none⟩ = some (.slice As s1.length ds) := (blk_cell BM17.out 6).trans rfl; clear BZ15 BM15 HB15 HFp HFq HFs hb hcr)
            | ((with_reducible refine gate_store (t := 25) (p := 2) rfl ?_); refine wpList_store_row rfl 25 (.tmp 2) (.tmp 81) rfl g2 (msgCells [0, 0, 0, 0] nilS nilS nilS) rfl rfl 25 (msgCells [0, 0, 0, 0] nilS nilS nilS) BZ17.out (by kernel_rfl) (by kernel_rfl) (by kernel_rfl) ?_; have BE := Aside0.mk (setRow_heap _ g2 _ (msgCells [0, 0, 0, 0] nilS nilS nilS) _ _ BZ17.out); have HE := Aside0.mk (below_setRow HB17.out HG2.out (msgCells [0, 0, 0, 0] nilS nilS nilS)))
            | ((with_reducible refine gate_store (t := 25) (p := 2) rfl ?_); refine wpList_store_row rfl 25 (.tmp 2) (.tmp 81) rfl g2 (msgCells [0, 0, 0, 0] nilS nilS nilS) rfl rfl 25 (msgCells [0, 0, 0, 0] nilS nilS nilS) BZ15.out (by kernel_rfl) (by kernel_rfl) (by kernel_rfl) ?_; have BE := Aside0.mk (setRow_heap _ g2 _ (msgCells [0, 0, 0, 0] nilS nilS nilS) _ _ BZ15.out); have HE := Aside0.mk (below_setRow HB15.out HG2.out (msgCells [0, 0, 0, 0] nilS nilS nilS)))
            | ((with_reducible refine gate_store (t := 25) (p := 2) rfl ?_); refine wpList_store_row rfl 25 (.tmp 2) (.tmp 81) rfl g2 (msgCells [0, 0, 0, 0] nilS nilS nilS) rfl rfl 25 (msgCells [0, 0, 0, 0] nilS nilS nilS) BZ13.out (by kernel_rfl) (by kernel_rfl) (by kernel_rfl) ?_; have BE := Aside0.mk (setRow_heap _ g2 _ (msgCells [0, 0, 0, 0] nilS nilS nilS) _ _ BZ13.out); have HE := Aside0.mk (below_setRow HB13.out HG2.out (msgCells [0, 0, 0, 0] nilS nilS nilS))))
        all_goals (try rw [Exit.noGoto_ret])
        all_goals exact bodyPost_ret (results_row_tmp rfl _ _ g2 25 (msgCells [0, 0, 0, 0] nilS nilS nilS) (0, 0) _ rfl BE.out Try.underlying25 rfl (by kernel_rfl) (.int .i64 16) rfl) rfl ⟨_, rfl, MsgAt.zero _, HE.out⟩
      · have y2 : decide (0 < (s2.length : Int)) = false := decide_eq_false (by omega)
        have y4 : decide (1048576 < (l0.length : Int)) = false := decide_eq_false (by omega)
        have HRR := Aside0.mk k3
        clear k3
        go_wp2_with (first
          | (go_at_call 28; ((with_reducible refine (HC1.out _ BR9.out HR9.out).mono ?_); rintro e w10 ⟨vp, rfl, ho, ⟨lp', hr, hlp⟩, hk⟩; obtain ⟨Ap, dp, ep⟩ := Kd.R_slice ho; subst ep; have HR10 := Aside0.mk hr; have HLLp := Aside0.mk hlp; have HFp := Aside0.mk (Kd.R_V (base' := 0) (Kd.R_mono (Kd.R_bound ho) (fun k hk => (Nat.le_trans HN9.out hk.2.1 : N0 ≤ k)))); have BR10 := Aside0.mk (show RBox w10 gr g from blk_kept BR9.out hk.kept (by have := HGR.out; show ¬ gr = g; omega)); have BZ10 := Aside0.mk (blk_kept BZ9.out hk.kept (by have := HGG.out; show ¬ g2 = g; omega)); have BM10 := Aside0.mk (blk_kept BM9.out hk.kept (by have := HGR.out; have := HGM.out; show ¬ gm = g; omega)); have HB10 := Aside0.mk (hk.base HB9.out (by have := HG2.out; have := HGG.out; omega)); have HN10 := Aside0.mk (Nat.le_trans HN9.out hk.kept.1); clear HR9 BR9 BZ9 BM9 HB9 hcr ho hr hk hlp))
          | ((with_reducible refine gate_store (t := 22) (p := 47) rfl ?_); refine store_event (t := 22) (p := 47) (v := .tmp 45) (w1 := w10.setCell ⟨gm, 4, none⟩ (.slice Ap p1.length dp)) ?hg ?ho ?hn ?hr ?_; (case ho => rfl); (case hg => rfl); (case hn => rfl); (case hr => (have hy_ := (blk_cell BM10.out 4).trans rfl; have hz_ := blk_frozen BM10.out 4; first | (go_simp; done) | (go_simp; rfl))); intro w11 hw; have BM11 := Aside0.mk (show w11.heap[gm]? = some (.cells (msgCells [a0, a1, a2, a3] (.slice Ap p1.length dp) nilS nilS) 25 (0, 0)) by rw [hw]; exact blk_put BM10.out 4 _ rfl); have BR11 := Aside0.mk (show RBox w11 gr g by rw [hw]; exact blk_far BR10.out (by have := HGM.out; show gr ≠ gm; omega) _); have BZ11 := Aside0.mk (show w11.heap[g2]? = some (.cells (msgCells [0, 0, 0, 0] nilS nilS nilS) 25 (0, 0)) by rw [hw]; exact blk_far BZ10.out (by have := HGM.out; have := HGR.out; have := HGG.out; show g2 ≠ gm; omega) _); have HR11 := Aside0.mk (show Rdr w11 g ok lp' by rw [hw]; exact HR10.out.far (by have := HGM.out; have := HGR.out; show gm ≠ g; omega) (fun k hk => by have := OK2.out k hk; have := HGM.out; have := HGR.out; show k ≠ gm; omega) _); have HB11 := Aside0.mk (show Below w.heap.size w w11 by rw [hw]; exact below_set HB10.out (by have := HG2.out; have := HGG.out; have := HGR.out; have := HGM.out; omega)); have HN11 := Aside0.mk (show N0 ≤ w11.heap.size by rw [hw]; simpa [World.setCell] using HN10.out); have HFpk := Aside0.mk (show Kd.V _ 0 w11 0 (fun k => N0 ≤ k) _ _ by rw [hw]; exact Kd.V_far HFp.out (fun k hk1 => by have := HNG.out; have := HGM.out; show k ≠ gm; omega) _); replace HFp := HFpk; clear HFpk; have hcr := (blk_cell BR11.out 0).trans rfl; clear HR10 BR10 BZ10 BM10 HB10 HN10 hw)
          | (go_at_call 28; ((with_reducible refine (HC2.out (by first | rfl | trivial) _ BR11.out (show Rdr w11 g ok p2 by rw [← (show lp' = p2 by first | exact HLLp.out rfl | exact HLLp.out trivial | exact HLLp.out)]; exact HR11.out)).mono ?_); rintro e w12 ⟨vq, rfl, ho, ⟨lq', hr, hlq⟩, hk⟩; obtain ⟨Aq, dq, eq⟩ := Kd.R_slice ho; subst eq; have HR12 := Aside0.mk hr; have HLLq := Aside0.mk hlq; have HFq := Aside0.mk (Kd.R_V (base' := 0) (Kd.R_mono (Kd.R_bound ho) (fun k hk => (Nat.le_trans HN11.out hk.2.1 : N0 ≤ k)))); have BR12 := Aside0.mk (show RBox w12 gr g from blk_kept BR11.out hk.kept (by have := HGR.out; show ¬ gr = g; omega)); have BZ12 := Aside0.mk (blk_kept BZ11.out hk.kept (by have := HGG.out; show ¬ g2 = g; omega)); have BM12 := Aside0.mk (blk_kept BM11.out hk.kept (by have := HGR.out; have := HGM.out; show ¬ gm = g; omega)); have HB12 := Aside0.mk (hk.base HB11.out (by have := HG2.out; have := HGG.out; omega)); have HN12 := Aside0.mk (Nat.le_trans HN11.out hk.kept.1); have HFpk := Aside0.mk (Kd.V_kept HFp.out hk.kept (fun k hk1 e => by have := HNG.out; change k = g at e; omega)); replace HFp := HFpk; clear HFpk; clear HR11 BR11 BZ11 BM11 HB11 hcr ho hr hk hlq))
          | ((with_reducible refine gate_store (t := 22) (p := 55) rfl ?_); refine store_event (t := 22) (p := 55) (v := .tmp 53) (w1 := w12.setCell ⟨gm, 5, none⟩ (.slice Aq q1.length dq)) ?hg ?ho ?hn ?hr ?_; (case ho => rfl); (case hg => rfl); (case hn => rfl); (case hr => (have hy_ := (blk_cell BM12.out 5).trans rfl; have hz_ := blk_frozen BM12.out 5; first | (go_simp; done) | (go_simp; rfl))); intro w13 hw; have BM13 := Aside0.mk (show w13.heap[gm]? = some (.cells (msgCells [a0, a1, a2, a3] (.slice Ap p1.length dp) (.slice Aq q1.length dq) nilS) 25 (0, 0)) by rw [hw]; exact blk_put BM12.out 5 _ rfl); have BR13 := Aside0.mk (show RBox w13 gr g by rw [hw]; exact blk_far BR12.out (by have := HGM.out; show gr ≠ gm; omega) _); have BZ13 := Aside0.mk (show w13.heap[g2]? = some (.cells (msgCells [0, 0, 0, 0] nilS nilS nilS) 25 (0, 0)) by rw [hw]; exact blk_far BZ12.out (by have := HGM.out; have := HGR.out; have := HGG.out; show g2 ≠ gm; omega) _); have HR13 := Aside0.mk (show Rdr w13 g ok lq' by rw [hw]; exact HR12.out.far (by have := HGM.out; have := HGR.out; show gm ≠ g; omega) (fun k hk => by have := OK2.out k hk; have := HGM.out; have := HGR.out; show k ≠ gm; omega) _); have HB13 := Aside0.mk (show Below w.heap.size w w13 by rw [hw]; exact below_set HB12.out (by have := HG2.out; have := HGG.out; have := HGR.out; have := HGM.out; omega)); have HN13 := Aside0.mk (show N0 ≤ w13.heap.size by rw [hw]; simpa [World.setCell] using HN12.out); have HFpk := Aside0.mk (show Kd.V _ 0 w13 0 (fun k => N0 ≤ k) _ _ by rw [hw]; exact Kd.V_far HFp.out (fun k hk1 => by have := HNG.out; have := HGM.out; show k ≠ gm; omega) _); replace HFp := HFpk; clear HFpk; have HFqk := Aside0.mk (show Kd.V _ 0 w13 0 (fun k => N0 ≤ k) _ _ by rw [hw]; exact Kd.V_far HFq.out (fun k hk1 => by have := HNG.out; have := HGM.out; show k ≠ gm; omega) _); replace HFq := HFqk; clear HFqk; have hcr := (blk_cell BR13.out 0).trans rfl; clear HR12 BR12 BZ12 BM12 HB12 HN12 hw)
          | (go_at_call 29; ((with_reducible refine (HC3.out (by first | rfl | trivial) (by first | rfl | trivial) _ BR13.out (show Rdr w13 g ok q2 by rw [← (show lq' = q2 by first | exact HLLq.out rfl | exact HLLq.out trivial | exact HLLq.out)]; exact HR13.out)).mono ?_); rintro e w14 ⟨vs, rfl, ho, ⟨ls', hr, hls⟩, hk⟩; obtain ⟨As, ds, es⟩ := Kd.R_slice ho; subst es; have HR14 := Aside0.mk hr; have HLLs := Aside0.mk hls; have HFs := Aside0.mk (Kd.R_V (base' := 0) (Kd.R_mono (Kd.R_bound ho) (fun k hk => (Nat.le_trans HN13.out hk.2.1 : N0 ≤ k)))); have BR14 := Aside0.mk (show RBox w14 gr g from blk_kept BR13.out hk.kept (by have := HGR.out; show ¬ gr = g; omega)); have BZ14 := Aside0.mk (blk_kept BZ13.out hk.kept (by have := HGG.out; show ¬ g2 = g; omega)); have BM14 := Aside0.mk (blk_kept BM13.out hk.kept (by have := HGR.out; have := HGM.out; show ¬ gm = g; omega)); have HB14 := Aside0.mk (hk.base HB13.out (by have := HG2.out; have := HGG.out; omega)); have HN14 := Aside0.mk (Nat.le_trans HN13.out hk.kept.1); have HFpk := Aside0.mk (Kd.V_kept HFp.out hk.kept (fun k hk1 e => by have := HNG.out; change k = g at e; omega)); replace HFp := HFpk; clear HFpk; have HFqk := Aside0.mk (Kd.V_kept HFq.out hk.kept (fun k hk1 e => by have := HNG.out; change k = g at e; omega)); replace HFq := HFqk; clear HFqk; clear HR13 BR13 BZ13 BM13 HB13 hcr ho hr hk hls))
          | ((with_reducible refine gate_store (t := 23) (p := 63) rfl ?_); refine store_event (t := 23) (p := 63) (v := .tmp 61) (w1 := w14.setCell ⟨gm, 6, none⟩ (.slice As s1.length ds)) ?hg ?ho ?hn ?hr ?_; (case ho => rfl); (case hg => rfl); (case hn => rfl); (case hr => (have hy_ := (blk_cell BM14.out 6).trans rfl; have hz_ := blk_frozen BM14.out 6; first | (go_simp; done) | (go_simp; rfl))); intro w15 hw; have BM15 := Aside0.mk (show w15.heap[gm]? = some (.cells (msgCells [a0, a1, a2, a3] (.slice Ap p1.length dp) (.slice Aq q1.length dq) (.slice As s1.length ds)) 25 (0, 0)) by rw [hw]; exact blk_put BM14.out 6 _ rfl); have BR15 := Aside0.mk (show RBox w15 gr g by rw [hw]; exact blk_far BR14.out (by have := HGM.out; show gr ≠ gm; omega) _); have BZ15 := Aside0.mk (show w15.heap[g2]? = some (.cells (msgCells [0, 0, 0, 0] nilS nilS nilS) 25 (0, 0)) by rw [hw]; exact blk_far BZ14.out (by have := HGM.out; have := HGR.out; have := HGG.out; show g2 ≠ gm; omega) _); have HR15 := Aside0.mk (show Rdr w15 g ok ls' by rw [hw]; exact HR14.out.far (by have := HGM.out; have := HGR.out; show gm ≠ g; omega) (fun k hk => by have := OK2.out k hk; have := HGM.out; have := HGR.out; show k ≠ gm; omega) _); have HB15 := Aside0.mk (show Below w.heap.size w w15 by rw [hw]; exact below_set HB14.out (by have := HG2.out; have := HGG.out; have := HGR.out; have := HGM.out; omega)); have HN15 := Aside0.mk (show N0 ≤ w15.heap.size by rw [hw]; simpa [World.setCell] using HN14.out); have HFpk := Aside0.mk (show Kd.V _ 0 w15 0 (fun k => N0 ≤ k) _ _ by rw [hw]; exact Kd.V_far HFp.out (fun k hk1 => by have := HNG.out; have := HGM.out; show k ≠ gm; omega) _); replace HFp := HFpk; clear HFpk; have HFqk := Aside0.mk (show Kd.V _ 0 w15 0 (fun k => N0 ≤ k) _ _ by rw [hw]; exact Kd.V_far HFq.out (fun k hk1 => by have := HNG.out; have := HGM.out; show k ≠ gm; omega) _); replace HFq := HFqk; clear HFqk; have HFsk := Aside0.mk (show Kd.V _ 0 w15 0 (fun k => N0 ≤ k) _ _ by rw [hw]; exact Kd.V_far HFs.out (fun k hk1 => by have := HNG.out; have := HGM.out; show k ≠ gm; omega) _); replace HFs := HFsk; clear HFsk; have hcr := (blk_cell BR15.out 0).trans rfl; have hm0 : w15.cell? ⟨gm, 0, none⟩ = some (.int .i64 a0) := (blk_cell BM15.out 0).trans rfl; have hm1 : w15.cell? ⟨gm, 1, none⟩ = some (.int .i64 a1) := (blk_cell BM15.out 1).trans rfl; have hm2 : w15.cell? ⟨gm, 2, none⟩ = some (.int .i64 a2) := (blk_cell BM15.out 2).trans rfl; have hm3 : w15.cell? ⟨gm, 3, none⟩ = some (.int .i64 a3) := (blk_cell BM15.out 3).trans rfl; have hm4 : w15.cell? ⟨gm, 4, none⟩ = some (.slice Ap p1.length dp) := (blk_cell BM15.out 4).trans rfl; have hm5 : w15.cell? ⟨gm, 5, none⟩ = some (.slice Aq q1.length dq) := (blk_cell BM15.out 5).trans rfl; have hm6 : w15.cell? ⟨gm, 6, none⟩ = some (.slice As s1.length ds) := (blk_cell BM15.out 6).trans rfl; clear HR14 BR14 BZ14 BM14 HB14 HN14 hw)
          | (go_at_call 30; (with_reducible refine (codec_left.calls g s2 ok _ (show Rdr w15 g ok s2 by rw [← (show ls' = s2 by first | exact HLLs.out rfl | exact HLLs.out trivial | exact HLLs.out)]; exact HR15.out)).mono ?_); rintro e w16 ⟨rfl, rfl⟩)
          | (go_at_call 12; (with_reducible refine (wire_Right.call7 a0 a1 a2 a3 Ap dp p1 Aq dq q1 As ds s1 _ _ (rd1_mk (Kd.V_reads' HFp.out).2.2 (Kd.V_reads' HFp.out).2.1) (rd1_mk (Kd.V_reads' HFq.out).2.2 (Kd.V_reads' HFq.out).2.1) ⟨(Kd.V_reads' HFs.out).2.2, (Kd.V_reads' HFs.out).2.1⟩ HRR.out).mono ?_); rintro e w17 ⟨rfl, hb⟩; have BZ17 := Aside0.mk (blk_below BZ15.out hb); have BM17 := Aside0.mk (blk_below BM15.out hb); have HB17 := Aside0.mk (below_step HB15.out hb); have HFp17 := Aside0.mk (Kd.V_below HFp.out hb); have HFq17 := Aside0.mk (Kd.V_below HFq.out hb); have HFs17 := Aside0.mk (Kd.V_below HFs.out hb); clear hm0 hm1 hm2 hm3 hm4 hm5 hm6; have hm0 : w17.cell? ⟨gm, 0, none⟩ = some (.int .i64 a0) := (blk_cell BM17.out 0).trans rfl; have hm1 : w17.cell? ⟨gm, 1, none⟩ = some (.int .i64 a1) := (blk_cell BM17.out 1).trans rfl; have hm2 : w17.cell? ⟨gm, 2, none⟩ = some (.int .i64 a2) := (blk_cell BM17.out 2).trans rfl; have hm3 : w17.cell? ⟨gm, 3, none⟩ = some (.int .i64 a3) := (blk_cell BM17.out 3).trans rfl; have hm4 : w17.cell? ⟨gm, 4, none⟩ = some (.slice Ap p1.length dp) := (blk_cell BM17.out 4).trans rfl; have hm5 : w17.cell? ⟨gm, 5, none⟩ = some (.slice Aq q1.length dq) := (blk_cell BM17.out 5).trans rfl; have hm6 : w17.cell? ⟨gm, 6, none⟩ = some (.slice As s1.length ds) := (blk_cell BM17.out 6).trans rfl; clear BZ15 BM15 HB15 HFp HFq HFs hb hcr)
          | ((with_reducible refine gate_store (t := 25) (p := 2) rfl ?_); refine wpList_store_row rfl 25 (.tmp 2) (.tmp 82) rfl g2 (msgCells [a0, a1, a2, a3] (.slice Ap p1.length dp) (.slice Aq q1.length dq) (.slice As s1.length ds)) rfl rfl 25 (msgCells [0, 0, 0, 0] nilS nilS nilS) BZ17.out msg_info rfl (msg_one _ _ _ _ _ _ _ rfl rfl rfl) ?_; have BE := Aside0.mk (setRow_heap _ g2 _ (msgCells [a0, a1, a2, a3] (.slice Ap p1.length dp) (.slice Aq q1.length dq) (.slice As s1.length ds)) _ _ BZ17.out); have HE := Aside0.mk (below_setRow HB17.out HG2.out (msgCells [a0, a1, a2, a3] (.slice Ap p1.length dp) (.slice Aq q1.length dq) (.slice As s1.length ds)))))
        (try rw [Exit.noGoto_ret])
        have HS := fun (w9 : World) (k : Nat) (hk : N0 ≤ k) => setRow_other w9 g2 k (msgCells [a0, a1, a2, a3] (.slice Ap p1.length dp) (.slice Aq q1.length dq) (.slice As s1.length ds)) (by have := HNG.out; omega)
        exact bodyPost_ret (results_row_tmp rfl _ _ g2 25 (msgCells [a0, a1, a2, a3] (.slice Ap p1.length dp) (.slice Aq q1.length dq) (.slice As s1.length ds)) (0, 0) _ rfl BE.out Try.underlying25 rfl msg_info (.int .i64 0) rfl) rfl ⟨_, rfl, ⟨Ap, dp, Aq, dq, As, ds, rfl, ⟨(Kd.V_reads' (Kd.V_step HFp17.out (fun k hk _ => HS _ k hk))).2.2, (Kd.V_reads' HFp17.out).2.1⟩, ⟨(Kd.V_reads' (Kd.V_step HFq17.out (fun k hk _ => HS _ k hk))).2.2, (Kd.V_reads' HFq17.out).2.1⟩, (Kd.V_reads' (Kd.V_step HFs17.out (fun k hk _ => HS _ k hk))).2.2, (Kd.V_reads' HFs17.out).2.1⟩, HE.out⟩
end Go.Proofs.Ytanmfddlncdncab.F
end
section
namespace Go.Proofs.Ytanmfddlncdncab.F
open Go.RowKit Go.Proofs.YtanmfddlncdncabW.PrintWords Go.Proofs.YtanmfddlncdncabW.PrintLast Go.Proofs.YtanmfddlncdncabW.PrintMore
open Go.Proofs.Ytanmfddlncdncab.Z (Dig decodeV)
set_option linter.unusedVariables false
set_option linter.unusedSimpArgs false
theorem msg_parts {w : World} {cs : Array Value} {x : Int × Int × Int × Int × List Int × List Int × List (List Int)} (h : (Kd.pair (Kd.int .i64) (Kd.pair (Kd.int .i64) (Kd.pair (Kd.int .i64) (Kd.pair (Kd.int .i64) (Kd.pair (Kd.slice 3 (Kd.int .i64)) (Kd.pair (Kd.slice 3 (Kd.int .i64)) (Kd.slice 41 (Kd.slice 37 (Kd.int .u64))))))))).K w x cs.toList) : ∃ A4 c4 A5 c5 A6 c6, cs = #[.int .i64 x.1, .int .i64 x.2.1, .int .i64 x.2.2.1, .int .i64 x.2.2.2.1, .slice A4 x.2.2.2.2.1.length c4, .slice A5 x.2.2.2.2.2.1.length c5, .slice A6 x.2.2.2.2.2.2.length c6] ∧ x.2.2.2.2.1.length ≤ c4 ∧ Kd.C (Kd.int .i64) w A4 x.2.2.2.2.1.length x.2.2.2.2.1 ∧ x.2.2.2.2.2.1.length ≤ c5 ∧ Kd.C (Kd.int .i64) w A5 x.2.2.2.2.2.1.length x.2.2.2.2.2.1 ∧ x.2.2.2.2.2.2.length ≤ c6 ∧ Kd.C (Kd.slice 37 (Kd.int .u64)) w A6 x.2.2.2.2.2.2.length x.2.2.2.2.2.2 := by
  obtain ⟨_, _, e, rfl, _, _, rfl, rfl, _, _, rfl, rfl, _, _, rfl, rfl, _, _, rfl, ⟨A4, c4, rfl, l4, r4⟩, _, _, rfl, ⟨A5, c5, rfl, l5, r5⟩, ⟨A6, c6, rfl, l6, r6⟩⟩ := h
  refine ⟨A4, c4, A5, c5, A6, c6, ?_, l4, r4, l5, r5, l6, r6⟩
  rw [← Array.toList_inj]
  exact e
set_option maxHeartbeats 8000000 in
set_option maxRecDepth 100000 in
theorem wireBack.err (k : Nat) (a0 a1 a2 a3 : Int) (A4 : Option Addr) (c4 : Nat) (l4 : List Int) (A5 : Option Addr) (c5 : Nat) (l5 : List Int) (A6 : Option Addr) (c6 : Nat) (l6 : List (List Int)) (w : World) (h4 : Rd1 w A4 c4 l4) (h5 : Rd1 w A5 c5 l5) (h6 : Kd.C (Kd.slice 37 (Kd.int .u64)) w A6 l6.length l6 ∧ l6.length ≤ c6) (hA : windbreaklaw12_awake.f k = some true) (x1 : List Int) (hE : wire_Encode.f k a0 a1 a2 a3 l4 l5 l6 = some (x1, 16)) :
    Calls Try.prog 5 #[.agg #[.int .i64 a0, .int .i64 a1, .int .i64 a2, .int .i64 a3, .slice A4 l4.length c4, .slice A5 l5.length c5, .slice A6 l6.length c6]] w fun e w' => e = .returned (.bool true) ∧ Below w.heap.size w w' := by
  have HB := Aside0.mk (Below.refl w.heap.size w)
  have H4 := Aside0.mk h4; have H5 := Aside0.mk h5; have H6 := Aside0.mk h6; have HA := Aside0.mk hA; have HE := Aside0.mk hE
  clear h4 h5 h6 hA hE
  go_enter Try.func5, Try.ntmps5
  go_wp2_with (first
    | ((with_reducible refine gate_dst (N := 1) rfl ?_); refine box_event ?hg (N := 1) ?hd (cs := #[.int .i64 a0, .int .i64 a1, .int .i64 a2, .int .i64 a3, .slice A4 l4.length c4, .slice A5 l5.length c5, .slice A6 l6.length c6]) (t := 25) ?hr ?_; (case hd => rfl); (case hg => rfl); (case hr => first | (go_simp; done) | (go_simp; rfl)); intro gm hg w1 hbox hb; have Bm := Aside0.mk hbox; have HB1 := Aside0.mk (below_step HB.out hb); clear HB hb hbox hg)
    | (go_at_call 6; (with_reducible refine (windbreaklaw12_awake.calls k true _ HA.out).mono ?_); rintro e w2 ⟨rfl, hb⟩; have Bm2 := Aside0.mk (blk_below Bm.out hb); replace Bm := Bm2; clear Bm2; have HB2 := Aside0.mk (below_step HB1.out hb); have hm0 : w2.cell? ⟨gm, 0, none⟩ = some (.int .i64 a0) := (blk_cell Bm.out 0).trans rfl; have hm1 : w2.cell? ⟨gm, 1, none⟩ = some (.int .i64 a1) := (blk_cell Bm.out 1).trans rfl; have hm2 : w2.cell? ⟨gm, 2, none⟩ = some (.int .i64 a2) := (blk_cell Bm.out 2).trans rfl; have hm3 : w2.cell? ⟨gm, 3, none⟩ = some (.int .i64 a3) := (blk_cell Bm.out 3).trans rfl; have hm4 : w2.cell? ⟨gm, 4, none⟩ = some (.slice A4 l4.length c4) := (blk_cell Bm.out 4).trans rfl; have hm5 : w2.cell? ⟨gm, 5, none⟩ = some (.slice A5 l5.length c5) := (blk_cell Bm.out 5).trans rfl; have hm6 : w2.cell? ⟨gm, 6, none⟩ = some (.slice A6 l6.length c6) := (blk_cell Bm.out 6).trans rfl; clear HB1 hb)
    | (go_at_call 7; ((with_reducible refine (wire_Encode.call7 k a0 a1 a2 a3 A4 c4 l4 A5 c5 l5 A6 c6 l6 x1 16 _ (H4.out.below uB) (H5.out.below uB) ⟨Kd.C_below H6.out.1 uB, H6.out.2⟩ HE.out).mono ?_); rintro e w3 ⟨v3, rfl, ho, hb⟩; have HB3 := Aside0.mk (below_step HB2.out hb); clear hm0 hm1 hm2 hm3 hm4 hm5 hm6 HB2 Bm ho hb)))
  (try rw [Exit.noGoto_ret])
  go_ret
  exact ⟨rfl, HB3.out⟩
set_option maxHeartbeats 8000000 in
set_option maxRecDepth 100000 in
theorem wireBack.ok (k : Nat) (a0 a1 a2 a3 : Int) (A4 : Option Addr) (c4 : Nat) (l4 : List Int) (A5 : Option Addr) (c5 : Nat) (l5 : List Int) (A6 : Option Addr) (c6 : Nat) (l6 : List (List Int)) (w : World) (h4 : Rd1 w A4 c4 l4) (h5 : Rd1 w A5 c5 l5) (h6 : Kd.C (Kd.slice 37 (Kd.int .u64)) w A6 l6.length l6 ∧ l6.length ≤ c6) (hA : windbreaklaw12_awake.f k = some true) (x1 : List Int) (hE : wire_Encode.f k a0 a1 a2 a3 l4 l5 l6 = some (x1, 0)) (hd : Dig 256 x1) (hl : x1.length ≤ 100000000) (hD : decodeV x1 = ((a0, a1, a2, a3, l4, l5, l6), 0)) (hS : windbreakref12_Same.f k a0 a1 a2 a3 l4 l5 l6 a0 a1 a2 a3 l4 l5 l6 = some true) :
    Calls Try.prog 5 #[.agg #[.int .i64 a0, .int .i64 a1, .int .i64 a2, .int .i64 a3, .slice A4 l4.length c4, .slice A5 l5.length c5, .slice A6 l6.length c6]] w fun e w' => e = .returned (.bool true) ∧ Below w.heap.size w w' := by
  have HB := Aside0.mk (Below.refl w.heap.size w)
  have H4 := Aside0.mk h4; have H5 := Aside0.mk h5; have H6 := Aside0.mk h6; have HA := Aside0.mk hA; have HE := Aside0.mk hE; have HS := Aside0.mk hS
  have hdec : ∀ (A0 : Option Addr) (c0 : Nat) (w : World), Kd.C (Kd.int .u8) w A0 x1.length x1 → x1.length ≤ c0 → Calls Try.prog 9 #[.slice A0 x1.length c0] w fun e w' => ∃ v : Value, e = .returned (.tuple #[v, .int .i64 0]) ∧ MsgAt w' v (a0, a1, a2, a3, l4, l5, l6) ∧ Below w.heap.size w w' := by
    intro A0 c0 w h1 h2
    have h := wire_Decode.calls A0 c0 x1 w h1 h2 hl hd
    rw [hD] at h
    exact h
  have HD := Aside0.mk hdec
  clear h4 h5 h6 hA hE hS hdec hd hl hD
  go_enter Try.func5, Try.ntmps5
  go_wp2_with (first
    | ((with_reducible refine gate_dst (N := 1) rfl ?_); refine box_event ?hg (N := 1) ?hd (cs := #[.int .i64 a0, .int .i64 a1, .int .i64 a2, .int .i64 a3, .slice A4 l4.length c4, .slice A5 l5.length c5, .slice A6 l6.length c6]) (t := 25) ?hr ?_; (case hd => rfl); (case hg => rfl); (case hr => first | (go_simp; done) | (go_simp; rfl)); intro gm hg w1 hbox hb; have Bm := Aside0.mk hbox; have HB1 := Aside0.mk (below_step HB.out hb); have HGM := Aside0.mk (show w.heap.size ≤ gm from hg ▸ below_size HB.out); clear HB hb hbox hg)
    | (go_at_call 6; (with_reducible refine (windbreaklaw12_awake.calls k true _ HA.out).mono ?_); rintro e w2 ⟨rfl, hb⟩; have Bm2 := Aside0.mk (blk_below Bm.out hb); replace Bm := Bm2; clear Bm2; have HB2 := Aside0.mk (below_step HB1.out hb); have hm0 : w2.cell? ⟨gm, 0, none⟩ = some (.int .i64 a0) := (blk_cell Bm.out 0).trans rfl; have hm1 : w2.cell? ⟨gm, 1, none⟩ = some (.int .i64 a1) := (blk_cell Bm.out 1).trans rfl; have hm2 : w2.cell? ⟨gm, 2, none⟩ = some (.int .i64 a2) := (blk_cell Bm.out 2).trans rfl; have hm3 : w2.cell? ⟨gm, 3, none⟩ = some (.int .i64 a3) := (blk_cell Bm.out 3).trans rfl; have hm4 : w2.cell? ⟨gm, 4, none⟩ = some (.slice A4 l4.length c4) := (blk_cell Bm.out 4).trans rfl; have hm5 : w2.cell? ⟨gm, 5, none⟩ = some (.slice A5 l5.length c5) := (blk_cell Bm.out 5).trans rfl; have hm6 : w2.cell? ⟨gm, 6, none⟩ = some (.slice A6 l6.length c6) := (blk_cell Bm.out 6).trans rfl; clear HB1 hb)
    | (go_at_call 7; ((with_reducible refine (wire_Encode.call7 k a0 a1 a2 a3 A4 c4 l4 A5 c5 l5 A6 c6 l6 x1 0 _ (H4.out.below uB) (H5.out.below uB) ⟨Kd.C_below H6.out.1 uB, H6.out.2⟩ HE.out).mono ?_); rintro e w3 ⟨v3, rfl, ho, hb⟩; obtain ⟨A3, c3, e3⟩ := Kd.R_slice ho; subst e3; have HO := Aside0.mk ho; have Bm2 := Aside0.mk (blk_below Bm.out hb); replace Bm := Bm2; clear Bm2; have HB3 := Aside0.mk (below_step HB2.out hb); clear hm0 hm1 hm2 hm3 hm4 hm5 hm6 HB2 ho hb))
    | (go_at_call 9; ((with_reducible refine (HD.out A3 c3 _ (Kd.R_reads' HO.out).2.2 (Kd.R_reads' HO.out).2.1).mono ?_); rintro e w4 ⟨v4, rfl, ⟨B4, d4, B5, d5, B6, d6, ev, ho4, ho5, ho6, ho7⟩, hb⟩; subst ev; have HO4 := Aside0.mk ho4; have HO5 := Aside0.mk ho5; have HO6 := Aside0.mk ho6; have HO7 := Aside0.mk ho7; have Bm2 := Aside0.mk (blk_below Bm.out hb); replace Bm := Bm2; clear Bm2; have HB4 := Aside0.mk (below_step HB3.out hb); clear HB3 ho4 ho5 ho6 ho7 hb HO))
    | ((with_reducible refine gate_dst (N := 6) rfl ?_); refine box_event ?hg (N := 6) ?hd (cs := (msgCells [0, 0, 0, 0] nilS nilS nilS)) (t := 25) ?hr ?_; (case hd => rfl); (case hg => rfl); (case hr => first | (go_simp; done) | (go_simp; rfl)); intro gx hg w5 hbox hb; have Bx := Aside0.mk hbox; have HGX := Aside0.mk (show w.heap.size ≤ gx from hg ▸ below_size HB4.out); have HMX := Aside0.mk (show gm ≠ gx from by rw [hg]; exact Nat.ne_of_lt (blk_lt Bm.out)); have Bm2 := Aside0.mk (blk_below Bm.out hb); replace Bm := Bm2; clear Bm2; have HB5 := Aside0.mk (below_step HB4.out hb); have HQ := Aside0.mk hb; have HGQ := Aside0.mk (show w4.heap.size ≤ gx from Nat.le_of_eq hg.symm); clear HB4 hb hbox hg)
    | ((with_reducible refine gate_store (t := 25) (p := 6) rfl ?_); refine wpList_store_row rfl 25 (.tmp 6) (.tmp 25) rfl gx #[.int .i64 a0, .int .i64 a1, .int .i64 a2, .int .i64 a3, .slice B4 l4.length d4, .slice B5 l5.length d5, .slice B6 l6.length d6] rfl rfl 25 (msgCells [0, 0, 0, 0] nilS nilS nilS) Bx.out msg_info rfl (msg_one a0 a1 a2 a3 _ _ _ rfl rfl rfl) ?_; have Bx2 := Aside0.mk (setRow_heap w5 gx _ #[.int .i64 a0, .int .i64 a1, .int .i64 a2, .int .i64 a3, .slice B4 l4.length d4, .slice B5 l5.length d5, .slice B6 l6.length d6] _ _ Bx.out); have Bm2 := Aside0.mk ((setRow_other w5 gx gm #[.int .i64 a0, .int .i64 a1, .int .i64 a2, .int .i64 a3, .slice B4 l4.length d4, .slice B5 l5.length d5, .slice B6 l6.length d6] HMX.out).trans Bm.out); have HB6 := Aside0.mk (below_setRow HB5.out HGX.out #[.int .i64 a0, .int .i64 a1, .int .i64 a2, .int .i64 a3, .slice B4 l4.length d4, .slice B5 l5.length d5, .slice B6 l6.length d6]); have HQ2 := Aside0.mk (below_setRow HQ.out HGQ.out #[.int .i64 a0, .int .i64 a1, .int .i64 a2, .int .i64 a3, .slice B4 l4.length d4, .slice B5 l5.length d5, .slice B6 l6.length d6]); have HP4 := Aside0.mk (HO4.out.below HQ2.out); have HP5 := Aside0.mk (HO5.out.below HQ2.out); have HP6 := Aside0.mk (Kd.C_below HO6.out HQ2.out); generalize w5.setRow gx #[.int .i64 a0, .int .i64 a1, .int .i64 a2, .int .i64 a3, .slice B4 l4.length d4, .slice B5 l5.length d5, .slice B6 l6.length d6] = w6 at Bx2 Bm2 HB6 HP4 HP5 HP6 HQ2 ⊢; replace Bm := Bm2; replace Bx := Bx2; have hm0 : w6.cell? ⟨gm, 0, none⟩ = some (.int .i64 a0) := (blk_cell Bm.out 0).trans rfl; have hm1 : w6.cell? ⟨gm, 1, none⟩ = some (.int .i64 a1) := (blk_cell Bm.out 1).trans rfl; have hm2 : w6.cell? ⟨gm, 2, none⟩ = some (.int .i64 a2) := (blk_cell Bm.out 2).trans rfl; have hm3 : w6.cell? ⟨gm, 3, none⟩ = some (.int .i64 a3) := (blk_cell Bm.out 3).trans rfl; have hm4 : w6.cell? ⟨gm, 4, none⟩ = some (.slice A4 l4.length c4) := (blk_cell Bm.out 4).trans rfl; have hm5 : w6.cell? ⟨gm, 5, none⟩ = some (.slice A5 l5.length c5) := (blk_cell Bm.out 5).trans rfl; have hm6 : w6.cell? ⟨gm, 6, none⟩ = some (.slice A6 l6.length c6) := (blk_cell Bm.out 6).trans rfl; have hx0 : w6.cell? ⟨gx, 0, none⟩ = some (.int .i64 a0) := (blk_cell Bx.out 0).trans rfl; have hx1 : w6.cell? ⟨gx, 1, none⟩ = some (.int .i64 a1) := (blk_cell Bx.out 1).trans rfl; have hx2 : w6.cell? ⟨gx, 2, none⟩ = some (.int .i64 a2) := (blk_cell Bx.out 2).trans rfl; have hx3 : w6.cell? ⟨gx, 3, none⟩ = some (.int .i64 a3) := (blk_cell Bx.out 3).trans rfl; have hx4 : w6.cell? ⟨gx, 4, none⟩ = some (.slice B4 l4.length d4) := (blk_cell Bx.out 4).trans rfl; have hx5 : w6.cell? ⟨gx, 5, none⟩ = some (.slice B5 l5.length d5) := (blk_cell Bx.out 5).trans rfl; have hx6 : w6.cell? ⟨gx, 6, none⟩ = some (.slice B6 l6.length d6) := (blk_cell Bx.out 6).trans rfl; clear Bx2 Bm2 HB5 HO4 HO5 HO6 HQ HQ2)
    | (go_at_call 11; ((with_reducible refine (windbreakref12_Same.calls k a0 a1 a2 a3 B4 d4 l4 B5 d5 l5 B6 d6 l6 a0 a1 a2 a3 A4 c4 l4 A5 c5 l5 A6 c6 l6 true _ HP4.out.C HP4.out.le HP5.out.C HP5.out.le HP6.out HO7.out (H4.out.below HB6.out).C H4.out.le (H5.out.below HB6.out).C H5.out.le (Kd.C_below H6.out.1 HB6.out) H6.out.2 HS.out).mono ?_); rintro e w7 ⟨rfl, hb⟩; have HB7 := Aside0.mk (below_step HB6.out hb); clear HB6 hb)))
  (try rw [Exit.noGoto_ret])
  go_ret
  exact ⟨rfl, HB7.out⟩
def windbreaklaw12_WireBack.Pure : Prop := ∀ x0 : Int × Int × Int × Int × List Int × List Int × List (List Int), (∀ a ∈ x0.2.2.2.2.2.2, a.length ≤ maxLen ∧ ∀ y ∈ a, (Lit.int .u64 y).wf = true) → ∃ k x1, windbreaklaw12_awake.f k = some true ∧ (wire_Encode.f k x0.1 x0.2.1 x0.2.2.1 x0.2.2.2.1 x0.2.2.2.2.1 x0.2.2.2.2.2.1 x0.2.2.2.2.2.2 = some (x1, 16) ∨ wire_Encode.f k x0.1 x0.2.1 x0.2.2.1 x0.2.2.2.1 x0.2.2.2.2.1 x0.2.2.2.2.2.1 x0.2.2.2.2.2.2 = some (x1, 0) ∧ Dig 256 x1 ∧ x1.length ≤ 100000000 ∧ decodeV x1 = (x0, 0) ∧ windbreakref12_Same.f k x0.1 x0.2.1 x0.2.2.1 x0.2.2.2.1 x0.2.2.2.2.1 x0.2.2.2.2.2.1 x0.2.2.2.2.2.2 x0.1 x0.2.1 x0.2.2.1 x0.2.2.2.1 x0.2.2.2.2.1 x0.2.2.2.2.2.1 x0.2.2.2.2.2.2 = some true)
theorem windbreaklaw12_WireBack.row (hp : windbreaklaw12_WireBack.Pure) (w : World) (cs0 : Array Value) (x0 : Int × Int × Int × Int × List Int × List Int × List (List Int)) (h0 : (Kd.pair (Kd.int .i64) (Kd.pair (Kd.int .i64) (Kd.pair (Kd.int .i64) (Kd.pair (Kd.int .i64) (Kd.pair (Kd.slice 3 (Kd.int .i64)) (Kd.pair (Kd.slice 3 (Kd.int .i64)) (Kd.slice 41 (Kd.slice 37 (Kd.int .u64))))))))).K w x0 cs0.toList) (o0 : (Lit.int .i64 x0.1).wf = true ∧ (Lit.int .i64 x0.2.1).wf = true ∧ (Lit.int .i64 x0.2.2.1).wf = true ∧ (Lit.int .i64 x0.2.2.2.1).wf = true ∧ (x0.2.2.2.2.1.length ≤ maxLen ∧ ∀ x ∈ x0.2.2.2.2.1, (Lit.int .i64 x).wf = true) ∧ (x0.2.2.2.2.2.1.length ≤ maxLen ∧ ∀ x ∈ x0.2.2.2.2.2.1, (Lit.int .i64 x).wf = true) ∧ (x0.2.2.2.2.2.2.length ≤ maxLen ∧ ∀ x ∈ x0.2.2.2.2.2.2, (x.length ≤ maxLen ∧ ∀ y ∈ x, (Lit.int .u64 y).wf = true))) :
    Calls Try.prog 5 #[.agg cs0] w fun e w' => e = .returned (.bool true) ∧ Below w.heap.size w w' := by
  obtain ⟨k, x1, hA, h⟩ := hp x0 o0.2.2.2.2.2.2.2
  obtain ⟨A04, c04, A05, c05, A06, c06, rfl, l04, r04, l05, r05, l06, r06⟩ := msg_parts h0
  rcases h with h | ⟨h, hd, hl, hD, hS⟩
  · exact wireBack.err k _ _ _ _ A04 c04 _ A05 c05 _ A06 c06 _ w ⟨r04, l04⟩ ⟨r05, l05⟩ ⟨r06, l06⟩ hA x1 h
  · exact wireBack.ok k _ _ _ _ A04 c04 _ A05 c05 _ A06 c06 _ w ⟨r04, l04⟩ ⟨r05, l05⟩ ⟨r06, l06⟩ hA x1 h hd hl hD hS
end Go.Proofs.Ytanmfddlncdncab.F
end
section
namespace Go.Proofs.Ytanmfddlncdncab.Pure
open Go.RowKit Go.Proofs.Ytanmfddlncdncab.F Go.Proofs.Ytanmfddlncdncab.Z
set_option linter.unusedSimpArgs false
set_option linter.unusedVariables false
theorem WireBack : windbreaklaw12_WireBack.Pure := by
  rintro ⟨a0, a1, a2, a3, l4, l5, l6⟩ hx
  have hd : ∀ a ∈ l6, a.length ≤ maxLen ∧ Dig (b64 : Int) a := fun a ha => ⟨(hx a ha).1, dig_of_wf (hx a ha).2⟩
  obtain ⟨n1, h1⟩ := awake12_ev
  obtain ⟨n2, h2⟩ := wire_Encode_ev a0 a1 a2 a3 l4 l5 l6 hd
  unfold encodeV at h2
  by_cases c : rightV a0 a1 a2 a3 l4 l5 l6 = true
  · rw [if_pos c] at h2
    by_cases d : (encM a0 a1 a2 a3 l4 l5 l6).length > 1048576
    · rw [if_pos d] at h2
      exact ⟨n1 + n2, [], h1 _ (by omega), .inl (h2 _ (by omega))⟩
    · rw [if_neg d] at h2
      obtain ⟨_, _, _, _, n4, n5, n6, _, _, h6⟩ := right_parts c
      obtain ⟨n3, h3⟩ := Same_ev a0 a1 a2 a3 l4 l5 l6 a0 a1 a2 a3 l4 l5 l6 (by simp only [maxLen]; omega) (by simp only [maxLen]; omega) (by simp only [maxLen]; omega) (fun a ha => (hd a ha).1)
      refine ⟨n1 + n2 + n3, _, h1 _ (by omega), .inr ⟨h2 _ (by omega), encM_dig, by omega, decode_enc c (fun a ha => (hd a ha).2) (by omega), ?_⟩⟩
      have := h3 (n1 + n2 + n3) (by omega)
      simpa using this
  · rw [if_neg c] at h2
    exact ⟨n1 + n2, [], h1 _ (by omega), .inl (h2 _ (by omega))⟩
end Go.Proofs.Ytanmfddlncdncab.Pure
end
section
namespace Go.Proofs.YtanmfddlncdncabW.PrintWords
open Go.ChangeShapes Go.WideShapes
end Go.Proofs.YtanmfddlncdncabW.PrintWords
end
section
namespace Go.Proofs.Ytanmfddlncdncab.wireBack
open Go.ChangeShapes Go.WideShapes Go.ChangeAt Go.RowKit Go.Proofs.Ytanmfddlncdncab.F Go.Proofs.YtanmfddlncdncabW.PrintWords
set_option linter.unusedSimpArgs false
open Go.ChangeMaps (open_string shut_string)
set_option linter.unusedVariables false
theorem own : ownKnob Try.prog.godebug = none := by kernel_rfl
theorem laidOut : laidOutB Try.prog = true := by kernel_rfl
set_option maxRecDepth 100000 in
theorem lifted (os : Os) (started : os.Started) (H : Type) (enc : TypeId × Value → H) :
    ReturnsInHanded {} Try.checked os 5 .any (Rows.wireBackSpec.pre6 enc Try.prog Try.f5 Rows.wireBackRow.domain false) (Rows.wireBackSpec.post enc Try.prog Try.f5 false true false false) := by
  refine returnsInHanded_of_change_sized (C := Try.checked) own started (by kernel_rfl) Try.func5
    (ChangeSpec.witness6 (enc := enc) (C := Try.checked) false ⟨#[], #[.agg #[.int .i64 0, .int .i64 0, .int .i64 0, .int .i64 0, .slice none 0 0, .slice none 0 0, .slice none 0 0]], []⟩ 8 (by kernel_rfl) (by kernel_rfl) (by kernel_rfl) (by kernel_rfl)) ?_
  intro W base args ds gs before hval0 hW hcnd hsz0 _
  have hsz : (DataW.weightsEach Try.prog (Try.f5.params.toList ++ Rows.wireBackSpec.plain.varTypes Try.prog) (ds ++ gs)).all (· ≤ reachBytes) = true := hsz0
  have hval : ∀ (j : Nat) t v, Try.f5.params[j]? = some t → args[j]? = some v → Value.okWide Try.prog W .any base t v := hval0
  have hW' := hW
  obtain ⟨p, q, hA0, hV, rfl, hfz, hnd⟩ := hW
  have hA : DataW.TrodAll enc Try.prog W 0 (fun _ => true) true Try.f5.params.toList args.toList ds p := hA0
  rw [Try.params5] at hA hval hsz
  obtain ⟨v0, vs0, d0, ds0, p0, q0, hargs, rfl, rfl, h0, r0⟩ := trodAll_cons hA
  obtain ⟨rfl, rfl, rfl⟩ := trodAll_nil r0
  obtain rfl : args = #[v0] := by cases args; simp_all
  obtain ⟨rfl, rfl⟩ := trodVars_none hV
  obtain ⟨cs0, rfl, _⟩ := okWide_struct Try.underlying25 (hval 0 25 v0 rfl rfl)
  have k0 := h0
  have lt0 : ∀ x ∈ p0, x.block < W.heap.size := by obtain ⟨m, hm⟩ := k0; exact DataW.trod_lt m _ _ _ hm
  obtain ⟨m0, hm0⟩ := h0
  obtain ⟨x0, hK0, ok0⟩ := (Opens.struct7 Try.underlying25 (by kernel_rfl) rfl (by kernel_rfl) rfl (by kernel_rfl) rfl (by kernel_rfl) rfl (by kernel_rfl) rfl (by kernel_rfl) rfl (by kernel_rfl) rfl (by kernel_rfl) (Opens.int Try.underlying3) (Opens.int Try.underlying3) (Opens.int Try.underlying3) (Opens.int Try.underlying3) (Opens.slice Try.underlying22 (by kernel_rfl) (Opens.int Try.underlying3)) (Opens.slice Try.underlying22 (by kernel_rfl) (Opens.int Try.underlying3)) (Opens.slice Try.underlying23 (by kernel_rfl) (Opens.slice Try.underlying41 (by kernel_rfl) (Opens.int Try.underlying37)))) enc W true m0 _ _ hm0
  clear hA0 hval0 hsz0 hsz
  refine (F.windbreaklaw12_WireBack.row Pure.WireBack W cs0 x0 hK0 ok0).mono fun e W' ⟨he, bel⟩ => ?_
  subst he
  exact ⟨_, rfl, _, _, _, [], _, [], hW', trodAll_mk1 (shut_bool Try.underlying4 _), (trodAll_cons_mk (Below.trod laidOut (by kernel_rfl) (of_decide_eq_true (by kernel_rfl)) k0 bel lt0) trodAll_mk0), rfl, bel.frame _, fun h => by cases h⟩
theorem over : Rows.wireBackRow.holds Try.pinned (OpenSpec.ofChange Rows.wireBackSpec) :=
  OpenClaim.holds_of_wide 5 Try.f5 rfl rfl rfl rfl rfl rfl rfl ⟨rfl, rfl, rfl, rfl, rfl⟩ rfl rfl rfl rfl rfl (by kernel_rfl) Try.func5 (by kernel_rfl)
    (of_decide_eq_true (by kernel_rfl)) (by unfold Func.isWrapper; first | (rw [if_pos (by decide +kernel)]; kernel_rfl) | (rw [if_neg (by decide +kernel)]; exact ⟨rfl, rfl⟩))
    (fun os started H enc _ => lifted os started H enc)
theorem proved : Rows.WireBackSaid := over
#print axioms proved
end Go.Proofs.Ytanmfddlncdncab.wireBack
namespace Go.Proofs.Ytanmfddlncdncab
theorem wireBack_holds : Rows.WireBackSaid := wireBack.proved
end Go.Proofs.Ytanmfddlncdncab
end
