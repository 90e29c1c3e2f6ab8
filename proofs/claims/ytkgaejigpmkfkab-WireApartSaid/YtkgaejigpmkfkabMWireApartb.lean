/- Proved: the law WireApart of layer 12: two messages of the same bytes are the same; for every input, without a condition. -/
import Derived.Test.YtkgaejigpmkfkabMWireAparta
import Derived.Laws.BitsLemmas
import Derived.SizedLaws
import Derived.ChangeSlices
import Derived.Test.YtkgaejigpmkfkabRows
import Derived.WalkKit
import Derived.ProofKit
import Derived.OpenShut
import Derived.ShutString
import Derived.ChangeOld
import Derived.Below
section
namespace Go.Proofs.Ytkgaejigpmkfkab.F
open Go.RowKit Go.Proofs.YtkgaejigpmkfkabW.PrintWords Go.Proofs.YtkgaejigpmkfkabW.PrintLast Go.Proofs.YtkgaejigpmkfkabW.PrintMore
set_option linter.unusedVariables false
set_option linter.unusedSimpArgs false
def wire_Encode.nums (k : Nat) : List Int → List Int → Option (List Int)
  | [], xs => some xs
  | n :: l, xs => (codec_Number.f k (IntKind.u64.wrap n)).bind fun d => if xs.length + d.length < 140737488355328 then wire_Encode.nums k l (xs ++ d) else none
def wire_Encode.lists (k : Nat) : List (List Int) → List Int → Option (List Int)
  | [], xs => some xs
  | l :: ls, xs => (wire_Encode.nums k ((l.length : Int) :: l) xs).bind fun ys => wire_Encode.lists k ls ys
def wire_Encode.nats (k : Nat) : List (List Int) → List Int → Option (List Int)
  | [], xs => some xs
  | a :: l, xs => (nat_Bytes.f k a).bind fun b => (codec_Bytes.f k b).bind fun d => if xs.length + d.length < 140737488355328 then wire_Encode.nats k l (xs ++ d) else none
def wire_Encode.f (k : Nat) (a0 a1 a2 a3 : Int) (l4 l5 : List Int) (l6 : List (List Int)) : Option (List Int × Int) :=
  (wire_Right.f a0 a1 a2 a3 l4 l5 l6).bind fun r => if r = true then ((wire_Encode.nums k [a0, a1, a2, a3] []).bind fun x1 => (wire_Encode.lists k [l4, l5] x1).bind fun x2 => (wire_Encode.nums k [(l6.length : Int)] x2).bind fun x3 => (wire_Encode.nats k l6 x3).bind fun x4 => some (if x4.length > 1048576 then ([], 16) else (x4, 0))) else some ([], 16)
theorem slice_event {P : Program} {ops : Array Oper} {rest : List Oper} {o : Oper} {a : Act} {Q : Exit → Act → World → Prop} {W : World} (hgd : o.guard = none) {N : Tmp} (_hd : o.dst = some N) {cs : Array Value} {t : TypeId} {n : Nat}
    (hrun : (execOp a.eval o).run P W = .ok (.value (.slice (some ⟨W.heap.size, 0, none⟩) n n)) (W.alloc (.cells cs t (0, 0))))
    (h : ∀ g, g = W.heap.size → ∀ w1, w1.heap[g]? = some (.cells cs t (0, 0)) → Below W.heap.size W w1 → wpList P ops Q rest (a.put o.dst (.slice (some ⟨g, 0, none⟩) n n)) w1) : wpList P ops Q (o :: rest) a W :=
  Kd.event_run hgd hrun (h _ rfl _ (blk_new W _) (below_alloc (Below.refl _ _) _))
theorem lit_get {L : List Int} {w : World} {g t : Nat} (h : w.heap[g]? = some (.cells (L.map (Value.int .i64)).toArray t (0, 0))) (i : Nat) (hi : i < L.length) : w.cell? ⟨g, i, none⟩ = some (.int .i64 (L.getD i 0)) := by
  rw [blk_cell h i]
  simp [List.getElem?_map, List.getElem?_eq_getElem hi, List.getD_eq_getElem?_getD]
theorem nums_drop {k : Nat} {L xs r : List Int} {i : Nat} (hi : i < L.length) (h : wire_Encode.nums k (L.drop i) xs = some r) : ∃ d, codec_Number.f k (IntKind.u64.wrap (L.getD i 0)) = some d ∧ xs.length + d.length < 140737488355328 ∧ wire_Encode.nums k (L.drop (i + 1)) (xs ++ d) = some r := by
  rw [List.drop_eq_getElem_cons hi, wire_Encode.nums] at h
  obtain ⟨d, h1, h2⟩ := Option.bind_eq_some_iff.mp h
  obtain ⟨c, h2⟩ := uT h2
  refine ⟨d, ?_, c, h2⟩
  rw [← h1, List.getD_eq_getElem?_getD, List.getElem?_eq_getElem hi]
  rfl
theorem nums_done {k : Nat} {L xs r : List Int} {i : Nat} (hi : ¬ i < L.length) (h : wire_Encode.nums k (L.drop i) xs = some r) : xs = r := by
  rw [List.drop_of_length_le (by omega), wire_Encode.nums] at h
  exact Option.some.inj h
theorem nats_drop {k : Nat} {L : List (List Int)} {xs r : List Int} {i : Nat} (hi : i < L.length) (h : wire_Encode.nats k (L.drop i) xs = some r) : ∃ b d, nat_Bytes.f k (L.getD i []) = some b ∧ codec_Bytes.f k b = some d ∧ xs.length + d.length < 140737488355328 ∧ wire_Encode.nats k (L.drop (i + 1)) (xs ++ d) = some r := by
  rw [List.drop_eq_getElem_cons hi, wire_Encode.nats] at h
  obtain ⟨b, h1, h2⟩ := Option.bind_eq_some_iff.mp h
  obtain ⟨d, h3, h2⟩ := Option.bind_eq_some_iff.mp h2
  obtain ⟨c, h2⟩ := uT h2
  refine ⟨b, d, ?_, h3, c, h2⟩
  rw [← h1, List.getD_eq_getElem?_getD, List.getElem?_eq_getElem hi]
  rfl
theorem not_bytes {w : World} {g t base : Nat} {cs : Array Value} {ok : Nat → Prop} {v : Value} {xs : List Int} (hb : w.heap[g]? = some (.cells cs t (0, 0))) (ht : t ≠ 5) (h : Kd.R (Kd.int .u8) 5 w base ok v xs) : some g ≠ v.ownBlock := by
  intro he
  obtain ⟨_, _, _, q, hq, cells, hc⟩ := (Kd.R_bound h).1 g he.symm
  rw [hb] at hc
  injection hc with hc
  injection hc with _ hq2
  subst hq2
  rcases List.mem_cons.1 hq with h | h
  · exact ht h
  · exact absurd h (by simp [Kd.int, Kd.scalar])
set_option maxHeartbeats 16000000 in
set_option maxRecDepth 100000 in
theorem wire_Encode.good (k : Nat) (a0 a1 a2 a3 : Int) (A4 : Option Addr) (c4 : Nat) (l4 : List Int) (A5 : Option Addr) (c5 : Nat) (l5 : List Int) (A6 : Option Addr) (c6 : Nat) (l6 : List (List Int)) (x1 x2 x3 x4 r1 : List Int) (r2 : Int) (w : World) (h4 : Rd1 w A4 c4 l4) (h5 : Rd1 w A5 c5 l5) (h6 : Kd.C (Kd.slice 48 (Kd.int .u64)) w A6 l6.length l6 ∧ l6.length ≤ c6) (hr : wire_Right.f a0 a1 a2 a3 l4 l5 l6 = some true) (e1 : wire_Encode.nums k [a0, a1, a2, a3] [] = some x1) (e2 : wire_Encode.lists k [l4, l5] x1 = some x2) (e3 : wire_Encode.nums k [(l6.length : Int)] x2 = some x3) (e4 : wire_Encode.nats k l6 x3 = some x4) (hres : (if x4.length > 1048576 then (([] : List Int), (16 : Int)) else (x4, 0)) = (r1, r2)) :
    Calls Try.prog 11 #[.agg #[.int .i64 a0, .int .i64 a1, .int .i64 a2, .int .i64 a3, .slice A4 l4.length c4, .slice A5 l5.length c5, .slice A6 l6.length c6]] w fun e w' => ∃ v0_ : Value, e = .returned (.tuple #[v0_, .int .i64 r2]) ∧ Kd.R (Kd.int .u8) 5 w' w.heap.size (fun _ => True) v0_ r1 ∧ Below w.heap.size w w' := by
  have HB := Aside0.mk (Below.refl w.heap.size w)
  have H4 := Aside0.mk h4
  have H5 := Aside0.mk h5
  have H6 := Aside0.mk h6
  have HR := Aside0.mk hr
  have E1 := Aside0.mk e1
  have E2 := Aside0.mk e2
  have E3 := Aside0.mk e3
  have E4 := Aside0.mk e4
  have HRES := Aside0.mk hres
  clear h4 h5 h6 hr e1 e2 e3 e4 hres
  go_enter Try.func11, Try.ntmps11
  go_wp2_with (first
    | ((with_reducible refine gate_dst (N := 1) rfl ?_); refine box_event ?hg (N := 1) ?hd (cs := #[.int .i64 a0, .int .i64 a1, .int .i64 a2, .int .i64 a3, .slice A4 l4.length c4, .slice A5 l5.length c5, .slice A6 l6.length c6]) (t := 25) ?hr ?_; (case hd => rfl); (case hg => rfl); (case hr => first | (go_simp; done) | (go_simp; rfl)); intro gm hg w1 hbox hb; have BM := Aside0.mk hbox; have HB1 := Aside0.mk (below_step HB.out hb); have hm0 := (blk_cell hbox 0).trans rfl; have hm1 := (blk_cell hbox 1).trans rfl; have hm2 := (blk_cell hbox 2).trans rfl; have hm3 := (blk_cell hbox 3).trans rfl; have hm4 := (blk_cell hbox 4).trans rfl; have hm5 := (blk_cell hbox 5).trans rfl; have hm6 := (blk_cell hbox 6).trans rfl; clear HB hb hbox hg)
    | (go_at_call 9; ((with_reducible refine (wire_Right.call7 a0 a1 a2 a3 A4 c4 l4 A5 c5 l5 A6 c6 l6 true _ (H4.out.below uB) (H5.out.below uB) ⟨Kd.C_below H6.out.1 uB, H6.out.2⟩ HR.out).mono ?_); rintro e w2 ⟨rfl, hb⟩; have BM2 := Aside0.mk (blk_below BM.out hb); have HB2 := Aside0.mk (below_step HB1.out hb); clear hm0 hm1 hm2 hm3 hm4 hm5 hm6 BM HB1 hb))
    | ((with_reducible refine gate_dst (N := 4) rfl ?_); refine box_event ?hg (N := 4) ?hd (cs := #[.slice none 0 0]) (t := 28) ?hr ?_; (case hd => rfl); (case hg => rfl); (case hr => first | (go_simp; done) | (go_simp; rfl)); intro gb hg w3 hbox hb; have HO3 := Aside0.mk (show OutAt w3 w.heap.size gb [] from ⟨_, hbox, Kd.R_nil _ _ _ _ _⟩); have BM3 := Aside0.mk (blk_below BM2.out hb); have HB3 := Aside0.mk (below_step HB2.out hb); have HGB := Aside0.mk (show w.heap.size ≤ gb from hg ▸ below_size HB2.out); have HMB := Aside0.mk (show gm ≠ gb from by rw [hg]; exact Nat.ne_of_lt (blk_lt BM2.out)); have hm0 := (blk_cell BM3.out 0).trans rfl; have hm1 := (blk_cell BM3.out 1).trans rfl; have hm2 := (blk_cell BM3.out 2).trans rfl; have hm3 := (blk_cell BM3.out 3).trans rfl; clear HB2 BM2 hb hbox hg)
    | ((with_reducible refine gate_dst (N := 26) rfl ?_); refine slice_event ?hg (N := 26) ?hd (cs := #[.int .i64 a0, .int .i64 a1, .int .i64 a2, .int .i64 a3]) (n := 4) (t := 3) ?hr ?_; (case hd => rfl); (case hg => rfl); (case hr => first | (go_simp; done) | (go_simp; rfl)); intro gl hg w4 hbox hb; have BL := Aside0.mk (show w4.heap[gl]? = some (.cells ([a0, a1, a2, a3].map (Value.int .i64)).toArray 3 (0, 0)) from hbox); have HO4 := Aside0.mk (HO3.out.below hb); have BM4 := Aside0.mk (blk_below BM3.out hb); have HB4 := Aside0.mk (below_step HB3.out hb); have HLB := Aside0.mk (show gl ≠ gb from by rw [hg]; exact Nat.ne_of_gt HO3.out.lt); clear hm0 hm1 hm2 hm3 HB3 BM3 HO3 hb hbox hg))
  go_loopg [28] 4 (fun gg v28 wr => ∃ (i : Nat) (xs : List Int), v28 = .int .i64 (i : Int) ∧ i ≤ 4 ∧ 4 - i ≤ gg ∧ Aside0 (wire_Encode.nums k ([a0, a1, a2, a3].drop i) xs = some x1) ∧ Aside0 (OutAt wr w.heap.size gb xs) ∧ Aside0 (wr.heap[gm]? = some (.cells #[.int .i64 a0, .int .i64 a1, .int .i64 a2, .int .i64 a3, .slice A4 l4.length c4, .slice A5 l5.length c5, .slice A6 l6.length c6] 25 (0, 0))) ∧ Aside0 (wr.heap[gl]? = some (.cells ([a0, a1, a2, a3].map (Value.int .i64)).toArray 3 (0, 0))) ∧ Aside0 (Below w.heap.size w wr))
  case atStart => exact ⟨0, [], rfl, by omega, by omega, E1, HO4, BM4, BL, HB4⟩
  case round =>
    clear BL HO4 BM4 HB4
    obtain ⟨i, xs, rfl, hi, hgg, HK, HO5, BM5, BL5, HB5⟩ := hrel
    by_cases hlt : i < 4
    · have hltz : (i : Int) < 4 := by omega
      have h0z : (0 : Int) ≤ (i : Int) := by omega
      obtain ⟨d, hd, hl, hK⟩ := nums_drop (by simp; omega) HK.out
      have hcl := lit_get BL5.out i (by simp; omega)
      generalize [a0, a1, a2, a3].getD i 0 = x at hcl hd
      have HD := Aside0.mk hd
      have HL := Aside0.mk hl
      have HK6 := Aside0.mk hK
      clear hd hl hK HK
      go_wp2_with (go_at_call 24; refine (wire_number.calls k gb x xs d w _ uB HGB.out (HO5.out.below (by repeat (first | exact Below.refl _ _ | apply pw_below_drewN))) HD.out HL.out).mono ?_; rintro e w6 ⟨rfl, hO_, hb_, hk_⟩; have HO6 := Aside0.mk hO_; have HB6 := Aside0.mk hb_; have BM6 := Aside0.mk (hk_.blk BM5.out HMB.out (by decide)); have BL6 := Aside0.mk (hk_.blk BL5.out HLB.out (by decide)); clear HO5 HB5 BM5 BL5 hcl; clear hO_ hb_ hk_)
      go_roundg (4 - (i + 1))
      case measure => omega
      case rel => exact ⟨i + 1, xs ++ d, by go_num, by omega, by omega, HK6, HO6, BM6, BL6, HB6⟩
    · have hltz : ¬ (i : Int) < 4 := by omega
      obtain rfl := nums_done (by simp; omega) HK.out
      have hm4 := (blk_cell BM5.out 4).trans rfl
      have hm5 := (blk_cell BM5.out 5).trans rfl
      clear HK BL5 E1
      go_wp2_with (first
        | ((with_reducible refine gate_dst (N := 40) rfl ?_); refine slice_event ?hg (N := 40) ?hd (cs := #[.slice A4 l4.length c4, .slice A5 l5.length c5]) (n := 2) (t := 22) ?hr ?_; (case hd => rfl); (case hg => rfl); (case hr => first | (go_simp; done) | (go_simp; rfl)); intro gs hg w6 hbox hb; have BS := Aside0.mk hbox; have HO6 := Aside0.mk (HO5.out.below hb); have BM6 := Aside0.mk (blk_below BM5.out hb); have HB6 := Aside0.mk (below_step HB5.out hb); have HSB := Aside0.mk (show gs ≠ gb from by rw [hg]; exact Nat.ne_of_gt HO5.out.lt); clear hm4 hm5 HB5 BM5 HO5 hb hbox hg))
      go_loopg [42] 2 (fun gg v42 wr => ∃ (q : Nat) (xs : List Int), v42 = .int .i64 (q : Int) ∧ q ≤ 2 ∧ 2 - q ≤ gg ∧ Aside0 (wire_Encode.lists k ([l4, l5].drop q) xs = some x2) ∧ Aside0 (OutAt wr w.heap.size gb xs) ∧ Aside0 (wr.heap[gm]? = some (.cells #[.int .i64 a0, .int .i64 a1, .int .i64 a2, .int .i64 a3, .slice A4 l4.length c4, .slice A5 l5.length c5, .slice A6 l6.length c6] 25 (0, 0))) ∧ Aside0 (wr.heap[gs]? = some (.cells #[.slice A4 l4.length c4, .slice A5 l5.length c5] 22 (0, 0))) ∧ Aside0 (Below w.heap.size w wr))
      case atStart => exact ⟨0, xs, rfl, by omega, by omega, E2, HO6, BM6, BS, HB6⟩
      case round =>
        clear BS HO6 BM6 HB6
        obtain ⟨q, ys, rfl, hq, hgq, HK, HO7, BM7, BS7, HB7⟩ := hrel
        by_cases hlq : q < 2
        · have hlqz : (q : Int) < 2 := by omega
          have h0q : (0 : Int) ≤ (q : Int) := by omega
          obtain ⟨Aq, cq, lq, hcq, hrq, hdq⟩ : ∃ (Aq : Option Addr) (cq : Nat) (lq : List Int), (#[Value.slice A4 l4.length c4, .slice A5 l5.length c5] : Array Value)[q]? = some (.slice Aq lq.length cq) ∧ Rd1 w Aq cq lq ∧ [l4, l5].drop q = lq :: [l4, l5].drop (q + 1) := by
            match q, hlq with
            | 0, _ => exact ⟨A4, c4, l4, rfl, H4.out, rfl⟩
            | 1, _ => exact ⟨A5, c5, l5, rfl, H5.out, rfl⟩
          have hcl := (blk_cell BS7.out q).trans hcq
          have hK := HK.out
          rw [hdq, wire_Encode.lists] at hK
          obtain ⟨zs, hz, hK⟩ := Option.bind_eq_some_iff.mp hK
          obtain ⟨d, hd, hl, hz⟩ := nums_drop (L := (lq.length : Int) :: lq) (i := 0) (by simp) hz
          have hd : codec_Number.f k (IntKind.u64.wrap (lq.length : Int)) = some d := hd
          have HD := Aside0.mk hd
          have HL := Aside0.mk hl
          have HZ := Aside0.mk (show wire_Encode.nums k (lq.drop 0) (ys ++ d) = some zs from hz)
          have HRQ := Aside0.mk hrq
          have HK8 := Aside0.mk hK
          clear hd hl hK HK hz hrq hcq hdq
          go_wp2_with (go_at_call 24; refine (wire_number.calls k gb (lq.length : Int) ys d w _ uB HGB.out (HO7.out.below (by repeat (first | exact Below.refl _ _ | apply pw_below_drewN))) HD.out HL.out).mono ?_; rintro e w8 ⟨rfl, hO_, hb_, hk_⟩; have HO8 := Aside0.mk hO_; have HB8 := Aside0.mk hb_; have BM8 := Aside0.mk (hk_.blk BM7.out HMB.out (by decide)); have BS8 := Aside0.mk (hk_.blk BS7.out HSB.out (by decide)); clear HO7 HB7 BM7 BS7 hcl; clear hO_ hb_ hk_)
          go_loopg [52] lq.length (fun gg v52 wr => ∃ (j : Nat) (xs : List Int), v52 = .int .i64 (j : Int) ∧ j ≤ lq.length ∧ lq.length - j ≤ gg ∧ Aside0 (wire_Encode.nums k (lq.drop j) xs = some zs) ∧ Aside0 (OutAt wr w.heap.size gb xs) ∧ Aside0 (wr.heap[gm]? = some (.cells #[.int .i64 a0, .int .i64 a1, .int .i64 a2, .int .i64 a3, .slice A4 l4.length c4, .slice A5 l5.length c5, .slice A6 l6.length c6] 25 (0, 0))) ∧ Aside0 (wr.heap[gs]? = some (.cells #[.slice A4 l4.length c4, .slice A5 l5.length c5] 22 (0, 0))) ∧ Aside0 (Below w.heap.size w wr))
          case atStart => exact ⟨0, ys ++ d, rfl, by omega, by omega, HZ, HO8, BM8, BS8, HB8⟩
          case round =>
            clear BS8 HO8 BM8 HB8 HZ
            obtain ⟨j, us, rfl, hj, hgj, HK, HO9, BM9, BS9, HB9⟩ := hrel
            by_cases hlj : j < lq.length
            · have hljz : (j : Int) < (lq.length : Int) := by omega
              have h0j : (0 : Int) ≤ (j : Int) := by omega
              have hbig : lq.length ≤ 9223372036854775807 := HRQ.out.C.2.1
              obtain ⟨d2, hd, hl, hK⟩ := nums_drop hlj HK.out
              obtain ⟨ad, hA, hcl⟩ := Kd.at_int (HRQ.out.below HB9.out).C (j : Int) h0j hljz
              subst hA
              simp only [Go.IntWalk.toNatUp] at hcl
              rw [show rd lq (j : Int) = lq.getD j 0 from rfl] at hcl
              generalize lq.getD j 0 = x at hcl hd
              have HD2 := Aside0.mk hd
              have HL2 := Aside0.mk hl
              have HK10 := Aside0.mk hK
              clear hd hl hK HK
              go_wp2_with (go_at_call 24; refine (wire_number.calls k gb x us d2 w _ uB HGB.out (HO9.out.below (by repeat (first | exact Below.refl _ _ | apply pw_below_drewN))) HD2.out HL2.out).mono ?_; rintro e w10 ⟨rfl, hO_, hb_, hk_⟩; have HO10 := Aside0.mk hO_; have HB10 := Aside0.mk hb_; have BM10 := Aside0.mk (hk_.blk BM9.out HMB.out (by decide)); have BS10 := Aside0.mk (hk_.blk BS9.out HSB.out (by decide)); clear HO9 HB9 BM9 BS9 hcl; clear hO_ hb_ hk_)
              go_roundg (lq.length - (j + 1))
              case measure => omega
              case rel => exact ⟨j + 1, us ++ d2, by go_num, by omega, by omega, HK10, HO10, BM10, BS10, HB10⟩
            · have hljz : ¬ (j : Int) < (lq.length : Int) := by omega
              obtain rfl := nums_done hlj HK.out
              clear HK
              go_wp2
              go_roundg (2 - (q + 1))
              case measure => omega
              case rel => exact ⟨q + 1, us, by go_num, by omega, by omega, HK8, HO9, BM9, BS9, HB9⟩
        · have hlqz : ¬ (q : Int) < 2 := by omega
          obtain rfl : ys = x2 := by
            have hK := HK.out
            rw [List.drop_of_length_le (by simp; omega), wire_Encode.lists] at hK
            exact Option.some.inj hK
          obtain ⟨d, hd, hl, hz⟩ := nums_drop (L := [(l6.length : Int)]) (i := 0) (by simp) E3.out
          have hd : codec_Number.f k (IntKind.u64.wrap (l6.length : Int)) = some d := hd
          obtain rfl : ys ++ d = x3 := Option.some.inj hz
          have HD := Aside0.mk hd
          have HL := Aside0.mk hl
          have hm6 := (blk_cell BM7.out 6).trans rfl
          clear HK hd hl hz E2 E3 BS7
          go_wp2_with (go_at_call 24; refine (wire_number.calls k gb (l6.length : Int) ys d w _ uB HGB.out (HO7.out.below (by repeat (first | exact Below.refl _ _ | apply pw_below_drewN))) HD.out HL.out).mono ?_; rintro e w8 ⟨rfl, hO_, hb_, hk_⟩; have HO8 := Aside0.mk hO_; have HB8 := Aside0.mk hb_; have BM8 := Aside0.mk (hk_.blk BM7.out HMB.out (by decide)); clear HO7 HB7 BM7 hm6; have hm6 := (blk_cell BM8.out 6).trans rfl; clear hO_ hb_ hk_)
          go_loopg [69] l6.length (fun gg v69 wr => ∃ (i : Nat) (xs : List Int), v69 = .int .i64 (i : Int) ∧ i ≤ l6.length ∧ l6.length - i ≤ gg ∧ Aside0 (wire_Encode.nats k (l6.drop i) xs = some x4) ∧ Aside0 (OutAt wr w.heap.size gb xs) ∧ Aside0 (Below w.heap.size w wr))
          case atStart => exact ⟨0, ys ++ d, rfl, by omega, by omega, E4, HO8, HB8⟩
          case round =>
            clear HO8 BM8 HB8 E4 hm6
            obtain ⟨i, xs, rfl, hi, hgg, HK, HO9, HB9⟩ := hrel
            by_cases hlt : i < l6.length
            · have hltz : (i : Int) < (l6.length : Int) := by omega
              have h0z : (0 : Int) ≤ (i : Int) := by omega
              have hbig : l6.length ≤ 9223372036854775807 := H6.out.1.2.1
              obtain ⟨b, d2, hb, hd, hl, hK⟩ := nats_drop hlt HK.out
              obtain ⟨ad, c, hA, _, hKK, hc⟩ := Kd.C_get (Kd.C_below H6.out.1 HB9.out) ([] : List Int) (i : Int) h0z hltz
              obtain ⟨Ae, ce, rfl, hle, hie⟩ := hKK
              subst hA
              have hcl := hc 0 _ rfl
              rw [Nat.add_zero, show (Kd.slice 48 (Kd.int .u64)).sz = 1 from rfl, Nat.mul_one] at hcl
              simp only [Go.IntWalk.toNatUp] at hcl hle hie
              generalize l6.getD i [] = x at hcl hle hie hb
              have HE := Aside0.mk (And.intro hie hle)
              have HBB := Aside0.mk hb
              have HD2 := Aside0.mk hd
              have HL2 := Aside0.mk hl
              have HK10 := Aside0.mk hK
              obtain ⟨v, hb1, hb2⟩ := HO9.out
              have hs : wr.cell? ⟨gb, 0, none⟩ = some v := (blk_cell hb1 0).trans rfl
              have BG := Aside0.mk (blk_drew hb1)
              have HV := Aside0.mk (Kd.R_drew hb2)
              have HBd := Aside0.mk (below_drew1 HB9.out)
              have HLT := Aside0.mk (Kd.R_lt HV.out)
              replace HE := Aside0.mk (And.intro (Kd.C_below HE.out.1 (below_drew1 (Below.refl wr.heap.size wr))) HE.out.2)
              clear hb hd hl hK HK hie hle hc hb1 hb2 HO9
              go_wp2
              refine start_ (n := 6) (S := fun w' => w'.cell? ⟨gb, 0, none⟩ = some v) (ds := [5]) (.replicate 6 false) (by kernel_rfl) rfl rfl hs (fun hHeld => ?_)
              clear hs hcl
              generalize wr.drew = w9 at BG HV HBd HE HLT hHeld ⊢
              refine pure_ (i := 1) (N := some 74) (v := ?_) (a' := ?_) (uA 6 2) rfl rfl (by kernel_rfl) (fun _ _ _ h => h) (Or.inl ⟨by rfl, ?_⟩) ?_ ?_
              rotate_left
              · intro w'
                go_simp
                with_reducible rfl
              rotate_left
              · exact uQ
              refine take_ (i := 0) (N := some 73) (v := ?_) (a' := ?_) (uA 6 3) rfl rfl (by kernel_rfl) (fun _ _ _ h => h) (Or.inl ⟨by rfl, ?_⟩) hHeld ?_ ?_
              rotate_left
              · rintro w' s0
                go_simp
                with_reducible rfl
              rotate_left
              · exact uQ
              refine one_ (i := 2) (N := some 75) (uA 6 7) rfl rfl (by kernel_rfl) (by decide) (fun K hK => ?_)
              refine goes_ Try.func27 (by kernel_rfl) rfl #[.slice Ae x.length ce] (by rfl) rfl rfl uM ?_
              refine (nat_Bytes.calls k Ae ce x b _ HE.out.1 HE.out.2 HBB.out).mono ?_
              rintro e w10 ⟨v2, rfl, ho, hb⟩
              refine ⟨_, rfl, ?_⟩
              obtain ⟨A2, c2, e2⟩ := Kd.R_slice ho
              subst e2
              have HO2 := Aside0.mk ho
              have HB10 := Aside0.mk (below_step HBd.out hb)
              have BG10 := Aside0.mk (blk_below BG.out hb)
              have HV10 := Aside0.mk (Kd.R_below HV.out hb)
              have HLE := Aside0.mk (below_size hb)
              clear ho hb HBd BG HV
              refine hK.out _ _ ((blk_cell BG10.out 0).trans rfl) (fun hHeld => ?_)
              clear hK K
              refine norm_ (a' := ?_) ?_ ?_; rotate_left
              · exact uQ
              refine one_ (i := 3) (N := some 76) (uA 6 15) rfl rfl (by kernel_rfl) (by decide) (fun K hK => ?_)
              refine goes_ Try.func26 (by kernel_rfl) rfl #[.slice A2 b.length c2] (by rfl) rfl rfl uM ?_
              refine (codec_Bytes.calls k A2 c2 b d2 _ (Kd.R_reads' HO2.out).2.2 (Kd.R_reads' HO2.out).2.1 HD2.out).mono ?_
              rintro e w11 ⟨v3, rfl, ho, hb⟩
              refine ⟨_, rfl, ?_⟩
              obtain ⟨A3, c3, e3⟩ := Kd.R_slice ho
              subst e3
              have HO3 := Aside0.mk ho
              have HB11 := Aside0.mk (below_step HB10.out hb)
              have BG11 := Aside0.mk (blk_below BG10.out hb)
              have HV11 := Aside0.mk (Kd.R_below HV10.out hb)
              clear ho hb HB10 BG10 HV10 HO2
              refine hK.out _ _ ((blk_cell BG11.out 0).trans rfl) (fun hHeld => ?_)
              clear hK K
              refine norm_ (a' := ?_) ?_ ?_; rotate_left
              · exact uQ
              refine one_ (i := 4) (N := some 77) (uA 6 31) rfl rfl (by kernel_rfl) (by decide) (fun K hK => ?_)
              refine Kd.R_append_rows_step (Kd.int .u8) (w0 := w) w.heap.size (by rfl) (.tmp 73) (.tmp 76) 28 5 (.int .u8 0) 1 rfl Try.underlying28 info5 rfl (by decide) (by omega) v xs d2 A3 d2.length c3 (fun k_ => some k_ ≠ (.slice A3 d2.length c3 : Value).ownBlock) (fun _ => False) rfl rfl ?aO ?aR (fun _ _ h => h) (fun _ h => h.elim) ?aF ?aB ?aS ?aL ?_
              case aR => exact (Kd.R_reads' HO3.out).2.2
              case aB => exact HB11.out
              case aF => exact fun k_ hk he => by have := Kd.R_lt HO3.out k_ he.symm; omega
              case aO => exact Kd.R_mono (Kd.R_tight rfl HV11.out) (fun k_ hk he => by have h1 := HLT.out k_ hk.symm; have h2 := Kd.R_base HO3.out k_ he.symm; have h3 := HLE.out; omega)
              case aS => exact below_size HB11.out
              case aL => have := HL2.out; omega
              intro v4 w12 ho hb hg hat
              obtain ⟨A4', c4', e4⟩ := Kd.R_slice ho
              subst e4
              have HO4 := Aside0.mk ho
              have BG12 := Aside0.mk (blk_grown BG11.out hg (not_bytes BG11.out (by decide) HV11.out))
              have HB12 := Aside0.mk hb
              clear ho hb hg hat HB11 HV11 BG11 HO3 HLT HLE
              refine hK.out _ _ ((blk_cell BG12.out 0).trans rfl) (fun hHeld => ?_)
              clear hK K
              refine norm_ (a' := ?_) ?_ ?_; rotate_left
              · exact uQ
              have hs3 : w12.cell? ⟨gb, 0, none⟩ = some v := (blk_cell BG12.out 0).trans rfl
              have hf3 := blk_frozen BG12.out 0
              refine last_ (i := 5) (N := none) (uA 6 63) rfl rfl (by kernel_rfl) (by decide) (fun K hK => ?_)
              refine skip_ (w1 := ?_) (by rfl) rfl ?_ ?_
              rotate_left
              · go_simp
                rfl
              refine hK.out _ _ ?_; clear hK K
              refine done_ (by kernel_rfl) ?_
              clear hs3 hf3
              go_wp2
              go_roundg (l6.length - (i + 1))
              case measure => omega
              case rel =>
                have HO5 := HO4.out
                rw [List.length_append] at HO5
                exact ⟨i + 1, xs ++ d2, by go_num, by omega, by omega, HK10, ⟨_, blk_put (cs := #[v]) BG12.out 0 _ rfl, Kd.R_mono (R_off1 HO5 BG12.out (by decide)) (fun _ _ => trivial)⟩, ⟨HB12.out.setCell (p := ⟨gb, 0, none⟩) HGB.out _⟩⟩
            · have hltz : ¬ (i : Int) < (l6.length : Int) := by omega
              obtain rfl : xs = x4 := by
                have hK := HK.out
                rw [List.drop_of_length_le (by omega), wire_Encode.nats] at hK
                exact Option.some.inj hK
              obtain ⟨v, hb1, hb2⟩ := HO9.out
              obtain ⟨Av, cv, ev⟩ := Kd.R_slice hb2
              subst ev
              have hs : wr.cell? ⟨gb, 0, none⟩ = some (.slice Av xs.length cv) := (blk_cell hb1 0).trans rfl
              have HV := Aside0.mk hb2
              clear HK hb1 hb2 HO9
              by_cases hbg : xs.length > 1048576
              · have hbz : decide ((1048576 : Int) < (xs.length : Int)) = true := decide_eq_true (by omega)
                have hres := HRES.out
                rw [if_pos hbg] at hres
                obtain ⟨rfl, rfl⟩ := Prod.mk.inj hres
                clear hbg hres HRES
                go_wp2
                go_ret2
                exact ⟨_, rfl, Kd.R_nil _ _ _ _ _, HB9.out⟩
              · have hbz : decide ((1048576 : Int) < (xs.length : Int)) = false := decide_eq_false (by omega)
                have hres := HRES.out
                rw [if_neg hbg] at hres
                obtain ⟨rfl, rfl⟩ := Prod.mk.inj hres
                clear hbg hres HRES
                go_wp2
                go_ret2
                exact ⟨_, rfl, HV.out, HB9.out⟩
set_option maxHeartbeats 8000000 in
set_option maxRecDepth 100000 in
theorem wire_Encode.bad (a0 a1 a2 a3 : Int) (A4 : Option Addr) (c4 : Nat) (l4 : List Int) (A5 : Option Addr) (c5 : Nat) (l5 : List Int) (A6 : Option Addr) (c6 : Nat) (l6 : List (List Int)) (w : World) (h4 : Rd1 w A4 c4 l4) (h5 : Rd1 w A5 c5 l5) (h6 : Kd.C (Kd.slice 48 (Kd.int .u64)) w A6 l6.length l6 ∧ l6.length ≤ c6) (hr : wire_Right.f a0 a1 a2 a3 l4 l5 l6 = some false) :
    Calls Try.prog 11 #[.agg #[.int .i64 a0, .int .i64 a1, .int .i64 a2, .int .i64 a3, .slice A4 l4.length c4, .slice A5 l5.length c5, .slice A6 l6.length c6]] w fun e w' => e = .returned (.tuple #[.slice none 0 0, .int .i64 16]) ∧ Below w.heap.size w w' := by
  have HB := Aside0.mk (Below.refl w.heap.size w)
  have H4 := Aside0.mk h4
  have H5 := Aside0.mk h5
  have H6 := Aside0.mk h6
  have HR := Aside0.mk hr
  clear h4 h5 h6 hr
  go_enter Try.func11, Try.ntmps11
  go_wp2_with (first
    | ((with_reducible refine gate_dst (N := 1) rfl ?_); refine box_event ?hg (N := 1) ?hd (cs := #[.int .i64 a0, .int .i64 a1, .int .i64 a2, .int .i64 a3, .slice A4 l4.length c4, .slice A5 l5.length c5, .slice A6 l6.length c6]) (t := 25) ?hr ?_; (case hd => rfl); (case hg => rfl); (case hr => first | (go_simp; done) | (go_simp; rfl)); intro gm hg w1 hbox hb; have BM := Aside0.mk hbox; have HB1 := Aside0.mk (below_step HB.out hb); have hm0 := (blk_cell hbox 0).trans rfl; have hm1 := (blk_cell hbox 1).trans rfl; have hm2 := (blk_cell hbox 2).trans rfl; have hm3 := (blk_cell hbox 3).trans rfl; have hm4 := (blk_cell hbox 4).trans rfl; have hm5 := (blk_cell hbox 5).trans rfl; have hm6 := (blk_cell hbox 6).trans rfl; clear HB hb hbox hg)
    | (go_at_call 9; ((with_reducible refine (wire_Right.call7 a0 a1 a2 a3 A4 c4 l4 A5 c5 l5 A6 c6 l6 false _ (H4.out.below uB) (H5.out.below uB) ⟨Kd.C_below H6.out.1 uB, H6.out.2⟩ HR.out).mono ?_); rintro e w2 ⟨rfl, hb⟩; have BM2 := Aside0.mk (blk_below BM.out hb); have HB2 := Aside0.mk (below_step HB1.out hb); clear hm0 hm1 hm2 hm3 hm4 hm5 hm6 BM HB1 hb)))
  go_ret2
  exact ⟨rfl, uB⟩
theorem wire_Encode.call7 (k : Nat) (a0 a1 a2 a3 : Int) (A4 : Option Addr) (c4 : Nat) (l4 : List Int) (A5 : Option Addr) (c5 : Nat) (l5 : List Int) (A6 : Option Addr) (c6 : Nat) (l6 : List (List Int)) (r1 : List Int) (r2 : Int) (w : World) (h4 : Rd1 w A4 c4 l4) (h5 : Rd1 w A5 c5 l5) (h6 : Kd.C (Kd.slice 48 (Kd.int .u64)) w A6 l6.length l6 ∧ l6.length ≤ c6) (h : wire_Encode.f k a0 a1 a2 a3 l4 l5 l6 = some (r1, r2)) :
    Calls Try.prog 11 #[.agg #[.int .i64 a0, .int .i64 a1, .int .i64 a2, .int .i64 a3, .slice A4 l4.length c4, .slice A5 l5.length c5, .slice A6 l6.length c6]] w fun e w' => ∃ v0_ : Value, e = .returned (.tuple #[v0_, .int .i64 r2]) ∧ Kd.R (Kd.int .u8) 5 w' w.heap.size (fun _ => True) v0_ r1 ∧ Below w.heap.size w w' := by
  unfold wire_Encode.f at h
  obtain ⟨r, hr, h⟩ := Option.bind_eq_some_iff.mp h
  cases r with
  | true =>
    rw [if_pos rfl] at h
    obtain ⟨x1, e1, h⟩ := Option.bind_eq_some_iff.mp h
    obtain ⟨x2, e2, h⟩ := Option.bind_eq_some_iff.mp h
    obtain ⟨x3, e3, h⟩ := Option.bind_eq_some_iff.mp h
    obtain ⟨x4, e4, h⟩ := Option.bind_eq_some_iff.mp h
    exact wire_Encode.good k a0 a1 a2 a3 A4 c4 l4 A5 c5 l5 A6 c6 l6 x1 x2 x3 x4 r1 r2 w h4 h5 h6 hr e1 e2 e3 e4 (Option.some.inj h)
  | false =>
    rw [if_neg (by decide)] at h
    obtain ⟨rfl, rfl⟩ := Prod.mk.inj (Option.some.inj h)
    refine (wire_Encode.bad a0 a1 a2 a3 A4 c4 l4 A5 c5 l5 A6 c6 l6 w h4 h5 h6 hr).mono ?_
    rintro e w' ⟨rfl, hb⟩
    exact ⟨_, rfl, Kd.R_nil _ _ _ _ _, hb⟩
theorem wire_Encode.calls (k : Nat) (a0 a1 a2 a3 : Int) (A4 : Option Addr) (c4 : Nat) (l4 : List Int) (A5 : Option Addr) (c5 : Nat) (l5 : List Int) (A6 : Option Addr) (c6 : Nat) (l6 : List (List Int)) (r1 : List Int) (r2 : Int) (w : World) (hr4 : Kd.C (Kd.int .i64) w A4 l4.length l4) (hc4 : l4.length ≤ c4) (hr5 : Kd.C (Kd.int .i64) w A5 l5.length l5) (hc5 : l5.length ≤ c5) (hr6 : Kd.C (Kd.slice 48 (Kd.int .u64)) w A6 l6.length l6) (hc6 : l6.length ≤ c6) (h : wire_Encode.f k a0 a1 a2 a3 l4 l5 l6 = some (r1, r2)) :
    Calls Try.prog 11 #[.agg #[.int .i64 a0, .int .i64 a1, .int .i64 a2, .int .i64 a3, .slice A4 l4.length c4, .slice A5 l5.length c5, .slice A6 l6.length c6]] w fun e w' => ∃ v0_ : Value, e = .returned (.tuple #[v0_, .int .i64 r2]) ∧ Kd.R (Kd.int .u8) 5 w' w.heap.size (fun _ => True) v0_ r1 ∧ Below w.heap.size w w' :=
  wire_Encode.call7 k a0 a1 a2 a3 A4 c4 l4 A5 c5 l5 A6 c6 l6 r1 r2 w ⟨hr4, hc4⟩ ⟨hr5, hc5⟩ ⟨hr6, hc6⟩ h
end Go.Proofs.Ytkgaejigpmkfkab.F
end
section
namespace Go.Proofs.Ytkgaejigpmkfkab.F
open Go.RowKit Go.Proofs.YtkgaejigpmkfkabW.PrintWords Go.Proofs.YtkgaejigpmkfkabW.PrintLast Go.Proofs.YtkgaejigpmkfkabW.PrintMore
attribute [local go_sem] max2_int min2_int max_two min_two max_three min_three max_four min_four
set_option linter.unusedVariables false
set_option linter.unusedSimpArgs false
def windbreaklaw12_awake.f (k : Nat)  : Option (Bool) := (wire_Encode.f k 2 4 2 0 ([] : List Int) ([] : List Int) ([] : List (List Int))).bind fun bt124 => (if bt124.2 = 0 then (some ((strOfNums bt124.1).toList == (strOfNums (([2, 4, 2, 0, 0, 0, 0] : List Int))).toList)) else (some false))
set_option maxHeartbeats 8000000 in
set_option maxRecDepth 100000 in
theorem windbreaklaw12_awake.calls (k : Nat)  (r : Bool) (w : World) (h : windbreaklaw12_awake.f k  = some r) :
  Calls Try.prog 8 #[] w fun e w' => e = .returned (.bool r) ∧ Below w.heap.size w w' := by
 have hu25 := Try.underlying25
 have HB := Aside0.mk (Below.refl w.heap.size w)
 have H : ((wire_Encode.f k 2 4 2 0 ([] : List Int) ([] : List Int) ([] : List (List Int))).bind fun bt124 => (if bt124.2 = 0 then (some ((strOfNums bt124.1).toList == (strOfNums (([2, 4, 2, 0, 0, 0, 0] : List Int))).toList)) else (some false))) = some r := h
 clear h
 replace H := ub H; obtain ⟨⟨t124, t127⟩, A1, H⟩ := H
 (try dsimp only at H)
 by_cases c2 : t127 = 0
 ·
  rw [if_pos c2] at H
  have c2b0 : (t127 == 0) = true := beq_iff_eq.mpr c2
  have c2b1 : (t127 != 0) = false := bne_eq_false_iff_eq.mpr c2
  clear c2
  obtain ⟨y128, hy128⟩ : ∃ y_ : List Int, y_ = (([2, 4, 2, 0, 0, 0, 0] : List Int)) := ⟨_, rfl⟩
  replace H : (some ((strOfNums t124).toList == (strOfNums y128).toList)) = some r := by first | (rw [hy128]; with_reducible exact H) | (have H2_ := (Option.bind_some _ _).symm.trans H; rw [hy128]; with_reducible exact H2_) | (have H2_ := (Option.bind_some _ _).symm.trans H; with_reducible exact H2_) | with_reducible exact H | (rw [hy128]; exact H) | exact H
  have Ny128 := Aside0.mk hy128; clear hy128
  obtain rfl := Option.some.inj H
  go_enter Try.func8, Try.ntmps8
  go_wp2_with (first | ((with_reducible refine gate_callee (f := 11) rfl ?_); refine goesL_ (some 5) rfl rfl Try.func11 (by kernel_rfl) rfl #[.agg #[.int .i64 2, .int .i64 4, .int .i64 2, .int .i64 0, .slice none 0 0, .slice none 0 0, .slice none 0 0]] rfl uM ?_; (refine (wire_Encode.calls k 2 4 2 0 _ _ ([] : List Int) _ _ ([] : List Int) _ _ ([] : List (List Int)) t124 t127 _ ?side1 ?side2 ?side3 ?side4 ?side5 ?side6 A1.out).mono ?_); (case side1 => exact Kd.C_nil _ _); (case side2 => exact Nat.le_refl _); (case side3 => exact Kd.C_nil _ _); (case side4 => exact Nat.le_refl _); (case side5 => exact Kd.C_nil _ _); (case side6 => exact Nat.le_refl _); rintro e w3 ⟨v125, rfl, ho0, hb⟩; refine ⟨_, rfl, ?_⟩; have HO126 := Aside0.mk (Kd.R_lower ho0 (below_size uB)); replace HB := uy hb; (try clear hb ho0); have hcv4 := own_string (P := Try.prog) Try.underlying28 Try.underlying5 Try.underlying9 (Kd.own_of_R HO126.out)) | ((with_reducible refine gate_dst (N := 13) rfl ?_); (try (refine gate_guard (by rfl) ?_; dsimp only)); refine Kd.R_lit (Kd.int .u8) _ 5 ?hg (N := 13) ?hd (xs := ([2, 4, 2, 0, 0, 0, 0] : List Int)) (inner := [.int .u8 2, .int .u8 4, .int .u8 2, .int .u8 0, .int .u8 0, .int .u8 0, .int .u8 0]) (ok := fun _ => True) (okp := fun _ => True) ?hr ?hp (fun _ hk => hk) trivial (Below.refl _ _) (Nat.le_refl _) (by simp) ?_; (case hd => rfl); (case hg => rfl); (case hr => first | (go_simp; done) | (go_simp; rfl) | (go_simp; simp only [u64_u8]; done) | (go_simp; simp only [u64_u8]; rfl)); (case hp => exact (Reps.one (show Kd.M (Kd.int .u8) _ _ _ 2 [.int .u8 2] from rfl) (Reps.one (show Kd.M (Kd.int .u8) _ _ _ 4 [.int .u8 4] from rfl) (Reps.one (show Kd.M (Kd.int .u8) _ _ _ 2 [.int .u8 2] from rfl) (Reps.one (show Kd.M (Kd.int .u8) _ _ _ 0 [.int .u8 0] from rfl) (Reps.one (show Kd.M (Kd.int .u8) _ _ _ 0 [.int .u8 0] from rfl) (Reps.one (show Kd.M (Kd.int .u8) _ _ _ 0 [.int .u8 0] from rfl) (Reps.one (show Kd.M (Kd.int .u8) _ _ _ 0 [.int .u8 0] from rfl) (Reps.none _ _))))))))); intro v129 w5 ho6 hb hg_ hnew_; clear hg_ hnew_; (first | rw [← Ny128.out] at ho6 | (simp only [Int.reduceToNat] at ho6; rw [← Ny128.out] at ho6)); have HO130 := Aside0.mk (Kd.R_lower (Kd.R_new' ho6 (Kd.R_lt (uR HO126.out))) (below_size uB)); replace HO126 := ueR HO126 ho6 hb; replace HB := uy hb; clear hb ho6; have hcv7 := own_string (P := Try.prog) Try.underlying28 Try.underlying5 Try.underlying9 (Kd.own_of_R HO130.out)))
  go_ret
  exact ⟨uF, uB⟩
 rw [if_neg c2] at H
 have c2b0 : (t127 == 0) = false := beq_eq_false_iff_ne.mpr c2
 have c2b1 : (t127 != 0) = true := bne_iff_ne.mpr c2
 obtain rfl := Option.some.inj H
 go_enter Try.func8, Try.ntmps8
 go_wp2_with (first | ((with_reducible refine gate_callee (f := 11) rfl ?_); refine goesL_ (some 5) rfl rfl Try.func11 (by kernel_rfl) rfl #[.agg #[.int .i64 2, .int .i64 4, .int .i64 2, .int .i64 0, .slice none 0 0, .slice none 0 0, .slice none 0 0]] rfl uM ?_; (refine (wire_Encode.calls k 2 4 2 0 _ _ ([] : List Int) _ _ ([] : List Int) _ _ ([] : List (List Int)) t124 t127 _ ?side1 ?side2 ?side3 ?side4 ?side5 ?side6 A1.out).mono ?_); (case side1 => exact Kd.C_nil _ _); (case side2 => exact Nat.le_refl _); (case side3 => exact Kd.C_nil _ _); (case side4 => exact Nat.le_refl _); (case side5 => exact Kd.C_nil _ _); (case side6 => exact Nat.le_refl _); rintro e w8 ⟨v125, rfl, ho0, hb⟩; refine ⟨_, rfl, ?_⟩; have HO126 := Aside0.mk (Kd.R_lower ho0 (below_size uB)); replace HB := uy hb; (try clear hb ho0)))
 go_ret
 exact ⟨uF, uB⟩
def windbreaklaw12_WireApart.f (k : Nat) (a0_0 : Int) (a0_1 : Int) (a0_2 : Int) (a0_3 : Int) (l0_4 : List Int) (l0_5 : List Int) (l0_6 : List (List Int)) (a1_0 : Int) (a1_1 : Int) (a1_2 : Int) (a1_3 : Int) (l1_4 : List Int) (l1_5 : List Int) (l1_6 : List (List Int)) : Option (Bool) := (windbreaklaw12_awake.f k).bind fun t261 => ((wire_Encode.f k a0_0 a0_1 a0_2 a0_3 l0_4 l0_5 l0_6).bind fun bt262 => ((wire_Encode.f k a1_0 a1_1 a1_2 a1_3 l1_4 l1_5 l1_6).bind fun bt266 => (if bt262.2 = 0 then (if bt266.2 = 0 then ((windbreakref12_Same.f k a0_0 a0_1 a0_2 a0_3 l0_4 l0_5 l0_6 a1_0 a1_1 a1_2 a1_3 l1_4 l1_5 l1_6).bind fun t270 => (if t261 = true then (some (t270 == ((strOfNums bt262.1).toList == (strOfNums bt266.1).toList))) else (some false))) else (some t261)) else (some t261))))
set_option maxHeartbeats 8000000 in
set_option maxRecDepth 100000 in
theorem windbreaklaw12_WireApart.calls (k : Nat) (a0_0 : Int) (a0_1 : Int) (a0_2 : Int) (a0_3 : Int) (A0_4 : Option Addr) (c0_4 : Nat) (l0_4 : List Int) (A0_5 : Option Addr) (c0_5 : Nat) (l0_5 : List Int) (A0_6 : Option Addr) (c0_6 : Nat) (l0_6 : List (List Int)) (a1_0 : Int) (a1_1 : Int) (a1_2 : Int) (a1_3 : Int) (A1_4 : Option Addr) (c1_4 : Nat) (l1_4 : List Int) (A1_5 : Option Addr) (c1_5 : Nat) (l1_5 : List Int) (A1_6 : Option Addr) (c1_6 : Nat) (l1_6 : List (List Int)) (r : Bool) (w : World) (hr0_4 : Kd.C (Kd.int .i64) w A0_4 l0_4.length l0_4) (hc0_4 : l0_4.length ≤ c0_4) (hr0_5 : Kd.C (Kd.int .i64) w A0_5 l0_5.length l0_5) (hc0_5 : l0_5.length ≤ c0_5) (hr0_6 : Kd.C (Kd.slice 48 (Kd.int .u64)) w A0_6 l0_6.length l0_6) (hc0_6 : l0_6.length ≤ c0_6) (hr1_4 : Kd.C (Kd.int .i64) w A1_4 l1_4.length l1_4) (hc1_4 : l1_4.length ≤ c1_4) (hr1_5 : Kd.C (Kd.int .i64) w A1_5 l1_5.length l1_5) (hc1_5 : l1_5.length ≤ c1_5) (hr1_6 : Kd.C (Kd.slice 48 (Kd.int .u64)) w A1_6 l1_6.length l1_6) (hc1_6 : l1_6.length ≤ c1_6) (h : windbreaklaw12_WireApart.f k a0_0 a0_1 a0_2 a0_3 l0_4 l0_5 l0_6 a1_0 a1_1 a1_2 a1_3 l1_4 l1_5 l1_6 = some r) :
  Calls Try.prog 5 #[.agg #[.int .i64 a0_0, .int .i64 a0_1, .int .i64 a0_2, .int .i64 a0_3, .slice A0_4 l0_4.length c0_4, .slice A0_5 l0_5.length c0_5, .slice A0_6 l0_6.length c0_6], .agg #[.int .i64 a1_0, .int .i64 a1_1, .int .i64 a1_2, .int .i64 a1_3, .slice A1_4 l1_4.length c1_4, .slice A1_5 l1_5.length c1_5, .slice A1_6 l1_6.length c1_6]] w fun e w' => e = .returned (.bool r) ∧ Below w.heap.size w w' := by
 have hu25 := Try.underlying25
 have HR0_4 := Aside0.mk hr0_4; have HC0_4 := Aside0.mk hc0_4; clear hr0_4 hc0_4; have HR0_5 := Aside0.mk hr0_5; have HC0_5 := Aside0.mk hc0_5; clear hr0_5 hc0_5; have HR0_6 := Aside0.mk hr0_6; have HC0_6 := Aside0.mk hc0_6; clear hr0_6 hc0_6; have HR1_4 := Aside0.mk hr1_4; have HC1_4 := Aside0.mk hc1_4; clear hr1_4 hc1_4; have HR1_5 := Aside0.mk hr1_5; have HC1_5 := Aside0.mk hc1_5; clear hr1_5 hc1_5; have HR1_6 := Aside0.mk hr1_6; have HC1_6 := Aside0.mk hc1_6; clear hr1_6 hc1_6
 have HB := Aside0.mk (Below.refl w.heap.size w)
 have H : ((windbreaklaw12_awake.f k).bind fun t261 => ((wire_Encode.f k a0_0 a0_1 a0_2 a0_3 l0_4 l0_5 l0_6).bind fun bt262 => ((wire_Encode.f k a1_0 a1_1 a1_2 a1_3 l1_4 l1_5 l1_6).bind fun bt266 => (if bt262.2 = 0 then (if bt266.2 = 0 then ((windbreakref12_Same.f k a0_0 a0_1 a0_2 a0_3 l0_4 l0_5 l0_6 a1_0 a1_1 a1_2 a1_3 l1_4 l1_5 l1_6).bind fun t270 => (if t261 = true then (some (t270 == ((strOfNums bt262.1).toList == (strOfNums bt266.1).toList))) else (some false))) else (some t261)) else (some t261))))) = some r := h
 clear h
 replace H := ub H; obtain ⟨t261, A3, H⟩ := H
 replace H := ub H; obtain ⟨⟨t262, t265⟩, A4, H⟩ := H
 (try dsimp only at H)
 replace H := ub H; obtain ⟨⟨t266, t269⟩, A5, H⟩ := H
 (try dsimp only at H)
 by_cases c6 : t265 = 0
 ·
  rw [if_pos c6] at H
  have c6b0 : (t265 == 0) = true := beq_iff_eq.mpr c6
  have c6b1 : (t265 != 0) = false := bne_eq_false_iff_eq.mpr c6
  clear c6
  by_cases c7 : t269 = 0
  ·
   rw [if_pos c7] at H
   have c7b0 : (t269 == 0) = true := beq_iff_eq.mpr c7
   have c7b1 : (t269 != 0) = false := bne_eq_false_iff_eq.mpr c7
   clear c7
   replace H := ub H; obtain ⟨t270, A8, H⟩ := H
   by_cases c9 : t261 = true
   ·
    subst c9
    have H1 : (some (t270 == ((strOfNums t262).toList == (strOfNums t266).toList))) = some r := by rw [if_pos rfl] at H; exact H
    clear H; have H := H1; clear H1
    obtain rfl := Option.some.inj H
    go_enter Try.func5, Try.ntmps5
    go_wp2_with (first | ((with_reducible refine gate_dst (N := 2) rfl ?_); refine box_event ?hg (N := 2) ?hd (cs := #[.int .i64 a0_0, .int .i64 a0_1, .int .i64 a0_2, .int .i64 a0_3, .slice A0_4 l0_4.length c0_4, .slice A0_5 l0_5.length c0_5, .slice A0_6 l0_6.length c0_6]) (t := 25) ?hr ?_; (case hd => rfl); (case hg => rfl); (case hr => first | (go_simp; done) | (go_simp; rfl)); intro gb259 hg w10 hbox hb; have BK259 := Aside0.mk (hbox); have GW259 := us hg; have GE259 := us hg; replace HB := uy hb; clear hb hbox hg) | ((with_reducible refine gate_dst (N := 3) rfl ?_); refine box_event ?hg (N := 3) ?hd (cs := #[.int .i64 a1_0, .int .i64 a1_1, .int .i64 a1_2, .int .i64 a1_3, .slice A1_4 l1_4.length c1_4, .slice A1_5 l1_5.length c1_5, .slice A1_6 l1_6.length c1_6]) (t := 25) ?hr ?_; (case hd => rfl); (case hg => rfl); (case hr => first | (go_simp; done) | (go_simp; rfl)); intro gb260 hg w11 hbox hb; have BK260 := Aside0.mk (hbox); have GW260 := us hg; have GE260 := us hg; replace HB := uy hb; have NB259_260 := Aside0.mk ((by rw [hg]; exact Nat.ne_of_lt (blk_lt (uK BK259.out)) : gb259 ≠ gb260)); have NB260_259 := Aside0.mk ((by rw [hg]; exact Nat.ne_of_gt (blk_lt (uK BK259.out)) : gb260 ≠ gb259)); replace BK259 := ux BK259 hb; clear hb hbox hg) | ((with_reducible refine gate_callee (f := 8) rfl ?_); refine goesL_ (some 11) rfl rfl Try.func8 (by kernel_rfl) rfl #[] rfl uM ?_; (with_reducible refine (windbreaklaw12_awake.calls k  true _ A3.out).mono ?_); rintro e w12 ⟨rfl, hb⟩; refine ⟨_, rfl, ?_⟩; replace BK259 := ux BK259 hb; replace BK260 := ux BK260 hb; replace HB := uy hb; (try clear hb); have hnb13 := NB259_260.out; have hnc13 := NB260_259.out; have hcz14_0 : w12.cell? ⟨gb259, 0, none⟩ = some (.int .i64 a0_0) := (blk_cell BK259.out 0).trans rfl; have hcz14_1 : w12.cell? ⟨gb259, 1, none⟩ = some (.int .i64 a0_1) := (blk_cell BK259.out 1).trans rfl; have hcz14_2 : w12.cell? ⟨gb259, 2, none⟩ = some (.int .i64 a0_2) := (blk_cell BK259.out 2).trans rfl; have hcz14_3 : w12.cell? ⟨gb259, 3, none⟩ = some (.int .i64 a0_3) := (blk_cell BK259.out 3).trans rfl; have hcz14_4 : w12.cell? ⟨gb259, 4, none⟩ = some (.slice A0_4 l0_4.length c0_4) := (blk_cell BK259.out 4).trans rfl; have hcz14_5 : w12.cell? ⟨gb259, 5, none⟩ = some (.slice A0_5 l0_5.length c0_5) := (blk_cell BK259.out 5).trans rfl; have hcz14_6 : w12.cell? ⟨gb259, 6, none⟩ = some (.slice A0_6 l0_6.length c0_6) := (blk_cell BK259.out 6).trans rfl; have hfz14_0 := blk_frozen BK259.out 0; have hfz14_1 := blk_frozen BK259.out 1; have hfz14_2 := blk_frozen BK259.out 2; have hfz14_3 := blk_frozen BK259.out 3; have hfz14_4 := blk_frozen BK259.out 4; have hfz14_5 := blk_frozen BK259.out 5; have hfz14_6 := blk_frozen BK259.out 6) | ((with_reducible refine gate_callee (f := 11) rfl ?_); refine goesL_ (some 14) rfl rfl Try.func11 (by kernel_rfl) rfl #[.agg #[.int .i64 a0_0, .int .i64 a0_1, .int .i64 a0_2, .int .i64 a0_3, .slice A0_4 l0_4.length c0_4, .slice A0_5 l0_5.length c0_5, .slice A0_6 l0_6.length c0_6]] rfl uM ?_; (with_reducible refine (wire_Encode.calls k a0_0 a0_1 a0_2 a0_3 _ _ l0_4 _ _ l0_5 _ _ l0_6 t262 t265 _ ?side1 ?side2 ?side3 ?side4 ?side5 ?side6 A4.out).mono ?_); (case side1 => exact uC (Kd.C_below HR0_4.out HB.out)); (case side2 => exact HC0_4.out); (case side3 => exact uC (Kd.C_below HR0_5.out HB.out)); (case side4 => exact HC0_5.out); (case side5 => exact uC (Kd.C_below HR0_6.out HB.out)); (case side6 => exact HC0_6.out); rintro e w15 ⟨v263, rfl, ho0, hb⟩; refine ⟨_, rfl, ?_⟩; have HO264 := Aside0.mk (Kd.R_lower ho0 (below_size uB)); replace BK259 := ux BK259 hb; replace BK260 := ux BK260 hb; replace HB := uy hb; (try clear hb ho0); have hcz16_0 : w15.cell? ⟨gb260, 0, none⟩ = some (.int .i64 a1_0) := (blk_cell BK260.out 0).trans rfl; have hcz16_1 : w15.cell? ⟨gb260, 1, none⟩ = some (.int .i64 a1_1) := (blk_cell BK260.out 1).trans rfl; have hcz16_2 : w15.cell? ⟨gb260, 2, none⟩ = some (.int .i64 a1_2) := (blk_cell BK260.out 2).trans rfl; have hcz16_3 : w15.cell? ⟨gb260, 3, none⟩ = some (.int .i64 a1_3) := (blk_cell BK260.out 3).trans rfl; have hcz16_4 : w15.cell? ⟨gb260, 4, none⟩ = some (.slice A1_4 l1_4.length c1_4) := (blk_cell BK260.out 4).trans rfl; have hcz16_5 : w15.cell? ⟨gb260, 5, none⟩ = some (.slice A1_5 l1_5.length c1_5) := (blk_cell BK260.out 5).trans rfl; have hcz16_6 : w15.cell? ⟨gb260, 6, none⟩ = some (.slice A1_6 l1_6.length c1_6) := (blk_cell BK260.out 6).trans rfl; have hfz16_0 := blk_frozen BK260.out 0; have hfz16_1 := blk_frozen BK260.out 1; have hfz16_2 := blk_frozen BK260.out 2; have hfz16_3 := blk_frozen BK260.out 3; have hfz16_4 := blk_frozen BK260.out 4; have hfz16_5 := blk_frozen BK260.out 5; have hfz16_6 := blk_frozen BK260.out 6) | ((with_reducible refine gate_callee (f := 11) rfl ?_); refine goesL_ (some 19) rfl rfl Try.func11 (by kernel_rfl) rfl #[.agg #[.int .i64 a1_0, .int .i64 a1_1, .int .i64 a1_2, .int .i64 a1_3, .slice A1_4 l1_4.length c1_4, .slice A1_5 l1_5.length c1_5, .slice A1_6 l1_6.length c1_6]] rfl uM ?_; (with_reducible refine (wire_Encode.calls k a1_0 a1_1 a1_2 a1_3 _ _ l1_4 _ _ l1_5 _ _ l1_6 t266 t269 _ ?side1 ?side2 ?side3 ?side4 ?side5 ?side6 A5.out).mono ?_); (case side1 => exact uC (Kd.C_below HR1_4.out HB.out)); (case side2 => exact HC1_4.out); (case side3 => exact uC (Kd.C_below HR1_5.out HB.out)); (case side4 => exact HC1_5.out); (case side5 => exact uC (Kd.C_below HR1_6.out HB.out)); (case side6 => exact HC1_6.out); rintro e w17 ⟨v267, rfl, ho0, hb⟩; refine ⟨_, rfl, ?_⟩; have HO268 := Aside0.mk (Kd.R_lower (Kd.R_new' ho0 (Kd.R_lt (uR HO264.out))) (below_size uB)); replace HO264 := ueR HO264 ho0 hb; replace BK259 := ux BK259 hb; replace BK260 := ux BK260 hb; replace HB := uy hb; (try clear hb ho0); have hcz18_0 : w17.cell? ⟨gb259, 0, none⟩ = some (.int .i64 a0_0) := (blk_cell BK259.out 0).trans rfl; have hcz18_1 : w17.cell? ⟨gb259, 1, none⟩ = some (.int .i64 a0_1) := (blk_cell BK259.out 1).trans rfl; have hcz18_2 : w17.cell? ⟨gb259, 2, none⟩ = some (.int .i64 a0_2) := (blk_cell BK259.out 2).trans rfl; have hcz18_3 : w17.cell? ⟨gb259, 3, none⟩ = some (.int .i64 a0_3) := (blk_cell BK259.out 3).trans rfl; have hcz18_4 : w17.cell? ⟨gb259, 4, none⟩ = some (.slice A0_4 l0_4.length c0_4) := (blk_cell BK259.out 4).trans rfl; have hcz18_5 : w17.cell? ⟨gb259, 5, none⟩ = some (.slice A0_5 l0_5.length c0_5) := (blk_cell BK259.out 5).trans rfl; have hcz18_6 : w17.cell? ⟨gb259, 6, none⟩ = some (.slice A0_6 l0_6.length c0_6) := (blk_cell BK259.out 6).trans rfl; have hfz18_0 := blk_frozen BK259.out 0; have hfz18_1 := blk_frozen BK259.out 1; have hfz18_2 := blk_frozen BK259.out 2; have hfz18_3 := blk_frozen BK259.out 3; have hfz18_4 := blk_frozen BK259.out 4; have hfz18_5 := blk_frozen BK259.out 5; have hfz18_6 := blk_frozen BK259.out 6; have hcz19_0 : w17.cell? ⟨gb260, 0, none⟩ = some (.int .i64 a1_0) := (blk_cell BK260.out 0).trans rfl; have hcz19_1 : w17.cell? ⟨gb260, 1, none⟩ = some (.int .i64 a1_1) := (blk_cell BK260.out 1).trans rfl; have hcz19_2 : w17.cell? ⟨gb260, 2, none⟩ = some (.int .i64 a1_2) := (blk_cell BK260.out 2).trans rfl; have hcz19_3 : w17.cell? ⟨gb260, 3, none⟩ = some (.int .i64 a1_3) := (blk_cell BK260.out 3).trans rfl; have hcz19_4 : w17.cell? ⟨gb260, 4, none⟩ = some (.slice A1_4 l1_4.length c1_4) := (blk_cell BK260.out 4).trans rfl; have hcz19_5 : w17.cell? ⟨gb260, 5, none⟩ = some (.slice A1_5 l1_5.length c1_5) := (blk_cell BK260.out 5).trans rfl; have hcz19_6 : w17.cell? ⟨gb260, 6, none⟩ = some (.slice A1_6 l1_6.length c1_6) := (blk_cell BK260.out 6).trans rfl; have hfz19_0 := blk_frozen BK260.out 0; have hfz19_1 := blk_frozen BK260.out 1; have hfz19_2 := blk_frozen BK260.out 2; have hfz19_3 := blk_frozen BK260.out 3; have hfz19_4 := blk_frozen BK260.out 4; have hfz19_5 := blk_frozen BK260.out 5; have hfz19_6 := blk_frozen BK260.out 6) | ((with_reducible refine gate_callee (f := 13) rfl ?_); refine goesL_ (some 31) rfl rfl Try.func13 (by kernel_rfl) rfl #[.agg #[.int .i64 a0_0, .int .i64 a0_1, .int .i64 a0_2, .int .i64 a0_3, .slice A0_4 l0_4.length c0_4, .slice A0_5 l0_5.length c0_5, .slice A0_6 l0_6.length c0_6], .agg #[.int .i64 a1_0, .int .i64 a1_1, .int .i64 a1_2, .int .i64 a1_3, .slice A1_4 l1_4.length c1_4, .slice A1_5 l1_5.length c1_5, .slice A1_6 l1_6.length c1_6]] rfl uM ?_; (with_reducible refine (windbreakref12_Same.calls k a0_0 a0_1 a0_2 a0_3 _ _ l0_4 _ _ l0_5 _ _ l0_6 a1_0 a1_1 a1_2 a1_3 _ _ l1_4 _ _ l1_5 _ _ l1_6 t270 _ ?side1 ?side2 ?side3 ?side4 ?side5 ?side6 ?side7 ?side8 ?side9 ?side10 ?side11 ?side12 A8.out).mono ?_); (case side1 => exact uC (Kd.C_below HR0_4.out HB.out)); (case side2 => exact HC0_4.out); (case side3 => exact uC (Kd.C_below HR0_5.out HB.out)); (case side4 => exact HC0_5.out); (case side5 => exact uC (Kd.C_below HR0_6.out HB.out)); (case side6 => exact HC0_6.out); (case side7 => exact uC (Kd.C_below HR1_4.out HB.out)); (case side8 => exact HC1_4.out); (case side9 => exact uC (Kd.C_below HR1_5.out HB.out)); (case side10 => exact HC1_5.out); (case side11 => exact uC (Kd.C_below HR1_6.out HB.out)); (case side12 => exact HC1_6.out); rintro e w20 ⟨rfl, hb⟩; refine ⟨_, rfl, ?_⟩; replace HO264 := Aside0.mk (Kd.R_below (uR HO264.out) hb); replace HO268 := Aside0.mk (Kd.R_below (uR HO268.out) hb); replace BK259 := ux BK259 hb; replace BK260 := ux BK260 hb; replace HB := uy hb; (try clear hb); have hcv21 := own_string (P := Try.prog) Try.underlying28 Try.underlying5 Try.underlying9 (Kd.own_of_R HO264.out); have hcv22 := own_string (P := Try.prog) Try.underlying28 Try.underlying5 Try.underlying9 (Kd.own_of_R HO268.out)))
    go_ret
    exact ⟨uF, uB⟩
   replace c9 := Bool.eq_false_iff.mpr c9
   subst c9
   have H1 : (some false) = some r := by rw [if_neg (show ¬ (false = true) by decide)] at H; exact H
   clear H; have H := H1; clear H1
   obtain rfl := Option.some.inj H
   go_enter Try.func5, Try.ntmps5
   go_wp2_with (first | ((with_reducible refine gate_dst (N := 2) rfl ?_); refine box_event ?hg (N := 2) ?hd (cs := #[.int .i64 a0_0, .int .i64 a0_1, .int .i64 a0_2, .int .i64 a0_3, .slice A0_4 l0_4.length c0_4, .slice A0_5 l0_5.length c0_5, .slice A0_6 l0_6.length c0_6]) (t := 25) ?hr ?_; (case hd => rfl); (case hg => rfl); (case hr => first | (go_simp; done) | (go_simp; rfl)); intro gb259 hg w23 hbox hb; have BK259 := Aside0.mk (hbox); have GW259 := us hg; have GE259 := us hg; replace HB := uy hb; clear hb hbox hg) | ((with_reducible refine gate_dst (N := 3) rfl ?_); refine box_event ?hg (N := 3) ?hd (cs := #[.int .i64 a1_0, .int .i64 a1_1, .int .i64 a1_2, .int .i64 a1_3, .slice A1_4 l1_4.length c1_4, .slice A1_5 l1_5.length c1_5, .slice A1_6 l1_6.length c1_6]) (t := 25) ?hr ?_; (case hd => rfl); (case hg => rfl); (case hr => first | (go_simp; done) | (go_simp; rfl)); intro gb260 hg w24 hbox hb; have BK260 := Aside0.mk (hbox); have GW260 := us hg; have GE260 := us hg; replace HB := uy hb; have NB259_260 := Aside0.mk ((by rw [hg]; exact Nat.ne_of_lt (blk_lt (uK BK259.out)) : gb259 ≠ gb260)); have NB260_259 := Aside0.mk ((by rw [hg]; exact Nat.ne_of_gt (blk_lt (uK BK259.out)) : gb260 ≠ gb259)); replace BK259 := ux BK259 hb; clear hb hbox hg) | ((with_reducible refine gate_callee (f := 8) rfl ?_); refine goesL_ (some 11) rfl rfl Try.func8 (by kernel_rfl) rfl #[] rfl uM ?_; (with_reducible refine (windbreaklaw12_awake.calls k  false _ A3.out).mono ?_); rintro e w25 ⟨rfl, hb⟩; refine ⟨_, rfl, ?_⟩; replace BK259 := ux BK259 hb; replace BK260 := ux BK260 hb; replace HB := uy hb; (try clear hb); have hnb26 := NB259_260.out; have hnc26 := NB260_259.out; have hcz27_0 : w25.cell? ⟨gb259, 0, none⟩ = some (.int .i64 a0_0) := (blk_cell BK259.out 0).trans rfl; have hcz27_1 : w25.cell? ⟨gb259, 1, none⟩ = some (.int .i64 a0_1) := (blk_cell BK259.out 1).trans rfl; have hcz27_2 : w25.cell? ⟨gb259, 2, none⟩ = some (.int .i64 a0_2) := (blk_cell BK259.out 2).trans rfl; have hcz27_3 : w25.cell? ⟨gb259, 3, none⟩ = some (.int .i64 a0_3) := (blk_cell BK259.out 3).trans rfl; have hcz27_4 : w25.cell? ⟨gb259, 4, none⟩ = some (.slice A0_4 l0_4.length c0_4) := (blk_cell BK259.out 4).trans rfl; have hcz27_5 : w25.cell? ⟨gb259, 5, none⟩ = some (.slice A0_5 l0_5.length c0_5) := (blk_cell BK259.out 5).trans rfl; have hcz27_6 : w25.cell? ⟨gb259, 6, none⟩ = some (.slice A0_6 l0_6.length c0_6) := (blk_cell BK259.out 6).trans rfl; have hfz27_0 := blk_frozen BK259.out 0; have hfz27_1 := blk_frozen BK259.out 1; have hfz27_2 := blk_frozen BK259.out 2; have hfz27_3 := blk_frozen BK259.out 3; have hfz27_4 := blk_frozen BK259.out 4; have hfz27_5 := blk_frozen BK259.out 5; have hfz27_6 := blk_frozen BK259.out 6) | ((with_reducible refine gate_callee (f := 11) rfl ?_); refine goesL_ (some 14) rfl rfl Try.func11 (by kernel_rfl) rfl #[.agg #[.int .i64 a0_0, .int .i64 a0_1, .int .i64 a0_2, .int .i64 a0_3, .slice A0_4 l0_4.length c0_4, .slice A0_5 l0_5.length c0_5, .slice A0_6 l0_6.length c0_6]] rfl uM ?_; (with_reducible refine (wire_Encode.calls k a0_0 a0_1 a0_2 a0_3 _ _ l0_4 _ _ l0_5 _ _ l0_6 t262 t265 _ ?side1 ?side2 ?side3 ?side4 ?side5 ?side6 A4.out).mono ?_); (case side1 => exact uC (Kd.C_below HR0_4.out HB.out)); (case side2 => exact HC0_4.out); (case side3 => exact uC (Kd.C_below HR0_5.out HB.out)); (case side4 => exact HC0_5.out); (case side5 => exact uC (Kd.C_below HR0_6.out HB.out)); (case side6 => exact HC0_6.out); rintro e w28 ⟨v263, rfl, ho0, hb⟩; refine ⟨_, rfl, ?_⟩; have HO264 := Aside0.mk (Kd.R_lower ho0 (below_size uB)); replace BK259 := ux BK259 hb; replace BK260 := ux BK260 hb; replace HB := uy hb; (try clear hb ho0); have hcz29_0 : w28.cell? ⟨gb260, 0, none⟩ = some (.int .i64 a1_0) := (blk_cell BK260.out 0).trans rfl; have hcz29_1 : w28.cell? ⟨gb260, 1, none⟩ = some (.int .i64 a1_1) := (blk_cell BK260.out 1).trans rfl; have hcz29_2 : w28.cell? ⟨gb260, 2, none⟩ = some (.int .i64 a1_2) := (blk_cell BK260.out 2).trans rfl; have hcz29_3 : w28.cell? ⟨gb260, 3, none⟩ = some (.int .i64 a1_3) := (blk_cell BK260.out 3).trans rfl; have hcz29_4 : w28.cell? ⟨gb260, 4, none⟩ = some (.slice A1_4 l1_4.length c1_4) := (blk_cell BK260.out 4).trans rfl; have hcz29_5 : w28.cell? ⟨gb260, 5, none⟩ = some (.slice A1_5 l1_5.length c1_5) := (blk_cell BK260.out 5).trans rfl; have hcz29_6 : w28.cell? ⟨gb260, 6, none⟩ = some (.slice A1_6 l1_6.length c1_6) := (blk_cell BK260.out 6).trans rfl; have hfz29_0 := blk_frozen BK260.out 0; have hfz29_1 := blk_frozen BK260.out 1; have hfz29_2 := blk_frozen BK260.out 2; have hfz29_3 := blk_frozen BK260.out 3; have hfz29_4 := blk_frozen BK260.out 4; have hfz29_5 := blk_frozen BK260.out 5; have hfz29_6 := blk_frozen BK260.out 6) | ((with_reducible refine gate_callee (f := 11) rfl ?_); refine goesL_ (some 19) rfl rfl Try.func11 (by kernel_rfl) rfl #[.agg #[.int .i64 a1_0, .int .i64 a1_1, .int .i64 a1_2, .int .i64 a1_3, .slice A1_4 l1_4.length c1_4, .slice A1_5 l1_5.length c1_5, .slice A1_6 l1_6.length c1_6]] rfl uM ?_; (with_reducible refine (wire_Encode.calls k a1_0 a1_1 a1_2 a1_3 _ _ l1_4 _ _ l1_5 _ _ l1_6 t266 t269 _ ?side1 ?side2 ?side3 ?side4 ?side5 ?side6 A5.out).mono ?_); (case side1 => exact uC (Kd.C_below HR1_4.out HB.out)); (case side2 => exact HC1_4.out); (case side3 => exact uC (Kd.C_below HR1_5.out HB.out)); (case side4 => exact HC1_5.out); (case side5 => exact uC (Kd.C_below HR1_6.out HB.out)); (case side6 => exact HC1_6.out); rintro e w30 ⟨v267, rfl, ho0, hb⟩; refine ⟨_, rfl, ?_⟩; have HO268 := Aside0.mk (Kd.R_lower (Kd.R_new' ho0 (Kd.R_lt (uR HO264.out))) (below_size uB)); replace HO264 := ueR HO264 ho0 hb; replace BK259 := ux BK259 hb; replace BK260 := ux BK260 hb; replace HB := uy hb; (try clear hb ho0); have hcz31_0 : w30.cell? ⟨gb259, 0, none⟩ = some (.int .i64 a0_0) := (blk_cell BK259.out 0).trans rfl; have hcz31_1 : w30.cell? ⟨gb259, 1, none⟩ = some (.int .i64 a0_1) := (blk_cell BK259.out 1).trans rfl; have hcz31_2 : w30.cell? ⟨gb259, 2, none⟩ = some (.int .i64 a0_2) := (blk_cell BK259.out 2).trans rfl; have hcz31_3 : w30.cell? ⟨gb259, 3, none⟩ = some (.int .i64 a0_3) := (blk_cell BK259.out 3).trans rfl; have hcz31_4 : w30.cell? ⟨gb259, 4, none⟩ = some (.slice A0_4 l0_4.length c0_4) := (blk_cell BK259.out 4).trans rfl; have hcz31_5 : w30.cell? ⟨gb259, 5, none⟩ = some (.slice A0_5 l0_5.length c0_5) := (blk_cell BK259.out 5).trans rfl; have hcz31_6 : w30.cell? ⟨gb259, 6, none⟩ = some (.slice A0_6 l0_6.length c0_6) := (blk_cell BK259.out 6).trans rfl; have hfz31_0 := blk_frozen BK259.out 0; have hfz31_1 := blk_frozen BK259.out 1; have hfz31_2 := blk_frozen BK259.out 2; have hfz31_3 := blk_frozen BK259.out 3; have hfz31_4 := blk_frozen BK259.out 4; have hfz31_5 := blk_frozen BK259.out 5; have hfz31_6 := blk_frozen BK259.out 6; have hcz32_0 : w30.cell? ⟨gb260, 0, none⟩ = some (.int .i64 a1_0) := (blk_cell BK260.out 0).trans rfl; have hcz32_1 : w30.cell? ⟨gb260, 1, none⟩ = some (.int .i64 a1_1) := (blk_cell BK260.out 1).trans rfl; have hcz32_2 : w30.cell? ⟨gb260, 2, none⟩ = some (.int .i64 a1_2) := (blk_cell BK260.out 2).trans rfl; have hcz32_3 : w30.cell? ⟨gb260, 3, none⟩ = some (.int .i64 a1_3) := (blk_cell BK260.out 3).trans rfl; have hcz32_4 : w30.cell? ⟨gb260, 4, none⟩ = some (.slice A1_4 l1_4.length c1_4) := (blk_cell BK260.out 4).trans rfl; have hcz32_5 : w30.cell? ⟨gb260, 5, none⟩ = some (.slice A1_5 l1_5.length c1_5) := (blk_cell BK260.out 5).trans rfl; have hcz32_6 : w30.cell? ⟨gb260, 6, none⟩ = some (.slice A1_6 l1_6.length c1_6) := (blk_cell BK260.out 6).trans rfl; have hfz32_0 := blk_frozen BK260.out 0; have hfz32_1 := blk_frozen BK260.out 1; have hfz32_2 := blk_frozen BK260.out 2; have hfz32_3 := blk_frozen BK260.out 3; have hfz32_4 := blk_frozen BK260.out 4; have hfz32_5 := blk_frozen BK260.out 5; have hfz32_6 := blk_frozen BK260.out 6) | ((with_reducible refine gate_callee (f := 13) rfl ?_); refine goesL_ (some 31) rfl rfl Try.func13 (by kernel_rfl) rfl #[.agg #[.int .i64 a0_0, .int .i64 a0_1, .int .i64 a0_2, .int .i64 a0_3, .slice A0_4 l0_4.length c0_4, .slice A0_5 l0_5.length c0_5, .slice A0_6 l0_6.length c0_6], .agg #[.int .i64 a1_0, .int .i64 a1_1, .int .i64 a1_2, .int .i64 a1_3, .slice A1_4 l1_4.length c1_4, .slice A1_5 l1_5.length c1_5, .slice A1_6 l1_6.length c1_6]] rfl uM ?_; (with_reducible refine (windbreakref12_Same.calls k a0_0 a0_1 a0_2 a0_3 _ _ l0_4 _ _ l0_5 _ _ l0_6 a1_0 a1_1 a1_2 a1_3 _ _ l1_4 _ _ l1_5 _ _ l1_6 t270 _ ?side1 ?side2 ?side3 ?side4 ?side5 ?side6 ?side7 ?side8 ?side9 ?side10 ?side11 ?side12 A8.out).mono ?_); (case side1 => exact uC (Kd.C_below HR0_4.out HB.out)); (case side2 => exact HC0_4.out); (case side3 => exact uC (Kd.C_below HR0_5.out HB.out)); (case side4 => exact HC0_5.out); (case side5 => exact uC (Kd.C_below HR0_6.out HB.out)); (case side6 => exact HC0_6.out); (case side7 => exact uC (Kd.C_below HR1_4.out HB.out)); (case side8 => exact HC1_4.out); (case side9 => exact uC (Kd.C_below HR1_5.out HB.out)); (case side10 => exact HC1_5.out); (case side11 => exact uC (Kd.C_below HR1_6.out HB.out)); (case side12 => exact HC1_6.out); rintro e w33 ⟨rfl, hb⟩; refine ⟨_, rfl, ?_⟩; replace HO264 := Aside0.mk (Kd.R_below (uR HO264.out) hb); replace HO268 := Aside0.mk (Kd.R_below (uR HO268.out) hb); replace BK259 := ux BK259 hb; replace BK260 := ux BK260 hb; replace HB := uy hb; (try clear hb)))
   go_ret
   exact ⟨uF, uB⟩
  rw [if_neg c7] at H
  have c7b0 : (t269 == 0) = false := beq_eq_false_iff_ne.mpr c7
  have c7b1 : (t269 != 0) = true := bne_iff_ne.mpr c7
  obtain rfl := Option.some.inj H
  go_enter Try.func5, Try.ntmps5
  go_wp2_with (first | ((with_reducible refine gate_dst (N := 2) rfl ?_); refine box_event ?hg (N := 2) ?hd (cs := #[.int .i64 a0_0, .int .i64 a0_1, .int .i64 a0_2, .int .i64 a0_3, .slice A0_4 l0_4.length c0_4, .slice A0_5 l0_5.length c0_5, .slice A0_6 l0_6.length c0_6]) (t := 25) ?hr ?_; (case hd => rfl); (case hg => rfl); (case hr => first | (go_simp; done) | (go_simp; rfl)); intro gb259 hg w34 hbox hb; have BK259 := Aside0.mk (hbox); have GW259 := us hg; have GE259 := us hg; replace HB := uy hb; clear hb hbox hg) | ((with_reducible refine gate_dst (N := 3) rfl ?_); refine box_event ?hg (N := 3) ?hd (cs := #[.int .i64 a1_0, .int .i64 a1_1, .int .i64 a1_2, .int .i64 a1_3, .slice A1_4 l1_4.length c1_4, .slice A1_5 l1_5.length c1_5, .slice A1_6 l1_6.length c1_6]) (t := 25) ?hr ?_; (case hd => rfl); (case hg => rfl); (case hr => first | (go_simp; done) | (go_simp; rfl)); intro gb260 hg w35 hbox hb; have BK260 := Aside0.mk (hbox); have GW260 := us hg; have GE260 := us hg; replace HB := uy hb; have NB259_260 := Aside0.mk ((by rw [hg]; exact Nat.ne_of_lt (blk_lt (uK BK259.out)) : gb259 ≠ gb260)); have NB260_259 := Aside0.mk ((by rw [hg]; exact Nat.ne_of_gt (blk_lt (uK BK259.out)) : gb260 ≠ gb259)); replace BK259 := ux BK259 hb; clear hb hbox hg) | ((with_reducible refine gate_callee (f := 8) rfl ?_); refine goesL_ (some 11) rfl rfl Try.func8 (by kernel_rfl) rfl #[] rfl uM ?_; (with_reducible refine (windbreaklaw12_awake.calls k  t261 _ A3.out).mono ?_); rintro e w36 ⟨rfl, hb⟩; refine ⟨_, rfl, ?_⟩; replace BK259 := ux BK259 hb; replace BK260 := ux BK260 hb; replace HB := uy hb; (try clear hb); have hnb37 := NB259_260.out; have hnc37 := NB260_259.out; have hcz38_0 : w36.cell? ⟨gb259, 0, none⟩ = some (.int .i64 a0_0) := (blk_cell BK259.out 0).trans rfl; have hcz38_1 : w36.cell? ⟨gb259, 1, none⟩ = some (.int .i64 a0_1) := (blk_cell BK259.out 1).trans rfl; have hcz38_2 : w36.cell? ⟨gb259, 2, none⟩ = some (.int .i64 a0_2) := (blk_cell BK259.out 2).trans rfl; have hcz38_3 : w36.cell? ⟨gb259, 3, none⟩ = some (.int .i64 a0_3) := (blk_cell BK259.out 3).trans rfl; have hcz38_4 : w36.cell? ⟨gb259, 4, none⟩ = some (.slice A0_4 l0_4.length c0_4) := (blk_cell BK259.out 4).trans rfl; have hcz38_5 : w36.cell? ⟨gb259, 5, none⟩ = some (.slice A0_5 l0_5.length c0_5) := (blk_cell BK259.out 5).trans rfl; have hcz38_6 : w36.cell? ⟨gb259, 6, none⟩ = some (.slice A0_6 l0_6.length c0_6) := (blk_cell BK259.out 6).trans rfl; have hfz38_0 := blk_frozen BK259.out 0; have hfz38_1 := blk_frozen BK259.out 1; have hfz38_2 := blk_frozen BK259.out 2; have hfz38_3 := blk_frozen BK259.out 3; have hfz38_4 := blk_frozen BK259.out 4; have hfz38_5 := blk_frozen BK259.out 5; have hfz38_6 := blk_frozen BK259.out 6) | ((with_reducible refine gate_callee (f := 11) rfl ?_); refine goesL_ (some 14) rfl rfl Try.func11 (by kernel_rfl) rfl #[.agg #[.int .i64 a0_0, .int .i64 a0_1, .int .i64 a0_2, .int .i64 a0_3, .slice A0_4 l0_4.length c0_4, .slice A0_5 l0_5.length c0_5, .slice A0_6 l0_6.length c0_6]] rfl uM ?_; (with_reducible refine (wire_Encode.calls k a0_0 a0_1 a0_2 a0_3 _ _ l0_4 _ _ l0_5 _ _ l0_6 t262 t265 _ ?side1 ?side2 ?side3 ?side4 ?side5 ?side6 A4.out).mono ?_); (case side1 => exact uC (Kd.C_below HR0_4.out HB.out)); (case side2 => exact HC0_4.out); (case side3 => exact uC (Kd.C_below HR0_5.out HB.out)); (case side4 => exact HC0_5.out); (case side5 => exact uC (Kd.C_below HR0_6.out HB.out)); (case side6 => exact HC0_6.out); rintro e w39 ⟨v263, rfl, ho0, hb⟩; refine ⟨_, rfl, ?_⟩; have HO264 := Aside0.mk (Kd.R_lower ho0 (below_size uB)); replace BK259 := ux BK259 hb; replace BK260 := ux BK260 hb; replace HB := uy hb; (try clear hb ho0); have hcz40_0 : w39.cell? ⟨gb260, 0, none⟩ = some (.int .i64 a1_0) := (blk_cell BK260.out 0).trans rfl; have hcz40_1 : w39.cell? ⟨gb260, 1, none⟩ = some (.int .i64 a1_1) := (blk_cell BK260.out 1).trans rfl; have hcz40_2 : w39.cell? ⟨gb260, 2, none⟩ = some (.int .i64 a1_2) := (blk_cell BK260.out 2).trans rfl; have hcz40_3 : w39.cell? ⟨gb260, 3, none⟩ = some (.int .i64 a1_3) := (blk_cell BK260.out 3).trans rfl; have hcz40_4 : w39.cell? ⟨gb260, 4, none⟩ = some (.slice A1_4 l1_4.length c1_4) := (blk_cell BK260.out 4).trans rfl; have hcz40_5 : w39.cell? ⟨gb260, 5, none⟩ = some (.slice A1_5 l1_5.length c1_5) := (blk_cell BK260.out 5).trans rfl; have hcz40_6 : w39.cell? ⟨gb260, 6, none⟩ = some (.slice A1_6 l1_6.length c1_6) := (blk_cell BK260.out 6).trans rfl; have hfz40_0 := blk_frozen BK260.out 0; have hfz40_1 := blk_frozen BK260.out 1; have hfz40_2 := blk_frozen BK260.out 2; have hfz40_3 := blk_frozen BK260.out 3; have hfz40_4 := blk_frozen BK260.out 4; have hfz40_5 := blk_frozen BK260.out 5; have hfz40_6 := blk_frozen BK260.out 6) | ((with_reducible refine gate_callee (f := 11) rfl ?_); refine goesL_ (some 19) rfl rfl Try.func11 (by kernel_rfl) rfl #[.agg #[.int .i64 a1_0, .int .i64 a1_1, .int .i64 a1_2, .int .i64 a1_3, .slice A1_4 l1_4.length c1_4, .slice A1_5 l1_5.length c1_5, .slice A1_6 l1_6.length c1_6]] rfl uM ?_; (with_reducible refine (wire_Encode.calls k a1_0 a1_1 a1_2 a1_3 _ _ l1_4 _ _ l1_5 _ _ l1_6 t266 t269 _ ?side1 ?side2 ?side3 ?side4 ?side5 ?side6 A5.out).mono ?_); (case side1 => exact uC (Kd.C_below HR1_4.out HB.out)); (case side2 => exact HC1_4.out); (case side3 => exact uC (Kd.C_below HR1_5.out HB.out)); (case side4 => exact HC1_5.out); (case side5 => exact uC (Kd.C_below HR1_6.out HB.out)); (case side6 => exact HC1_6.out); rintro e w41 ⟨v267, rfl, ho0, hb⟩; refine ⟨_, rfl, ?_⟩; have HO268 := Aside0.mk (Kd.R_lower (Kd.R_new' ho0 (Kd.R_lt (uR HO264.out))) (below_size uB)); replace HO264 := ueR HO264 ho0 hb; replace BK259 := ux BK259 hb; replace BK260 := ux BK260 hb; replace HB := uy hb; (try clear hb ho0)))
  go_ret
  exact ⟨uF, uB⟩
 rw [if_neg c6] at H
 have c6b0 : (t265 == 0) = false := beq_eq_false_iff_ne.mpr c6
 have c6b1 : (t265 != 0) = true := bne_iff_ne.mpr c6
 obtain rfl := Option.some.inj H
 go_enter Try.func5, Try.ntmps5
 go_wp2_with (first | ((with_reducible refine gate_dst (N := 2) rfl ?_); refine box_event ?hg (N := 2) ?hd (cs := #[.int .i64 a0_0, .int .i64 a0_1, .int .i64 a0_2, .int .i64 a0_3, .slice A0_4 l0_4.length c0_4, .slice A0_5 l0_5.length c0_5, .slice A0_6 l0_6.length c0_6]) (t := 25) ?hr ?_; (case hd => rfl); (case hg => rfl); (case hr => first | (go_simp; done) | (go_simp; rfl)); intro gb259 hg w42 hbox hb; have BK259 := Aside0.mk (hbox); have GW259 := us hg; have GE259 := us hg; replace HB := uy hb; clear hb hbox hg) | ((with_reducible refine gate_dst (N := 3) rfl ?_); refine box_event ?hg (N := 3) ?hd (cs := #[.int .i64 a1_0, .int .i64 a1_1, .int .i64 a1_2, .int .i64 a1_3, .slice A1_4 l1_4.length c1_4, .slice A1_5 l1_5.length c1_5, .slice A1_6 l1_6.length c1_6]) (t := 25) ?hr ?_; (case hd => rfl); (case hg => rfl); (case hr => first | (go_simp; done) | (go_simp; rfl)); intro gb260 hg w43 hbox hb; have BK260 := Aside0.mk (hbox); have GW260 := us hg; have GE260 := us hg; replace HB := uy hb; have NB259_260 := Aside0.mk ((by rw [hg]; exact Nat.ne_of_lt (blk_lt (uK BK259.out)) : gb259 ≠ gb260)); have NB260_259 := Aside0.mk ((by rw [hg]; exact Nat.ne_of_gt (blk_lt (uK BK259.out)) : gb260 ≠ gb259)); replace BK259 := ux BK259 hb; clear hb hbox hg) | ((with_reducible refine gate_callee (f := 8) rfl ?_); refine goesL_ (some 11) rfl rfl Try.func8 (by kernel_rfl) rfl #[] rfl uM ?_; (with_reducible refine (windbreaklaw12_awake.calls k  t261 _ A3.out).mono ?_); rintro e w44 ⟨rfl, hb⟩; refine ⟨_, rfl, ?_⟩; replace BK259 := ux BK259 hb; replace BK260 := ux BK260 hb; replace HB := uy hb; (try clear hb); have hnb45 := NB259_260.out; have hnc45 := NB260_259.out; have hcz46_0 : w44.cell? ⟨gb259, 0, none⟩ = some (.int .i64 a0_0) := (blk_cell BK259.out 0).trans rfl; have hcz46_1 : w44.cell? ⟨gb259, 1, none⟩ = some (.int .i64 a0_1) := (blk_cell BK259.out 1).trans rfl; have hcz46_2 : w44.cell? ⟨gb259, 2, none⟩ = some (.int .i64 a0_2) := (blk_cell BK259.out 2).trans rfl; have hcz46_3 : w44.cell? ⟨gb259, 3, none⟩ = some (.int .i64 a0_3) := (blk_cell BK259.out 3).trans rfl; have hcz46_4 : w44.cell? ⟨gb259, 4, none⟩ = some (.slice A0_4 l0_4.length c0_4) := (blk_cell BK259.out 4).trans rfl; have hcz46_5 : w44.cell? ⟨gb259, 5, none⟩ = some (.slice A0_5 l0_5.length c0_5) := (blk_cell BK259.out 5).trans rfl; have hcz46_6 : w44.cell? ⟨gb259, 6, none⟩ = some (.slice A0_6 l0_6.length c0_6) := (blk_cell BK259.out 6).trans rfl; have hfz46_0 := blk_frozen BK259.out 0; have hfz46_1 := blk_frozen BK259.out 1; have hfz46_2 := blk_frozen BK259.out 2; have hfz46_3 := blk_frozen BK259.out 3; have hfz46_4 := blk_frozen BK259.out 4; have hfz46_5 := blk_frozen BK259.out 5; have hfz46_6 := blk_frozen BK259.out 6) | ((with_reducible refine gate_callee (f := 11) rfl ?_); refine goesL_ (some 14) rfl rfl Try.func11 (by kernel_rfl) rfl #[.agg #[.int .i64 a0_0, .int .i64 a0_1, .int .i64 a0_2, .int .i64 a0_3, .slice A0_4 l0_4.length c0_4, .slice A0_5 l0_5.length c0_5, .slice A0_6 l0_6.length c0_6]] rfl uM ?_; (with_reducible refine (wire_Encode.calls k a0_0 a0_1 a0_2 a0_3 _ _ l0_4 _ _ l0_5 _ _ l0_6 t262 t265 _ ?side1 ?side2 ?side3 ?side4 ?side5 ?side6 A4.out).mono ?_); (case side1 => exact uC (Kd.C_below HR0_4.out HB.out)); (case side2 => exact HC0_4.out); (case side3 => exact uC (Kd.C_below HR0_5.out HB.out)); (case side4 => exact HC0_5.out); (case side5 => exact uC (Kd.C_below HR0_6.out HB.out)); (case side6 => exact HC0_6.out); rintro e w47 ⟨v263, rfl, ho0, hb⟩; refine ⟨_, rfl, ?_⟩; have HO264 := Aside0.mk (Kd.R_lower ho0 (below_size uB)); replace BK259 := ux BK259 hb; replace BK260 := ux BK260 hb; replace HB := uy hb; (try clear hb ho0); have hcz48_0 : w47.cell? ⟨gb260, 0, none⟩ = some (.int .i64 a1_0) := (blk_cell BK260.out 0).trans rfl; have hcz48_1 : w47.cell? ⟨gb260, 1, none⟩ = some (.int .i64 a1_1) := (blk_cell BK260.out 1).trans rfl; have hcz48_2 : w47.cell? ⟨gb260, 2, none⟩ = some (.int .i64 a1_2) := (blk_cell BK260.out 2).trans rfl; have hcz48_3 : w47.cell? ⟨gb260, 3, none⟩ = some (.int .i64 a1_3) := (blk_cell BK260.out 3).trans rfl; have hcz48_4 : w47.cell? ⟨gb260, 4, none⟩ = some (.slice A1_4 l1_4.length c1_4) := (blk_cell BK260.out 4).trans rfl; have hcz48_5 : w47.cell? ⟨gb260, 5, none⟩ = some (.slice A1_5 l1_5.length c1_5) := (blk_cell BK260.out 5).trans rfl; have hcz48_6 : w47.cell? ⟨gb260, 6, none⟩ = some (.slice A1_6 l1_6.length c1_6) := (blk_cell BK260.out 6).trans rfl; have hfz48_0 := blk_frozen BK260.out 0; have hfz48_1 := blk_frozen BK260.out 1; have hfz48_2 := blk_frozen BK260.out 2; have hfz48_3 := blk_frozen BK260.out 3; have hfz48_4 := blk_frozen BK260.out 4; have hfz48_5 := blk_frozen BK260.out 5; have hfz48_6 := blk_frozen BK260.out 6) | ((with_reducible refine gate_callee (f := 11) rfl ?_); refine goesL_ (some 19) rfl rfl Try.func11 (by kernel_rfl) rfl #[.agg #[.int .i64 a1_0, .int .i64 a1_1, .int .i64 a1_2, .int .i64 a1_3, .slice A1_4 l1_4.length c1_4, .slice A1_5 l1_5.length c1_5, .slice A1_6 l1_6.length c1_6]] rfl uM ?_; (with_reducible refine (wire_Encode.calls k a1_0 a1_1 a1_2 a1_3 _ _ l1_4 _ _ l1_5 _ _ l1_6 t266 t269 _ ?side1 ?side2 ?side3 ?side4 ?side5 ?side6 A5.out).mono ?_); (case side1 => exact uC (Kd.C_below HR1_4.out HB.out)); (case side2 => exact HC1_4.out); (case side3 => exact uC (Kd.C_below HR1_5.out HB.out)); (case side4 => exact HC1_5.out); (case side5 => exact uC (Kd.C_below HR1_6.out HB.out)); (case side6 => exact HC1_6.out); rintro e w49 ⟨v267, rfl, ho0, hb⟩; refine ⟨_, rfl, ?_⟩; have HO268 := Aside0.mk (Kd.R_lower (Kd.R_new' ho0 (Kd.R_lt (uR HO264.out))) (below_size uB)); replace HO264 := ueR HO264 ho0 hb; replace BK259 := ux BK259 hb; replace BK260 := ux BK260 hb; replace HB := uy hb; (try clear hb ho0)))
 go_ret
 exact ⟨uF, uB⟩
end Go.Proofs.Ytkgaejigpmkfkab.F
end
section
namespace Go.Proofs.Ytkgaejigpmkfkab.F
open Go.RowKit Go.Proofs.YtkgaejigpmkfkabW.PrintWords Go.Proofs.YtkgaejigpmkfkabW.PrintLast Go.Proofs.YtkgaejigpmkfkabW.PrintMore
set_option linter.unusedVariables false
set_option linter.unusedSimpArgs false
theorem msg_parts {w : World} {cs : Array Value} {x : Int × Int × Int × Int × List Int × List Int × List (List Int)} (h : (Kd.pair (Kd.int .i64) (Kd.pair (Kd.int .i64) (Kd.pair (Kd.int .i64) (Kd.pair (Kd.int .i64) (Kd.pair (Kd.slice 3 (Kd.int .i64)) (Kd.pair (Kd.slice 3 (Kd.int .i64)) (Kd.slice 42 (Kd.slice 48 (Kd.int .u64))))))))).K w x cs.toList) : ∃ A4 c4 A5 c5 A6 c6, cs = #[.int .i64 x.1, .int .i64 x.2.1, .int .i64 x.2.2.1, .int .i64 x.2.2.2.1, .slice A4 x.2.2.2.2.1.length c4, .slice A5 x.2.2.2.2.2.1.length c5, .slice A6 x.2.2.2.2.2.2.length c6] ∧ x.2.2.2.2.1.length ≤ c4 ∧ Kd.C (Kd.int .i64) w A4 x.2.2.2.2.1.length x.2.2.2.2.1 ∧ x.2.2.2.2.2.1.length ≤ c5 ∧ Kd.C (Kd.int .i64) w A5 x.2.2.2.2.2.1.length x.2.2.2.2.2.1 ∧ x.2.2.2.2.2.2.length ≤ c6 ∧ Kd.C (Kd.slice 48 (Kd.int .u64)) w A6 x.2.2.2.2.2.2.length x.2.2.2.2.2.2 := by
  obtain ⟨_, _, e, rfl, _, _, rfl, rfl, _, _, rfl, rfl, _, _, rfl, rfl, _, _, rfl, ⟨A4, c4, rfl, l4, r4⟩, _, _, rfl, ⟨A5, c5, rfl, l5, r5⟩, ⟨A6, c6, rfl, l6, r6⟩⟩ := h
  refine ⟨A4, c4, A5, c5, A6, c6, ?_, l4, r4, l5, r5, l6, r6⟩
  rw [← Array.toList_inj]
  exact e
def windbreaklaw12_WireApart.Pure : Prop := ∀ x0 x1 : Int × Int × Int × Int × List Int × List Int × List (List Int), (∀ a ∈ x0.2.2.2.2.2.2, a.length ≤ maxLen ∧ ∀ y ∈ a, (Lit.int .u64 y).wf = true) → (∀ a ∈ x1.2.2.2.2.2.2, a.length ≤ maxLen ∧ ∀ y ∈ a, (Lit.int .u64 y).wf = true) → ∃ k, windbreaklaw12_WireApart.f k x0.1 x0.2.1 x0.2.2.1 x0.2.2.2.1 x0.2.2.2.2.1 x0.2.2.2.2.2.1 x0.2.2.2.2.2.2 x1.1 x1.2.1 x1.2.2.1 x1.2.2.2.1 x1.2.2.2.2.1 x1.2.2.2.2.2.1 x1.2.2.2.2.2.2 = some true
theorem windbreaklaw12_WireApart.row (hp : windbreaklaw12_WireApart.Pure) (w : World) (cs0 : Array Value) (x0 : Int × Int × Int × Int × List Int × List Int × List (List Int)) (h0 : (Kd.pair (Kd.int .i64) (Kd.pair (Kd.int .i64) (Kd.pair (Kd.int .i64) (Kd.pair (Kd.int .i64) (Kd.pair (Kd.slice 3 (Kd.int .i64)) (Kd.pair (Kd.slice 3 (Kd.int .i64)) (Kd.slice 42 (Kd.slice 48 (Kd.int .u64))))))))).K w x0 cs0.toList) (o0 : (Lit.int .i64 x0.1).wf = true ∧ (Lit.int .i64 x0.2.1).wf = true ∧ (Lit.int .i64 x0.2.2.1).wf = true ∧ (Lit.int .i64 x0.2.2.2.1).wf = true ∧ (x0.2.2.2.2.1.length ≤ maxLen ∧ ∀ x ∈ x0.2.2.2.2.1, (Lit.int .i64 x).wf = true) ∧ (x0.2.2.2.2.2.1.length ≤ maxLen ∧ ∀ x ∈ x0.2.2.2.2.2.1, (Lit.int .i64 x).wf = true) ∧ (x0.2.2.2.2.2.2.length ≤ maxLen ∧ ∀ x ∈ x0.2.2.2.2.2.2, (x.length ≤ maxLen ∧ ∀ y ∈ x, (Lit.int .u64 y).wf = true))) (cs1 : Array Value) (x1 : Int × Int × Int × Int × List Int × List Int × List (List Int)) (h1 : (Kd.pair (Kd.int .i64) (Kd.pair (Kd.int .i64) (Kd.pair (Kd.int .i64) (Kd.pair (Kd.int .i64) (Kd.pair (Kd.slice 3 (Kd.int .i64)) (Kd.pair (Kd.slice 3 (Kd.int .i64)) (Kd.slice 42 (Kd.slice 48 (Kd.int .u64))))))))).K w x1 cs1.toList) (o1 : (Lit.int .i64 x1.1).wf = true ∧ (Lit.int .i64 x1.2.1).wf = true ∧ (Lit.int .i64 x1.2.2.1).wf = true ∧ (Lit.int .i64 x1.2.2.2.1).wf = true ∧ (x1.2.2.2.2.1.length ≤ maxLen ∧ ∀ x ∈ x1.2.2.2.2.1, (Lit.int .i64 x).wf = true) ∧ (x1.2.2.2.2.2.1.length ≤ maxLen ∧ ∀ x ∈ x1.2.2.2.2.2.1, (Lit.int .i64 x).wf = true) ∧ (x1.2.2.2.2.2.2.length ≤ maxLen ∧ ∀ x ∈ x1.2.2.2.2.2.2, (x.length ≤ maxLen ∧ ∀ y ∈ x, (Lit.int .u64 y).wf = true))) :
    Calls Try.prog 5 #[.agg cs0, .agg cs1] w fun e w' => e = .returned (.bool true) ∧ Below w.heap.size w w' := by
  obtain ⟨k, h⟩ := hp x0 x1 o0.2.2.2.2.2.2.2 o1.2.2.2.2.2.2.2
  obtain ⟨A04, c04, A05, c05, A06, c06, rfl, l04, r04, l05, r05, l06, r06⟩ := msg_parts h0
  obtain ⟨A14, c14, A15, c15, A16, c16, rfl, l14, r14, l15, r15, l16, r16⟩ := msg_parts h1
  exact windbreaklaw12_WireApart.calls k _ _ _ _ A04 c04 _ A05 c05 _ A06 c06 _ _ _ _ _ A14 c14 _ A15 c15 _ A16 c16 _ true w r04 l04 r05 l05 r06 l06 r14 l14 r15 l15 r16 l16 h
end Go.Proofs.Ytkgaejigpmkfkab.F
end
section
namespace Go.Proofs.Ytkgaejigpmkfkab.Z
open Go.RowKit Go.Proofs.YtkgaejigpmkfkabW.PrintWords
set_option linter.unusedSimpArgs false
set_option linter.unusedVariables false
def Evt {α : Type} (g : Nat → Option α) (r : α) : Prop := ∃ n, ∀ k, n ≤ k → g k = some r
theorem Evt.pure {α : Type} (r : α) : Evt (fun _ => some r) r := ⟨0, fun _ _ => rfl⟩
theorem Evt.bind {α β : Type} {g : Nat → Option α} {h : α → Nat → Option β} {a : α} {b : β} (h1 : Evt g a) (h2 : Evt (h a) b) : Evt (fun k => (g k).bind fun x => h x k) b := by
  obtain ⟨n, hn⟩ := h1
  obtain ⟨m, hm⟩ := h2
  exact ⟨n + m, fun k hk => by simp only [hn k (by omega), Option.bind_some]; exact hm k (by omega)⟩
theorem Evt.succ {α : Type} {g : Nat → Option α} {r : α} (h : Evt (fun k => g (k + 1)) r) : Evt g r := by
  obtain ⟨n, hn⟩ := h
  refine ⟨n + 1, fun k hk => ?_⟩
  obtain ⟨m, rfl⟩ : ∃ m, k = m + 1 := ⟨k - 1, by omega⟩
  exact hn m (by omega)
theorem Evt.get {α : Type} {g : Nat → Option α} {r : α} (h : Evt g r) : ∃ k, g k = some r := by
  obtain ⟨n, hn⟩ := h
  exact ⟨n, hn n (Nat.le_refl _)⟩
theorem Evt.congr {α : Type} {g g' : Nat → Option α} {r r' : α} (h : Evt g r) (hg : ∀ k, g' k = g k) (hr : r = r') : Evt g' r' := by
  subst hr
  obtain ⟨n, hn⟩ := h
  exact ⟨n, fun k hk => (hg k).trans (hn k hk)⟩
theorem Evt.ite_pos {α : Type} {c : Prop} [Decidable c] {g h : Nat → Option α} {r : α} (hc : c) (hg : Evt g r) : Evt (fun k => if c then g k else h k) r := by
  obtain ⟨n, hn⟩ := hg
  exact ⟨n, fun k hk => (if_pos hc).trans (hn k hk)⟩
theorem Evt.ite_neg {α : Type} {c : Prop} [Decidable c] {g h : Nat → Option α} {r : α} (hc : ¬ c) (hg : Evt h r) : Evt (fun k => if c then g k else h k) r := by
  obtain ⟨n, hn⟩ := hg
  exact ⟨n, fun k hk => (if_neg hc).trans (hn k hk)⟩
theorem w64 {x : Int} (h0 : -9223372036854775808 ≤ x) (h1 : x < 9223372036854775808) : wrap64 x = x := by unfold wrap64; omega
theorem wu64 (x : Int) : IntKind.u64.wrap x = x % 18446744073709551616 := by simp [IntKind.wrap, IntKind.bits, IntKind.signed]
theorem wu64_of {x : Int} (h0 : 0 ≤ x) (h1 : x < 18446744073709551616) : IntKind.u64.wrap x = x := by rw [wu64]; omega
theorem wf_u64 {x : Int} (h : (Lit.int .u64 x).wf = true) : 0 ≤ x ∧ x < 18446744073709551616 := by
  simp [Lit.wf, IntKind.min, IntKind.max, IntKind.bits, IntKind.signed] at h
  omega
theorem rd_getD (l : List Int) (i : Int) : rd l i = l.getD i.toNat 0 := rfl
theorem rd_nat (l : List Int) (i : Nat) : rd l (i : Int) = l.getD i 0 := rfl
def val (B : Int) : List Int → Int
  | [] => 0
  | d :: l => d + B * val B l
def Dig (B : Int) (l : List Int) : Prop := ∀ x, x ∈ l → 0 ≤ x ∧ x < B
def Can (l : List Int) : Prop := ∀ h : l ≠ [], l.getLast h ≠ 0
def strip : List Int → List Int
  | [] => []
  | d :: l => if strip l = [] then (if d = 0 then [] else [d]) else d :: strip l
theorem Dig.nil {B : Int} : Dig B [] := fun _ h => by simp at h
theorem Dig.cons {B d : Int} {l : List Int} : Dig B (d :: l) ↔ (0 ≤ d ∧ d < B) ∧ Dig B l := by
  unfold Dig
  simp
theorem Dig.append {B : Int} {l m : List Int} : Dig B (l ++ m) ↔ Dig B l ∧ Dig B m := by
  unfold Dig
  constructor
  · intro h
    exact ⟨fun x hx => h x (by simp [hx]), fun x hx => h x (by simp [hx])⟩
  · intro h x hx
    rcases List.mem_append.1 hx with hx | hx
    · exact h.1 x hx
    · exact h.2 x hx
theorem Dig.take {B : Int} {l : List Int} (h : Dig B l) (n : Nat) : Dig B (l.take n) := fun x hx => h x (List.mem_of_mem_take hx)
theorem Dig.drop {B : Int} {l : List Int} (h : Dig B l) (n : Nat) : Dig B (l.drop n) := fun x hx => h x (List.mem_of_mem_drop hx)
theorem Dig.getD {B : Int} {l : List Int} (h : Dig B l) (hB : 0 < B) (i : Nat) : 0 ≤ l.getD i 0 ∧ l.getD i 0 < B := by
  rw [List.getD_eq_getElem?_getD]
  cases he : l[i]? with
  | none => simp; omega
  | some x => simpa using h x (List.mem_of_getElem? he)
theorem val_nonneg {B : Int} (hB : 0 < B) {l : List Int} (h : Dig B l) : 0 ≤ val B l := by
  induction l with
  | nil => simp [val]
  | cons d l ih =>
    have h' := Dig.cons.1 h
    have h1 := ih h'.2
    have : 0 ≤ B * val B l := Int.mul_nonneg (by omega) h1
    simp only [val]
    omega
theorem val_lt {B : Int} (hB : 0 < B) {l : List Int} (h : Dig B l) : val B l < B ^ l.length := by
  induction l with
  | nil => simp [val]
  | cons d l ih =>
    have h' := Dig.cons.1 h
    have h1 := ih h'.2
    have h2 : B * val B l ≤ B * (B ^ l.length - 1) := Int.mul_le_mul_of_nonneg_left (by omega) (by omega)
    have h3 : B * (B ^ l.length - 1) = B * B ^ l.length - B := by grind
    simp only [val, List.length_cons, Int.pow_succ]
    have h4 : B ^ l.length * B = B * B ^ l.length := Int.mul_comm _ _
    omega
theorem Can.nil : Can [] := fun h => absurd rfl h
theorem Can.tail {d : Int} {l : List Int} (h : Can (d :: l)) : Can l := by
  intro hl
  have := h (by simp)
  rwa [List.getLast_cons hl] at this
theorem Can.one {d : Int} (h : d ≠ 0) : Can [d] := fun _ => by simpa using h
theorem Can.cons {d : Int} {l : List Int} (h : Can l) (hl : l ≠ []) : Can (d :: l) := by
  intro _
  rw [List.getLast_cons hl]
  exact h hl
theorem val_pos {B : Int} (hB : 0 < B) {l : List Int} (h : Dig B l) (hc : Can l) (hl : l ≠ []) : B ^ (l.length - 1) ≤ val B l := by
  induction l with
  | nil => exact absurd rfl hl
  | cons d l ih =>
    have h' := Dig.cons.1 h
    by_cases e : l = []
    · subst e
      have := hc (by simp)
      simp [val] at this ⊢
      omega
    · have h1 := ih h'.2 hc.tail e
      have h2 : l.length - 1 + 1 = l.length := by have := List.length_pos_iff.2 e; omega
      simp only [val, List.length_cons, Nat.add_sub_cancel]
      rw [← h2, Int.pow_succ, Int.mul_comm]
      have : B * B ^ (l.length - 1) ≤ B * val B l := Int.mul_le_mul_of_nonneg_left h1 (by omega)
      omega
theorem val_zero {B : Int} (hB : 0 < B) {l : List Int} (h : Dig B l) (hc : Can l) (h0 : val B l = 0) : l = [] := by
  by_cases e : l = []
  · exact e
  · have := val_pos hB h hc e
    have h2 : 0 < B ^ (l.length - 1) := Int.pow_pos hB
    omega
theorem val_inj {B : Int} (hB : 0 < B) {l m : List Int} (hl : Dig B l) (hm : Dig B m) (cl : Can l) (cm : Can m) (h : val B l = val B m) : l = m := by
  induction l generalizing m with
  | nil => exact (val_zero hB hm cm h.symm).symm
  | cons d l ih =>
    cases m with
    | nil => exact val_zero hB hl cl h
    | cons e m =>
      have h1 := Dig.cons.1 hl
      have h2 := Dig.cons.1 hm
      simp only [val] at h
      have h3 : d = e := by
        have a1 : (d + B * val B l) % B = d := by rw [Int.add_mul_emod_self_left]; exact Int.emod_eq_of_lt h1.1.1 h1.1.2
        have a2 : (e + B * val B m) % B = e := by rw [Int.add_mul_emod_self_left]; exact Int.emod_eq_of_lt h2.1.1 h2.1.2
        rw [← a1, ← a2, h]
      subst h3
      have h4 : val B l = val B m := by
        have : B * val B l = B * val B m := by omega
        exact Int.eq_of_mul_eq_mul_left (by omega) this
      rw [ih h1.2 h2.2 cl.tail cm.tail h4]
theorem strip_val (B : Int) (l : List Int) : val B (strip l) = val B l := by
  induction l with
  | nil => rfl
  | cons d l ih =>
    simp only [strip]
    split
    · rename_i h
      rw [h] at ih
      simp only [val] at ih
      split
      · rename_i h0; simp [val, ← ih, h0]
      · simp [val, ← ih]
    · simp [val, ih]
theorem strip_can (l : List Int) : Can (strip l) := by
  induction l with
  | nil => exact Can.nil
  | cons d l ih =>
    simp only [strip]
    split
    · split
      · exact Can.nil
      · rename_i h; exact Can.one h
    · rename_i h; exact ih.cons h
theorem strip_dig {B : Int} {l : List Int} (h : Dig B l) : Dig B (strip l) := by
  induction l with
  | nil => exact Dig.nil
  | cons d l ih =>
    have h' := Dig.cons.1 h
    simp only [strip]
    split
    · split
      · exact Dig.nil
      · exact Dig.cons.2 ⟨h'.1, Dig.nil⟩
    · exact Dig.cons.2 ⟨h'.1, ih h'.2⟩
theorem strip_of_can {l : List Int} (h : Can l) : strip l = l := by
  induction l with
  | nil => rfl
  | cons d l ih =>
    simp only [strip]
    rw [ih h.tail]
    split
    · rename_i e
      subst e
      have := h (by simp)
      simp at this
      simp [this]
    · rfl
def rightB (l : List Int) : Bool := decide (l.length ≤ 64) && ((l.length == 0) || (l.getD (l.length - 1) 0 != 0))
theorem can_iff (l : List Int) : Can l ↔ ((l.length == 0) || (l.getD (l.length - 1) 0 != 0)) = true := by
  cases l with
  | nil => simp [Can]
  | cons d l =>
    have h : (d :: l).getLast (by simp) = (d :: l).getD ((d :: l).length - 1) 0 := by
      rw [List.getLast_eq_getElem]
      simp
    unfold Can
    simp only [List.length_cons, Nat.add_one_ne_zero, beq_iff_eq, Bool.or_eq_true, bne_iff_ne, false_or]
    constructor
    · intro hc
      have := hc (by simp)
      rw [h] at this
      exact this
    · intro hc _
      rw [h]
      exact hc
theorem rightB_iff (l : List Int) : rightB l = true ↔ l.length ≤ 64 ∧ Can l := by
  unfold rightB
  rw [Bool.and_eq_true, decide_eq_true_iff, ← can_iff]
def encN (n : Nat) : List Int := if n < 128 then [(n : Int)] else ((n % 128 + 128 : Nat) : Int) :: encN (n / 128)
termination_by n
decreasing_by omega
theorem encN_small {n : Nat} (h : n < 128) : encN n = [(n : Int)] := by rw [encN, if_pos h]
theorem encN_big {n : Nat} (h : ¬ n < 128) : encN n = ((n % 128 + 128 : Nat) : Int) :: encN (n / 128) := by rw [encN, if_neg h]
theorem encN_pos (n : Nat) : 0 < (encN n).length := by
  by_cases h : n < 128
  · rw [encN_small h]; simp
  · rw [encN_big h]; simp
theorem encN_dig (n : Nat) : Dig 256 (encN n) := by
  induction n using Nat.strongRecOn with
  | ind n ih =>
    by_cases h : n < 128
    · rw [encN_small h]
      exact Dig.cons.2 ⟨by omega, Dig.nil⟩
    · rw [encN_big h]
      exact Dig.cons.2 ⟨by omega, ih _ (by omega)⟩
theorem encN_len (n : Nat) (d : Nat) (h : n < 128 ^ (d + 1)) : (encN n).length ≤ d + 1 := by
  induction d generalizing n with
  | zero => rw [encN_small (by simpa using h)]; simp
  | succ d ih =>
    by_cases h1 : n < 128
    · rw [encN_small h1]; simp
    · rw [encN_big h1]
      have := ih (n / 128) (by rw [Nat.div_lt_iff_lt_mul (by omega)]; rw [Nat.pow_succ] at h; exact h)
      simp
      omega
def nxt : Nat → List Int → Option (Nat × Nat)
  | _, [] => none
  | j, c :: l => if j = 9 ∧ (1 < c % 128 ∨ 128 ≤ c) then none else if c < 128 then (if c = 0 ∧ 0 < j then none else some (c.toNat, 1)) else (nxt (j + 1) l).bind fun r => some ((c % 128).toNat + 128 * r.1, r.2 + 1)
theorem nxt_encN (n : Nat) : ∀ (j : Nat) (x : List Int), n < 2 ^ (64 - 7 * j) → (0 < j → 0 < n) → j ≤ 9 → nxt j (encN n ++ x) = some (n, (encN n).length) := by
  induction n using Nat.strongRecOn with
  | ind n ih =>
    intro j x hn h0 hj
    by_cases h : n < 128
    · rw [encN_small h]
      simp only [List.cons_append, List.nil_append, nxt]
      rw [if_neg, if_pos (by omega), if_neg (by omega)]
      · simp
      · rintro ⟨rfl, h1⟩
        have : n < 2 ^ 1 := hn
        omega
    · rw [encN_big h]
      simp only [List.cons_append, nxt]
      have h9 : j ≠ 9 := by
        rintro rfl
        have : n < 2 ^ 1 := hn
        omega
      rw [if_neg (by omega), if_neg (by omega), ih (n / 128) (by omega) (j + 1) x ?_ (by omega) (by omega)]
      · simp
        omega
      · rw [Nat.div_lt_iff_lt_mul (by omega), show 128 = 2 ^ 7 from rfl, ← Nat.pow_add]
        refine Nat.lt_of_lt_of_le hn (Nat.pow_le_pow_right (by omega) (by omega))
theorem encN_inj {a b : Nat} {x y : List Int} (ha : a < 2 ^ 64) (hb : b < 2 ^ 64) (h : encN a ++ x = encN b ++ y) : a = b ∧ x = y := by
  have h1 := nxt_encN a 0 x ha (by omega) (by omega)
  have h2 := nxt_encN b 0 y hb (by omega) (by omega)
  rw [h, h2] at h1
  simp only [Option.some.injEq, Prod.mk.injEq] at h1
  obtain ⟨rfl, _⟩ := h1
  exact ⟨rfl, List.append_cancel_left h⟩
def encL (l : List Int) : List Int := l.flatMap fun x => encN x.toNat
theorem encL_nil : encL [] = [] := rfl
theorem encL_cons (x : Int) (l : List Int) : encL (x :: l) = encN x.toNat ++ encL l := by simp [encL]
theorem encL_inj : ∀ {l m : List Int} {x y : List Int}, (∀ a ∈ l, 0 ≤ a ∧ a < 2 ^ 64) → (∀ a ∈ m, 0 ≤ a ∧ a < 2 ^ 64) → l.length = m.length → encL l ++ x = encL m ++ y → l = m ∧ x = y := by
  intro l
  induction l with
  | nil =>
    intro m x y _ _ hlm h
    have : m = [] := List.eq_nil_of_length_eq_zero (by simpa using hlm.symm)
    subst this
    exact ⟨rfl, h⟩
  | cons a l ih =>
    intro m x y hl hm hlm h
    cases m with
    | nil => simp at hlm
    | cons b m =>
      rw [encL_cons, encL_cons, List.append_assoc, List.append_assoc] at h
      have ha := hl a (by simp)
      have hb := hm b (by simp)
      obtain ⟨e, h⟩ := encN_inj (by omega) (by omega) h
      obtain ⟨rfl, rfl⟩ := ih (fun z hz => hl z (by simp [hz])) (fun z hz => hm z (by simp [hz])) (by simpa using hlm) h
      exact ⟨by rw [show a = b from by omega], rfl⟩
def toD (B : Nat) (v : Nat) : List Int := if h : 2 ≤ B ∧ 0 < v then ((v % B : Nat) : Int) :: toD B (v / B) else []
termination_by v
decreasing_by exact Nat.div_lt_self h.2 (by omega)
theorem toD_zero (B : Nat) : toD B 0 = [] := by rw [toD]; simp
theorem toD_pos {B v : Nat} (hB : 2 ≤ B) (hv : 0 < v) : toD B v = ((v % B : Nat) : Int) :: toD B (v / B) := by rw [toD]; simp [hB, hv]
theorem toD_dig {B : Nat} (hB : 2 ≤ B) (v : Nat) : Dig (B : Int) (toD B v) := by
  induction v using Nat.strongRecOn with
  | _ v ih =>
    by_cases hv : v = 0
    · subst hv; rw [toD_zero]; exact Dig.nil
    · rw [toD_pos hB (by omega)]
      have := Nat.mod_lt v (show B > 0 by omega)
      exact Dig.cons.2 ⟨by omega, ih _ (Nat.div_lt_self (by omega) (by omega))⟩
theorem toD_eq_nil {B v : Nat} (hB : 2 ≤ B) : toD B v = [] ↔ v = 0 := by
  constructor
  · intro h
    by_cases hv : v = 0
    · exact hv
    · rw [toD_pos hB (by omega)] at h; cases h
  · rintro rfl; exact toD_zero B
theorem toD_can {B : Nat} (hB : 2 ≤ B) (v : Nat) : Can (toD B v) := by
  induction v using Nat.strongRecOn with
  | _ v ih =>
    by_cases hv : v = 0
    · subst hv; rw [toD_zero]; exact Can.nil
    · rw [toD_pos hB (by omega)]
      by_cases hq : v / B = 0
      · rw [hq, toD_zero]
        have hlt : v < B := (Nat.div_eq_zero_iff_lt (by omega)).1 hq
        rw [Nat.mod_eq_of_lt hlt]
        exact Can.one (by omega)
      · exact (ih _ (Nat.div_lt_self (by omega) (by omega))).cons (fun e => hq ((toD_eq_nil hB).1 e))
theorem val_toD {B : Nat} (hB : 2 ≤ B) (v : Nat) : val (B : Int) (toD B v) = (v : Int) := by
  induction v using Nat.strongRecOn with
  | _ v ih =>
    by_cases hv : v = 0
    · subst hv; rw [toD_zero]; rfl
    · rw [toD_pos hB (by omega)]
      simp only [val]
      rw [ih _ (Nat.div_lt_self (by omega) (by omega))]
      have h2 := Nat.mod_add_div v B
      have h3 : ((v % B + B * (v / B) : Nat) : Int) = (v : Int) := by rw [h2]
      simpa using h3
theorem strip_toD {B : Nat} (hB : 2 ≤ B) {l : List Int} (h : Dig (B : Int) l) : strip l = toD B (val (B : Int) l).toNat := by
  have h0 : (0 : Int) < (B : Int) := by omega
  refine val_inj h0 (strip_dig h) (toD_dig hB _) (strip_can l) (toD_can hB _) ?_
  rw [strip_val, val_toD hB]
  have := val_nonneg h0 h
  omega
theorem can_toD {B : Nat} (hB : 2 ≤ B) {l : List Int} (h : Dig (B : Int) l) (hc : Can l) : l = toD B (val (B : Int) l).toNat := by
  rw [← strip_toD hB h, strip_of_can hc]
theorem pow_cast (B n : Nat) : ((B : Int)) ^ n = ((B ^ n : Nat) : Int) := by simp
theorem toD_len_le {B : Nat} (hB : 2 ≤ B) {v n : Nat} (h : v < B ^ n) : (toD B v).length ≤ n := by
  by_cases hv : v = 0
  · subst hv; rw [toD_zero]; simp
  · have h1 := val_pos (show (0 : Int) < (B : Int) by omega) (toD_dig hB v) (toD_can hB v) (fun e => hv ((toD_eq_nil hB).1 e))
    rw [val_toD hB, pow_cast] at h1
    have h2 : B ^ ((toD B v).length - 1) ≤ v := by omega
    have h3 : B ^ ((toD B v).length - 1) < B ^ n := by omega
    have h4 := (Nat.pow_lt_pow_iff_right (show 1 < B by omega)).1 h3
    omega
theorem toD_lt_pow {B : Nat} (hB : 2 ≤ B) (v : Nat) : v < B ^ (toD B v).length := by
  have h1 := val_lt (show (0 : Int) < (B : Int) by omega) (toD_dig hB v)
  rw [val_toD hB, pow_cast] at h1
  omega
theorem toD_len_iff {B : Nat} (hB : 2 ≤ B) (v n : Nat) : (toD B v).length ≤ n ↔ v < B ^ n :=
  ⟨fun h => Nat.lt_of_lt_of_le (toD_lt_pow hB v) (Nat.pow_le_pow_right (by omega) h), toD_len_le hB⟩
def b64 : Nat := 18446744073709551616
theorem b64_two : 2 ≤ b64 := by decide
def num (l : List Int) : Nat := (val (b64 : Int) l).toNat
abbrev limbs (v : Nat) : List Int := toD b64 v
theorem b64_pos : (0 : Int) < (b64 : Int) := by decide
theorem num_val {l : List Int} (h : Dig (b64 : Int) l) : (num l : Int) = val (b64 : Int) l := by
  have := val_nonneg b64_pos h
  unfold num; omega
theorem limbs_num {l : List Int} (h : Dig (b64 : Int) l) (hc : Can l) : limbs (num l) = l := (can_toD b64_two h hc).symm
theorem dig_of_wf {l : List Int} (h : ∀ x ∈ l, (Lit.int .u64 x).wf = true) : Dig (b64 : Int) l := fun x hx => wf_u64 (h x hx)
theorem num_lt {l : List Int} (h : Dig (b64 : Int) l) : num l < b64 ^ l.length := by
  have h1 := val_lt b64_pos h
  rw [← num_val h, pow_cast] at h1
  omega
theorem b64_pow2 (m : Nat) : b64 ^ m = 2 ^ (64 * m) := by
  have h : b64 = 2 ^ 64 := by decide
  rw [h, ← Nat.pow_mul]
def bl (n : Nat) : Nat := if n = 0 then 0 else n.log2 + 1
theorem bl_lt (n : Nat) : n < 2 ^ bl n := by
  unfold bl
  by_cases h : n = 0
  · subst h; decide
  · rw [if_neg h]; exact Nat.lt_log2_self
theorem bl_ge {n : Nat} (h : n ≠ 0) : 2 ^ (bl n - 1) ≤ n := by
  unfold bl
  rw [if_neg h, Nat.add_sub_cancel]
  exact Nat.log2_self_le h
theorem bl_pos {n : Nat} (h : n ≠ 0) : 0 < bl n := by unfold bl; rw [if_neg h]; omega
theorem bl_unique {n m : Nat} (h1 : n < 2 ^ m) (h2 : m = 0 ∨ 2 ^ (m - 1) ≤ n) : bl n = m := by
  by_cases h : n = 0
  · subst h
    rcases h2 with h2 | h2
    · rw [h2]; rfl
    · have := Nat.pow_pos (a := 2) (n := m - 1) (by decide)
      omega
  · have a1 := bl_lt n
    have a2 := bl_ge h
    have a3 := bl_pos h
    have hm : 0 < m := by
      by_cases e : m = 0
      · subst e; simp at h1; omega
      · omega
    have b1 : bl n - 1 < m := (Nat.pow_lt_pow_iff_right (a := 2) (by decide)).1 (by omega)
    have b2 : m - 1 < bl n := by
      rcases h2 with h2 | h2
      · omega
      · exact (Nat.pow_lt_pow_iff_right (a := 2) (by decide)).1 (by omega)
    omega
theorem bl_shift (n s : Nat) (h : n / 2 ^ s ≠ 0) : bl n = s + bl (n / 2 ^ s) := by
  have a1 := bl_lt (n / 2 ^ s)
  have a2 := bl_ge h
  have a3 := bl_pos h
  have hp : 0 < 2 ^ s := Nat.pow_pos (by decide)
  refine bl_unique ?_ (Or.inr ?_)
  · rw [Nat.pow_add]
    have := Nat.lt_mul_of_div_lt a1 hp
    rw [Nat.mul_comm]
    exact this
  · rw [show s + bl (n / 2 ^ s) - 1 = s + (bl (n / 2 ^ s) - 1) from by omega, Nat.pow_add]
    have := Nat.mul_le_mul_left (2 ^ s) a2
    exact Nat.le_trans this (Nat.mul_div_le n (2 ^ s))
theorem bl_le {x m : Nat} (h : x < 2 ^ m) : bl x ≤ m := by
  by_cases hx : x = 0
  · subst hx; exact Nat.zero_le _
  · have a2 := bl_ge hx
    have a3 := bl_pos hx
    have : bl x - 1 < m := (Nat.pow_lt_pow_iff_right (a := 2) (by decide)).1 (by omega)
    omega
theorem bl_le8 {x : Nat} (h : x < 256) : bl x ≤ 8 := bl_le h
def bitsV (a : List Int) : Int := if rightB a = true ∧ a.length ≠ 0 then 64 * ((a.length : Int) - 1) + ((bl (a.getD (a.length - 1) 0).toNat : Nat) : Int) else 0
end Go.Proofs.Ytkgaejigpmkfkab.Z
end
section
namespace Go.Proofs.Ytkgaejigpmkfkab.Z
open Go.RowKit Go.Proofs.Ytkgaejigpmkfkab.F Go.Proofs.YtkgaejigpmkfkabW.PrintWords
set_option linter.unusedSimpArgs false
set_option linter.unusedVariables false
theorem nat_Right_eq {l : List Int} (h : l.length ≤ maxLen) : nat_Right.f l = some (rightB l) := by
  unfold maxLen at h
  unfold nat_Right.f rightB
  by_cases h1 : l.length ≤ 64
  · rw [if_pos (by omega)]
    by_cases h2 : l.length = 0
    · rw [if_pos (by omega)]
      simp [h1, h2]
    · rw [if_neg (by omega), w64 (by omega) (by omega), if_pos (by omega), if_pos (by omega), rd_getD]
      rw [show ((l.length : Int) - 1).toNat = l.length - 1 from by omega]
      have h3 : (l.length == 0) = false := by simpa using h2
      rw [h3]
      simp [h1]
  · rw [if_neg (by omega)]
    simp [h1]
theorem same_loop (l m : List Int) (h : l.length ≤ maxLen) (hlm : l.length = m.length) (d : Nat) : ∀ i : Nat, i ≤ l.length → l.length - i = d → Evt (fun k => windbreakref01_Same.l0 k l m (i : Int)) (decide (l.drop i = m.drop i)) := by
  unfold maxLen at h
  induction d with
  | zero =>
    intro i hi hd
    refine Evt.succ ?_
    simp only [windbreakref01_Same.l0]
    refine Evt.ite_neg (by omega) ?_
    rw [List.drop_of_length_le (by omega), List.drop_of_length_le (by omega)]
    exact Evt.pure _
  | succ d ih =>
    intro i hi hd
    have hl : i < l.length := by omega
    have hm : i < m.length := by omega
    refine Evt.succ ?_
    simp only [windbreakref01_Same.l0]
    refine Evt.ite_pos (by omega) (Evt.ite_pos (by omega) (Evt.ite_pos (by omega) ?_))
    have e1 : rd l (i : Int) = l[i] := by simp [rd_nat, hl]
    have e2 : rd m (i : Int) = m[i] := by simp [rd_nat, hm]
    rw [e1, e2, w64 (by omega) (by omega), List.drop_eq_getElem_cons hl, List.drop_eq_getElem_cons hm]
    by_cases he : l[i] = m[i]
    · refine Evt.ite_pos he ?_
      refine (ih (i + 1) (by omega) (by omega)).congr (fun k => rfl) ?_
      rw [he]
      simp only [List.cons.injEq, true_and]
    · refine Evt.ite_neg he ?_
      have : decide (l[i] :: l.drop (i + 1) = m[i] :: m.drop (i + 1)) = false := by
        simp only [List.cons.injEq, decide_eq_false_iff_not]
        exact fun hh => he hh.1
      rw [this]
      exact Evt.pure _
theorem same_ev (l m : List Int) (h : l.length ≤ maxLen) : Evt (fun k => windbreakref01_Same.f k l m) (decide (l = m)) := by
  unfold windbreakref01_Same.f
  by_cases hlm : l.length = m.length
  · refine Evt.ite_pos (by omega) ?_
    exact (same_loop l m h hlm l.length 0 (Nat.zero_le _) (by omega)).congr (fun k => rfl) (by simp)
  · refine Evt.ite_neg (by omega) ?_
    have : decide (l = m) = false := by
      simp only [decide_eq_false_iff_not]
      intro e
      exact hlm (by rw [e])
    rw [this]
    exact Evt.pure _
end Go.Proofs.Ytkgaejigpmkfkab.Z
end
section
namespace Go.Proofs.Ytkgaejigpmkfkab.Z
open Go.RowKit Go.Proofs.Ytkgaejigpmkfkab.F Go.Proofs.YtkgaejigpmkfkabW.PrintWords Go.Proofs.YtkgaejigpmkfkabW.PrintMore
set_option linter.unusedSimpArgs false
set_option linter.unusedVariables false
theorem shl_u64 (x : Int) (s : Nat) (hs : s ≤ 64) : shl .u64 x (s : Int) = (x * 2 ^ s) % 18446744073709551616 := by
  unfold shl
  rw [wu64]
  simp only [IntKind.bits, Int.toNat_natCast]
  rw [show min s 64 = s from by omega]
theorem shr_u64 (x : Int) (s : Nat) (hs : s ≤ 64) : shr .u64 x (s : Int) = x / 2 ^ s := by
  unfold shr
  simp only [IntKind.bits, Int.toNat_natCast]
  rw [show min s 64 = s from by omega]
end Go.Proofs.Ytkgaejigpmkfkab.Z
end
section
namespace Go.Proofs.Ytkgaejigpmkfkab.Z
open Go.RowKit Go.Proofs.Ytkgaejigpmkfkab.F Go.Proofs.YtkgaejigpmkfkabW.PrintWords
set_option linter.unusedSimpArgs false
set_option linter.unusedVariables false
theorem len8 : ∀ n : Fin 256, bt (⟨#[0, 1, 2, 2, 3, 3, 3, 3, 4, 4, 4, 4, 4, 4, 4, 4, 5, 5, 5, 5, 5, 5, 5, 5, 5, 5, 5, 5, 5, 5, 5, 5, 6, 6, 6, 6, 6, 6, 6, 6, 6, 6, 6, 6, 6, 6, 6, 6, 6, 6, 6, 6, 6, 6, 6, 6, 6, 6, 6, 6, 6, 6, 6, 6, 7, 7, 7, 7, 7, 7, 7, 7, 7, 7, 7, 7, 7, 7, 7, 7, 7, 7, 7, 7, 7, 7, 7, 7, 7, 7, 7, 7, 7, 7, 7, 7, 7, 7, 7, 7, 7, 7, 7, 7, 7, 7, 7, 7, 7, 7, 7, 7, 7, 7, 7, 7, 7, 7, 7, 7, 7, 7, 7, 7, 7, 7, 7, 7, 8, 8, 8, 8, 8, 8, 8, 8, 8, 8, 8, 8, 8, 8, 8, 8, 8, 8, 8, 8, 8, 8, 8, 8, 8, 8, 8, 8, 8, 8, 8, 8, 8, 8, 8, 8, 8, 8, 8, 8, 8, 8, 8, 8, 8, 8, 8, 8, 8, 8, 8, 8, 8, 8, 8, 8, 8, 8, 8, 8, 8, 8, 8, 8, 8, 8, 8, 8, 8, 8, 8, 8, 8, 8, 8, 8, 8, 8, 8, 8, 8, 8, 8, 8, 8, 8, 8, 8, 8, 8, 8, 8, 8, 8, 8, 8, 8, 8, 8, 8, 8, 8, 8, 8, 8, 8, 8, 8, 8, 8, 8, 8, 8, 8, 8, 8, 8, 8, 8, 8, 8, 8, 8, 8, 8, 8, 8, 8]⟩ : ByteArray) ((n.val : Nat) : Int) = ((bl n.val : Nat) : Int) := by decide +kernel
theorem len8_at {x : Int} (h0 : 0 ≤ x) (h1 : x < 256) : bt (⟨#[0, 1, 2, 2, 3, 3, 3, 3, 4, 4, 4, 4, 4, 4, 4, 4, 5, 5, 5, 5, 5, 5, 5, 5, 5, 5, 5, 5, 5, 5, 5, 5, 6, 6, 6, 6, 6, 6, 6, 6, 6, 6, 6, 6, 6, 6, 6, 6, 6, 6, 6, 6, 6, 6, 6, 6, 6, 6, 6, 6, 6, 6, 6, 6, 7, 7, 7, 7, 7, 7, 7, 7, 7, 7, 7, 7, 7, 7, 7, 7, 7, 7, 7, 7, 7, 7, 7, 7, 7, 7, 7, 7, 7, 7, 7, 7, 7, 7, 7, 7, 7, 7, 7, 7, 7, 7, 7, 7, 7, 7, 7, 7, 7, 7, 7, 7, 7, 7, 7, 7, 7, 7, 7, 7, 7, 7, 7, 7, 8, 8, 8, 8, 8, 8, 8, 8, 8, 8, 8, 8, 8, 8, 8, 8, 8, 8, 8, 8, 8, 8, 8, 8, 8, 8, 8, 8, 8, 8, 8, 8, 8, 8, 8, 8, 8, 8, 8, 8, 8, 8, 8, 8, 8, 8, 8, 8, 8, 8, 8, 8, 8, 8, 8, 8, 8, 8, 8, 8, 8, 8, 8, 8, 8, 8, 8, 8, 8, 8, 8, 8, 8, 8, 8, 8, 8, 8, 8, 8, 8, 8, 8, 8, 8, 8, 8, 8, 8, 8, 8, 8, 8, 8, 8, 8, 8, 8, 8, 8, 8, 8, 8, 8, 8, 8, 8, 8, 8, 8, 8, 8, 8, 8, 8, 8, 8, 8, 8, 8, 8, 8, 8, 8, 8, 8, 8, 8]⟩ : ByteArray) x = ((bl x.toNat : Nat) : Int) := by
  obtain ⟨n, rfl⟩ := Int.eq_ofNat_of_zero_le h0
  exact len8 ⟨n, by omega⟩
set_option maxRecDepth 100000 in
theorem len64_j {x : Int} (h0 : 0 ≤ x) (h1 : x < 4294967296) (c : Int) (hc : 0 ≤ c ∧ c ≤ 1000) : Evt (fun k => bits_Len64.j0 k x c) (c + ((bl x.toNat : Nat) : Int)) := by
  have key : ∀ (s : Nat) (y : Int), 0 ≤ y → y < 256 → (s ≤ 24) → (y = 0 → s = 0) → y = x / 2 ^ s → ((bl x.toNat : Nat) : Int) = (s : Int) + ((bl y.toNat : Nat) : Int) := by
    intro s y hy0 hy1 hs hz he
    have : bl x.toNat = s + bl y.toNat := by
      by_cases h : y = 0
      · have hs0 := hz h
        subst hs0
        simp at he
        rw [he, Nat.zero_add]
      · have e : y.toNat = x.toNat / 2 ^ s := by
          rw [he]
          have h2 : x = ((x.toNat : Nat) : Int) := by omega
          rw [h2]
          have h3 : ((2 : Int) ^ s) = ((2 ^ s : Nat) : Int) := by simp
          rw [h3, ← Int.natCast_ediv, Int.toNat_natCast, Int.toNat_natCast]
        rw [e]
        exact bl_shift x.toNat s (by rw [← e]; omega)
    omega
  refine Evt.succ ?_
  simp only [bits_Len64.j0]
  by_cases c1 : x ≥ 65536
  · refine Evt.ite_pos c1 ?_
    by_cases c2 : x / 65536 ≥ 256
    · refine Evt.ite_pos c2 (Evt.ite_pos (by omega) (Evt.ite_pos (by omega) ?_))
      have e : x / 65536 / 256 % 256 = x / 65536 / 256 := by omega
      rw [e, len8_at (by omega) (by omega)]
      have k1 := key 24 (x / 65536 / 256) (by omega) (by omega) (by omega) (by omega) (by rw [Int.ediv_ediv_of_nonneg (by omega)]; rfl)
      have k2 := bl_le8 (x := (x / 65536 / 256).toNat) (by omega)
      rw [w64 (show -9223372036854775808 ≤ c + 16 by omega) (by omega), w64 (show -9223372036854775808 ≤ c + 16 + 8 by omega) (by omega), w64 (show -9223372036854775808 ≤ ((bl (x / 65536 / 256).toNat : Nat) : Int) by omega) (by omega), w64 (by omega) (by omega), k1]
      refine (Evt.pure _).congr (fun k => rfl) (by omega)
    · refine Evt.ite_neg c2 (Evt.ite_pos (by omega) (Evt.ite_pos (by omega) ?_))
      have e : x / 65536 % 256 = x / 65536 := by omega
      rw [e, len8_at (by omega) (by omega)]
      have k1 := key 16 (x / 65536) (by omega) (by omega) (by omega) (by omega) rfl
      have k2 := bl_le8 (x := (x / 65536).toNat) (by omega)
      rw [w64 (show -9223372036854775808 ≤ c + 16 by omega) (by omega), w64 (show -9223372036854775808 ≤ ((bl (x / 65536).toNat : Nat) : Int) by omega) (by omega), w64 (by omega) (by omega), k1]
      refine (Evt.pure _).congr (fun k => rfl) (by omega)
  · refine Evt.ite_neg c1 ?_
    by_cases c2 : x ≥ 256
    · refine Evt.ite_pos c2 (Evt.ite_pos (by omega) (Evt.ite_pos (by omega) ?_))
      have e : x / 256 % 256 = x / 256 := by omega
      rw [e, len8_at (by omega) (by omega)]
      have k1 := key 8 (x / 256) (by omega) (by omega) (by omega) (by omega) rfl
      have k2 := bl_le8 (x := (x / 256).toNat) (by omega)
      rw [w64 (show -9223372036854775808 ≤ c + 8 by omega) (by omega), w64 (show -9223372036854775808 ≤ ((bl (x / 256).toNat : Nat) : Int) by omega) (by omega), w64 (by omega) (by omega), k1]
      refine (Evt.pure _).congr (fun k => rfl) (by omega)
    · refine Evt.ite_neg c2 (Evt.ite_pos (by omega) (Evt.ite_pos (by omega) ?_))
      have e : x % 256 = x := by omega
      rw [e, len8_at (by omega) (by omega)]
      have k2 := bl_le8 (x := x.toNat) (by omega)
      rw [w64 (show -9223372036854775808 ≤ ((bl x.toNat : Nat) : Int) by omega) (by omega), w64 (by omega) (by omega)]
      exact Evt.pure _
theorem bits_Len64_ev {x : Int} (h0 : 0 ≤ x) (h1 : x < 18446744073709551616) : Evt (fun k => bits_Len64.f k x) ((bl x.toNat : Nat) : Int) := by
  unfold bits_Len64.f
  by_cases c1 : x ≥ 4294967296
  · refine Evt.ite_pos c1 ?_
    refine (len64_j (x := x / 4294967296) (by omega) (by omega) 32 (by omega)).congr (fun k => rfl) ?_
    have e : (x / 4294967296).toNat = x.toNat / 2 ^ 32 := by omega
    have := bl_shift x.toNat 32 (by omega)
    rw [e]
    omega
  · refine Evt.ite_neg c1 ?_
    exact (len64_j (x := x) (by omega) (by omega) 0 (by omega)).congr (fun k => rfl) (by omega)
theorem nat_Bits_ev (a : List Int) (ha : a.length ≤ maxLen) (da : Dig (b64 : Int) a) : Evt (fun k => nat_Bits.f k a) (bitsV a) := by
  unfold nat_Bits.f bitsV
  rw [nat_Right_eq ha]
  simp only [Option.bind_some]
  cases hA : rightB a with
  | true =>
    obtain ⟨h1, c1⟩ := (rightB_iff a).1 hA
    refine Evt.ite_pos rfl ?_
    by_cases h0 : a.length = 0
    · rw [if_neg (fun h => h.2 h0)]
      exact Evt.ite_pos (by omega) (Evt.pure _)
    · rw [if_pos (show true = true ∧ a.length ≠ 0 from ⟨rfl, h0⟩)]
      rw [w64 (show -9223372036854775808 ≤ (a.length : Int) - 1 by omega) (by omega)]
      refine Evt.ite_neg (by omega) (Evt.ite_pos (by omega) (Evt.ite_pos (by omega) ?_))
      rw [rd_getD, show ((a.length : Int) - 1).toNat = a.length - 1 from by omega]
      have hr := da.getD b64_pos (a.length - 1)
      simp only [b64] at hr
      refine Evt.bind (bits_Len64_ev hr.1 hr.2) ?_
      have hb := bl_le (x := (a.getD (a.length - 1) 0).toNat) (m := 64) (by omega)
      rw [w64 (show -9223372036854775808 ≤ 64 * ((a.length : Int) - 1) by omega) (by omega), w64 (by omega) (by omega)]
      exact Evt.pure _
  | false =>
    rw [if_neg (by simp)]
    exact Evt.ite_neg (by simp) (Evt.pure _)
end Go.Proofs.Ytkgaejigpmkfkab.Z
end
section
namespace Go.Proofs.Ytkgaejigpmkfkab.Z
open Go.RowKit Go.Proofs.YtkgaejigpmkfkabW.PrintWords
set_option linter.unusedSimpArgs false
set_option linter.unusedVariables false
def b8 : Nat := 256
theorem b8_two : 2 ≤ b8 := by decide
abbrev byts (v : Nat) : List Int := toD b8 v
theorem b8_pow2 (m : Nat) : b8 ^ m = 2 ^ (8 * m) := by
  have h : b8 = 2 ^ 8 := by decide
  rw [h, ← Nat.pow_mul]
theorem toD_getD {B : Nat} (hB : 2 ≤ B) (i : Nat) : ∀ v : Nat, (toD B v).getD i 0 = ((v / B ^ i % B : Nat) : Int) := by
  induction i with
  | zero =>
    intro v
    by_cases hv : v = 0
    · subst hv; rw [toD_zero]; simp
    · rw [toD_pos hB (by omega)]; simp
  | succ i ih =>
    intro v
    by_cases hv : v = 0
    · subst hv; rw [toD_zero]; simp
    · rw [toD_pos hB (by omega), List.getD_cons_succ, ih, Nat.div_div_eq_div_mul, Nat.pow_succ, Nat.mul_comm (B ^ i)]
theorem byts_len_iff (v m : Nat) : (byts v).length ≤ m ↔ bl v ≤ 8 * m := by
  rw [toD_len_iff b8_two, b8_pow2]
  exact ⟨bl_le, fun h => Nat.lt_of_lt_of_le (bl_lt v) (Nat.pow_le_pow_right (by decide) h)⟩
theorem byts_len (v : Nat) : (byts v).length = (bl v + 7) / 8 := by
  have h1 := (byts_len_iff v ((bl v + 7) / 8)).2 (by omega)
  have h2 := (byts_len_iff v (byts v).length).1 (Nat.le_refl _)
  omega
theorem limb_at {a : List Int} (da : Dig (b64 : Int) a) (ca : Can a) (i : Nat) : a.getD i 0 = ((num a / b64 ^ i % b64 : Nat) : Int) := by
  have h := toD_getD b64_two i (num a)
  rw [show toD b64 (num a) = a from limbs_num da ca] at h
  exact h
theorem can_last {a : List Int} (ca : Can a) (h0 : a.length ≠ 0) : a.getD (a.length - 1) 0 ≠ 0 := by
  have h : a ≠ [] := fun e => h0 (by rw [e]; rfl)
  have h2 := ca h
  rw [List.getLast_eq_getElem] at h2
  rw [List.getD_eq_getElem?_getD, List.getElem?_eq_getElem (show a.length - 1 < a.length by omega)]
  exact h2
theorem bitsV_bl {a : List Int} (da : Dig (b64 : Int) a) (hA : rightB a = true) : bitsV a = ((bl (num a) : Nat) : Int) := by
  obtain ⟨h1, ca⟩ := (rightB_iff a).1 hA
  unfold bitsV
  by_cases h0 : a.length = 0
  · rw [if_neg (fun h => h.2 h0)]
    have e : a = [] := List.length_eq_zero_iff.1 h0
    subst e
    rfl
  · rw [if_pos ⟨hA, h0⟩]
    have e := limb_at da ca (a.length - 1)
    have hlt := num_lt da
    have hne := can_last ca h0
    have hl : num a / b64 ^ (a.length - 1) < b64 := by
      apply Nat.div_lt_of_lt_mul
      rw [← Nat.pow_succ, show (a.length - 1).succ = a.length from by omega]
      exact hlt
    rw [Nat.mod_eq_of_lt hl] at e
    rw [e] at hne ⊢
    rw [b64_pow2] at hne ⊢
    have h2 := bl_shift (num a) (64 * (a.length - 1)) (fun hh => hne (by rw [hh]; rfl))
    rw [h2, Int.toNat_natCast]
    omega
theorem byte_of (v q r : Nat) (hr : r < 8) : v / b64 ^ q % b64 / 2 ^ (8 * r) % 256 = v / b8 ^ (8 * q + r) % b8 := by
  have h : b64 = 2 ^ (8 * r) * 2 ^ (64 - 8 * r) := by
    rw [← Nat.pow_add, show 8 * r + (64 - 8 * r) = 64 from by omega]; decide
  have hd : (256 : Nat) ∣ 2 ^ (64 - 8 * r) := Nat.pow_dvd_pow 2 (show 8 ≤ 64 - 8 * r by omega)
  have e1 : v / b64 ^ q % b64 / 2 ^ (8 * r) = v / b64 ^ q / 2 ^ (8 * r) % 2 ^ (64 - 8 * r) := by
    generalize v / b64 ^ q = x
    rw [h, Nat.mod_mul_right_div_self]
  rw [e1, Nat.mod_mod_of_dvd _ hd, Nat.div_div_eq_div_mul, b64_pow2, b8_pow2, ← Nat.pow_add, show 64 * q + 8 * r = 8 * (8 * q + r) from by omega]
  rfl
theorem byts_num_len {a : List Int} (da : Dig (b64 : Int) a) : (byts (num a)).length ≤ 8 * a.length := by
  rw [byts_len_iff]
  apply bl_le
  have := num_lt da
  rw [b64_pow2] at this
  rw [show 8 * (8 * a.length) = 64 * a.length from by omega]
  exact this
theorem tdiv_nat (i : Nat) (c : Nat) : Int.tdiv (i : Int) (c : Int) = ((i / c : Nat) : Int) := by
  rw [Int.tdiv_eq_ediv_of_nonneg (by omega)]; simp
theorem tmod_nat (i : Nat) (c : Nat) : Int.tmod (i : Int) (c : Int) = ((i % c : Nat) : Int) := by
  rw [Int.tmod_eq_emod_of_nonneg (by omega)]; simp
def bytesV (a : List Int) : List Int := if rightB a = true then (byts (num a)).reverse else []
end Go.Proofs.Ytkgaejigpmkfkab.Z
end
section
namespace Go.Proofs.Ytkgaejigpmkfkab.Z
open Go.RowKit Go.Proofs.Ytkgaejigpmkfkab.F Go.Proofs.YtkgaejigpmkfkabW.PrintWords
set_option linter.unusedSimpArgs false
set_option linter.unusedVariables false
theorem set_back (n i : Nat) (h : i < n) (T : List Int) (x : Int) : (List.replicate (n - i) (0 : Int) ++ T).set (n - 1 - i) x = List.replicate (n - (i + 1)) 0 ++ (x :: T) := by
  obtain ⟨m, hm⟩ : ∃ m, n - i = m + 1 := ⟨n - i - 1, by omega⟩
  rw [hm, show n - 1 - i = m from by omega, show n - (i + 1) = m from by omega, List.replicate_succ', List.append_assoc, List.set_append_right _ _ (by simp)]
  simp
theorem nat_Bytes_loop (a : List Int) (da : Dig (b64 : Int) a) (ca : Can a) (ha : a.length ≤ 64) (m : Nat) : ∀ i : Nat, i ≤ (byts (num a)).length → (byts (num a)).length - i = m →
    Evt (fun k => nat_Bytes.l0 k a ((byts (num a)).length : Int) (List.replicate ((byts (num a)).length - i) 0 ++ ((byts (num a)).take i).reverse) ((byts (num a)).length : Int) (i : Int)) (byts (num a)).reverse := by
  have hn := byts_num_len da
  induction m with
  | zero =>
    intro i hi hm
    refine Evt.succ ?_
    simp only [nat_Bytes.l0]
    refine Evt.ite_neg (by omega) ?_
    rw [show (byts (num a)).length - i = 0 from hm, List.take_of_length_le (by omega)]
    exact Evt.pure _
  | succ m ih =>
    intro i hi hm
    have hlt : i < (byts (num a)).length := by omega
    refine Evt.succ ?_
    simp only [nat_Bytes.l0]
    have e1 : wrap64 (Int.tdiv (i : Int) 8) = ((i / 8 : Nat) : Int) := by
      rw [show (8 : Int) = ((8 : Nat) : Int) from rfl, tdiv_nat]
      exact w64 (by omega) (by omega)
    have e2 : wrap64 (8 * Int.tmod (i : Int) 8) = ((8 * (i % 8) : Nat) : Int) := by
      rw [show Int.tmod (i : Int) 8 = Int.tmod (i : Int) ((8 : Nat) : Int) from rfl, tmod_nat, w64 (by omega) (by omega)]
      omega
    have e3 : wrap64 (wrap64 (((byts (num a)).length : Int) - 1) - (i : Int)) = (((byts (num a)).length - 1 - i : Nat) : Int) := by
      rw [w64 (show -9223372036854775808 ≤ ((byts (num a)).length : Int) - 1 by omega) (by omega), w64 (by omega) (by omega)]
      omega
    rw [e1, e2, e3, w64 (show -9223372036854775808 ≤ (i : Int) + 1 by omega) (by omega)]
    refine Evt.ite_pos (by omega) (Evt.ite_pos (by omega) (Evt.ite_pos (by omega) (Evt.ite_pos (by omega) (Evt.ite_pos (by omega) (Evt.ite_pos (by simp; omega) ?_)))))
    rw [Int.toNat_natCast, set_back _ _ hlt, rd_nat, shr_u64 _ _ (by omega), limb_at da ca]
    have h := ih (i + 1) hlt (by omega)
    refine h.congr (fun k => ?_) rfl
    have hv : ((num a / b64 ^ (i / 8) % b64 : Nat) : Int) / 2 ^ (8 * (i % 8)) % 256 = (byts (num a))[i] := by
      have g := toD_getD b8_two i (num a)
      rw [List.getD_eq_getElem?_getD, List.getElem?_eq_getElem hlt] at g
      rw [show (byts (num a))[i] = ((num a / b8 ^ i % b8 : Nat) : Int) from g]
      have hb := byte_of (num a) (i / 8) (i % 8) (by omega)
      rw [show 8 * (i / 8) + i % 8 = i from by omega] at hb
      rw [← hb]
      simp
    rw [hv, List.take_succ_eq_append_getElem hlt, List.reverse_append]
    rfl
theorem nat_Bytes_ev (a : List Int) (ha : a.length ≤ maxLen) (da : Dig (b64 : Int) a) : Evt (fun k => nat_Bytes.f k a) (bytesV a) := by
  unfold nat_Bytes.f bytesV
  rw [nat_Right_eq ha]
  simp only [Option.bind_some]
  cases hA : rightB a with
  | true =>
    obtain ⟨h1, c1⟩ := (rightB_iff a).1 hA
    rw [if_pos rfl]
    refine Evt.ite_pos rfl ?_
    refine Evt.bind (nat_Bits_ev a ha da) ?_
    rw [bitsV_bl da hA]
    have hl := byts_len (num a)
    have hn := byts_num_len da
    have hb := (byts_len_iff (num a) (byts (num a)).length).1 (Nat.le_refl _)
    have e : wrap64 (Int.tdiv (wrap64 (((bl (num a) : Nat) : Int) + 7)) 8) = ((byts (num a)).length : Int) := by
      rw [w64 (show -9223372036854775808 ≤ ((bl (num a) : Nat) : Int) + 7 by omega) (by omega), show ((bl (num a) : Nat) : Int) + 7 = ((bl (num a) + 7 : Nat) : Int) from by omega, show (8 : Int) = ((8 : Nat) : Int) from rfl, tdiv_nat, w64 (by omega) (by omega), hl]
    rw [e]
    refine Evt.ite_pos (by omega) (Evt.ite_pos (by omega) ?_)
    have h := nat_Bytes_loop a da c1 h1 (byts (num a)).length 0 (Nat.zero_le _) (by omega)
    refine h.congr (fun k => ?_) rfl
    simp
  | false =>
    rw [if_neg (by simp)]
    exact Evt.ite_neg (by simp) (Evt.pure _)
theorem or128 : ∀ a : Fin 256, Go.bits .or .u8 ((a.val : Nat) : Int) 128 = ((a.val % 128 + 128 : Nat) : Int) := by decide +kernel
theorem codec_Number_loop (n : Nat) : ∀ xs : List Int, n < 2 ^ 64 → xs.length + (encN n).length < 140737488355328 → Evt (fun k => codec_Number.l0 k (n : Int) xs) (xs ++ encN n) := by
  induction n using Nat.strongRecOn with
  | ind n ih =>
    intro xs hn hl
    refine Evt.succ ?_
    simp only [codec_Number.l0]
    have hp := encN_pos n
    by_cases h : n < 128
    · rw [encN_small h] at hl ⊢
      refine Evt.ite_neg (by omega) (Evt.ite_pos (by simp at hl; omega) ((Evt.pure _).congr (fun k => rfl) ?_))
      rw [show (n : Int) % 256 = (n : Int) from by omega]
    · rw [encN_big h] at hl ⊢
      refine Evt.ite_pos (by omega) (Evt.ite_pos (by simp at hl; omega) ?_)
      have e := or128 ⟨n % 256, Nat.mod_lt _ (by omega)⟩
      simp only [] at e
      rw [show (n : Int) % 256 = ((n % 256 : Nat) : Int) from by omega, e, show (n : Int) / 128 = ((n / 128 : Nat) : Int) from by omega, show n % 256 % 128 = n % 128 from by omega]
      have h2 := ih (n / 128) (by omega) (xs ++ [((n % 128 + 128 : Nat) : Int)]) (by omega) (by simp at hl ⊢; omega)
      rw [List.append_assoc] at h2
      exact h2
theorem encN_ten {n : Nat} (h : n < 2 ^ 64) : (encN n).length ≤ 10 := encN_len n 9 (Nat.lt_of_lt_of_le h (by decide))
theorem codec_Number_ev (n : Nat) (h : n < 2 ^ 64) : Evt (fun k => codec_Number.f k (n : Int)) (encN n) := codec_Number_loop n [] h (by have := encN_ten h; simp; omega)
def encY (b : List Int) : List Int := encN b.length ++ b
theorem codec_Bytes_ev (b : List Int) (h : b.length < 1000000) : Evt (fun k => codec_Bytes.f k b) (encY b) := by
  unfold codec_Bytes.f
  rw [wu64_of (by omega) (by omega)]
  refine Evt.bind (codec_Number_ev b.length (by omega)) ?_
  have := encN_ten (n := b.length) (by omega)
  exact Evt.ite_pos (by omega) (Evt.pure _)
def natB (a : List Int) : Bool := rightB a && decide (a.length ≤ 4)
def rightV (a0 a1 a2 a3 : Int) (l4 l5 : List Int) (l6 : List (List Int)) : Bool :=
  decide (1 ≤ a0 ∧ a0 < 12 ∧ wire_ok a1 = true ∧ wire_ok a2 = true ∧ wire_ok a3 = true) && (wire_noughts (wire_kindOf a0.toNat).1 a1 a2 a3 && (wire_may l4.length (wire_kindOf a0.toNat).2.1 (wire_ints.f l4) && (wire_may l5.length (wire_kindOf a0.toNat).2.2.1 (wire_ints.f l5) && (wire_may l6.length (wire_kindOf a0.toNat).2.2.2 (l6.all natB) && (wire_incr l5 && wire_last a0 a3 l4 l6)))))
theorem nats_one {a : List Int} (h : a.length ≤ maxLen) : wire_nats.one a = some (natB a) := by
  unfold wire_nats.one natB
  rw [nat_Right_eq h, Option.bind_some, show decide ((a.length : Int) ≤ 4) = decide (a.length ≤ 4) from by rw [Bool.eq_iff_iff]; simp; omega]
theorem nats_f {l : List (List Int)} (h : ∀ a ∈ l, a.length ≤ maxLen) : wire_nats.f l = some (l.all natB) := by
  induction l with
  | nil => rfl
  | cons a l ih =>
    rw [wire_nats.f, nats_one (h a (by simp)), Option.bind_some, List.all_cons]
    cases hb : natB a with
    | true => rw [if_pos rfl, ih (fun x hx => h x (by simp [hx]))]; rfl
    | false => rfl
theorem wire_Right_eq (a0 a1 a2 a3 : Int) (l4 l5 : List Int) (l6 : List (List Int)) (h : ∀ a ∈ l6, a.length ≤ maxLen) : wire_Right.f a0 a1 a2 a3 l4 l5 l6 = some (rightV a0 a1 a2 a3 l4 l5 l6) := by
  unfold wire_Right.f rightV
  by_cases c0 : 1 ≤ a0 ∧ a0 < 12 ∧ wire_ok a1 = true ∧ wire_ok a2 = true ∧ wire_ok a3 = true
  · rw [if_pos c0, decide_eq_true c0, Bool.true_and]
    unfold wire_Right.g
    generalize wire_noughts (wire_kindOf a0.toNat).1 a1 a2 a3 = b1
    generalize wire_may l4.length (wire_kindOf a0.toNat).2.1 (wire_ints.f l4) = b2
    generalize wire_may l5.length (wire_kindOf a0.toNat).2.2.1 (wire_ints.f l5) = b3
    rw [nats_f h, Option.bind_some]
    generalize wire_may l6.length (wire_kindOf a0.toNat).2.2.2 (l6.all natB) = b4
    cases b1 <;> cases b2 <;> cases b3 <;> cases b4 <;> rfl
  · rw [if_neg c0, decide_eq_false c0]
    rfl
theorem right_parts {a0 a1 a2 a3 : Int} {l4 l5 : List Int} {l6 : List (List Int)} (h : rightV a0 a1 a2 a3 l4 l5 l6 = true) :
    (0 ≤ a0 ∧ a0 ≤ 1073741824) ∧ (0 ≤ a1 ∧ a1 ≤ 1073741824) ∧ (0 ≤ a2 ∧ a2 ≤ 1073741824) ∧ (0 ≤ a3 ∧ a3 ≤ 1073741824) ∧ l4.length ≤ 16384 ∧ l5.length ≤ 16384 ∧ l6.length ≤ 16384 ∧ (∀ x ∈ l4, 0 ≤ x ∧ x ≤ 1073741824) ∧ (∀ x ∈ l5, 0 ≤ x ∧ x ≤ 1073741824) ∧ (∀ a ∈ l6, rightB a = true ∧ a.length ≤ 4) := by
  unfold rightV at h
  simp only [Bool.and_eq_true, decide_eq_true_eq] at h
  obtain ⟨⟨k1, k2, o1, o2, o3⟩, h1, h2, h3, h4, h5⟩ := h
  unfold wire_may at h2 h3 h4
  unfold wire_ok at o1 o2 o3
  unfold wire_ints.f at h2 h3
  simp only [Bool.and_eq_true, decide_eq_true_eq, List.all_eq_true] at h2 h3 h4 o1 o2 o3
  refine ⟨⟨by omega, by omega⟩, o1, o2, o3, h2.1.1, h3.1.1, h4.1.1, h2.2, h3.2, fun a ha => ?_⟩
  have := h4.2 a ha
  unfold natB at this
  simpa [Bool.and_eq_true] using this
def encB (l : List (List Int)) : List Int := l.flatMap fun a => encY (bytesV a)
theorem encB_cons (a : List Int) (l : List (List Int)) : encB (a :: l) = encY (bytesV a) ++ encB l := by simp [encB]
def encM (a0 a1 a2 a3 : Int) (l4 l5 : List Int) (l6 : List (List Int)) : List Int :=
  encL [a0, a1, a2, a3] ++ (encN l4.length ++ encL l4) ++ (encN l5.length ++ encL l5) ++ encN l6.length ++ encB l6
def encodeV (a0 a1 a2 a3 : Int) (l4 l5 : List Int) (l6 : List (List Int)) : List Int × Int :=
  if rightV a0 a1 a2 a3 l4 l5 l6 = true then (if (encM a0 a1 a2 a3 l4 l5 l6).length > 1048576 then ([], 16) else (encM a0 a1 a2 a3 l4 l5 l6, 0)) else ([], 16)
theorem encL_len {l : List Int} (h : ∀ x ∈ l, 0 ≤ x ∧ x ≤ 1073741824) : (encL l).length ≤ 10 * l.length := by
  induction l with
  | nil => simp [encL]
  | cons x l ih =>
    have hx := h x (by simp)
    have := encN_ten (n := x.toNat) (by omega)
    have := ih (fun y hy => h y (by simp [hy]))
    rw [encL_cons]
    simp
    omega
theorem bytesV_len {a : List Int} (da : Dig (b64 : Int) a) (hr : rightB a = true) (h4 : a.length ≤ 4) : (bytesV a).length ≤ 32 := by
  unfold bytesV
  rw [if_pos hr, List.length_reverse]
  have := byts_num_len da
  omega
theorem wire_nums_ev (l : List Int) : ∀ xs : List Int, (∀ x ∈ l, 0 ≤ x ∧ x ≤ 1073741824) → xs.length + 10 * l.length < 100000000 → Evt (fun k => wire_Encode.nums k l xs) (xs ++ encL l) := by
  induction l with
  | nil => intro xs _ _; exact (Evt.pure _).congr (fun k => rfl) (by simp [encL])
  | cons n l ih =>
    intro xs h hl
    obtain ⟨h0, h1⟩ := h n (by simp)
    obtain ⟨m, rfl⟩ := Int.eq_ofNat_of_zero_le h0
    simp only [wire_Encode.nums]
    rw [wu64_of (by omega) (by omega)]
    refine Evt.bind (codec_Number_ev m (by omega)) ?_
    have h2 := encN_ten (n := m) (by omega)
    simp at hl
    refine Evt.ite_pos (by omega) ?_
    have h3 := ih (xs ++ encN m) (fun x hx => h x (by simp [hx])) (by simp; omega)
    rw [encL_cons, Int.toNat_natCast]
    rw [List.append_assoc] at h3
    exact h3
theorem wire_nats_ev (l : List (List Int)) : ∀ xs : List Int, (∀ a ∈ l, a.length ≤ maxLen ∧ Dig (b64 : Int) a ∧ rightB a = true ∧ a.length ≤ 4) → xs.length + 42 * l.length < 100000000 → Evt (fun k => wire_Encode.nats k l xs) (xs ++ encB l) := by
  induction l with
  | nil => intro xs _ _; exact (Evt.pure _).congr (fun k => rfl) (by simp [encB])
  | cons a l ih =>
    intro xs h hl
    obtain ⟨h0, h1, h2, h3⟩ := h a (by simp)
    have h4 := bytesV_len h1 h2 h3
    have h5 := encN_ten (n := (bytesV a).length) (by omega)
    have h6 : (encY (bytesV a)).length ≤ 42 := by unfold encY; simp; omega
    simp at hl
    simp only [wire_Encode.nats]
    refine Evt.bind (nat_Bytes_ev a h0 h1) (Evt.bind (codec_Bytes_ev _ (by omega)) (Evt.ite_pos (by omega) ?_))
    have h7 := ih (xs ++ encY (bytesV a)) (fun x hx => h x (by simp [hx])) (by simp; omega)
    rw [encB_cons]
    rw [List.append_assoc] at h7
    exact h7
theorem wire_Encode_ev (a0 a1 a2 a3 : Int) (l4 l5 : List Int) (l6 : List (List Int)) (h : ∀ a ∈ l6, a.length ≤ maxLen ∧ Dig (b64 : Int) a) : Evt (fun k => wire_Encode.f k a0 a1 a2 a3 l4 l5 l6) (encodeV a0 a1 a2 a3 l4 l5 l6) := by
  unfold wire_Encode.f encodeV
  rw [wire_Right_eq _ _ _ _ _ _ _ (fun a ha => (h a ha).1)]
  simp only [Option.bind_some]
  cases hR : rightV a0 a1 a2 a3 l4 l5 l6 with
  | false => rw [if_neg (by decide)]; exact Evt.ite_neg (by decide) (Evt.pure _)
  | true =>
    rw [if_pos rfl]
    obtain ⟨o0, o1, o2, o3, n4, n5, n6, h4, h5, h6⟩ := right_parts hR
    have b4 := encL_len h4
    have b5 := encL_len h5
    have b0 := encL_len (l := [a0, a1, a2, a3]) (by intro x hx; simp at hx; rcases hx with rfl | rfl | rfl | rfl <;> assumption)
    have t4 := encN_ten (n := l4.length) (by omega)
    have t5 := encN_ten (n := l5.length) (by omega)
    have t6 := encN_ten (n := l6.length) (by omega)
    simp only [List.length_cons, List.length_nil] at b0
    refine Evt.ite_pos rfl ?_
    have s1 := wire_nums_ev [a0, a1, a2, a3] [] (by intro x hx; simp at hx; rcases hx with rfl | rfl | rfl | rfl <;> assumption) (by simp)
    rw [List.nil_append] at s1
    refine Evt.bind s1 ?_
    have s2 : Evt (fun k => wire_Encode.lists k [l4, l5] (encL [a0, a1, a2, a3])) (encL [a0, a1, a2, a3] ++ (encN l4.length ++ encL l4) ++ (encN l5.length ++ encL l5)) := by
      simp only [wire_Encode.lists]
      have e4 := wire_nums_ev ((l4.length : Int) :: l4) (encL [a0, a1, a2, a3]) (by intro x hx; rcases List.mem_cons.1 hx with rfl | hx; exact ⟨by omega, by omega⟩; exact h4 x hx) (by simp; omega)
      rw [encL_cons (l4.length : Int) l4, Int.toNat_natCast] at e4
      refine Evt.bind e4 ?_
      have e5 := wire_nums_ev ((l5.length : Int) :: l5) (encL [a0, a1, a2, a3] ++ (encN l4.length ++ encL l4)) (by intro x hx; rcases List.mem_cons.1 hx with rfl | hx; exact ⟨by omega, by omega⟩; exact h5 x hx) (by simp; omega)
      rw [encL_cons (l5.length : Int) l5, Int.toNat_natCast] at e5
      exact Evt.bind e5 (Evt.pure _)
    refine Evt.bind s2 ?_
    have s3 := wire_nums_ev [(l6.length : Int)] (encL [a0, a1, a2, a3] ++ (encN l4.length ++ encL l4) ++ (encN l5.length ++ encL l5)) (by intro x hx; simp at hx; subst hx; exact ⟨by omega, by omega⟩) (by simp; omega)
    rw [encL_cons (l6.length : Int) [], encL_nil, List.append_nil, Int.toNat_natCast] at s3
    refine Evt.bind s3 ?_
    have s4 := wire_nats_ev l6 (encL [a0, a1, a2, a3] ++ (encN l4.length ++ encL l4) ++ (encN l5.length ++ encL l5) ++ encN l6.length) (fun a ha => ⟨(h a ha).1, (h a ha).2, h6 a ha⟩) (by simp; omega)
    refine Evt.bind s4 ?_
    exact Evt.pure _
theorem awake12_enc : encodeV 2 4 2 0 [] [] [] = ([2, 4, 2, 0, 0, 0, 0], 0) := by
  have e : encM 2 4 2 0 [] [] [] = [2, 4, 2, 0, 0, 0, 0] := by
    simp [encM, encL, encN_small, encB]
  have hR : rightV 2 4 2 0 [] [] [] = true := by decide
  unfold encodeV
  rw [e, if_pos hR]
  rfl
theorem awake12_ev : Evt (fun k => windbreaklaw12_awake.f k) true := by
  unfold windbreaklaw12_awake.f
  have h := wire_Encode_ev 2 4 2 0 [] [] [] (fun a ha => by simp at ha)
  rw [awake12_enc] at h
  refine Evt.bind h (Evt.ite_pos rfl ((Evt.pure _).congr (fun k => rfl) ?_))
  simp
theorem toList_loop (bs : ByteArray) (n : Nat) : ∀ i r, bs.size - i = n → ByteArray.toList.loop bs i r = r.reverse ++ bs.data.toList.drop i := by
  induction n with
  | zero =>
    intro i r h
    unfold ByteArray.toList.loop
    rw [if_neg (by omega), List.drop_of_length_le (by simp; omega), List.append_nil]
  | succ n ih =>
    intro i r h
    have hi : i < bs.size := by omega
    unfold ByteArray.toList.loop
    rw [if_pos hi, ih (i + 1) _ (by omega), List.reverse_cons, List.append_assoc]
    congr 1
    have hl : i < bs.data.toList.length := by simpa using hi
    rw [List.drop_eq_getElem_cons hl]
    have : bs.get! i = bs.data.toList[i] := by
      show bs.data[i]! = _
      rw [getElem!_pos bs.data i (by simpa using hi)]
      simp
    rw [this]
    rfl
theorem toList_data (bs : ByteArray) : bs.toList = bs.data.toList := by
  unfold ByteArray.toList
  rw [toList_loop bs bs.size 0 [] (by omega)]
  rfl
theorem str_inj {l m : List Int} (hl : ∀ x ∈ l, 0 ≤ x ∧ x < 256) (hm : ∀ x ∈ m, 0 ≤ x ∧ x < 256) : ((strOfNums l).toList == (strOfNums m).toList) = decide (l = m) := by
  rw [toList_data, toList_data, strOfNums_data, strOfNums_data, Bool.eq_iff_iff, beq_iff_eq, decide_eq_true_eq]
  constructor
  · intro h
    have h2 := congrArg (List.map fun c : UInt8 => ((c.toNat : Nat) : Int)) h
    rw [List.map_map, List.map_map] at h2
    have e : ∀ {l : List Int}, (∀ x ∈ l, 0 ≤ x ∧ x < 256) → l.map ((fun c : UInt8 => ((c.toNat : Nat) : Int)) ∘ fun n : Int => UInt8.ofNat n.toNat) = l := by
      intro l hl
      conv => rhs; rw [← List.map_id l]
      refine List.map_congr_left (fun x hx => ?_)
      have := hl x hx
      simp only [Function.comp, UInt8.toNat_ofNat', id]
      omega
    rwa [e hl, e hm] at h2
  · intro h
    rw [h]
theorem sameInts_loop (l m : List Int) (h : l.length ≤ maxLen) (hlm : l.length = m.length) (d : Nat) : ∀ i : Nat, i ≤ l.length → l.length - i = d → Evt (fun k => windbreakref12_SameInts.l0 k l m (i : Int)) (decide (l.drop i = m.drop i)) := by
  unfold maxLen at h
  induction d with
  | zero =>
    intro i hi hd
    refine Evt.succ ?_
    simp only [windbreakref12_SameInts.l0]
    refine Evt.ite_neg (by omega) ?_
    rw [List.drop_of_length_le (by omega), List.drop_of_length_le (by omega)]
    exact Evt.pure _
  | succ d ih =>
    intro i hi hd
    have hl : i < l.length := by omega
    have hm : i < m.length := by omega
    refine Evt.succ ?_
    simp only [windbreakref12_SameInts.l0]
    refine Evt.ite_pos (by omega) (Evt.ite_pos (by omega) (Evt.ite_pos (by omega) ?_))
    have e1 : rd l (i : Int) = l[i] := by simp [rd_nat, hl]
    have e2 : rd m (i : Int) = m[i] := by simp [rd_nat, hm]
    rw [e1, e2, w64 (by omega) (by omega), List.drop_eq_getElem_cons hl, List.drop_eq_getElem_cons hm]
    by_cases he : l[i] = m[i]
    · refine Evt.ite_pos he ?_
      refine (ih (i + 1) (by omega) (by omega)).congr (fun k => rfl) ?_
      rw [he]
      simp only [List.cons.injEq, true_and]
    · refine Evt.ite_neg he ?_
      have : decide (l[i] :: l.drop (i + 1) = m[i] :: m.drop (i + 1)) = false := by
        simp only [List.cons.injEq, decide_eq_false_iff_not]
        exact fun hh => he hh.1
      rw [this]
      exact Evt.pure _
theorem sameInts_ev (l m : List Int) (h : l.length ≤ maxLen) : Evt (fun k => windbreakref12_SameInts.f k l m) (decide (l = m)) := by
  unfold windbreakref12_SameInts.f
  by_cases hlm : l.length = m.length
  · refine Evt.ite_pos (by omega) ?_
    exact (sameInts_loop l m h hlm l.length 0 (Nat.zero_le _) (by omega)).congr (fun k => rfl) (by simp)
  · refine Evt.ite_neg (by omega) ?_
    have : decide (l = m) = false := by
      simp only [decide_eq_false_iff_not]
      intro e
      exact hlm (by rw [e])
    rw [this]
    exact Evt.pure _
theorem sameNats_loop (l m : List (List Int)) (h : l.length ≤ maxLen) (hn : ∀ a ∈ l, a.length ≤ maxLen) (hlm : l.length = m.length) (d : Nat) : ∀ i : Nat, i ≤ l.length → l.length - i = d → Evt (fun k => windbreakref12_SameNats.l0 k l m (i : Int)) (decide (l.drop i = m.drop i)) := by
  unfold maxLen at h
  induction d with
  | zero =>
    intro i hi hd
    refine Evt.succ ?_
    simp only [windbreakref12_SameNats.l0]
    refine Evt.ite_neg (by omega) ?_
    rw [List.drop_of_length_le (by omega), List.drop_of_length_le (by omega)]
    exact Evt.pure _
  | succ d ih =>
    intro i hi hd
    have hl : i < l.length := by omega
    have hm : i < m.length := by omega
    refine Evt.succ ?_
    simp only [windbreakref12_SameNats.l0]
    refine Evt.ite_pos (by omega) (Evt.ite_pos (by omega) (Evt.ite_pos (by omega) ?_))
    have e1 : rd_L3 l (i : Int) = l[i] := by
      show l.getD i [] = _
      rw [List.getD_eq_getElem?_getD, List.getElem?_eq_getElem hl]
      rfl
    have e2 : rd_L3 m (i : Int) = m[i] := by
      show m.getD i [] = _
      rw [List.getD_eq_getElem?_getD, List.getElem?_eq_getElem hm]
      rfl
    rw [e1, e2, w64 (by omega) (by omega), List.drop_eq_getElem_cons hl, List.drop_eq_getElem_cons hm]
    refine Evt.bind (same_ev _ _ (hn _ (List.getElem_mem hl))) ?_
    by_cases he : l[i] = m[i]
    · refine Evt.ite_pos (decide_eq_true he) ?_
      refine (ih (i + 1) (by omega) (by omega)).congr (fun k => rfl) ?_
      rw [he]
      simp only [List.cons.injEq, true_and]
    · refine Evt.ite_neg (by rw [decide_eq_false he]; decide) ?_
      have : decide (l[i] :: l.drop (i + 1) = m[i] :: m.drop (i + 1)) = false := by
        simp only [List.cons.injEq, decide_eq_false_iff_not]
        exact fun hh => he hh.1
      rw [this]
      exact Evt.pure _
theorem sameNats_ev (l m : List (List Int)) (h : l.length ≤ maxLen) (hn : ∀ a ∈ l, a.length ≤ maxLen) : Evt (fun k => windbreakref12_SameNats.f k l m) (decide (l = m)) := by
  unfold windbreakref12_SameNats.f
  by_cases hlm : l.length = m.length
  · refine Evt.ite_pos (by omega) ?_
    exact (sameNats_loop l m h hn hlm l.length 0 (Nat.zero_le _) (by omega)).congr (fun k => rfl) (by simp)
  · refine Evt.ite_neg (by omega) ?_
    have : decide (l = m) = false := by
      simp only [decide_eq_false_iff_not]
      intro e
      exact hlm (by rw [e])
    rw [this]
    exact Evt.pure _
theorem Same_ev (a0 a1 a2 a3 : Int) (l4 l5 : List Int) (l6 : List (List Int)) (b0 b1 b2 b3 : Int) (m4 m5 : List Int) (m6 : List (List Int)) (h4 : l4.length ≤ maxLen) (h5 : l5.length ≤ maxLen) (h6 : l6.length ≤ maxLen) (hn : ∀ a ∈ l6, a.length ≤ maxLen) :
    Evt (fun k => windbreakref12_Same.f k a0 a1 a2 a3 l4 l5 l6 b0 b1 b2 b3 m4 m5 m6) (decide (a0 = b0 ∧ a1 = b1 ∧ a2 = b2 ∧ a3 = b3 ∧ l4 = m4 ∧ l5 = m5 ∧ l6 = m6)) := by
  unfold windbreakref12_Same.f
  refine Evt.bind (sameInts_ev l4 m4 h4) (Evt.bind (sameInts_ev l5 m5 h5) (Evt.bind (sameNats_ev l6 m6 h6 hn) ?_))
  by_cases c0 : a0 = b0
  · refine Evt.ite_pos c0 ?_
    by_cases c1 : a1 = b1
    · refine Evt.ite_pos c1 ?_
      by_cases c2 : a2 = b2
      · refine Evt.ite_pos c2 ?_
        by_cases c3 : a3 = b3
        · refine Evt.ite_pos c3 ?_
          by_cases c4 : l4 = m4
          · refine Evt.ite_pos (decide_eq_true c4) ?_
            by_cases c5 : l5 = m5
            · refine Evt.ite_pos (decide_eq_true c5) ((Evt.pure _).congr (fun k => rfl) ?_)
              simp [c0, c1, c2, c3, c4, c5]
            · exact Evt.ite_neg (by simp [c5]) ((Evt.pure _).congr (fun k => rfl) (by simp [c5]))
          · exact Evt.ite_neg (by simp [c4]) ((Evt.pure _).congr (fun k => rfl) (by simp [c4]))
        · exact Evt.ite_neg c3 ((Evt.pure _).congr (fun k => rfl) (by simp [c3]))
      · exact Evt.ite_neg c2 ((Evt.pure _).congr (fun k => rfl) (by simp [c2]))
    · exact Evt.ite_neg c1 ((Evt.pure _).congr (fun k => rfl) (by simp [c1]))
  · exact Evt.ite_neg c0 ((Evt.pure _).congr (fun k => rfl) (by simp [c0]))
theorem bytesV_inj {a b : List Int} (da : Dig (b64 : Int) a) (db : Dig (b64 : Int) b) (ra : rightB a = true) (rb : rightB b = true) (h : bytesV a = bytesV b) : a = b := by
  unfold bytesV at h
  rw [if_pos ra, if_pos rb, List.reverse_inj] at h
  have hv : num a = num b := by
    have h1 := val_toD b8_two (num a)
    have h2 := val_toD b8_two (num b)
    rw [show toD b8 (num a) = toD b8 (num b) from h] at h1
    omega
  rw [← limbs_num da ((rightB_iff a).1 ra).2, ← limbs_num db ((rightB_iff b).1 rb).2, hv]
theorem encB_inj : ∀ {l m : List (List Int)}, (∀ a ∈ l, Dig (b64 : Int) a ∧ rightB a = true ∧ a.length ≤ 4) → (∀ a ∈ m, Dig (b64 : Int) a ∧ rightB a = true ∧ a.length ≤ 4) → l.length = m.length → encB l = encB m → l = m := by
  intro l
  induction l with
  | nil => intro m _ _ h _; exact (List.eq_nil_of_length_eq_zero (by simpa using h.symm)).symm
  | cons a l ih =>
    intro m hl hm hlm h
    cases m with
    | nil => simp at hlm
    | cons b m =>
      obtain ⟨d1, r1, q1⟩ := hl a (by simp)
      obtain ⟨d2, r2, q2⟩ := hm b (by simp)
      have l1 := bytesV_len d1 r1 q1
      have l2 := bytesV_len d2 r2 q2
      rw [encB_cons, encB_cons] at h
      unfold encY at h
      rw [List.append_assoc, List.append_assoc] at h
      obtain ⟨e, h⟩ := encN_inj (by omega) (by omega) h
      obtain ⟨e1, e2⟩ := List.append_inj h e
      rw [bytesV_inj d1 d2 r1 r2 e1, ih (fun x hx => hl x (by simp [hx])) (fun x hx => hm x (by simp [hx])) (by simpa using hlm) e2]
theorem encM_inj {a0 a1 a2 a3 : Int} {l4 l5 : List Int} {l6 : List (List Int)} {b0 b1 b2 b3 : Int} {m4 m5 : List Int} {m6 : List (List Int)} (h : rightV a0 a1 a2 a3 l4 l5 l6 = true) (k : rightV b0 b1 b2 b3 m4 m5 m6 = true) (hd : ∀ a ∈ l6, Dig (b64 : Int) a) (kd : ∀ a ∈ m6, Dig (b64 : Int) a) (e : encM a0 a1 a2 a3 l4 l5 l6 = encM b0 b1 b2 b3 m4 m5 m6) : a0 = b0 ∧ a1 = b1 ∧ a2 = b2 ∧ a3 = b3 ∧ l4 = m4 ∧ l5 = m5 ∧ l6 = m6 := by
  obtain ⟨o0, o1, o2, o3, n4, n5, n6, h4, h5, h6⟩ := right_parts h
  obtain ⟨p0, p1, p2, p3, j4, j5, j6, k4, k5, k6⟩ := right_parts k
  unfold encM at e
  simp only [List.append_assoc] at e
  obtain ⟨e1, e⟩ := encL_inj (l := [a0, a1, a2, a3]) (m := [b0, b1, b2, b3]) (by intro x hx; simp at hx; rcases hx with rfl | rfl | rfl | rfl <;> omega) (by intro x hx; simp at hx; rcases hx with rfl | rfl | rfl | rfl <;> omega) rfl e
  simp only [List.cons.injEq, and_true] at e1
  obtain ⟨e2, e⟩ := encN_inj (by omega) (by omega) e
  obtain ⟨e3, e⟩ := encL_inj (fun x hx => by have := h4 x hx; omega) (fun x hx => by have := k4 x hx; omega) e2 e
  obtain ⟨e4, e⟩ := encN_inj (by omega) (by omega) e
  obtain ⟨e5, e⟩ := encL_inj (fun x hx => by have := h5 x hx; omega) (fun x hx => by have := k5 x hx; omega) e4 e
  obtain ⟨e6, e⟩ := encN_inj (by omega) (by omega) e
  have e7 := encB_inj (fun a ha => ⟨hd a ha, h6 a ha⟩) (fun a ha => ⟨kd a ha, k6 a ha⟩) e6 e
  exact ⟨e1.1, e1.2.1, e1.2.2.1, e1.2.2.2, e3, e5, e7⟩
theorem encB_dig {l : List (List Int)} : Dig 256 (encB l) := by
  intro x hx
  unfold encB at hx
  obtain ⟨a, ha, hx⟩ := List.mem_flatMap.1 hx
  unfold encY at hx
  rcases List.mem_append.1 hx with hx | hx
  · exact encN_dig _ x hx
  · unfold bytesV at hx
    split at hx
    · exact toD_dig b8_two (num a) x (List.mem_reverse.1 hx)
    · simp at hx
theorem encL_dig {l : List Int} : Dig 256 (encL l) := by
  intro x hx
  obtain ⟨a, ha, hx⟩ := List.mem_flatMap.1 hx
  exact encN_dig _ x hx
theorem encM_dig {a0 a1 a2 a3 : Int} {l4 l5 : List Int} {l6 : List (List Int)} : Dig 256 (encM a0 a1 a2 a3 l4 l5 l6) := by
  unfold encM
  exact Dig.append.2 ⟨Dig.append.2 ⟨Dig.append.2 ⟨Dig.append.2 ⟨encL_dig, Dig.append.2 ⟨encN_dig _, encL_dig⟩⟩, Dig.append.2 ⟨encN_dig _, encL_dig⟩⟩, encN_dig _⟩, encB_dig⟩
end Go.Proofs.Ytkgaejigpmkfkab.Z
end
section
namespace Go.Proofs.Ytkgaejigpmkfkab.Pure
open Go.RowKit Go.Proofs.Ytkgaejigpmkfkab.F Go.Proofs.Ytkgaejigpmkfkab.Z
set_option linter.unusedSimpArgs false
set_option linter.unusedVariables false
theorem enc_ok {a0 a1 a2 a3 : Int} {l4 l5 : List Int} {l6 : List (List Int)} (h : (encodeV a0 a1 a2 a3 l4 l5 l6).2 = 0) : rightV a0 a1 a2 a3 l4 l5 l6 = true ∧ (encodeV a0 a1 a2 a3 l4 l5 l6).1 = encM a0 a1 a2 a3 l4 l5 l6 := by
  unfold encodeV at h ⊢
  by_cases c : rightV a0 a1 a2 a3 l4 l5 l6 = true
  · rw [if_pos c] at h ⊢
    by_cases d : (encM a0 a1 a2 a3 l4 l5 l6).length > 1048576
    · rw [if_pos d] at h
      exact absurd h (by decide)
    · rw [if_neg d]
      exact ⟨c, rfl⟩
  · rw [if_neg c] at h
    exact absurd h (by decide)
theorem WireApart : windbreaklaw12_WireApart.Pure := by
  rintro ⟨a0, a1, a2, a3, l4, l5, l6⟩ ⟨b0, b1, b2, b3, m4, m5, m6⟩ hx hy
  apply Evt.get
  have hd : ∀ a ∈ l6, a.length ≤ maxLen ∧ Dig (b64 : Int) a := fun a ha => ⟨(hx a ha).1, dig_of_wf (hx a ha).2⟩
  have kd : ∀ a ∈ m6, a.length ≤ maxLen ∧ Dig (b64 : Int) a := fun a ha => ⟨(hy a ha).1, dig_of_wf (hy a ha).2⟩
  unfold windbreaklaw12_WireApart.f
  refine Evt.bind awake12_ev ?_
  refine Evt.bind (wire_Encode_ev a0 a1 a2 a3 l4 l5 l6 hd) ?_
  refine Evt.bind (wire_Encode_ev b0 b1 b2 b3 m4 m5 m6 kd) ?_
  by_cases c1 : (encodeV a0 a1 a2 a3 l4 l5 l6).2 = 0
  · refine Evt.ite_pos c1 ?_
    by_cases c2 : (encodeV b0 b1 b2 b3 m4 m5 m6).2 = 0
    · refine Evt.ite_pos c2 ?_
      obtain ⟨r1, e1⟩ := enc_ok c1
      obtain ⟨r2, e2⟩ := enc_ok c2
      obtain ⟨_, _, _, _, n4, n5, n6, _, _, h6⟩ := right_parts r1
      refine Evt.bind (Same_ev a0 a1 a2 a3 l4 l5 l6 b0 b1 b2 b3 m4 m5 m6 (by simp only [maxLen]; omega) (by simp only [maxLen]; omega) (by simp only [maxLen]; omega) (fun a ha => (hd a ha).1)) ?_
      refine Evt.ite_pos rfl ((Evt.pure _).congr (fun k => rfl) ?_)
      rw [e1, e2, str_inj encM_dig encM_dig, beq_iff_eq, decide_eq_decide]
      constructor
      · rintro ⟨rfl, rfl, rfl, rfl, rfl, rfl, rfl⟩
        rfl
      · exact encM_inj r1 r2 (fun a ha => (hd a ha).2) (fun a ha => (kd a ha).2)
    · exact Evt.ite_neg c2 (Evt.pure _)
  · exact Evt.ite_neg c1 (Evt.pure _)
end Go.Proofs.Ytkgaejigpmkfkab.Pure
end
section
namespace Go.Proofs.YtkgaejigpmkfkabW.PrintWords
open Go.ChangeShapes Go.WideShapes
end Go.Proofs.YtkgaejigpmkfkabW.PrintWords
end
section
namespace Go.Proofs.Ytkgaejigpmkfkab.wireApart
open Go.ChangeShapes Go.WideShapes Go.ChangeAt Go.RowKit Go.Proofs.Ytkgaejigpmkfkab.F Go.Proofs.YtkgaejigpmkfkabW.PrintWords
set_option linter.unusedSimpArgs false
open Go.ChangeMaps (open_string shut_string)
set_option linter.unusedVariables false
theorem own : ownKnob Try.prog.godebug = none := by kernel_rfl
theorem laidOut : laidOutB Try.prog = true := by kernel_rfl
set_option maxRecDepth 100000 in
theorem lifted (os : Os) (started : os.Started) (H : Type) (enc : TypeId × Value → H) :
    ReturnsInHanded {} Try.checked os 5 .any (Rows.wireApartSpec.pre6 enc Try.prog Try.f5 Rows.wireApartRow.domain false) (Rows.wireApartSpec.post enc Try.prog Try.f5 false true false false) := by
  refine returnsInHanded_of_change_sized (C := Try.checked) own started (by kernel_rfl) Try.func5
    (ChangeSpec.witness6 (enc := enc) (C := Try.checked) false ⟨#[], #[.agg #[.int .i64 0, .int .i64 0, .int .i64 0, .int .i64 0, .slice none 0 0, .slice none 0 0, .slice none 0 0], .agg #[.int .i64 0, .int .i64 0, .int .i64 0, .int .i64 0, .slice none 0 0, .slice none 0 0, .slice none 0 0]], []⟩ 8 (by kernel_rfl) (by kernel_rfl) (by kernel_rfl) (by kernel_rfl)) ?_
  intro W base args ds gs before hval0 hW hcnd hsz0 _
  have hsz : (DataW.weightsEach Try.prog (Try.f5.params.toList ++ Rows.wireApartSpec.plain.varTypes Try.prog) (ds ++ gs)).all (· ≤ reachBytes) = true := hsz0
  have hval : ∀ (j : Nat) t v, Try.f5.params[j]? = some t → args[j]? = some v → Value.okWide Try.prog W .any base t v := hval0
  have hW' := hW
  obtain ⟨p, q, hA0, hV, rfl, hfz, hnd⟩ := hW
  have hA : DataW.TrodAll enc Try.prog W 0 (fun _ => true) true Try.f5.params.toList args.toList ds p := hA0
  rw [Try.params5] at hA hval hsz
  obtain ⟨v0, vs0, d0, ds0, p0, q0, hargs, rfl, rfl, h0, r0⟩ := trodAll_cons hA
  obtain ⟨v1, vs1, d1, ds1, p1, q1, rfl, rfl, rfl, h1, r1⟩ := trodAll_cons r0
  obtain ⟨rfl, rfl, rfl⟩ := trodAll_nil r1
  obtain rfl : args = #[v0, v1] := by cases args; simp_all
  obtain ⟨rfl, rfl⟩ := trodVars_none hV
  obtain ⟨cs0, rfl, _⟩ := okWide_struct Try.underlying25 (hval 0 25 v0 rfl rfl)
  have k0 := h0
  have lt0 : ∀ x ∈ p0, x.block < W.heap.size := by obtain ⟨m, hm⟩ := k0; exact DataW.trod_lt m _ _ _ hm
  obtain ⟨m0, hm0⟩ := h0
  obtain ⟨x0, hK0, ok0⟩ := (Opens.struct7 Try.underlying25 (by kernel_rfl) rfl (by kernel_rfl) rfl (by kernel_rfl) rfl (by kernel_rfl) rfl (by kernel_rfl) rfl (by kernel_rfl) rfl (by kernel_rfl) rfl (by kernel_rfl) (Opens.int Try.underlying3) (Opens.int Try.underlying3) (Opens.int Try.underlying3) (Opens.int Try.underlying3) (Opens.slice Try.underlying22 (by kernel_rfl) (Opens.int Try.underlying3)) (Opens.slice Try.underlying22 (by kernel_rfl) (Opens.int Try.underlying3)) (Opens.slice Try.underlying23 (by kernel_rfl) (Opens.slice Try.underlying42 (by kernel_rfl) (Opens.int Try.underlying48)))) enc W true m0 _ _ hm0
  obtain ⟨cs1, rfl, _⟩ := okWide_struct Try.underlying25 (hval 1 25 v1 rfl rfl)
  have k1 := h1
  have lt1 : ∀ x ∈ p1, x.block < W.heap.size := by obtain ⟨m, hm⟩ := k1; exact DataW.trod_lt m _ _ _ hm
  obtain ⟨m1, hm1⟩ := h1
  obtain ⟨x1, hK1, ok1⟩ := (Opens.struct7 Try.underlying25 (by kernel_rfl) rfl (by kernel_rfl) rfl (by kernel_rfl) rfl (by kernel_rfl) rfl (by kernel_rfl) rfl (by kernel_rfl) rfl (by kernel_rfl) rfl (by kernel_rfl) (Opens.int Try.underlying3) (Opens.int Try.underlying3) (Opens.int Try.underlying3) (Opens.int Try.underlying3) (Opens.slice Try.underlying22 (by kernel_rfl) (Opens.int Try.underlying3)) (Opens.slice Try.underlying22 (by kernel_rfl) (Opens.int Try.underlying3)) (Opens.slice Try.underlying23 (by kernel_rfl) (Opens.slice Try.underlying42 (by kernel_rfl) (Opens.int Try.underlying48)))) enc W true m1 _ _ hm1
  clear hA0 hval0 hsz0 hsz
  refine (F.windbreaklaw12_WireApart.row Pure.WireApart W cs0 x0 hK0 ok0 cs1 x1 hK1 ok1).mono fun e W' ⟨he, bel⟩ => ?_
  subst he
  exact ⟨_, rfl, _, _, _, [], _, [], hW', trodAll_mk1 (shut_bool Try.underlying4 _), (trodAll_cons_mk (Below.trod laidOut (by kernel_rfl) (of_decide_eq_true (by kernel_rfl)) k0 bel lt0) (trodAll_cons_mk (Below.trod laidOut (by kernel_rfl) (of_decide_eq_true (by kernel_rfl)) k1 bel lt1) trodAll_mk0)), rfl, bel.frame _, fun h => by cases h⟩
theorem over : Rows.wireApartRow.holds Try.pinned (OpenSpec.ofChange Rows.wireApartSpec) :=
  OpenClaim.holds_of_wide 5 Try.f5 rfl rfl rfl rfl rfl rfl rfl ⟨rfl, rfl, rfl, rfl, rfl⟩ rfl rfl rfl rfl rfl (by kernel_rfl) Try.func5 (by kernel_rfl)
    (of_decide_eq_true (by kernel_rfl)) (by unfold Func.isWrapper; first | (rw [if_pos (by decide +kernel)]; kernel_rfl) | (rw [if_neg (by decide +kernel)]; exact ⟨rfl, rfl⟩))
    (fun os started H enc _ => lifted os started H enc)
theorem proved : Rows.WireApartSaid := over
#print axioms proved
end Go.Proofs.Ytkgaejigpmkfkab.wireApart
namespace Go.Proofs.Ytkgaejigpmkfkab
theorem wireApart_holds : Rows.WireApartSaid := wireApart.proved
end Go.Proofs.Ytkgaejigpmkfkab
end
