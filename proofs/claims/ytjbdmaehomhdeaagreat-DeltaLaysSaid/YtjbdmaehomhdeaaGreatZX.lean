/- delta.Flat. -/
import Derived.Test.YtjbdmaehomhdeaaGreatG15
set_option linter.unusedSimpArgs false
set_option linter.unusedVariables false
namespace Go.Proofs.YtjbdmaehomhdeaaGreat
open Go.RowKit Go.Shelf
attribute [local go_sem] Oper.semAt_some

set_option maxRecDepth 100000 in
set_option maxHeartbeats 20000000 in
theorem delta_Flat (l : List NV) (A : Option Addr) (c lo : Nat) (w : World) (hN : Nodes w lo w.heap.size A l) (hc : l.length ≤ c) (hl : l.length ≤ 140737488351232) :
    Calls Tryz.prog 23 #[.slice A l.length c] w (PostFl w (flatL l)) := by
  have HN := Lib.hid hN
  have HC := Lib.hid hc
  have HLL := Lib.hid hl
  clear hN hc hl
  obtain ⟨ln, hln⟩ : ∃ n, n = l.length := ⟨_, rfl⟩
  rw [← hln]
  have HL := Lib.hid hln
  clear hln
  refine (callsIn_wide (n := 3)).1 (callsIn_of_wp_marks Tryz.func23 rfl trivial (wpIn_wide.2 ?_))
  simp only [Tryz.ntmps23, List.size_toArray, List.length_cons, List.length_nil, Nat.reduceAdd, Nat.reduceSub, Array.replicate_succ, Array.replicate_zero, List.push_toArray, List.append_toArray, List.nil_append, List.cons_append]
  have hF := (Fr.three w 27 3 35 #[Value.int IntKind.i64 0, Value.string { data := #[] }, Value.string { data := #[] }, Value.bool false, Value.int IntKind.i64 0, Value.slice none 0 0, Value.slice none 0 0] #[.int .i64 0] #[.int .i64 0]).alloc (by simp) 96 #[.func (.func 49) #[] #[]]
  have hst : ∀ (W : World) (ad : Addr), (store ad (.func (.func 49) #[] #[])).run Tryz.prog W = stored Tryz.prog W ad (.func (.func 49) #[] #[]) .plain := fun W ad => run_store _ W ad _ _ rfl
  go_upto_region 2 with (fail)
  clear hst
  generalize (((w.alloc (.cells #[Value.int IntKind.i64 0, Value.string { data := #[] }, Value.string { data := #[] }, Value.bool false, Value.int IntKind.i64 0, Value.slice none 0 0, Value.slice none 0 0] 27)).alloc (.cells #[.int .i64 0] 3)).alloc (.cells #[.int .i64 0] 35)).alloc (.cells #[.func (.func 49) #[] #[]] 96) = w0 at *
  have HF0 : Hid (Fr w w0 [(27, #[Value.int IntKind.i64 0, Value.string { data := #[] }, Value.string { data := #[] }, Value.bool false, Value.int IntKind.i64 0, Value.slice none 0 0, Value.slice none 0 0]), (3, #[.int .i64 0]), (35, #[.int .i64 0]), (96, #[.func (.func 49) #[] #[]])]) := Lib.hid hF
  clear hF
  go_cut [29] from 12 to 101 (fun v wx => v = .bool (!flatB l) ∧ w0 = wx)
  case first =>
    by_cases h1 : (ln : Int) < 1
    · have H1 := Lib.hid h1
      go_wp2
      go_meet
      exact ⟨by unfold flatB; rw [← HL.out, decide_eq_false (by have := H1.out; omega)]; rfl, rfl⟩
    · by_cases h2 : (64 : Int) < (ln : Int)
      · have H1 := Lib.hid h2
        go_wp2
        go_meet
        exact ⟨by unfold flatB; rw [← HL.out, decide_eq_false (p := ln ≤ 64) (by have := H1.out; omega)]; simp, rfl⟩
      · have hw1 : IntKind.i64.wrap ((ln : Int) - 1) = (ln : Int) - 1 := by rw [IntKind.wrap_i64]; omega
        obtain ⟨ad, x, hA, hx, _, _, c0, c1⟩ := (HN.out.below HF0.out.be).row.node (i := ln - 1) (by rw [← HL.out]; omega)
        subst hA
        have HX : Hid (flatB l = x.base) := Lib.hid (flatB_eq (by rw [← HL.out]; omega) (by rw [← HL.out]; omega) (by rw [← HL.out, hx.out]; exact List.getElem?_eq_getElem _))
        go_wp2
        go_meet
        exact ⟨by rw [HX.out], rfl⟩
  case rest =>
    obtain ⟨rfl, rfl⟩ := hcut
    cases hfb : flatB l with
    | false =>
      have HFB : Hid (flatL l = (Page.zero, 0, 112)) := Lib.hid (by unfold flatL; rw [hfb]; cases l.getLast? <;> rfl)
      clear hfb
      have k3 := HF0.out.b3.cell 0
      simp only [List.getElem?_toArray, List.getElem?_cons_zero] at k3
      go_wp2_with fail
      refine (flat_none _).mono ?_
      rintro e w1 ⟨rfl, hb1⟩
      have HFX := Lib.hid (HF0.out.on hb1)
      clear hb1 k3
      have q1 := HFX.out.b1.cell 0
      have q2 : w1.cell? ⟨w.heap.size + 1 + 1, 0, none⟩ = some (.int .i64 0) := HFX.out.b2.cell 0
      have r1 := HFX.out.b1.frozen 0
      have r2 : w1.frozen? ⟨w.heap.size + 1 + 1, 0, none⟩ = false := HFX.out.b2.frozen 0
      simp only [List.getElem?_toArray, List.getElem?_cons_zero] at q1
      go_wp2_with (refine wpList_store_row rfl 27 _ _ rfl rfl (w.heap.size) rfl _ _ _ rfl HFX.out.b0 rfl (by kernel_rfl) (List.all_eq_true.1 rfl) ?_; rintro w2 hT2 hB2; have HFY := Lib.hid (HFX.out.t0 hT2 hB2); have q1 := HFY.out.b1.cell 0; have q2 : w2.cell? ⟨w.heap.size + 1 + 1, 0, none⟩ = some (.int .i64 0) := HFY.out.b2.cell 0; have r1 := HFY.out.b1.frozen 0; have r2 : w2.frozen? ⟨w.heap.size + 1 + 1, 0, none⟩ = false := HFY.out.b2.frozen 0; simp only [List.getElem?_toArray, List.getElem?_cons_zero] at q1)
      have hfin := (Held.bad ((HFY.out.set1 0 _ rfl).set2 0 (.int .i64 112) rfl))
      rw [← HFB.out] at hfin
      exact hfin.ret rfl rfl rfl
    | true =>
      have hfl := hfb
      unfold flatB at hfl
      simp only [Bool.and_eq_true, decide_eq_true_eq] at hfl
      rw [← HL.out] at hfl
      obtain ⟨hl1, hl2, _⟩ := hfl
      obtain ⟨x, hx⟩ : ∃ x, l[ln - 1]? = some x := ⟨_, List.getElem?_eq_getElem (by rw [← HL.out]; omega)⟩
      have HX := Lib.hid hx
      have HFBT := Lib.hid hfb
      have HLAST : Hid (l.getLast? = some x) := Lib.hid (by rw [List.getLast?_eq_getElem?, ← HL.out]; exact hx)
      obtain ⟨hby1, hby2, hby3, hby4⟩ := HN.out.by_ x (List.mem_of_getElem? hx)
      have HDEC := Lib.hid (fun (W : World) (h : Below w.heap.size w W) => page_Decode lo x.c x.A x.bs W ((hby1.below h).mono (Nat.le_refl _) h.size) hby2 hby3 hby4)
      clear hx hfb hby1 hby2 hby3 hby4
      have hw1 : IntKind.i64.wrap ((ln : Int) - 1) = (ln : Int) - 1 := by rw [IntKind.wrap_i64]; omega
      obtain ⟨ad, x', hA, hx', _, _, c0, c1⟩ := (HN.out.below HF0.out.be).row.node (i := ln - 1) (by rw [← HL.out]; omega)
      subst hA
      have hxx : x' = x := by
        have := HX.out
        rw [List.getElem?_eq_getElem (by rw [← HL.out]; omega)] at this
        injection this with this
        exact hx'.out.trans this
      subst hxx
      clear hx'
      go_wp2_with fail
      refine (HDEC.out w0 HF0.out.be).mono ?_
      rintro e w1 ⟨B, B', b, b', rfl, hP, hb1⟩
      obtain ⟨p0, hp0⟩ : ∃ p, p = decoded x'.bs := ⟨_, rfl⟩
      obtain ⟨ec, hec⟩ : ∃ e, e = decodeE x'.bs := ⟨_, rfl⟩
      rw [← hp0] at hP
      rw [← hp0, ← hec]
      have HP0 := Lib.hid hp0
      have HEC := Lib.hid hec
      have HPG := Lib.hid hP
      have HF1 := Lib.hid (HF0.out.on hb1)
      have hs01 := HF0.out.sz
      have hs12 : w0.heap.size ≤ w1.heap.size := hb1.size
      simp only [List.length_cons, List.length_nil] at hs01
      clear hp0 hec hP hb1 c0 c1
      have HVAL : Hid (p0.val B b B' b' = .agg (p0.cellsV B b B' b')) := Lib.hid rfl
      rw [HVAL.out]
      have HB6 : Hid (Blk (w1.alloc (.cells #[Value.int IntKind.i64 0, Value.string { data := #[] }, Value.string { data := #[] }, Value.bool false, Value.int IntKind.i64 0, Value.slice none 0 0, Value.slice none 0 0] 27)) w1.heap.size 27 #[Value.int IntKind.i64 0, Value.string { data := #[] }, Value.string { data := #[] }, Value.bool false, Value.int IntKind.i64 0, Value.slice none 0 0, Value.slice none 0 0]) := Lib.hid (Blk.new _ _ _)
      have HF2 := Lib.hid (HF1.out.later (.cells #[Value.int IntKind.i64 0, Value.string { data := #[] }, Value.string { data := #[] }, Value.bool false, Value.int IntKind.i64 0, Value.slice none 0 0, Value.slice none 0 0] 27))
      go_upto_region 5 with (refine wpList_store_row rfl 27 _ _ rfl rfl (w1.heap.size) rfl _ (p0.cellsV B b B' b') _ rfl HB6.out rfl (by kernel_rfl) (List.all_eq_true.1 rfl) ?_; rintro w2 hT2 hB2)
      have HBP := Lib.hid hB2
      have HF3 : Hid (Fr w w2 [(27, #[Value.int IntKind.i64 0, Value.string { data := #[] }, Value.string { data := #[] }, Value.bool false, Value.int IntKind.i64 0, Value.slice none 0 0, Value.slice none 0 0]), (3, #[.int .i64 0]), (35, #[.int .i64 0]), (96, #[.func (.func 49) #[] #[]])]) := Lib.hid (HF2.out.on' (B := w.heap.size + 4) (hT2.below (Below.refl _ _) (by omega) (by simp; omega)) (Nat.le_refl _) (by simp; omega))
      have HPG2 : Hid (Pg w2 w.heap.size w2.heap.size p0 B B' b b') := Lib.hid (HPG.out.later (w := w) (by omega) (fun k _ h2 => (hT2.other (by omega)).trans (((Below.refl w1.heap.size w1).alloc (Nat.le_refl _) (.cells #[Value.int IntKind.i64 0, Value.string { data := #[] }, Value.string { data := #[] }, Value.bool false, Value.int IntKind.i64 0, Value.slice none 0 0, Value.slice none 0 0] 27)).block k h2)) (by rw [hT2.sz]; simp))
      have HPG3 : Hid (Pg w2 w0.heap.size w1.heap.size p0 B B' b b') := Lib.hid ⟨HPG.out.items.keep (fun q _ h2 => World.cell?_of_block ((hT2.other (by omega)).trans (((Below.refl w1.heap.size w1).alloc (Nat.le_refl _) (.cells #[Value.int IntKind.i64 0, Value.string { data := #[] }, Value.string { data := #[] }, Value.bool false, Value.int IntKind.i64 0, Value.slice none 0 0, Value.slice none 0 0] 27)).block q.block h2))), HPG.out.kids.keep (fun q _ h2 => World.cell?_of_block ((hT2.other (by omega)).trans (((Below.refl w1.heap.size w1).alloc (Nat.le_refl _) (.cells #[Value.int IntKind.i64 0, Value.string { data := #[] }, Value.string { data := #[] }, Value.bool false, Value.int IntKind.i64 0, Value.slice none 0 0, Value.slice none 0 0] 27)).block q.block h2))), HPG.out.li, HPG.out.lk, HPG.out.bi, HPG.out.bk⟩
      have hs2 : w2.heap.size = w1.heap.size + 1 := by rw [hT2.sz]; simp
      obtain ⟨g6, hg6⟩ : ∃ g, g = w1.heap.size := ⟨_, rfl⟩
      rw [← hg6] at HBP HPG3 hs2
      rw [← hg6]
      have hg61 : w.heap.size + 4 ≤ g6 := by omega
      clear hT2 hB2 HF2 HB6 HF1 hg6 hs12
      by_cases he : ec = 0
      · subst he
        have HSUM : Hid (flatL l = flatGo p0 ((down (ln - 1)).map fun i => (i.1, l[i.1]?.getD ⟨false, none, 0, []⟩))) := Lib.hid (by
          unfold flatL
          rw [HLAST.out]
          simp only []
          rw [HFBT.out, ← HEC.out, ← HP0.out, ← HL.out]; rfl)
        have SL : ∀ W, (Instr.slice 51 (.slice (some ad) ln c) none (some (.int .i64 ((ln : Int) - 1))) none).run Tryz.prog W = .ok (.slice (some ad) (ln - 1) c) W := fun W => run_slice_high W _ 34 2 Tryz.underlying51 (by kernel_rfl) (some ad) ln c _ (ln - 1) (by omega) (by have := HC.out; rw [← HL.out] at this; omega)
        have HS2 := Lib.hid hs2
        clear hs2
        go_wp2_with (go_at_call 51; refine ((callsIn_wide (n := 3)).1 (back_in Fence.wide 3 trivial rfl (some ad) (ln - 1) c w2)).mono ?_; rintro e w3 ⟨rfl, rfl⟩)
        have hs2 := HS2.out
        have HF4 := Lib.hid (HF3.out.later (.cells #[.slice (some ad) (ln - 1) c] 51))
        have HB4 := Lib.hid (HBP.out.alloc (.cells #[.slice (some ad) (ln - 1) c] 51))
        have hbx : (w2.alloc (.cells #[.slice (some ad) (ln - 1) c] 51)).cell? ⟨w2.heap.size, 0, none⟩ = some (.slice (some ad) (ln - 1) c) := (Blk.new w2 51 #[.slice (some ad) (ln - 1) c]).cell 0
        have HPG4 : Hid (Pg (w2.alloc (.cells #[.slice (some ad) (ln - 1) c] 51)) (w.heap.size + 4) (w2.alloc (.cells #[.slice (some ad) (ln - 1) c] 51)).heap.size p0 B B' b b') := Lib.hid ((HPG3.out.mono hs01 (by rw [hs2]; omega)).below (hi := w2.heap.size) ((Below.refl _ _).alloc (Nat.le_refl _) _) |>.mono (Nat.le_refl _) (by simp))
        have hs4 : (w2.alloc (.cells #[.slice (some ad) (ln - 1) c] 51)).heap.size = w2.heap.size + 1 := by simp
        have hg62 : g6 < w2.heap.size := by omega
        generalize w2.alloc (.cells #[.slice (some ad) (ln - 1) c] 51) = w4 at *
        generalize hbs : w2.heap.size = bs at *
        refine (wpIn_wide (n := 3)).1 ?_
        refine wpIn_rangeFunc_at (F := Fence.wide) (n := 3) rfl (by decide) (gf := 82) (lb := #[.pointer (some ⟨bs, 0, none⟩)]) rfl trivial (enters_of Tryz.func82 (by kernel_rfl) rfl)
          (back_stops Fence.wide (3 - 1) trivial rfl (by decide) bs w.heap.size lo w.heap.size l (some ad) (ln - 1) c (by rw [← HL.out]; omega) (by omega) (Nat.le_refl _) w4 (by omega) HF4.out.be.size hbx (HN.out.row.below HF4.out.be)) KB.trans (KB.b HF4.out.be.size (by omega)) (Below.refl _ _) (fun _ => rfl)
          (fun pre W => ∃ q B B' b b', flatRun p0 (pre.map fun i => (i.1, l[i.1]?.getD ⟨false, none, 0, []⟩)) = some q ∧ w4.heap.size ≤ W.heap.size ∧ Fr w W [(27, #[Value.int IntKind.i64 0, Value.string { data := #[] }, Value.string { data := #[] }, Value.bool false, Value.int IntKind.i64 0, Value.slice none 0 0, Value.slice none 0 0]), (3, #[.int .i64 0]), (35, #[.int .i64 0]), (96, #[.func (.func 49) #[] #[]])] ∧ Blk W g6 27 (q.cellsV B b B' b') ∧ Pg W (w.heap.size + 4) W.heap.size q B B' b b')
          (fun cd pre W => cd = .ret ∧ ∃ R, (∀ r, flatGo p0 (pre.map (fun i => (i.1, l[i.1]?.getD ⟨false, none, 0, []⟩)) ++ r) = R) ∧ Held w R W)
          ?ownI ?ownIx ⟨p0, B, B', b, b', rfl, Nat.le_refl _, HF4.out, HB4.out, HPG4.out⟩
          (fun a x a' W => ∃ Bx, w4.heap.size ≤ Bx ∧ Blk W Bx 34 (l[x.1]?.getD ⟨false, none, 0, []⟩).cells.toArray ∧ a' = { tmps := (((a.tmps.setIfInBounds 59 (.int .i64 (x.1 : Int))).setIfInBounds 60 (l[x.1]?.getD ⟨false, none, 0, []⟩).val).setIfInBounds 8 (.int .i64 (x.1 : Int))).setIfInBounds 9 (.pointer (some ⟨Bx, 0, none⟩)), defers := [] })
          ?ownAx ?assign ?body ?done ?stop
        case ownI =>
          rintro pre W W' row ⟨q, B, B', b, b', h1, h0, h2, h3, h4⟩ hg hr
          have hk := Kept.of hg (fun r e => (hr r e).2)
          exact ⟨q, B, B', b, b', h1, Nat.le_trans h0 hk.size, h2.grownRow hg (fun r e => ⟨Nat.le_trans HF4.out.be.size (hr r e).1, (hr r e).2⟩), hk.blk _ _ _ h3, h4.kept hk⟩
        case ownIx =>
          rintro cd pre W W' row ⟨h1, R, h2, h3⟩ hg hr
          exact ⟨h1, R, h2, h3.grownRow hg (fun r e => ⟨Nat.le_trans HF4.out.be.size (hr r e).1, (hr r e).2⟩)⟩
        case ownAx =>
          rintro x a' _ W W' row ⟨Bx, h1, h2, h3⟩ hg hr
          exact ⟨Bx, h1, (Kept.of hg (fun r e => (hr r e).2)).blk _ _ _ h2, h3⟩
        case assign =>
          rintro l0 pre x W K ⟨q, B, B', b, b', h1, h0, h2, h3, h4⟩ hK
          have HK := Lib.hid hK
          have HH2 := Lib.hid h2
          have HH3 := Lib.hid h3
          have HH4 := Lib.hid h4
          obtain ⟨nv, hnv⟩ : ∃ y, y = l[x.1]'(Nat.lt_of_lt_of_le x.2 (by rw [← HL.out]; omega)) := ⟨_, rfl⟩
          rw [← hnv]
          have HNV : Hid (l[x.1]?.getD ⟨false, none, 0, []⟩ = nv) := Lib.hid (by rw [hnv, List.getElem?_eq_getElem]; rfl)
          clear hK h2 h3 h4 hnv
          unfold NV.val
          gi_wp2
          refine HK.out _ _ ((KeepsOthers.alloc _ _).from _) ⟨(Below.refl _ _).alloc HH2.out.be.size _, ((Below.refl W.heap.size W).alloc (Nat.le_refl _) _).block bs (by omega)⟩ ⟨q, B, B', b, b', h1, by simp; omega, HH2.out.later _, HH3.out.alloc _, (HH4.out.below ((Below.refl _ _).alloc (Nat.le_refl _) _)).mono (Nat.le_refl _) (by simp)⟩ ⟨W.heap.size, h0, ?_, ?_⟩
          · rw [HNV.out]; exact Blk.new _ _ _
          · rw [HNV.out]; simp only [List.setIfInBounds_toArray, List.set_cons_succ, List.set_cons_zero, NV.val]
            simp
        case body =>
          rintro l0 pre x a' W hl0 - ⟨q, B, B', b, b', h1, h0, h2, h3, h4⟩ ⟨Bx, hBx, hbx, rfl⟩ -
          simp only [List.setIfInBounds_toArray, List.set_cons_succ, List.set_cons_zero]
          have hxl : x.1 < l.length := Nat.lt_of_lt_of_le x.2 (by rw [← HL.out]; omega)
          obtain ⟨nv, hnv⟩ : ∃ y, y = l[x.1] := ⟨_, rfl⟩
          have HNV : Hid (l[x.1]?.getD ⟨false, none, 0, []⟩ = nv) := Lib.hid (by rw [hnv, List.getElem?_eq_getElem hxl]; rfl)
          obtain ⟨hby1, hby2, hby3, hby4⟩ := HN.out.by_ nv (by rw [hnv]; exact List.getElem_mem hxl)
          have HDD := Lib.hid (fun (V : World) (h : Below w.heap.size w V) => delta_Decode lo nv.c nv.base nv.A nv.bs V ((hby1.below h).mono (Nat.le_refl _) h.size) hby2 hby3 hby4)
          rw [HNV.out] at hbx
          rw [HNV.out]
          have n0 := hbx.cell 0
          have n1 := hbx.cell 1
          simp only [NV.cells, List.getElem?_toArray, List.getElem?_cons_zero, List.getElem?_cons_succ] at n0 n1
          unfold NV.val
          have HA1 := Lib.hid h1
          have HA2 := Lib.hid h2
          have HA3 := Lib.hid h3
          have HA4 := Lib.hid h4
          have HRN : Hid (Rn w.heap.size bs W W) := Lib.hid (Rn.start h2.be.size (by omega))
          clear h1 h2 h3 h4 hbx hby1 hby2 hby3 hby4 hnv
          gi_wp2_with fail
          refine ⟨trivial, (CallsIn.inRound l0 (callsIn_wide.2 (HDD.out W HA2.out.be))).mono ?_⟩
          rintro e w1 ⟨D, D', e1, e1', rfl, hP, hb1⟩
          obtain ⟨dd, hdd⟩ : ∃ p, p = decodedD nv.base nv.bs := ⟨_, rfl⟩
          obtain ⟨de, hde⟩ : ∃ e, e = decodeDE nv.base nv.bs := ⟨_, rfl⟩
          rw [← hdd] at hP
          rw [← hdd, ← hde]
          have HDE := Lib.hid (show nv.d = dd ∧ decodeDE nv.base nv.bs = de from ⟨hdd.symm, hde.symm⟩)
          rw [show dd.val D e1 D' e1' = .agg (dd.cellsV D e1 D' e1') from rfl]
          obtain ⟨DC, hDC⟩ : ∃ v, v = dd.cellsV D e1 D' e1' := ⟨_, rfl⟩
          rw [← hDC]
          have HDC := Lib.hid hDC
          have HPD := Lib.hid hP
          have hsw := HA2.out.sz
          simp only [List.length_cons, List.length_nil] at hsw
          have hs1 : W.heap.size ≤ w1.heap.size := hb1.size
          have HF1 := Lib.hid (HA2.out.on hb1)
          have HG1 := Lib.hid (HA3.out.below hb1 HA3.out.lt)
          have HQ1 := Lib.hid ((HA4.out.below hb1).mono (Nat.le_refl _) hs1)
          have HR1 := Lib.hid (HRN.out.call hb1)
          clear hdd hde hDC hP hb1 n0 n1
          have HZB : Hid (Blk (w1.alloc (.cells #[Value.int IntKind.i64 0, Value.string { data := #[] }, Value.string { data := #[] }, Value.int IntKind.i64 0, Value.bool false, Value.string { data := #[] }, Value.int IntKind.i64 0, Value.int IntKind.i64 0, Value.string { data := #[] }, Value.string { data := #[] }, Value.bool false, Value.int IntKind.i64 0, Value.slice none 0 0, Value.slice none 0 0] 29)) w1.heap.size 29 #[Value.int IntKind.i64 0, Value.string { data := #[] }, Value.string { data := #[] }, Value.int IntKind.i64 0, Value.bool false, Value.string { data := #[] }, Value.int IntKind.i64 0, Value.int IntKind.i64 0, Value.string { data := #[] }, Value.string { data := #[] }, Value.bool false, Value.int IntKind.i64 0, Value.slice none 0 0, Value.slice none 0 0]) := Lib.hid (Blk.new _ _ _)
          have hsz2 : (w1.alloc (.cells #[Value.int IntKind.i64 0, Value.string { data := #[] }, Value.string { data := #[] }, Value.int IntKind.i64 0, Value.bool false, Value.string { data := #[] }, Value.int IntKind.i64 0, Value.int IntKind.i64 0, Value.string { data := #[] }, Value.string { data := #[] }, Value.bool false, Value.int IntKind.i64 0, Value.slice none 0 0, Value.slice none 0 0] 29)).heap.size = w1.heap.size + 1 := by simp
          obtain ⟨g10, hg10⟩ : ∃ g, g = w1.heap.size := ⟨_, rfl⟩
          have HG10 := Lib.hid hg10
          clear hg10
          have HAR : Hid (∀ w2, Turned (w1.alloc (.cells #[Value.int IntKind.i64 0, Value.string { data := #[] }, Value.string { data := #[] }, Value.int IntKind.i64 0, Value.bool false, Value.string { data := #[] }, Value.int IntKind.i64 0, Value.int IntKind.i64 0, Value.string { data := #[] }, Value.string { data := #[] }, Value.bool false, Value.int IntKind.i64 0, Value.slice none 0 0, Value.slice none 0 0] 29)) w2 w1.heap.size → Fr w w2 [(27, #[Value.int IntKind.i64 0, Value.string { data := #[] }, Value.string { data := #[] }, Value.bool false, Value.int IntKind.i64 0, Value.slice none 0 0, Value.slice none 0 0]), (3, #[.int .i64 0]), (35, #[.int .i64 0]), (96, #[.func (.func 49) #[] #[]])] ∧ Blk w2 g6 27 (q.cellsV B b B' b') ∧ Pg w2 (w.heap.size + 4) w2.heap.size q B B' b b' ∧ Pg w2 W.heap.size w2.heap.size dd.right D D' e1 e1' ∧ Rn w.heap.size bs W w2 ∧ w2.heap.size = w1.heap.size + 1) := Lib.hid fun w2 hT => by
            have hg6l := HG1.out.lt
            have hB : Below w1.heap.size w1 w2 := hT.below ((Below.refl _ _).alloc (Nat.le_refl _) _) (Nat.le_refl _) (by rw [hsz2]; omega)
            refine ⟨HF1.out.on hB, HG1.out.below hB hg6l, (HQ1.out.below hB).mono (Nat.le_refl _) hB.size, (HPD.out.below hB).mono (Nat.le_refl _) hB.size, (HR1.out.alloc _).turn hT HZB.out (by omega) (by omega), by rw [hT.sz, hsz2]⟩
          have HFLAT : Hid (∀ R, (∀ r, flatGo q ((x.1, nv) :: r) = R) → ∀ r, flatGo p0 ((pre ++ [x]).map (fun i => (i.1, l[i.1]?.getD ⟨false, none, 0, []⟩)) ++ r) = R) := Lib.hid fun R hR r => by
            rw [List.map_append, List.append_assoc, flatGo_run _ _ _ _ HA1.out]
            show flatGo q ((x.1, l[x.1]?.getD ⟨false, none, 0, []⟩) :: r) = R
            rw [HNV.out]
            exact hR r
          by_cases hde0 : de = 0
          · subst hde0
            gi_wp2_with (first
              | (refine wpListIn_load_row rfl 27 _ rfl g6 rfl 27 _ _ HG2.out Tryz.underlying27 rfl (by kernel_rfl) ?_)
              | (refine wpListIn_load_row rfl 29 _ rfl (w1.heap.size) rfl 29 _ _ HD2.out Tryz.underlying29 rfl (by rw [HDC.out]; kernel_rfl) ?_)
              | (refine wpListIn_store_row rfl 29 _ _ rfl rfl (w1.heap.size) rfl 29 DC _ rfl HZB.out (by rw [HDC.out]; rfl) (by rw [HDC.out]; kernel_rfl) (by rw [HDC.out]; exact List.all_eq_true.1 rfl) ?_; rintro w2 hT2 hB2; obtain ⟨hF2, hG2, hQ2, hP2, hR2, hsz3⟩ := HAR.out w2 hT2; have HF2 := Lib.hid hF2; have HG2 := Lib.hid hG2; have HQ2 := Lib.hid hQ2; have HP2 := Lib.hid hP2; have HR2 := Lib.hid hR2; have HD2 := Lib.hid hB2; clear hF2 hG2 hQ2 hP2 hR2 hT2 hB2))
            have HAP := delta_Apply q dd B B' D D' b b' e1 e1' (w.heap.size + 4) W.heap.size w2 HQ2.out HP2.out
            rw [Page.val_eq, show dd.val D e1 D' e1' = .agg (dd.cellsV D e1 D' e1') from rfl, ← HDC.out] at HAP
            refine ⟨trivial, (CallsIn.inRound l0 (callsIn_wide.2 HAP)).mono ?_⟩
            clear HAP
            rintro e w3 ⟨E, E', d1, d1', rfl, hP3, hb3⟩
            obtain ⟨q2, hq2⟩ : ∃ p, p = dd.applyP q := ⟨_, rfl⟩
            obtain ⟨ea, hea⟩ : ∃ e, e = dd.applyE q := ⟨_, rfl⟩
            rw [← hq2] at hP3
            rw [← hq2, ← hea, Page.val_eq]
            have HQE := Lib.hid hq2
            have HEA := Lib.hid hea
            have HP3 := Lib.hid hP3
            have HF3' := Lib.hid (HF2.out.on hb3)
            have HG3 := Lib.hid (HG2.out.below hb3 HG2.out.lt)
            have HD3 := Lib.hid (HD2.out.below hb3 HD2.out.lt)
            have HPD3 := Lib.hid ((HP2.out.below hb3).mono (Nat.le_refl _) hb3.size)
            have HR3 := Lib.hid (HR2.out.call hb3)
            have hs23 : w2.heap.size ≤ w3.heap.size := hb3.size
            have hs2' : w1.heap.size < w2.heap.size := HD2.out.lt
            clear hq2 hea hP3 hb3
            have HAR4 : Hid (∀ w4', Turned w3 w4' g6 → Blk w4' g6 27 (q2.cellsV E d1 E' d1') → Fr w w4' [(27, #[Value.int IntKind.i64 0, Value.string { data := #[] }, Value.string { data := #[] }, Value.bool false, Value.int IntKind.i64 0, Value.slice none 0 0, Value.slice none 0 0]), (3, #[.int .i64 0]), (35, #[.int .i64 0]), (96, #[.func (.func 49) #[] #[]])] ∧ Pg w4' (w.heap.size + 4) w4'.heap.size q2 E E' d1 d1' ∧ Blk w4' w1.heap.size 29 DC ∧ Pg w4' (g6 + 1) w4'.heap.size dd.right D D' e1 e1' ∧ Rn w.heap.size bs W w4' ∧ w4'.heap.size = w3.heap.size) := Lib.hid fun w4' hT hB => by
              have hg6w : g6 < w1.heap.size := HG1.out.lt
              have hg6W : g6 < W.heap.size := HA3.out.lt
              exact ⟨HF3'.out.on' (B := w.heap.size + 4) (hT.below (Below.refl _ _) hg61 (by omega)) (Nat.le_refl _) (by omega), HP3.out.turned hT (by omega) (by omega), hT.blk HD3.out (by omega), HPD3.out.turned hT (by omega) (by omega), HR3.out.turn hT HG3.out (by omega) (by omega), hT.sz⟩
            by_cases hea0 : ea = 0
            · subst hea0
              have HOKQ : Hid (nv.okOn q = true) := Lib.hid (by unfold NV.okOn; rw [HDE.out.2, HDE.out.1, ← HEA.out]; rfl)
              have HKD : Hid (DC[0]? = some (.int .i64 dd.kind)) := Lib.hid (by rw [HDC.out]; rfl)
              by_cases hk5 : dd.kind = 5
              · by_cases hx0 : 0 < x.1
                · have hx0' : (0 : Int) < ((x.1 : Nat) : Int) := by omega
                  have HBADF : Hid (∀ r, flatGo q ((x.1, nv) :: r) = (Page.zero, 0, 112)) := Lib.hid fun r => by
                    rw [flatGo, HOKQ.out, HDE.out.1, decide_eq_true hk5, decide_eq_true hx0]; rfl
                  have hne5 : (dd.kind != 5) = false := by simpa using hk5
                  have HX0 := Lib.hid hx0'
                  gi_wp2_with (refine wpListIn_store_row rfl 27 _ _ rfl rfl g6 rfl 27 (q2.cellsV E d1 E' d1') _ rfl HG3.out rfl (by kernel_rfl) (List.all_eq_true.1 rfl) ?_; rintro w5 hT5 hB5; obtain ⟨hF5, hQ5, hD5, hP5, hR5, hsz5⟩ := HAR4.out w5 hT5 hB5; have HFb := Lib.hid hF5; have HQ5 := Lib.hid hQ5; have HD5 := Lib.hid hD5; have HP5 := Lib.hid hP5; have HRb := Lib.hid hR5; have HG5 := Lib.hid hB5; have kd : w5.cell? ⟨w1.heap.size, 0, none⟩ = some (.int .i64 dd.kind) := (hD5.cell 0).trans HKD.out; have k3 : w5.cell? ⟨w.heap.size + 1 + 1 + 1, 0, none⟩ = some (.func (.func 49) #[] #[]) := HFb.out.b3.cell 0; clear hF5 hQ5 hD5 hP5 hR5 hT5 hB5)
                  refine ⟨trivial, (CallsIn.inRound l0 (callsIn_wide.2 (flat_none _))).mono ?_⟩
                  rintro e wz ⟨rfl, hbz⟩
                  have HFX := Lib.hid (HFb.out.on hbz)
                  have HRX := Lib.hid (HRb.out.call hbz)
                  clear hbz
                  have q1 := HFX.out.b1.cell 0
                  have q2 : wz.cell? ⟨w.heap.size + 1 + 1, 0, none⟩ = some (.int .i64 0) := HFX.out.b2.cell 0
                  have r1 := HFX.out.b1.frozen 0
                  have r2 : wz.frozen? ⟨w.heap.size + 1 + 1, 0, none⟩ = false := HFX.out.b2.frozen 0
                  simp only [List.getElem?_toArray, List.getElem?_cons_zero] at q1
                  gi_wp2_with (refine wpListIn_store_row rfl 27 _ _ rfl rfl (w.heap.size) rfl _ _ _ rfl HFX.out.b0 rfl (by kernel_rfl) (List.all_eq_true.1 rfl) ?_; rintro wy hT2 hB2; have HFY := Lib.hid (HFX.out.t0 hT2 hB2); have HRY := Lib.hid (HRX.out.turn hT2 HFX.out.b0 (Nat.le_refl _) (by omega)); have q1 := HFY.out.b1.cell 0; have q2 : wy.cell? ⟨w.heap.size + 1 + 1, 0, none⟩ = some (.int .i64 0) := HFY.out.b2.cell 0; have r1 := HFY.out.b1.frozen 0; have r2 : wy.frozen? ⟨w.heap.size + 1 + 1, 0, none⟩ = false := HFY.out.b2.frozen 0; simp only [List.getElem?_toArray, List.getElem?_cons_zero] at q1)
                  exact ⟨((HRY.out.set (by omega) (by omega)).set (by omega) (by omega)).ko.from _, rfl, _, HFLAT.out _ HBADF.out, Held.bad ((HFY.out.set1 0 _ rfl).set2 0 (.int .i64 112) rfl)⟩
                · have hx0' : ¬ ((0 : Int) < ((x.1 : Nat) : Int)) := by omega
                  have hne5 : (dd.kind != 5) = false := by simpa using hk5
                  have HFIN : Hid (∀ r, flatGo q ((x.1, nv) :: r) = (q2, dd.page, 0)) := Lib.hid fun r => by
                    rw [flatGo, HOKQ.out, HDE.out.1, decide_eq_true hk5, decide_eq_false hx0, ← HQE.out]; rfl
                  have HK5 := Lib.hid hk5
                  have hg10 : w.heap.size + 4 ≤ w1.heap.size := by omega
                  have hbs4 : w.heap.size + 4 ≤ bs := by omega
                  gi_wp2_with (refine wpListIn_store_row rfl 27 _ _ rfl rfl g6 rfl 27 (q2.cellsV E d1 E' d1') _ rfl HG3.out rfl (by kernel_rfl) (List.all_eq_true.1 rfl) ?_; rintro w5 hT5 hB5; obtain ⟨hF5, hQ5, hD5, hP5, hR5, hsz5⟩ := HAR4.out w5 hT5 hB5; have HFb := Lib.hid hF5; have HQ5 := Lib.hid hQ5; have HD5 := Lib.hid hD5; have HP5 := Lib.hid hP5; have HRb := Lib.hid hR5; have HG5 := Lib.hid hB5; have kd : w5.cell? ⟨w1.heap.size, 0, none⟩ = some (.int .i64 dd.kind) := (hD5.cell 0).trans HKD.out; have k3 : w5.cell? ⟨w.heap.size + 1 + 1 + 1, 0, none⟩ = some (.func (.func 49) #[] #[]) := HFb.out.b3.cell 0; clear hF5 hQ5 hD5 hP5 hR5 hT5 hB5)
                  refine wpIn_region_inv l0 _ (by kernel_rfl) [96, 97, 98, 99, 100] (FlJ w W w5 bs 27 29 3 35 g6 w1.heap.size (q2.cellsV E d1 E' d1') DC (.iface 77 (.agg #[.int .i64 dd.page])) dd.page) (by kernel_rfl) (gOrd_ok (by kernel_rfl)) ⟨HRb.out.drew, HFb.out.drew1.be, HFb.out.drew1.sz, HG5.out.drew, HD5.out.drew, by simp, by simp, by simp, by simp, by simp, ⟨_, rfl, HFb.out.drew1.b0, by simp⟩, ⟨_, HFb.out.drew1.b1, by simp⟩, ⟨_, HFb.out.drew1.b2, by simp⟩, fun _ _ _ => rfl, Nat.le_refl _⟩ ?_ ?_
                  · intro i o ho D2 X V hJ hDi hdep
                    rcases i with _ | _ | _ | _ | _ | _ | _ | _ | i
                    all_goals simp only [List.getElem?_toArray, List.getElem?_cons_zero, List.getElem?_cons_succ, List.getElem?_nil, Option.some.injEq, reduceCtorEq] at ho
                    · exact wp1_load_row ho 27 (.tmp 6) rfl rfl g6 (by rw [over_out (by decide)]; rfl) 27 _ _ hJ.b6 Tryz.underlying27 rfl (by kernel_rfl) ⟨_, over_put (by decide) _, hJ.load0⟩
                    · exact wp1_load_row ho 29 (.tmp 10) rfl rfl w1.heap.size (by rw [over_out (by decide)]; rfl) 29 _ _ hJ.b10 Tryz.underlying29 rfl (by rw [HDC.out]; kernel_rfl) ⟨_, over_put (by decide) _, hJ.load1⟩
                    · have k1 : D2 1 = true := hdep ⟨1, .data⟩ (by rw [← ho]; simp) rfl
                      exact wp1_call ho 30 #[.tmp 97] _ rfl rfl #[.agg DC] (by simp only [List.map_toArray, List.map_cons, List.map_nil]; rw [over_in (by decide) (Nat.le_of_ble_eq_true rfl), hJ.l1 k1]) Tryz.func30 (by kernel_rfl) rfl (by
                        have h := delta_of5 dd D D' dd.right.items.length dd.right.kids.length e1 e1' V
                        rw [HDC.out]
                        unfold Delta.cellsV
                        rw [HK5.out]
                        exact h) (by
                        rintro e w' ⟨rfl, hb⟩
                        exact ⟨_, rfl, _, over_put (by decide) _, hJ.call2 hb⟩)
                    · have k2 : D2 2 = true := hdep ⟨2, .data⟩ (by rw [← ho]; simp) rfl
                      exact wp1_assert ho (.tmp 98) 64 77 false rfl rfl (by rw [over_in (by decide) (Nat.le_of_ble_eq_true rfl), hJ.c2 k2]) (by kernel_rfl) ⟨_, over_put (by decide) _, hJ.assert3⟩
                    · have k3' : D2 3 = true := hdep ⟨3, .data⟩ (by rw [← ho]; simp) rfl
                      exact wp1_field ho 77 (.tmp 99) 0 rfl rfl (by rw [over_in (by decide) (Nat.le_of_ble_eq_true rfl), hJ.t3 k3']) (by kernel_rfl) ⟨_, over_put (by decide) _, hJ.field4⟩
                    · have k0 : D2 0 = true := hdep ⟨0, .data⟩ (by rw [← ho]; simp) rfl
                      obtain ⟨cs, hcs, hB, _⟩ := hJ.r0
                      exact wp1_store_row ho 27 (.tmp 2) (.tmp 96) rfl rfl w.heap.size (by rw [over_out (by decide)]; rfl) 27 _ cs (by rw [over_in (by decide) (Nat.le_of_ble_eq_true rfl), hJ.l0 k0]) hB (by rw [hcs]; rfl) (by kernel_rfl) (List.all_eq_true.1 rfl) (fun w' hT hB' => ⟨X, rfl, hJ.store5 hg61 hg10 hbs4 rfl hT hB'⟩)
                    · have k4 : D2 4 = true := hdep ⟨4, .data⟩ (by rw [← ho]; simp) rfl
                      obtain ⟨u, hB, _⟩ := hJ.r1
                      have c1 := hB.cell 0
                      have z1 := hB.frozen 0
                      simp only [List.getElem?_toArray, List.getElem?_cons_zero] at c1
                      exact wp1_store_cell ho 3 (.tmp 3) (.tmp 100) rfl rfl (ad := ⟨w.heap.size + 1, 0, none⟩) (by rw [over_out (by decide)]; rfl) (by rw [over_in (by decide) (Nat.le_of_ble_eq_true rfl), hJ.f4 k4]) (w' := V.setCell ⟨w.heap.size + 1, 0, none⟩ (.int .i64 dd.page)) (by go_simp) ⟨X, rfl, hJ.store6 hg61 hg10 hbs4⟩
                    · obtain ⟨u, hB, _⟩ := hJ.r2
                      have c1 := hB.cell 0
                      have z1 := hB.frozen 0
                      simp only [List.getElem?_toArray, List.getElem?_cons_zero] at c1
                      exact wp1_store_cell ho 35 (.tmp 4) (.const (.int .i64 0)) rfl rfl (ad := ⟨w.heap.size + 2, 0, none⟩) (by rw [over_out (by decide)]; rfl) rfl (w' := V.setCell ⟨w.heap.size + 2, 0, none⟩ (.int .i64 0)) (by go_simp) ⟨X, rfl, hJ.store7 hg61 hg10 hbs4⟩
                  · intro D2 X V hJ hall
                    obtain ⟨a0, _, hb0, e0⟩ := hJ.r0
                    obtain ⟨a1, hb1, e1'⟩ := hJ.r1
                    obtain ⟨a2, hb2, e2⟩ := hJ.r2
                    rw [e0 (hall 5 (by decide))] at hb0
                    rw [e1' (hall 6 (by decide))] at hb1
                    rw [e2 (hall 7 (by decide))] at hb2
                    have HH : Hid (Held w (q2, dd.page, 0) V) := Lib.hid ⟨E, E', d1, d1', hb0, hb1, hb2, HQ5.out.later (w := w) (by omega) hJ.keep hJ.gt, hJ.be⟩
                    have HRV := Lib.hid hJ.rn
                    clear hb0 hb1 hb2 e0 e1' e2 hall hJ
                    simp only [over, List.foldl_cons, List.foldl_nil, Act.put, List.setIfInBounds_toArray, List.set_cons_succ, List.set_cons_zero]
                    gi_wp2
                    exact ⟨HRV.out.ko.from _, rfl, _, HFLAT.out _ HFIN.out, HH.out⟩
              · have hne5 : (dd.kind != 5) = true := by simpa using hk5
                gi_wp2_with (refine wpListIn_store_row rfl 27 _ _ rfl rfl g6 rfl 27 (q2.cellsV E d1 E' d1') _ rfl HG3.out rfl (by kernel_rfl) (List.all_eq_true.1 rfl) ?_; rintro w5 hT5 hB5; obtain ⟨hF5, hQ5, hD5, hP5, hR5, hsz5⟩ := HAR4.out w5 hT5 hB5; have HFb := Lib.hid hF5; have HQ5 := Lib.hid hQ5; have HD5 := Lib.hid hD5; have HP5 := Lib.hid hP5; have HRb := Lib.hid hR5; have HG5 := Lib.hid hB5; have kd : w5.cell? ⟨w1.heap.size, 0, none⟩ = some (.int .i64 dd.kind) := (hD5.cell 0).trans HKD.out; have k3 : w5.cell? ⟨w.heap.size + 1 + 1 + 1, 0, none⟩ = some (.func (.func 49) #[] #[]) := HFb.out.b3.cell 0; clear hF5 hQ5 hD5 hP5 hR5 hT5 hB5)
                refine ⟨HRb.out.ko.from _, HRb.out.kb, q2, E, E', d1, d1', ?_, by omega, HFb.out, HG5.out, HQ5.out⟩
                rw [List.map_append]
                show flatRun p0 (_ ++ [(x.1, l[x.1]?.getD ⟨false, none, 0, []⟩)]) = some q2
                rw [HNV.out, flatRun_snoc _ _ _ x.1 nv HA1.out HOKQ.out (by rw [HDE.out.1]; exact hk5), HDE.out.1, ← HQE.out]
            · have HKD : Hid (DC[0]? = some (.int .i64 dd.kind)) := Lib.hid (by rw [HDC.out]; rfl)
              have hnea : (ea != 0) = true := by simpa using hea0
              have HBADF : Hid (∀ r, flatGo q ((x.1, nv) :: r) = (Page.zero, 0, 112)) := Lib.hid fun r => by
                rw [flatGo, show nv.okOn q = false by unfold NV.okOn; rw [HDE.out.1, ← HEA.out, decide_eq_false hea0, Bool.and_false]]; rfl
              gi_wp2_with (refine wpListIn_store_row rfl 27 _ _ rfl rfl g6 rfl 27 (q2.cellsV E d1 E' d1') _ rfl HG3.out rfl (by kernel_rfl) (List.all_eq_true.1 rfl) ?_; rintro w5 hT5 hB5; obtain ⟨hF5, hQ5, hD5, hP5, hR5, hsz5⟩ := HAR4.out w5 hT5 hB5; have HFb := Lib.hid hF5; have HQ5 := Lib.hid hQ5; have HD5 := Lib.hid hD5; have HP5 := Lib.hid hP5; have HRb := Lib.hid hR5; have HG5 := Lib.hid hB5; have kd : w5.cell? ⟨w1.heap.size, 0, none⟩ = some (.int .i64 dd.kind) := (hD5.cell 0).trans HKD.out; have k3 : w5.cell? ⟨w.heap.size + 1 + 1 + 1, 0, none⟩ = some (.func (.func 49) #[] #[]) := HFb.out.b3.cell 0; clear hF5 hQ5 hD5 hP5 hR5 hT5 hB5)
              refine ⟨trivial, (CallsIn.inRound l0 (callsIn_wide.2 (flat_none _))).mono ?_⟩
              rintro e wz ⟨rfl, hbz⟩
              have HFX := Lib.hid (HFb.out.on hbz)
              have HRX := Lib.hid (HRb.out.call hbz)
              clear hbz
              have q1 := HFX.out.b1.cell 0
              have q2 : wz.cell? ⟨w.heap.size + 1 + 1, 0, none⟩ = some (.int .i64 0) := HFX.out.b2.cell 0
              have r1 := HFX.out.b1.frozen 0
              have r2 : wz.frozen? ⟨w.heap.size + 1 + 1, 0, none⟩ = false := HFX.out.b2.frozen 0
              simp only [List.getElem?_toArray, List.getElem?_cons_zero] at q1
              gi_wp2_with (refine wpListIn_store_row rfl 27 _ _ rfl rfl (w.heap.size) rfl _ _ _ rfl HFX.out.b0 rfl (by kernel_rfl) (List.all_eq_true.1 rfl) ?_; rintro wy hT2 hB2; have HFY := Lib.hid (HFX.out.t0 hT2 hB2); have HRY := Lib.hid (HRX.out.turn hT2 HFX.out.b0 (Nat.le_refl _) (by omega)); have q1 := HFY.out.b1.cell 0; have q2 : wy.cell? ⟨w.heap.size + 1 + 1, 0, none⟩ = some (.int .i64 0) := HFY.out.b2.cell 0; have r1 := HFY.out.b1.frozen 0; have r2 : wy.frozen? ⟨w.heap.size + 1 + 1, 0, none⟩ = false := HFY.out.b2.frozen 0; simp only [List.getElem?_toArray, List.getElem?_cons_zero] at q1)
              exact ⟨((HRY.out.set (by omega) (by omega)).set (by omega) (by omega)).ko.from _, rfl, _, HFLAT.out _ HBADF.out, Held.bad ((HFY.out.set1 0 _ rfl).set2 0 (.int .i64 112) rfl)⟩
          · have hne : (de != 0) = true := by simpa using hde0
            have HBADF : Hid (∀ r, flatGo q ((x.1, nv) :: r) = (Page.zero, 0, 112)) := Lib.hid fun r => by
              rw [flatGo, show nv.okOn q = false by unfold NV.okOn; rw [HDE.out.2, decide_eq_false hde0]; rfl]; rfl
            gi_wp2_with (refine wpListIn_store_row rfl 29 _ _ rfl rfl (w1.heap.size) rfl 29 DC _ rfl HZB.out (by rw [HDC.out]; rfl) (by rw [HDC.out]; kernel_rfl) (by rw [HDC.out]; exact List.all_eq_true.1 rfl) ?_; rintro w2 hT2 hB2; obtain ⟨hF2, _, _, _, hR2, _⟩ := HAR.out w2 hT2; have HFa := Lib.hid hF2; have HRa := Lib.hid hR2; clear hF2 hR2 hT2 hB2; have k3 : w2.cell? ⟨w.heap.size + 1 + 1 + 1, 0, none⟩ = some (.func (.func 49) #[] #[]) := HFa.out.b3.cell 0)
            refine ⟨trivial, (CallsIn.inRound l0 (callsIn_wide.2 (flat_none _))).mono ?_⟩
            rintro e wz ⟨rfl, hbz⟩
            have HFX := Lib.hid (HFa.out.on hbz)
            have HRX := Lib.hid (HRa.out.call hbz)
            clear hbz
            have q1 := HFX.out.b1.cell 0
            have q2 : wz.cell? ⟨w.heap.size + 1 + 1, 0, none⟩ = some (.int .i64 0) := HFX.out.b2.cell 0
            have r1 := HFX.out.b1.frozen 0
            have r2 : wz.frozen? ⟨w.heap.size + 1 + 1, 0, none⟩ = false := HFX.out.b2.frozen 0
            simp only [List.getElem?_toArray, List.getElem?_cons_zero] at q1
            gi_wp2_with (refine wpListIn_store_row rfl 27 _ _ rfl rfl (w.heap.size) rfl _ _ _ rfl HFX.out.b0 rfl (by kernel_rfl) (List.all_eq_true.1 rfl) ?_; rintro wy hT2 hB2; have HFY := Lib.hid (HFX.out.t0 hT2 hB2); have HRY := Lib.hid (HRX.out.turn hT2 HFX.out.b0 (Nat.le_refl _) (by omega)); have q1 := HFY.out.b1.cell 0; have q2 : wy.cell? ⟨w.heap.size + 1 + 1, 0, none⟩ = some (.int .i64 0) := HFY.out.b2.cell 0; have r1 := HFY.out.b1.frozen 0; have r2 : wy.frozen? ⟨w.heap.size + 1 + 1, 0, none⟩ = false := HFY.out.b2.frozen 0; simp only [List.getElem?_toArray, List.getElem?_cons_zero] at q1)
            exact ⟨((HRY.out.set (by omega) (by omega)).set (by omega) (by omega)).ko.from _, rfl, _, HFLAT.out _ HBADF.out, Held.bad ((HFY.out.set1 0 _ rfl).set2 0 (.int .i64 112) rfl)⟩
        case done =>
          rintro D ys W hD rfl ⟨q, B, B', b, b', h1, h0, h2, h3, h4⟩ hK
          have HH2 := Lib.hid h2
          have HH3 := Lib.hid h3
          have HH4 := Lib.hid h4
          have HKK := Lib.hid hK
          have HR : Hid (flatL l = (q, 0, 0)) := Lib.hid (by
            rw [HSUM.out]
            have := flatGo_run _ _ _ [] h1
            rw [List.append_nil] at this
            rw [this, flatGo])
          clear h1 h2 h3 h4 hK
          have hsw := HH2.out.sz
          simp only [List.length_cons, List.length_nil] at hsw
          go_wp2_with (first
            | (refine wpList_load_row rfl 27 _ rfl g6 rfl 27 _ (0, 0) _ HH3.out Tryz.underlying27 rfl (by kernel_rfl) ?_)
            | (refine wpList_store_row rfl 27 _ _ rfl rfl (w.heap.size) rfl _ (q.cellsV B b B' b') _ rfl HH2.out.b0 rfl (by kernel_rfl) (List.all_eq_true.1 rfl) ?_; rintro w5 hT5 hB5; have HFY := Lib.hid (HH2.out.t0 hT5 hB5); have HPY : Hid (Pg w5 (w.heap.size + 4) w5.heap.size q B B' b b') := Lib.hid (HH4.out.turned hT5 (by omega) (Nat.le_refl _)); have HPZ : Hid (Pg ((w5.setCell ⟨w.heap.size + 1, 0, none⟩ (.int .i64 0)).setCell ⟨w.heap.size + 2, 0, none⟩ (.int .i64 0)) w.heap.size ((w5.setCell ⟨w.heap.size + 1, 0, none⟩ (.int .i64 0)).setCell ⟨w.heap.size + 2, 0, none⟩ (.int .i64 0)).heap.size q B B' b b') := Lib.hid (HPY.out.later (w := w) (by omega) (fun k h5 _ => (Below.heap_setCell _ ⟨w.heap.size + 2, 0, none⟩ _ k (by simp; omega)).trans (Below.heap_setCell _ ⟨w.heap.size + 1, 0, none⟩ _ k (by simp; omega))) (by simp)); have HKY : Hid (w5.heap[D]? = some (.deferred (some []))) := Lib.hid ((hT5.other (by have := HF4.out.sz; simp only [List.length_cons, List.length_nil] at this; omega)).trans HKK.out); have q1 := HFY.out.b1.cell 0; have q2 : w5.cell? ⟨w.heap.size + 1 + 1, 0, none⟩ = some (.int .i64 0) := HFY.out.b2.cell 0; have r1 := HFY.out.b1.frozen 0; have r2 : w5.frozen? ⟨w.heap.size + 1 + 1, 0, none⟩ = false := HFY.out.b2.frozen 0; simp only [List.getElem?_toArray, List.getElem?_cons_zero] at q1; clear hT5 hB5))
          have HH : Held w (q, 0, 0) ((w5.setCell ⟨w.heap.size + 1, 0, none⟩ (.int .i64 0)).setCell ⟨w.heap.size + 2, 0, none⟩ (.int .i64 0)) :=
            ⟨B, B', b, b', ((HFY.out.set1 0 _ rfl).set2 0 (.int .i64 0) rfl).b0, ((HFY.out.set1 0 (.int .i64 0) rfl).set2 0 (.int .i64 0) rfl).b1, ((HFY.out.set1 0 (.int .i64 0) rfl).set2 0 (.int .i64 0) rfl).b2, HPZ.out, ((HFY.out.set1 0 (.int .i64 0) rfl).set2 0 (.int .i64 0) rfl).be⟩
          have hne1 : D ≠ w.heap.size + 1 := by have := HF4.out.sz; simp only [List.length_cons, List.length_nil] at this; omega
          have hne2 : D ≠ w.heap.size + 2 := by have := HF4.out.sz; simp only [List.length_cons, List.length_nil] at this; omega
          have hKF : ((w5.setCell ⟨w.heap.size + 1, 0, none⟩ (.int .i64 0)).setCell ⟨w.heap.size + 2, 0, none⟩ (.int .i64 0)).heap[D]? = some (.deferred (some [])) :=
            (Below.heap_setCell _ ⟨w.heap.size + 2, 0, none⟩ _ D hne2).trans ((Below.heap_setCell _ ⟨w.heap.size + 1, 0, none⟩ _ D hne1).trans HKY.out)
          refine ⟨by simp, .inl ⟨_, _, rfl, run_takeDeferred hKF, ?_⟩⟩
          have hg := HH.grownRow (grownBy_putObj' _ D (.deferred none)) (fun r e => by cases e; exact ⟨Nat.le_trans HF4.out.be.size hD, _, hKF, rfl⟩)
          rw [← HR.out] at hg
          exact hg.ret rfl rfl rfl
        case stop =>
          rintro D cd pre W hD ⟨k, hk, rfl⟩ ⟨rfl, R, hR, hH⟩ hK
          have HRR : Hid (flatL l = R) := Lib.hid (by
            rw [HSUM.out, ← List.take_append_drop k (down (ln - 1)), List.map_append]
            exact hR _)
          have HHH := Lib.hid hH
          clear hR hH
          gi_wp2
          refine ⟨by simp, .inl ⟨_, _, rfl, run_takeDeferred hK, ?_⟩⟩
          have hg := HHH.out.grownRow (grownBy_putObj' W D (.deferred none)) (fun r e => by cases e; exact ⟨Nat.le_trans HF4.out.be.size hD, _, hK, rfl⟩)
          rw [← HRR.out] at hg
          exact hg.ret rfl rfl rfl
      · have hne : (ec != 0) = true := by simpa using he
        have HFB : Hid (flatL l = (Page.zero, 0, 112)) := Lib.hid (by
          unfold flatL
          rw [HLAST.out]
          simp only []
          rw [← HEC.out, decide_eq_false he, Bool.and_false]; rfl)
        have k3 := HF3.out.b3.cell 0
        simp only [List.getElem?_toArray, List.getElem?_cons_zero] at k3
        go_wp2_with fail
        refine (flat_none _).mono ?_
        rintro e w1 ⟨rfl, hb1⟩
        have HFX := Lib.hid (HF3.out.on hb1)
        clear hb1 k3
        have q1 := HFX.out.b1.cell 0
        have q2 : w1.cell? ⟨w.heap.size + 1 + 1, 0, none⟩ = some (.int .i64 0) := HFX.out.b2.cell 0
        have r1 := HFX.out.b1.frozen 0
        have r2 : w1.frozen? ⟨w.heap.size + 1 + 1, 0, none⟩ = false := HFX.out.b2.frozen 0
        simp only [List.getElem?_toArray, List.getElem?_cons_zero] at q1
        go_wp2_with (refine wpList_store_row rfl 27 _ _ rfl rfl (w.heap.size) rfl _ _ _ rfl HFX.out.b0 rfl (by kernel_rfl) (List.all_eq_true.1 rfl) ?_; rintro w2 hT2 hB2; have HFY := Lib.hid (HFX.out.t0 hT2 hB2); have q1 := HFY.out.b1.cell 0; have q2 : w2.cell? ⟨w.heap.size + 1 + 1, 0, none⟩ = some (.int .i64 0) := HFY.out.b2.cell 0; have r1 := HFY.out.b1.frozen 0; have r2 : w2.frozen? ⟨w.heap.size + 1 + 1, 0, none⟩ = false := HFY.out.b2.frozen 0; simp only [List.getElem?_toArray, List.getElem?_cons_zero] at q1)
        have hfin := (Held.bad ((HFY.out.set1 0 _ rfl).set2 0 (.int .i64 112) rfl))
        rw [← HFB.out] at hfin
        exact hfin.ret rfl rfl rfl
end Go.Proofs.YtjbdmaehomhdeaaGreat

namespace Go.Proofs.YtjbdmaehomhdeaaGreat
open Go.RowKit

noncomputable def findFits (l : List NV) (k : ByteArray) : Bool := !(decide (0 < (flatL l).1.level) || !((flatL l).1.covers k))
noncomputable def findE (l : List NV) (k : ByteArray) : Int := if (flatL l).2.2 = 0 then cond (findFits l k) 0 103 else (flatL l).2.2
noncomputable def findX (l : List NV) (k : ByteArray) : Option Item := if (flatL l).2.2 = 0 then cond (findFits l k) (findI (flatL l).1.items k) none else none
def PostFn (w : World) (x : Option Item) (n : Int) (e : Ending) (w' : World) : Prop := e = .returned (.tuple #[(x.getD Item.zero).val, .bool x.isSome, .int .i64 n]) ∧ Below w.heap.size w w'

set_option maxRecDepth 100000 in
set_option maxHeartbeats 20000000 in
theorem delta_Find (l : List NV) (A : Option Addr) (c lo : Nat) (k : ByteArray) (w : World) (hN : Nodes w lo w.heap.size A l) (hc : l.length ≤ c) (hl : l.length ≤ 140737488351232) :
    Calls Tryz.prog 24 #[.slice A l.length c, .string k] w (PostFn w (findX l k) (findE l k)) := by
  have HFL := Lib.hid (fun (W : World) (h : Below w.heap.size w W) => delta_Flat l A c lo W ⟨(hN.row.below h).mono (Nat.le_refl _) h.size, fun x hx => ⟨((hN.by_ x hx).1.below h).mono (Nat.le_refl _) h.size, (hN.by_ x hx).2⟩⟩ hc hl)
  clear hN hc hl
  obtain ⟨ln, hln⟩ : ∃ n, n = l.length := ⟨_, rfl⟩
  rw [← hln]
  rw [← hln] at HFL
  clear hln
  have hF := Fr.one w 23 #[Value.string { data := #[] }, Value.string { data := #[] }, Value.int IntKind.i64 0, Value.bool false]
  go_enter Tryz.func24, Tryz.ntmps24
  go_upto_region 1 with (fail)
  generalize w.alloc (.cells #[Value.string { data := #[] }, Value.string { data := #[] }, Value.int IntKind.i64 0, Value.bool false] 23) = w0 at *
  have HF0 := Lib.hid hF
  clear hF
  go_wp2_with fail
  refine (HFL.out w0 HF0.out.be).mono ?_
  rintro e w1 ⟨B, B', b, b', rfl, hP, hb1⟩
  obtain ⟨q, hq⟩ : ∃ q, q = (flatL l).1 := ⟨_, rfl⟩
  obtain ⟨fz, hfz⟩ : ∃ q, q = (flatL l).2.1 := ⟨_, rfl⟩
  obtain ⟨ec, hec⟩ : ∃ q, q = (flatL l).2.2 := ⟨_, rfl⟩
  rw [← hq] at hP
  rw [← hq, ← hfz, ← hec]
  have HQ := Lib.hid hq
  have HEC := Lib.hid hec
  have HPG := Lib.hid hP
  have HF1 := Lib.hid (HF0.out.on hb1)
  have hs0 := HF0.out.sz
  simp only [List.length_cons, List.length_nil] at hs0
  have hs1 : w0.heap.size ≤ w1.heap.size := hb1.size
  clear hq hec hfz hP hb1
  have HCV := Lib.hid (fun n1 n2 w1 => page_Covers q B B' n1 b n2 b' k w1)
  have HFD := Lib.hid (fun (w2 : World) (h : Pg w2 w0.heap.size w2.heap.size q B B' b b') => page_Find q B B' b b' w0.heap.size k w2 h)
  unfold Page.val Page.raw at HFD
  unfold Page.val Page.raw
  obtain ⟨ni, hni⟩ : ∃ n, n = q.items.length := ⟨_, rfl⟩
  obtain ⟨nk, hnk⟩ : ∃ n, n = q.kids.length := ⟨_, rfl⟩
  rw [← hni, ← hnk]
  rw [← hni, ← hnk] at HFD
  clear hni hnk
  have HZ7 : Hid (Blk (w1.alloc (.cells #[Value.int IntKind.i64 0, Value.string { data := #[] }, Value.string { data := #[] }, Value.bool false, Value.int IntKind.i64 0, Value.slice none 0 0, Value.slice none 0 0] 27)) w1.heap.size 27 #[Value.int IntKind.i64 0, Value.string { data := #[] }, Value.string { data := #[] }, Value.bool false, Value.int IntKind.i64 0, Value.slice none 0 0, Value.slice none 0 0]) := Lib.hid (Blk.new _ _ _)
  have HAR : Hid (∀ w2, Turned (w1.alloc (.cells #[Value.int IntKind.i64 0, Value.string { data := #[] }, Value.string { data := #[] }, Value.bool false, Value.int IntKind.i64 0, Value.slice none 0 0, Value.slice none 0 0] 27)) w2 w1.heap.size → Fr w w2 [(23, #[Value.string { data := #[] }, Value.string { data := #[] }, Value.int IntKind.i64 0, Value.bool false])] ∧ Pg w2 w0.heap.size w2.heap.size q B B' b b' ∧ w2.heap.size = w1.heap.size + 1) := Lib.hid fun w2 hT => by
    have hsz : (w1.alloc (.cells #[Value.int IntKind.i64 0, Value.string { data := #[] }, Value.string { data := #[] }, Value.bool false, Value.int IntKind.i64 0, Value.slice none 0 0, Value.slice none 0 0] 27)).heap.size = w1.heap.size + 1 := by simp
    have hB : Below w1.heap.size w1 w2 := hT.below ((Below.refl _ _).alloc (Nat.le_refl _) _) (Nat.le_refl _) (by rw [hsz]; omega)
    exact ⟨HF1.out.on hB, (HPG.out.below hB).mono (Nat.le_refl _) hB.size, by rw [hT.sz, hsz]⟩
  by_cases he : ec = 0
  · subst he
    go_upto_region 4 with (refine wpList_store_row rfl 27 _ _ rfl rfl (w1.heap.size) rfl _ _ _ rfl HZ7.out rfl (by kernel_rfl) (List.all_eq_true.1 rfl) ?_; rintro w2 hT2 hB2)
    obtain ⟨hF2, hP2, hs2⟩ := HAR.out w2 hT2
    have HF2 := Lib.hid hF2
    have HP2 := Lib.hid hP2
    have HB2 := Lib.hid hB2
    clear hF2 hP2 hT2 hB2
    obtain ⟨cv, hcv⟩ : ∃ v, v = q.covers k := ⟨_, rfl⟩
    rw [← hcv] at HCV
    have HCVE := Lib.hid hcv
    clear hcv
    obtain ⟨z0, z1, z2, z3, z4, z5, z6⟩ := Blk.cells7 HB2.out
    have HFI : Hid (findE l k = cond (!(decide (0 < q.level) || !cv)) 0 103 ∧ findX l k = cond (!(decide (0 < q.level) || !cv)) (findI q.items k) none) := Lib.hid (by
      unfold findE findX findFits
      rw [← HEC.out, if_pos rfl, if_pos rfl, ← HQ.out, ← HCVE.out]
      exact ⟨rfl, rfl⟩)
    obtain ⟨g7, hg7⟩ : ∃ g, g = w1.heap.size := ⟨_, rfl⟩
    rw [← hg7] at HB2 z0 z1 z2 z3 z4 z5 z6 hs2
    rw [← hg7]
    have hg71 : w.heap.size + 1 ≤ g7 := by omega
    clear hg7 HZ7 HAR
    by_cases hlv : (0 : Int) < q.level
    · have HFJ : Hid (findE l k = 103 ∧ findX l k = none) := Lib.hid (by rw [HFI.out.1, HFI.out.2, decide_eq_true hlv]; exact ⟨rfl, rfl⟩)
      go_wp2_with (refine wpList_store_row rfl 23 _ _ rfl rfl (w.heap.size) rfl _ _ _ rfl HF2.out.b0 rfl (by kernel_rfl) (List.all_eq_true.1 rfl) ?_; rintro wE hTE hBE)
      exact bodyPost_ret (v := .tuple #[.agg #[Value.string { data := #[] }, Value.string { data := #[] }, Value.int IntKind.i64 0, Value.bool false], .bool false, .int .i64 103]) (by
          have e := run_loadVar_row (P := Tryz.prog) wE w.heap.size 23 23 _ (0, 0) _ hBE Tryz.underlying23 rfl (by kernel_rfl)
          simp [results, Tryz.results24, asAddr, e]) rfl (by rw [HFJ.out.1, HFJ.out.2]; exact ⟨rfl, hTE.below HF2.out.be (Nat.le_refl _) HF2.out.be.size⟩)
    · cases hcv2 : cv with
      | false =>
        have HFJ : Hid (findE l k = 103 ∧ findX l k = none) := Lib.hid (by rw [HFI.out.1, HFI.out.2, hcv2, Bool.not_false, Bool.or_true]; exact ⟨rfl, rfl⟩)
        rw [hcv2] at HCV
        clear HFI
        go_wp2_with (first | (refine wpList_store_row rfl 23 _ _ rfl rfl (w.heap.size) rfl _ _ _ rfl HF3.out.b0 rfl (by kernel_rfl) (List.all_eq_true.1 rfl) ?_; rintro wE hTE hBE) | (go_at_call 52; refine (HCV.out _ _ _).mono ?_; rintro e w3 ⟨rfl, hb3⟩; have HF3 := Lib.hid (HF2.out.on hb3); clear hb3))
        exact bodyPost_ret (v := .tuple #[.agg #[Value.string { data := #[] }, Value.string { data := #[] }, Value.int IntKind.i64 0, Value.bool false], .bool false, .int .i64 103]) (by
          have e := run_loadVar_row (P := Tryz.prog) wE w.heap.size 23 23 _ (0, 0) _ hBE Tryz.underlying23 rfl (by kernel_rfl)
          simp [results, Tryz.results24, asAddr, e]) rfl (by rw [HFJ.out.1, HFJ.out.2]; exact ⟨rfl, hTE.below HF3.out.be (Nat.le_refl _) HF3.out.be.size⟩)
      | true =>
        have HFJ : Hid (findE l k = 0 ∧ findX l k = findI q.items k) := Lib.hid (by rw [HFI.out.1, HFI.out.2, hcv2, decide_eq_false hlv]; exact ⟨rfl, rfl⟩)
        rw [hcv2] at HCV
        clear HFI
        go_upto_region 6 with (go_at_call 52; refine (HCV.out _ _ _).mono ?_; rintro e w3 ⟨rfl, hb3⟩; have HF3 := Lib.hid (HF2.out.on hb3); have HP3 := Lib.hid ((HP2.out.below hb3).mono (Nat.le_refl _) hb3.size); have HB3 := Lib.hid (HB2.out.below hb3 HB2.out.lt); clear hb3)
        clear z0 z1 z2 z3 z4 z5 z6
        go_wp2_with (refine wpList_load_row rfl 27 _ rfl g7 rfl 27 _ (0, 0) _ HB3.out Tryz.underlying27 rfl (by kernel_rfl) ?_)
        refine (HFD.out w3 HP3.out).mono ?_
        rintro e w4 ⟨rfl, hb4⟩
        have HF4 := Lib.hid (HF3.out.on hb4)
        clear hb4
        obtain ⟨y, hy⟩ : ∃ y, y = (findI q.items k).getD Item.zero := ⟨_, rfl⟩
        obtain ⟨iy, hiy⟩ : ∃ y, y = (findI q.items k).isSome := ⟨_, rfl⟩
        rw [← hy, ← hiy]
        have HY := Lib.hid hy
        have HIY := Lib.hid hiy
        clear hy hiy
        unfold Item.val
        have HZI : Hid (Blk (w4.alloc (.cells #[Value.string { data := #[] }, Value.string { data := #[] }, Value.int IntKind.i64 0, Value.bool false] 23)) w4.heap.size 23 #[Value.string { data := #[] }, Value.string { data := #[] }, Value.int IntKind.i64 0, Value.bool false]) := Lib.hid (Blk.new _ _ _)
        have HFL4 := Lib.hid (HF4.out.later (.cells #[Value.string { data := #[] }, Value.string { data := #[] }, Value.int IntKind.i64 0, Value.bool false] 23))
        have hs4 : w.heap.size + 1 ≤ w4.heap.size := HF4.out.sz
        have hs5 : (w4.alloc (.cells #[Value.string { data := #[] }, Value.string { data := #[] }, Value.int IntKind.i64 0, Value.bool false] 23)).heap.size = w4.heap.size + 1 := by simp
        go_wp2_with (first
          | (refine wpList_store_row rfl 23 _ _ rfl rfl (w.heap.size) rfl _ _ _ rfl HF5.out.b0 rfl (by kernel_rfl) (List.all_eq_true.1 rfl) ?_; rintro wE hTE hBE)
          | (refine wpList_load_row rfl 23 _ rfl (w4.heap.size) rfl 23 _ (0, 0) _ HB5.out Tryz.underlying23 rfl (by kernel_rfl) ?_)
          | (refine wpList_store_row rfl 23 _ _ rfl rfl (w4.heap.size) rfl _ _ _ rfl HZI.out rfl (by kernel_rfl) (List.all_eq_true.1 rfl) ?_; rintro w5 hT5 hB5; have HB5 := Lib.hid hB5; have HF5 := Lib.hid (HFL4.out.on' (B := w.heap.size + 1) (hT5.below (Below.refl _ _) hs4 (by omega)) (Nat.le_refl _) (by omega)); clear hT5 hB5))
        exact bodyPost_ret (v := .tuple #[.agg #[Value.string y.key, Value.string y.value, Value.int IntKind.i64 y.no, Value.bool y.gone], .bool iy, .int .i64 0]) (by
          have e := run_loadVar_row (P := Tryz.prog) wE w.heap.size 23 23 _ (0, 0) _ hBE Tryz.underlying23 rfl (by kernel_rfl)
          simp [results, Tryz.results24, asAddr, e]) rfl (by rw [HFJ.out.1, HFJ.out.2]; exact ⟨by rw [← HY.out, ← HIY.out]; rfl, hTE.below HF5.out.be (Nat.le_refl _) HF5.out.be.size⟩)
  · have hne : (ec != 0) = true := by simpa using he
    have HFJ : Hid (findE l k = ec ∧ findX l k = none) := Lib.hid (by unfold findE findX; rw [← HEC.out, if_neg he, if_neg he]; exact ⟨rfl, rfl⟩)
    go_wp2_with (first
      | (refine wpList_store_row rfl 23 _ _ rfl rfl (w.heap.size) rfl _ _ _ rfl HFd.out.b0 rfl (by kernel_rfl) (List.all_eq_true.1 rfl) ?_; rintro wE hTE hBE)
      | (refine wpList_store_row rfl 27 _ _ rfl rfl (w1.heap.size) rfl _ _ _ rfl HZ7.out rfl (by kernel_rfl) (List.all_eq_true.1 rfl) ?_; rintro w2 hT2 hB2; obtain ⟨hF2, _, _⟩ := HAR.out w2 hT2; have HFd := Lib.hid hF2; clear hF2 hT2 hB2))
    exact bodyPost_ret (v := .tuple #[.agg #[Value.string { data := #[] }, Value.string { data := #[] }, Value.int IntKind.i64 0, Value.bool false], .bool false, .int .i64 ec]) (by
          have e := run_loadVar_row (P := Tryz.prog) wE w.heap.size 23 23 _ (0, 0) _ hBE Tryz.underlying23 rfl (by kernel_rfl)
          simp [results, Tryz.results24, asAddr, e]) rfl (by rw [HFJ.out.1, HFJ.out.2]; exact ⟨rfl, hTE.below HFd.out.be (Nat.le_refl _) HFd.out.be.size⟩)
end Go.Proofs.YtjbdmaehomhdeaaGreat
