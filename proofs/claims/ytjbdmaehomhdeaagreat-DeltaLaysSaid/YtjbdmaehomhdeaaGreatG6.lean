/- page.Unlink. -/
import Derived.Test.YtjbdmaehomhdeaaGreatG4
import Derived.Test.YtjbdmaehomhdeaaGreatG5
set_option linter.unusedSimpArgs false
set_option linter.unusedVariables false
namespace Go.Proofs.YtjbdmaehomhdeaaGreat
open Go.RowKit

noncomputable def Page.unlinkFits (p : Page) (s : ByteArray) : Bool := !(p.level == 0) && (isAt Kid.key p.kids s && !((posOf Kid.key p.kids s : Int) == 0))
noncomputable def Page.unlinkE (p : Page) (s : ByteArray) : Int := cond p.ok (cond (p.unlinkFits s) 0 103) 101
noncomputable def Page.unlinkP (p : Page) (s : ByteArray) : Page := cond (p.ok && p.unlinkFits s) { p with kids := p.kids.take (posOf Kid.key p.kids s) ++ p.kids.drop (posOf Kid.key p.kids s + 1) } Page.zero

set_option maxRecDepth 100000 in
set_option maxHeartbeats 20000000 in
theorem page_Unlink (p : Page) (A A' : Option Addr) (c c' lo : Nat) (s : ByteArray) (w : World) (hp : Pg w lo w.heap.size p A A' c c') :
    Calls Tryz.prog 141 #[p.val A c A' c', .string s] w (PostPE w (p.unlinkP s) (p.unlinkE s)) := by
  have HCH := Lib.hid (fun w1 h => page_Check p A A' c c' lo w1 h)
  have HOW := Lib.hid (fun w1 h h1 h2 => page_own p A A' c c' lo w1 h h1 h2)
  have HPL := Lib.hid (fun w1 h h2 => place_kid A' c' lo p.kids s w1 h hp.bk h2)
  have H1 := Lib.hid hp
  clear hp
  unfold Page.val Page.raw at HCH HOW
  unfold Page.val Page.raw
  obtain ⟨ni, hni⟩ : ∃ n, n = p.items.length := ⟨_, rfl⟩
  obtain ⟨nk, hnk⟩ : ∃ n, n = p.kids.length := ⟨_, rfl⟩
  obtain ⟨lv, hlv⟩ : ∃ n, n = p.level := ⟨_, rfl⟩
  rw [← hni, ← hnk, ← hlv]
  rw [← hni, ← hnk, ← hlv] at HCH HOW
  rw [← hnk] at HPL
  have HNI := Lib.hid hni
  have HNK := Lib.hid hnk
  have HLV := Lib.hid hlv
  clear hni hnk hlv
  have hF := Fr.two w 27 27 #[Value.int IntKind.i64 lv, Value.string p.low, Value.string p.high, Value.bool p.last, Value.int IntKind.i64 p.side, Value.slice A ni c, Value.slice A' nk c'] #[Value.int IntKind.i64 0, Value.string { data := #[] }, Value.string { data := #[] }, Value.bool false, Value.int IntKind.i64 0, Value.slice none 0 0, Value.slice none 0 0]
  go_enter Tryz.func141, Tryz.ntmps141
  go_upto_region 1 with (fail)
  generalize (w.alloc (.cells #[Value.int IntKind.i64 lv, Value.string p.low, Value.string p.high, Value.bool p.last, Value.int IntKind.i64 p.side, Value.slice A ni c, Value.slice A' nk c'] 27)).alloc (.cells #[Value.int IntKind.i64 0, Value.string { data := #[] }, Value.string { data := #[] }, Value.bool false, Value.int IntKind.i64 0, Value.slice none 0 0, Value.slice none 0 0] 27) = w0 at *
  have HF0 := Lib.hid hF
  clear hF
  go_wp2_with (refine wpList_load_row rfl 27 _ rfl (w.heap.size) rfl 27 _ (0, 0) _ HF0.out.b0 Tryz.underlying27 rfl (by kernel_rfl) ?_)
  refine (HCH.out w0 ((H1.out.below HF0.out.be).mono (Nat.le_refl _) HF0.out.be.size)).mono ?_
  rintro e w1 ⟨rfl, hb1⟩
  have HF1 := Lib.hid (HF0.out.on hb1)
  clear hb1
  cases hok : p.ok with
  | false =>
    have HC : Hid (p.check = 101) := Lib.hid (by unfold Page.check; rw [hok]; rfl)
    have HOK := Lib.hid hok
    clear hok
    rw [HC.out]
    go_wp2_with (refine wpList_store_row rfl 27 _ _ rfl rfl (w.heap.size + 1) rfl _ _ _ rfl HF1.out.b1 rfl (by kernel_rfl) (List.all_eq_true.1 rfl) ?_; rintro wE hTE hBE)
    exact bodyPost_ret (v := .tuple #[.agg #[Value.int IntKind.i64 0, Value.string { data := #[] }, Value.string { data := #[] }, Value.bool false, Value.int IntKind.i64 0, Value.slice none 0 0, Value.slice none 0 0], .int .i64 101]) (results_row2 rfl _ _ (w.heap.size + 1) _ _ _ _ rfl hBE Tryz.underlying27 rfl (by kernel_rfl) rfl) rfl (by rw [show p.unlinkE s = 101 by unfold Page.unlinkE; rw [HOK.out]; rfl, show p.unlinkP s = Page.zero by unfold Page.unlinkP; rw [HOK.out]; rfl]; exact PostPE.nothing (hTE.below HF1.out.be (by omega) HF1.out.be.size))
  | true =>
    have HC : Hid (p.check = 0) := Lib.hid (by unfold Page.check; rw [hok]; rfl)
    have HOK := Lib.hid hok
    have HFEW := Lib.hid (Page.Fine.items_few (Page.Fine.of_ok hok))
    have HSO := Lib.hid (Page.sortedK hok)
    clear hok
    rw [HC.out]
    obtain ⟨z0, z1, z2, z3, z4, z5, z6⟩ := Blk.cells7 HF1.out.b0
    go_wp2_with fail
    refine (HPL.out w1 ((H1.out.kids.below HF1.out.be).mono (Nat.le_refl _) HF1.out.be.size) HSO.out).mono ?_
    rintro e w2 ⟨rfl, hb2⟩
    obtain ⟨at1, hat⟩ : ∃ b, b = isAt Kid.key p.kids s := ⟨_, rfl⟩
    obtain ⟨po, hpo⟩ : ∃ n, n = posOf Kid.key p.kids s := ⟨_, rfl⟩
    rw [← hat, ← hpo]
    have HAT := Lib.hid hat
    have HPO := Lib.hid hpo
    have HF2 := Lib.hid (HF1.out.on hb2)
    clear hat hpo hb2 z0 z1 z2 z3 z4 z5 z6
    obtain ⟨z0, z1, z2, z3, z4, z5, z6⟩ := Blk.cells7 HF2.out.b0
    go_upto_region 5 with (fail)
    go_cut [8, 32] (fun b v wc => b = .bool at1 ∧ v = .bool (!p.unlinkFits s) ∧ w2 = wc)
    case first =>
      cases ht0 : (lv == 0) with
      | true =>
        have Hht0 := Lib.hid ht0
        go_wp2
        go_meet
        have g0 := Hht0.out
        try simp only [decide_eq_true_eq, decide_eq_false_iff_not, Int.not_lt] at g0
        exact ⟨by first | rfl | simp [g0], by unfold Page.unlinkFits; rw [← HLV.out, ← HAT.out, ← HPO.out]; simp [g0], rfl⟩
      | false =>
        have Hht0 := Lib.hid ht0
        cases ht1 : (at1) with
        | true =>
          have Hht1 := Lib.hid ht1
          cases ht2 : ((po : Int) == 0) with
          | true =>
            have Hht2 := Lib.hid ht2
            go_wp2
            go_meet
            have g0 := Hht0.out
            try simp only [decide_eq_true_eq, decide_eq_false_iff_not, Int.not_lt] at g0
            have g1 := Hht1.out
            try simp only [decide_eq_true_eq, decide_eq_false_iff_not, Int.not_lt] at g1
            have g2 := Hht2.out
            try simp only [decide_eq_true_eq, decide_eq_false_iff_not, Int.not_lt] at g2
            exact ⟨by first | rfl | simp [g0, g1, g2], by unfold Page.unlinkFits; rw [← HLV.out, ← HAT.out, ← HPO.out]; simp [g0, g1, g2], rfl⟩
          | false =>
            have Hht2 := Lib.hid ht2
            go_wp2
            go_meet
            have g0 := Hht0.out
            try simp only [decide_eq_true_eq, decide_eq_false_iff_not, Int.not_lt] at g0
            have g1 := Hht1.out
            try simp only [decide_eq_true_eq, decide_eq_false_iff_not, Int.not_lt] at g1
            have g2 := Hht2.out
            try simp only [decide_eq_true_eq, decide_eq_false_iff_not, Int.not_lt] at g2
            exact ⟨by first | rfl | simp [g0, g1, g2], by unfold Page.unlinkFits; rw [← HLV.out, ← HAT.out, ← HPO.out]; simp [g0, g1, g2], rfl⟩
        | false =>
          have Hht1 := Lib.hid ht1
          go_wp2
          go_meet
          have g0 := Hht0.out
          try simp only [decide_eq_true_eq, decide_eq_false_iff_not, Int.not_lt] at g0
          have g1 := Hht1.out
          try simp only [decide_eq_true_eq, decide_eq_false_iff_not, Int.not_lt] at g1
          exact ⟨by first | rfl | simp [g0, g1], by unfold Page.unlinkFits; rw [← HLV.out, ← HAT.out, ← HPO.out]; simp [g0, g1], rfl⟩
    case rest =>
      obtain ⟨rfl, rfl, rfl⟩ := hcut
      clear z0 z1 z2 z3 z4 z5 z6
      cases hf : p.unlinkFits s with
      | false =>
        have HFI := Lib.hid hf
        clear hf
        go_wp2_with (refine wpList_store_row rfl 27 _ _ rfl rfl (w.heap.size + 1) rfl _ _ _ rfl HF2.out.b1 rfl (by kernel_rfl) (List.all_eq_true.1 rfl) ?_; rintro wE hTE hBE)
        exact bodyPost_ret (v := .tuple #[.agg #[Value.int IntKind.i64 0, Value.string { data := #[] }, Value.string { data := #[] }, Value.bool false, Value.int IntKind.i64 0, Value.slice none 0 0, Value.slice none 0 0], .int .i64 103]) (results_row2 rfl _ _ (w.heap.size + 1) _ _ _ _ rfl hBE Tryz.underlying27 rfl (by kernel_rfl) rfl) rfl (by rw [show p.unlinkE s = 103 by unfold Page.unlinkE; rw [HOK.out, HFI.out]; rfl, show p.unlinkP s = Page.zero by unfold Page.unlinkP; rw [HOK.out, HFI.out]; rfl]; exact PostPE.nothing (hTE.below HF2.out.be (by omega) HF2.out.be.size))
      | true =>
        have HAT1 : Hid (isAt Kid.key p.kids s = true) := Lib.hid (by unfold Page.unlinkFits at hf; simp only [Bool.and_eq_true] at hf; exact hf.2.1)
        have HFI := Lib.hid hf
        clear hf
        go_wp2_with (refine wpList_load_row rfl 27 _ rfl (w.heap.size) rfl 27 _ (0, 0) _ HF2.out.b0 Tryz.underlying27 rfl (by kernel_rfl) ?_)
        refine (HOW.out w2 ((H1.out.below HF2.out.be).mono (Nat.le_refl _) HF2.out.be.size) (by rw [HNI.out]; have := HFEW.out.1; omega) (by rw [HNK.out]; have := HFEW.out.2; omega)).mono ?_
        rintro e w6 ⟨vi, vk, rfl, hOI, hOK, hb6⟩
        obtain ⟨EI, dI, rfl, _, _⟩ := hOI.form
        obtain ⟨EK, dK, rfl, hcK, _⟩ := hOK.form
        have HF6 := Lib.hid (HF2.out.on hb6)
        have hs5 := HF2.out.sz
        simp only [List.length_cons, List.length_nil] at hs5
        rw [← HNI.out] at hOI
        rw [← HNK.out] at hOK
        have HOI := Lib.hid (hOI.mono (b' := w.heap.size + 2) (by omega))
        have HOK2 := Lib.hid (hOK.mono (b' := w.heap.size + 2) (by omega))
        clear hOI hOK hb6
        unfold Page.valW
        rw [← HNI.out, ← HNK.out, ← HLV.out]
        rw [← HNK.out] at hcK
        go_upto_region 8 with (refine wpList_store_row rfl 27 _ _ rfl rfl (w.heap.size) rfl _ _ _ rfl HF6.out.b0 rfl (by kernel_rfl) (List.all_eq_true.1 rfl) ?_; rintro w7 hT7 hB7)
        have HF7 := Lib.hid (HF6.out.t0 hT7 hB7)
        have HOI7 := Lib.hid (HOI.out.turned hT7 (by omega))
        have HOK7 := Lib.hid (HOK2.out.turned hT7 (by omega))
        clear hT7 hB7
        obtain ⟨z0, z1, z2, z3, z4, z5, z6⟩ := Blk.cells7 HF7.out.b0
        have hs7 := HF7.out.sz
        simp only [List.length_cons, List.length_nil] at hs7
        have hpl : po < nk := by rw [HPO.out, HNK.out]; exact isAt_lt HAT1.out
        obtain ⟨gk, cap, cur, hv, hg, hh, hn, hm, hs, ht⟩ := HOK7.out.2.resolve_left (by rintro ⟨_, h0⟩; rw [← HNK.out] at h0; omega)
        injection hv with hv1 hv2 hv3
        subst hv1 hv3
        have HDEL : Hid (Calls Tryz.prog 142 #[.slice (some ⟨gk, 0, none⟩) nk dK, .int .i64 (po : Nat), .int .i64 ((po : Int) + 1)] w7 (PostIKid w7 (w.heap.size + 2) (.slice (some ⟨gk, 0, none⟩) nk dK) (p.kids.take po ++ p.kids.drop (po + 1)))) := Lib.hid (by
          have h := delete_kid (w.heap.size + 2) gk dK po p.kids w7 cur hh hg hm hs ht (by rw [← HNK.out]; exact hpl) hn HFEW.out.2
          rw [← HNK.out] at h
          exact h)
        clear hh hs ht hv2 hn hm hg
        have hw1 : IntKind.i64.wrap ((po : Int) + 1) = (po : Int) + 1 := by rw [IntKind.wrap_i64]; have := HFEW.out.2; rw [← HNK.out] at this; omega
        go_wp2_with fail
        refine HDEL.out.mono ?_
        rintro e w8 ⟨v8, rfl, hO8, hG8⟩
        have HF8 := Lib.hid (HF7.out.grown hG8 (fun k hk => (HOK7.out.block k hk).1))
        have HOI8 := Lib.hid (HOI7.out.grown hG8 (fun k hk => own_apart HOI7.out HOK7.out k hk))
        obtain ⟨nk2, hnk2⟩ : ∃ n, n = (List.take po p.kids ++ List.drop (po + 1) p.kids).length := ⟨_, rfl⟩
        obtain ⟨E8, d8, rfl, _, _⟩ := hO8.form
        rw [← hnk2] at hO8
        rw [← hnk2]
        have HOK8 := Lib.hid hO8
        have HN2 := Lib.hid hnk2
        clear hO8 hG8 hnk2 z0 z1 z2 z3 z4 z5 z6
        have HF9 : Hid (Fr w (w8.setCell ⟨w.heap.size, 6, none⟩ (.slice E8 nk2 d8)) [(27, #[Value.int IntKind.i64 lv, Value.string p.low, Value.string p.high, Value.bool p.last, Value.int IntKind.i64 p.side, Value.slice EI ni dI, Value.slice E8 nk2 d8]), (27, #[Value.int IntKind.i64 0, Value.string { data := #[] }, Value.string { data := #[] }, Value.bool false, Value.int IntKind.i64 0, Value.slice none 0 0, Value.slice none 0 0])]) := Lib.hid (HF8.out.set0 6 _ rfl)
        have HOI9 := Lib.hid (HOI8.out.setLow (g := w.heap.size) (i := 6) (by omega) (.slice E8 nk2 d8))
        have HOK9 := Lib.hid (HOK8.out.setLow (g := w.heap.size) (i := 6) (by omega) (.slice E8 nk2 d8))
        have k6 := HF8.out.b0.cell 6
        have f6 := HF8.out.b0.frozen 6
        go_upto_region 9 with (fail)
        clear k6 f6
        generalize w8.setCell ⟨w.heap.size, 6, none⟩ (.slice E8 nk2 d8) = w9 at *
        go_wp2_with (first
    | (refine wpList_load_row rfl 27 _ rfl (w.heap.size) rfl 27 _ (0, 0) _ HF9.out.b0 Tryz.underlying27 rfl (by kernel_rfl) ?_)
    | (refine wpList_store_row rfl 27 _ _ rfl rfl (w.heap.size + 1) rfl _ _ _ rfl HF9.out.b1 rfl (by kernel_rfl) (List.all_eq_true.1 rfl) ?_; rintro wE hTE hBE))
        exact bodyPost_ret (v := .tuple #[.agg #[Value.int IntKind.i64 lv, Value.string p.low, Value.string p.high, Value.bool p.last, Value.int IntKind.i64 p.side, Value.slice EI ni dI, Value.slice E8 nk2 d8], .int .i64 0]) (results_row2 rfl _ _ (w.heap.size + 1) _ _ _ _ rfl hBE Tryz.underlying27 rfl (by kernel_rfl) rfl) rfl (by
          rw [show p.unlinkE s = 0 by unfold Page.unlinkE; rw [HOK.out, HFI.out]; rfl, show p.unlinkP s = { p with kids := List.take po p.kids ++ List.drop (po + 1) p.kids } by unfold Page.unlinkP; rw [HOK.out, HFI.out, ← HPO.out]; rfl]
          exact ⟨_, _, by rw [HLV.out]; rfl, (HOI9.out.turned hTE (by omega)).mono (by omega), (HOK9.out.turned hTE (by omega)).mono (by omega), hTE.below HF9.out.be (by omega) HF9.out.be.size⟩)
end Go.Proofs.YtjbdmaehomhdeaaGreat
