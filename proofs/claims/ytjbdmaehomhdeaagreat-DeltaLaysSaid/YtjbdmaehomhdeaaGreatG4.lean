/- page.Link. -/
import Derived.Test.YtjbdmaehomhdeaaGreatG2
import Derived.Test.YtjbdmaehomhdeaaGreatG3
import Derived.Test.YtjbdmaehomhdeaaGreatZG
set_option linter.unusedSimpArgs false
set_option linter.unusedVariables false
namespace Go.Proofs.YtjbdmaehomhdeaaGreat
open Go.RowKit

theorem Page.sortedK {p : Page} (h : p.ok = true) : Sorted Kid.key p.kids := by
  unfold Page.ok at h
  simp only [Bool.and_eq_true, Bool.or_eq_true, Bool.not_eq_true'] at h
  obtain ⟨⟨hb, hl⟩, hi⟩ := h
  have hlv := bounds_level hb
  by_cases h0 : p.level = 0
  · have hlf : p.leafB = true := by
      rcases hl with h | h
      · simp [h0] at h
      · exact h
    unfold Page.leafB at hlf
    simp only [Bool.and_eq_true, decide_eq_true_eq] at hlf
    have hk : p.kids = [] := List.eq_nil_of_length_eq_zero hlf.1.1.1
    rw [hk]
    intro i j x y _ hx
    simp at hx
  · have hin : p.innerB = true := by
      rcases hi with h | h
      · simp at h; omega
      · exact h
    unfold Page.innerB at hin
    simp only [Bool.and_eq_true] at hin
    exact sorted_of_rises (p := p) hin.2

noncomputable def Page.linkFits (p : Page) (x : Kid) : Bool := !(p.level == 0) && (p.covers x.key && (isPage x.page && (decide ((x.key.size : Int) ≤ 16) && (isAt Kid.key p.kids x.key || decide ((p.kids.length : Int) < 120)))))
def linkL (l : List Kid) (x : Kid) : List Kid := cond (isAt Kid.key l x.key) (l.set (posOf Kid.key l x.key) x) (l.take (posOf Kid.key l x.key) ++ x :: l.drop (posOf Kid.key l x.key))
noncomputable def Page.linkE (p : Page) (x : Kid) : Int := cond p.ok (cond (p.linkFits x) 0 103) 101
noncomputable def Page.linkP (p : Page) (x : Kid) : Page := cond (p.ok && p.linkFits x) { p with kids := linkL p.kids x } Page.zero
theorem isAt_lt {α : Type} {key : α → ByteArray} {l : List α} {k : ByteArray} (h : isAt key l k = true) : posOf key l k < l.length := by
  unfold isAt at h
  split at h
  · rename_i y hy
    exact (List.getElem?_eq_some_iff.1 hy).1
  · cases h

set_option maxRecDepth 100000 in
set_option maxHeartbeats 20000000 in
theorem page_Link (p : Page) (A A' : Option Addr) (c c' lo : Nat) (x : Kid) (w : World) (hp : Pg w lo w.heap.size p A A' c c') :
    Calls Tryz.prog 134 #[p.val A c A' c', .agg #[.string x.key, .int .i64 x.page]] w (PostPE w (p.linkP x) (p.linkE x)) := by
  have HCH := Lib.hid (fun w1 h => page_Check p A A' c c' lo w1 h)
  have HOW := Lib.hid (fun w1 h h1 h2 => page_own p A A' c c' lo w1 h h1 h2)
  have HPL := Lib.hid (fun w1 h h2 => place_kid A' c' lo p.kids x.key w1 h hp.bk h2)
  have HCV := Lib.hid (fun n1 n2 w1 => page_Covers p A A' n1 c n2 c' x.key w1)
  have HIP := Lib.hid (fun w1 => page_isPage x.page w1)
  have H1 := Lib.hid hp
  clear hp
  unfold Page.val Page.raw at HCH HOW
  unfold Page.val Page.raw
  obtain ⟨ni, hni⟩ : ∃ n, n = p.items.length := ⟨_, rfl⟩
  obtain ⟨nk, hnk⟩ : ∃ n, n = p.kids.length := ⟨_, rfl⟩
  obtain ⟨lv, hlv⟩ : ∃ n, n = p.level := ⟨_, rfl⟩
  rw [← hni, ← hnk, ← hlv]
  rw [← hni, ← hnk, ← hlv] at HCH HOW
  rw [← hnk] at HPL
  rw [← hlv] at HCV
  have HNI := Lib.hid hni
  have HNK := Lib.hid hnk
  have HLV := Lib.hid hlv
  clear hni hnk hlv
  have hF := Fr.three w 27 61 27 #[Value.int IntKind.i64 lv, Value.string p.low, Value.string p.high, Value.bool p.last, Value.int IntKind.i64 p.side, Value.slice A ni c, Value.slice A' nk c'] #[Value.string x.key, Value.int IntKind.i64 x.page] #[Value.int IntKind.i64 0, Value.string { data := #[] }, Value.string { data := #[] }, Value.bool false, Value.int IntKind.i64 0, Value.slice none 0 0, Value.slice none 0 0]
  go_enter Tryz.func134, Tryz.ntmps134
  go_upto_region 1 with (fail)
  generalize ((w.alloc (.cells #[Value.int IntKind.i64 lv, Value.string p.low, Value.string p.high, Value.bool p.last, Value.int IntKind.i64 p.side, Value.slice A ni c, Value.slice A' nk c'] 27)).alloc (.cells #[Value.string x.key, Value.int IntKind.i64 x.page] 61)).alloc (.cells #[Value.int IntKind.i64 0, Value.string { data := #[] }, Value.string { data := #[] }, Value.bool false, Value.int IntKind.i64 0, Value.slice none 0 0, Value.slice none 0 0] 27) = w0 at *
  have HF0 := Lib.hid hF
  clear hF
  go_wp2_with (refine wpList_load_row rfl 27 _ rfl (w.heap.size) rfl 27 _ (0, 0) _ HF0.out.b0 Tryz.underlying27 rfl (by kernel_rfl) ?_)
  refine (HCH.out w0 ((H1.out.below HF0.out.be).mono (Nat.le_refl _) HF0.out.be.size)).mono ?_
  rintro e w1 ⟨rfl, hb1⟩
  have HF1 := Lib.hid (HF0.out.on hb1)
  clear hb1
  cases hok : p.ok with
  | false =>
    have HC : Hid (p.check = 101) := Lib.hid (by unfold Page.check; rw [hok]; rfl)
    have HOK := Lib.hid hok
    clear hok
    rw [HC.out]
    go_wp2_with (refine wpList_store_row rfl 27 _ _ rfl rfl (w.heap.size + 2) rfl _ _ _ rfl HF1.out.b2 rfl (by kernel_rfl) (List.all_eq_true.1 rfl) ?_; rintro wE hTE hBE)
    exact bodyPost_ret (v := .tuple #[.agg #[Value.int IntKind.i64 0, Value.string { data := #[] }, Value.string { data := #[] }, Value.bool false, Value.int IntKind.i64 0, Value.slice none 0 0, Value.slice none 0 0], .int .i64 101]) (results_row2 rfl _ _ (w.heap.size + 2) _ _ _ _ rfl hBE Tryz.underlying27 rfl (by kernel_rfl) rfl) rfl (by rw [show p.linkE x = 101 by unfold Page.linkE; rw [HOK.out]; rfl, show p.linkP x = Page.zero by unfold Page.linkP; rw [HOK.out]; rfl]; exact PostPE.nothing (hTE.below HF1.out.be (by omega) HF1.out.be.size))
  | true =>
    have HC : Hid (p.check = 0) := Lib.hid (by unfold Page.check; rw [hok]; rfl)
    have HOK := Lib.hid hok
    have HFEW := Lib.hid (Page.Fine.items_few (Page.Fine.of_ok hok))
    have HSO := Lib.hid (Page.sortedK hok)
    clear hok
    rw [HC.out]
    obtain ⟨z0, z1, z2, z3, z4, z5, z6⟩ := Blk.cells7 HF1.out.b0
    obtain ⟨x0, x1⟩ := Blk.cells2 HF1.out.b1
    go_wp2_with fail
    refine (HPL.out w1 ((H1.out.kids.below HF1.out.be).mono (Nat.le_refl _) HF1.out.be.size) HSO.out).mono ?_
    rintro e w2 ⟨rfl, hb2⟩
    obtain ⟨at1, hat⟩ : ∃ b, b = isAt Kid.key p.kids x.key := ⟨_, rfl⟩
    obtain ⟨po, hpo⟩ : ∃ n, n = posOf Kid.key p.kids x.key := ⟨_, rfl⟩
    rw [← hat, ← hpo]
    have HAT := Lib.hid hat
    have HPO := Lib.hid hpo
    have HF2 := Lib.hid (HF1.out.on hb2)
    clear hat hpo hb2 z0 z1 z2 z3 z4 z5 z6 x0 x1
    obtain ⟨z0, z1, z2, z3, z4, z5, z6⟩ := Blk.cells7 HF2.out.b0
    obtain ⟨x0, x1⟩ := Blk.cells2 HF2.out.b1
    obtain ⟨cv, hcv⟩ : ∃ b, b = p.covers x.key := ⟨_, rfl⟩
    rw [← hcv] at HCV
    have HCVE := Lib.hid hcv
    obtain ⟨ip, hip⟩ : ∃ b, b = isPage x.page := ⟨_, rfl⟩
    rw [← hip] at HIP
    have HIPE := Lib.hid hip
    clear hcv hip
    obtain ⟨xs, hxs⟩ : ∃ n, n = x.key.size := ⟨_, rfl⟩
    go_upto_region 5 with (fail)
    go_cut [8, 54] (fun b v wc => b = .bool at1 ∧ v = .bool (!p.linkFits x) ∧ Hid (Fr w wc [(27, #[Value.int IntKind.i64 lv, Value.string p.low, Value.string p.high, Value.bool p.last, Value.int IntKind.i64 p.side, Value.slice A ni c, Value.slice A' nk c']), (61, #[Value.string x.key, Value.int IntKind.i64 x.page]), (27, #[Value.int IntKind.i64 0, Value.string { data := #[] }, Value.string { data := #[] }, Value.bool false, Value.int IntKind.i64 0, Value.slice none 0 0, Value.slice none 0 0])]))
    case first =>
      cases ht0 : (lv == 0) with
      | true =>
        have Hht0 := Lib.hid ht0
        go_wp2
        go_meet
        have g0 := Hht0.out
        try simp only [decide_eq_true_eq, decide_eq_false_iff_not, Int.not_lt] at g0
        exact ⟨by first | rfl | simp [g0], by unfold Page.linkFits; rw [← HLV.out, ← HCVE.out, ← HIPE.out, ← HAT.out, ← HNK.out]; simp [g0], HF2⟩
      | false =>
        have Hht0 := Lib.hid ht0
        cases ht1 : (cv) with
        | true =>
          have Hht1 := Lib.hid ht1
          cases ht2 : (ip) with
          | true =>
            have Hht2 := Lib.hid ht2
            cases ht3 : (decide ((16 : Int) < (x.key.size : Int))) with
            | true =>
              have Hht3 := Lib.hid ht3
              go_wp2_with (first | (go_at_call 52; refine (HCV.out _ _ _).mono ?_; rintro e w3 ⟨rfl, hb3⟩; have HF3 := Lib.hid (HF2.out.on hb3); clear hb3 z0 z1 z2 z3 z4 z5 z6 x0 x1; obtain ⟨z0, z1, z2, z3, z4, z5, z6⟩ := Blk.cells7 HF3.out.b0; obtain ⟨x0, x1⟩ := Blk.cells2 HF3.out.b1) | (go_at_call 73; refine (HIP.out _).mono ?_; rintro e w4 ⟨rfl, rfl⟩))
              go_meet
              have g0 := Hht0.out
              try simp only [decide_eq_true_eq, decide_eq_false_iff_not, Int.not_lt] at g0
              have g1 := Hht1.out
              try simp only [decide_eq_true_eq, decide_eq_false_iff_not, Int.not_lt] at g1
              have g2 := Hht2.out
              try simp only [decide_eq_true_eq, decide_eq_false_iff_not, Int.not_lt] at g2
              have g3 := Hht3.out
              try simp only [decide_eq_true_eq, decide_eq_false_iff_not, Int.not_lt] at g3
              exact ⟨by first | rfl | simp [g0, g1, g2, g3], by unfold Page.linkFits; rw [← HLV.out, ← HCVE.out, ← HIPE.out, ← HAT.out, ← HNK.out]; simp [g0, g1, g2, g3], HF3⟩
            | false =>
              have Hht3 := Lib.hid ht3
              cases ht4 : (at1) with
              | true =>
                have Hht4 := Lib.hid ht4
                go_wp2_with (first | (go_at_call 52; refine (HCV.out _ _ _).mono ?_; rintro e w3 ⟨rfl, hb3⟩; have HF3 := Lib.hid (HF2.out.on hb3); clear hb3 z0 z1 z2 z3 z4 z5 z6 x0 x1; obtain ⟨z0, z1, z2, z3, z4, z5, z6⟩ := Blk.cells7 HF3.out.b0; obtain ⟨x0, x1⟩ := Blk.cells2 HF3.out.b1) | (go_at_call 73; refine (HIP.out _).mono ?_; rintro e w4 ⟨rfl, rfl⟩))
                go_meet
                have g0 := Hht0.out
                try simp only [decide_eq_true_eq, decide_eq_false_iff_not, Int.not_lt] at g0
                have g1 := Hht1.out
                try simp only [decide_eq_true_eq, decide_eq_false_iff_not, Int.not_lt] at g1
                have g2 := Hht2.out
                try simp only [decide_eq_true_eq, decide_eq_false_iff_not, Int.not_lt] at g2
                have g3 := Hht3.out
                try simp only [decide_eq_true_eq, decide_eq_false_iff_not, Int.not_lt] at g3
                have g4 := Hht4.out
                try simp only [decide_eq_true_eq, decide_eq_false_iff_not, Int.not_lt] at g4
                exact ⟨by first | rfl | simp [g0, g1, g2, g3, g4], by unfold Page.linkFits; rw [← HLV.out, ← HCVE.out, ← HIPE.out, ← HAT.out, ← HNK.out]; simp [g0, g1, g2, g3, g4], HF3⟩
              | false =>
                have Hht4 := Lib.hid ht4
                cases ht5 : (decide ((nk : Int) < 120)) with
                | true =>
                  have Hht5 := Lib.hid ht5
                  go_wp2_with (first | (go_at_call 52; refine (HCV.out _ _ _).mono ?_; rintro e w3 ⟨rfl, hb3⟩; have HF3 := Lib.hid (HF2.out.on hb3); clear hb3 z0 z1 z2 z3 z4 z5 z6 x0 x1; obtain ⟨z0, z1, z2, z3, z4, z5, z6⟩ := Blk.cells7 HF3.out.b0; obtain ⟨x0, x1⟩ := Blk.cells2 HF3.out.b1) | (go_at_call 73; refine (HIP.out _).mono ?_; rintro e w4 ⟨rfl, rfl⟩))
                  go_meet
                  have g0 := Hht0.out
                  try simp only [decide_eq_true_eq, decide_eq_false_iff_not, Int.not_lt] at g0
                  have g1 := Hht1.out
                  try simp only [decide_eq_true_eq, decide_eq_false_iff_not, Int.not_lt] at g1
                  have g2 := Hht2.out
                  try simp only [decide_eq_true_eq, decide_eq_false_iff_not, Int.not_lt] at g2
                  have g3 := Hht3.out
                  try simp only [decide_eq_true_eq, decide_eq_false_iff_not, Int.not_lt] at g3
                  have g4 := Hht4.out
                  try simp only [decide_eq_true_eq, decide_eq_false_iff_not, Int.not_lt] at g4
                  have g5 := Hht5.out
                  try simp only [decide_eq_true_eq, decide_eq_false_iff_not, Int.not_lt] at g5
                  exact ⟨by first | rfl | simp [g0, g1, g2, g3, g4, g5], by unfold Page.linkFits; rw [← HLV.out, ← HCVE.out, ← HIPE.out, ← HAT.out, ← HNK.out]; simp [g0, g1, g2, g3, g4, g5], HF3⟩
                | false =>
                  have Hht5 := Lib.hid ht5
                  go_wp2_with (first | (go_at_call 52; refine (HCV.out _ _ _).mono ?_; rintro e w3 ⟨rfl, hb3⟩; have HF3 := Lib.hid (HF2.out.on hb3); clear hb3 z0 z1 z2 z3 z4 z5 z6 x0 x1; obtain ⟨z0, z1, z2, z3, z4, z5, z6⟩ := Blk.cells7 HF3.out.b0; obtain ⟨x0, x1⟩ := Blk.cells2 HF3.out.b1) | (go_at_call 73; refine (HIP.out _).mono ?_; rintro e w4 ⟨rfl, rfl⟩))
                  go_meet
                  have g0 := Hht0.out
                  try simp only [decide_eq_true_eq, decide_eq_false_iff_not, Int.not_lt] at g0
                  have g1 := Hht1.out
                  try simp only [decide_eq_true_eq, decide_eq_false_iff_not, Int.not_lt] at g1
                  have g2 := Hht2.out
                  try simp only [decide_eq_true_eq, decide_eq_false_iff_not, Int.not_lt] at g2
                  have g3 := Hht3.out
                  try simp only [decide_eq_true_eq, decide_eq_false_iff_not, Int.not_lt] at g3
                  have g4 := Hht4.out
                  try simp only [decide_eq_true_eq, decide_eq_false_iff_not, Int.not_lt] at g4
                  have g5 := Hht5.out
                  try simp only [decide_eq_true_eq, decide_eq_false_iff_not, Int.not_lt] at g5
                  exact ⟨by first | rfl | simp [g0, g1, g2, g3, g4, g5], by unfold Page.linkFits; rw [← HLV.out, ← HCVE.out, ← HIPE.out, ← HAT.out, ← HNK.out]; simp [g0, g1, g2, g3, g4, g5], HF3⟩
          | false =>
            have Hht2 := Lib.hid ht2
            go_wp2_with (first | (go_at_call 52; refine (HCV.out _ _ _).mono ?_; rintro e w3 ⟨rfl, hb3⟩; have HF3 := Lib.hid (HF2.out.on hb3); clear hb3 z0 z1 z2 z3 z4 z5 z6 x0 x1; obtain ⟨z0, z1, z2, z3, z4, z5, z6⟩ := Blk.cells7 HF3.out.b0; obtain ⟨x0, x1⟩ := Blk.cells2 HF3.out.b1) | (go_at_call 73; refine (HIP.out _).mono ?_; rintro e w4 ⟨rfl, rfl⟩))
            go_meet
            have g0 := Hht0.out
            try simp only [decide_eq_true_eq, decide_eq_false_iff_not, Int.not_lt] at g0
            have g1 := Hht1.out
            try simp only [decide_eq_true_eq, decide_eq_false_iff_not, Int.not_lt] at g1
            have g2 := Hht2.out
            try simp only [decide_eq_true_eq, decide_eq_false_iff_not, Int.not_lt] at g2
            exact ⟨by first | rfl | simp [g0, g1, g2], by unfold Page.linkFits; rw [← HLV.out, ← HCVE.out, ← HIPE.out, ← HAT.out, ← HNK.out]; simp [g0, g1, g2], HF3⟩
        | false =>
          have Hht1 := Lib.hid ht1
          go_wp2_with (first | (go_at_call 52; refine (HCV.out _ _ _).mono ?_; rintro e w3 ⟨rfl, hb3⟩; have HF3 := Lib.hid (HF2.out.on hb3); clear hb3 z0 z1 z2 z3 z4 z5 z6 x0 x1; obtain ⟨z0, z1, z2, z3, z4, z5, z6⟩ := Blk.cells7 HF3.out.b0; obtain ⟨x0, x1⟩ := Blk.cells2 HF3.out.b1) | (go_at_call 73; refine (HIP.out _).mono ?_; rintro e w4 ⟨rfl, rfl⟩))
          go_meet
          have g0 := Hht0.out
          try simp only [decide_eq_true_eq, decide_eq_false_iff_not, Int.not_lt] at g0
          have g1 := Hht1.out
          try simp only [decide_eq_true_eq, decide_eq_false_iff_not, Int.not_lt] at g1
          exact ⟨by first | rfl | simp [g0, g1], by unfold Page.linkFits; rw [← HLV.out, ← HCVE.out, ← HIPE.out, ← HAT.out, ← HNK.out]; simp [g0, g1], HF3⟩
    case rest =>
      obtain ⟨rfl, rfl, HF5⟩ := hcut
      clear z0 z1 z2 z3 z4 z5 z6 x0 x1
      cases hf : p.linkFits x with
      | false =>
        have HFI := Lib.hid hf
        clear hf
        go_wp2_with (refine wpList_store_row rfl 27 _ _ rfl rfl (w.heap.size + 2) rfl _ _ _ rfl HF5.out.b2 rfl (by kernel_rfl) (List.all_eq_true.1 rfl) ?_; rintro wE hTE hBE)
        exact bodyPost_ret (v := .tuple #[.agg #[Value.int IntKind.i64 0, Value.string { data := #[] }, Value.string { data := #[] }, Value.bool false, Value.int IntKind.i64 0, Value.slice none 0 0, Value.slice none 0 0], .int .i64 103]) (results_row2 rfl _ _ (w.heap.size + 2) _ _ _ _ rfl hBE Tryz.underlying27 rfl (by kernel_rfl) rfl) rfl (by rw [show p.linkE x = 103 by unfold Page.linkE; rw [HOK.out, HFI.out]; rfl, show p.linkP x = Page.zero by unfold Page.linkP; rw [HOK.out, HFI.out]; rfl]; exact PostPE.nothing (hTE.below HF5.out.be (by omega) HF5.out.be.size))
      | true =>
        have HFI := Lib.hid hf
        clear hf
        go_wp2_with (refine wpList_load_row rfl 27 _ rfl (w.heap.size) rfl 27 _ (0, 0) _ HF5.out.b0 Tryz.underlying27 rfl (by kernel_rfl) ?_)
        refine (HOW.out wc ((H1.out.below HF5.out.be).mono (Nat.le_refl _) HF5.out.be.size) (by rw [HNI.out]; have := HFEW.out.1; omega) (by rw [HNK.out]; have := HFEW.out.2; omega)).mono ?_
        rintro e w6 ⟨vi, vk, rfl, hOI, hOK, hb6⟩
        obtain ⟨EI, dI, rfl, _, _⟩ := hOI.form
        obtain ⟨EK, dK, rfl, hcK, _⟩ := hOK.form
        have HF6 := Lib.hid (HF5.out.on hb6)
        have hs5 := HF5.out.sz
        simp only [List.length_cons, List.length_nil] at hs5
        rw [← HNI.out] at hOI
        rw [← HNK.out] at hOK
        have HOI := Lib.hid (hOI.mono (b' := w.heap.size + 3) (by omega))
        have HOK2 := Lib.hid (hOK.mono (b' := w.heap.size + 3) (by omega))
        clear hOI hOK hb6
        unfold Page.valW
        rw [← HNI.out, ← HNK.out, ← HLV.out]
        rw [← HNK.out] at hcK
        go_upto_region 8 with (refine wpList_store_row rfl 27 _ _ rfl rfl (w.heap.size) rfl _ _ _ rfl HF6.out.b0 rfl (by kernel_rfl) (List.all_eq_true.1 rfl) ?_; rintro w7 hT7 hB7)
        have HF7 := Lib.hid (HF6.out.t0 hT7 hB7)
        have HOI7 := Lib.hid (HOI.out.turned hT7 (by omega))
        have HOK7 := Lib.hid (HOK2.out.turned hT7 (by omega))
        clear hT7 hB7
        obtain ⟨z0, z1, z2, z3, z4, z5, z6⟩ := Blk.cells7 HF7.out.b0
        obtain ⟨x0, x1⟩ := Blk.cells2 HF7.out.b1
        have hs7 := HF7.out.sz
        simp only [List.length_cons, List.length_nil] at hs7
        cases hat1 : at1 with
        | true =>
          have HAT1 : Hid (isAt Kid.key p.kids x.key = true) := Lib.hid (by rw [← HAT.out, hat1])
          clear hat1
          have hpl : po < nk := by rw [HPO.out, HNK.out]; exact isAt_lt HAT1.out
          obtain ⟨gk, cap, cur, hv, hg, hh, hn, hm, hs, ht⟩ := HOK7.out.2.resolve_left (by rintro ⟨_, h0⟩; rw [← HNK.out] at h0; omega)
          injection hv with hv1 hv2 hv3
          subst hv1 hv3
          rw [← HNK.out] at ht
          have HBK := Lib.hid hh
          have HSs := Lib.hid hs
          have HTt := Lib.hid ht
          have hp0 : (0 : Int) ≤ (po : Int) := by omega
          have hp1 : (po : Int) < (nk : Int) := by omega
          have HFT : Hid (po * 2 + x.cells.length ≤ cur.size) := Lib.hid (by rw [hs, show x.cells.length = 2 from rfl]; rw [← HNK.out] at hn; omega)
          clear hh hs ht hv2
          go_upto_region 11 with (refine wpList_store_part rfl 61 _ _ rfl rfl gk (po * 2) rfl 61 x.cells cur rfl HBK.out HFT.out (by kernel_rfl) (Kid.one x) ?_; rintro w8 hT8 hB8)
          have HF8 := Lib.hid (HF7.out.on' (B := w.heap.size + 3) (hT8.below (Below.refl _ _) (by omega) (by omega)) (by simp) (by omega))
          have HOI8 := Lib.hid (HOI7.out.keep (fun k hk => hT8.other (fun e => by subst e; exact own_apart HOI7.out HOK7.out _ hk rfl)))
          have HOK8 : Hid (OwnKid w8 (w.heap.size + 3) (.slice (some ⟨gk, 0, none⟩) nk dK) (p.kids.set po x)) := Lib.hid (OwnKid.put x hg HNK.out (by rw [HNK.out]; exact hn) hm HSs.out HTt.out (by rw [← HNK.out]; exact hpl) hB8)
          clear hT8 hB8 z0 z1 z2 z3 z4 z5 z6 x0 x1
          go_wp2_with (first
    | (refine wpList_load_row rfl 27 _ rfl (w.heap.size) rfl 27 _ (0, 0) _ HF8.out.b0 Tryz.underlying27 rfl (by kernel_rfl) ?_)
    | (refine wpList_store_row rfl 27 _ _ rfl rfl (w.heap.size + 2) rfl _ _ _ rfl HF8.out.b2 rfl (by kernel_rfl) (List.all_eq_true.1 rfl) ?_; rintro wE hTE hBE))
          exact bodyPost_ret (v := .tuple #[.agg #[Value.int IntKind.i64 lv, Value.string p.low, Value.string p.high, Value.bool p.last, Value.int IntKind.i64 p.side, Value.slice EI ni dI, Value.slice (some ⟨gk, 0, none⟩) nk dK], .int .i64 0]) (results_row2 rfl _ _ (w.heap.size + 2) _ _ _ _ rfl hBE Tryz.underlying27 rfl (by kernel_rfl) rfl) rfl (by
            rw [show p.linkE x = 0 by unfold Page.linkE; rw [HOK.out, HFI.out]; rfl, show p.linkP x = { p with kids := p.kids.set po x } by unfold Page.linkP linkL; rw [HOK.out, HFI.out, HAT1.out, ← HPO.out]; rfl]
            exact ⟨_, _, by rw [HLV.out]; rfl, (HOI8.out.turned hTE (by omega)).mono (by omega), (HOK8.out.turned hTE (by omega)).mono (by omega), hTE.below HF8.out.be (by omega) HF8.out.be.size⟩)
        | false =>
          have HAT1 : Hid (isAt Kid.key p.kids x.key = false) := Lib.hid (by rw [← HAT.out, hat1])
          clear hat1
          have HXB : Hid (Blk (w7.alloc (.cells #[Value.string x.key, Value.int IntKind.i64 x.page] 61)) w7.heap.size 61 x.cells.toArray) := Lib.hid (Blk.new _ _ _)
          have HINS := Lib.hid (ins_kid p.kids po (by rw [HPO.out]; exact posOf_le _ _ _) HFEW.out.2)
          have HFx := Lib.hid (HF7.out.on ((Below.refl w7.heap.size w7).alloc (Nat.le_refl _) (.cells #[Value.string x.key, Value.int IntKind.i64 x.page] 61)))
          have HOIx := Lib.hid (HOI7.out.below ((Below.refl w7.heap.size w7).alloc (Nat.le_refl _) (.cells #[Value.string x.key, Value.int IntKind.i64 x.page] 61)) (Nat.le_refl _))
          have HOKx := Lib.hid (HOK7.out.below ((Below.refl w7.heap.size w7).alloc (Nat.le_refl _) (.cells #[Value.string x.key, Value.int IntKind.i64 x.page] 61)) (Nat.le_refl _))
          have HNEx : Hid (∀ b, (Value.slice EK nk dK).ownBlock = some b → b ≠ w7.heap.size) := Lib.hid (fun b hb => Nat.ne_of_lt (HOK7.out.block b hb).2)
          have hsx : w.heap.size + 3 ≤ (w7.alloc (.cells #[Value.string x.key, Value.int IntKind.i64 x.page] 61)).heap.size := by simp; omega
          go_wp2_with fail
          obtain ⟨g7, hg7⟩ : ∃ g, g = w7.heap.size := ⟨_, rfl⟩
          rw [← hg7] at HXB HNEx
          rw [← hg7]
          generalize w7.alloc (.cells #[Value.string x.key, Value.int IntKind.i64 x.page] 61) = wx at *
          refine (HINS.out (w.heap.size + 3) g7 (.slice EK nk dK) x wx HOKx.out HXB.out HNEx.out hsx).mono ?_
          rintro e w8 ⟨v8, rfl, hO8, hG8⟩
          have HF8 := Lib.hid (HFx.out.grown hG8 (fun k hk => (HOKx.out.block k hk).1))
          have HOI8 := Lib.hid (HOIx.out.grown hG8 (fun k hk => own_apart HOIx.out HOKx.out k hk))
          obtain ⟨nk2, hnk2⟩ : ∃ n, n = (List.take po p.kids ++ x :: List.drop po p.kids).length := ⟨_, rfl⟩
          obtain ⟨E8, d8, rfl, _, _⟩ := hO8.form
          rw [← hnk2] at hO8
          rw [← hnk2]
          have HOK8 := Lib.hid hO8
          have HN2 := Lib.hid hnk2
          clear hO8 hG8 hnk2 z0 z1 z2 z3 z4 z5 z6 x0 x1
          have HF9 : Hid (Fr w (w8.setCell ⟨w.heap.size, 6, none⟩ (.slice E8 nk2 d8)) [(27, #[Value.int IntKind.i64 lv, Value.string p.low, Value.string p.high, Value.bool p.last, Value.int IntKind.i64 p.side, Value.slice EI ni dI, Value.slice E8 nk2 d8]), (61, #[Value.string x.key, Value.int IntKind.i64 x.page]), (27, #[Value.int IntKind.i64 0, Value.string { data := #[] }, Value.string { data := #[] }, Value.bool false, Value.int IntKind.i64 0, Value.slice none 0 0, Value.slice none 0 0])]) := Lib.hid (HF8.out.set0 6 _ rfl)
          have HOI9 := Lib.hid (HOI8.out.setLow (g := w.heap.size) (i := 6) (by omega) (.slice E8 nk2 d8))
          have HOK9 := Lib.hid (HOK8.out.setLow (g := w.heap.size) (i := 6) (by omega) (.slice E8 nk2 d8))
          have k6 := HF8.out.b0.cell 6
          have f6 := HF8.out.b0.frozen 6
          go_upto_region 11 with (fail)
          clear k6 f6
          generalize w8.setCell ⟨w.heap.size, 6, none⟩ (.slice E8 nk2 d8) = w9 at *
          go_wp2_with (first
    | (refine wpList_load_row rfl 27 _ rfl (w.heap.size) rfl 27 _ (0, 0) _ HF9.out.b0 Tryz.underlying27 rfl (by kernel_rfl) ?_)
    | (refine wpList_store_row rfl 27 _ _ rfl rfl (w.heap.size + 2) rfl _ _ _ rfl HF9.out.b2 rfl (by kernel_rfl) (List.all_eq_true.1 rfl) ?_; rintro wE hTE hBE))
          exact bodyPost_ret (v := .tuple #[.agg #[Value.int IntKind.i64 lv, Value.string p.low, Value.string p.high, Value.bool p.last, Value.int IntKind.i64 p.side, Value.slice EI ni dI, Value.slice E8 nk2 d8], .int .i64 0]) (results_row2 rfl _ _ (w.heap.size + 2) _ _ _ _ rfl hBE Tryz.underlying27 rfl (by kernel_rfl) rfl) rfl (by
            rw [show p.linkE x = 0 by unfold Page.linkE; rw [HOK.out, HFI.out]; rfl, show p.linkP x = { p with kids := List.take po p.kids ++ x :: List.drop po p.kids } by unfold Page.linkP linkL; rw [HOK.out, HFI.out, HAT1.out, ← HPO.out]; rfl]
            exact ⟨_, _, by rw [HLV.out]; rfl, (HOI9.out.turned hTE (by omega)).mono (by omega), (HOK9.out.turned hTE (by omega)).mono (by omega), hTE.below HF9.out.be (by omega) HF9.out.be.size⟩)
end Go.Proofs.YtjbdmaehomhdeaaGreat
