/- page.Split. -/
import Derived.Test.YtjbdmaehomhdeaaGreatG4
import Derived.Test.YtjbdmaehomhdeaaGreatSpJ
set_option linter.unusedSimpArgs false
set_option linter.unusedVariables false
namespace Go.Proofs.YtjbdmaehomhdeaaGreat
open Go.RowKit

noncomputable def Page.splitFits (p : Page) (s : ByteArray) (n : Int) : Bool := isKey s && (!(same s p.low) && (p.covers s && (isPage n && !(decide (0 < p.level) && !(isAt Kid.key p.kids s)))))
noncomputable def Page.splitE (p : Page) (s : ByteArray) (n : Int) : Int := cond p.ok (cond (p.splitFits s n) 0 103) 101
noncomputable def Page.splitP (p : Page) (s : ByteArray) (n : Int) : Page := cond (p.ok && p.splitFits s n) ⟨p.level, p.low, s, false, n, p.items.take (posOf Item.key p.items s), p.kids.take (posOf Kid.key p.kids s)⟩ Page.zero
/-- a page is given back, with whatever else -/
def PostSp (w : World) (q : Page) (n : Int) (e : Ending) (w' : World) : Prop := ∃ A A' c c' vs, e = .returned (.tuple #[q.val A c A' c', .agg vs, .int .i64 n]) ∧ vs.size = 7 ∧ (∀ u ∈ vs.toList, u.oneCell' = true) ∧ Pg w' w.heap.size w'.heap.size q A A' c c' ∧ Below w.heap.size w w'
theorem PostSp.nothing {w w' : World} {n : Int} (hb : Below w.heap.size w w') : PostSp w Page.zero n (.returned (.tuple #[.agg #[Value.int IntKind.i64 0, Value.string { data := #[] }, Value.string { data := #[] }, Value.bool false, Value.int IntKind.i64 0, Value.slice none 0 0, Value.slice none 0 0], .agg #[Value.int IntKind.i64 0, Value.string { data := #[] }, Value.string { data := #[] }, Value.bool false, Value.int IntKind.i64 0, Value.slice none 0 0, Value.slice none 0 0], .int .i64 n])) w' :=
  ⟨none, none, 0, 0, #[Value.int IntKind.i64 0, Value.string { data := #[] }, Value.string { data := #[] }, Value.bool false, Value.int IntKind.i64 0, Value.slice none 0 0, Value.slice none 0 0], rfl, rfl, List.all_eq_true.1 rfl, ⟨Rd.nil, Rd.nil, Nat.le_refl _, Nat.le_refl _, Nat.zero_le _, Nat.zero_le _⟩, hb⟩

set_option maxRecDepth 100000 in
set_option maxHeartbeats 20000000 in
theorem page_Split (p : Page) (A A' : Option Addr) (c c' lo : Nat) (s : ByteArray) (n : Int) (w : World) (hp : Pg w lo w.heap.size p A A' c c') :
    Calls Tryz.prog 129 #[p.val A c A' c', .string s, .int .i64 n] w (PostSp w (p.splitP s n) (p.splitE s n)) := by
  have HCH := Lib.hid (fun w1 h => page_Check p A A' c c' lo w1 h)
  have HOW := Lib.hid (fun w1 h h1 h2 => page_own p A A' c c' lo w1 h h1 h2)
  have HPI := Lib.hid (fun w1 h h2 => place_item A c lo p.items s w1 h hp.bi h2)
  have HPK := Lib.hid (fun w1 h h2 => place_kid A' c' lo p.kids s w1 h hp.bk h2)
  have HCV := Lib.hid (fun n1 n2 w1 => page_Covers p A A' n1 c n2 c' s w1)
  have HIP := Lib.hid (fun w1 => page_isPage n w1)
  have HIK := Lib.hid (fun w1 => page_isKey s w1)
  have H1 := Lib.hid hp
  clear hp
  unfold Page.val Page.raw at HCH HOW
  unfold Page.val Page.raw
  obtain ⟨ni, hni⟩ : ∃ n, n = p.items.length := ⟨_, rfl⟩
  obtain ⟨nk, hnk⟩ : ∃ n, n = p.kids.length := ⟨_, rfl⟩
  obtain ⟨lv, hlv⟩ : ∃ n, n = p.level := ⟨_, rfl⟩
  rw [← hni, ← hnk, ← hlv]
  rw [← hni, ← hnk, ← hlv] at HCH HOW
  rw [← hnk] at HPK
  rw [← hni] at HPI
  rw [← hlv] at HCV
  have HNI := Lib.hid hni
  have HNK := Lib.hid hnk
  have HLV := Lib.hid hlv
  clear hni hnk hlv
  have hF := Fr.three w 27 27 27 #[Value.int IntKind.i64 lv, Value.string p.low, Value.string p.high, Value.bool p.last, Value.int IntKind.i64 p.side, Value.slice A ni c, Value.slice A' nk c'] #[Value.int IntKind.i64 0, Value.string { data := #[] }, Value.string { data := #[] }, Value.bool false, Value.int IntKind.i64 0, Value.slice none 0 0, Value.slice none 0 0] #[Value.int IntKind.i64 0, Value.string { data := #[] }, Value.string { data := #[] }, Value.bool false, Value.int IntKind.i64 0, Value.slice none 0 0, Value.slice none 0 0]
  go_enter Tryz.func129, Tryz.ntmps129
  go_upto_region 1 with (fail)
  generalize ((w.alloc (.cells #[Value.int IntKind.i64 lv, Value.string p.low, Value.string p.high, Value.bool p.last, Value.int IntKind.i64 p.side, Value.slice A ni c, Value.slice A' nk c'] 27)).alloc (.cells #[Value.int IntKind.i64 0, Value.string { data := #[] }, Value.string { data := #[] }, Value.bool false, Value.int IntKind.i64 0, Value.slice none 0 0, Value.slice none 0 0] 27)).alloc (.cells #[Value.int IntKind.i64 0, Value.string { data := #[] }, Value.string { data := #[] }, Value.bool false, Value.int IntKind.i64 0, Value.slice none 0 0, Value.slice none 0 0] 27) = w0 at *
  have HF0 := Lib.hid hF
  clear hF
  go_wp2_with (refine wpList_load_row rfl 27 _ rfl (w.heap.size) rfl 27 _ (0, 0) _ HF0.out.b0 Tryz.underlying27 rfl (by kernel_rfl) ?_)
  refine (HCH.out w0 ((H1.out.below HF0.out.be).mono (Nat.le_refl _) HF0.out.be.size)).mono ?_
  rintro e w1 ⟨rfl, hb1⟩
  have HF1 := Lib.hid (HF0.out.on hb1)
  clear hb1
  cases hok : p.ok with
  | false =>
    have HC : Hid (p.check = 101) := Lib.hid (by unfold Page.check; rw [hok]; rfl)
    have HOK := Lib.hid hok
    clear hok
    rw [HC.out]
    go_wp2_with (first
    | (refine wpList_store_row rfl 27 _ _ rfl rfl (w.heap.size + 2) rfl _ _ _ rfl HFA.out.b2 rfl (by kernel_rfl) (List.all_eq_true.1 rfl) ?_; rintro wB hTB hBB; have HFB := Lib.hid (HFA.out.t2 hTB hBB); clear hTB hBB)
    | (refine wpList_store_row rfl 27 _ _ rfl rfl (w.heap.size + 1) rfl _ _ _ rfl HF1.out.b1 rfl (by kernel_rfl) (List.all_eq_true.1 rfl) ?_; rintro wA hTA hBA; have HFA := Lib.hid (HF1.out.t1 hTA hBA); clear hTA hBA))
    exact bodyPost_ret (v := .tuple #[.agg #[Value.int IntKind.i64 0, Value.string { data := #[] }, Value.string { data := #[] }, Value.bool false, Value.int IntKind.i64 0, Value.slice none 0 0, Value.slice none 0 0], .agg #[Value.int IntKind.i64 0, Value.string { data := #[] }, Value.string { data := #[] }, Value.bool false, Value.int IntKind.i64 0, Value.slice none 0 0, Value.slice none 0 0], .int .i64 101]) (results_row3 rfl _ _ (w.heap.size + 1) (w.heap.size + 2) _ _ _ _ _ _ _ _ rfl HFB.out.b1 Tryz.underlying27 rfl (by kernel_rfl) rfl HFB.out.b2 Tryz.underlying27 rfl (by kernel_rfl) rfl) rfl (by rw [show p.splitE s n = 101 by unfold Page.splitE; rw [HOK.out]; rfl, show p.splitP s n = Page.zero by unfold Page.splitP; rw [HOK.out]; rfl]; exact PostSp.nothing HFB.out.be)
  | true =>
    have HC : Hid (p.check = 0) := Lib.hid (by unfold Page.check; rw [hok]; rfl)
    have HOK := Lib.hid hok
    have HFEW := Lib.hid (Page.Fine.items_few (Page.Fine.of_ok hok))
    have HSO := Lib.hid (Page.sortedI hok)
    have HSK := Lib.hid (Page.sortedK hok)
    clear hok
    rw [HC.out]
    obtain ⟨z0, z1, z2, z3, z4, z5, z6⟩ := Blk.cells7 HF1.out.b0
    go_wp2_with fail
    refine (HPI.out w1 ((H1.out.items.below HF1.out.be).mono (Nat.le_refl _) HF1.out.be.size) HSO.out).mono ?_
    rintro e w2 ⟨rfl, hb2⟩
    obtain ⟨pi, hpi⟩ : ∃ n, n = posOf Item.key p.items s := ⟨_, rfl⟩
    obtain ⟨at0, hat0⟩ : ∃ n, n = isAt Item.key p.items s := ⟨_, rfl⟩
    rw [← hpi, ← hat0]
    have HPOI := Lib.hid hpi
    have HF2 := Lib.hid (HF1.out.on hb2)
    clear hpi hat0 hb2 z0 z1 z2 z3 z4 z5 z6
    obtain ⟨z0, z1, z2, z3, z4, z5, z6⟩ := Blk.cells7 HF2.out.b0
    go_wp2_with fail
    refine (HPK.out w2 ((H1.out.kids.below HF2.out.be).mono (Nat.le_refl _) HF2.out.be.size) HSK.out).mono ?_
    rintro e w3 ⟨rfl, hb3⟩
    obtain ⟨at1, hat⟩ : ∃ b, b = isAt Kid.key p.kids s := ⟨_, rfl⟩
    obtain ⟨pk, hpk⟩ : ∃ n, n = posOf Kid.key p.kids s := ⟨_, rfl⟩
    rw [← hat, ← hpk]
    have HAT := Lib.hid hat
    have HPOK := Lib.hid hpk
    have HF3 := Lib.hid (HF2.out.on hb3)
    clear hat hpk hb3 z0 z1 z2 z3 z4 z5 z6
    obtain ⟨z0, z1, z2, z3, z4, z5, z6⟩ := Blk.cells7 HF3.out.b0
    obtain ⟨cv, hcv⟩ : ∃ b, b = p.covers s := ⟨_, rfl⟩
    rw [← hcv] at HCV
    have HCVE := Lib.hid hcv
    obtain ⟨ip, hip⟩ : ∃ b, b = isPage n := ⟨_, rfl⟩
    rw [← hip] at HIP
    have HIPE := Lib.hid hip
    obtain ⟨ik, hik⟩ : ∃ b, b = isKey s := ⟨_, rfl⟩
    rw [← hik] at HIK
    have HIKE := Lib.hid hik
    clear hcv hip hik
    go_upto_region 6 with (fail)
    go_cut [13, 65] (fun b v wc => b = .bool at1 ∧ v = .bool (!p.splitFits s n) ∧ Hid (Fr w wc [(27, #[Value.int IntKind.i64 lv, Value.string p.low, Value.string p.high, Value.bool p.last, Value.int IntKind.i64 p.side, Value.slice A ni c, Value.slice A' nk c']), (27, #[Value.int IntKind.i64 0, Value.string { data := #[] }, Value.string { data := #[] }, Value.bool false, Value.int IntKind.i64 0, Value.slice none 0 0, Value.slice none 0 0]), (27, #[Value.int IntKind.i64 0, Value.string { data := #[] }, Value.string { data := #[] }, Value.bool false, Value.int IntKind.i64 0, Value.slice none 0 0, Value.slice none 0 0])]))
    case first =>
      cases ht0 : (ik) with
      | true =>
        have Hht0 := Lib.hid ht0
        cases ht1 : (s.toList == p.low.toList) with
        | true =>
          have Hht1 := Lib.hid ht1
          go_wp2_with (first | (go_at_call 72; refine (HIK.out _).mono ?_; rintro e w4 ⟨rfl, rfl⟩))
          go_meet
          have g0 := Hht0.out
          try simp only [decide_eq_true_eq, decide_eq_false_iff_not, Int.not_lt, bne_iff_ne, ne_eq, bne_eq_false_iff_eq] at g0
          have g1 := Hht1.out
          try simp only [decide_eq_true_eq, decide_eq_false_iff_not, Int.not_lt, bne_iff_ne, ne_eq, bne_eq_false_iff_eq] at g1
          exact ⟨by first | rfl | simp [g0, g1], by unfold Page.splitFits same; rw [← HLV.out, ← HCVE.out, ← HIPE.out, ← HIKE.out, ← HAT.out]; simp [g0, g1] <;> (intro h; omega), HF3⟩
        | false =>
          have Hht1 := Lib.hid ht1
          cases ht2 : (cv) with
          | true =>
            have Hht2 := Lib.hid ht2
            cases ht3 : (ip) with
            | true =>
              have Hht3 := Lib.hid ht3
              cases ht4 : (decide ((0 : Int) < lv)) with
              | true =>
                have Hht4 := Lib.hid ht4
                cases ht5 : (at1) with
                | true =>
                  have Hht5 := Lib.hid ht5
                  go_wp2_with (first | (go_at_call 72; refine (HIK.out _).mono ?_; rintro e w4 ⟨rfl, rfl⟩) | (go_at_call 52; refine (HCV.out _ _ _).mono ?_; rintro e w4 ⟨rfl, hb4⟩; have HF4 := Lib.hid (HF3.out.on hb4); clear hb4 z0 z1 z2 z3 z4 z5 z6; obtain ⟨z0, z1, z2, z3, z4, z5, z6⟩ := Blk.cells7 HF4.out.b0) | (go_at_call 73; refine (HIP.out _).mono ?_; rintro e w4 ⟨rfl, rfl⟩))
                  go_meet
                  have g0 := Hht0.out
                  try simp only [decide_eq_true_eq, decide_eq_false_iff_not, Int.not_lt, bne_iff_ne, ne_eq, bne_eq_false_iff_eq] at g0
                  have g1 := Hht1.out
                  try simp only [decide_eq_true_eq, decide_eq_false_iff_not, Int.not_lt, bne_iff_ne, ne_eq, bne_eq_false_iff_eq] at g1
                  have g2 := Hht2.out
                  try simp only [decide_eq_true_eq, decide_eq_false_iff_not, Int.not_lt, bne_iff_ne, ne_eq, bne_eq_false_iff_eq] at g2
                  have g3 := Hht3.out
                  try simp only [decide_eq_true_eq, decide_eq_false_iff_not, Int.not_lt, bne_iff_ne, ne_eq, bne_eq_false_iff_eq] at g3
                  have g4 := Hht4.out
                  try simp only [decide_eq_true_eq, decide_eq_false_iff_not, Int.not_lt, bne_iff_ne, ne_eq, bne_eq_false_iff_eq] at g4
                  have g5 := Hht5.out
                  try simp only [decide_eq_true_eq, decide_eq_false_iff_not, Int.not_lt, bne_iff_ne, ne_eq, bne_eq_false_iff_eq] at g5
                  exact ⟨by first | rfl | simp [g0, g1, g2, g3, g4, g5], by unfold Page.splitFits same; rw [← HLV.out, ← HCVE.out, ← HIPE.out, ← HIKE.out, ← HAT.out]; simp [g0, g1, g2, g3, g4, g5] <;> (intro h; omega), HF4⟩
                | false =>
                  have Hht5 := Lib.hid ht5
                  go_wp2_with (first | (go_at_call 72; refine (HIK.out _).mono ?_; rintro e w4 ⟨rfl, rfl⟩) | (go_at_call 52; refine (HCV.out _ _ _).mono ?_; rintro e w4 ⟨rfl, hb4⟩; have HF4 := Lib.hid (HF3.out.on hb4); clear hb4 z0 z1 z2 z3 z4 z5 z6; obtain ⟨z0, z1, z2, z3, z4, z5, z6⟩ := Blk.cells7 HF4.out.b0) | (go_at_call 73; refine (HIP.out _).mono ?_; rintro e w4 ⟨rfl, rfl⟩))
                  go_meet
                  have g0 := Hht0.out
                  try simp only [decide_eq_true_eq, decide_eq_false_iff_not, Int.not_lt, bne_iff_ne, ne_eq, bne_eq_false_iff_eq] at g0
                  have g1 := Hht1.out
                  try simp only [decide_eq_true_eq, decide_eq_false_iff_not, Int.not_lt, bne_iff_ne, ne_eq, bne_eq_false_iff_eq] at g1
                  have g2 := Hht2.out
                  try simp only [decide_eq_true_eq, decide_eq_false_iff_not, Int.not_lt, bne_iff_ne, ne_eq, bne_eq_false_iff_eq] at g2
                  have g3 := Hht3.out
                  try simp only [decide_eq_true_eq, decide_eq_false_iff_not, Int.not_lt, bne_iff_ne, ne_eq, bne_eq_false_iff_eq] at g3
                  have g4 := Hht4.out
                  try simp only [decide_eq_true_eq, decide_eq_false_iff_not, Int.not_lt, bne_iff_ne, ne_eq, bne_eq_false_iff_eq] at g4
                  have g5 := Hht5.out
                  try simp only [decide_eq_true_eq, decide_eq_false_iff_not, Int.not_lt, bne_iff_ne, ne_eq, bne_eq_false_iff_eq] at g5
                  exact ⟨by first | rfl | simp [g0, g1, g2, g3, g4, g5], by unfold Page.splitFits same; rw [← HLV.out, ← HCVE.out, ← HIPE.out, ← HIKE.out, ← HAT.out]; simp [g0, g1, g2, g3, g4, g5] <;> (intro h; omega), HF4⟩
              | false =>
                have Hht4 := Lib.hid ht4
                go_wp2_with (first | (go_at_call 72; refine (HIK.out _).mono ?_; rintro e w4 ⟨rfl, rfl⟩) | (go_at_call 52; refine (HCV.out _ _ _).mono ?_; rintro e w4 ⟨rfl, hb4⟩; have HF4 := Lib.hid (HF3.out.on hb4); clear hb4 z0 z1 z2 z3 z4 z5 z6; obtain ⟨z0, z1, z2, z3, z4, z5, z6⟩ := Blk.cells7 HF4.out.b0) | (go_at_call 73; refine (HIP.out _).mono ?_; rintro e w4 ⟨rfl, rfl⟩))
                go_meet
                have g0 := Hht0.out
                try simp only [decide_eq_true_eq, decide_eq_false_iff_not, Int.not_lt, bne_iff_ne, ne_eq, bne_eq_false_iff_eq] at g0
                have g1 := Hht1.out
                try simp only [decide_eq_true_eq, decide_eq_false_iff_not, Int.not_lt, bne_iff_ne, ne_eq, bne_eq_false_iff_eq] at g1
                have g2 := Hht2.out
                try simp only [decide_eq_true_eq, decide_eq_false_iff_not, Int.not_lt, bne_iff_ne, ne_eq, bne_eq_false_iff_eq] at g2
                have g3 := Hht3.out
                try simp only [decide_eq_true_eq, decide_eq_false_iff_not, Int.not_lt, bne_iff_ne, ne_eq, bne_eq_false_iff_eq] at g3
                have g4 := Hht4.out
                try simp only [decide_eq_true_eq, decide_eq_false_iff_not, Int.not_lt, bne_iff_ne, ne_eq, bne_eq_false_iff_eq] at g4
                exact ⟨by first | rfl | simp [g0, g1, g2, g3, g4], by unfold Page.splitFits same; rw [← HLV.out, ← HCVE.out, ← HIPE.out, ← HIKE.out, ← HAT.out]; simp [g0, g1, g2, g3, g4] <;> (intro h; omega), HF4⟩
            | false =>
              have Hht3 := Lib.hid ht3
              go_wp2_with (first | (go_at_call 72; refine (HIK.out _).mono ?_; rintro e w4 ⟨rfl, rfl⟩) | (go_at_call 52; refine (HCV.out _ _ _).mono ?_; rintro e w4 ⟨rfl, hb4⟩; have HF4 := Lib.hid (HF3.out.on hb4); clear hb4 z0 z1 z2 z3 z4 z5 z6; obtain ⟨z0, z1, z2, z3, z4, z5, z6⟩ := Blk.cells7 HF4.out.b0) | (go_at_call 73; refine (HIP.out _).mono ?_; rintro e w4 ⟨rfl, rfl⟩))
              go_meet
              have g0 := Hht0.out
              try simp only [decide_eq_true_eq, decide_eq_false_iff_not, Int.not_lt, bne_iff_ne, ne_eq, bne_eq_false_iff_eq] at g0
              have g1 := Hht1.out
              try simp only [decide_eq_true_eq, decide_eq_false_iff_not, Int.not_lt, bne_iff_ne, ne_eq, bne_eq_false_iff_eq] at g1
              have g2 := Hht2.out
              try simp only [decide_eq_true_eq, decide_eq_false_iff_not, Int.not_lt, bne_iff_ne, ne_eq, bne_eq_false_iff_eq] at g2
              have g3 := Hht3.out
              try simp only [decide_eq_true_eq, decide_eq_false_iff_not, Int.not_lt, bne_iff_ne, ne_eq, bne_eq_false_iff_eq] at g3
              exact ⟨by first | rfl | simp [g0, g1, g2, g3], by unfold Page.splitFits same; rw [← HLV.out, ← HCVE.out, ← HIPE.out, ← HIKE.out, ← HAT.out]; simp [g0, g1, g2, g3] <;> (intro h; omega), HF4⟩
          | false =>
            have Hht2 := Lib.hid ht2
            go_wp2_with (first | (go_at_call 72; refine (HIK.out _).mono ?_; rintro e w4 ⟨rfl, rfl⟩) | (go_at_call 52; refine (HCV.out _ _ _).mono ?_; rintro e w4 ⟨rfl, hb4⟩; have HF4 := Lib.hid (HF3.out.on hb4); clear hb4 z0 z1 z2 z3 z4 z5 z6; obtain ⟨z0, z1, z2, z3, z4, z5, z6⟩ := Blk.cells7 HF4.out.b0))
            go_meet
            have g0 := Hht0.out
            try simp only [decide_eq_true_eq, decide_eq_false_iff_not, Int.not_lt, bne_iff_ne, ne_eq, bne_eq_false_iff_eq] at g0
            have g1 := Hht1.out
            try simp only [decide_eq_true_eq, decide_eq_false_iff_not, Int.not_lt, bne_iff_ne, ne_eq, bne_eq_false_iff_eq] at g1
            have g2 := Hht2.out
            try simp only [decide_eq_true_eq, decide_eq_false_iff_not, Int.not_lt, bne_iff_ne, ne_eq, bne_eq_false_iff_eq] at g2
            exact ⟨by first | rfl | simp [g0, g1, g2], by unfold Page.splitFits same; rw [← HLV.out, ← HCVE.out, ← HIPE.out, ← HIKE.out, ← HAT.out]; simp [g0, g1, g2] <;> (intro h; omega), HF4⟩
      | false =>
        have Hht0 := Lib.hid ht0
        go_wp2_with (first | (go_at_call 72; refine (HIK.out _).mono ?_; rintro e w4 ⟨rfl, rfl⟩))
        go_meet
        have g0 := Hht0.out
        try simp only [decide_eq_true_eq, decide_eq_false_iff_not, Int.not_lt, bne_iff_ne, ne_eq, bne_eq_false_iff_eq] at g0
        exact ⟨by first | rfl | simp [g0], by unfold Page.splitFits same; rw [← HLV.out, ← HCVE.out, ← HIPE.out, ← HIKE.out, ← HAT.out]; simp [g0] <;> (intro h; omega), HF3⟩
    case rest =>
      obtain ⟨rfl, rfl, HF5⟩ := hcut
      clear z0 z1 z2 z3 z4 z5 z6
      cases hf : p.splitFits s n with
      | false =>
        have HFI := Lib.hid hf
        clear hf
        go_wp2_with (first
    | (refine wpList_store_row rfl 27 _ _ rfl rfl (w.heap.size + 2) rfl _ _ _ rfl HFA.out.b2 rfl (by kernel_rfl) (List.all_eq_true.1 rfl) ?_; rintro wB hTB hBB; have HFB := Lib.hid (HFA.out.t2 hTB hBB); clear hTB hBB)
    | (refine wpList_store_row rfl 27 _ _ rfl rfl (w.heap.size + 1) rfl _ _ _ rfl HF5.out.b1 rfl (by kernel_rfl) (List.all_eq_true.1 rfl) ?_; rintro wA hTA hBA; have HFA := Lib.hid (HF5.out.t1 hTA hBA); clear hTA hBA))
        exact bodyPost_ret (v := .tuple #[.agg #[Value.int IntKind.i64 0, Value.string { data := #[] }, Value.string { data := #[] }, Value.bool false, Value.int IntKind.i64 0, Value.slice none 0 0, Value.slice none 0 0], .agg #[Value.int IntKind.i64 0, Value.string { data := #[] }, Value.string { data := #[] }, Value.bool false, Value.int IntKind.i64 0, Value.slice none 0 0, Value.slice none 0 0], .int .i64 103]) (results_row3 rfl _ _ (w.heap.size + 1) (w.heap.size + 2) _ _ _ _ _ _ _ _ rfl HFB.out.b1 Tryz.underlying27 rfl (by kernel_rfl) rfl HFB.out.b2 Tryz.underlying27 rfl (by kernel_rfl) rfl) rfl (by rw [show p.splitE s n = 103 by unfold Page.splitE; rw [HOK.out, HFI.out]; rfl, show p.splitP s n = Page.zero by unfold Page.splitP; rw [HOK.out, HFI.out]; rfl]; exact PostSp.nothing HFB.out.be)
      | true =>
        have HFI := Lib.hid hf
        clear hf
        have HOWN : Hid (∀ W, Fr w W [(27, #[Value.int IntKind.i64 lv, Value.string p.low, Value.string p.high, Value.bool p.last, Value.int IntKind.i64 p.side, Value.slice A ni c, Value.slice A' nk c']), (27, #[Value.int IntKind.i64 0, Value.string { data := #[] }, Value.string { data := #[] }, Value.bool false, Value.int IntKind.i64 0, Value.slice none 0 0, Value.slice none 0 0]), (27, #[Value.int IntKind.i64 0, Value.string { data := #[] }, Value.string { data := #[] }, Value.bool false, Value.int IntKind.i64 0, Value.slice none 0 0, Value.slice none 0 0])] → Calls Tryz.prog 117 #[.agg #[Value.int IntKind.i64 lv, Value.string p.low, Value.string p.high, Value.bool p.last, Value.int IntKind.i64 p.side, Value.slice A ni c, Value.slice A' nk c']] W (fun e w' => ∃ EI dI EK dK, e = .returned (.agg #[Value.int IntKind.i64 lv, Value.string p.low, Value.string p.high, Value.bool p.last, Value.int IntKind.i64 p.side, Value.slice EI ni dI, Value.slice EK nk dK]) ∧ OwnItem w' W.heap.size (.slice EI ni dI) p.items ∧ OwnKid w' W.heap.size (.slice EK nk dK) p.kids ∧ ni ≤ dI ∧ nk ≤ dK ∧ Below W.heap.size W w')) := Lib.hid fun W hw => by
          refine (HOW.out W ((H1.out.below hw.be).mono (Nat.le_refl _) hw.be.size) (by have := HFEW.out.1; rw [HNI.out]; omega) (by have := HFEW.out.2; rw [HNK.out]; omega)).mono ?_
          rintro e w6 ⟨vi, vk, rfl, hOI, hOK, hb6⟩
          obtain ⟨EI, dI, rfl, h1, _⟩ := hOI.form
          obtain ⟨EK, dK, rfl, h2, _⟩ := hOK.form
          rw [← HNI.out] at hOI h1
          rw [← HNK.out] at hOK h2
          refine ⟨EI, dI, EK, dK, ?_, hOI, hOK, h1, h2, hb6⟩
          unfold Page.valW
          rw [HNI.out, HNK.out, HLV.out]
        go_upto_region 8 with (fail)
        go_cut [14, 15] (fun x14 x15 wx => Hid (∃ g1 g2 EI dI EK dK ER dr EQ dq, x14 = Value.pointer (some ⟨g1, 0, none⟩) ∧ x15 = Value.pointer (some ⟨g2, 0, none⟩) ∧ w.heap.size + 3 ≤ g1 ∧ w.heap.size + 3 ≤ g2 ∧ g1 ≠ g2 ∧ Fr w wx [(27, #[Value.int IntKind.i64 lv, Value.string p.low, Value.string p.high, Value.bool p.last, Value.int IntKind.i64 p.side, Value.slice A ni c, Value.slice A' nk c']), (27, #[Value.int IntKind.i64 0, Value.string { data := #[] }, Value.string { data := #[] }, Value.bool false, Value.int IntKind.i64 0, Value.slice none 0 0, Value.slice none 0 0]), (27, #[Value.int IntKind.i64 0, Value.string { data := #[] }, Value.string { data := #[] }, Value.bool false, Value.int IntKind.i64 0, Value.slice none 0 0, Value.slice none 0 0])] ∧ Blk wx g1 27 #[Value.int IntKind.i64 lv, Value.string p.low, Value.string p.high, Value.bool p.last, Value.int IntKind.i64 p.side, Value.slice EI ni dI, Value.slice EK nk dK] ∧ Blk wx g2 27 #[Value.int IntKind.i64 lv, Value.string p.low, Value.string p.high, Value.bool p.last, Value.int IntKind.i64 p.side, Value.slice ER ni dr, Value.slice EQ nk dq] ∧ ni ≤ dr ∧ nk ≤ dq ∧ OwnItem wx (w.heap.size + 3) (.slice EI ni dI) p.items ∧ OwnKid wx (w.heap.size + 3) (.slice EK nk dK) p.kids ∧ (∀ k, ((Value.slice EI ni dI).ownBlock = some k ∨ (Value.slice EK nk dK).ownBlock = some k) → k ≠ g1 ∧ k ≠ g2)))
        case first =>
          refine wp_region_inv (by kernel_rfl) [68, 69, 70, 71, 14, 15] (SpJ w [(27, #[Value.int IntKind.i64 lv, Value.string p.low, Value.string p.high, Value.bool p.last, Value.int IntKind.i64 p.side, Value.slice A ni c, Value.slice A' nk c']), (27, #[Value.int IntKind.i64 0, Value.string { data := #[] }, Value.string { data := #[] }, Value.bool false, Value.int IntKind.i64 0, Value.slice none 0 0, Value.slice none 0 0]), (27, #[Value.int IntKind.i64 0, Value.string { data := #[] }, Value.string { data := #[] }, Value.bool false, Value.int IntKind.i64 0, Value.slice none 0 0, Value.slice none 0 0])] #[Value.int IntKind.i64 lv, Value.string p.low, Value.string p.high, Value.bool p.last, Value.int IntKind.i64 p.side, Value.slice A ni c, Value.slice A' nk c'] (fun EI dI EK dK => #[Value.int IntKind.i64 lv, Value.string p.low, Value.string p.high, Value.bool p.last, Value.int IntKind.i64 p.side, Value.slice EI ni dI, Value.slice EK nk dK]) 27 p.items p.kids ni nk) (gOrd_ok (by kernel_rfl)) (SpJ.start HF5.out.drew1) ?_ ?_
          · intro i o ho D X W hJ hDi hdep
            rcases i with _ | _ | _ | _ | _ | _ | _ | _ | i
            all_goals simp only [List.getElem?_toArray, List.getElem?_cons_zero, List.getElem?_cons_succ, List.getElem?_nil, Option.some.injEq, reduceCtorEq] at ho
            · exact wp1_load_row ho 27 (.tmp 3) rfl rfl w.heap.size (by rw [over_out (by decide)]; rfl) 27 _ _ hJ.fr.b0 Tryz.underlying27 rfl (by kernel_rfl) ⟨_, over_put (by decide) _, hJ.load0⟩
            · have d0 : D 0 = true := hdep ⟨0, .data⟩ (by rw [← ho]; simp) rfl
              exact wp1_call ho 117 #[.tmp 68] _ rfl rfl #[.agg #[Value.int IntKind.i64 lv, Value.string p.low, Value.string p.high, Value.bool p.last, Value.int IntKind.i64 p.side, Value.slice A ni c, Value.slice A' nk c']] (by simp only [List.map_toArray, List.map_cons, List.map_nil]; rw [over_in (by decide) (Nat.le_of_ble_eq_true rfl), hJ.l0 d0]) Tryz.func117 (by kernel_rfl) rfl (HOWN.out W hJ.fr) (by
                rintro e w' ⟨EI, dI, EK, dK, rfl, hI, hK, _, _, hb⟩
                exact ⟨_, rfl, _, over_put (by decide) _, hJ.own1 hDi hb EI dI EK dK hI hK⟩)
            · exact wp1_load_row ho 27 (.tmp 3) rfl rfl w.heap.size (by rw [over_out (by decide)]; rfl) 27 _ _ hJ.fr.b0 Tryz.underlying27 rfl (by kernel_rfl) ⟨_, over_put (by decide) _, hJ.load2⟩
            · have d2 : D 2 = true := hdep ⟨2, .data⟩ (by rw [← ho]; simp) rfl
              exact wp1_call ho 117 #[.tmp 70] _ rfl rfl #[.agg #[Value.int IntKind.i64 lv, Value.string p.low, Value.string p.high, Value.bool p.last, Value.int IntKind.i64 p.side, Value.slice A ni c, Value.slice A' nk c']] (by simp only [List.map_toArray, List.map_cons, List.map_nil]; rw [over_in (by decide) (Nat.le_of_ble_eq_true rfl), hJ.l2 d2]) Tryz.func117 (by kernel_rfl) rfl (HOWN.out W hJ.fr) (by
                rintro e w' ⟨EI, dI, EK, dK, rfl, _, _, h1, h2, hb⟩
                exact ⟨_, rfl, _, over_put (by decide) _, hJ.own3 hDi hb EI dI EK dK h1 h2⟩)
            · exact wp1_run ho (v := ptr W.heap.size) (w' := W.alloc (.cells #[Value.int IntKind.i64 0, Value.string { data := #[] }, Value.string { data := #[] }, Value.bool false, Value.int IntKind.i64 0, Value.slice none 0 0, Value.slice none 0 0] 27)) rfl (by go_simp; rfl) ⟨_, over_put (by decide) _, hJ.alloc4 hDi _ rfl⟩
            · exact wp1_run ho (v := ptr W.heap.size) (w' := W.alloc (.cells #[Value.int IntKind.i64 0, Value.string { data := #[] }, Value.string { data := #[] }, Value.bool false, Value.int IntKind.i64 0, Value.slice none 0 0, Value.slice none 0 0] 27)) rfl (by go_simp; rfl) ⟨_, over_put (by decide) _, hJ.alloc5 hDi _ rfl⟩
            · have d4 : D 4 = true := hdep ⟨4, .data⟩ (by rw [← ho]; simp) rfl
              have d1 : D 1 = true := hdep ⟨1, .data⟩ (by rw [← ho]; simp) rfl
              obtain ⟨g, cs, e14, hg, hcs, hB, _⟩ := hJ.a4 d4
              obtain ⟨EI, dI, EK, dK, e69, _⟩ := hJ.o1 d1
              exact wp1_store_row ho 27 (.tmp 14) (.tmp 69) rfl rfl g (by rw [over_in (by decide) (Nat.le_of_ble_eq_true rfl), e14]; rfl) 27 _ cs (by rw [over_in (by decide) (Nat.le_of_ble_eq_true rfl), e69]) hB (by rw [hcs]; rfl) (by kernel_rfl) (List.all_eq_true.1 rfl) (fun w' hT hB' => ⟨X, rfl, hJ.store6 d1 d4 e14 e69 rfl hT hB'⟩)
            · have d5 : D 5 = true := hdep ⟨5, .data⟩ (by rw [← ho]; simp) rfl
              have d3 : D 3 = true := hdep ⟨3, .data⟩ (by rw [← ho]; simp) rfl
              obtain ⟨g, cs, e15, hg, hcs, hB, _⟩ := hJ.a5 d5
              obtain ⟨ER, dr, EQ, dq, e71, _⟩ := hJ.o3 d3
              exact wp1_store_row ho 27 (.tmp 15) (.tmp 71) rfl rfl g (by rw [over_in (by decide) (Nat.le_of_ble_eq_true rfl), e15]; rfl) 27 _ cs (by rw [over_in (by decide) (Nat.le_of_ble_eq_true rfl), e71]) hB (by rw [hcs]; rfl) (by kernel_rfl) (List.all_eq_true.1 rfl) (fun w' hT hB' => ⟨X, rfl, hJ.store7 d3 d5 e15 e71 rfl hT hB'⟩)
          · intro D X W hJ hall
            obtain ⟨EI, dI, EK, dK, e69, hI, hK, hap⟩ := hJ.o1 (hall 1 (by decide))
            obtain ⟨ER, dr, EQ, dq, e71, hr, hq⟩ := hJ.o3 (hall 3 (by decide))
            obtain ⟨g1, cs1, e14, hg1, _, hB1, h6⟩ := hJ.a4 (hall 4 (by decide))
            obtain ⟨g2, cs2, e15, hg2, _, hB2, h7⟩ := hJ.a5 (hall 5 (by decide))
            have c1 := h6 (hall 6 (by decide))
            rw [e69] at c1
            injection c1 with c1
            subst c1
            have c2 := h7 (hall 7 (by decide))
            rw [e71] at c2
            injection c2 with c2
            subst c2
            have hne : g1 ≠ g2 := fun e => hJ.ne (hall 4 (by decide)) (hall 5 (by decide)) (by rw [e14, e15, e])
            have HX14 : X 14 = Value.pointer (some ⟨g1, 0, none⟩) := e14
            have HX15 : X 15 = Value.pointer (some ⟨g2, 0, none⟩) := e15
            have HALL := Lib.hid (show ∃ g1 g2 EI dI EK dK ER dr EQ dq, X 14 = Value.pointer (some ⟨g1, 0, none⟩) ∧ X 15 = Value.pointer (some ⟨g2, 0, none⟩) ∧ w.heap.size + 3 ≤ g1 ∧ w.heap.size + 3 ≤ g2 ∧ g1 ≠ g2 ∧ Fr w W [(27, #[Value.int IntKind.i64 lv, Value.string p.low, Value.string p.high, Value.bool p.last, Value.int IntKind.i64 p.side, Value.slice A ni c, Value.slice A' nk c']), (27, #[Value.int IntKind.i64 0, Value.string { data := #[] }, Value.string { data := #[] }, Value.bool false, Value.int IntKind.i64 0, Value.slice none 0 0, Value.slice none 0 0]), (27, #[Value.int IntKind.i64 0, Value.string { data := #[] }, Value.string { data := #[] }, Value.bool false, Value.int IntKind.i64 0, Value.slice none 0 0, Value.slice none 0 0])] ∧ Blk W g1 27 #[Value.int IntKind.i64 lv, Value.string p.low, Value.string p.high, Value.bool p.last, Value.int IntKind.i64 p.side, Value.slice EI ni dI, Value.slice EK nk dK] ∧ Blk W g2 27 #[Value.int IntKind.i64 lv, Value.string p.low, Value.string p.high, Value.bool p.last, Value.int IntKind.i64 p.side, Value.slice ER ni dr, Value.slice EQ nk dq] ∧ ni ≤ dr ∧ nk ≤ dq ∧ OwnItem W (w.heap.size + 3) (.slice EI ni dI) p.items ∧ OwnKid W (w.heap.size + 3) (.slice EK nk dK) p.kids ∧ (∀ k, ((Value.slice EI ni dI).ownBlock = some k ∨ (Value.slice EK nk dK).ownBlock = some k) → k ≠ g1 ∧ k ≠ g2) from
              ⟨g1, g2, EI, dI, EK, dK, ER, dr, EQ, dq, e14, e15, hg1, hg2, hne, hJ.fr, hB1, hB2, hr, hq, hI, hK, fun k hk => ⟨hap k g1 hk (.inl ⟨hall 4 (by decide), e14⟩), hap k g2 hk (.inr ⟨hall 5 (by decide), e15⟩)⟩⟩)
            clear hap hI hK hB1 hB2 h6 h7 hall hJ e69 e71 e14 e15 HX14 HX15
            simp only [over, List.foldl_cons, List.foldl_nil, Act.put, List.setIfInBounds_toArray, List.set_cons_succ, List.set_cons_zero]
            go_wp2
            go_meet
            exact HALL
        case rest =>
          obtain ⟨g1, g2, EI, dI, EK, dK, ER, dr, EQ, dq, rfl, rfl, hg1, hg2, hne, hF, hB1, hB2, hdr, hdq, hI, hK, hap⟩ := hcut.out
          clear hcut
          have HAPI : Hid (∀ k, (Value.slice EI ni dI).ownBlock = some k → k ≠ g1 ∧ k ≠ g2) := Lib.hid fun k hk => hap k (.inl hk)
          have HAPK : Hid (∀ k, (Value.slice EK nk dK).ownBlock = some k → k ≠ g1 ∧ k ≠ g2) := Lib.hid fun k hk => hap k (.inr hk)
          have hdI : ni ≤ dI := by
            obtain ⟨_, _, e, h, _⟩ := hI.form
            injection e with _ _ e3
            rw [HNI.out]; omega
          have hdK : nk ≤ dK := by
            obtain ⟨_, _, e, h, _⟩ := hK.form
            injection e with _ _ e3
            rw [HNK.out]; omega
          have hpin : pi ≤ ni := by rw [HPOI.out, HNI.out]; exact posOf_le _ _ _
          have hpkn : pk ≤ nk := by rw [HPOK.out, HNK.out]; exact posOf_le _ _ _
          have S1 : ∀ W, (Instr.slice 24 (.slice EI ni dI) none (some (.int .i64 (pi : Int))) (some (.int .i64 (pi : Int)))).run Tryz.prog W = .ok (.slice EI pi pi) W := fun W => run_slice_take W _ 23 4 Tryz.underlying24 (by kernel_rfl) EI ni dI pi (by omega)
          have S3 : ∀ W, (Instr.slice 25 (.slice EK nk dK) none (some (.int .i64 (pk : Int))) (some (.int .i64 (pk : Int)))).run Tryz.prog W = .ok (.slice EK pk pk) W := fun W => run_slice_take W _ 61 2 Tryz.underlying25 (by kernel_rfl) EK nk dK pk (by omega)
          obtain ⟨R2, S2⟩ : ∃ R2, ∀ W, (Instr.slice 24 (.slice ER ni dr) (some (.int .i64 (pi : Int))) none none).run Tryz.prog W = .ok (.slice R2 (ni - pi) (dr - pi)) W := ⟨_, fun W => run_slice_drop W _ 23 4 Tryz.underlying24 (by kernel_rfl) ER ni dr pi (by omega)⟩
          obtain ⟨R4, S4⟩ : ∃ R4, ∀ W, (Instr.slice 25 (.slice EQ nk dq) (some (.int .i64 (pk : Int))) none none).run Tryz.prog W = .ok (.slice R4 (nk - pk) (dq - pk)) W := ⟨_, fun W => run_slice_drop W _ 61 2 Tryz.underlying25 (by kernel_rfl) EQ nk dq pk (by omega)⟩
          obtain ⟨n2, hn2⟩ : ∃ m, m = ni - pi := ⟨_, rfl⟩
          obtain ⟨m2, hm2⟩ : ∃ m, m = dr - pi := ⟨_, rfl⟩
          obtain ⟨n4, hn4⟩ : ∃ m, m = nk - pk := ⟨_, rfl⟩
          obtain ⟨m4, hm4⟩ : ∃ m, m = dq - pk := ⟨_, rfl⟩
          rw [← hn2, ← hm2] at S2
          rw [← hn4, ← hm4] at S4
          clear hn2 hm2 hn4 hm4 hdr hdq hdI hdK hpin hpkn hap
          have HG : Hid (w.heap.size + 3 ≤ g1 ∧ w.heap.size + 3 ≤ g2) := Lib.hid ⟨hg1, hg2⟩
          have HF8 := Lib.hid hF
          have HI8 := Lib.hid hI
          have HK8 := Lib.hid hK
          have HB1 := Lib.hid hB1
          have HB2 := Lib.hid hB2
          clear hF hI hK hB1 hB2
          have hne2 : g2 ≠ g1 := fun e => hne e.symm
          obtain ⟨y0, y1, y2, y3, y4, y5, y6⟩ := Blk.cells7 HB1.out
          obtain ⟨x0, x1, x2, x3, x4, x5, x6⟩ := Blk.cells7 HB2.out
          have fz1 := HB1.out.frozen
          have fz2 := HB2.out.frozen
          rename_i wx _
          go_upto_region 10 with (fail)
          have HF9 : Hid (Fr w ((((wc.setCell ⟨g1, 2, none⟩ (Value.string s)).setCell ⟨g1, 4, none⟩ (Value.int IntKind.i64 n)).setCell ⟨g1, 3, none⟩ (Value.bool false)).setCell ⟨g2, 1, none⟩ (Value.string s)) [(27, #[Value.int IntKind.i64 lv, Value.string p.low, Value.string p.high, Value.bool p.last, Value.int IntKind.i64 p.side, Value.slice A ni c, Value.slice A' nk c']), (27, #[Value.int IntKind.i64 0, Value.string { data := #[] }, Value.string { data := #[] }, Value.bool false, Value.int IntKind.i64 0, Value.slice none 0 0, Value.slice none 0 0]), (27, #[Value.int IntKind.i64 0, Value.string { data := #[] }, Value.string { data := #[] }, Value.bool false, Value.int IntKind.i64 0, Value.slice none 0 0, Value.slice none 0 0])]) := Lib.hid ((((HF8.out.far _ (by simp only [List.length_cons, List.length_nil]; omega)).far _ (by simp only [List.length_cons, List.length_nil]; omega)).far _ (by simp only [List.length_cons, List.length_nil]; omega)).far _ (by simp only [List.length_cons, List.length_nil]; omega))
          have HBA : Hid (Blk ((((wc.setCell ⟨g1, 2, none⟩ (Value.string s)).setCell ⟨g1, 4, none⟩ (Value.int IntKind.i64 n)).setCell ⟨g1, 3, none⟩ (Value.bool false)).setCell ⟨g2, 1, none⟩ (Value.string s)) g1 27 #[Value.int IntKind.i64 lv, Value.string p.low, Value.string s, Value.bool false, Value.int IntKind.i64 n, Value.slice EI ni dI, Value.slice EK nk dK]) := Lib.hid ((((HB1.out.set_ 2 _).set_ 4 _).set_ 3 _).far hne _)
          have HBB : Hid (Blk ((((wc.setCell ⟨g1, 2, none⟩ (Value.string s)).setCell ⟨g1, 4, none⟩ (Value.int IntKind.i64 n)).setCell ⟨g1, 3, none⟩ (Value.bool false)).setCell ⟨g2, 1, none⟩ (Value.string s)) g2 27 #[Value.int IntKind.i64 lv, Value.string s, Value.string p.high, Value.bool p.last, Value.int IntKind.i64 p.side, Value.slice ER ni dr, Value.slice EQ nk dq]) := Lib.hid ((((HB2.out.far hne2 _).far hne2 _).far hne2 _).set_ 1 _)
          have HI9 : Hid (OwnItem ((((wc.setCell ⟨g1, 2, none⟩ (Value.string s)).setCell ⟨g1, 4, none⟩ (Value.int IntKind.i64 n)).setCell ⟨g1, 3, none⟩ (Value.bool false)).setCell ⟨g2, 1, none⟩ (Value.string s)) (w.heap.size + 3) (.slice EI ni dI) p.items) := Lib.hid ((((HI8.out.far (fun k hk => (HAPI.out k hk).1) _).far (fun k hk => (HAPI.out k hk).1) _).far (fun k hk => (HAPI.out k hk).1) _).far (fun k hk => (HAPI.out k hk).2) _)
          have HK9 : Hid (OwnKid ((((wc.setCell ⟨g1, 2, none⟩ (Value.string s)).setCell ⟨g1, 4, none⟩ (Value.int IntKind.i64 n)).setCell ⟨g1, 3, none⟩ (Value.bool false)).setCell ⟨g2, 1, none⟩ (Value.string s)) (w.heap.size + 3) (.slice EK nk dK) p.kids) := Lib.hid ((((HK8.out.far (fun k hk => (HAPK.out k hk).1) _).far (fun k hk => (HAPK.out k hk).1) _).far (fun k hk => (HAPK.out k hk).1) _).far (fun k hk => (HAPK.out k hk).2) _)
          generalize (((wc.setCell ⟨g1, 2, none⟩ (Value.string s)).setCell ⟨g1, 4, none⟩ (Value.int IntKind.i64 n)).setCell ⟨g1, 3, none⟩ (Value.bool false)).setCell ⟨g2, 1, none⟩ (Value.string s) = w9 at *
          clear y0 y1 y2 y3 y4 y5 y6 x0 x1 x2 x3 x4 x5 x6 fz1 fz2 HB1 HB2 HF8 HI8 HK8
          go_cut [] (fun wx => Hid (Fr w wx [(27, #[Value.int IntKind.i64 lv, Value.string p.low, Value.string p.high, Value.bool p.last, Value.int IntKind.i64 p.side, Value.slice A ni c, Value.slice A' nk c']), (27, #[Value.int IntKind.i64 0, Value.string { data := #[] }, Value.string { data := #[] }, Value.bool false, Value.int IntKind.i64 0, Value.slice none 0 0, Value.slice none 0 0]), (27, #[Value.int IntKind.i64 0, Value.string { data := #[] }, Value.string { data := #[] }, Value.bool false, Value.int IntKind.i64 0, Value.slice none 0 0, Value.slice none 0 0])] ∧ Blk wx g1 27 #[Value.int IntKind.i64 lv, Value.string p.low, Value.string s, Value.bool false, Value.int IntKind.i64 n, Value.slice EI pi pi, Value.slice EK nk dK] ∧ Blk wx g2 27 #[Value.int IntKind.i64 lv, Value.string s, Value.string p.high, Value.bool p.last, Value.int IntKind.i64 p.side, Value.slice R2 n2 m2, Value.slice EQ nk dq] ∧ OwnItem wx (w.heap.size + 3) (.slice EI ni dI) p.items ∧ OwnKid wx (w.heap.size + 3) (.slice EK nk dK) p.kids))
          case first =>
            have y5 : w9.cell? ⟨g1, 5, none⟩ = some (.slice EI ni dI) := HBA.out.cell 5
            have x5 : w9.cell? ⟨g2, 5, none⟩ = some (.slice ER ni dr) := HBB.out.cell 5
            have fz1 := HBA.out.frozen
            have fz2 := HBB.out.frozen
            go_region
            all_goals (go_wp2; go_meet; exact Lib.hid ⟨(HF9.out.drew1.far _ (by simp only [List.length_cons, List.length_nil]; omega)).far _ (by simp only [List.length_cons, List.length_nil]; omega), (HBA.out.drew.set_ 5 _).far hne _, (HBB.out.drew.far hne2 _).set_ 5 _, (HI9.out.drew1.far (fun k hk => (HAPI.out k hk).1) _).far (fun k hk => (HAPI.out k hk).2) _, (HK9.out.drew1.far (fun k hk => (HAPK.out k hk).1) _).far (fun k hk => (HAPK.out k hk).2) _⟩)
          case rest =>
            obtain ⟨hF, hBA, hBB, hI, hK⟩ := hcut.out
            clear hcut HF9 HBA HBB HI9 HK9
            have HF9 := Lib.hid hF
            have HI9 := Lib.hid hI
            have HK9 := Lib.hid hK
            have HBA := Lib.hid hBA
            have HBB := Lib.hid hBB
            clear hF hBA hBB hI hK
            go_upto_region 11 with (fail)
            go_cut [] (fun wx => Hid (Fr w wx [(27, #[Value.int IntKind.i64 lv, Value.string p.low, Value.string p.high, Value.bool p.last, Value.int IntKind.i64 p.side, Value.slice A ni c, Value.slice A' nk c']), (27, #[Value.int IntKind.i64 0, Value.string { data := #[] }, Value.string { data := #[] }, Value.bool false, Value.int IntKind.i64 0, Value.slice none 0 0, Value.slice none 0 0]), (27, #[Value.int IntKind.i64 0, Value.string { data := #[] }, Value.string { data := #[] }, Value.bool false, Value.int IntKind.i64 0, Value.slice none 0 0, Value.slice none 0 0])] ∧ Blk wx g1 27 #[Value.int IntKind.i64 lv, Value.string p.low, Value.string s, Value.bool false, Value.int IntKind.i64 n, Value.slice EI pi pi, Value.slice EK pk pk] ∧ Blk wx g2 27 #[Value.int IntKind.i64 lv, Value.string s, Value.string p.high, Value.bool p.last, Value.int IntKind.i64 p.side, Value.slice R2 n2 m2, Value.slice R4 n4 m4] ∧ OwnItem wx (w.heap.size + 3) (.slice EI ni dI) p.items ∧ OwnKid wx (w.heap.size + 3) (.slice EK nk dK) p.kids))
            case first =>
              have y6 := HBA.out.cell 6
              have x6 := HBB.out.cell 6
              simp only [List.getElem?_toArray, List.getElem?_cons_succ, List.getElem?_cons_zero] at y6 x6
              have fz1 := HBA.out.frozen
              have fz2 := HBB.out.frozen
              go_region
              all_goals (go_wp2; go_meet; exact Lib.hid ⟨(HF9.out.drew1.far _ (by simp only [List.length_cons, List.length_nil]; omega)).far _ (by simp only [List.length_cons, List.length_nil]; omega), (HBA.out.drew.set_ 6 _).far hne _, (HBB.out.drew.far hne2 _).set_ 6 _, (HI9.out.drew1.far (fun k hk => (HAPI.out k hk).1) _).far (fun k hk => (HAPI.out k hk).2) _, (HK9.out.drew1.far (fun k hk => (HAPK.out k hk).1) _).far (fun k hk => (HAPK.out k hk).2) _⟩)
            case rest =>
              obtain ⟨hF, hBA, hBB, hI, hK⟩ := hcut.out
              clear hcut HF9 HBA HBB HI9 HK9
              have HF9 := Lib.hid hF
              have HI9 := Lib.hid hI
              have HK9 := Lib.hid hK
              have HBA := Lib.hid hBA
              have HBB := Lib.hid hBB
              clear hF hBA hBB hI hK
              have HW0 : Hid (w.heap.size + 3 ≤ wc.heap.size) := Lib.hid HF9.out.sz
              go_upto_region 12 with (fail)
              go_cut [8] (fun v8 wx => v8 = .int .i64 0 ∧ Hid (Below w.heap.size w wx ∧ Blk wx (w.heap.size + 1) 27 #[Value.int IntKind.i64 lv, Value.string p.low, Value.string s, Value.bool false, Value.int IntKind.i64 n, Value.slice EI pi pi, Value.slice EK pk pk] ∧ Blk wx (w.heap.size + 2) 27 #[Value.int IntKind.i64 lv, Value.string s, Value.string p.high, Value.bool p.last, Value.int IntKind.i64 p.side, Value.slice R2 n2 m2, Value.slice R4 n4 m4] ∧ OwnItem wx (w.heap.size + 3) (.slice EI ni dI) p.items ∧ OwnKid wx (w.heap.size + 3) (.slice EK nk dK) p.kids))
              case first =>
                refine wp_region_inv (by kernel_rfl) [101, 102, 8] (SpE w wc 27 g1 g2 #[Value.int IntKind.i64 lv, Value.string p.low, Value.string s, Value.bool false, Value.int IntKind.i64 n, Value.slice EI pi pi, Value.slice EK pk pk] #[Value.int IntKind.i64 lv, Value.string s, Value.string p.high, Value.bool p.last, Value.int IntKind.i64 p.side, Value.slice R2 n2 m2, Value.slice R4 n4 m4]) (gOrd_ok (by kernel_rfl)) ⟨HF9.out.drew1.be, by simp, by simp, HBA.out.drew, HBB.out.drew, ⟨_, rfl, HF9.out.b1, by simp⟩, ⟨_, rfl, HF9.out.b2, by simp⟩, by simp, by simp, by simp, fun k hk => rfl, rfl⟩ ?_ ?_
                · intro i o ho D X W hJ hDi hdep
                  rcases i with _ | _ | _ | _ | _ | i
                  all_goals simp only [List.getElem?_toArray, List.getElem?_cons_zero, List.getElem?_cons_succ, List.getElem?_nil, Option.some.injEq, reduceCtorEq] at ho
                  · exact wp1_load_row ho 27 (.tmp 14) rfl rfl g1 (by rw [over_out (by decide)]; rfl) 27 _ _ hJ.b1 Tryz.underlying27 rfl (by kernel_rfl) ⟨_, over_put (by decide) _, hJ.load0⟩
                  · exact wp1_load_row ho 27 (.tmp 15) rfl rfl g2 (by rw [over_out (by decide)]; rfl) 27 _ _ hJ.b2 Tryz.underlying27 rfl (by kernel_rfl) ⟨_, over_put (by decide) _, hJ.load1⟩
                  · have d0 : D 0 = true := hdep ⟨0, .data⟩ (by rw [← ho]; simp) rfl
                    obtain ⟨cs, hcs, hB, _⟩ := hJ.r1
                    exact wp1_store_row ho 27 (.tmp 6) (.tmp 101) rfl rfl (w.heap.size + 1) (by rw [over_out (by decide)]; rfl) 27 _ cs (by rw [over_in (by decide) (Nat.le_of_ble_eq_true rfl), hJ.l0 d0]) hB (by rw [hcs]; rfl) (by kernel_rfl) (List.all_eq_true.1 rfl) (fun w' hT hB' => ⟨X, rfl, hJ.store2 d0 HG.out.1 HG.out.2 rfl hT hB'⟩)
                  · have d1 : D 1 = true := hdep ⟨1, .data⟩ (by rw [← ho]; simp) rfl
                    obtain ⟨cs, hcs, hB, _⟩ := hJ.r2
                    exact wp1_store_row ho 27 (.tmp 7) (.tmp 102) rfl rfl (w.heap.size + 2) (by rw [over_out (by decide)]; rfl) 27 _ cs (by rw [over_in (by decide) (Nat.le_of_ble_eq_true rfl), hJ.l1 d1]) hB (by rw [hcs]; rfl) (by kernel_rfl) (List.all_eq_true.1 rfl) (fun w' hT hB' => ⟨X, rfl, hJ.store3 d1 HG.out.1 HG.out.2 rfl hT hB'⟩)
                  · exact wp1_run ho (v := .int .i64 0) (w' := W) rfl (by go_simp) ⟨_, over_put (by decide) _, hJ.assign⟩
                · intro D X W hJ hall
                  have H8 := hJ.e (hall 4 (by decide))
                  obtain ⟨a1, _, hb1, e1⟩ := hJ.r1
                  obtain ⟨a2, _, hb2, e2⟩ := hJ.r2
                  rw [e1 (hall 2 (by decide))] at hb1
                  rw [e2 (hall 3 (by decide))] at hb2
                  have HALL := Lib.hid (show Below w.heap.size w W ∧ Blk W (w.heap.size + 1) 27 #[Value.int IntKind.i64 lv, Value.string p.low, Value.string s, Value.bool false, Value.int IntKind.i64 n, Value.slice EI pi pi, Value.slice EK pk pk] ∧ Blk W (w.heap.size + 2) 27 #[Value.int IntKind.i64 lv, Value.string s, Value.string p.high, Value.bool p.last, Value.int IntKind.i64 p.side, Value.slice R2 n2 m2, Value.slice R4 n4 m4] ∧ OwnItem W (w.heap.size + 3) (.slice EI ni dI) p.items ∧ OwnKid W (w.heap.size + 3) (.slice EK nk dK) p.kids from ⟨hJ.be, hb1, hb2, HI9.out.keep (fun k hk => hJ.keep k (HI9.out.block k hk).1), HK9.out.keep (fun k hk => hJ.keep k (HK9.out.block k hk).1)⟩)
                  clear hb1 hb2 e1 e2 hall hJ
                  simp only [over, List.foldl_cons, List.foldl_nil, Act.put, List.setIfInBounds_toArray, List.set_cons_succ, List.set_cons_zero, H8]
                  go_wp2
                  go_meet
                  exact ⟨rfl, HALL⟩
              case rest =>
                obtain ⟨rfl, hcut⟩ := hcut
                obtain ⟨hbe, hr1, hr2, hI, hK⟩ := hcut.out
                go_wp2
                exact bodyPost_ret (v := .tuple #[.agg #[Value.int IntKind.i64 lv, Value.string p.low, Value.string s, Value.bool false, Value.int IntKind.i64 n, Value.slice EI pi pi, Value.slice EK pk pk], .agg #[Value.int IntKind.i64 lv, Value.string s, Value.string p.high, Value.bool p.last, Value.int IntKind.i64 p.side, Value.slice R2 n2 m2, Value.slice R4 n4 m4], .int .i64 0]) (results_row3 rfl _ _ (w.heap.size + 1) (w.heap.size + 2) _ _ _ _ _ _ _ _ rfl hr1 Tryz.underlying27 rfl (by kernel_rfl) rfl hr2 Tryz.underlying27 rfl (by kernel_rfl) rfl) rfl (by
                  rw [show p.splitE s n = 0 by unfold Page.splitE; rw [HOK.out, HFI.out]; try rfl, show p.splitP s n = ⟨p.level, p.low, s, false, n, p.items.take pi, p.kids.take pk⟩ by unfold Page.splitP; rw [HOK.out, HFI.out, ← HPOI.out, ← HPOK.out]; rfl]
                  have hli : (p.items.take pi).length = pi := by rw [List.length_take, Nat.min_eq_left]; rw [HPOI.out]; exact posOf_le _ _ _
                  have hlk : (p.kids.take pk).length = pk := by rw [List.length_take, Nat.min_eq_left]; rw [HPOK.out]; exact posOf_le _ _ _
                  have hI2 := (hI.takeRd (i := pi)).mono (lo' := w.heap.size) (hi' := _) (by omega) (Nat.le_refl _)
                  have hK2 := (hK.takeRd (i := pk)).mono (lo' := w.heap.size) (hi' := _) (by omega) (Nat.le_refl _)
                  refine ⟨EI, EK, pi, pk, #[Value.int IntKind.i64 lv, Value.string s, Value.string p.high, Value.bool p.last, Value.int IntKind.i64 p.side, Value.slice R2 n2 m2, Value.slice R4 n4 m4], ?_, rfl, List.all_eq_true.1 rfl, ⟨hI2, hK2, by rw [hli]; exact Nat.le_refl _, by rw [hlk]; exact Nat.le_refl _, ?_, ?_⟩, hbe⟩
                  · unfold Page.val Page.raw
                    simp only [hli, hlk, HLV.out]
                  · rw [hli, HPOI.out]; have := posOf_le Item.key p.items s; have := HFEW.out.1; omega
                  · rw [hlk, HPOK.out]; have := posOf_le Kid.key p.kids s; have := HFEW.out.2; omega)
end Go.Proofs.YtjbdmaehomhdeaaGreat
