/- page.Merge. -/
import Derived.Test.YtjbdmaehomhdeaaGreatG4
import Derived.Test.YtjbdmaehomhdeaaGreatZH
import Derived.Test.YtjbdmaehomhdeaaGreatMg
import Derived.Test.YtjbdmaehomhdeaaGreatZG
import Derived.Deep.RegionLaw
set_option linter.unusedSimpArgs false
set_option linter.unusedVariables false
namespace Go.Proofs.YtjbdmaehomhdeaaGreat
open Go.RowKit

noncomputable def Page.mergeFits (p q : Page) : Bool := (p.level == q.level) && (!p.last && (same p.high q.low && (decide ((p.items.length : Int) + q.items.length ≤ 120) && decide ((p.kids.length : Int) + q.kids.length ≤ 120))))
noncomputable def Page.mergeE (p q : Page) : Int := cond (p.ok && q.ok) (cond (p.mergeFits q) 0 103) 101
noncomputable def Page.mergeP (p q : Page) : Page := cond ((p.ok && q.ok) && p.mergeFits q) ⟨p.level, p.low, q.high, q.last, q.side, p.items ++ q.items, p.kids ++ q.kids⟩ Page.zero

set_option maxRecDepth 100000 in
set_option maxHeartbeats 20000000 in
theorem page_Merge (p q : Page) (A A' B B' : Option Addr) (c c' d d' lo lo' : Nat) (w : World) (hp : Pg w lo w.heap.size p A A' c c') (hq : Pg w lo' w.heap.size q B B' d d') :
    Calls Tryz.prog 145 #[p.val A c A' c', q.val B d B' d'] w (PostPE w (p.mergeP q) (p.mergeE q)) := by
  have HCH := Lib.hid (fun w1 h => page_Check p A A' c c' lo w1 h)
  have HCQ := Lib.hid (fun w1 h => page_Check q B B' d d' lo' w1 h)
  have H1 := Lib.hid hp
  have H2 := Lib.hid hq
  clear hp hq
  unfold Page.val Page.raw at HCH HCQ
  unfold Page.val Page.raw
  obtain ⟨ni, hni⟩ : ∃ n, n = p.items.length := ⟨_, rfl⟩
  obtain ⟨nk, hnk⟩ : ∃ n, n = p.kids.length := ⟨_, rfl⟩
  obtain ⟨lv, hlv⟩ : ∃ n, n = p.level := ⟨_, rfl⟩
  obtain ⟨mi, hmi⟩ : ∃ n, n = q.items.length := ⟨_, rfl⟩
  obtain ⟨mk, hmk⟩ : ∃ n, n = q.kids.length := ⟨_, rfl⟩
  obtain ⟨rv, hrv⟩ : ∃ n, n = q.level := ⟨_, rfl⟩
  rw [← hni, ← hnk, ← hlv, ← hmi, ← hmk, ← hrv]
  rw [← hni, ← hnk, ← hlv] at HCH
  rw [← hmi, ← hmk, ← hrv] at HCQ
  have HNI := Lib.hid hni
  have HNK := Lib.hid hnk
  have HLV := Lib.hid hlv
  have HMI := Lib.hid hmi
  have HMK := Lib.hid hmk
  have HRV := Lib.hid hrv
  clear hni hnk hlv hmi hmk hrv
  have hF := Fr.three w 27 27 27 #[Value.int IntKind.i64 lv, Value.string p.low, Value.string p.high, Value.bool p.last, Value.int IntKind.i64 p.side, Value.slice A ni c, Value.slice A' nk c'] #[Value.int IntKind.i64 rv, Value.string q.low, Value.string q.high, Value.bool q.last, Value.int IntKind.i64 q.side, Value.slice B mi d, Value.slice B' mk d'] #[Value.int IntKind.i64 0, Value.string { data := #[] }, Value.string { data := #[] }, Value.bool false, Value.int IntKind.i64 0, Value.slice none 0 0, Value.slice none 0 0]
  go_enter Tryz.func145, Tryz.ntmps145
  go_upto_region 1 with (fail)
  generalize ((w.alloc (.cells #[Value.int IntKind.i64 lv, Value.string p.low, Value.string p.high, Value.bool p.last, Value.int IntKind.i64 p.side, Value.slice A ni c, Value.slice A' nk c'] 27)).alloc (.cells #[Value.int IntKind.i64 rv, Value.string q.low, Value.string q.high, Value.bool q.last, Value.int IntKind.i64 q.side, Value.slice B mi d, Value.slice B' mk d'] 27)).alloc (.cells #[Value.int IntKind.i64 0, Value.string { data := #[] }, Value.string { data := #[] }, Value.bool false, Value.int IntKind.i64 0, Value.slice none 0 0, Value.slice none 0 0] 27) = w0 at *
  have HF0 := Lib.hid hF
  clear hF
  go_cut [13] (fun v wc => v = .bool (!(p.ok && q.ok)) ∧ Hid (Fr w wc [(27, #[Value.int IntKind.i64 lv, Value.string p.low, Value.string p.high, Value.bool p.last, Value.int IntKind.i64 p.side, Value.slice A ni c, Value.slice A' nk c']), (27, #[Value.int IntKind.i64 rv, Value.string q.low, Value.string q.high, Value.bool q.last, Value.int IntKind.i64 q.side, Value.slice B mi d, Value.slice B' mk d']), (27, #[Value.int IntKind.i64 0, Value.string { data := #[] }, Value.string { data := #[] }, Value.bool false, Value.int IntKind.i64 0, Value.slice none 0 0, Value.slice none 0 0])]))
  case first =>
    cases hok : p.ok with
    | false =>
      have HC : Hid (p.check = 101) := Lib.hid (by unfold Page.check; rw [hok]; rfl)
      have HOK := Lib.hid hok
      clear hok
      go_wp2_with (first
        | (refine wpList_load_row rfl 27 _ rfl (w.heap.size) rfl 27 _ (0, 0) _ HF0.out.b0 Tryz.underlying27 rfl (by kernel_rfl) ?_)
        | (go_at_call 40; refine (HCH.out w0 ((H1.out.below HF0.out.be).mono (Nat.le_refl _) HF0.out.be.size)).mono ?_; rw [HC.out]; rintro e w1 ⟨rfl, hb1⟩; have HF1 := Lib.hid (HF0.out.on hb1); clear hb1))
      go_meet
      exact ⟨by rw [HOK.out]; rfl, HF1⟩
    | true =>
      have HC : Hid (p.check = 0) := Lib.hid (by unfold Page.check; rw [hok]; rfl)
      have HOK := Lib.hid hok
      clear hok
      cases hoq : q.ok with
      | true =>
        have HC2 : Hid (q.check = 0) := Lib.hid (by unfold Page.check; rw [hoq]; rfl)
        have HOK2 := Lib.hid hoq
        clear hoq
        go_wp2_with (refine wpList_load_row rfl 27 _ rfl (w.heap.size) rfl 27 _ (0, 0) _ HF0.out.b0 Tryz.underlying27 rfl (by kernel_rfl) ?_)
        refine (HCH.out w0 ((H1.out.below HF0.out.be).mono (Nat.le_refl _) HF0.out.be.size)).mono ?_
        rw [HC.out]
        rintro e w1 ⟨rfl, hb1⟩
        have HF1 := Lib.hid (HF0.out.on hb1)
        clear hb1
        obtain ⟨r0, r1, r2, r3, r4, r5, r6⟩ := Blk.cells7 HF1.out.b1
        go_wp2_with fail
        refine (HCQ.out w1 ((H2.out.below HF1.out.be).mono (Nat.le_refl _) HF1.out.be.size)).mono ?_
        rw [HC2.out]
        rintro e w2 ⟨rfl, hb2⟩
        have HF2 := Lib.hid (HF1.out.on hb2)
        clear hb2
        go_wp2
        go_meet
        exact ⟨by rw [HOK.out, HOK2.out]; rfl, HF2⟩
      | false =>
        have HC2 : Hid (q.check = 101) := Lib.hid (by unfold Page.check; rw [hoq]; rfl)
        have HOK2 := Lib.hid hoq
        clear hoq
        go_wp2_with (refine wpList_load_row rfl 27 _ rfl (w.heap.size) rfl 27 _ (0, 0) _ HF0.out.b0 Tryz.underlying27 rfl (by kernel_rfl) ?_)
        refine (HCH.out w0 ((H1.out.below HF0.out.be).mono (Nat.le_refl _) HF0.out.be.size)).mono ?_
        rw [HC.out]
        rintro e w1 ⟨rfl, hb1⟩
        have HF1 := Lib.hid (HF0.out.on hb1)
        clear hb1
        obtain ⟨r0, r1, r2, r3, r4, r5, r6⟩ := Blk.cells7 HF1.out.b1
        go_wp2_with fail
        refine (HCQ.out w1 ((H2.out.below HF1.out.be).mono (Nat.le_refl _) HF1.out.be.size)).mono ?_
        rw [HC2.out]
        rintro e w2 ⟨rfl, hb2⟩
        have HF2 := Lib.hid (HF1.out.on hb2)
        clear hb2
        go_wp2
        go_meet
        exact ⟨by rw [HOK.out, HOK2.out]; rfl, HF2⟩
  case rest =>
    obtain ⟨rfl, HF3⟩ := hcut
    cases hok : (p.ok && q.ok) with
    | false =>
      have HOK := Lib.hid hok
      clear hok
      go_wp2_with (refine wpList_store_row rfl 27 _ _ rfl rfl (w.heap.size + 2) rfl _ _ _ rfl HF3.out.b2 rfl (by kernel_rfl) (List.all_eq_true.1 rfl) ?_; rintro wE hTE hBE)
      exact bodyPost_ret (v := .tuple #[.agg #[Value.int IntKind.i64 0, Value.string { data := #[] }, Value.string { data := #[] }, Value.bool false, Value.int IntKind.i64 0, Value.slice none 0 0, Value.slice none 0 0], .int .i64 101]) (results_row2 rfl _ _ (w.heap.size + 2) _ _ _ _ rfl hBE Tryz.underlying27 rfl (by kernel_rfl) rfl) rfl (by rw [show p.mergeE q = 101 by unfold Page.mergeE; rw [HOK.out]; rfl, show p.mergeP q = Page.zero by unfold Page.mergeP; rw [HOK.out]; rfl]; exact PostPE.nothing (hTE.below HF3.out.be (by omega) HF3.out.be.size))
    | true =>
      have HOK := Lib.hid hok
      clear hok
      obtain ⟨z0, z1, z2, z3, z4, z5, z6⟩ := Blk.cells7 HF3.out.b0
      obtain ⟨r0, r1, r2, r3, r4, r5, r6⟩ := Blk.cells7 HF3.out.b1
      have HPO : Hid (p.ok = true ∧ q.ok = true) := Lib.hid (by have := HOK.out; simpa [Bool.and_eq_true] using this)
      have hwi : IntKind.i64.wrap ((ni : Int) + (mi : Int)) = (ni : Int) + (mi : Int) := by
        have h1 := (Page.Fine.items_few (Page.Fine.of_ok HPO.out.1)).1
        have h2 := (Page.Fine.items_few (Page.Fine.of_ok HPO.out.2)).1
        rw [← HNI.out] at h1; rw [← HMI.out] at h2
        rw [IntKind.wrap_i64]; omega
      have hwk : IntKind.i64.wrap ((nk : Int) + (mk : Int)) = (nk : Int) + (mk : Int) := by
        have h1 := (Page.Fine.items_few (Page.Fine.of_ok HPO.out.1)).2
        have h2 := (Page.Fine.items_few (Page.Fine.of_ok HPO.out.2)).2
        rw [← HNK.out] at h1; rw [← HMK.out] at h2
        rw [IntKind.wrap_i64]; omega
      go_upto_region 3 with (fail)
      generalize Value.agg #[Value.int IntKind.i64 lv, Value.string p.low, Value.string p.high, Value.bool p.last, Value.int IntKind.i64 p.side, Value.slice A ni c, Value.slice A' nk c'] = va
      generalize Value.agg #[Value.int IntKind.i64 rv, Value.string q.low, Value.string q.high, Value.bool q.last, Value.int IntKind.i64 q.side, Value.slice B mi d, Value.slice B' mk d'] = vb
      go_cut [50] (fun v wx => v = .bool (!p.mergeFits q) ∧ wc = wx)
      case first =>
        cases ht0 : (lv != rv) with
        | true =>
          have Hht0 := Lib.hid ht0
          go_wp2
          go_meet
          have g0 := Hht0.out
          try simp only [decide_eq_true_eq, decide_eq_false_iff_not, Int.not_lt, bne_iff_ne, ne_eq, bne_eq_false_iff_eq] at g0
          exact ⟨by unfold Page.mergeFits same; rw [← HLV.out, ← HRV.out, ← HNI.out, ← HMI.out, ← HNK.out, ← HMK.out]; simp [g0], rfl⟩
        | false =>
          have Hht0 := Lib.hid ht0
          cases ht1 : (p.last) with
          | true =>
            have Hht1 := Lib.hid ht1
            go_wp2
            go_meet
            have g0 := Hht0.out
            try simp only [decide_eq_true_eq, decide_eq_false_iff_not, Int.not_lt, bne_iff_ne, ne_eq, bne_eq_false_iff_eq] at g0
            have g1 := Hht1.out
            try simp only [decide_eq_true_eq, decide_eq_false_iff_not, Int.not_lt, bne_iff_ne, ne_eq, bne_eq_false_iff_eq] at g1
            exact ⟨by unfold Page.mergeFits same; rw [← HLV.out, ← HRV.out, ← HNI.out, ← HMI.out, ← HNK.out, ← HMK.out]; simp [g0, g1], rfl⟩
          | false =>
            have Hht1 := Lib.hid ht1
            cases ht2 : (p.high.toList == q.low.toList) with
            | true =>
              have Hht2 := Lib.hid ht2
              cases ht3 : (decide ((120 : Int) < (ni : Int) + (mi : Int))) with
              | true =>
                have Hht3 := Lib.hid ht3
                go_wp2
                go_meet
                have g0 := Hht0.out
                try simp only [decide_eq_true_eq, decide_eq_false_iff_not, Int.not_lt, bne_iff_ne, ne_eq, bne_eq_false_iff_eq] at g0
                have g1 := Hht1.out
                try simp only [decide_eq_true_eq, decide_eq_false_iff_not, Int.not_lt, bne_iff_ne, ne_eq, bne_eq_false_iff_eq] at g1
                have g2 := Hht2.out
                try simp only [decide_eq_true_eq, decide_eq_false_iff_not, Int.not_lt, bne_iff_ne, ne_eq, bne_eq_false_iff_eq] at g2
                have g3 := Hht3.out
                try simp only [decide_eq_true_eq, decide_eq_false_iff_not, Int.not_lt, bne_iff_ne, ne_eq, bne_eq_false_iff_eq] at g3
                exact ⟨by unfold Page.mergeFits same; rw [← HLV.out, ← HRV.out, ← HNI.out, ← HMI.out, ← HNK.out, ← HMK.out]; simp [g0, g1, g2, g3], rfl⟩
              | false =>
                have Hht3 := Lib.hid ht3
                cases ht4 : (decide ((120 : Int) < (nk : Int) + (mk : Int))) with
                | true =>
                  have Hht4 := Lib.hid ht4
                  go_wp2
                  go_meet
                  have g0 := Hht0.out
                  try simp only [decide_eq_true_eq, decide_eq_false_iff_not, Int.not_lt, bne_iff_ne, ne_eq, bne_eq_false_iff_eq] at g0
                  have g1 := Hht1.out
                  try simp only [decide_eq_true_eq, decide_eq_false_iff_not, Int.not_lt, bne_iff_ne, ne_eq, bne_eq_false_iff_eq] at g1
                  have g2 := Hht2.out
                  try simp only [decide_eq_true_eq, decide_eq_false_iff_not, Int.not_lt, bne_iff_ne, ne_eq, bne_eq_false_iff_eq] at g2
                  have g3 := Hht3.out
                  try simp only [decide_eq_true_eq, decide_eq_false_iff_not, Int.not_lt, bne_iff_ne, ne_eq, bne_eq_false_iff_eq] at g3
                  have g4 := Hht4.out
                  try simp only [decide_eq_true_eq, decide_eq_false_iff_not, Int.not_lt, bne_iff_ne, ne_eq, bne_eq_false_iff_eq] at g4
                  exact ⟨by unfold Page.mergeFits same; rw [← HLV.out, ← HRV.out, ← HNI.out, ← HMI.out, ← HNK.out, ← HMK.out]; simp [g0, g1, g2, g3, g4], rfl⟩
                | false =>
                  have Hht4 := Lib.hid ht4
                  go_wp2
                  go_meet
                  have g0 := Hht0.out
                  try simp only [decide_eq_true_eq, decide_eq_false_iff_not, Int.not_lt, bne_iff_ne, ne_eq, bne_eq_false_iff_eq] at g0
                  have g1 := Hht1.out
                  try simp only [decide_eq_true_eq, decide_eq_false_iff_not, Int.not_lt, bne_iff_ne, ne_eq, bne_eq_false_iff_eq] at g1
                  have g2 := Hht2.out
                  try simp only [decide_eq_true_eq, decide_eq_false_iff_not, Int.not_lt, bne_iff_ne, ne_eq, bne_eq_false_iff_eq] at g2
                  have g3 := Hht3.out
                  try simp only [decide_eq_true_eq, decide_eq_false_iff_not, Int.not_lt, bne_iff_ne, ne_eq, bne_eq_false_iff_eq] at g3
                  have g4 := Hht4.out
                  try simp only [decide_eq_true_eq, decide_eq_false_iff_not, Int.not_lt, bne_iff_ne, ne_eq, bne_eq_false_iff_eq] at g4
                  exact ⟨by unfold Page.mergeFits same; rw [← HLV.out, ← HRV.out, ← HNI.out, ← HMI.out, ← HNK.out, ← HMK.out]; simp [g0, g1, g2, g3, g4], rfl⟩
            | false =>
              have Hht2 := Lib.hid ht2
              go_wp2
              go_meet
              have g0 := Hht0.out
              try simp only [decide_eq_true_eq, decide_eq_false_iff_not, Int.not_lt, bne_iff_ne, ne_eq, bne_eq_false_iff_eq] at g0
              have g1 := Hht1.out
              try simp only [decide_eq_true_eq, decide_eq_false_iff_not, Int.not_lt, bne_iff_ne, ne_eq, bne_eq_false_iff_eq] at g1
              have g2 := Hht2.out
              try simp only [decide_eq_true_eq, decide_eq_false_iff_not, Int.not_lt, bne_iff_ne, ne_eq, bne_eq_false_iff_eq] at g2
              exact ⟨by unfold Page.mergeFits same; rw [← HLV.out, ← HRV.out, ← HNI.out, ← HMI.out, ← HNK.out, ← HMK.out]; simp [g0, g1, g2], rfl⟩
      case rest =>
        obtain ⟨rfl, rfl⟩ := hcut
        clear z0 z1 z2 z3 z4 z5 z6 r0 r1 r2 r3 r4 r5 r6
        cases hf : p.mergeFits q with
        | false =>
          have HFI := Lib.hid hf
          clear hf
          go_wp2_with (refine wpList_store_row rfl 27 _ _ rfl rfl (w.heap.size + 2) rfl _ _ _ rfl HF3.out.b2 rfl (by kernel_rfl) (List.all_eq_true.1 rfl) ?_; rintro wE hTE hBE)
          exact bodyPost_ret (v := .tuple #[.agg #[Value.int IntKind.i64 0, Value.string { data := #[] }, Value.string { data := #[] }, Value.bool false, Value.int IntKind.i64 0, Value.slice none 0 0, Value.slice none 0 0], .int .i64 103]) (results_row2 rfl _ _ (w.heap.size + 2) _ _ _ _ rfl hBE Tryz.underlying27 rfl (by kernel_rfl) rfl) rfl (by rw [show p.mergeE q = 103 by unfold Page.mergeE; rw [HOK.out, HFI.out]; rfl, show p.mergeP q = Page.zero by unfold Page.mergeP; rw [HOK.out, HFI.out]; rfl]; exact PostPE.nothing (hTE.below HF3.out.be (by omega) HF3.out.be.size))
        | true =>
          have HFI := Lib.hid hf
          clear hf
          go_upto_region 5 with (fail)
          go_cut [] (fun wx => Hid (Fr w wx [(27, #[Value.int IntKind.i64 lv, Value.string p.low, Value.string q.high, Value.bool q.last, Value.int IntKind.i64 q.side, Value.slice A ni c, Value.slice A' nk c']), (27, #[Value.int IntKind.i64 rv, Value.string q.low, Value.string q.high, Value.bool q.last, Value.int IntKind.i64 q.side, Value.slice B mi d, Value.slice B' mk d']), (27, #[Value.int IntKind.i64 0, Value.string { data := #[] }, Value.string { data := #[] }, Value.bool false, Value.int IntKind.i64 0, Value.slice none 0 0, Value.slice none 0 0])]))
          case first =>
            obtain ⟨z0, z1, z2, z3, z4, z5, z6⟩ := Blk.cells7 HF3.out.b0
            obtain ⟨r0, r1, r2, r3, r4, r5, r6⟩ := Blk.cells7 HF3.out.b1
            have hz := HF3.out.b0.frozen
            go_region
            all_goals (go_wp2; go_meet; exact Lib.hid (((HF3.out.drew 1).set0 2 _ rfl).set0 3 _ rfl |>.set0 4 _ rfl))
          case rest =>
            have HF4 := hcut
            clear hcut
            have HCI : Hid (∀ W g0, Below w.heap.size w W → Blk W g0 24 #[.slice A ni c, .slice B mi d] → Calls Tryz.prog 146 #[.slice (some ⟨g0, 0, none⟩) 2 2] W (PostCItem W (p.items ++ q.items))) := Lib.hid fun W g0 hw hb => by
              rw [HNI.out, HMI.out] at hb
              have h1 := (Page.Fine.items_few (Page.Fine.of_ok HPO.out.1)).1
              have h3 := (Page.Fine.of_ok HPO.out.1).ni
              have h4 := (Page.Fine.of_ok HPO.out.2).ni
              exact concat_item g0 lo lo' c d A B p.items q.items W hb ((H1.out.items.below hw).mono (Nat.le_refl _) hw.size) ((H2.out.items.below hw).mono (Nat.le_refl _) hw.size) (by omega)
            have HCK : Hid (∀ W g0, Below w.heap.size w W → Blk W g0 25 #[.slice A' nk c', .slice B' mk d'] → Calls Tryz.prog 147 #[.slice (some ⟨g0, 0, none⟩) 2 2] W (PostCKid W (p.kids ++ q.kids))) := Lib.hid fun W g0 hw hb => by
              rw [HNK.out, HMK.out] at hb
              have h3 := (Page.Fine.of_ok HPO.out.1).nk
              have h4 := (Page.Fine.of_ok HPO.out.2).nk
              exact concat_kid g0 lo lo' c' d' A' B' p.kids q.kids W hb ((H1.out.kids.below hw).mono (Nat.le_refl _) hw.size) ((H2.out.kids.below hw).mono (Nat.le_refl _) hw.size) (by omega)
            go_upto_region 6 with (fail)
            have hs4 := HF4.out.sz
            simp only [List.length_cons, List.length_nil] at hs4
            obtain ⟨ti, hti⟩ : ∃ n, n = (p.items ++ q.items).length := ⟨_, rfl⟩
            obtain ⟨tk, htk⟩ : ∃ n, n = (p.kids ++ q.kids).length := ⟨_, rfl⟩
            have HTI := Lib.hid hti
            have HTK := Lib.hid htk
            clear hti htk
            go_cut [] (fun wx => Hid (∃ EI dI EK dK, Fr w wx [(27, #[Value.int IntKind.i64 lv, Value.string p.low, Value.string q.high, Value.bool q.last, Value.int IntKind.i64 q.side, Value.slice EI ti dI, Value.slice EK tk dK]), (27, #[Value.int IntKind.i64 rv, Value.string q.low, Value.string q.high, Value.bool q.last, Value.int IntKind.i64 q.side, Value.slice B mi d, Value.slice B' mk d']), (27, #[Value.int IntKind.i64 0, Value.string { data := #[] }, Value.string { data := #[] }, Value.bool false, Value.int IntKind.i64 0, Value.slice none 0 0, Value.slice none 0 0])] ∧ OwnItem wx (w.heap.size + 3) (.slice EI ti dI) (p.items ++ q.items) ∧ OwnKid wx (w.heap.size + 3) (.slice EK tk dK) (p.kids ++ q.kids)))
            case first =>
              refine wp_region_inv (by kernel_rfl) [61, 62, 63, 64, 65, 66, 67, 68, 69, 70, 71, 72, 73, 74] (MgJ w wc.drew 3 27 24 25 (.slice A ni c) (.slice A' nk c') (.slice B mi d) (.slice B' mk d') (fun u5 u6 => #[Value.int IntKind.i64 lv, Value.string p.low, Value.string q.high, Value.bool q.last, Value.int IntKind.i64 q.side, u5, u6]) (p.items ++ q.items) (p.kids ++ q.kids)) (gOrd_ok (by kernel_rfl))
                ⟨HF4.out.drew1.be, HF4.out.drew1.sz, by decide, fun _ _ _ => rfl, by simp, by simp, by simp, by simp, by simp, by simp, by simp, by simp, by simp, by simp, by simp, by simp, by simp, by simp, ⟨_, _, HF4.out.drew1.b0, by simp, fun _ => rfl, by simp, fun _ => rfl⟩, by simp, by simp, by simp, by simp, by simp, by simp⟩ ?_ ?_
              · intro i o ho D X W hJ hDi hdep
                have hq1 : Blk W (w.heap.size + 1) 27 #[Value.int IntKind.i64 rv, Value.string q.low, Value.string q.high, Value.bool q.last, Value.int IntKind.i64 q.side, Value.slice B mi d, Value.slice B' mk d'] := (hJ.oth (w.heap.size + 1) (by omega) (by omega)).trans HF4.out.b1
                rcases i with _ | _ | _ | _ | _ | _ | _ | _ | _ | _ | _ | _ | _ | _ | _ | _ | i
                all_goals simp only [List.getElem?_toArray, List.getElem?_cons_zero, List.getElem?_cons_succ, List.getElem?_nil, Option.some.injEq, reduceCtorEq] at ho
                · exact wp1_addr ho 27 (.tmp 2) 5 rfl rfl (v := .pointer (some ⟨w.heap.size, 0, none⟩)) (by rw [over_out (by decide)]; rfl) (by kernel_rfl) ⟨_, over_put (by decide) _, hJ.addr0⟩
                · have d0 : D 0 = true := hdep ⟨0, .data⟩ (by rw [← ho]; simp) rfl
                  obtain ⟨u5, u6, hB, _, h7, _, h9⟩ := hJ.b
                  have hu := h7 (hJ.no13 (hJ.no5 (hJ.no4 hDi)))
                  subst hu
                  have kk : W.cell? ⟨w.heap.size, 5, none⟩ = some (.slice A ni c) := hB.cell 5
                  exact wp1_load_cell ho 24 (.tmp 61) rfl rfl (by rw [over_in (by decide) (Nat.le_of_ble_eq_true rfl), hJ.f0 d0]) (v := .slice A ni c) (by go_simp) ⟨_, over_put (by decide) _, hJ.load1⟩
                · exact wp1_addr ho 27 (.tmp 3) 5 rfl rfl (v := .pointer (some ⟨w.heap.size + 1, 0, none⟩)) (by rw [over_out (by decide)]; rfl) (by kernel_rfl) ⟨_, over_put (by decide) _, hJ.addr2⟩
                · have d2 : D 2 = true := hdep ⟨2, .data⟩ (by rw [← ho]; simp) rfl
                  have kk : W.cell? ⟨w.heap.size + 1, 5, none⟩ = some (.slice B mi d) := hq1.cell 5
                  exact wp1_load_cell ho 24 (.tmp 63) rfl rfl (by rw [over_in (by decide) (Nat.le_of_ble_eq_true rfl), hJ.f2 d2]) (v := .slice B mi d) (by go_simp) ⟨_, over_put (by decide) _, hJ.load3⟩
                · have d1 : D 1 = true := hdep ⟨1, .data⟩ (by rw [← ho]; simp) rfl
                  have d3 : D 3 = true := hdep ⟨3, .data⟩ (by rw [← ho]; simp) rfl
                  exact wp1_build ho 175 2 _ rfl rfl (vs := #[(0, .slice A ni c), (1, .slice B mi d)]) (by simp only [List.map_toArray, List.map_cons, List.map_nil]; rw [over_in (by decide) (Nat.le_of_ble_eq_true rfl), over_in (by decide) (Nat.le_of_ble_eq_true rfl), hJ.l1 d1, hJ.l3 d3]) (w' := W.alloc (.cells #[.slice A ni c, .slice B mi d] 24)) (v := .slice (some ⟨W.heap.size, 0, none⟩) 2 2) (by kernel_rfl) ⟨_, over_put (by decide) _, hJ.build4 d1⟩
                · have d4 : D 4 = true := hdep ⟨4, .data⟩ (by rw [← ho]; simp) rfl
                  obtain ⟨g, hx, hg, hgb⟩ := hJ.s4 d4
                  exact wp1_call ho 146 #[.tmp 65] _ rfl rfl #[.slice (some ⟨g, 0, none⟩) 2 2] (by simp only [List.map_toArray, List.map_cons, List.map_nil]; rw [over_in (by decide) (Nat.le_of_ble_eq_true rfl), hx]) Tryz.func146 (by kernel_rfl) rfl (HCI.out W g hJ.be hgb) (by
                    rintro e w' ⟨v, rfl, hO, hb⟩
                    exact ⟨_, rfl, _, over_put (by decide) _, hJ.call5 hDi d4 hb hO⟩)
                · exact wp1_addr ho 27 (.tmp 2) 6 rfl rfl (v := .pointer (some ⟨w.heap.size, 0, none⟩)) (by rw [over_out (by decide)]; rfl) (by kernel_rfl) ⟨_, over_put (by decide) _, hJ.addr6⟩
                · have d6 : D 6 = true := hdep ⟨6, .data⟩ (by rw [← ho]; simp) rfl
                  obtain ⟨u5, u6, hB, _, h7, _, h9⟩ := hJ.b
                  have hu := h9 (hJ.no15 (hJ.no11 (hJ.no10 hDi)))
                  subst hu
                  have kk : W.cell? ⟨w.heap.size, 6, none⟩ = some (.slice A' nk c') := hB.cell 6
                  exact wp1_load_cell ho 25 (.tmp 67) rfl rfl (by rw [over_in (by decide) (Nat.le_of_ble_eq_true rfl), hJ.f6 d6]) (v := .slice A' nk c') (by go_simp) ⟨_, over_put (by decide) _, hJ.load7⟩
                · exact wp1_addr ho 27 (.tmp 3) 6 rfl rfl (v := .pointer (some ⟨w.heap.size + 1, 0, none⟩)) (by rw [over_out (by decide)]; rfl) (by kernel_rfl) ⟨_, over_put (by decide) _, hJ.addr8⟩
                · have d8 : D 8 = true := hdep ⟨8, .data⟩ (by rw [← ho]; simp) rfl
                  have kk : W.cell? ⟨w.heap.size + 1, 6, none⟩ = some (.slice B' mk d') := hq1.cell 6
                  exact wp1_load_cell ho 25 (.tmp 69) rfl rfl (by rw [over_in (by decide) (Nat.le_of_ble_eq_true rfl), hJ.f8 d8]) (v := .slice B' mk d') (by go_simp) ⟨_, over_put (by decide) _, hJ.load9⟩
                · have d7 : D 7 = true := hdep ⟨7, .data⟩ (by rw [← ho]; simp) rfl
                  have d9 : D 9 = true := hdep ⟨9, .data⟩ (by rw [← ho]; simp) rfl
                  exact wp1_build ho 177 2 _ rfl rfl (vs := #[(0, .slice A' nk c'), (1, .slice B' mk d')]) (by simp only [List.map_toArray, List.map_cons, List.map_nil]; rw [over_in (by decide) (Nat.le_of_ble_eq_true rfl), over_in (by decide) (Nat.le_of_ble_eq_true rfl), hJ.l7 d7, hJ.l9 d9]) (w' := W.alloc (.cells #[.slice A' nk c', .slice B' mk d'] 25)) (v := .slice (some ⟨W.heap.size, 0, none⟩) 2 2) (by kernel_rfl) ⟨_, over_put (by decide) _, hJ.build10 d7⟩
                · have d10 : D 10 = true := hdep ⟨10, .data⟩ (by rw [← ho]; simp) rfl
                  obtain ⟨g, hx, hg, hgb⟩ := hJ.s10 d10
                  exact wp1_call ho 147 #[.tmp 71] _ rfl rfl #[.slice (some ⟨g, 0, none⟩) 2 2] (by simp only [List.map_toArray, List.map_cons, List.map_nil]; rw [over_in (by decide) (Nat.le_of_ble_eq_true rfl), hx]) Tryz.func147 (by kernel_rfl) rfl (HCK.out W g hJ.be hgb) (by
                    rintro e w' ⟨v, rfl, hO, hb⟩
                    exact ⟨_, rfl, _, over_put (by decide) _, hJ.call11 hDi d10 hb hO⟩)
                · exact wp1_addr ho 27 (.tmp 2) 5 rfl rfl (v := .pointer (some ⟨w.heap.size, 0, none⟩)) (by rw [over_out (by decide)]; rfl) (by kernel_rfl) ⟨_, over_put (by decide) _, hJ.addr12⟩
                · have d12 : D 12 = true := hdep ⟨12, .data⟩ (by rw [← ho]; simp) rfl
                  have d5 : D 5 = true := hdep ⟨5, .data⟩ (by rw [← ho]; simp) rfl
                  obtain ⟨u5, u6, hB, _⟩ := hJ.b
                  obtain ⟨E, dE, hX, _, _⟩ := (hJ.o5 d5).form
                  have kk : W.cell? ⟨w.heap.size, 5, none⟩ = some u5 := hB.cell 5
                  have gg : W.frozen? ⟨w.heap.size, 5, none⟩ = false := hB.frozen 5
                  exact wp1_store_cell ho 24 (.tmp 73) (.tmp 66) rfl rfl (by rw [over_in (by decide) (Nat.le_of_ble_eq_true rfl), hJ.f12 d12]) (by rw [over_in (by decide) (Nat.le_of_ble_eq_true rfl)]) (w' := W.setCell ⟨w.heap.size, 5, none⟩ (X 66)) (by rw [hX]; go_simp) ⟨X, rfl, hJ.store13 d5 (fun _ _ _ => rfl)⟩
                · exact wp1_addr ho 27 (.tmp 2) 6 rfl rfl (v := .pointer (some ⟨w.heap.size, 0, none⟩)) (by rw [over_out (by decide)]; rfl) (by kernel_rfl) ⟨_, over_put (by decide) _, hJ.addr14⟩
                · have d14 : D 14 = true := hdep ⟨14, .data⟩ (by rw [← ho]; simp) rfl
                  have d11 : D 11 = true := hdep ⟨11, .data⟩ (by rw [← ho]; simp) rfl
                  obtain ⟨u5, u6, hB, _⟩ := hJ.b
                  obtain ⟨E, dE, hX, _, _⟩ := (hJ.o11 d11).form
                  have kk : W.cell? ⟨w.heap.size, 6, none⟩ = some u6 := hB.cell 6
                  have gg : W.frozen? ⟨w.heap.size, 6, none⟩ = false := hB.frozen 6
                  exact wp1_store_cell ho 25 (.tmp 74) (.tmp 72) rfl rfl (by rw [over_in (by decide) (Nat.le_of_ble_eq_true rfl), hJ.f14 d14]) (by rw [over_in (by decide) (Nat.le_of_ble_eq_true rfl)]) (w' := W.setCell ⟨w.heap.size, 6, none⟩ (X 72)) (by rw [hX]; go_simp) ⟨X, rfl, hJ.store15 d11 (fun _ _ _ => rfl)⟩
              · intro D X W hJ hall
                have ho2 := hJ.o5 (hall 5 (by decide))
                have ho5 := hJ.o11 (hall 11 (by decide))
                obtain ⟨E, dE, hX, _, _⟩ := ho2.form
                obtain ⟨E', dE', hX', _, _⟩ := ho5.form
                rw [← HTI.out] at hX
                rw [← HTK.out] at hX'
                obtain ⟨u5, u6, hB, h7, _, h9, _⟩ := hJ.b
                have e7 := h7 (hall 13 (by decide))
                have e9 := h9 (hall 15 (by decide))
                rw [hX] at e7 ho2
                rw [hX'] at e9 ho5
                subst e7 e9
                have HALL := Lib.hid (show ∃ EI dI EK dK, Fr w W [(27, #[Value.int IntKind.i64 lv, Value.string p.low, Value.string q.high, Value.bool q.last, Value.int IntKind.i64 q.side, Value.slice EI ti dI, Value.slice EK tk dK]), (27, #[Value.int IntKind.i64 rv, Value.string q.low, Value.string q.high, Value.bool q.last, Value.int IntKind.i64 q.side, Value.slice B mi d, Value.slice B' mk d']), (27, #[Value.int IntKind.i64 0, Value.string { data := #[] }, Value.string { data := #[] }, Value.bool false, Value.int IntKind.i64 0, Value.slice none 0 0, Value.slice none 0 0])] ∧ OwnItem W (w.heap.size + 3) (.slice EI ti dI) (p.items ++ q.items) ∧ OwnKid W (w.heap.size + 3) (.slice EK tk dK) (p.kids ++ q.kids) from ⟨E, dE, E', dE', ⟨hJ.be, hJ.sz, fun k t cs hk => by
                  rcases k with _ | _ | _ | k
                  · cases hk; exact hB
                  · cases hk; exact (hJ.oth (w.heap.size + 1) (by omega) (by omega)).trans HF4.out.b1
                  · cases hk; exact (hJ.oth (w.heap.size + 2) (by omega) (by omega)).trans HF4.out.b2
                  · cases hk⟩, ho2, ho5⟩)
                clear ho2 ho5 hB h7 h9 hall hJ hX hX'
                simp only [over, List.foldl_cons, List.foldl_nil, Act.put, List.setIfInBounds_toArray, List.set_cons_succ, List.set_cons_zero]
                go_wp2
                go_meet
                exact HALL
            case rest =>
              obtain ⟨EI, dI, EK, dK, hf7, hoi, hok7⟩ := hcut.out
              have HF7 := Lib.hid hf7
              have HOI := Lib.hid hoi
              have HOK7 := Lib.hid hok7
              clear hcut hf7 hoi hok7
              go_wp2_with (first
    | (refine wpList_load_row rfl 27 _ rfl (w.heap.size) rfl 27 _ (0, 0) _ HF7.out.b0 Tryz.underlying27 rfl (by kernel_rfl) ?_)
    | (refine wpList_store_row rfl 27 _ _ rfl rfl (w.heap.size + 2) rfl _ _ _ rfl HF7.out.b2 rfl (by kernel_rfl) (List.all_eq_true.1 rfl) ?_; rintro wE hTE hBE))
              exact bodyPost_ret (v := .tuple #[.agg #[Value.int IntKind.i64 lv, Value.string p.low, Value.string q.high, Value.bool q.last, Value.int IntKind.i64 q.side, Value.slice EI ti dI, Value.slice EK tk dK], .int .i64 0]) (results_row2 rfl _ _ (w.heap.size + 2) _ _ _ _ rfl hBE Tryz.underlying27 rfl (by kernel_rfl) rfl) rfl (by rw [show p.mergeE q = 0 by unfold Page.mergeE; rw [HOK.out, HFI.out]; try rfl, show p.mergeP q = _ by unfold Page.mergeP; rw [HOK.out, HFI.out]; try rfl]; exact ⟨.slice EI ti dI, .slice EK tk dK, by rw [HLV.out]; rfl, ((HOI.out.turned hTE (by omega)).mono (by omega)), ((HOK7.out.turned hTE (by omega)).mono (by omega)), hTE.below HF7.out.be (by omega) HF7.out.be.size⟩)
end Go.Proofs.YtjbdmaehomhdeaaGreat
