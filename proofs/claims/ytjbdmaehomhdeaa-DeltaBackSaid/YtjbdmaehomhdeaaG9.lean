/- page.Merge. -/
import Derived.Test.YtjbdmaehomhdeaaG4
import Derived.Test.YtjbdmaehomhdeaaZH
import Derived.Test.YtjbdmaehomhdeaaZG
import Derived.Deep.RegionLaw
namespace Go.Proofs.Ytjbdmaehomhdeaa
open Go.RowKit

noncomputable def Page.mergeFits (p q : Page) : Bool := (p.level == q.level) && (!p.last && (same p.high q.low && (decide ((p.items.length : Int) + q.items.length ≤ 120) && decide ((p.kids.length : Int) + q.kids.length ≤ 120))))
noncomputable def Page.mergeE (p q : Page) : Int := cond (p.ok && q.ok) (cond (p.mergeFits q) 0 103) 101
noncomputable def Page.mergeP (p q : Page) : Page := cond ((p.ok && q.ok) && p.mergeFits q) ⟨p.level, p.low, q.high, q.last, q.side, p.items ++ q.items, p.kids ++ q.kids⟩ Page.zero

set_option maxRecDepth 100000 in
set_option maxHeartbeats 20000000 in
theorem page_Merge (p q : Page) (A A' B B' : Option Addr) (c c' d d' lo lo' : Nat) (w : World) (hp : Pg w lo w.heap.size p A A' c c') (hq : Pg w lo' w.heap.size q B B' d d') :
    Calls Try.prog 128 #[p.val A c A' c', q.val B d B' d'] w (PostPE w (p.mergeP q) (p.mergeE q)) := by
  have HCH := Lib.hid (fun w1 h => page_Check p A A' c c' lo w1 h)
  have HCQ := Lib.hid (fun w1 h => page_Check q B B' d d' lo' w1 h)
  have H1 := Lib.hid hp
  have H2 := Lib.hid hq
  clear hp hq
  unfold Page.val Page.raw at HCH HCQ
  unfold Page.val Page.raw
  obtain ⟨ni, hni⟩ : ∃ n, n = p.items.length := ⟨_, rfl⟩
  obtain ⟨nk, hnk⟩ : ∃ n, n = p.kids.length := ⟨_, rfl⟩
  obtain ⟨lv, hlv⟩ : ∃ n, n = p.level := ⟨_, rfl⟩
  obtain ⟨mi, hmi⟩ : ∃ n, n = q.items.length := ⟨_, rfl⟩
  obtain ⟨mk, hmk⟩ : ∃ n, n = q.kids.length := ⟨_, rfl⟩
  obtain ⟨rv, hrv⟩ : ∃ n, n = q.level := ⟨_, rfl⟩
  rw [← hni, ← hnk, ← hlv, ← hmi, ← hmk, ← hrv]
  rw [← hni, ← hnk, ← hlv] at HCH
  rw [← hmi, ← hmk, ← hrv] at HCQ
  have HNI := Lib.hid hni
  have HNK := Lib.hid hnk
  have HLV := Lib.hid hlv
  have HMI := Lib.hid hmi
  have HMK := Lib.hid hmk
  have HRV := Lib.hid hrv
  clear hni hnk hlv hmi hmk hrv
  have hF := Fr.three w 27 27 27 #[Value.int IntKind.i64 lv, Value.string p.low, Value.string p.high, Value.bool p.last, Value.int IntKind.i64 p.side, Value.slice A ni c, Value.slice A' nk c'] #[Value.int IntKind.i64 rv, Value.string q.low, Value.string q.high, Value.bool q.last, Value.int IntKind.i64 q.side, Value.slice B mi d, Value.slice B' mk d'] #[Value.int IntKind.i64 0, Value.string { data := #[] }, Value.string { data := #[] }, Value.bool false, Value.int IntKind.i64 0, Value.slice none 0 0, Value.slice none 0 0]
  go_enter Try.func128, Try.ntmps128
  go_upto_region 1 with (fail)
  generalize ((w.alloc (.cells #[Value.int IntKind.i64 lv, Value.string p.low, Value.string p.high, Value.bool p.last, Value.int IntKind.i64 p.side, Value.slice A ni c, Value.slice A' nk c'] 27)).alloc (.cells #[Value.int IntKind.i64 rv, Value.string q.low, Value.string q.high, Value.bool q.last, Value.int IntKind.i64 q.side, Value.slice B mi d, Value.slice B' mk d'] 27)).alloc (.cells #[Value.int IntKind.i64 0, Value.string { data := #[] }, Value.string { data := #[] }, Value.bool false, Value.int IntKind.i64 0, Value.slice none 0 0, Value.slice none 0 0] 27) = w0 at *
  have HF0 := Lib.hid hF
  clear hF
  go_cut [13] (fun v wc => v = .bool (!(p.ok && q.ok)) ∧ Hid (Fr w wc [(27, #[Value.int IntKind.i64 lv, Value.string p.low, Value.string p.high, Value.bool p.last, Value.int IntKind.i64 p.side, Value.slice A ni c, Value.slice A' nk c']), (27, #[Value.int IntKind.i64 rv, Value.string q.low, Value.string q.high, Value.bool q.last, Value.int IntKind.i64 q.side, Value.slice B mi d, Value.slice B' mk d']), (27, #[Value.int IntKind.i64 0, Value.string { data := #[] }, Value.string { data := #[] }, Value.bool false, Value.int IntKind.i64 0, Value.slice none 0 0, Value.slice none 0 0])]))
  case first =>
    cases hok : p.ok with
    | false =>
      have HC : Hid (p.check = 101) := Lib.hid (by unfold Page.check; rw [hok]; rfl)
      have HOK := Lib.hid hok
      clear hok
      go_wp2_with (first
        | (refine wpList_load_row rfl 27 _ rfl (w.heap.size) rfl 27 _ (0, 0) _ HF0.out.b0 Try.underlying27 rfl (by kernel_rfl) ?_)
        | (go_at_call 27; refine (HCH.out w0 ((H1.out.below HF0.out.be).mono (Nat.le_refl _) HF0.out.be.size)).mono ?_; rw [HC.out]; rintro e w1 ⟨rfl, hb1⟩; have HF1 := Lib.hid (HF0.out.on hb1); clear hb1))
      go_meet
      exact ⟨by rw [HOK.out]; rfl, HF1⟩
    | true =>
      have HC : Hid (p.check = 0) := Lib.hid (by unfold Page.check; rw [hok]; rfl)
      have HOK := Lib.hid hok
      clear hok
      cases hoq : q.ok with
      | true =>
        have HC2 : Hid (q.check = 0) := Lib.hid (by unfold Page.check; rw [hoq]; rfl)
        have HOK2 := Lib.hid hoq
        clear hoq
        go_wp2_with (refine wpList_load_row rfl 27 _ rfl (w.heap.size) rfl 27 _ (0, 0) _ HF0.out.b0 Try.underlying27 rfl (by kernel_rfl) ?_)
        refine (HCH.out w0 ((H1.out.below HF0.out.be).mono (Nat.le_refl _) HF0.out.be.size)).mono ?_
        rw [HC.out]
        rintro e w1 ⟨rfl, hb1⟩
        have HF1 := Lib.hid (HF0.out.on hb1)
        clear hb1
        obtain ⟨r0, r1, r2, r3, r4, r5, r6⟩ := Blk.cells7 HF1.out.b1
        go_wp2_with fail
        refine (HCQ.out w1 ((H2.out.below HF1.out.be).mono (Nat.le_refl _) HF1.out.be.size)).mono ?_
        rw [HC2.out]
        rintro e w2 ⟨rfl, hb2⟩
        have HF2 := Lib.hid (HF1.out.on hb2)
        clear hb2
        go_wp2
        go_meet
        exact ⟨by rw [HOK.out, HOK2.out]; rfl, HF2⟩
      | false =>
        have HC2 : Hid (q.check = 101) := Lib.hid (by unfold Page.check; rw [hoq]; rfl)
        have HOK2 := Lib.hid hoq
        clear hoq
        go_wp2_with (refine wpList_load_row rfl 27 _ rfl (w.heap.size) rfl 27 _ (0, 0) _ HF0.out.b0 Try.underlying27 rfl (by kernel_rfl) ?_)
        refine (HCH.out w0 ((H1.out.below HF0.out.be).mono (Nat.le_refl _) HF0.out.be.size)).mono ?_
        rw [HC.out]
        rintro e w1 ⟨rfl, hb1⟩
        have HF1 := Lib.hid (HF0.out.on hb1)
        clear hb1
        obtain ⟨r0, r1, r2, r3, r4, r5, r6⟩ := Blk.cells7 HF1.out.b1
        go_wp2_with fail
        refine (HCQ.out w1 ((H2.out.below HF1.out.be).mono (Nat.le_refl _) HF1.out.be.size)).mono ?_
        rw [HC2.out]
        rintro e w2 ⟨rfl, hb2⟩
        have HF2 := Lib.hid (HF1.out.on hb2)
        clear hb2
        go_wp2
        go_meet
        exact ⟨by rw [HOK.out, HOK2.out]; rfl, HF2⟩
  case rest =>
    obtain ⟨rfl, HF3⟩ := hcut
    cases hok : (p.ok && q.ok) with
    | false =>
      have HOK := Lib.hid hok
      clear hok
      go_wp2_with (refine wpList_store_row rfl 27 _ _ rfl rfl (w.heap.size + 2) rfl _ _ _ rfl HF3.out.b2 rfl (by kernel_rfl) (List.all_eq_true.1 rfl) ?_; rintro wE hTE hBE)
      exact bodyPost_ret (v := .tuple #[.agg #[Value.int IntKind.i64 0, Value.string { data := #[] }, Value.string { data := #[] }, Value.bool false, Value.int IntKind.i64 0, Value.slice none 0 0, Value.slice none 0 0], .int .i64 101]) (results_row2 rfl _ _ (w.heap.size + 2) _ _ _ _ rfl hBE Try.underlying27 rfl (by kernel_rfl) rfl) rfl (by rw [show p.mergeE q = 101 by unfold Page.mergeE; rw [HOK.out]; rfl, show p.mergeP q = Page.zero by unfold Page.mergeP; rw [HOK.out]; rfl]; exact PostPE.nothing (hTE.below HF3.out.be (by omega) HF3.out.be.size))
    | true =>
      have HOK := Lib.hid hok
      clear hok
      obtain ⟨z0, z1, z2, z3, z4, z5, z6⟩ := Blk.cells7 HF3.out.b0
      obtain ⟨r0, r1, r2, r3, r4, r5, r6⟩ := Blk.cells7 HF3.out.b1
      have HPO : Hid (p.ok = true ∧ q.ok = true) := Lib.hid (by have := HOK.out; simpa [Bool.and_eq_true] using this)
      have hwi : IntKind.i64.wrap ((ni : Int) + (mi : Int)) = (ni : Int) + (mi : Int) := by
        have h1 := (Page.Fine.items_few (Page.Fine.of_ok HPO.out.1)).1
        have h2 := (Page.Fine.items_few (Page.Fine.of_ok HPO.out.2)).1
        rw [← HNI.out] at h1; rw [← HMI.out] at h2
        rw [IntKind.wrap_i64]; omega
      have hwk : IntKind.i64.wrap ((nk : Int) + (mk : Int)) = (nk : Int) + (mk : Int) := by
        have h1 := (Page.Fine.items_few (Page.Fine.of_ok HPO.out.1)).2
        have h2 := (Page.Fine.items_few (Page.Fine.of_ok HPO.out.2)).2
        rw [← HNK.out] at h1; rw [← HMK.out] at h2
        rw [IntKind.wrap_i64]; omega
      go_upto_region 3 with (fail)
      generalize Value.agg #[Value.int IntKind.i64 lv, Value.string p.low, Value.string p.high, Value.bool p.last, Value.int IntKind.i64 p.side, Value.slice A ni c, Value.slice A' nk c'] = va
      generalize Value.agg #[Value.int IntKind.i64 rv, Value.string q.low, Value.string q.high, Value.bool q.last, Value.int IntKind.i64 q.side, Value.slice B mi d, Value.slice B' mk d'] = vb
      go_cut [50] (fun v wx => v = .bool (!p.mergeFits q) ∧ wc = wx)
      case first =>
        cases ht0 : (lv != rv) with
        | true =>
          have Hht0 := Lib.hid ht0
          go_wp2
          go_meet
          have g0 := Hht0.out
          try simp only [decide_eq_true_eq, decide_eq_false_iff_not, Int.not_lt, bne_iff_ne, ne_eq, bne_eq_false_iff_eq] at g0
          exact ⟨by unfold Page.mergeFits same; rw [← HLV.out, ← HRV.out, ← HNI.out, ← HMI.out, ← HNK.out, ← HMK.out]; simp [g0], rfl⟩
        | false =>
          have Hht0 := Lib.hid ht0
          cases ht1 : (p.last) with
          | true =>
            have Hht1 := Lib.hid ht1
            go_wp2
            go_meet
            have g0 := Hht0.out
            try simp only [decide_eq_true_eq, decide_eq_false_iff_not, Int.not_lt, bne_iff_ne, ne_eq, bne_eq_false_iff_eq] at g0
            have g1 := Hht1.out
            try simp only [decide_eq_true_eq, decide_eq_false_iff_not, Int.not_lt, bne_iff_ne, ne_eq, bne_eq_false_iff_eq] at g1
            exact ⟨by unfold Page.mergeFits same; rw [← HLV.out, ← HRV.out, ← HNI.out, ← HMI.out, ← HNK.out, ← HMK.out]; simp [g0, g1], rfl⟩
          | false =>
            have Hht1 := Lib.hid ht1
            cases ht2 : (p.high.toList == q.low.toList) with
            | true =>
              have Hht2 := Lib.hid ht2
              cases ht3 : (decide ((120 : Int) < (ni : Int) + (mi : Int))) with
              | true =>
                have Hht3 := Lib.hid ht3
                go_wp2
                go_meet
                have g0 := Hht0.out
                try simp only [decide_eq_true_eq, decide_eq_false_iff_not, Int.not_lt, bne_iff_ne, ne_eq, bne_eq_false_iff_eq] at g0
                have g1 := Hht1.out
                try simp only [decide_eq_true_eq, decide_eq_false_iff_not, Int.not_lt, bne_iff_ne, ne_eq, bne_eq_false_iff_eq] at g1
                have g2 := Hht2.out
                try simp only [decide_eq_true_eq, decide_eq_false_iff_not, Int.not_lt, bne_iff_ne, ne_eq, bne_eq_false_iff_eq] at g2
                have g3 := Hht3.out
                try simp only [decide_eq_true_eq, decide_eq_false_iff_not, Int.not_lt, bne_iff_ne, ne_eq, bne_eq_false_iff_eq] at g3
                exact ⟨by unfold Page.mergeFits same; rw [← HLV.out, ← HRV.out, ← HNI.out, ← HMI.out, ← HNK.out, ← HMK.out]; simp [g0, g1, g2, g3], rfl⟩
              | false =>
                have Hht3 := Lib.hid ht3
                cases ht4 : (decide ((120 : Int) < (nk : Int) + (mk : Int))) with
                | true =>
                  have Hht4 := Lib.hid ht4
                  go_wp2
                  go_meet
                  have g0 := Hht0.out
                  try simp only [decide_eq_true_eq, decide_eq_false_iff_not, Int.not_lt, bne_iff_ne, ne_eq, bne_eq_false_iff_eq] at g0
                  have g1 := Hht1.out
                  try simp only [decide_eq_true_eq, decide_eq_false_iff_not, Int.not_lt, bne_iff_ne, ne_eq, bne_eq_false_iff_eq] at g1
                  have g2 := Hht2.out
                  try simp only [decide_eq_true_eq, decide_eq_false_iff_not, Int.not_lt, bne_iff_ne, ne_eq, bne_eq_false_iff_eq] at g2
                  have g3 := Hht3.out
                  try simp only [decide_eq_true_eq, decide_eq_false_iff_not, Int.not_lt, bne_iff_ne, ne_eq, bne_eq_false_iff_eq] at g3
                  have g4 := Hht4.out
                  try simp only [decide_eq_true_eq, decide_eq_false_iff_not, Int.not_lt, bne_iff_ne, ne_eq, bne_eq_false_iff_eq] at g4
                  exact ⟨by unfold Page.mergeFits same; rw [← HLV.out, ← HRV.out, ← HNI.out, ← HMI.out, ← HNK.out, ← HMK.out]; simp [g0, g1, g2, g3, g4], rfl⟩
                | false =>
                  have Hht4 := Lib.hid ht4
                  go_wp2
                  go_meet
                  have g0 := Hht0.out
                  try simp only [decide_eq_true_eq, decide_eq_false_iff_not, Int.not_lt, bne_iff_ne, ne_eq, bne_eq_false_iff_eq] at g0
                  have g1 := Hht1.out
                  try simp only [decide_eq_true_eq, decide_eq_false_iff_not, Int.not_lt, bne_iff_ne, ne_eq, bne_eq_false_iff_eq] at g1
                  have g2 := Hht2.out
                  try simp only [decide_eq_true_eq, decide_eq_false_iff_not, Int.not_lt, bne_iff_ne, ne_eq, bne_eq_false_iff_eq] at g2
                  have g3 := Hht3.out
                  try simp only [decide_eq_true_eq, decide_eq_false_iff_not, Int.not_lt, bne_iff_ne, ne_eq, bne_eq_false_iff_eq] at g3
                  have g4 := Hht4.out
                  try simp only [decide_eq_true_eq, decide_eq_false_iff_not, Int.not_lt, bne_iff_ne, ne_eq, bne_eq_false_iff_eq] at g4
                  exact ⟨by unfold Page.mergeFits same; rw [← HLV.out, ← HRV.out, ← HNI.out, ← HMI.out, ← HNK.out, ← HMK.out]; simp [g0, g1, g2, g3, g4], rfl⟩
            | false =>
              have Hht2 := Lib.hid ht2
              go_wp2
              go_meet
              have g0 := Hht0.out
              try simp only [decide_eq_true_eq, decide_eq_false_iff_not, Int.not_lt, bne_iff_ne, ne_eq, bne_eq_false_iff_eq] at g0
              have g1 := Hht1.out
              try simp only [decide_eq_true_eq, decide_eq_false_iff_not, Int.not_lt, bne_iff_ne, ne_eq, bne_eq_false_iff_eq] at g1
              have g2 := Hht2.out
              try simp only [decide_eq_true_eq, decide_eq_false_iff_not, Int.not_lt, bne_iff_ne, ne_eq, bne_eq_false_iff_eq] at g2
              exact ⟨by unfold Page.mergeFits same; rw [← HLV.out, ← HRV.out, ← HNI.out, ← HMI.out, ← HNK.out, ← HMK.out]; simp [g0, g1, g2], rfl⟩
      case rest =>
        obtain ⟨rfl, rfl⟩ := hcut
        clear z0 z1 z2 z3 z4 z5 z6 r0 r1 r2 r3 r4 r5 r6
        cases hf : p.mergeFits q with
        | false =>
          have HFI := Lib.hid hf
          clear hf
          go_wp2_with (refine wpList_store_row rfl 27 _ _ rfl rfl (w.heap.size + 2) rfl _ _ _ rfl HF3.out.b2 rfl (by kernel_rfl) (List.all_eq_true.1 rfl) ?_; rintro wE hTE hBE)
          exact bodyPost_ret (v := .tuple #[.agg #[Value.int IntKind.i64 0, Value.string { data := #[] }, Value.string { data := #[] }, Value.bool false, Value.int IntKind.i64 0, Value.slice none 0 0, Value.slice none 0 0], .int .i64 103]) (results_row2 rfl _ _ (w.heap.size + 2) _ _ _ _ rfl hBE Try.underlying27 rfl (by kernel_rfl) rfl) rfl (by rw [show p.mergeE q = 103 by unfold Page.mergeE; rw [HOK.out, HFI.out]; rfl, show p.mergeP q = Page.zero by unfold Page.mergeP; rw [HOK.out, HFI.out]; rfl]; exact PostPE.nothing (hTE.below HF3.out.be (by omega) HF3.out.be.size))
        | true =>
          have HFI := Lib.hid hf
          clear hf
          go_upto_region 5 with (fail)
          go_cut [] (fun wx => Hid (Fr w wx [(27, #[Value.int IntKind.i64 lv, Value.string p.low, Value.string q.high, Value.bool q.last, Value.int IntKind.i64 q.side, Value.slice A ni c, Value.slice A' nk c']), (27, #[Value.int IntKind.i64 rv, Value.string q.low, Value.string q.high, Value.bool q.last, Value.int IntKind.i64 q.side, Value.slice B mi d, Value.slice B' mk d']), (27, #[Value.int IntKind.i64 0, Value.string { data := #[] }, Value.string { data := #[] }, Value.bool false, Value.int IntKind.i64 0, Value.slice none 0 0, Value.slice none 0 0])]))
          case first =>
            obtain ⟨z0, z1, z2, z3, z4, z5, z6⟩ := Blk.cells7 HF3.out.b0
            obtain ⟨r0, r1, r2, r3, r4, r5, r6⟩ := Blk.cells7 HF3.out.b1
            have hz := HF3.out.b0.frozen
            go_region
            all_goals (go_wp2; go_meet; exact Lib.hid (((HF3.out.drew 1).set0 2 _ rfl).set0 3 _ rfl |>.set0 4 _ rfl))
          case rest =>
            have HF4 := hcut
            clear hcut
            have HCI : Hid (∀ W g0, Below w.heap.size w W → Blk W g0 24 #[.slice A ni c, .slice B mi d] → Calls Try.prog 129 #[.slice (some ⟨g0, 0, none⟩) 2 2] W (PostCItem W (p.items ++ q.items))) := Lib.hid fun W g0 hw hb => by
              rw [HNI.out, HMI.out] at hb
              have h1 := (Page.Fine.items_few (Page.Fine.of_ok HPO.out.1)).1
              have h3 := (Page.Fine.of_ok HPO.out.1).ni
              have h4 := (Page.Fine.of_ok HPO.out.2).ni
              exact concat_item g0 lo lo' c d A B p.items q.items W hb ((H1.out.items.below hw).mono (Nat.le_refl _) hw.size) ((H2.out.items.below hw).mono (Nat.le_refl _) hw.size) (by omega)
            have HCK : Hid (∀ W g0, Below w.heap.size w W → Blk W g0 25 #[.slice A' nk c', .slice B' mk d'] → Calls Try.prog 130 #[.slice (some ⟨g0, 0, none⟩) 2 2] W (PostCKid W (p.kids ++ q.kids))) := Lib.hid fun W g0 hw hb => by
              rw [HNK.out, HMK.out] at hb
              have h3 := (Page.Fine.of_ok HPO.out.1).nk
              have h4 := (Page.Fine.of_ok HPO.out.2).nk
              exact concat_kid g0 lo lo' c' d' A' B' p.kids q.kids W hb ((H1.out.kids.below hw).mono (Nat.le_refl _) hw.size) ((H2.out.kids.below hw).mono (Nat.le_refl _) hw.size) (by omega)
            go_upto_region 6 with (fail)
            have hs4 := HF4.out.sz
            simp only [List.length_cons, List.length_nil] at hs4
            obtain ⟨ti, hti⟩ : ∃ n, n = (p.items ++ q.items).length := ⟨_, rfl⟩
            obtain ⟨tk, htk⟩ : ∃ n, n = (p.kids ++ q.kids).length := ⟨_, rfl⟩
            have HTI := Lib.hid hti
            have HTK := Lib.hid htk
            clear hti htk
            have HLEAF : Hid (∀ w6 E5 d5 E6 d6, Fr w w6 [(27, #[Value.int IntKind.i64 lv, Value.string p.low, Value.string q.high, Value.bool q.last, Value.int IntKind.i64 q.side, Value.slice A ni c, Value.slice A' nk c']), (27, #[Value.int IntKind.i64 rv, Value.string q.low, Value.string q.high, Value.bool q.last, Value.int IntKind.i64 q.side, Value.slice B mi d, Value.slice B' mk d']), (27, #[Value.int IntKind.i64 0, Value.string { data := #[] }, Value.string { data := #[] }, Value.bool false, Value.int IntKind.i64 0, Value.slice none 0 0, Value.slice none 0 0])] → OwnItem w6 (w.heap.size + 3) (.slice E5 ti d5) (p.items ++ q.items) → OwnKid w6 (w.heap.size + 3) (.slice E6 tk d6) (p.kids ++ q.kids) → Hid (∃ EI dI EK dK, Fr w ((w6.setCell ⟨w.heap.size, 5, none⟩ (.slice E5 ti d5)).setCell ⟨w.heap.size, 6, none⟩ (.slice E6 tk d6)) [(27, #[Value.int IntKind.i64 lv, Value.string p.low, Value.string q.high, Value.bool q.last, Value.int IntKind.i64 q.side, Value.slice EI ti dI, Value.slice EK tk dK]), (27, #[Value.int IntKind.i64 rv, Value.string q.low, Value.string q.high, Value.bool q.last, Value.int IntKind.i64 q.side, Value.slice B mi d, Value.slice B' mk d']), (27, #[Value.int IntKind.i64 0, Value.string { data := #[] }, Value.string { data := #[] }, Value.bool false, Value.int IntKind.i64 0, Value.slice none 0 0, Value.slice none 0 0])] ∧ OwnItem ((w6.setCell ⟨w.heap.size, 5, none⟩ (.slice E5 ti d5)).setCell ⟨w.heap.size, 6, none⟩ (.slice E6 tk d6)) (w.heap.size + 3) (.slice EI ti dI) (p.items ++ q.items) ∧ OwnKid ((w6.setCell ⟨w.heap.size, 5, none⟩ (.slice E5 ti d5)).setCell ⟨w.heap.size, 6, none⟩ (.slice E6 tk d6)) (w.heap.size + 3) (.slice EK tk dK) (p.kids ++ q.kids))) := Lib.hid fun w6 E5 d5 E6 d6 hF hO hK => Lib.hid ⟨E5, d5, E6, d6, (hF.set0 5 _ rfl).set0 6 _ rfl, (hO.setLow (by omega) _).setLow (by omega) _, (hK.setLow (by omega) _).setLow (by omega) _⟩
            go_cut [] (fun wx => Hid (∃ EI dI EK dK, Fr w wx [(27, #[Value.int IntKind.i64 lv, Value.string p.low, Value.string q.high, Value.bool q.last, Value.int IntKind.i64 q.side, Value.slice EI ti dI, Value.slice EK tk dK]), (27, #[Value.int IntKind.i64 rv, Value.string q.low, Value.string q.high, Value.bool q.last, Value.int IntKind.i64 q.side, Value.slice B mi d, Value.slice B' mk d']), (27, #[Value.int IntKind.i64 0, Value.string { data := #[] }, Value.string { data := #[] }, Value.bool false, Value.int IntKind.i64 0, Value.slice none 0 0, Value.slice none 0 0])] ∧ OwnItem wx (w.heap.size + 3) (.slice EI ti dI) (p.items ++ q.items) ∧ OwnKid wx (w.heap.size + 3) (.slice EK tk dK) (p.kids ++ q.kids)))
            case first =>
              obtain ⟨z0, z1, z2, z3, z4, z5, z6⟩ := Blk.cells7 HF4.out.b0
              obtain ⟨r0, r1, r2, r3, r4, r5, r6⟩ := Blk.cells7 HF4.out.b1
              have hz := HF4.out.b0.frozen
              have za5 : ∀ o, (wc.alloc o).cell? ⟨w.heap.size, 5, none⟩ = some (.slice A ni c) := fun o => (HF4.out.b0.alloc o).cell 5
              have za6 : ∀ o, (wc.alloc o).cell? ⟨w.heap.size, 6, none⟩ = some (.slice A' nk c') := fun o => (HF4.out.b0.alloc o).cell 6
              have zb5 : ∀ o, (wc.alloc o).cell? ⟨w.heap.size + 1, 5, none⟩ = some (.slice B mi d) := fun o => (HF4.out.b1.alloc o).cell 5
              have zb6 : ∀ o, (wc.alloc o).cell? ⟨w.heap.size + 1, 6, none⟩ = some (.slice B' mk d') := fun o => (HF4.out.b1.alloc o).cell 6
              go_region_held3 (fun w' => w'.cell? ⟨w.heap.size + 1, 5, none⟩ = some (.slice B mi d) ∧ w'.cell? ⟨w.heap.size + 1, 6, none⟩ = some (.slice B' mk d'))
                (first | go_keep | (refine ⟨?_, ?_⟩ <;> assumption))
                (first
                | (go_at_call 129; refine (HCI.out _ _ (Fr.be (bs := [(27, #[Value.int IntKind.i64 lv, Value.string p.low, Value.string q.high, Value.bool q.last, Value.int IntKind.i64 q.side, Value.slice A ni c, Value.slice A' nk c']), (27, #[Value.int IntKind.i64 rv, Value.string q.low, Value.string q.high, Value.bool q.last, Value.int IntKind.i64 q.side, Value.slice B mi d, Value.slice B' mk d']), (27, #[Value.int IntKind.i64 0, Value.string { data := #[] }, Value.string { data := #[] }, Value.bool false, Value.int IntKind.i64 0, Value.slice none 0 0, Value.slice none 0 0])]) (by ((repeat (first | with_reducible exact Hid.out ‹_› | with_reducible refine Fr.later ?_ _ | with_reducible refine Fr.drew1 ?_ | with_reducible refine Fr.set0 ?_ _ _ ?_ | with_reducible refine Fr.set1 ?_ _ _ ?_ | with_reducible refine Fr.on ?_ HB6.out | with_reducible refine Fr.on ?_ HB5.out | rfl)); done))) (by ((repeat (first | with_reducible exact Hid.out ‹_› | with_reducible refine Blk.newAt ?_ | with_reducible refine Blk.alloc ?_ _ | with_reducible refine Blk.drew ?_ | with_reducible refine Blk.far ?_ ?_ _ | with_reducible refine Blk.below ?_ HB6.out ?_ | with_reducible refine Blk.below ?_ HB5.out ?_ | rfl | omega | (rw [World.size_alloc]) | (simp; done) | (simp; omega))); done))).mono ?_; rintro e w5 ⟨v5, rfl, hO5, hB5⟩; obtain ⟨E5, d5, hv5, _, _⟩ := hO5.form; rw [← HTI.out] at hv5; subst hv5; have HB5 := Lib.hid hB5; have HO5 := Lib.hid (hO5.mono (b' := w.heap.size + 3) (by first | (simp; omega) | omega)); have HF5 : Hid (Fr w w5 [(27, #[Value.int IntKind.i64 lv, Value.string p.low, Value.string q.high, Value.bool q.last, Value.int IntKind.i64 q.side, Value.slice A ni c, Value.slice A' nk c']), (27, #[Value.int IntKind.i64 rv, Value.string q.low, Value.string q.high, Value.bool q.last, Value.int IntKind.i64 q.side, Value.slice B mi d, Value.slice B' mk d']), (27, #[Value.int IntKind.i64 0, Value.string { data := #[] }, Value.string { data := #[] }, Value.bool false, Value.int IntKind.i64 0, Value.slice none 0 0, Value.slice none 0 0])]) := Lib.hid (by ((repeat (first | with_reducible exact Hid.out ‹_› | with_reducible refine Fr.later ?_ _ | with_reducible refine Fr.drew1 ?_ | with_reducible refine Fr.set0 ?_ _ _ ?_ | with_reducible refine Fr.set1 ?_ _ _ ?_ | with_reducible refine Fr.on ?_ HB6.out | with_reducible refine Fr.on ?_ HB5.out | rfl)); done)); clear hO5 hB5; have k5 : w5.cell? ⟨w.heap.size, 5, none⟩ = some (.slice A ni c) := HF5.out.b0.cell 5; have k6 : w5.cell? ⟨w.heap.size, 6, none⟩ = some (.slice A' nk c') := HF5.out.b0.cell 6; have g5 : w5.frozen? ⟨w.heap.size, 5, none⟩ = false := HF5.out.b0.frozen 5; have hs5 : w.heap.size + 3 ≤ w5.heap.size := HF5.out.sz; have l5 : w5.cell? ⟨w.heap.size + 1, 5, none⟩ = some (.slice B mi d) := HF5.out.b1.cell 5; have l6 : w5.cell? ⟨w.heap.size + 1, 6, none⟩ = some (.slice B' mk d') := HF5.out.b1.cell 6)
                | (go_at_call 130; refine (HCK.out _ _ (Fr.be (bs := [(27, #[Value.int IntKind.i64 lv, Value.string p.low, Value.string q.high, Value.bool q.last, Value.int IntKind.i64 q.side, Value.slice A ni c, Value.slice A' nk c']), (27, #[Value.int IntKind.i64 rv, Value.string q.low, Value.string q.high, Value.bool q.last, Value.int IntKind.i64 q.side, Value.slice B mi d, Value.slice B' mk d']), (27, #[Value.int IntKind.i64 0, Value.string { data := #[] }, Value.string { data := #[] }, Value.bool false, Value.int IntKind.i64 0, Value.slice none 0 0, Value.slice none 0 0])]) (by ((repeat (first | with_reducible exact Hid.out ‹_› | with_reducible refine Fr.later ?_ _ | with_reducible refine Fr.drew1 ?_ | with_reducible refine Fr.set0 ?_ _ _ ?_ | with_reducible refine Fr.set1 ?_ _ _ ?_ | with_reducible refine Fr.on ?_ HB6.out | with_reducible refine Fr.on ?_ HB5.out | rfl)); done))) (by ((repeat (first | with_reducible exact Hid.out ‹_› | with_reducible refine Blk.newAt ?_ | with_reducible refine Blk.alloc ?_ _ | with_reducible refine Blk.drew ?_ | with_reducible refine Blk.far ?_ ?_ _ | with_reducible refine Blk.below ?_ HB6.out ?_ | with_reducible refine Blk.below ?_ HB5.out ?_ | rfl | omega | (rw [World.size_alloc]) | (simp; done) | (simp; omega))); done))).mono ?_; rintro e w6 ⟨v6, rfl, hO6, hB6⟩; obtain ⟨E6, d6, hv6, _, _⟩ := hO6.form; rw [← HTK.out] at hv6; subst hv6; have HB6 := Lib.hid hB6; have HO6 := Lib.hid (hO6.mono (b' := w.heap.size + 3) (by first | (simp; omega) | omega)); have HF6 : Hid (Fr w w6 [(27, #[Value.int IntKind.i64 lv, Value.string p.low, Value.string q.high, Value.bool q.last, Value.int IntKind.i64 q.side, Value.slice A ni c, Value.slice A' nk c']), (27, #[Value.int IntKind.i64 rv, Value.string q.low, Value.string q.high, Value.bool q.last, Value.int IntKind.i64 q.side, Value.slice B mi d, Value.slice B' mk d']), (27, #[Value.int IntKind.i64 0, Value.string { data := #[] }, Value.string { data := #[] }, Value.bool false, Value.int IntKind.i64 0, Value.slice none 0 0, Value.slice none 0 0])]) := Lib.hid (by ((repeat (first | with_reducible exact Hid.out ‹_› | with_reducible refine Fr.later ?_ _ | with_reducible refine Fr.drew1 ?_ | with_reducible refine Fr.set0 ?_ _ _ ?_ | with_reducible refine Fr.set1 ?_ _ _ ?_ | with_reducible refine Fr.on ?_ HB6.out | with_reducible refine Fr.on ?_ HB5.out | rfl)); done)); have HP5 : Hid (OwnItem w6 (w.heap.size + 3) (.slice E5 ti d5) (p.items ++ q.items)) := Lib.hid (by ((repeat (first | with_reducible exact Hid.out ‹_› | with_reducible refine OwnItem.later ?_ _ | with_reducible refine OwnItem.drew1 ?_ | with_reducible refine OwnItem.setLow ?_ ?_ _ | with_reducible refine OwnItem.on ?_ HB6.out | with_reducible refine OwnItem.on ?_ HB5.out | with_reducible refine OwnKid.later ?_ _ | with_reducible refine OwnKid.drew1 ?_ | with_reducible refine OwnKid.setLow ?_ ?_ _ | with_reducible refine OwnKid.on ?_ HB6.out | with_reducible refine OwnKid.on ?_ HB5.out | rfl | omega | (rw [World.size_alloc]) | (simp; done) | (simp; omega))); done)); clear hO6 hB6; have k5 : w6.cell? ⟨w.heap.size, 5, none⟩ = some (.slice A ni c) := HF6.out.b0.cell 5; have k6 : w6.cell? ⟨w.heap.size, 6, none⟩ = some (.slice A' nk c') := HF6.out.b0.cell 6; have g5 : w6.frozen? ⟨w.heap.size, 5, none⟩ = false := HF6.out.b0.frozen 5; have g6 : w6.frozen? ⟨w.heap.size, 6, none⟩ = false := HF6.out.b0.frozen 6; have l5 : w6.cell? ⟨w.heap.size + 1, 5, none⟩ = some (.slice B mi d) := HF6.out.b1.cell 5; have l6 : w6.cell? ⟨w.heap.size + 1, 6, none⟩ = some (.slice B' mk d') := HF6.out.b1.cell 6))
              all_goals (go_wp2; go_meet; exact HLEAF.out _ _ _ _ _ HF6.out HP5.out HO6.out)
            case rest =>
              obtain ⟨EI, dI, EK, dK, hf7, hoi, hok7⟩ := hcut.out
              have HF7 := Lib.hid hf7
              have HOI := Lib.hid hoi
              have HOK7 := Lib.hid hok7
              clear hcut hf7 hoi hok7
              go_wp2_with (first
    | (refine wpList_load_row rfl 27 _ rfl (w.heap.size) rfl 27 _ (0, 0) _ HF7.out.b0 Try.underlying27 rfl (by kernel_rfl) ?_)
    | (refine wpList_store_row rfl 27 _ _ rfl rfl (w.heap.size + 2) rfl _ _ _ rfl HF7.out.b2 rfl (by kernel_rfl) (List.all_eq_true.1 rfl) ?_; rintro wE hTE hBE))
              exact bodyPost_ret (v := .tuple #[.agg #[Value.int IntKind.i64 lv, Value.string p.low, Value.string q.high, Value.bool q.last, Value.int IntKind.i64 q.side, Value.slice EI ti dI, Value.slice EK tk dK], .int .i64 0]) (results_row2 rfl _ _ (w.heap.size + 2) _ _ _ _ rfl hBE Try.underlying27 rfl (by kernel_rfl) rfl) rfl (by rw [show p.mergeE q = 0 by unfold Page.mergeE; rw [HOK.out, HFI.out]; try rfl, show p.mergeP q = _ by unfold Page.mergeP; rw [HOK.out, HFI.out]; try rfl]; exact ⟨.slice EI ti dI, .slice EK tk dK, by rw [HLV.out]; rfl, ((HOI.out.turned hTE (by omega)).mono (by omega)), ((HOK7.out.turned hTE (by omega)).mono (by omega)), hTE.below HF7.out.be (by omega) HF7.out.be.size⟩)
end Go.Proofs.Ytjbdmaehomhdeaa
