import Derived.Test.YtjbdmaehomhdeaaA4
import Derived.Test.YtjbdmaehomhdeaaA5
import Derived.Test.YtjbdmaehomhdeaaA6
namespace Go.Proofs.Ytjbdmaehomhdeaa
open Go.RowKit

/-- a page's lists in memory, in blocks from lo on, below hi -/
structure Pg (w : World) (lo hi : Nat) (p : Page) (A A' : Option Addr) (c c' : Nat) : Prop where
  items : Rd Item.cells 4 w lo hi A p.items
  kids : Rd Kid.cells 2 w lo hi A' p.kids
  li : p.items.length ≤ c
  lk : p.kids.length ≤ c'
  bi : p.items.length ≤ 140737488351232
  bk : p.kids.length ≤ 140737488351232
theorem Pg.below {w w' : World} {lo hi : Nat} {p : Page} {A A' : Option Addr} {c c' : Nat} (h : Pg w lo hi p A A' c c') (hb : Below hi w w') : Pg w' lo hi p A A' c c' := ⟨h.items.below hb, h.kids.below hb, h.li, h.lk, h.bi, h.bk⟩
theorem Pg.mono {w : World} {lo lo' hi hi' : Nat} {p : Page} {A A' : Option Addr} {c c' : Nat} (h : Pg w lo hi p A A' c c') (h1 : lo' ≤ lo) (h2 : hi ≤ hi') : Pg w lo' hi' p A A' c c' := ⟨h.items.mono h1 h2, h.kids.mono h1 h2, h.li, h.lk, h.bi, h.bk⟩

noncomputable def Page.leafB (p : Page) : Bool := decide (p.kids.length = 0) && decide (p.items.length ≤ 120) && !(p.items.any (fun x => x.check != 0)) && rises p (p.items.map (·.key))

set_option maxHeartbeats 400000 in
theorem page_leaf (p : Page) (A A' : Option Addr) (c c' lo : Nat) (w : World) (hp : Pg w lo w.heap.size p A A' c c') :
    Calls Try.prog 55 #[p.val A c A' c'] w fun e w' => e = .returned (.bool p.leafB) ∧ Below w.heap.size w w' := by
  obtain ⟨h1, h2, h3, h4, h5, h6⟩ := hp
  have H1 := Lib.hid h1
  clear h1 h2 h3 h4
  unfold Page.val Page.raw
  obtain ⟨ni, hni⟩ : ∃ n, n = p.items.length := ⟨_, rfl⟩
  obtain ⟨nk, hnk⟩ : ∃ n, n = p.kids.length := ⟨_, rfl⟩
  rw [← hni, ← hnk]
  have HNI := Lib.hid hni
  have HNK := Lib.hid hnk
  have H5 := Lib.hid h5
  clear hni hnk h5 h6
  go_enter Try.func55, Try.ntmps55
  go_upto_region 2 with (fail)
  have hP : PBlk (w.alloc (Obj.cells #[Value.int IntKind.i64 p.level, Value.string p.low, Value.string p.high, Value.bool p.last, Value.int IntKind.i64 p.side, Value.slice A ni c, Value.slice A' nk c'] 27)) w.heap.size p A ni c A' nk c' := Blk.new _ _ _
  have hB : Below w.heap.size w (w.alloc (Obj.cells #[Value.int IntKind.i64 p.level, Value.string p.low, Value.string p.high, Value.bool p.last, Value.int IntKind.i64 p.side, Value.slice A ni c, Value.slice A' nk c'] 27)) := (Below.refl _ _).alloc (Nat.le_refl _) _
  generalize (w.alloc (Obj.cells #[Value.int IntKind.i64 p.level, Value.string p.low, Value.string p.high, Value.bool p.last, Value.int IntKind.i64 p.side, Value.slice A ni c, Value.slice A' nk c'] 27)) = w0 at *
  have HP := Lib.hid hP
  have HB := Lib.hid hB
  clear hP hB
  obtain ⟨q0, q1, q2, q3, q4, q5, q6⟩ := HP.out.cells
  have hR0 : Rd Item.cells 4 w0 lo w0.heap.size A p.items := (H1.out.below HB.out).mono (Nat.le_refl _) HB.out.size
  have HR0 := Lib.hid hR0
  clear hR0
  by_cases hk : nk = 0
  · by_cases hi : ni ≤ 120
    · have hk' : (nk : Int) = 0 := by omega
      have hi' : (ni : Int) ≤ 120 := by omega
      have HK : Hid (p.kids.length = 0) := Lib.hid (by rw [← HNK.out]; exact hk)
      have HI : Hid (p.items.length ≤ 120) := Lib.hid (by rw [← HNI.out]; exact hi)
      cases hc : (p.items.any (fun x => x.check != 0)) with
      | true =>
        have HC := Lib.hid hc
        clear hc
        go_wp2_with (go_at_call 75; rw [HNI.out]; refine (contains_leaf A c lo p.items _ HR0.out H5.out).mono ?_; rw [HC.out]; rintro e w1 ⟨rfl, hb1⟩)
        go_ret
        exact ⟨ret_bool (by unfold Page.leafB; rw [HC.out]; simp), HB.out.trans (hb1.mono HB.out.size)⟩
      | false =>
        have HC := Lib.hid hc
        clear hc
        go_wp2_with (first | (go_at_call 75; rw [HNI.out]; refine (contains_leaf A c lo p.items _ HR0.out H5.out).mono ?_; rw [HC.out]; rintro e w1 ⟨rfl, hb1⟩; obtain ⟨r0, r1, r2, r3, r4, r5, r6⟩ := PBlk.cells (HP.out.below hb1 HP.out.lt); rw [HNI.out] at r5) | (go_at_call 76; refine (rising_item p A A' _ _ c c' A c lo p.items _ ((HR0.out.below hb1).mono (Nat.le_refl _) hb1.size) H5.out).mono ?_; rintro e w2 ⟨rfl, hb2⟩))
        go_ret
        exact ⟨ret_bool (by unfold Page.leafB; rw [HC.out, HK.out]; simp [HI.out]), HB.out.trans ((hb1.trans (hb2.mono hb1.size)).mono HB.out.size)⟩
    · have hk' : (nk : Int) = 0 := by omega
      have hi' : ¬ (ni : Int) ≤ 120 := by omega
      have HI : Hid (¬ p.items.length ≤ 120) := Lib.hid (by rw [← HNI.out]; exact hi)
      go_wp2
      go_ret
      exact ⟨ret_bool (by unfold Page.leafB; simp [HI.out]), HB.out⟩
  · have hk' : ¬ (nk : Int) = 0 := by omega
    have HK : Hid (¬ p.kids.length = 0) := Lib.hid (by rw [← HNK.out]; exact hk)
    go_wp2
    all_goals go_ret
    all_goals exact ⟨ret_bool (by unfold Page.leafB; simp [HK.out]), HB.out⟩

/-- the same text -/
def same (a b : ByteArray) : Bool := a.toList == b.toList
noncomputable def Page.innerB (p : Page) : Bool := decide (p.items.length = 0) && decide (1 ≤ p.kids.length) && decide (p.kids.length ≤ 120) && p.kids.head?.any (fun x => same x.key p.low) && !(p.kids.any (fun x => x.bad)) && rises p (p.kids.map (·.key))

set_option maxHeartbeats 400000 in
theorem page_inner (p : Page) (A A' : Option Addr) (c c' lo : Nat) (w : World) (hp : Pg w lo w.heap.size p A A' c c') :
    Calls Try.prog 56 #[p.val A c A' c'] w fun e w' => e = .returned (.bool p.innerB) ∧ Below w.heap.size w w' := by
  obtain ⟨h1, h2, h3, h4, h5, h6⟩ := hp
  have H1 := Lib.hid h2
  clear h1 h2 h3 h4
  unfold Page.val Page.raw
  obtain ⟨ni, hni⟩ : ∃ n, n = p.items.length := ⟨_, rfl⟩
  obtain ⟨nk, hnk⟩ : ∃ n, n = p.kids.length := ⟨_, rfl⟩
  rw [← hni, ← hnk]
  have HNI := Lib.hid hni
  have HNK := Lib.hid hnk
  have H6 := Lib.hid h6
  clear hni hnk h5 h6
  go_enter Try.func56, Try.ntmps56
  go_upto_region 1 with (fail)
  have hP : PBlk (w.alloc (Obj.cells #[Value.int IntKind.i64 p.level, Value.string p.low, Value.string p.high, Value.bool p.last, Value.int IntKind.i64 p.side, Value.slice A ni c, Value.slice A' nk c'] 27)) w.heap.size p A ni c A' nk c' := Blk.new _ _ _
  have hB : Below w.heap.size w (w.alloc (Obj.cells #[Value.int IntKind.i64 p.level, Value.string p.low, Value.string p.high, Value.bool p.last, Value.int IntKind.i64 p.side, Value.slice A ni c, Value.slice A' nk c'] 27)) := (Below.refl _ _).alloc (Nat.le_refl _) _
  generalize (w.alloc (Obj.cells #[Value.int IntKind.i64 p.level, Value.string p.low, Value.string p.high, Value.bool p.last, Value.int IntKind.i64 p.side, Value.slice A ni c, Value.slice A' nk c'] 27)) = w0 at *
  have HP := Lib.hid hP
  have HB := Lib.hid hB
  clear hP hB
  obtain ⟨q0, q1, q2, q3, q4, q5, q6⟩ := HP.out.cells
  have hR0 : Rd Kid.cells 2 w0 lo w0.heap.size A' p.kids := (H1.out.below HB.out).mono (Nat.le_refl _) HB.out.size
  have HR0 := Lib.hid hR0
  clear hR0
  by_cases hi : ni = 0
  · by_cases hk1 : 1 ≤ nk
    · by_cases hk : nk ≤ 120
      · have g1 : ¬ ((ni : Int) > 0) := by omega
        have g2 : ¬ ((nk : Int) < 1) := by omega
        have g3 : ¬ ((nk : Int) > 120) := by omega
        have g4 : (0 : Int) < (nk : Int) := by omega
        have HI : Hid (p.items.length = 0) := Lib.hid (by rw [← HNI.out]; exact hi)
        have HK1 : Hid (1 ≤ p.kids.length) := Lib.hid (by rw [← HNK.out]; exact hk1)
        have HK : Hid (p.kids.length ≤ 120) := Lib.hid (by rw [← HNK.out]; exact hk)
        obtain ⟨ad, x, rfl, hx, _, _, c0, c1⟩ := HR0.out.kid (i := 0) (by rw [← HNK.out]; omega)
        have ha0 : ad.add (0 * 2) = ad := rfl
        rw [ha0] at c0 c1
        have HH : Hid (p.kids.head?.any (fun x => same x.key p.low) = same x.key p.low) := Lib.hid (by rw [List.head?_eq_getElem?, hx.out]; rfl)
        cases hkey : (x.key.toList == p.low.toList) with
        | true =>
          have HE : Hid (same x.key p.low = true) := Lib.hid hkey
          go_quiet (fail)
          obtain ⟨wq, hwq⟩ : ∃ w', w' = w0.drewN nq := ⟨_, rfl⟩
          have HQ : Hid (Below w0.heap.size w0 wq) := Lib.hid (by rw [hwq]; exact below_drewN (Below.refl _ _) nq)
          rw [← hwq]
          clear hwq
          have HRq : Hid (Rd Kid.cells 2 wq lo wq.heap.size (some ad) p.kids) := Lib.hid ((HR0.out.below HQ.out).mono (Nat.le_refl _) HQ.out.size)
          clear q0 q1 q2 q3 q4 q5 q6
          obtain ⟨q0, q1, q2, q3, q4, q5, q6⟩ := PBlk.cells (HP.out.below HQ.out HP.out.lt)
          cases hc : (p.kids.any (fun x => x.bad)) with
          | true =>
            have HC := Lib.hid hc
            clear hc
            go_wp2_with (go_at_call 78; rw [HNK.out]; refine (contains_inner (some ad) c' lo p.kids _ HRq.out H6.out).mono ?_; rw [HC.out]; rintro e w1 ⟨rfl, hb1⟩)
            go_ret
            exact ⟨ret_bool (by unfold Page.innerB; rw [HC.out]; simp), HB.out.trans ((HQ.out.trans (hb1.mono HQ.out.size)).mono HB.out.size)⟩
          | false =>
            have HC := Lib.hid hc
            clear hc
            go_wp2_with (first | (go_at_call 78; rw [HNK.out]; refine (contains_inner (some ad) c' lo p.kids _ HRq.out H6.out).mono ?_; rw [HC.out]; rintro e w1 ⟨rfl, hb1⟩; obtain ⟨r0, r1, r2, r3, r4, r5, r6⟩ := PBlk.cells ((HP.out.below HQ.out HP.out.lt).below hb1 (Nat.lt_of_lt_of_le HP.out.lt HQ.out.size)); rw [HNK.out] at r6) | (go_at_call 79; refine (rising_kid p A (some ad) _ _ c c' (some ad) c' lo p.kids _ ((HRq.out.below hb1).mono (Nat.le_refl _) hb1.size) H6.out).mono ?_; rintro e w2 ⟨rfl, hb2⟩))
            go_ret
            exact ⟨ret_bool (by unfold Page.innerB; rw [HC.out, HI.out, HH.out, HE.out]; simp [HK.out, HK1.out]), HB.out.trans ((HQ.out.trans ((hb1.trans (hb2.mono hb1.size)).mono HQ.out.size)).mono HB.out.size)⟩
        | false =>
          have HE : Hid (same x.key p.low = false) := Lib.hid hkey
          go_quiet (fail)
          go_wp2
          go_ret
          exact ⟨ret_bool (by unfold Page.innerB; rw [HH.out, HE.out]; simp), HB.out.trans ((below_drewN (Below.refl _ _) nq).mono HB.out.size)⟩
      · have g1 : ¬ ((ni : Int) > 0) := by omega
        have g2 : ¬ ((nk : Int) < 1) := by omega
        have g3 : ((nk : Int) > 120) := by omega
        have HK : Hid (¬ p.kids.length ≤ 120) := Lib.hid (by rw [← HNK.out]; exact hk)
        go_quiet (fail)
        go_wp2
        go_ret
        exact ⟨ret_bool (by unfold Page.innerB; simp [HK.out]), HB.out.trans ((below_drewN (Below.refl _ _) nq).mono HB.out.size)⟩
    · have g1 : ¬ ((ni : Int) > 0) := by omega
      have g2 : ((nk : Int) < 1) := by omega
      have HK : Hid (¬ 1 ≤ p.kids.length) := Lib.hid (by rw [← HNK.out]; exact hk1)
      go_quiet (fail)
      go_wp2
      go_ret
      exact ⟨ret_bool (by unfold Page.innerB; rw [decide_eq_false HK.out]; simp), HB.out.trans ((below_drewN (Below.refl _ _) nq).mono HB.out.size)⟩
  · have g1 : ((ni : Int) > 0) := by omega
    have g1' : 0 < ni := by omega
    have HI : Hid (¬ p.items.length = 0) := Lib.hid (by rw [← HNI.out]; exact hi)
    go_quiet (fail)
    go_wp2
    go_ret
    exact ⟨ret_bool (by unfold Page.innerB; rw [decide_eq_false HI.out]; simp), HB.out.trans ((below_drewN (Below.refl _ _) nq).mono HB.out.size)⟩
end Go.Proofs.Ytjbdmaehomhdeaa
