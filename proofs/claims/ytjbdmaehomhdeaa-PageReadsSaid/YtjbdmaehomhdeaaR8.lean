/- The reference's Check, Encode. -/
import Derived.Test.YtjbdmaehomhdeaaR6
namespace Go.Proofs.Ytjbdmaehomhdeaa
open Go.RowKit

theorem Page.Fine2.of_ok {p : Page} (h : p.ok = true) : p.Fine2 := by
  unfold Page.ok at h
  simp only [Bool.and_eq_true, Bool.or_eq_true, Bool.not_eq_true'] at h
  obtain ⟨⟨hb, hl⟩, hi⟩ := h
  have hlv := bounds_level hb
  unfold Page.boundsB Page.bounds1 Page.bounds2 at hb
  simp only [Bool.and_eq_true, decide_eq_true_eq] at hb
  obtain ⟨⟨⟨h1, h2⟩, h3⟩, h4⟩ := hb
  have h5 : p.side ≤ 512 := by
    cases hl : p.last <;> rw [hl] at h4
    · simp only [cond_false, Bool.and_eq_true, isKey, isPage, decide_eq_true_eq] at h4
      omega
    · simp only [cond_true, Bool.and_eq_true, List.isEmpty_iff, beq_iff_eq] at h4
      omega
  by_cases h0 : p.level = 0
  · have hlf : p.leafB = true := by
      rcases hl with h | h
      · simp [h0] at h
      · exact h
    unfold Page.leafB at hlf
    simp only [Bool.and_eq_true, decide_eq_true_eq, Bool.not_eq_true', List.any_eq_false] at hlf
    obtain ⟨⟨⟨k1, k2⟩, k3⟩, _⟩ := hlf
    have hk : p.kids = [] := List.eq_nil_of_length_eq_zero k1
    refine ⟨h3, h5, fun x hx => ?_, (fun x hx => by rw [hk] at hx; cases hx)⟩
    have hm := Item.of_check (x := x) (by simpa using k3 x hx)
    exact hm.2.2.2.1
  · have hin : p.innerB = true := by
      rcases hi with h | h
      · simp at h; omega
      · exact h
    unfold Page.innerB at hin
    simp only [Bool.and_eq_true, decide_eq_true_eq, Bool.not_eq_true', List.any_eq_false] at hin
    obtain ⟨⟨⟨⟨⟨k1, _⟩, k2⟩, _⟩, k3⟩, _⟩ := hin
    have hk : p.items = [] := List.eq_nil_of_length_eq_zero k1
    refine ⟨h3, h5, (fun x hx => by rw [hk] at hx; cases hx), fun x hx => ?_⟩
    have := k3 x hx
    simp [Kid.bad, isPage] at this
    omega

set_option maxHeartbeats 400000 in
theorem ref_Check (p : Page) (A A' : Option Addr) (c c' lo : Nat) (w : World) (hp : Pg w lo w.heap.size p A A' c c') :
    Calls Try.prog 39 #[p.val A c A' c'] w fun e w' => e = .returned (.int .i64 p.check) ∧ Below w.heap.size w w' := by
  have H1 := Lib.hid hp
  clear hp
  have HMAY := Lib.hid (fun w1 h => ref_may p A A' c c' lo w1 h)
  unfold Page.val Page.raw at HMAY
  unfold Page.val Page.raw
  obtain ⟨ni, hni⟩ : ∃ n, n = p.items.length := ⟨_, rfl⟩
  obtain ⟨nk, hnk⟩ : ∃ n, n = p.kids.length := ⟨_, rfl⟩
  rw [← hni, ← hnk]
  rw [← hni, ← hnk] at HMAY
  clear hni hnk
  go_enter Try.func39, Try.ntmps39
  go_upto_region 1 with (fail)
  have hP : PBlk (w.alloc (Obj.cells #[Value.int IntKind.i64 p.level, Value.string p.low, Value.string p.high, Value.bool p.last, Value.int IntKind.i64 p.side, Value.slice A ni c, Value.slice A' nk c'] 27)) w.heap.size p A ni c A' nk c' := Blk.new _ _ _
  have hB : Below w.heap.size w (w.alloc (Obj.cells #[Value.int IntKind.i64 p.level, Value.string p.low, Value.string p.high, Value.bool p.last, Value.int IntKind.i64 p.side, Value.slice A ni c, Value.slice A' nk c'] 27)) := (Below.refl _ _).alloc (Nat.le_refl _) _
  generalize (w.alloc (Obj.cells #[Value.int IntKind.i64 p.level, Value.string p.low, Value.string p.high, Value.bool p.last, Value.int IntKind.i64 p.side, Value.slice A ni c, Value.slice A' nk c'] 27)) = w0 at *
  have HB := Lib.hid hB
  obtain ⟨q0, q1, q2, q3, q4, q5, q6⟩ := hP.cells
  have HR0 : Hid (Pg w0 lo w0.heap.size p A A' c c') := Lib.hid ((H1.out.below hB).mono (Nat.le_refl _) hB.size)
  clear hP hB
  cases hok : p.ok
  all_goals
    have HC0 : Hid (p.check = cond p.ok 0 101) := Lib.hid rfl
    rw [hok] at HC0
    have HOK := Lib.hid hok
    clear hok
    go_wp2_with (go_at_call 68; refine (HMAY.out w0 HR0.out).mono ?_; rw [HOK.out]; rintro e w1 ⟨rfl, hb1⟩)
    go_ret
    exact ⟨ret_i64 (by rw [HC0.out]; rfl), HB.out.trans (hb1.mono HB.out.size)⟩

set_option maxRecDepth 100000 in
set_option maxHeartbeats 1000000 in
theorem ref_Encode (p : Page) (A A' : Option Addr) (c c' lo : Nat) (w : World) (hp : Pg w lo w.heap.size p A A' c c') :
    Calls Try.prog 31 #[p.val A c A' c'] w (PostE w p) := by
  have H1 := Lib.hid hp
  clear hp
  have HCH := Lib.hid (fun w1 h => ref_Check p A A' c c' lo w1 h)
  have HBY := Lib.hid (fun w1 h hf hf2 => ref_bytes p A A' c c' lo w1 h hf hf2)
  unfold Page.val Page.raw at HCH HBY
  unfold Page.val Page.raw
  obtain ⟨ni, hni⟩ : ∃ n, n = p.items.length := ⟨_, rfl⟩
  obtain ⟨nk, hnk⟩ : ∃ n, n = p.kids.length := ⟨_, rfl⟩
  rw [← hni, ← hnk]
  rw [← hni, ← hnk] at HCH HBY
  clear hni hnk
  go_enter Try.func31, Try.ntmps31
  go_upto_region 1 with (fail)
  have hP : PBlk (w.alloc (Obj.cells #[Value.int IntKind.i64 p.level, Value.string p.low, Value.string p.high, Value.bool p.last, Value.int IntKind.i64 p.side, Value.slice A ni c, Value.slice A' nk c'] 27)) w.heap.size p A ni c A' nk c' := Blk.new _ _ _
  have hB : Below w.heap.size w (w.alloc (Obj.cells #[Value.int IntKind.i64 p.level, Value.string p.low, Value.string p.high, Value.bool p.last, Value.int IntKind.i64 p.side, Value.slice A ni c, Value.slice A' nk c'] 27)) := (Below.refl _ _).alloc (Nat.le_refl _) _
  generalize (w.alloc (Obj.cells #[Value.int IntKind.i64 p.level, Value.string p.low, Value.string p.high, Value.bool p.last, Value.int IntKind.i64 p.side, Value.slice A ni c, Value.slice A' nk c'] 27)) = w0 at *
  have HP := Lib.hid hP
  have HB := Lib.hid hB
  clear hP hB
  obtain ⟨q0, q1, q2, q3, q4, q5, q6⟩ := HP.out.cells
  have HR0 : Hid (Pg w0 lo w0.heap.size p A A' c c') := Lib.hid ((H1.out.below HB.out).mono (Nat.le_refl _) HB.out.size)
  cases hok : p.ok with
  | true =>
    have HOK := Lib.hid hok
    have HC0 : Hid (p.check = 0) := Lib.hid (by unfold Page.check; rw [hok]; rfl)
    clear hok
    go_wp2_with (first
      | (go_at_call 39; refine (HCH.out w0 HR0.out).mono ?_; rw [HC0.out]; rintro e w1 ⟨rfl, hb1⟩; obtain ⟨r0, r1, r2, r3, r4, r5, r6⟩ := PBlk.cells (HP.out.below hb1 HP.out.lt))
      | (go_at_call 62; refine (HBY.out w1 ((HR0.out.below hb1).mono (Nat.le_refl _) hb1.size) (Page.Fine.of_ok HOK.out) (Page.Fine2.of_ok HOK.out)).mono ?_; rintro e w2 ⟨v2, rfl, hO2, hb2⟩))
    go_ret2
    exact ⟨v2, by rw [HC0.out]; rfl, by rw [HOK.out]; exact hO2.mono (Nat.le_trans HB.out.size hb1.size), (HB.out.trans (hb1.mono HB.out.size)).trans (hb2.mono (Nat.le_trans HB.out.size hb1.size))⟩
  | false =>
    have HOK := Lib.hid hok
    have HC0 : Hid (p.check = 101) := Lib.hid (by unfold Page.check; rw [hok]; rfl)
    clear hok
    go_wp2_with (go_at_call 39; refine (HCH.out w0 HR0.out).mono ?_; rw [HC0.out]; rintro e w1 ⟨rfl, hb1⟩)
    go_ret2
    exact ⟨.slice none 0 0, by rw [HC0.out]; rfl, by rw [HOK.out]; exact OwnB.nil _ _, HB.out.trans (hb1.mono HB.out.size)⟩
end Go.Proofs.Ytjbdmaehomhdeaa
