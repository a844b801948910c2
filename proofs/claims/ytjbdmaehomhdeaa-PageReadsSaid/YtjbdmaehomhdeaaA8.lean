import Derived.Test.YtjbdmaehomhdeaaA7
namespace Go.Proofs.Ytjbdmaehomhdeaa
open Go.RowKit

def Page.bounds1 (p : Page) : Bool := decide ((p.low.size : Int) ≤ 16) && decide (p.level ≥ 0) && decide (p.level ≤ 7)
def Page.bounds2 (p : Page) (b : Bool) : Bool := cond b (p.high.toList.isEmpty && p.side == 0) (isKey p.high && lt p.low p.high && isPage p.side)
def Page.boundsB (p : Page) : Bool := p.bounds1 && p.bounds2 p.last
theorem bounds_level {p : Page} (h : p.boundsB = true) : 0 ≤ p.level := by
  unfold Page.boundsB Page.bounds1 at h
  simp only [Bool.and_eq_true, decide_eq_true_eq] at h
  exact h.1.1.2
noncomputable def Page.ok (p : Page) : Bool := p.boundsB && (!(p.level == 0) || p.leafB) && (!decide (p.level > 0) || p.innerB)
/-- the errno of Check -/
noncomputable def Page.check (p : Page) : Int := cond p.ok 0 101

theorem Blk.cells7 {w : World} {g : Nat} {t : TypeId} {a b c d e f h : Value} (k : Blk w g t #[a, b, c, d, e, f, h]) :
    w.cell? ⟨g, 0, none⟩ = some a ∧ w.cell? ⟨g, 1, none⟩ = some b ∧ w.cell? ⟨g, 2, none⟩ = some c ∧ w.cell? ⟨g, 3, none⟩ = some d ∧ w.cell? ⟨g, 4, none⟩ = some e ∧ w.cell? ⟨g, 5, none⟩ = some f ∧ w.cell? ⟨g, 6, none⟩ = some h :=
  ⟨k.cell 0, k.cell 1, k.cell 2, k.cell 3, k.cell 4, k.cell 5, k.cell 6⟩

set_option maxHeartbeats 1000000 in
theorem page_Check (p : Page) (A A' : Option Addr) (c c' lo : Nat) (w : World) (hp : Pg w lo w.heap.size p A A' c c') :
    Calls Try.prog 27 #[p.val A c A' c'] w fun e w' => e = .returned (.int .i64 p.check) ∧ Below w.heap.size w w' := by
  have H1 := Lib.hid hp
  clear hp
  have HLEAF := Lib.hid (fun w1 h => page_leaf p A A' c c' lo w1 h)
  have HINN := Lib.hid (fun w1 h => page_inner p A A' c c' lo w1 h)
  unfold Page.val Page.raw at HLEAF HINN
  unfold Page.val Page.raw
  obtain ⟨ni, hni⟩ : ∃ n, n = p.items.length := ⟨_, rfl⟩
  obtain ⟨nk, hnk⟩ : ∃ n, n = p.kids.length := ⟨_, rfl⟩
  obtain ⟨bl, hbl⟩ : ∃ n, n = p.last := ⟨_, rfl⟩
  obtain ⟨lv, hlv⟩ : ∃ n, n = p.level := ⟨_, rfl⟩
  rw [← hni, ← hnk, ← hbl, ← hlv]
  rw [← hni, ← hnk, ← hbl, ← hlv] at HLEAF HINN
  have HLV := Lib.hid hlv
  have HBB : Hid (p.boundsB = (p.bounds1 && p.bounds2 bl)) := Lib.hid (by unfold Page.boundsB; rw [hbl])
  clear hni hnk hbl hlv
  obtain ⟨b1, hb1⟩ : ∃ b, b = p.bounds1 := ⟨_, rfl⟩
  rw [← hb1] at HBB
  have HB1 := Lib.hid hb1
  clear hb1
  cases bl with
  | false =>
    go_enter Try.func27, Try.ntmps27
    go_upto_region 1 with (fail)
    have hP : Blk (w.alloc (Obj.cells #[Value.int IntKind.i64 lv, Value.string p.low, Value.string p.high, Value.bool false, Value.int IntKind.i64 p.side, Value.slice A ni c, Value.slice A' nk c'] 27)) w.heap.size 27 #[Value.int IntKind.i64 lv, Value.string p.low, Value.string p.high, Value.bool false, Value.int IntKind.i64 p.side, Value.slice A ni c, Value.slice A' nk c'] := Blk.new _ _ _
    have hB : Below w.heap.size w (w.alloc (Obj.cells #[Value.int IntKind.i64 lv, Value.string p.low, Value.string p.high, Value.bool false, Value.int IntKind.i64 p.side, Value.slice A ni c, Value.slice A' nk c'] 27)) := (Below.refl _ _).alloc (Nat.le_refl _) _
    generalize (w.alloc (Obj.cells #[Value.int IntKind.i64 lv, Value.string p.low, Value.string p.high, Value.bool false, Value.int IntKind.i64 p.side, Value.slice A ni c, Value.slice A' nk c'] 27)) = w0 at *
    have HP := Lib.hid hP
    have HB := Lib.hid hB
    clear hP hB
    obtain ⟨q0, q1, q2, q3, q4, q5, q6⟩ := Blk.cells7 HP.out
    have hR0 : Pg w0 lo w0.heap.size p A A' c c' := (H1.out.below HB.out).mono (Nat.le_refl _) HB.out.size
    have HR0 := Lib.hid hR0
    clear hR0
    go_cut [3] (fun v wc => v = .bool b1 ∧ w0 = wc)
    case first =>
      go_wp2
      all_goals go_meet
      all_goals exact ⟨by rw [HB1.out]; unfold Page.bounds1; rw [← HLV.out]; congr 1; grind, rfl⟩
    case rest =>
      obtain ⟨rfl, rfl⟩ := hcut
      go_upto_if 19 with (fail)
      go_cut [3] (fun v wc => v = .bool p.boundsB ∧ w0 = wc)
      case first =>
        cases b1
        all_goals go_wp2_with (first | (go_at_call 53; refine (page_isKey _ _).mono ?_; rintro e w' ⟨rfl, rfl⟩) | (go_at_call 54; refine (page_isPage _ _).mono ?_; rintro e w' ⟨rfl, rfl⟩))
        all_goals go_meet
        all_goals (refine ⟨?_, rfl⟩; rw [HBB.out]; unfold Page.bounds2; simp_all [lt])
      case rest =>
        obtain ⟨rfl, rfl⟩ := hcut
        cases hbd : p.boundsB with
        | false =>
          have HBD := Lib.hid hbd
          clear hbd
          go_wp2
          go_ret
          exact ⟨ret_i64 (by unfold Page.check Page.ok; rw [HBD.out, Bool.false_and, Bool.false_and, cond_false]), HB.out⟩
        | true =>
          have HBD := Lib.hid hbd
          clear hbd
          by_cases h0 : lv = 0
          · subst h0
            have e1 : (p.level == 0) = true := by rw [← HLV.out]; rfl
            have e2 : decide (p.level > 0) = false := by rw [← HLV.out]; rfl
            have HE1 := Lib.hid e1
            have HE2 := Lib.hid e2
            clear e1 e2
            cases hlf : p.leafB
            all_goals
              have HLF := Lib.hid hlf
              clear hlf
              go_wp2_with (go_at_call 55; refine (HLEAF.out w0 HR0.out).mono ?_; rw [HLF.out]; rintro e w1 ⟨rfl, hb1⟩; obtain ⟨r0, r1, r2, r3, r4, r5, r6⟩ := Blk.cells7 (HP.out.below hb1 HP.out.lt))
              go_ret
              exact ⟨ret_i64 (by unfold Page.check Page.ok; rw [HBD.out, HE1.out, HE2.out, HLF.out]; simp), HB.out.trans (hb1.mono HB.out.size)⟩
          · have e1 : (p.level == 0) = false := by rw [← HLV.out]; simpa using h0
            have HE1 := Lib.hid e1
            clear e1
            have h1 : lv > 0 := by
              have h2 := bounds_level HBD.out
              rw [← HLV.out] at h2
              omega
            have e2 : decide (p.level > 0) = true := by rw [← HLV.out]; simpa using h1
            have HE2 := Lib.hid e2
            clear e2
            cases hlf : p.innerB
            all_goals
              have HLF := Lib.hid hlf
              clear hlf
              go_wp2_with (go_at_call 56; refine (HINN.out w0 HR0.out).mono ?_; rw [HLF.out]; rintro e w1 ⟨rfl, hb1⟩)
              go_ret
              exact ⟨ret_i64 (by unfold Page.check Page.ok; rw [HBD.out, HE1.out, HE2.out, HLF.out]; simp), HB.out.trans (hb1.mono HB.out.size)⟩
  | true =>
    go_enter Try.func27, Try.ntmps27
    go_upto_region 1 with (fail)
    have hP : Blk (w.alloc (Obj.cells #[Value.int IntKind.i64 lv, Value.string p.low, Value.string p.high, Value.bool true, Value.int IntKind.i64 p.side, Value.slice A ni c, Value.slice A' nk c'] 27)) w.heap.size 27 #[Value.int IntKind.i64 lv, Value.string p.low, Value.string p.high, Value.bool true, Value.int IntKind.i64 p.side, Value.slice A ni c, Value.slice A' nk c'] := Blk.new _ _ _
    have hB : Below w.heap.size w (w.alloc (Obj.cells #[Value.int IntKind.i64 lv, Value.string p.low, Value.string p.high, Value.bool true, Value.int IntKind.i64 p.side, Value.slice A ni c, Value.slice A' nk c'] 27)) := (Below.refl _ _).alloc (Nat.le_refl _) _
    generalize (w.alloc (Obj.cells #[Value.int IntKind.i64 lv, Value.string p.low, Value.string p.high, Value.bool true, Value.int IntKind.i64 p.side, Value.slice A ni c, Value.slice A' nk c'] 27)) = w0 at *
    have HP := Lib.hid hP
    have HB := Lib.hid hB
    clear hP hB
    obtain ⟨q0, q1, q2, q3, q4, q5, q6⟩ := Blk.cells7 HP.out
    have hR0 : Pg w0 lo w0.heap.size p A A' c c' := (H1.out.below HB.out).mono (Nat.le_refl _) HB.out.size
    have HR0 := Lib.hid hR0
    clear hR0
    go_cut [3] (fun v wc => v = .bool b1 ∧ w0 = wc)
    case first =>
      go_wp2
      all_goals go_meet
      all_goals exact ⟨by rw [HB1.out]; unfold Page.bounds1; rw [← HLV.out]; congr 1; grind, rfl⟩
    case rest =>
      obtain ⟨rfl, rfl⟩ := hcut
      go_upto_if 19 with (fail)
      go_cut [3] (fun v wc => v = .bool p.boundsB ∧ w0 = wc)
      case first =>
        cases b1
        all_goals go_wp2_with (first | (go_at_call 53; refine (page_isKey _ _).mono ?_; rintro e w' ⟨rfl, rfl⟩) | (go_at_call 54; refine (page_isPage _ _).mono ?_; rintro e w' ⟨rfl, rfl⟩))
        all_goals go_meet
        all_goals (refine ⟨?_, rfl⟩; rw [HBB.out]; unfold Page.bounds2; simp_all [lt])
      case rest =>
        obtain ⟨rfl, rfl⟩ := hcut
        cases hbd : p.boundsB with
        | false =>
          have HBD := Lib.hid hbd
          clear hbd
          go_wp2
          go_ret
          exact ⟨ret_i64 (by unfold Page.check Page.ok; rw [HBD.out, Bool.false_and, Bool.false_and, cond_false]), HB.out⟩
        | true =>
          have HBD := Lib.hid hbd
          clear hbd
          by_cases h0 : lv = 0
          · subst h0
            have e1 : (p.level == 0) = true := by rw [← HLV.out]; rfl
            have e2 : decide (p.level > 0) = false := by rw [← HLV.out]; rfl
            have HE1 := Lib.hid e1
            have HE2 := Lib.hid e2
            clear e1 e2
            cases hlf : p.leafB
            all_goals
              have HLF := Lib.hid hlf
              clear hlf
              go_wp2_with (go_at_call 55; refine (HLEAF.out w0 HR0.out).mono ?_; rw [HLF.out]; rintro e w1 ⟨rfl, hb1⟩; obtain ⟨r0, r1, r2, r3, r4, r5, r6⟩ := Blk.cells7 (HP.out.below hb1 HP.out.lt))
              go_ret
              exact ⟨ret_i64 (by unfold Page.check Page.ok; rw [HBD.out, HE1.out, HE2.out, HLF.out]; simp), HB.out.trans (hb1.mono HB.out.size)⟩
          · have e1 : (p.level == 0) = false := by rw [← HLV.out]; simpa using h0
            have HE1 := Lib.hid e1
            clear e1
            have h1 : lv > 0 := by
              have h2 := bounds_level HBD.out
              rw [← HLV.out] at h2
              omega
            have e2 : decide (p.level > 0) = true := by rw [← HLV.out]; simpa using h1
            have HE2 := Lib.hid e2
            clear e2
            cases hlf : p.innerB
            all_goals
              have HLF := Lib.hid hlf
              clear hlf
              go_wp2_with (go_at_call 56; refine (HINN.out w0 HR0.out).mono ?_; rw [HLF.out]; rintro e w1 ⟨rfl, hb1⟩)
              go_ret
              exact ⟨ret_i64 (by unfold Page.check Page.ok; rw [HBD.out, HE1.out, HE2.out, HLF.out]; simp), HB.out.trans (hb1.mono HB.out.size)⟩
end Go.Proofs.Ytjbdmaehomhdeaa
