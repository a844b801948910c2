/- The reference's may, Check, Encode. -/
import Derived.Test.YtjbdmaehomhdeaaR3
import Derived.Test.YtjbdmaehomhdeaaR4
import Derived.Test.YtjbdmaehomhdeaaR5
import Derived.Test.YtjbdmaehomhdeaaB5
namespace Go.Proofs.Ytjbdmaehomhdeaa
open Go.RowKit

theorem bytesLess_flip : ∀ x y : List UInt8, Op.bytesLess x y = !(Op.bytesLess y x || (y == x))
  | [], [] => by simp [Op.bytesLess]
  | [], b :: y => by simp [Op.bytesLess]
  | a :: x, [] => by simp [Op.bytesLess]
  | a :: x, b :: y => by
    have ih := bytesLess_flip x y
    by_cases h : a = b
    · subst h
      simp [Op.bytesLess, ih]
    · have h' : ¬ b = a := fun e => h e.symm
      rcases Nat.lt_trichotomy a.toNat b.toNat with h1 | h1 | h1
      · have h2 : a < b := UInt8.lt_iff_toNat_lt.2 h1
        have h3 : ¬ b < a := fun e => by have := UInt8.lt_iff_toNat_lt.1 e; omega
        simp [Op.bytesLess, h', h2, h3]
      · exact absurd (UInt8.toNat_inj.1 h1) h
      · have h2 : b < a := UInt8.lt_iff_toNat_lt.2 h1
        have h3 : ¬ a < b := fun e => by have := UInt8.lt_iff_toNat_lt.1 e; omega
        simp [Op.bytesLess, h, h2, h3]

set_option maxRecDepth 100000 in
set_option maxHeartbeats 4000000 in
theorem ref_may (p : Page) (A A' : Option Addr) (c c' lo : Nat) (w : World) (hp : Pg w lo w.heap.size p A A' c c') :
    Calls Try.prog 68 #[p.val A c A' c'] w fun e w' => e = .returned (.bool p.ok) ∧ Below w.heap.size w w' := by
  have H1 := Lib.hid hp
  clear hp
  have HLEAF := Lib.hid (fun w1 h => ref_leaf p A A' c c' lo w1 h)
  have HINN := Lib.hid (fun w1 h => ref_inner p A A' c c' lo w1 h)
  unfold Page.val Page.raw at HLEAF HINN
  unfold Page.val Page.raw
  obtain ⟨ni, hni⟩ : ∃ n, n = p.items.length := ⟨_, rfl⟩
  obtain ⟨nk, hnk⟩ : ∃ n, n = p.kids.length := ⟨_, rfl⟩
  obtain ⟨bl, hbl⟩ : ∃ n, n = p.last := ⟨_, rfl⟩
  obtain ⟨lv, hlv⟩ : ∃ n, n = p.level := ⟨_, rfl⟩
  rw [← hni, ← hnk, ← hbl, ← hlv]
  rw [← hni, ← hnk, ← hbl, ← hlv] at HLEAF HINN
  have HLV := Lib.hid hlv
  have HBB : Hid (p.boundsB = (p.bounds1 && p.bounds2 bl)) := Lib.hid (by unfold Page.boundsB; rw [hbl])
  clear hni hnk hbl hlv
  cases bl with
  | false =>
    go_enter Try.func68, Try.ntmps68
    go_upto_region 1 with (fail)
    have hP : Blk (w.alloc (Obj.cells #[Value.int IntKind.i64 lv, Value.string p.low, Value.string p.high, Value.bool false, Value.int IntKind.i64 p.side, Value.slice A ni c, Value.slice A' nk c'] 27)) w.heap.size 27 #[Value.int IntKind.i64 lv, Value.string p.low, Value.string p.high, Value.bool false, Value.int IntKind.i64 p.side, Value.slice A ni c, Value.slice A' nk c'] := Blk.new _ _ _
    have hB : Below w.heap.size w (w.alloc (Obj.cells #[Value.int IntKind.i64 lv, Value.string p.low, Value.string p.high, Value.bool false, Value.int IntKind.i64 p.side, Value.slice A ni c, Value.slice A' nk c'] 27)) := (Below.refl _ _).alloc (Nat.le_refl _) _
    generalize (w.alloc (Obj.cells #[Value.int IntKind.i64 lv, Value.string p.low, Value.string p.high, Value.bool false, Value.int IntKind.i64 p.side, Value.slice A ni c, Value.slice A' nk c'] 27)) = w0 at *
    have HB := Lib.hid hB
    obtain ⟨q0, q1, q2, q3, q4, q5, q6⟩ := Blk.cells7 hP
    have HR0 : Hid (Pg w0 lo w0.heap.size p A A' c c') := Lib.hid ((H1.out.below hB).mono (Nat.le_refl _) hB.size)
    clear hP hB
    by_cases a1 : lv < 0
    · have HX : Hid (p.bounds1 = false) := Lib.hid (by unfold Page.bounds1; rw [← HLV.out, decide_eq_false (by omega : ¬ lv ≥ 0)]; simp)
      go_wp2
      go_ret
      exact ⟨ret_bool (by unfold Page.ok; rw [HBB.out, HX.out]; simp), HB.out⟩
    · by_cases a2 : lv > 7
      · have HX : Hid (p.bounds1 = false) := Lib.hid (by unfold Page.bounds1; rw [← HLV.out, decide_eq_false (by omega : ¬ lv ≤ 7)]; simp)
        go_wp2
        go_ret
        exact ⟨ret_bool (by unfold Page.ok; rw [HBB.out, HX.out]; simp), HB.out⟩
      · by_cases a3 : (p.low.size : Int) > 16
        · have HX : Hid (p.bounds1 = false) := Lib.hid (by unfold Page.bounds1; rw [decide_eq_false (by omega : ¬ (p.low.size : Int) ≤ 16)]; simp)
          go_wp2
          go_ret
          exact ⟨ret_bool (by unfold Page.ok; rw [HBB.out, HX.out]; simp), HB.out⟩
        · have HX : Hid (p.bounds1 = true) := Lib.hid (by unfold Page.bounds1; rw [← HLV.out, decide_eq_true (by omega : (p.low.size : Int) ≤ 16), decide_eq_true (by omega : lv ≥ 0), decide_eq_true (by omega : lv ≤ 7)]; rfl)
          cases hk : isKey p.high with
          | false =>
            have HY : Hid (p.bounds2 false = false) := Lib.hid (by unfold Page.bounds2; rw [hk]; rfl)
            go_wp2_with (first | (go_at_call 41; refine (ref_number _ _).mono ?_; rintro e w' ⟨rfl, rfl⟩) | (go_at_call 40; refine (ref_key _ _).mono ?_; rintro e w' ⟨rfl, rfl⟩))
            all_goals go_ret
            all_goals exact ⟨ret_bool (by unfold Page.ok; rw [HBB.out, HX.out, HY.out]; simp), HB.out⟩
          | true =>
            cases hl : lt p.low p.high with
            | false =>
              have HY : Hid (p.bounds2 false = false) := Lib.hid (by unfold Page.bounds2; rw [hl]; simp)
              unfold lt at hl
              rw [bytesLess_flip] at hl
              cases hf1 : Op.bytesLess p.high.toList p.low.toList <;> cases hf2 : (p.high.toList == p.low.toList) <;> rw [hf1, hf2] at hl <;> try cases hl
              go_wp2_with (first | (go_at_call 41; refine (ref_number _ _).mono ?_; rintro e w' ⟨rfl, rfl⟩) | (go_at_call 40; refine (ref_key _ _).mono ?_; rintro e w' ⟨rfl, rfl⟩))
              all_goals go_ret
              all_goals exact ⟨ret_bool (by unfold Page.ok; rw [HBB.out, HX.out, HY.out]; simp), HB.out⟩
            | true =>
              cases hs : isPage p.side with
              | false =>
                have HY : Hid (p.bounds2 false = false) := Lib.hid (by unfold Page.bounds2; rw [hs]; simp)
                unfold lt at hl
                rw [bytesLess_flip] at hl
                cases hf1 : Op.bytesLess p.high.toList p.low.toList <;> cases hf2 : (p.high.toList == p.low.toList) <;> rw [hf1, hf2] at hl <;> try cases hl
                go_wp2_with (first | (go_at_call 41; refine (ref_number _ _).mono ?_; rintro e w' ⟨rfl, rfl⟩) | (go_at_call 40; refine (ref_key _ _).mono ?_; rintro e w' ⟨rfl, rfl⟩))
                all_goals go_ret
                all_goals exact ⟨ret_bool (by unfold Page.ok; rw [HBB.out, HX.out, HY.out]; simp), HB.out⟩
              | true =>
                have HY : Hid (p.bounds2 false = true) := Lib.hid (by unfold Page.bounds2; rw [hk, hl, hs]; rfl)
                unfold lt at hl
                rw [bytesLess_flip] at hl
                cases hf1 : Op.bytesLess p.high.toList p.low.toList <;> cases hf2 : (p.high.toList == p.low.toList) <;> rw [hf1, hf2] at hl <;> try cases hl
                have HBT : Hid (p.boundsB = true) := Lib.hid (by rw [HBB.out, HX.out, HY.out]; rfl)
                by_cases h0 : lv = 0
                · subst h0
                  have e1 : (p.level == 0) = true := by rw [← HLV.out]; rfl
                  have e2 : decide (p.level > 0) = false := by rw [← HLV.out]; rfl
                  have HE1 := Lib.hid e1
                  have HE2 := Lib.hid e2
                  clear e1 e2
                  go_wp2_with (first | (go_at_call 41; refine (ref_number _ _).mono ?_; rintro e w' ⟨rfl, rfl⟩) | (go_at_call 40; refine (ref_key _ _).mono ?_; rintro e w' ⟨rfl, rfl⟩) | (go_at_call 87; refine (HLEAF.out w0 HR0.out).mono ?_; rintro e w1 ⟨rfl, hb1⟩))
                  all_goals go_ret
                  all_goals exact ⟨ret_bool (by unfold Page.ok; rw [HBT.out, HE1.out, HE2.out]; simp), HB.out.trans (hb1.mono HB.out.size)⟩
                · have h1 : lv > 0 := by omega
                  have e1 : (p.level == 0) = false := by rw [← HLV.out]; simpa using h0
                  have e2 : decide (p.level > 0) = true := by rw [← HLV.out]; simpa using h1
                  have HE1 := Lib.hid e1
                  have HE2 := Lib.hid e2
                  clear e1 e2
                  go_wp2_with (first | (go_at_call 41; refine (ref_number _ _).mono ?_; rintro e w' ⟨rfl, rfl⟩) | (go_at_call 40; refine (ref_key _ _).mono ?_; rintro e w' ⟨rfl, rfl⟩) | (go_at_call 88; refine (HINN.out w0 HR0.out).mono ?_; rintro e w1 ⟨rfl, hb1⟩))
                  all_goals go_ret
                  all_goals exact ⟨ret_bool (by unfold Page.ok; rw [HBT.out, HE1.out, HE2.out]; simp), HB.out.trans (hb1.mono HB.out.size)⟩
  | true =>
    go_enter Try.func68, Try.ntmps68
    go_upto_region 1 with (fail)
    have hP : Blk (w.alloc (Obj.cells #[Value.int IntKind.i64 lv, Value.string p.low, Value.string p.high, Value.bool true, Value.int IntKind.i64 p.side, Value.slice A ni c, Value.slice A' nk c'] 27)) w.heap.size 27 #[Value.int IntKind.i64 lv, Value.string p.low, Value.string p.high, Value.bool true, Value.int IntKind.i64 p.side, Value.slice A ni c, Value.slice A' nk c'] := Blk.new _ _ _
    have hB : Below w.heap.size w (w.alloc (Obj.cells #[Value.int IntKind.i64 lv, Value.string p.low, Value.string p.high, Value.bool true, Value.int IntKind.i64 p.side, Value.slice A ni c, Value.slice A' nk c'] 27)) := (Below.refl _ _).alloc (Nat.le_refl _) _
    generalize (w.alloc (Obj.cells #[Value.int IntKind.i64 lv, Value.string p.low, Value.string p.high, Value.bool true, Value.int IntKind.i64 p.side, Value.slice A ni c, Value.slice A' nk c'] 27)) = w0 at *
    have HB := Lib.hid hB
    obtain ⟨q0, q1, q2, q3, q4, q5, q6⟩ := Blk.cells7 hP
    have HR0 : Hid (Pg w0 lo w0.heap.size p A A' c c') := Lib.hid ((H1.out.below hB).mono (Nat.le_refl _) hB.size)
    clear hP hB
    by_cases a1 : lv < 0
    · have HX : Hid (p.bounds1 = false) := Lib.hid (by unfold Page.bounds1; rw [← HLV.out, decide_eq_false (by omega : ¬ lv ≥ 0)]; simp)
      go_wp2
      go_ret
      exact ⟨ret_bool (by unfold Page.ok; rw [HBB.out, HX.out]; simp), HB.out⟩
    · by_cases a2 : lv > 7
      · have HX : Hid (p.bounds1 = false) := Lib.hid (by unfold Page.bounds1; rw [← HLV.out, decide_eq_false (by omega : ¬ lv ≤ 7)]; simp)
        go_wp2
        go_ret
        exact ⟨ret_bool (by unfold Page.ok; rw [HBB.out, HX.out]; simp), HB.out⟩
      · by_cases a3 : (p.low.size : Int) > 16
        · have HX : Hid (p.bounds1 = false) := Lib.hid (by unfold Page.bounds1; rw [decide_eq_false (by omega : ¬ (p.low.size : Int) ≤ 16)]; simp)
          go_wp2
          go_ret
          exact ⟨ret_bool (by unfold Page.ok; rw [HBB.out, HX.out]; simp), HB.out⟩
        · have HX : Hid (p.bounds1 = true) := Lib.hid (by unfold Page.bounds1; rw [← HLV.out, decide_eq_true (by omega : (p.low.size : Int) ≤ 16), decide_eq_true (by omega : lv ≥ 0), decide_eq_true (by omega : lv ≤ 7)]; rfl)
          cases he : p.high.toList.isEmpty with
          | false =>
            have HY : Hid (p.bounds2 true = false) := Lib.hid (by unfold Page.bounds2; rw [he]; rfl)
            go_wp2_with (first | (go_at_call 41; refine (ref_number _ _).mono ?_; rintro e w' ⟨rfl, rfl⟩) | (go_at_call 40; refine (ref_key _ _).mono ?_; rintro e w' ⟨rfl, rfl⟩))
            all_goals go_ret
            all_goals exact ⟨ret_bool (by unfold Page.ok; rw [HBB.out, HX.out, HY.out]; simp), HB.out⟩
          | true =>
            by_cases hs : p.side = 0
            · have HY : Hid (p.bounds2 true = true) := Lib.hid (by unfold Page.bounds2; rw [he, hs]; rfl)
              have HBT : Hid (p.boundsB = true) := Lib.hid (by rw [HBB.out, HX.out, HY.out]; rfl)
              have hs2 : (p.side != 0) = false := by rw [hs]; rfl
              clear hs
              by_cases h0 : lv = 0
              · subst h0
                have e1 : (p.level == 0) = true := by rw [← HLV.out]; rfl
                have e2 : decide (p.level > 0) = false := by rw [← HLV.out]; rfl
                have HE1 := Lib.hid e1
                have HE2 := Lib.hid e2
                clear e1 e2
                go_wp2_with (first | (go_at_call 41; refine (ref_number _ _).mono ?_; rintro e w' ⟨rfl, rfl⟩) | (go_at_call 40; refine (ref_key _ _).mono ?_; rintro e w' ⟨rfl, rfl⟩) | (go_at_call 87; refine (HLEAF.out w0 HR0.out).mono ?_; rintro e w1 ⟨rfl, hb1⟩))
                all_goals go_ret
                all_goals exact ⟨ret_bool (by unfold Page.ok; rw [HBT.out, HE1.out, HE2.out]; simp), HB.out.trans (hb1.mono HB.out.size)⟩
              · have h1 : lv > 0 := by omega
                have e1 : (p.level == 0) = false := by rw [← HLV.out]; simpa using h0
                have e2 : decide (p.level > 0) = true := by rw [← HLV.out]; simpa using h1
                have HE1 := Lib.hid e1
                have HE2 := Lib.hid e2
                clear e1 e2
                go_wp2_with (first | (go_at_call 41; refine (ref_number _ _).mono ?_; rintro e w' ⟨rfl, rfl⟩) | (go_at_call 40; refine (ref_key _ _).mono ?_; rintro e w' ⟨rfl, rfl⟩) | (go_at_call 88; refine (HINN.out w0 HR0.out).mono ?_; rintro e w1 ⟨rfl, hb1⟩))
                all_goals go_ret
                all_goals exact ⟨ret_bool (by unfold Page.ok; rw [HBT.out, HE1.out, HE2.out]; simp), HB.out.trans (hb1.mono HB.out.size)⟩
            · have HY : Hid (p.bounds2 true = false) := Lib.hid (by unfold Page.bounds2; rw [he]; simpa using hs)
              go_wp2_with (first | (go_at_call 41; refine (ref_number _ _).mono ?_; rintro e w' ⟨rfl, rfl⟩) | (go_at_call 40; refine (ref_key _ _).mono ?_; rintro e w' ⟨rfl, rfl⟩))
              all_goals go_ret
              all_goals exact ⟨ret_bool (by unfold Page.ok; rw [HBB.out, HX.out, HY.out]; simp), HB.out⟩
end Go.Proofs.Ytjbdmaehomhdeaa
