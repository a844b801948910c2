/- awake of layer 10. -/
import Derived.Test.YtjbdmaehomhdeaaE1
namespace Go.Proofs.Ytjbdmaehomhdeaa
open Go.RowKit

theorem Pg.none (w : World) (lo hi : Nat) (p : Page) (h1 : p.items = []) (h2 : p.kids = []) : Pg w lo hi p Option.none Option.none 0 0 := by
  refine ⟨by rw [h1]; exact Rd.nil, by rw [h2]; exact Rd.nil, by rw [h1]; exact Nat.le_refl _, by rw [h2]; exact Nat.le_refl _, by rw [h1]; exact Nat.zero_le _, by rw [h2]; exact Nat.zero_le _⟩

set_option maxRecDepth 100000 in
set_option maxHeartbeats 4000000 in
theorem awake10 (w : World) : Calls Try.prog 8 #[] w fun e w' => e = .returned (.bool true) ∧ Below w.heap.size w w' := by
  go_enter Try.func8, Try.ntmps8
  have hB0 : Below w.heap.size w (w.alloc (.cells #[Value.int IntKind.i64 0, Value.string { data := #[] }, Value.string { data := #[] }, Value.bool true, Value.int IntKind.i64 0, Value.slice none 0 0, Value.slice none 0 0] 27)) := (Below.refl _ _).alloc (Nat.le_refl _) _
  have hP0 : Blk (w.alloc (.cells #[Value.int IntKind.i64 0, Value.string { data := #[] }, Value.string { data := #[] }, Value.bool true, Value.int IntKind.i64 0, Value.slice none 0 0, Value.slice none 0 0] 27)) w.heap.size 27 #[Value.int IntKind.i64 0, Value.string { data := #[] }, Value.string { data := #[] }, Value.bool true, Value.int IntKind.i64 0, Value.slice none 0 0, Value.slice none 0 0] := Blk.new _ _ _
  go_wp2_with fail
  generalize w.alloc (.cells #[Value.int IntKind.i64 0, Value.string { data := #[] }, Value.string { data := #[] }, Value.bool true, Value.int IntKind.i64 0, Value.slice none 0 0, Value.slice none 0 0] 27) = w0 at *
  refine (page_Encode pgA none none 0 0 0 w0 (Pg.none _ _ _ _ rfl rfl)).mono ?_
  rw [show PostE w0 pgA = PostE w0 pgA from rfl]
  rintro e w1 ⟨v1, rfl, hO1, hb1⟩
  rw [pgA_check]
  rw [pgA_ok, cond_true, pgA_bytes] at hO1
  obtain ⟨A1, c1, rfl, _, hR1, _⟩ := OwnB.form (n := 7) hO1 rfl
  have hP1 := hP0.below hb1 hP0.lt
  have hB1 : Below w.heap.size w w1 := hB0.trans (hb1.mono hB0.size)
  obtain ⟨p0, p1, p2, p3, p4, p5, p6⟩ := Blk.cells7 hP1
  have HR1 := Lib.hid hR1
  have HB1 := Lib.hid hB1
  clear hO1 hR1 hP0 hP1 hB0 hB1 hb1
  go_wp2_with fail
  refine (page_Put pgA none none 0 0 0 itA w1 (Pg.none _ _ _ _ rfl rfl) (fun _ _ => by rw [posA]; exact insItem_end [] (by simp))).mono ?_
  rintro e w2 ⟨vi, vk, rfl, hI, hK, hb2⟩
  rw [put_A.1]
  rw [put_A.2] at hI hK ⊢
  obtain ⟨A2, A3, c2, c3, hv, hp2⟩ := PostPE.pg hI hK (by decide) (by decide)
  rw [hv, show pgB.val A2 c2 A3 c3 = .agg #[Value.int IntKind.i64 0, Value.string { data := #[] }, Value.string { data := #[] }, Value.bool true, Value.int IntKind.i64 0, Value.slice A2 1 c2, Value.slice A3 0 c3] from rfl]
  have HB2 : Hid (Below w.heap.size w w2) := Lib.hid (HB1.out.trans (hb2.mono HB1.out.size))
  have HR2 : Hid (Rd byteCell 1 w2 w0.heap.size w1.heap.size A1 [0, 1, 0, 0, 0, 0, 0]) := Lib.hid (HR1.out.below hb2)
  have hq : Blk (w2.alloc (.cells #[Value.int IntKind.i64 0, Value.string { data := #[] }, Value.string { data := #[] }, Value.bool true, Value.int IntKind.i64 0, Value.slice A2 1 c2, Value.slice A3 0 c3] 27)) w2.heap.size 27 #[Value.int IntKind.i64 0, Value.string { data := #[] }, Value.string { data := #[] }, Value.bool true, Value.int IntKind.i64 0, Value.slice A2 1 c2, Value.slice A3 0 c3] := Blk.new _ _ _
  have hb3 : Below w2.heap.size w2 (w2.alloc (.cells #[Value.int IntKind.i64 0, Value.string { data := #[] }, Value.string { data := #[] }, Value.bool true, Value.int IntKind.i64 0, Value.slice A2 1 c2, Value.slice A3 0 c3] 27)) := (Below.refl _ _).alloc (Nat.le_refl _) _
  have hs12 := hb2.size
  clear HB1 HR1 p0 p1 p2 p3 p4 p5 p6 hI hK hv vi vk hb2
  go_wp2_with fail
  generalize w2.alloc (.cells #[Value.int IntKind.i64 0, Value.string { data := #[] }, Value.string { data := #[] }, Value.bool true, Value.int IntKind.i64 0, Value.slice A2 1 c2, Value.slice A3 0 c3] 27) = w3 at *
  have hs23 := hb3.size
  have HP3 : Hid (Pg w3 w1.heap.size w2.heap.size pgB A2 A3 c2 c3) := Lib.hid (hp2.below hb3)
  have HB3 : Hid (Below w.heap.size w w3) := Lib.hid (HB2.out.trans (hb3.mono HB2.out.size))
  have HR3 : Hid (Rd byteCell 1 w3 w0.heap.size w1.heap.size A1 [0, 1, 0, 0, 0, 0, 0]) := Lib.hid (HR2.out.below (hb3.mono hs12))
  have HQ3 := Lib.hid hq
  clear HB2 HR2 hp2 hb3 hq
  refine (page_Find pgB A2 A3 c2 c3 w1.heap.size keyA w3 (HP3.out.mono (Nat.le_refl _) hs23)).mono ?_
  rintro e w4 ⟨rfl, hb4⟩
  have hs34 := hb4.size
  rw [find_A, show ((some itA).getD Item.zero).val = .agg #[Value.string { data := #[97] }, Value.string { data := #[120] }, Value.int IntKind.i64 3, Value.bool false] from rfl, show (some itA).isSome = true from rfl]
  have h5b : Below w3.heap.size w3 (w4.alloc (.cells #[Value.string { data := #[97] }, Value.string { data := #[120] }, Value.int IntKind.i64 3, Value.bool false] 39)) := hb4.trans ((Below.refl _ _).alloc hs34 _)
  have h5i : Blk (w4.alloc (.cells #[Value.string { data := #[97] }, Value.string { data := #[120] }, Value.int IntKind.i64 3, Value.bool false] 39)) w4.heap.size 39 #[Value.string { data := #[97] }, Value.string { data := #[120] }, Value.int IntKind.i64 3, Value.bool false] := Blk.new _ _ _
  obtain ⟨q0, q1, q2, q3, q4, q5, q6⟩ := Blk.cells7 (HQ3.out.below h5b HQ3.out.lt)
  clear hb4
  go_wp2_with fail
  generalize w4.alloc (.cells #[Value.string { data := #[97] }, Value.string { data := #[120] }, Value.int IntKind.i64 3, Value.bool false] 39) = w5 at *
  have hs35 := h5b.size
  have hg4 := h5i.lt
  have HQ5 := Lib.hid (HQ3.out.below h5b HQ3.out.lt)
  have HP5 : Hid (Pg w5 w1.heap.size w2.heap.size pgB A2 A3 c2 c3) := Lib.hid (HP3.out.below (h5b.mono hs23))
  have HB5 : Hid (Below w.heap.size w w5) := Lib.hid (HB3.out.trans (h5b.mono HB3.out.size))
  have HR5 : Hid (Rd byteCell 1 w5 w0.heap.size w1.heap.size A1 [0, 1, 0, 0, 0, 0, 0]) := Lib.hid (HR3.out.below (h5b.mono (Nat.le_trans hs12 hs23)))
  have HI5 := Lib.hid h5i
  clear HQ3 HP3 HB3 HR3 h5b h5i q0 q1 q2 q3 q4 q5 q6
  refine (page_Put pgB A2 A3 c2 c3 w1.heap.size itB w5 (HP5.out.mono (Nat.le_refl _) (by omega)) (fun _ h => by rw [isAtB] at h; cases h)).mono ?_
  rintro e w6 ⟨vi, vk, rfl, hI, hK, hb6⟩
  rw [put_B.1]
  rw [put_B.2] at hI hK ⊢
  obtain ⟨A4, A5, c4, c5, hv, hp6⟩ := PostPE.pg hI hK (by decide) (by decide)
  rw [hv, show pgB.val A4 c4 A5 c5 = .agg #[Value.int IntKind.i64 0, Value.string { data := #[] }, Value.string { data := #[] }, Value.bool true, Value.int IntKind.i64 0, Value.slice A4 1 c4, Value.slice A5 0 c5] from rfl]
  have hs56 := hb6.size
  have h7b : Below w6.heap.size w6 (w6.alloc (.cells #[Value.int IntKind.i64 0, Value.string { data := #[] }, Value.string { data := #[] }, Value.bool true, Value.int IntKind.i64 0, Value.slice A4 1 c4, Value.slice A5 0 c5] 27)) := (Below.refl _ _).alloc (Nat.le_refl _) _
  have h7r : Blk (w6.alloc (.cells #[Value.int IntKind.i64 0, Value.string { data := #[] }, Value.string { data := #[] }, Value.bool true, Value.int IntKind.i64 0, Value.slice A4 1 c4, Value.slice A5 0 c5] 27)) w6.heap.size 27 #[Value.int IntKind.i64 0, Value.string { data := #[] }, Value.string { data := #[] }, Value.bool true, Value.int IntKind.i64 0, Value.slice A4 1 c4, Value.slice A5 0 c5] := Blk.new _ _ _
  have h57 : Below w5.heap.size w5 (w6.alloc (.cells #[Value.int IntKind.i64 0, Value.string { data := #[] }, Value.string { data := #[] }, Value.bool true, Value.int IntKind.i64 0, Value.slice A4 1 c4, Value.slice A5 0 c5] 27)) := hb6.trans (h7b.mono hs56)
  clear hI hK hv vi vk hb6
  go_wp2_with fail
  generalize w6.alloc (.cells #[Value.int IntKind.i64 0, Value.string { data := #[] }, Value.string { data := #[] }, Value.bool true, Value.int IntKind.i64 0, Value.slice A4 1 c4, Value.slice A5 0 c5] 27) = w7 at *
  have hs57 := h57.size
  have hs67 := h7b.size
  refine (page_CheckItem itC w7).mono ?_
  rw [itC_check]
  rintro e w8 ⟨rfl, hb8⟩
  have h58 : Below w5.heap.size w5 w8 := h57.trans (hb8.mono hs57)
  have hs78 := hb8.size
  have HB8 : Hid (Below w.heap.size w w8) := Lib.hid (HB5.out.trans (h58.mono HB5.out.size))
  have HP8 : Hid (Pg w8 w1.heap.size w8.heap.size pgB A2 A3 c2 c3) := Lib.hid ((HP5.out.below (h58.mono (by omega))).mono (Nat.le_refl _) (by omega))
  have HP8' : Hid (Pg w8 w5.heap.size w8.heap.size pgB A4 A5 c4 c5) := Lib.hid (((hp6.below h7b).below (hb8.mono hs67)).mono (Nat.le_refl _) (by omega))
  obtain ⟨q0, q1, q2, q3, q4, q5, q6⟩ := Blk.cells7 (HQ5.out.below h58 HQ5.out.lt)
  obtain ⟨r0, r1, r2, r3, r4, r5, r6⟩ := Blk.cells7 (h7r.below hb8 h7r.lt)
  obtain ⟨i0, i1, i2, i3⟩ := Blk.cells4' (HI5.out.below h58 HI5.out.lt)
  have hcv : (convert 22 9 (.slice A1 7 c1)).run Try.prog w8 = .ok (.string { data := #[0, 1, 0, 0, 0, 0, 0] }) w8 := conv_str (l := [0, 1, 0, 0, 0, 0, 0]) (HR5.out.below (h58.mono (by omega))) rfl (by decide)
  have hsm : Page.same pgB pgB = true := (Page.same_yes rfl).symm
  have HSA : Hid (Calls Try.prog 11 #[.agg #[Value.int IntKind.i64 0, Value.string { data := #[] }, Value.string { data := #[] }, Value.bool true, Value.int IntKind.i64 0, Value.slice A2 1 c2, Value.slice A3 0 c3], .agg #[Value.int IntKind.i64 0, Value.string { data := #[] }, Value.string { data := #[] }, Value.bool true, Value.int IntKind.i64 0, Value.slice A4 1 c4, Value.slice A5 0 c5]] w8 fun e w' => e = .returned (.bool true) ∧ Below w8.heap.size w8 w') := Lib.hid (by
    have h := ref_Same pgB pgB A2 A3 A4 A5 c2 c3 c4 c5 _ _ w8 HP8.out HP8'.out
    rw [hsm] at h
    exact h)
  clear HQ5 HP5 HB5 HR5 HI5 h57 h58 h7b h7r hp6 hb8 hsm HP8 HP8'
  go_wp2_with (go_at_call 11; refine HSA.out.mono ?_; rintro e w9 ⟨rfl, hb9⟩)
  go_ret
  exact ⟨rfl, HB8.out.trans (hb9.mono HB8.out.size)⟩
end Go.Proofs.Ytjbdmaehomhdeaa
