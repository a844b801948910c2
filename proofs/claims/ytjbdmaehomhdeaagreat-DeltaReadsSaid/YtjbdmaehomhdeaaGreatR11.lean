/- The reference's Decode. -/
import Derived.Test.YtjbdmaehomhdeaaGreatR10
import Derived.Test.YtjbdmaehomhdeaaGreatZS
import Derived.Test.YtjbdmaehomhdeaaGreatZM
set_option linter.unusedSimpArgs false
set_option linter.unusedVariables false
namespace Go.Proofs.YtjbdmaehomhdeaaGreat
open Go.RowKit

set_option maxRecDepth 100000 in
set_option maxHeartbeats 4000000 in
theorem ref_Decode (lo c : Nat) (A : Option Addr) (bs : List Nat) (w : World) (hr : Rd byteCell 1 w lo w.heap.size A bs) (hc : bs.length ≤ c) (hb : ∀ b ∈ bs, b < 256) (hl : bs.length ≤ 140737488351232) :
    Calls Tryz.prog 54 #[.slice A bs.length c] w (PostD w bs) := by
  have HR := Lib.hid hr
  have HC := Lib.hid hc
  have HS := Lib.hid hb
  have HL := Lib.hid hl
  clear hr hc hb hl
  have HTL := Lib.hid (fun w1 h => ref_told lo c A bs w1 h HC.out HS.out HL.out)
  obtain ⟨nb, hnb⟩ : ∃ n, n = bs.length := ⟨_, rfl⟩
  rw [← hnb]
  rw [← hnb] at HTL
  have HNB := Lib.hid hnb
  clear hnb
  go_enter Tryz.func54, Tryz.ntmps54
  have hR : Blk (w.alloc (.cells #[Value.int IntKind.i64 0, Value.string { data := #[] }, Value.string { data := #[] }, Value.bool false, Value.int IntKind.i64 0, Value.slice none 0 0, Value.slice none 0 0] 27)) w.heap.size 27 #[Value.int IntKind.i64 0, Value.string { data := #[] }, Value.string { data := #[] }, Value.bool false, Value.int IntKind.i64 0, Value.slice none 0 0, Value.slice none 0 0] := Blk.new _ _ _
  have hB : Below w.heap.size w (w.alloc (.cells #[Value.int IntKind.i64 0, Value.string { data := #[] }, Value.string { data := #[] }, Value.bool false, Value.int IntKind.i64 0, Value.slice none 0 0, Value.slice none 0 0] 27)) := (Below.refl _ _).alloc (Nat.le_refl _) _
  have HRS := Lib.hid hR
  have HB := Lib.hid hB
  clear hR hB
  go_wp2_with fail
  generalize w.alloc (.cells #[Value.int IntKind.i64 0, Value.string { data := #[] }, Value.string { data := #[] }, Value.bool false, Value.int IntKind.i64 0, Value.slice none 0 0, Value.slice none 0 0] 27) = w1 at *
  have hr1 : Rd byteCell 1 w1 lo w1.heap.size A bs := (HR.out.below HB.out).mono (Nat.le_refl _) HB.out.size
  refine (HTL.out w1 hr1).mono ?_
  rintro e w2 ⟨A1, A2, c1, c2, rfl, hP2, hB2⟩
  obtain ⟨p, hp⟩ : ∃ p, p = told bs := ⟨_, rfl⟩
  rw [← hp] at hP2
  rw [← hp]
  have HP := Lib.hid hp
  have HP2 := Lib.hid hP2
  have HB2 := Lib.hid hB2
  clear hp hP2 hB2 hr1
  have HEN := Lib.hid (fun w3 lo h => ref_Encode p A1 A2 c1 c2 lo w3 h)
  obtain ⟨ni, hni⟩ : ∃ n, n = p.items.length := ⟨_, rfl⟩
  obtain ⟨nk, hnk⟩ : ∃ n, n = p.kids.length := ⟨_, rfl⟩
  have HV : Hid (p.val A1 c1 A2 c2 = .agg #[Value.int IntKind.i64 p.level, Value.string p.low, Value.string p.high, Value.bool p.last, Value.int IntKind.i64 p.side, Value.slice A1 ni c1, Value.slice A2 nk c2]) := Lib.hid (by unfold Page.val Page.raw; rw [← hni, ← hnk])
  rw [HV.out]
  rw [HV.out] at HEN
  clear hni hnk
  go_wp2_with fail
  have hG3 : Blk (w2.alloc (.cells #[Value.int IntKind.i64 p.level, Value.string p.low, Value.string p.high, Value.bool p.last, Value.int IntKind.i64 p.side, Value.slice A1 ni c1, Value.slice A2 nk c2] 27)) w2.heap.size 27 #[Value.int IntKind.i64 p.level, Value.string p.low, Value.string p.high, Value.bool p.last, Value.int IntKind.i64 p.side, Value.slice A1 ni c1, Value.slice A2 nk c2] := Blk.new _ _ _
  have hb3 : Below w2.heap.size w2 (w2.alloc (.cells #[Value.int IntKind.i64 p.level, Value.string p.low, Value.string p.high, Value.bool p.last, Value.int IntKind.i64 p.side, Value.slice A1 ni c1, Value.slice A2 nk c2] 27)) := (Below.refl _ _).alloc (Nat.le_refl _) _
  generalize w2.alloc (.cells #[Value.int IntKind.i64 p.level, Value.string p.low, Value.string p.high, Value.bool p.last, Value.int IntKind.i64 p.side, Value.slice A1 ni c1, Value.slice A2 nk c2] 27) = w3 at *
  have hs1 := HB.out.size
  have hs2 := HB2.out.size
  have hs3 := hb3.size
  have hl1 := HRS.out.lt
  have HP3 : Hid (Pg w3 (w.heap.size + 1) w3.heap.size p A1 A2 c1 c2) := Lib.hid ((HP2.out.below hb3).mono (by omega) hs3)
  have HB3 : Hid (Below w.heap.size w w3) := Lib.hid (HB.out.trans ((HB2.out.trans (hb3.mono hs2)).mono hs1))
  have HR3 : Hid (Blk w3 w.heap.size 27 #[Value.int IntKind.i64 0, Value.string { data := #[] }, Value.string { data := #[] }, Value.bool false, Value.int IntKind.i64 0, Value.slice none 0 0, Value.slice none 0 0]) := Lib.hid ((HRS.out.below HB2.out hl1).below hb3 (by omega))
  have HG3 := Lib.hid hG3
  refine (HEN.out w3 _ HP3.out).mono ?_
  rintro e w4 ⟨v4, rfl, hO4, hB4⟩
  have HO4 := Lib.hid hO4
  have HB34 := Lib.hid hB4
  have HB4 : Hid (Below w.heap.size w w4) := Lib.hid (HB3.out.trans (hB4.mono HB3.out.size))
  have HR4 : Hid (Blk w4 w.heap.size 27 #[Value.int IntKind.i64 0, Value.string { data := #[] }, Value.string { data := #[] }, Value.bool false, Value.int IntKind.i64 0, Value.slice none 0 0, Value.slice none 0 0]) := Lib.hid (HR3.out.below hB4 HR3.out.lt)
  have HG4 : Hid (Blk w4 w2.heap.size 27 #[Value.int IntKind.i64 p.level, Value.string p.low, Value.string p.high, Value.bool p.last, Value.int IntKind.i64 p.side, Value.slice A1 ni c1, Value.slice A2 nk c2]) := Lib.hid (HG3.out.below hB4 HG3.out.lt)
  have HFM : Hid (Page.form bs = (p.ok && decide (p.bytes = bs))) := Lib.hid (by unfold Page.form; rw [HP.out])
  clear hG3 hb3 hO4 hB4 hs1 hs2 hs3 hl1
  cases hok : p.ok with
  | false =>
    have HC0 : Hid (p.check = 101) := Lib.hid (by unfold Page.check; rw [hok]; rfl)
    have HQF : Hid (Page.form bs = false) := Lib.hid (by rw [HFM.out, hok]; rfl)
    clear hok
    rw [HC0.out]
    have HE : Hid (Blk (((((((w4.setCell ⟨w.heap.size, 0, none⟩ (Value.int IntKind.i64 0)).setCell ⟨w.heap.size, 1, none⟩ (Value.string { data := #[] })).setCell ⟨w.heap.size, 2, none⟩ (Value.string { data := #[] })).setCell ⟨w.heap.size, 3, none⟩ (Value.bool false)).setCell ⟨w.heap.size, 4, none⟩ (Value.int IntKind.i64 0)).setCell ⟨w.heap.size, 5, none⟩ (Value.slice none 0 0)).setCell ⟨w.heap.size, 6, none⟩ (Value.slice none 0 0)) w.heap.size 27 #[Value.int IntKind.i64 0, Value.string { data := #[] }, Value.string { data := #[] }, Value.bool false, Value.int IntKind.i64 0, Value.slice none 0 0, Value.slice none 0 0]) := Lib.hid (((((((HR4.out.set_ 0 (Value.int IntKind.i64 0)).set_ 1 (Value.string { data := #[] })).set_ 2 (Value.string { data := #[] })).set_ 3 (Value.bool false)).set_ 4 (Value.int IntKind.i64 0)).set_ 5 (Value.slice none 0 0)).set_ 6 (Value.slice none 0 0))
    have HBE : Hid (Below w.heap.size w (((((((w4.setCell ⟨w.heap.size, 0, none⟩ (Value.int IntKind.i64 0)).setCell ⟨w.heap.size, 1, none⟩ (Value.string { data := #[] })).setCell ⟨w.heap.size, 2, none⟩ (Value.string { data := #[] })).setCell ⟨w.heap.size, 3, none⟩ (Value.bool false)).setCell ⟨w.heap.size, 4, none⟩ (Value.int IntKind.i64 0)).setCell ⟨w.heap.size, 5, none⟩ (Value.slice none 0 0)).setCell ⟨w.heap.size, 6, none⟩ (Value.slice none 0 0))) := Lib.hid (((((((HB4.out.setCell (p := ⟨w.heap.size, 0, none⟩) (Nat.le_refl _) (Value.int IntKind.i64 0)).setCell (p := ⟨w.heap.size, 1, none⟩) (Nat.le_refl _) (Value.string { data := #[] })).setCell (p := ⟨w.heap.size, 2, none⟩) (Nat.le_refl _) (Value.string { data := #[] })).setCell (p := ⟨w.heap.size, 3, none⟩) (Nat.le_refl _) (Value.bool false)).setCell (p := ⟨w.heap.size, 4, none⟩) (Nat.le_refl _) (Value.int IntKind.i64 0)).setCell (p := ⟨w.heap.size, 5, none⟩) (Nat.le_refl _) (Value.slice none 0 0)).setCell (p := ⟨w.heap.size, 6, none⟩) (Nat.le_refl _) (Value.slice none 0 0))
    obtain ⟨z0, z1, z2, z3, z4, z5, z6⟩ := Blk.cells7 HR4.out
    have hfz : ∀ i, w4.frozen? ⟨w.heap.size, i, none⟩ = false := HR4.out.frozen
    go_wp2
    generalize (((((((w4.setCell ⟨w.heap.size, 0, none⟩ (Value.int IntKind.i64 0)).setCell ⟨w.heap.size, 1, none⟩ (Value.string { data := #[] })).setCell ⟨w.heap.size, 2, none⟩ (Value.string { data := #[] })).setCell ⟨w.heap.size, 3, none⟩ (Value.bool false)).setCell ⟨w.heap.size, 4, none⟩ (Value.int IntKind.i64 0)).setCell ⟨w.heap.size, 5, none⟩ (Value.slice none 0 0)).setCell ⟨w.heap.size, 6, none⟩ (Value.slice none 0 0)) = wE at *
    obtain ⟨e0, e1, e2, e3, e4, e5, e6⟩ := Blk.cells7 HE.out
    exact bodyPost_ret (v := .tuple #[.agg #[Value.int IntKind.i64 0, Value.string { data := #[] }, Value.string { data := #[] }, Value.bool false, Value.int IntKind.i64 0, Value.slice none 0 0, Value.slice none 0 0], .int .i64 102]) (by simp [results, Tryz.results54, go_sem, e0, e1, e2, e3, e4, e5, e6]) rfl (decode_none w wE bs HQF.out HBE.out)
  | true =>
    have HC0 : Hid (p.check = 0) := Lib.hid (by unfold Page.check; rw [hok]; rfl)
    have HOK := Lib.hid hok
    rw [hok] at HO4
    clear hok
    rw [HC0.out]
    obtain ⟨n4, hn4⟩ : ∃ n, p.bytes.length = n := ⟨_, rfl⟩
    obtain ⟨A4, c4, rfl, _, hR4, _⟩ := OwnB.form HO4.out hn4
    have hcv1 : (convert 32 9 (.slice A4 n4 c4)).run Tryz.prog w4 = .ok (.string (strOf p.bytes)) w4 := conv_str hR4 hn4 (Page.bytes_small p)
    have hcv2 : (convert 32 9 (.slice A nb c)).run Tryz.prog w4 = .ok (.string (strOf bs)) w4 := conv_str (HR.out.below HB4.out) HNB.out.symm HS.out
    have hnq := neqB_eq (Page.bytes_small p) HS.out
    unfold neqB at hnq
    obtain ⟨s1, hs1⟩ : ∃ s, s = strOf p.bytes := ⟨_, rfl⟩
    obtain ⟨s2, hs2⟩ : ∃ s, s = strOf bs := ⟨_, rfl⟩
    rw [← hs1] at hcv1 hnq
    rw [← hs2] at hcv2 hnq
    clear hR4 hn4 hs1 hs2
    by_cases hq : p.bytes = bs
    · have HQF : Hid (Page.form bs = true) := Lib.hid (by rw [HFM.out, HOK.out]; simpa using hq)
      rw [decide_eq_true hq] at hnq
      clear hq
      have hnq2 : (s1.toList == s2.toList) = true := by simpa using hnq
      have hnq3 : (s1.toList != s2.toList) = false := by simpa using hnq
      clear hnq
      have HE : Hid (Blk (((((((w4.setCell ⟨w.heap.size, 0, none⟩ (Value.int IntKind.i64 p.level)).setCell ⟨w.heap.size, 1, none⟩ (Value.string p.low)).setCell ⟨w.heap.size, 2, none⟩ (Value.string p.high)).setCell ⟨w.heap.size, 3, none⟩ (Value.bool p.last)).setCell ⟨w.heap.size, 4, none⟩ (Value.int IntKind.i64 p.side)).setCell ⟨w.heap.size, 5, none⟩ (Value.slice A1 ni c1)).setCell ⟨w.heap.size, 6, none⟩ (Value.slice A2 nk c2)) w.heap.size 27 #[Value.int IntKind.i64 p.level, Value.string p.low, Value.string p.high, Value.bool p.last, Value.int IntKind.i64 p.side, Value.slice A1 ni c1, Value.slice A2 nk c2]) := Lib.hid (((((((HR4.out.set_ 0 (Value.int IntKind.i64 p.level)).set_ 1 (Value.string p.low)).set_ 2 (Value.string p.high)).set_ 3 (Value.bool p.last)).set_ 4 (Value.int IntKind.i64 p.side)).set_ 5 (Value.slice A1 ni c1)).set_ 6 (Value.slice A2 nk c2))
      have HBE : Hid (Below w.heap.size w (((((((w4.setCell ⟨w.heap.size, 0, none⟩ (Value.int IntKind.i64 p.level)).setCell ⟨w.heap.size, 1, none⟩ (Value.string p.low)).setCell ⟨w.heap.size, 2, none⟩ (Value.string p.high)).setCell ⟨w.heap.size, 3, none⟩ (Value.bool p.last)).setCell ⟨w.heap.size, 4, none⟩ (Value.int IntKind.i64 p.side)).setCell ⟨w.heap.size, 5, none⟩ (Value.slice A1 ni c1)).setCell ⟨w.heap.size, 6, none⟩ (Value.slice A2 nk c2))) := Lib.hid (((((((HB4.out.setCell (p := ⟨w.heap.size, 0, none⟩) (Nat.le_refl _) (Value.int IntKind.i64 p.level)).setCell (p := ⟨w.heap.size, 1, none⟩) (Nat.le_refl _) (Value.string p.low)).setCell (p := ⟨w.heap.size, 2, none⟩) (Nat.le_refl _) (Value.string p.high)).setCell (p := ⟨w.heap.size, 3, none⟩) (Nat.le_refl _) (Value.bool p.last)).setCell (p := ⟨w.heap.size, 4, none⟩) (Nat.le_refl _) (Value.int IntKind.i64 p.side)).setCell (p := ⟨w.heap.size, 5, none⟩) (Nat.le_refl _) (Value.slice A1 ni c1)).setCell (p := ⟨w.heap.size, 6, none⟩) (Nat.le_refl _) (Value.slice A2 nk c2))
      have HPE : Hid (Pg (((((((w4.setCell ⟨w.heap.size, 0, none⟩ (Value.int IntKind.i64 p.level)).setCell ⟨w.heap.size, 1, none⟩ (Value.string p.low)).setCell ⟨w.heap.size, 2, none⟩ (Value.string p.high)).setCell ⟨w.heap.size, 3, none⟩ (Value.bool p.last)).setCell ⟨w.heap.size, 4, none⟩ (Value.int IntKind.i64 p.side)).setCell ⟨w.heap.size, 5, none⟩ (Value.slice A1 ni c1)).setCell ⟨w.heap.size, 6, none⟩ (Value.slice A2 nk c2)) w.heap.size (((((((w4.setCell ⟨w.heap.size, 0, none⟩ (Value.int IntKind.i64 p.level)).setCell ⟨w.heap.size, 1, none⟩ (Value.string p.low)).setCell ⟨w.heap.size, 2, none⟩ (Value.string p.high)).setCell ⟨w.heap.size, 3, none⟩ (Value.bool p.last)).setCell ⟨w.heap.size, 4, none⟩ (Value.int IntKind.i64 p.side)).setCell ⟨w.heap.size, 5, none⟩ (Value.slice A1 ni c1)).setCell ⟨w.heap.size, 6, none⟩ (Value.slice A2 nk c2)).heap.size p A1 A2 c1 c2) := Lib.hid (pg_kept (w0 := w) HP3.out HB34.out (fun p hp => set7 w4 w.heap.size p hp _ _ _ _ _ _ _) (by simp))
      obtain ⟨z0, z1, z2, z3, z4, z5, z6⟩ := Blk.cells7 HR4.out
      obtain ⟨q0, q1, q2, q3, q4, q5, q6⟩ := Blk.cells7 HG4.out
      have hfz : ∀ i, w4.frozen? ⟨w.heap.size, i, none⟩ = false := HR4.out.frozen
      go_wp2
      generalize (((((((w4.setCell ⟨w.heap.size, 0, none⟩ (Value.int IntKind.i64 p.level)).setCell ⟨w.heap.size, 1, none⟩ (Value.string p.low)).setCell ⟨w.heap.size, 2, none⟩ (Value.string p.high)).setCell ⟨w.heap.size, 3, none⟩ (Value.bool p.last)).setCell ⟨w.heap.size, 4, none⟩ (Value.int IntKind.i64 p.side)).setCell ⟨w.heap.size, 5, none⟩ (Value.slice A1 ni c1)).setCell ⟨w.heap.size, 6, none⟩ (Value.slice A2 nk c2)) = wE at *
      obtain ⟨e0, e1, e2, e3, e4, e5, e6⟩ := Blk.cells7 HE.out
      exact bodyPost_ret (v := .tuple #[.agg #[Value.int IntKind.i64 p.level, Value.string p.low, Value.string p.high, Value.bool p.last, Value.int IntKind.i64 p.side, Value.slice A1 ni c1, Value.slice A2 nk c2], .int .i64 0]) (by simp [results, Tryz.results54, go_sem, e0, e1, e2, e3, e4, e5, e6]) rfl (by rw [← HV.out, HP.out]; exact decode_some w wE bs A1 A2 c1 c2 HQF.out HBE.out (by rw [← HP.out]; exact HPE.out))
    · have HQF : Hid (Page.form bs = false) := Lib.hid (by rw [HFM.out, HOK.out]; simpa using hq)
      rw [decide_eq_false hq] at hnq
      clear hq
      have hnq2 : (s1.toList == s2.toList) = false := by simpa using hnq
      have hnq3 : (s1.toList != s2.toList) = true := by simpa using hnq
      clear hnq
      have HE : Hid (Blk (((((((w4.setCell ⟨w.heap.size, 0, none⟩ (Value.int IntKind.i64 0)).setCell ⟨w.heap.size, 1, none⟩ (Value.string { data := #[] })).setCell ⟨w.heap.size, 2, none⟩ (Value.string { data := #[] })).setCell ⟨w.heap.size, 3, none⟩ (Value.bool false)).setCell ⟨w.heap.size, 4, none⟩ (Value.int IntKind.i64 0)).setCell ⟨w.heap.size, 5, none⟩ (Value.slice none 0 0)).setCell ⟨w.heap.size, 6, none⟩ (Value.slice none 0 0)) w.heap.size 27 #[Value.int IntKind.i64 0, Value.string { data := #[] }, Value.string { data := #[] }, Value.bool false, Value.int IntKind.i64 0, Value.slice none 0 0, Value.slice none 0 0]) := Lib.hid (((((((HR4.out.set_ 0 (Value.int IntKind.i64 0)).set_ 1 (Value.string { data := #[] })).set_ 2 (Value.string { data := #[] })).set_ 3 (Value.bool false)).set_ 4 (Value.int IntKind.i64 0)).set_ 5 (Value.slice none 0 0)).set_ 6 (Value.slice none 0 0))
      have HBE : Hid (Below w.heap.size w (((((((w4.setCell ⟨w.heap.size, 0, none⟩ (Value.int IntKind.i64 0)).setCell ⟨w.heap.size, 1, none⟩ (Value.string { data := #[] })).setCell ⟨w.heap.size, 2, none⟩ (Value.string { data := #[] })).setCell ⟨w.heap.size, 3, none⟩ (Value.bool false)).setCell ⟨w.heap.size, 4, none⟩ (Value.int IntKind.i64 0)).setCell ⟨w.heap.size, 5, none⟩ (Value.slice none 0 0)).setCell ⟨w.heap.size, 6, none⟩ (Value.slice none 0 0))) := Lib.hid (((((((HB4.out.setCell (p := ⟨w.heap.size, 0, none⟩) (Nat.le_refl _) (Value.int IntKind.i64 0)).setCell (p := ⟨w.heap.size, 1, none⟩) (Nat.le_refl _) (Value.string { data := #[] })).setCell (p := ⟨w.heap.size, 2, none⟩) (Nat.le_refl _) (Value.string { data := #[] })).setCell (p := ⟨w.heap.size, 3, none⟩) (Nat.le_refl _) (Value.bool false)).setCell (p := ⟨w.heap.size, 4, none⟩) (Nat.le_refl _) (Value.int IntKind.i64 0)).setCell (p := ⟨w.heap.size, 5, none⟩) (Nat.le_refl _) (Value.slice none 0 0)).setCell (p := ⟨w.heap.size, 6, none⟩) (Nat.le_refl _) (Value.slice none 0 0))
      obtain ⟨z0, z1, z2, z3, z4, z5, z6⟩ := Blk.cells7 HR4.out
      have hfz : ∀ i, w4.frozen? ⟨w.heap.size, i, none⟩ = false := HR4.out.frozen
      go_wp2
      generalize (((((((w4.setCell ⟨w.heap.size, 0, none⟩ (Value.int IntKind.i64 0)).setCell ⟨w.heap.size, 1, none⟩ (Value.string { data := #[] })).setCell ⟨w.heap.size, 2, none⟩ (Value.string { data := #[] })).setCell ⟨w.heap.size, 3, none⟩ (Value.bool false)).setCell ⟨w.heap.size, 4, none⟩ (Value.int IntKind.i64 0)).setCell ⟨w.heap.size, 5, none⟩ (Value.slice none 0 0)).setCell ⟨w.heap.size, 6, none⟩ (Value.slice none 0 0)) = wE at *
      obtain ⟨e0, e1, e2, e3, e4, e5, e6⟩ := Blk.cells7 HE.out
      exact bodyPost_ret (v := .tuple #[.agg #[Value.int IntKind.i64 0, Value.string { data := #[] }, Value.string { data := #[] }, Value.bool false, Value.int IntKind.i64 0, Value.slice none 0 0, Value.slice none 0 0], .int .i64 102]) (by simp [results, Tryz.results54, go_sem, e0, e1, e2, e3, e4, e5, e6]) rfl (decode_none w wE bs HQF.out HBE.out)
end Go.Proofs.YtjbdmaehomhdeaaGreat
