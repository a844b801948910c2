/- page.Find. -/
import Derived.Test.YtjbdmaehomhdeaaGreatZA
import Derived.Test.YtjbdmaehomhdeaaGreatZD
import Derived.Test.YtjbdmaehomhdeaaGreatZS
set_option linter.unusedSimpArgs false
set_option linter.unusedVariables false
namespace Go.Proofs.YtjbdmaehomhdeaaGreat
open Go.RowKit

set_option maxHeartbeats 400000 in
theorem find_is (g : Nat) (x : Item) (k : ByteArray) (w : World) (hk : Blk w g 9 #[.string k]) :
    Calls Tryz.prog 84 #[x.val, .pointer (some ⟨g, 0, none⟩)] w fun e w' => e = .returned (.bool (x.key.toList == k.toList)) ∧ Below w.heap.size w w' := by
  unfold Item.val
  have hc : ∀ o, (w.alloc o).cell? ⟨g, 0, none⟩ = some (.string k) := fun o => (hk.alloc o).cell 0
  clear hk
  go_enter Tryz.func84, Tryz.ntmps84
  go_wp2
  go_ret
  exact ⟨rfl, (Below.refl _ _).alloc (Nat.le_refl _) _⟩

set_option maxHeartbeats 400000 in
theorem indexFunc_find (g : Nat) (k : ByteArray) (A : Option Addr) (c lo : Nat) (l : List Item) (w : World) (hr : Rd Item.cells 4 w lo w.heap.size A l) (hlen : l.length ≤ 140737488351232) (hk : Blk w g 9 #[.string k]) :
    Calls Tryz.prog 83 #[.slice A l.length c, .func (.func 84) #[] #[.pointer (some ⟨g, 0, none⟩)]] w fun e w' => e = .returned (.int .i64 (idx (fun x => x.key.toList == k.toList) l)) ∧ Below w.heap.size w w' := by
  have HR := Lib.hid hr
  have HK := Lib.hid hk
  clear hr hk
  go_enter Tryz.func83, Tryz.ntmps83
  go_wp2
  go_loopw [8] (fun i wr => ∃ j : Nat, j ≤ l.length ∧ i = .int .i64 j ∧ Hid (Below w.heap.size w wr) ∧ Hid (∀ q y, q < j → l[q]? = some y → (y.key.toList == k.toList) = false)) (fun i _ => l.length - (intOf i).toNat)
  case atStart => exact ⟨0, Nat.zero_le _, rfl, Lib.hid (Below.refl _ _), Lib.hid (by intro j y h; omega)⟩
  case round =>
    obtain ⟨j, hj, rfl, hb, hno⟩ := hrel
    by_cases hlt : j < l.length
    · obtain ⟨ad, x, rfl, hx, h1, h2, c0, c1, c2, c3⟩ := (HR.out.below hb.out).item hlt
      have HKr : Hid (Blk wr g 9 #[.string k]) := Lib.hid (HK.out.below hb.out HK.out.lt)
      cases hq : (x.key.toList == k.toList) with
      | true =>
        have HQ := Lib.hid hq
        go_wp2_with (go_at_call 84; refine (find_is g x k _ HKr.out).mono ?_; rintro e w1 ⟨rfl, hb1⟩)
        go_ret
        exact ⟨ret_i64 (idx_hit (p := fun x : Item => x.key.toList == k.toList) hx.out HQ.out hno.out).symm, hb.out.trans (hb1.mono (hb.out.size))⟩
      | false =>
        have HQ := Lib.hid hq
        go_wp2_with (go_at_call 84; refine (find_is g x k _ HKr.out).mono ?_; rintro e w1 ⟨rfl, hb1⟩)
        go_roundw
        case rel => exact ⟨j + 1, by omega, by go_num, Lib.hid (hb.out.trans (hb1.mono hb.out.size)), Lib.hid (by
          intro q y hj hy
          rcases Nat.lt_or_ge q j with h | h
          · exact hno.out q y h hy
          · obtain rfl : q = j := by omega
            rw [hx.out] at hy; cases hy; exact HQ.out)⟩
        case measure => simp [intOf]; omega
    · go_wp2
      go_ret
      exact ⟨ret_i64 (idx_none (p := fun x : Item => x.key.toList == k.toList) (fun q y hj hy => hno.out q y (by omega) hy)).symm, hb.out⟩

theorem Blk.cells4' {w : World} {g : Nat} {t : TypeId} {a b c d : Value} (k : Blk w g t #[a, b, c, d]) :
    w.cell? ⟨g, 0, none⟩ = some a ∧ w.cell? ⟨g, 1, none⟩ = some b ∧ w.cell? ⟨g, 2, none⟩ = some c ∧ w.cell? ⟨g, 3, none⟩ = some d := ⟨k.cell 0, k.cell 1, k.cell 2, k.cell 3⟩
def Item.zero : Item := ⟨ByteArray.empty, ByteArray.empty, 0, false⟩
/-- a key's item -/
def findI (l : List Item) (k : ByteArray) : Option Item := l.find? (fun x => x.key.toList == k.toList)
theorem findI_idx (l : List Item) (k : ByteArray) : (findI l k = none ∧ idx (fun x : Item => x.key.toList == k.toList) l = -1) ∨ (∃ i x, findI l k = some x ∧ l[i]? = some x ∧ idx (fun x : Item => x.key.toList == k.toList) l = (i : Nat)) := by
  unfold findI
  cases h : l.find? (fun x => x.key.toList == k.toList) with
  | none =>
    left
    rw [List.find?_eq_none] at h
    refine ⟨rfl, idx_none fun j y _ hy => ?_⟩
    have := h y (List.mem_of_getElem? hy)
    simpa using this
  | some x =>
    right
    obtain ⟨hp, l1, l2, e, hno⟩ := List.find?_eq_some_iff_append.1 h
    refine ⟨l1.length, x, rfl, by rw [e]; simp, ?_⟩
    refine idx_hit (x := x) (by rw [e]; simp) hp fun j y hj hy => ?_
    rw [e, List.getElem?_append_left hj] at hy
    have := hno y (List.mem_of_getElem? hy)
    simpa using this
def PostF (w : World) (l : List Item) (k : ByteArray) (e : Ending) (w' : World) : Prop := e = .returned (.tuple #[((findI l k).getD Item.zero).val, .bool (findI l k).isSome]) ∧ Below w.heap.size w w'

set_option maxRecDepth 100000 in
set_option maxHeartbeats 1000000 in
theorem page_Find (p : Page) (A A' : Option Addr) (c c' lo : Nat) (k : ByteArray) (w : World) (hp : Pg w lo w.heap.size p A A' c c') :
    Calls Tryz.prog 53 #[p.val A c A' c', .string k] w (PostF w p.items k) := by
  have HIX := Lib.hid (fun g w1 h1 h2 => indexFunc_find g k A c lo p.items w1 h1 hp.bi h2)
  have H1 := Lib.hid hp
  clear hp
  unfold Page.val Page.raw
  obtain ⟨ni, hni⟩ : ∃ n, n = p.items.length := ⟨_, rfl⟩
  obtain ⟨nk, hnk⟩ : ∃ n, n = p.kids.length := ⟨_, rfl⟩
  rw [← hni, ← hnk]
  rw [← hni] at HIX
  have HNI := Lib.hid hni
  clear hni hnk
  go_enter Tryz.func53, Tryz.ntmps53
  have hP : Blk (((w.alloc (.cells #[Value.int IntKind.i64 p.level, Value.string p.low, Value.string p.high, Value.bool p.last, Value.int IntKind.i64 p.side, Value.slice A ni c, Value.slice A' nk c'] 27)).alloc (.cells #[Value.string k] 9)).alloc (.cells #[Value.string { data := #[] }, Value.string { data := #[] }, Value.int IntKind.i64 0, Value.bool false] 23)) w.heap.size 27 #[Value.int IntKind.i64 p.level, Value.string p.low, Value.string p.high, Value.bool p.last, Value.int IntKind.i64 p.side, Value.slice A ni c, Value.slice A' nk c'] := ((Blk.new _ _ _).alloc _).alloc _
  have hK : Blk (((w.alloc (.cells #[Value.int IntKind.i64 p.level, Value.string p.low, Value.string p.high, Value.bool p.last, Value.int IntKind.i64 p.side, Value.slice A ni c, Value.slice A' nk c'] 27)).alloc (.cells #[Value.string k] 9)).alloc (.cells #[Value.string { data := #[] }, Value.string { data := #[] }, Value.int IntKind.i64 0, Value.bool false] 23)) (w.heap.size + 1) 9 #[Value.string k] := by
    have h1 := Blk.new (w.alloc (.cells #[Value.int IntKind.i64 p.level, Value.string p.low, Value.string p.high, Value.bool p.last, Value.int IntKind.i64 p.side, Value.slice A ni c, Value.slice A' nk c'] 27)) 9 #[Value.string k]
    have h2 : Blk ((w.alloc (.cells #[Value.int IntKind.i64 p.level, Value.string p.low, Value.string p.high, Value.bool p.last, Value.int IntKind.i64 p.side, Value.slice A ni c, Value.slice A' nk c'] 27)).alloc (.cells #[Value.string k] 9)) (w.heap.size + 1) 9 #[Value.string k] := by simpa using h1
    exact h2.alloc _
  have hR : Blk (((w.alloc (.cells #[Value.int IntKind.i64 p.level, Value.string p.low, Value.string p.high, Value.bool p.last, Value.int IntKind.i64 p.side, Value.slice A ni c, Value.slice A' nk c'] 27)).alloc (.cells #[Value.string k] 9)).alloc (.cells #[Value.string { data := #[] }, Value.string { data := #[] }, Value.int IntKind.i64 0, Value.bool false] 23)) (w.heap.size + 2) 23 #[Value.string { data := #[] }, Value.string { data := #[] }, Value.int IntKind.i64 0, Value.bool false] := by
    have h1 := Blk.new ((w.alloc (.cells #[Value.int IntKind.i64 p.level, Value.string p.low, Value.string p.high, Value.bool p.last, Value.int IntKind.i64 p.side, Value.slice A ni c, Value.slice A' nk c'] 27)).alloc (.cells #[Value.string k] 9)) 23 #[Value.string { data := #[] }, Value.string { data := #[] }, Value.int IntKind.i64 0, Value.bool false]
    simpa using h1
  have hB : Below w.heap.size w (((w.alloc (.cells #[Value.int IntKind.i64 p.level, Value.string p.low, Value.string p.high, Value.bool p.last, Value.int IntKind.i64 p.side, Value.slice A ni c, Value.slice A' nk c'] 27)).alloc (.cells #[Value.string k] 9)).alloc (.cells #[Value.string { data := #[] }, Value.string { data := #[] }, Value.int IntKind.i64 0, Value.bool false] 23)) := (((Below.refl _ _).alloc (Nat.le_refl _) _).alloc (by simp) _).alloc (by simp; omega) _
  go_wp2_with fail
  generalize ((w.alloc (.cells #[Value.int IntKind.i64 p.level, Value.string p.low, Value.string p.high, Value.bool p.last, Value.int IntKind.i64 p.side, Value.slice A ni c, Value.slice A' nk c'] 27)).alloc (.cells #[Value.string k] 9)).alloc (.cells #[Value.string { data := #[] }, Value.string { data := #[] }, Value.int IntKind.i64 0, Value.bool false] 23) = w0 at *
  have hR0 : Rd Item.cells 4 w0 lo w0.heap.size A p.items := (H1.out.items.below hB).mono (Nat.le_refl _) hB.size
  refine (HIX.out _ w0 hR0 hK).mono ?_
  rintro e w1 ⟨rfl, hb1⟩
  have HR1 : Hid (Blk w1 (w.heap.size + 2) 23 #[Value.string { data := #[] }, Value.string { data := #[] }, Value.int IntKind.i64 0, Value.bool false]) := Lib.hid (hR.below hb1 hR.lt)
  have HB1 : Hid (Below w.heap.size w w1) := Lib.hid (hB.trans (hb1.mono hB.size))
  have HI1 : Hid (Rd Item.cells 4 w1 lo w.heap.size A p.items) := Lib.hid (H1.out.items.below HB1.out)
  obtain ⟨q0, q1, q2, q3, q4, q5, q6⟩ := Blk.cells7 (hP.below hb1 hP.lt)
  obtain ⟨z0, z1, z2, z3⟩ := Blk.cells4' HR1.out
  have hfz : ∀ i, w1.frozen? ⟨w.heap.size + 2, i, none⟩ = false := HR1.out.frozen
  clear hP hK hR hB hR0 hb1
  rcases findI_idx p.items k with ⟨h1, h2⟩ | ⟨i, x, h1, h2, h3⟩
  · rw [h2]
    have HF := Lib.hid h1
    clear h1 h2
    have HE : Hid (Blk ((((w1.setCell ⟨w.heap.size + 2, 0, none⟩ (Value.string { data := #[] })).setCell ⟨w.heap.size + 2, 1, none⟩ (Value.string { data := #[] })).setCell ⟨w.heap.size + 2, 2, none⟩ (Value.int IntKind.i64 0)).setCell ⟨w.heap.size + 2, 3, none⟩ (Value.bool false)) (w.heap.size + 2) 23 #[Value.string { data := #[] }, Value.string { data := #[] }, Value.int IntKind.i64 0, Value.bool false]) := Lib.hid ((((HR1.out.set_ 0 (Value.string { data := #[] })).set_ 1 (Value.string { data := #[] })).set_ 2 (Value.int IntKind.i64 0)).set_ 3 (Value.bool false))
    have HBE : Hid (Below w.heap.size w ((((w1.setCell ⟨w.heap.size + 2, 0, none⟩ (Value.string { data := #[] })).setCell ⟨w.heap.size + 2, 1, none⟩ (Value.string { data := #[] })).setCell ⟨w.heap.size + 2, 2, none⟩ (Value.int IntKind.i64 0)).setCell ⟨w.heap.size + 2, 3, none⟩ (Value.bool false))) := Lib.hid ((((HB1.out.setCell (p := ⟨w.heap.size + 2, 0, none⟩) (by simp) (Value.string { data := #[] })).setCell (p := ⟨w.heap.size + 2, 1, none⟩) (by simp) (Value.string { data := #[] })).setCell (p := ⟨w.heap.size + 2, 2, none⟩) (by simp) (Value.int IntKind.i64 0)).setCell (p := ⟨w.heap.size + 2, 3, none⟩) (by simp) (Value.bool false))
    go_wp2
    generalize ((((w1.setCell ⟨w.heap.size + 2, 0, none⟩ (Value.string { data := #[] })).setCell ⟨w.heap.size + 2, 1, none⟩ (Value.string { data := #[] })).setCell ⟨w.heap.size + 2, 2, none⟩ (Value.int IntKind.i64 0)).setCell ⟨w.heap.size + 2, 3, none⟩ (Value.bool false)) = wE at *
    obtain ⟨e0, e1, e2, e3⟩ := Blk.cells4' HE.out
    exact bodyPost_ret (v := .tuple #[.agg #[Value.string { data := #[] }, Value.string { data := #[] }, Value.int IntKind.i64 0, Value.bool false], .bool false]) (by simp [results, Tryz.results53, go_sem, e0, e1, e2, e3]) rfl ⟨by rw [HF.out]; rfl, HBE.out⟩
  · rw [h3]
    have HF := Lib.hid h1
    have hi : i < p.items.length := (List.getElem?_eq_some_iff.1 h2).1
    obtain ⟨ad, y, rfl, hy, g1, g2, c0, c1, c2, c3⟩ := HI1.out.item (i := i) hi
    have hyx : x = y := by
      have := hy.out
      rw [h2] at this
      exact Option.some.inj this
    subst hyx
    have hin : i < ni := by rw [HNI.out]; exact hi
    have hi1 : (i : Int) < (ni : Int) := by omega
    have hi0 : (0 : Int) ≤ (i : Int) := by omega
    clear h1 h2 h3 hi hin
    have HE : Hid (Blk ((((w1.setCell ⟨w.heap.size + 2, 0, none⟩ (Value.string x.key)).setCell ⟨w.heap.size + 2, 1, none⟩ (Value.string x.value)).setCell ⟨w.heap.size + 2, 2, none⟩ (Value.int IntKind.i64 x.no)).setCell ⟨w.heap.size + 2, 3, none⟩ (Value.bool x.gone)) (w.heap.size + 2) 23 #[Value.string x.key, Value.string x.value, Value.int IntKind.i64 x.no, Value.bool x.gone]) := Lib.hid ((((HR1.out.set_ 0 (Value.string x.key)).set_ 1 (Value.string x.value)).set_ 2 (Value.int IntKind.i64 x.no)).set_ 3 (Value.bool x.gone))
    have HBE : Hid (Below w.heap.size w ((((w1.setCell ⟨w.heap.size + 2, 0, none⟩ (Value.string x.key)).setCell ⟨w.heap.size + 2, 1, none⟩ (Value.string x.value)).setCell ⟨w.heap.size + 2, 2, none⟩ (Value.int IntKind.i64 x.no)).setCell ⟨w.heap.size + 2, 3, none⟩ (Value.bool x.gone))) := Lib.hid ((((HB1.out.setCell (p := ⟨w.heap.size + 2, 0, none⟩) (by simp) (Value.string x.key)).setCell (p := ⟨w.heap.size + 2, 1, none⟩) (by simp) (Value.string x.value)).setCell (p := ⟨w.heap.size + 2, 2, none⟩) (by simp) (Value.int IntKind.i64 x.no)).setCell (p := ⟨w.heap.size + 2, 3, none⟩) (by simp) (Value.bool x.gone))
    go_wp2
    generalize ((((w1.setCell ⟨w.heap.size + 2, 0, none⟩ (Value.string x.key)).setCell ⟨w.heap.size + 2, 1, none⟩ (Value.string x.value)).setCell ⟨w.heap.size + 2, 2, none⟩ (Value.int IntKind.i64 x.no)).setCell ⟨w.heap.size + 2, 3, none⟩ (Value.bool x.gone)) = wE at *
    obtain ⟨e0, e1, e2, e3⟩ := Blk.cells4' HE.out
    exact bodyPost_ret (v := .tuple #[.agg #[Value.string x.key, Value.string x.value, Value.int IntKind.i64 x.no, Value.bool x.gone], .bool true]) (by simp [results, Tryz.results53, go_sem, e0, e1, e2, e3]) rfl ⟨by rw [HF.out]; rfl, HBE.out⟩
end Go.Proofs.YtjbdmaehomhdeaaGreat
