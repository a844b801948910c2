/- The reference's Find. -/
import Derived.Test.YtjbdmaehomhdeaaD4
import Derived.Test.YtjbdmaehomhdeaaZG
namespace Go.Proofs.Ytjbdmaehomhdeaa
open Go.RowKit

theorem findI_hit {k : ByteArray} {x : Item} : ∀ {l : List Item} {i : Nat}, l[i]? = some x → (x.key.toList == k.toList) = true → (∀ j y, j < i → l[j]? = some y → (y.key.toList == k.toList) = false) → findI l k = some x
  | [], i, hx, _, _ => by simp at hx
  | a :: l, 0, hx, hk, _ => by
    simp only [List.getElem?_cons_zero, Option.some.injEq] at hx
    subst hx
    unfold findI
    exact List.find?_cons_of_pos (p := fun x : Item => x.key.toList == k.toList) hk
  | a :: l, i + 1, hx, hk, hno => by
    unfold findI
    rw [List.find?_cons_of_neg (p := fun x : Item => x.key.toList == k.toList) (by simp only [hno 0 a (by omega) rfl]; simp)]
    exact findI_hit (l := l) (i := i) (by simpa using hx) hk (fun j y hj hy => hno (j + 1) y (by omega) (by simpa using hy))
theorem findI_miss {k : ByteArray} {l : List Item} (hno : ∀ (j : Nat) (y : Item), l[j]? = some y → (y.key.toList == k.toList) = false) : findI l k = none := by
  unfold findI
  rw [List.find?_eq_none]
  intro y hy
  obtain ⟨j, hj⟩ := List.getElem?_of_mem hy
  rw [hno j y hj]; simp
set_option maxRecDepth 100000 in
set_option maxHeartbeats 4000000 in
theorem ref_Find (p : Page) (A A' : Option Addr) (c c' lo : Nat) (s : ByteArray) (w : World) (hp : Pg w lo w.heap.size p A A' c c') :
    Calls Try.prog 15 #[p.val A c A' c', .string s] w (PostF w p.items s) := by
  have HI := Lib.hid hp.items
  have hbi := hp.bi
  clear hp
  unfold Page.val Page.raw
  obtain ⟨ni, hni⟩ : ∃ n, n = p.items.length := ⟨_, rfl⟩
  obtain ⟨nk, hnk⟩ : ∃ n, n = p.kids.length := ⟨_, rfl⟩
  rw [← hni, ← hnk]
  rw [← hni] at hbi
  have hbi' : (ni : Int) ≤ 140737488351232 := by omega
  have HNI := Lib.hid hni
  clear hni hnk
  have hF := Fr.two w 27 39 #[Value.int IntKind.i64 p.level, Value.string p.low, Value.string p.high, Value.bool p.last, Value.int IntKind.i64 p.side, Value.slice A ni c, Value.slice A' nk c'] #[Value.string { data := #[] }, Value.string { data := #[] }, Value.int IntKind.i64 0, Value.bool false]
  go_enter Try.func15, Try.ntmps15
  go_upto_region 1 with (fail)
  generalize (w.alloc (.cells #[Value.int IntKind.i64 p.level, Value.string p.low, Value.string p.high, Value.bool p.last, Value.int IntKind.i64 p.side, Value.slice A ni c, Value.slice A' nk c'] 27)).alloc (.cells #[Value.string { data := #[] }, Value.string { data := #[] }, Value.int IntKind.i64 0, Value.bool false] 39) = w0 at *
  have HF0 := Lib.hid hF
  clear hF
  obtain ⟨q0, q1, q2, q3, q4, q5, q6⟩ := Blk.cells7 HF0.out.b0
  have HRD : Hid (Rd Item.cells 4 w0 lo w.heap.size A p.items) := Lib.hid (HI.out.below HF0.out.be)
  go_wp2
  go_loopw [6] (fun i wr => ∃ k : Nat, k ≤ ni ∧ i = .int .i64 k ∧ w0 = wr ∧ Hid (∀ (j : Nat) (x : Item), j < k → p.items[j]? = some x → (x.key.toList == s.toList) = false)) (fun i _ => ni - (intOf i).toNat)
  case atStart => exact ⟨0, Nat.zero_le _, rfl, rfl, Lib.hid (fun _ _ h => by omega)⟩
  case round =>
    obtain ⟨k, hk, rfl, rfl, hno⟩ := hrel
    by_cases hlt : k < ni
    · obtain ⟨ad, x, rfl, hx, g1, g2, c0, c1, c2, c3⟩ := HRD.out.item (i := k) (by rw [← HNI.out]; exact hlt)
      have hlt' : (k : Int) < (ni : Int) := by omega
      have hlt2 : (0 : Int) ≤ (k : Int) := by omega
      cases hl : (x.key.toList == s.toList) with
      | true =>
        have HFI : Hid (findI p.items s = some x) := Lib.hid (findI_hit hx.out hl hno.out)
        go_wp2_with (refine wpList_store_row rfl 39 _ _ rfl rfl (w.heap.size + 1) rfl _ _ _ rfl HF0.out.b1 rfl (by kernel_rfl) (List.all_eq_true.1 rfl) ?_; rintro w1 hT1 hB1)
        exact bodyPost_ret (v := .tuple #[.agg #[Value.string x.key, Value.string x.value, Value.int IntKind.i64 x.no, Value.bool x.gone], .bool true]) (results_row2 rfl _ _ (w.heap.size + 1) _ _ _ _ rfl hB1 Try.underlying39 rfl (by kernel_rfl) rfl) rfl ⟨by rw [HFI.out]; rfl, hT1.below HF0.out.be (by omega) HF0.out.be.size⟩
      | false =>
        go_wp2
        go_roundw
        case rel => exact ⟨k + 1, by omega, by go_num, trivial, Lib.hid (fun j y hj hy => by
          rcases Nat.lt_or_ge j k with h | h
          · exact hno.out j y h hy
          · obtain rfl : j = k := by omega
            rw [hx.out] at hy; cases hy; exact hl)⟩
        case measure => simp [intOf]; omega
    · obtain rfl : k = ni := by omega
      have hno2 : ¬ ((k : Int) < (k : Int)) := by omega
      have HFI : Hid (findI p.items s = none) := Lib.hid (findI_miss (fun j y hy => hno.out j y (by rw [HNI.out]; exact (List.getElem?_eq_some_iff.1 hy).1) hy))
      go_wp2_with (refine wpList_store_row rfl 39 _ _ rfl rfl (w.heap.size + 1) rfl _ _ _ rfl HF0.out.b1 rfl (by kernel_rfl) (List.all_eq_true.1 rfl) ?_; rintro w1 hT1 hB1)
      exact bodyPost_ret (v := .tuple #[.agg #[Value.string { data := #[] }, Value.string { data := #[] }, Value.int IntKind.i64 0, Value.bool false], .bool false]) (results_row2 rfl _ _ (w.heap.size + 1) _ _ _ _ rfl hB1 Try.underlying39 rfl (by kernel_rfl) rfl) rfl ⟨by rw [HFI.out]; rfl, hT1.below HF0.out.be (by omega) HF0.out.be.size⟩
end Go.Proofs.Ytjbdmaehomhdeaa
