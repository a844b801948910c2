/- The reference's Find. -/
import Derived.Test.YtjbdmaehomhdeaaD4
import Derived.Test.YtjbdmaehomhdeaaZG
import Derived.Test.YtjbdmaehomhdeaaZA
import Derived.Test.YtjbdmaehomhdeaaZN
import Derived.Test.YtjbdmaehomhdeaaG10
import Derived.Test.YtjbdmaehomhdeaaZS
import Derived.Test.YtjbdmaehomhdeaaZC
namespace Go.Proofs.Ytjbdmaehomhdeaa
open Go.RowKit

theorem findI_hit {k : ByteArray} {x : Item} : ∀ {l : List Item} {i : Nat}, l[i]? = some x → (x.key.toList == k.toList) = true → (∀ j y, j < i → l[j]? = some y → (y.key.toList == k.toList) = false) → findI l k = some x
  | [], i, hx, _, _ => by simp at hx
  | a :: l, 0, hx, hk, _ => by
    simp only [List.getElem?_cons_zero, Option.some.injEq] at hx
    subst hx
    unfold findI
    exact List.find?_cons_of_pos (p := fun x : Item => x.key.toList == k.toList) hk
  | a :: l, i + 1, hx, hk, hno => by
    unfold findI
    rw [List.find?_cons_of_neg (p := fun x : Item => x.key.toList == k.toList) (by simp only [hno 0 a (by omega) rfl]; simp)]
    exact findI_hit (l := l) (i := i) (by simpa using hx) hk (fun j y hj hy => hno (j + 1) y (by omega) (by simpa using hy))
theorem findI_miss {k : ByteArray} {l : List Item} (hno : ∀ (j : Nat) (y : Item), l[j]? = some y → (y.key.toList == k.toList) = false) : findI l k = none := by
  unfold findI
  rw [List.find?_eq_none]
  intro y hy
  obtain ⟨j, hj⟩ := List.getElem?_of_mem hy
  rw [hno j y hj]; simp
set_option maxRecDepth 100000 in
set_option maxHeartbeats 4000000 in
theorem ref_Find (p : Page) (A A' : Option Addr) (c c' lo : Nat) (s : ByteArray) (w : World) (hp : Pg w lo w.heap.size p A A' c c') :
    Calls Try.prog 15 #[p.val A c A' c', .string s] w (PostF w p.items s) := by
  have HI := Lib.hid hp.items
  have hbi := hp.bi
  clear hp
  unfold Page.val Page.raw
  obtain ⟨ni, hni⟩ : ∃ n, n = p.items.length := ⟨_, rfl⟩
  obtain ⟨nk, hnk⟩ : ∃ n, n = p.kids.length := ⟨_, rfl⟩
  rw [← hni, ← hnk]
  rw [← hni] at hbi
  have hbi' : (ni : Int) ≤ 140737488351232 := by omega
  have HNI := Lib.hid hni
  clear hni hnk
  have hF := Fr.two w 27 39 #[Value.int IntKind.i64 p.level, Value.string p.low, Value.string p.high, Value.bool p.last, Value.int IntKind.i64 p.side, Value.slice A ni c, Value.slice A' nk c'] #[Value.string { data := #[] }, Value.string { data := #[] }, Value.int IntKind.i64 0, Value.bool false]
  go_enter Try.func15, Try.ntmps15
  go_upto_region 1 with (fail)
  generalize (w.alloc (.cells #[Value.int IntKind.i64 p.level, Value.string p.low, Value.string p.high, Value.bool p.last, Value.int IntKind.i64 p.side, Value.slice A ni c, Value.slice A' nk c'] 27)).alloc (.cells #[Value.string { data := #[] }, Value.string { data := #[] }, Value.int IntKind.i64 0, Value.bool false] 39) = w0 at *
  have HF0 := Lib.hid hF
  clear hF
  obtain ⟨q0, q1, q2, q3, q4, q5, q6⟩ := Blk.cells7 HF0.out.b0
  have HRD : Hid (Rd Item.cells 4 w0 lo w.heap.size A p.items) := Lib.hid (HI.out.below HF0.out.be)
  go_wp2
  go_loopw [6] (fun i wr => ∃ k : Nat, k ≤ ni ∧ i = .int .i64 k ∧ w0 = wr ∧ Hid (∀ (j : Nat) (x : Item), j < k → p.items[j]? = some x → (x.key.toList == s.toList) = false)) (fun i _ => ni - (intOf i).toNat)
  case atStart => exact ⟨0, Nat.zero_le _, rfl, rfl, Lib.hid (fun _ _ h => by omega)⟩
  case round =>
    obtain ⟨k, hk, rfl, rfl, hno⟩ := hrel
    by_cases hlt : k < ni
    · obtain ⟨ad, x, rfl, hx, g1, g2, c0, c1, c2, c3⟩ := HRD.out.item (i := k) (by rw [← HNI.out]; exact hlt)
      have hlt' : (k : Int) < (ni : Int) := by omega
      have hlt2 : (0 : Int) ≤ (k : Int) := by omega
      cases hl : (x.key.toList == s.toList) with
      | true =>
        have HFI : Hid (findI p.items s = some x) := Lib.hid (findI_hit hx.out hl hno.out)
        go_wp2_with (refine wpList_store_row rfl 39 _ _ rfl rfl (w.heap.size + 1) rfl _ _ _ rfl HF0.out.b1 rfl (by kernel_rfl) (List.all_eq_true.1 rfl) ?_; rintro w1 hT1 hB1)
        exact bodyPost_ret (v := .tuple #[.agg #[Value.string x.key, Value.string x.value, Value.int IntKind.i64 x.no, Value.bool x.gone], .bool true]) (results_row2 rfl _ _ (w.heap.size + 1) _ _ _ _ rfl hB1 Try.underlying39 rfl (by kernel_rfl) rfl) rfl ⟨by rw [HFI.out]; rfl, hT1.below HF0.out.be (by omega) HF0.out.be.size⟩
      | false =>
        go_wp2
        go_roundw
        case rel => exact ⟨k + 1, by omega, by go_num, trivial, Lib.hid (fun j y hj hy => by
          rcases Nat.lt_or_ge j k with h | h
          · exact hno.out j y h hy
          · obtain rfl : j = k := by omega
            rw [hx.out] at hy; cases hy; exact hl)⟩
        case measure => simp [intOf]; omega
    · obtain rfl : k = ni := by omega
      have hno2 : ¬ ((k : Int) < (k : Int)) := by omega
      have HFI : Hid (findI p.items s = none) := Lib.hid (findI_miss (fun j y hy => hno.out j y (by rw [HNI.out]; exact (List.getElem?_eq_some_iff.1 hy).1) hy))
      go_wp2_with (refine wpList_store_row rfl 39 _ _ rfl rfl (w.heap.size + 1) rfl _ _ _ rfl HF0.out.b1 rfl (by kernel_rfl) (List.all_eq_true.1 rfl) ?_; rintro w1 hT1 hB1)
      exact bodyPost_ret (v := .tuple #[.agg #[Value.string { data := #[] }, Value.string { data := #[] }, Value.int IntKind.i64 0, Value.bool false], .bool false]) (results_row2 rfl _ _ (w.heap.size + 1) _ _ _ _ rfl hB1 Try.underlying39 rfl (by kernel_rfl) rfl) rfl ⟨by rw [HFI.out]; rfl, hT1.below HF0.out.be (by omega) HF0.out.be.size⟩
end Go.Proofs.Ytjbdmaehomhdeaa

namespace Go.Proofs.Ytjbdmaehomhdeaa
open Go.RowKit

theorem ne_of_lt2 {a b : ByteArray} (h : lt a b = true) : a ≠ b := by
  intro e; rw [e, lt_irr] at h; cases h
/-- the place of the kid with a key, or -1 -/
def hasN (l : List Kid) (s : ByteArray) : Int := idx (fun x : Kid => x.key.toList == s.toList) l
theorem hasN_eq {l : List Kid} (hs : Sorted Kid.key l) (s : ByteArray) : hasN l s = if isAt Kid.key l s = true then (posOf Kid.key l s : Int) else -1 := by
  obtain ⟨a, m, b, hl, ha, hb, hp, hm⟩ := cut_at Kid.key l s hs
  have hne : ∀ k : Kid, k.key ≠ s → (k.key.toList == s.toList) = false := fun k hk => bytes_ne hk
  rcases hm with ⟨hat, y, rfl, hy⟩ | ⟨hat, rfl⟩
  · rw [if_pos hat, ← hp]
    unfold hasN
    refine idx_hit (x := y) (by rw [hl, List.getElem?_append_right (Nat.le_refl _), Nat.sub_self]; rfl) (by rw [hy]; simp) (fun j z hj hz => ?_)
    rw [hl, List.getElem?_append_left hj] at hz
    exact hne z (ne_of_lt2 (ha z (List.mem_of_getElem? hz)))
  · rw [if_neg (by rw [hat]; simp)]
    unfold hasN
    refine idx_none (fun j z _ hz => ?_)
    rw [hl] at hz
    rcases List.mem_append.1 (List.mem_of_getElem? hz) with h | h
    · exact hne z (ne_of_lt2 (ha z h))
    · exact hne z (fun e => ne_of_lt2 (hb z h) e.symm)
set_option maxRecDepth 100000 in
set_option maxHeartbeats 4000000 in
theorem ref_has (p : Page) (A A' : Option Addr) (c c' lo : Nat) (s : ByteArray) (w : World) (hp : Pg w lo w.heap.size p A A' c c') :
    Calls Try.prog 43 #[p.val A c A' c', .string s] w fun e w' => e = .returned (.int .i64 (hasN p.kids s)) ∧ Below w.heap.size w w' := by
  have HI := Lib.hid hp.kids
  have hbi := hp.bk
  clear hp
  unfold Page.val Page.raw
  obtain ⟨ni, hni⟩ : ∃ n, n = p.items.length := ⟨_, rfl⟩
  obtain ⟨nk, hnk⟩ : ∃ n, n = p.kids.length := ⟨_, rfl⟩
  rw [← hni, ← hnk]
  rw [← hnk] at hbi
  have hbi' : (nk : Int) ≤ 140737488351232 := by omega
  have HNK := Lib.hid hnk
  clear hni hnk
  have hF := Fr.one w 27 #[Value.int IntKind.i64 p.level, Value.string p.low, Value.string p.high, Value.bool p.last, Value.int IntKind.i64 p.side, Value.slice A ni c, Value.slice A' nk c']
  go_enter Try.func43, Try.ntmps43
  go_upto_region 1 with (fail)
  generalize w.alloc (.cells #[Value.int IntKind.i64 p.level, Value.string p.low, Value.string p.high, Value.bool p.last, Value.int IntKind.i64 p.side, Value.slice A ni c, Value.slice A' nk c'] 27) = w0 at *
  have HF0 := Lib.hid hF
  clear hF
  obtain ⟨q0, q1, q2, q3, q4, q5, q6⟩ := Blk.cells7 HF0.out.b0
  have HRD : Hid (Rd Kid.cells 2 w0 lo w.heap.size A' p.kids) := Lib.hid (HI.out.below HF0.out.be)
  go_wp2
  go_loopw [5] (fun i wr => ∃ k : Nat, k ≤ nk ∧ i = .int .i64 k ∧ w0 = wr ∧ Hid (∀ (j : Nat) (x : Kid), j < k → p.kids[j]? = some x → (x.key.toList == s.toList) = false)) (fun i _ => nk - (intOf i).toNat)
  case atStart => exact ⟨0, Nat.zero_le _, rfl, rfl, Lib.hid (fun _ _ h => by omega)⟩
  case round =>
    obtain ⟨k, hk, rfl, rfl, hno⟩ := hrel
    by_cases hlt : k < nk
    · obtain ⟨ad, x, rfl, hx, g1, g2, c0, c1'⟩ := HRD.out.kid (i := k) (by rw [← HNK.out]; exact hlt)
      have hlt' : (k : Int) < (nk : Int) := by omega
      have hlt2 : (0 : Int) ≤ (k : Int) := by omega
      cases hl : (x.key.toList == s.toList) with
      | true =>
        have HFI : Hid (hasN p.kids s = (k : Nat)) := Lib.hid (idx_hit hx.out hl (fun j y hj hy => hno.out j y hj hy))
        go_wp2
        go_ret
        exact ⟨by rw [HFI.out]; rfl, HF0.out.be⟩
      | false =>
        go_wp2
        go_roundw
        case rel => exact ⟨k + 1, by omega, by go_num, trivial, Lib.hid (fun j y hj hy => by
          rcases Nat.lt_or_ge j k with h | h
          · exact hno.out j y h hy
          · obtain rfl : j = k := by omega
            rw [hx.out] at hy; cases hy; exact hl)⟩
        case measure => simp [intOf]; omega
    · obtain rfl : k = nk := by omega
      have hno2 : ¬ ((k : Int) < (k : Int)) := by omega
      have HFI : Hid (hasN p.kids s = -1) := Lib.hid (idx_none (fun j y _ hy => hno.out j y (by rw [HNK.out]; exact (List.getElem?_eq_some_iff.1 hy).1) hy))
      go_wp2
      go_ret
      exact ⟨by rw [HFI.out]; rfl, HF0.out.be⟩
end Go.Proofs.Ytjbdmaehomhdeaa

namespace Go.Proofs.Ytjbdmaehomhdeaa
open Go.RowKit

noncomputable def Page.splitR (p : Page) (s : ByteArray) (n : Int) : Page := cond (p.ok && p.splitFits s n) ⟨p.level, s, p.high, p.last, p.side, p.items.drop (posOf Item.key p.items s), p.kids.drop (posOf Kid.key p.kids s)⟩ Page.zero
def PostS2 (w : World) (q r : Page) (n : Int) (e : Ending) (w' : World) : Prop := ∃ A A' c c' B B' b b', e = .returned (.tuple #[q.val A c A' c', r.val B b B' b', .int .i64 n]) ∧ Pg w' w.heap.size w'.heap.size q A A' c c' ∧ Pg w' w.heap.size w'.heap.size r B B' b b' ∧ Below w.heap.size w w'
/-- what lies ahead of a key, and what does not -/
theorem cut_filter {α : Type} {key : α → ByteArray} {l : List α} (hs : Sorted key l) (s : ByteArray) : l.filter (fun x => lt (key x) s) = l.take (posOf key l s) ∧ l.filter (fun x => !lt (key x) s) = l.drop (posOf key l s) := by
  obtain ⟨a, m, b, hl, ha, hb, hp, hm⟩ := cut_at key l s hs
  have h1 : a.filter (fun x => lt (key x) s) = a := List.filter_eq_self.2 (fun x hx => ha x hx)
  have h2 : a.filter (fun x => !lt (key x) s) = [] := List.filter_eq_nil_iff.2 (fun x hx => by rw [ha x hx]; simp)
  have hmb : ∀ x ∈ m ++ b, lt (key x) s = false := fun x hx => by
    rcases List.mem_append.1 hx with h | h
    · rcases hm with ⟨_, y, rfl, hy⟩ | ⟨_, rfl⟩
      · rw [List.mem_singleton.1 h, hy]; exact lt_irr _
      · cases h
    · exact lt_asymm (hb x h)
  have h3 : (m ++ b).filter (fun x => lt (key x) s) = [] := List.filter_eq_nil_iff.2 (fun x hx => by rw [hmb x hx]; simp)
  have h4 : (m ++ b).filter (fun x => !lt (key x) s) = m ++ b := List.filter_eq_self.2 (fun x hx => by rw [hmb x hx]; rfl)
  rw [← hp]
  constructor
  · conv => lhs; rw [hl, List.filter_append, h1, h3, List.append_nil]
    rw [hl, List.take_left]
  · conv => lhs; rw [hl, List.filter_append, h2, h4, List.nil_append]
    rw [hl, List.drop_left]

/-- two pages in blocks of the call's own, each with a list of its own in a field -/
structure SpItem (w wr : World) (bs : List (TypeId × Array Value)) (g1 g2 B : Nat) (V1 V2 : Value → Array Value) (v1 v2 : Value) (l1 l2 : List Item) : Prop where
  fr : Fr w wr bs
  b1 : Blk wr g1 27 (V1 v1)
  b2 : Blk wr g2 27 (V2 v2)
  o1 : OwnItem wr B v1 l1
  o2 : OwnItem wr B v2 l2
  sp : ∀ k, v1.ownBlock = some k → v2.ownBlock ≠ some k
  lt : g1 < B ∧ g2 < B ∧ g1 ≠ g2 ∧ w.heap.size + bs.length ≤ g1 ∧ w.heap.size + bs.length ≤ g2 ∧ B ≤ wr.heap.size
theorem SpItem.swap {w wr : World} {bs : List (TypeId × Array Value)} {g1 g2 B : Nat} {V1 V2 : Value → Array Value} {v1 v2 : Value} {l1 l2 : List Item} (h : SpItem w wr bs g1 g2 B V1 V2 v1 v2 l1 l2) : SpItem w wr bs g2 g1 B V2 V1 v2 v1 l2 l1 :=
  ⟨h.fr, h.b2, h.b1, h.o2, h.o1, fun k h2 h1 => h.sp k h1 h2, h.lt.2.1, h.lt.1, Ne.symm h.lt.2.2.1, h.lt.2.2.2.2.1, h.lt.2.2.2.1, h.lt.2.2.2.2.2⟩
theorem SpItem.put {w wr w7 : World} {bs : List (TypeId × Array Value)} {g1 g2 B : Nat} {V1 V2 : Value → Array Value} {v1 v2 : Value} {l1 l2 m : List Item} {o : Obj} {g n c j : Nat} (h : SpItem w wr bs g1 g2 B V1 V2 v1 v2 l1 l2)
    (hV : ∀ v v', (V1 v).setIfInBounds j v' = V1 v') (hg : (wr.drew.alloc o).grownBy w7 v1.ownBlock) (ho : OwnItem w7 B (.slice (some ⟨g, 0, none⟩) n c) m) (hn : v1.ownBlock = some g ∨ (wr.drew.alloc o).heap.size ≤ g) :
    SpItem w (w7.setCell ⟨g1, j, none⟩ (.slice (some ⟨g, 0, none⟩) n c)) bs g1 g2 B V1 V2 (.slice (some ⟨g, 0, none⟩) n c) v2 m l2 := by
  obtain ⟨a1, a2, a3, a4, a5, a6⟩ := h.lt
  have hsz : (wr.drew.alloc o).heap.size = wr.heap.size + 1 := by simp
  have hs7 := hg.size
  rw [hsz] at hs7
  have hv1 : ∀ k, v1.ownBlock = some k → B ≤ k := fun k hk => (h.o1.block k hk).1
  have hb7 : Below B wr w7 := (((Below.refl B wr).drew).alloc a6 _).grown hg (by rw [hsz]; omega) hv1
  have hF7 : Fr w w7 bs := h.fr.on' hb7 (by omega) a6
  have hF8 : Fr w (w7.setCell ⟨g1, j, none⟩ (.slice (some ⟨g, 0, none⟩) n c)) bs := hF7.far _ a4
  refine ⟨hF8, ?_, ?_, ?_, ?_, ?_, a1, a2, a3, a4, a5, ?_⟩
  · have := (h.b1.below hb7 a1).set_ j (.slice (some ⟨g, 0, none⟩) n c)
    rw [hV] at this
    exact this
  · exact (h.b2.below hb7 a2).far (by simp; omega) _
  · exact ho.keep fun k hk => Below.heap_setCell w7 _ _ k (by have := (ho.block k hk).1; simp; omega)
  · refine h.o2.keep fun k hk => ?_
    obtain ⟨c1, c2⟩ := h.o2.block k hk
    rw [Below.heap_setCell w7 _ _ k (by simp; omega)]
    exact (hg.block k (by rw [hsz]; omega) (fun e => h.sp k e.symm hk)).trans (Below.heap_alloc wr.drew o k c2)
  · intro k hk h2
    simp [Value.ownBlock] at hk
    subst hk
    rcases hn with hn | hn
    · exact h.sp _ hn h2
    · have := (h.o2.block _ h2).2
      rw [hsz] at hn; omega
  · simp; omega
theorem SpItem.keepB {w wr w7 : World} {bs : List (TypeId × Array Value)} {g1 g2 B : Nat} {V1 V2 : Value → Array Value} {v1 v2 : Value} {l1 l2 : List Item} {o : Obj} {j : Nat} {u : Value} (h : SpItem w wr bs g1 g2 B V1 V2 v1 v2 l1 l2)
    (hg : (wr.drew.alloc o).grownBy w7 v1.ownBlock) : ∀ b, b < B → b ≠ g1 → (w7.setCell ⟨g1, j, none⟩ u).heap[b]? = wr.heap[b]? := by
  intro b hb hne
  obtain ⟨_, _, _, _, _, a6⟩ := h.lt
  rw [Below.heap_setCell w7 _ _ b (by simpa using hne)]
  refine (hg.block b (by simp; omega) (fun e => ?_)).trans (Below.heap_alloc wr.drew o b (by show b < wr.heap.size; omega))
  have := (h.o1.block b e.symm).1
  omega
/-- two pages in blocks of the call's own, each with a list of its own in a field -/
structure SpKid (w wr : World) (bs : List (TypeId × Array Value)) (g1 g2 B : Nat) (V1 V2 : Value → Array Value) (v1 v2 : Value) (l1 l2 : List Kid) : Prop where
  fr : Fr w wr bs
  b1 : Blk wr g1 27 (V1 v1)
  b2 : Blk wr g2 27 (V2 v2)
  o1 : OwnKid wr B v1 l1
  o2 : OwnKid wr B v2 l2
  sp : ∀ k, v1.ownBlock = some k → v2.ownBlock ≠ some k
  lt : g1 < B ∧ g2 < B ∧ g1 ≠ g2 ∧ w.heap.size + bs.length ≤ g1 ∧ w.heap.size + bs.length ≤ g2 ∧ B ≤ wr.heap.size
theorem SpKid.swap {w wr : World} {bs : List (TypeId × Array Value)} {g1 g2 B : Nat} {V1 V2 : Value → Array Value} {v1 v2 : Value} {l1 l2 : List Kid} (h : SpKid w wr bs g1 g2 B V1 V2 v1 v2 l1 l2) : SpKid w wr bs g2 g1 B V2 V1 v2 v1 l2 l1 :=
  ⟨h.fr, h.b2, h.b1, h.o2, h.o1, fun k h2 h1 => h.sp k h1 h2, h.lt.2.1, h.lt.1, Ne.symm h.lt.2.2.1, h.lt.2.2.2.2.1, h.lt.2.2.2.1, h.lt.2.2.2.2.2⟩
theorem SpKid.put {w wr w7 : World} {bs : List (TypeId × Array Value)} {g1 g2 B : Nat} {V1 V2 : Value → Array Value} {v1 v2 : Value} {l1 l2 m : List Kid} {o : Obj} {g n c j : Nat} (h : SpKid w wr bs g1 g2 B V1 V2 v1 v2 l1 l2)
    (hV : ∀ v v', (V1 v).setIfInBounds j v' = V1 v') (hg : (wr.drew.alloc o).grownBy w7 v1.ownBlock) (ho : OwnKid w7 B (.slice (some ⟨g, 0, none⟩) n c) m) (hn : v1.ownBlock = some g ∨ (wr.drew.alloc o).heap.size ≤ g) :
    SpKid w (w7.setCell ⟨g1, j, none⟩ (.slice (some ⟨g, 0, none⟩) n c)) bs g1 g2 B V1 V2 (.slice (some ⟨g, 0, none⟩) n c) v2 m l2 := by
  obtain ⟨a1, a2, a3, a4, a5, a6⟩ := h.lt
  have hsz : (wr.drew.alloc o).heap.size = wr.heap.size + 1 := by simp
  have hs7 := hg.size
  rw [hsz] at hs7
  have hv1 : ∀ k, v1.ownBlock = some k → B ≤ k := fun k hk => (h.o1.block k hk).1
  have hb7 : Below B wr w7 := (((Below.refl B wr).drew).alloc a6 _).grown hg (by rw [hsz]; omega) hv1
  have hF7 : Fr w w7 bs := h.fr.on' hb7 (by omega) a6
  have hF8 : Fr w (w7.setCell ⟨g1, j, none⟩ (.slice (some ⟨g, 0, none⟩) n c)) bs := hF7.far _ a4
  refine ⟨hF8, ?_, ?_, ?_, ?_, ?_, a1, a2, a3, a4, a5, ?_⟩
  · have := (h.b1.below hb7 a1).set_ j (.slice (some ⟨g, 0, none⟩) n c)
    rw [hV] at this
    exact this
  · exact (h.b2.below hb7 a2).far (by simp; omega) _
  · exact ho.keep fun k hk => Below.heap_setCell w7 _ _ k (by have := (ho.block k hk).1; simp; omega)
  · refine h.o2.keep fun k hk => ?_
    obtain ⟨c1, c2⟩ := h.o2.block k hk
    rw [Below.heap_setCell w7 _ _ k (by simp; omega)]
    exact (hg.block k (by rw [hsz]; omega) (fun e => h.sp k e.symm hk)).trans (Below.heap_alloc wr.drew o k c2)
  · intro k hk h2
    simp [Value.ownBlock] at hk
    subst hk
    rcases hn with hn | hn
    · exact h.sp _ hn h2
    · have := (h.o2.block _ h2).2
      rw [hsz] at hn; omega
  · simp; omega
theorem SpKid.keepB {w wr w7 : World} {bs : List (TypeId × Array Value)} {g1 g2 B : Nat} {V1 V2 : Value → Array Value} {v1 v2 : Value} {l1 l2 : List Kid} {o : Obj} {j : Nat} {u : Value} (h : SpKid w wr bs g1 g2 B V1 V2 v1 v2 l1 l2)
    (hg : (wr.drew.alloc o).grownBy w7 v1.ownBlock) : ∀ b, b < B → b ≠ g1 → (w7.setCell ⟨g1, j, none⟩ u).heap[b]? = wr.heap[b]? := by
  intro b hb hne
  obtain ⟨_, _, _, _, _, a6⟩ := h.lt
  rw [Below.heap_setCell w7 _ _ b (by simpa using hne)]
  refine (hg.block b (by simp; omega) (fun e => ?_)).trans (Below.heap_alloc wr.drew o b (by show b < wr.heap.size; omega))
  have := (h.o1.block b e.symm).1
  omega
end Go.Proofs.Ytjbdmaehomhdeaa
