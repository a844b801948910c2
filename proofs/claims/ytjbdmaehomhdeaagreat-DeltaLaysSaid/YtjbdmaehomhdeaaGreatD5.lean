/- page.Put. -/
import Derived.Test.YtjbdmaehomhdeaaGreatZD
import Derived.Test.YtjbdmaehomhdeaaGreatZB
set_option linter.unusedSimpArgs false
set_option linter.unusedVariables false
namespace Go.Proofs.YtjbdmaehomhdeaaGreat
open Go.RowKit

/-- what a call answers with a page of its own and an errno -/
def PostPE (w : World) (q : Page) (n : Int) (e : Ending) (w' : World) : Prop := ∃ vi vk, e = .returned (.tuple #[q.valW vi vk, .int .i64 n]) ∧ OwnItem w' w.heap.size vi q.items ∧ OwnKid w' w.heap.size vk q.kids ∧ Below w.heap.size w w'
theorem PostPE.nothing {w w' : World} {n : Int} (hb : Below w.heap.size w w') : PostPE w Page.zero n (.returned (.tuple #[.agg #[Value.int IntKind.i64 0, Value.string { data := #[] }, Value.string { data := #[] }, Value.bool false, Value.int IntKind.i64 0, Value.slice none 0 0, Value.slice none 0 0], .int .i64 n])) w' :=
  ⟨.slice none 0 0, .slice none 0 0, rfl, OwnItem.nil _ _, OwnKid.nil _ _, hb⟩

theorem Page.sortedI {p : Page} (h : p.ok = true) : Sorted Item.key p.items := by
  unfold Page.ok at h
  simp only [Bool.and_eq_true, Bool.or_eq_true, Bool.not_eq_true'] at h
  obtain ⟨⟨hb, hl⟩, hi⟩ := h
  have hlv := bounds_level hb
  by_cases h0 : p.level = 0
  · have hlf : p.leafB = true := by
      rcases hl with h | h
      · simp [h0] at h
      · exact h
    unfold Page.leafB at hlf
    simp only [Bool.and_eq_true] at hlf
    exact sorted_of_rises (p := p) hlf.2
  · have hin : p.innerB = true := by
      rcases hi with h | h
      · simp at h; omega
      · exact h
    unfold Page.innerB at hin
    simp only [Bool.and_eq_true, decide_eq_true_eq] at hin
    have hk : p.items = [] := List.eq_nil_of_length_eq_zero hin.1.1.1.1.1
    rw [hk]
    intro i j x y _ hx
    simp at hx

noncomputable def Page.putFits (p : Page) (x : Item) : Bool := (p.level == 0) && p.covers x.key && (isAt Item.key p.items x.key || decide (p.items.length < 120))
def putL (l : List Item) (x : Item) : List Item :=
  match isAt Item.key l x.key, l[posOf Item.key l x.key]? with
  | true, some y => cond (decide (y.no ≥ x.no)) l (l.set (posOf Item.key l x.key) x)
  | _, _ => l.take (posOf Item.key l x.key) ++ x :: l.drop (posOf Item.key l x.key)
noncomputable def Page.putE (p : Page) (x : Item) : Int := if x.check = 0 then (if p.check = 0 then (if p.putFits x = true then 0 else 103) else p.check) else x.check
noncomputable def Page.putP (p : Page) (x : Item) : Page := if p.putE x = 0 then { p with items := putL p.items x } else Page.zero
theorem put_bad {p : Page} {x : Item} {n : Int} (h : p.putE x = n) (hn : n ≠ 0) : p.putP x = Page.zero := by
  unfold Page.putP; rw [if_neg (by rw [h]; exact hn)]
theorem isAt_some {l : List Item} {k : ByteArray} (h : isAt Item.key l k = true) : ∃ y, l[posOf Item.key l k]? = some y ∧ y.key = k := by
  unfold isAt at h
  split at h
  · rename_i y hy
    exact ⟨y, hy, by simpa using h⟩
  · cases h

/-- what Insert does at a place of a list -/
def InsItem (l : List Item) (k : Nat) : Prop := ∀ (base g0 : Nat) (v : Value) (x : Item) (w : World), OwnItem w base v l → Blk w g0 23 x.cells.toArray → (∀ b, v.ownBlock = some b → b ≠ g0) → base ≤ w.heap.size →
  Calls Tryz.prog 118 #[v, .int .i64 (k : Nat), .slice (some ⟨g0, 0, none⟩) 1 1] w (PostIItem w base v (l.take k ++ x :: l.drop k))
theorem insItem_end (l : List Item) (h : l.length ≤ 1000) : InsItem l l.length := by
  intro base g0 v x w h1 h2 _ h3
  rw [List.take_length, List.drop_length]
  exact insert_end_item base g0 v l x w h1 h2 h h3

/-- within Put: the page, the item, the result in blocks of their own -/
structure PtW (w wc : World) (pa : Array Value) (x : Item) : Prop where
  be : Below w.heap.size w wc
  pb : Blk wc w.heap.size 27 pa
  xb : Blk wc (w.heap.size + 1) 23 #[.string x.key, .string x.value, .int .i64 x.no, .bool x.gone]
  rb : Blk wc (w.heap.size + 2) 27 #[Value.int IntKind.i64 0, Value.string { data := #[] }, Value.string { data := #[] }, Value.bool false, Value.int IntKind.i64 0, Value.slice none 0 0, Value.slice none 0 0]
section
variable {w wc w' : World} {pa : Array Value} {x : Item}
theorem PtW.start : PtW w (((w.alloc (.cells pa 27)).alloc (.cells #[.string x.key, .string x.value, .int .i64 x.no, .bool x.gone] 23)).alloc (.cells #[Value.int IntKind.i64 0, Value.string { data := #[] }, Value.string { data := #[] }, Value.bool false, Value.int IntKind.i64 0, Value.slice none 0 0, Value.slice none 0 0] 27)) pa x := by
  refine ⟨(((Below.refl _ _).alloc (Nat.le_refl _) _).alloc (by simp) _).alloc (by simp; omega) _, ((Blk.new _ _ _).alloc _).alloc _, ?_, ?_⟩
  · have h1 := Blk.new (w.alloc (.cells pa 27)) 23 #[.string x.key, .string x.value, .int .i64 x.no, .bool x.gone]
    have h2 : Blk ((w.alloc (.cells pa 27)).alloc (.cells #[.string x.key, .string x.value, .int .i64 x.no, .bool x.gone] 23)) (w.heap.size + 1) 23 #[.string x.key, .string x.value, .int .i64 x.no, .bool x.gone] := by simpa using h1
    exact h2.alloc _
  · have h1 := Blk.new ((w.alloc (.cells pa 27)).alloc (.cells #[.string x.key, .string x.value, .int .i64 x.no, .bool x.gone] 23)) 27 #[Value.int IntKind.i64 0, Value.string { data := #[] }, Value.string { data := #[] }, Value.bool false, Value.int IntKind.i64 0, Value.slice none 0 0, Value.slice none 0 0]
    simpa using h1
theorem PtW.on (h : PtW w wc pa x) (hb : Below wc.heap.size wc w') : PtW w w' pa x :=
  ⟨h.be.trans (hb.mono h.be.size), h.pb.below hb h.pb.lt, h.xb.below hb h.xb.lt, h.rb.below hb h.rb.lt⟩
theorem PtW.on' (h : PtW w wc pa x) (hb : Below (w.heap.size + 3) wc w') : PtW w w' pa x :=
  ⟨h.be.trans (hb.mono (by omega)), h.pb.below hb (by omega), h.xb.below hb (by omega), h.rb.below hb (by omega)⟩
theorem PtW.setP {pa' : Array Value} (h : PtW w wc pa x) (i : Nat) (u : Value) (hp : pa.setIfInBounds i u = pa') : PtW w (wc.setCell ⟨w.heap.size, i, none⟩ u) pa' x :=
  ⟨h.be.setCell (p := ⟨w.heap.size, i, none⟩) (Nat.le_refl _) u, by rw [← hp]; exact h.pb.set_ i u, h.xb.far (by simp) u, h.rb.far (by simp) u⟩
theorem PtW.drew (h : PtW w wc pa x) (n : Nat) : PtW w (wc.drewN n) pa x := ⟨below_drewN h.be n, h.pb, h.xb, h.rb⟩
end
theorem PtW.grown {w wc w' : World} {pa : Array Value} {x : Item} {o : Option Nat} (h : PtW w wc pa x) (hg : wc.grownBy w' o) (ho : ∀ k, o = some k → w.heap.size + 3 ≤ k) : PtW w w' pa x := by
  have h1 := h.rb.lt
  refine h.on' (Below.grown (Below.refl (w.heap.size + 3) wc) hg (by omega) ho)
theorem own_apart {w : World} {b b' : Nat} {vi vk : Value} {l : List Item} {m : List Kid} (h1 : OwnItem w b vi l) (h2 : OwnKid w b' vk m) : ∀ k, vi.ownBlock = some k → vk.ownBlock ≠ some k := by
  intro k hk hk2
  rcases h1.2 with ⟨rfl, _⟩ | ⟨g, cap, cur, rfl, _, hh, _⟩
  · simp [Value.ownBlock] at hk
  · rcases h2.2 with ⟨rfl, _⟩ | ⟨g', cap', cur', rfl, _, hh', _⟩
    · simp [Value.ownBlock] at hk2
    · simp [Value.ownBlock] at hk hk2
      subst hk hk2
      rw [hh] at hh'
      injection hh' with e
      injection e with e1 e2
      cases e2
theorem own_flat_set {l : List Item} {i : Nat} (hi : i < l.length) (x : Item) : (l.set i x).flatMap Item.cells = ((((l.flatMap Item.cells).set (i * 4) (.string x.key)).set (i * 4 + 1) (.string x.value)).set (i * 4 + 2) (.int .i64 x.no)).set (i * 4 + 3) (.bool x.gone) := by
  induction l generalizing i with
  | nil => simp at hi
  | cons y l ih =>
    cases i with
    | zero => simp [Item.cells]
    | succ i =>
      simp only [List.length_cons] at hi
      have h := ih (i := i) (by omega)
      simp only [List.set_cons_succ, List.flatMap_cons, h]
      have e : y.cells.length = 4 := rfl
      rw [List.set_append_right _ _ (by rw [e]; omega), List.set_append_right _ _ (by rw [e]; omega), List.set_append_right _ _ (by rw [e]; omega), List.set_append_right _ _ (by rw [e]; omega), e]
      rw [show (i + 1) * 4 - 4 = i * 4 by omega, show (i + 1) * 4 + 1 - 4 = i * 4 + 1 by omega, show (i + 1) * 4 + 2 - 4 = i * 4 + 2 by omega, show (i + 1) * 4 + 3 - 4 = i * 4 + 3 by omega]

/-- an element of a list of its own is written over -/
theorem OwnItem.setAt {w : World} {base g n cap k : Nat} {l : List Item} {cur : Array Value} (x : Item) (hb : Blk w g 23 cur) (hg : base ≤ g) (hl : n = l.length) (hn : n ≤ cap) (hm : cap ≤ maxLen) (hs : cur.size = cap * 4) (ht : cur.toList.take (n * 4) = l.flatMap Item.cells) (hk : k < l.length) :
    OwnItem ((((w.setCell ⟨g, k * 4, none⟩ (.string x.key)).setCell ⟨g, k * 4 + 1, none⟩ (.string x.value)).setCell ⟨g, k * 4 + 2, none⟩ (.int .i64 x.no)).setCell ⟨g, k * 4 + 3, none⟩ (.bool x.gone)) base (.slice (some ⟨g, 0, none⟩) n cap) (l.set k x) := by
  refine ⟨by rw [Item.cells_length], .inr ⟨g, cap, _, by rw [List.length_set, hl], hg, (((hb.set_ (k * 4) (.string x.key)).set_ (k * 4 + 1) (.string x.value)).set_ (k * 4 + 2) (.int .i64 x.no)).set_ (k * 4 + 3) (.bool x.gone), by rw [List.length_set, ← hl]; exact hn, hm, by simpa using hs, ?_⟩⟩
  rw [List.length_set, ← hl, own_flat_set hk, ← ht]
  simp only [Array.toList_setIfInBounds, List.take_set]

set_option maxRecDepth 100000 in
set_option maxHeartbeats 20000000 in
theorem page_Put (p : Page) (A A' : Option Addr) (c c' lo : Nat) (x : Item) (w : World) (hp : Pg w lo w.heap.size p A A' c c') (hins : p.putE x = 0 → isAt Item.key p.items x.key = false → InsItem p.items (posOf Item.key p.items x.key)) :
    Calls Tryz.prog 115 #[p.val A c A' c', x.val] w (PostPE w (p.putP x) (p.putE x)) := by
  have HCH := Lib.hid (fun w1 h => page_Check p A A' c c' lo w1 h)
  have HOW := Lib.hid (fun w1 h h1 h2 => page_own p A A' c c' lo w1 h h1 h2)
  have HPL := Lib.hid (fun w1 h h2 => place_item A c lo p.items x.key w1 h hp.bi h2)
  have HCV := Lib.hid (fun n1 n2 w1 => page_Covers p A A' n1 c n2 c' x.key w1)
  have H1 := Lib.hid hp
  have HINS := Lib.hid hins
  clear hp hins
  unfold Page.val Page.raw at HCH HOW
  unfold Page.val Page.raw Item.val
  obtain ⟨ni, hni⟩ : ∃ n, n = p.items.length := ⟨_, rfl⟩
  obtain ⟨nk, hnk⟩ : ∃ n, n = p.kids.length := ⟨_, rfl⟩
  obtain ⟨lv, hlv⟩ : ∃ n, n = p.level := ⟨_, rfl⟩
  rw [← hni, ← hnk, ← hlv] at HCH HOW
  rw [← hni] at HPL
  rw [← hlv] at HCV
  rw [← hni, ← hnk, ← hlv]
  have HNI := Lib.hid hni
  have HNK := Lib.hid hnk
  have HLV := Lib.hid hlv
  clear hni hnk hlv
  have T0 := Lib.hid (PtW.start (w := w) (pa := #[Value.int IntKind.i64 lv, Value.string p.low, Value.string p.high, Value.bool p.last, Value.int IntKind.i64 p.side, Value.slice A ni c, Value.slice A' nk c']) (x := x))
  go_enter Tryz.func115, Tryz.ntmps115
  go_upto_region 1 with (fail)
  generalize ((w.alloc (.cells #[Value.int IntKind.i64 lv, Value.string p.low, Value.string p.high, Value.bool p.last, Value.int IntKind.i64 p.side, Value.slice A ni c, Value.slice A' nk c'] 27)).alloc (.cells #[Value.string x.key, Value.string x.value, Value.int IntKind.i64 x.no, Value.bool x.gone] 23)).alloc (.cells #[Value.int IntKind.i64 0, Value.string { data := #[] }, Value.string { data := #[] }, Value.bool false, Value.int IntKind.i64 0, Value.slice none 0 0, Value.slice none 0 0] 27) = w0 at *
  have HRD : Hid (∀ W, Below w.heap.size w W → Pg W lo W.heap.size p A A' c c') := Lib.hid fun W h => (H1.out.below h).mono (Nat.le_refl _) h.size
  obtain ⟨p0, p1, p2, p3, p4, p5, p6⟩ := Blk.cells7 T0.out.pb
  obtain ⟨x0, x1, x2, x3⟩ := Blk.cells4 T0.out.xb
  by_cases hxc : x.check = 0
  case neg =>
    have hx100 : x.check = 100 := by unfold Item.check at hxc ⊢; split <;> simp_all
    have HPE : Hid (p.putE x = 100) := Lib.hid (by unfold Page.putE; rw [if_neg hxc, hx100])
    have HX := Lib.hid hx100
    clear hxc hx100
    go_wp2_with fail
    refine (page_CheckItem x _).mono ?_
    rw [HX.out]
    rintro e w1 ⟨rfl, hb1⟩
    have T1 := Lib.hid (T0.out.on hb1)
    clear hb1
    have HE : Hid (Blk (((((((w1.setCell ⟨w.heap.size + 2, 0, none⟩ (Value.int IntKind.i64 0)).setCell ⟨w.heap.size + 2, 1, none⟩ (Value.string { data := #[] })).setCell ⟨w.heap.size + 2, 2, none⟩ (Value.string { data := #[] })).setCell ⟨w.heap.size + 2, 3, none⟩ (Value.bool false)).setCell ⟨w.heap.size + 2, 4, none⟩ (Value.int IntKind.i64 0)).setCell ⟨w.heap.size + 2, 5, none⟩ (Value.slice none 0 0)).setCell ⟨w.heap.size + 2, 6, none⟩ (Value.slice none 0 0)) (w.heap.size + 2) 27 #[Value.int IntKind.i64 0, Value.string { data := #[] }, Value.string { data := #[] }, Value.bool false, Value.int IntKind.i64 0, Value.slice none 0 0, Value.slice none 0 0]) := Lib.hid (((((((T1.out.rb.set_ 0 (Value.int IntKind.i64 0)).set_ 1 (Value.string { data := #[] })).set_ 2 (Value.string { data := #[] })).set_ 3 (Value.bool false)).set_ 4 (Value.int IntKind.i64 0)).set_ 5 (Value.slice none 0 0)).set_ 6 (Value.slice none 0 0))
    have HBE : Hid (Below w.heap.size w (((((((w1.setCell ⟨w.heap.size + 2, 0, none⟩ (Value.int IntKind.i64 0)).setCell ⟨w.heap.size + 2, 1, none⟩ (Value.string { data := #[] })).setCell ⟨w.heap.size + 2, 2, none⟩ (Value.string { data := #[] })).setCell ⟨w.heap.size + 2, 3, none⟩ (Value.bool false)).setCell ⟨w.heap.size + 2, 4, none⟩ (Value.int IntKind.i64 0)).setCell ⟨w.heap.size + 2, 5, none⟩ (Value.slice none 0 0)).setCell ⟨w.heap.size + 2, 6, none⟩ (Value.slice none 0 0))) := Lib.hid (((((((T1.out.be.setCell (p := ⟨w.heap.size + 2, 0, none⟩) (by simp) (Value.int IntKind.i64 0)).setCell (p := ⟨w.heap.size + 2, 1, none⟩) (by simp) (Value.string { data := #[] })).setCell (p := ⟨w.heap.size + 2, 2, none⟩) (by simp) (Value.string { data := #[] })).setCell (p := ⟨w.heap.size + 2, 3, none⟩) (by simp) (Value.bool false)).setCell (p := ⟨w.heap.size + 2, 4, none⟩) (by simp) (Value.int IntKind.i64 0)).setCell (p := ⟨w.heap.size + 2, 5, none⟩) (by simp) (Value.slice none 0 0)).setCell (p := ⟨w.heap.size + 2, 6, none⟩) (by simp) (Value.slice none 0 0))
    obtain ⟨z0, z1, z2, z3, z4, z5, z6⟩ := Blk.cells7 T1.out.rb
    have hfz : ∀ i, w1.frozen? ⟨w.heap.size + 2, i, none⟩ = false := T1.out.rb.frozen
    go_wp2
    generalize (((((((w1.setCell ⟨w.heap.size + 2, 0, none⟩ (Value.int IntKind.i64 0)).setCell ⟨w.heap.size + 2, 1, none⟩ (Value.string { data := #[] })).setCell ⟨w.heap.size + 2, 2, none⟩ (Value.string { data := #[] })).setCell ⟨w.heap.size + 2, 3, none⟩ (Value.bool false)).setCell ⟨w.heap.size + 2, 4, none⟩ (Value.int IntKind.i64 0)).setCell ⟨w.heap.size + 2, 5, none⟩ (Value.slice none 0 0)).setCell ⟨w.heap.size + 2, 6, none⟩ (Value.slice none 0 0)) = wE at *
    obtain ⟨e0, e1, e2, e3, e4, e5, e6⟩ := Blk.cells7 HE.out
    exact bodyPost_ret (v := .tuple #[.agg #[Value.int IntKind.i64 0, Value.string { data := #[] }, Value.string { data := #[] }, Value.bool false, Value.int IntKind.i64 0, Value.slice none 0 0, Value.slice none 0 0], .int .i64 100]) (by simp [results, Tryz.results115, go_sem, e0, e1, e2, e3, e4, e5, e6]) rfl (by rw [HPE.out, put_bad HPE.out (by decide)]; exact PostPE.nothing HBE.out)

  have HXC := Lib.hid hxc
  clear hxc
  go_wp2_with fail
  refine (page_CheckItem x _).mono ?_
  rw [HXC.out]
  rintro e w1 ⟨rfl, hb1⟩
  have T1 := Lib.hid (T0.out.on hb1)
  clear p0 p1 p2 p3 p4 p5 p6 x0 x1 x2 x3 hb1
  obtain ⟨p0, p1, p2, p3, p4, p5, p6⟩ := Blk.cells7 T1.out.pb
  obtain ⟨x0, x1, x2, x3⟩ := Blk.cells4 T1.out.xb
  go_wp2_with fail
  refine (HCH.out w1 (HRD.out w1 T1.out.be)).mono ?_
  cases hok : p.ok with
  | false =>
    have hc0 : p.check = 101 := by unfold Page.check; rw [hok]; rfl
    have HPE : Hid (p.putE x = 101) := Lib.hid (by unfold Page.putE; rw [if_pos HXC.out, hc0]; rfl)
    have HX := Lib.hid hc0
    clear hc0 hok
    rw [HX.out]
    rintro e w2 ⟨rfl, hb2⟩
    have T2 := Lib.hid (T1.out.on hb2)
    clear hb2
    have HE : Hid (Blk (((((((w2.setCell ⟨w.heap.size + 2, 0, none⟩ (Value.int IntKind.i64 0)).setCell ⟨w.heap.size + 2, 1, none⟩ (Value.string { data := #[] })).setCell ⟨w.heap.size + 2, 2, none⟩ (Value.string { data := #[] })).setCell ⟨w.heap.size + 2, 3, none⟩ (Value.bool false)).setCell ⟨w.heap.size + 2, 4, none⟩ (Value.int IntKind.i64 0)).setCell ⟨w.heap.size + 2, 5, none⟩ (Value.slice none 0 0)).setCell ⟨w.heap.size + 2, 6, none⟩ (Value.slice none 0 0)) (w.heap.size + 2) 27 #[Value.int IntKind.i64 0, Value.string { data := #[] }, Value.string { data := #[] }, Value.bool false, Value.int IntKind.i64 0, Value.slice none 0 0, Value.slice none 0 0]) := Lib.hid (((((((T2.out.rb.set_ 0 (Value.int IntKind.i64 0)).set_ 1 (Value.string { data := #[] })).set_ 2 (Value.string { data := #[] })).set_ 3 (Value.bool false)).set_ 4 (Value.int IntKind.i64 0)).set_ 5 (Value.slice none 0 0)).set_ 6 (Value.slice none 0 0))
    have HBE : Hid (Below w.heap.size w (((((((w2.setCell ⟨w.heap.size + 2, 0, none⟩ (Value.int IntKind.i64 0)).setCell ⟨w.heap.size + 2, 1, none⟩ (Value.string { data := #[] })).setCell ⟨w.heap.size + 2, 2, none⟩ (Value.string { data := #[] })).setCell ⟨w.heap.size + 2, 3, none⟩ (Value.bool false)).setCell ⟨w.heap.size + 2, 4, none⟩ (Value.int IntKind.i64 0)).setCell ⟨w.heap.size + 2, 5, none⟩ (Value.slice none 0 0)).setCell ⟨w.heap.size + 2, 6, none⟩ (Value.slice none 0 0))) := Lib.hid (((((((T2.out.be.setCell (p := ⟨w.heap.size + 2, 0, none⟩) (by simp) (Value.int IntKind.i64 0)).setCell (p := ⟨w.heap.size + 2, 1, none⟩) (by simp) (Value.string { data := #[] })).setCell (p := ⟨w.heap.size + 2, 2, none⟩) (by simp) (Value.string { data := #[] })).setCell (p := ⟨w.heap.size + 2, 3, none⟩) (by simp) (Value.bool false)).setCell (p := ⟨w.heap.size + 2, 4, none⟩) (by simp) (Value.int IntKind.i64 0)).setCell (p := ⟨w.heap.size + 2, 5, none⟩) (by simp) (Value.slice none 0 0)).setCell (p := ⟨w.heap.size + 2, 6, none⟩) (by simp) (Value.slice none 0 0))
    obtain ⟨z0, z1, z2, z3, z4, z5, z6⟩ := Blk.cells7 T2.out.rb
    have hfz : ∀ i, w2.frozen? ⟨w.heap.size + 2, i, none⟩ = false := T2.out.rb.frozen
    go_wp2
    generalize (((((((w2.setCell ⟨w.heap.size + 2, 0, none⟩ (Value.int IntKind.i64 0)).setCell ⟨w.heap.size + 2, 1, none⟩ (Value.string { data := #[] })).setCell ⟨w.heap.size + 2, 2, none⟩ (Value.string { data := #[] })).setCell ⟨w.heap.size + 2, 3, none⟩ (Value.bool false)).setCell ⟨w.heap.size + 2, 4, none⟩ (Value.int IntKind.i64 0)).setCell ⟨w.heap.size + 2, 5, none⟩ (Value.slice none 0 0)).setCell ⟨w.heap.size + 2, 6, none⟩ (Value.slice none 0 0)) = wE at *
    obtain ⟨e0, e1, e2, e3, e4, e5, e6⟩ := Blk.cells7 HE.out
    exact bodyPost_ret (v := .tuple #[.agg #[Value.int IntKind.i64 0, Value.string { data := #[] }, Value.string { data := #[] }, Value.bool false, Value.int IntKind.i64 0, Value.slice none 0 0, Value.slice none 0 0], .int .i64 101]) (by simp [results, Tryz.results115, go_sem, e0, e1, e2, e3, e4, e5, e6]) rfl (by rw [HPE.out, put_bad HPE.out (by decide)]; exact PostPE.nothing HBE.out)

  | true =>
    have hc0 : p.check = 0 := by unfold Page.check; rw [hok]; rfl
    have HX := Lib.hid hc0
    have HOK := Lib.hid hok
    have HFI := Lib.hid (Page.Fine.of_ok hok)
    clear hc0 hok
    rw [HX.out]
    rintro e w2 ⟨rfl, hb2⟩
    have T2 := Lib.hid (T1.out.on hb2)
    clear hb2 p0 p1 p2 p3 p4 p5 p6 x0 x1 x2 x3
    obtain ⟨p0, p1, p2, p3, p4, p5, p6⟩ := Blk.cells7 T2.out.pb
    obtain ⟨x0, x1, x2, x3⟩ := Blk.cells4 T2.out.xb
    go_wp2_with fail
    refine (HPL.out w2 (HRD.out w2 T2.out.be).items (Page.sortedI HOK.out)).mono ?_
    rintro e w3 ⟨rfl, hb3⟩
    have T3 := Lib.hid (T2.out.on hb3)
    clear hb3 p0 p1 p2 p3 p4 p5 p6 x0 x1 x2 x3
    obtain ⟨k0, hk0⟩ : ∃ k, k = posOf Item.key p.items x.key := ⟨_, rfl⟩
    rw [← hk0]
    have hkn : k0 ≤ ni := by rw [hk0, HNI.out]; exact posOf_le _ _ _
    have HK0 := Lib.hid hk0
    clear hk0
    have hnn : ni ≤ 120 := by rw [HNI.out]; exact HFI.out.ni
    have HEE : Hid (p.putE x = if p.putFits x = true then 0 else 103) := Lib.hid (by unfold Page.putE; rw [if_pos HXC.out, if_pos HX.out])
    obtain ⟨p0, p1, p2, p3, p4, p5, p6⟩ := Blk.cells7 T3.out.pb
    obtain ⟨x0, x1, x2, x3⟩ := Blk.cells4 T3.out.xb
    by_cases hlv : lv > 0
    case pos =>
      have HPE : Hid (p.putE x = 103) := Lib.hid (by
        rw [HEE.out, if_neg]
        unfold Page.putFits
        rw [← HLV.out, beq_eq_false_iff_ne.2 (by omega)]; simp)
      have hlv' : decide (lv > 0) = true := decide_eq_true hlv
      have HE : Hid (Blk (((((((w3.setCell ⟨w.heap.size + 2, 0, none⟩ (Value.int IntKind.i64 0)).setCell ⟨w.heap.size + 2, 1, none⟩ (Value.string { data := #[] })).setCell ⟨w.heap.size + 2, 2, none⟩ (Value.string { data := #[] })).setCell ⟨w.heap.size + 2, 3, none⟩ (Value.bool false)).setCell ⟨w.heap.size + 2, 4, none⟩ (Value.int IntKind.i64 0)).setCell ⟨w.heap.size + 2, 5, none⟩ (Value.slice none 0 0)).setCell ⟨w.heap.size + 2, 6, none⟩ (Value.slice none 0 0)) (w.heap.size + 2) 27 #[Value.int IntKind.i64 0, Value.string { data := #[] }, Value.string { data := #[] }, Value.bool false, Value.int IntKind.i64 0, Value.slice none 0 0, Value.slice none 0 0]) := Lib.hid (((((((T3.out.rb.set_ 0 (Value.int IntKind.i64 0)).set_ 1 (Value.string { data := #[] })).set_ 2 (Value.string { data := #[] })).set_ 3 (Value.bool false)).set_ 4 (Value.int IntKind.i64 0)).set_ 5 (Value.slice none 0 0)).set_ 6 (Value.slice none 0 0))
      have HBE : Hid (Below w.heap.size w (((((((w3.setCell ⟨w.heap.size + 2, 0, none⟩ (Value.int IntKind.i64 0)).setCell ⟨w.heap.size + 2, 1, none⟩ (Value.string { data := #[] })).setCell ⟨w.heap.size + 2, 2, none⟩ (Value.string { data := #[] })).setCell ⟨w.heap.size + 2, 3, none⟩ (Value.bool false)).setCell ⟨w.heap.size + 2, 4, none⟩ (Value.int IntKind.i64 0)).setCell ⟨w.heap.size + 2, 5, none⟩ (Value.slice none 0 0)).setCell ⟨w.heap.size + 2, 6, none⟩ (Value.slice none 0 0))) := Lib.hid (((((((T3.out.be.setCell (p := ⟨w.heap.size + 2, 0, none⟩) (by simp) (Value.int IntKind.i64 0)).setCell (p := ⟨w.heap.size + 2, 1, none⟩) (by simp) (Value.string { data := #[] })).setCell (p := ⟨w.heap.size + 2, 2, none⟩) (by simp) (Value.string { data := #[] })).setCell (p := ⟨w.heap.size + 2, 3, none⟩) (by simp) (Value.bool false)).setCell (p := ⟨w.heap.size + 2, 4, none⟩) (by simp) (Value.int IntKind.i64 0)).setCell (p := ⟨w.heap.size + 2, 5, none⟩) (by simp) (Value.slice none 0 0)).setCell (p := ⟨w.heap.size + 2, 6, none⟩) (by simp) (Value.slice none 0 0))
      obtain ⟨z0, z1, z2, z3, z4, z5, z6⟩ := Blk.cells7 T3.out.rb
      have hfz : ∀ i, w3.frozen? ⟨w.heap.size + 2, i, none⟩ = false := T3.out.rb.frozen
      go_wp2
      generalize (((((((w3.setCell ⟨w.heap.size + 2, 0, none⟩ (Value.int IntKind.i64 0)).setCell ⟨w.heap.size + 2, 1, none⟩ (Value.string { data := #[] })).setCell ⟨w.heap.size + 2, 2, none⟩ (Value.string { data := #[] })).setCell ⟨w.heap.size + 2, 3, none⟩ (Value.bool false)).setCell ⟨w.heap.size + 2, 4, none⟩ (Value.int IntKind.i64 0)).setCell ⟨w.heap.size + 2, 5, none⟩ (Value.slice none 0 0)).setCell ⟨w.heap.size + 2, 6, none⟩ (Value.slice none 0 0)) = wE at *
      obtain ⟨e0, e1, e2, e3, e4, e5, e6⟩ := Blk.cells7 HE.out
      exact bodyPost_ret (v := .tuple #[.agg #[Value.int IntKind.i64 0, Value.string { data := #[] }, Value.string { data := #[] }, Value.bool false, Value.int IntKind.i64 0, Value.slice none 0 0, Value.slice none 0 0], .int .i64 103]) (by simp [results, Tryz.results115, go_sem, e0, e1, e2, e3, e4, e5, e6]) rfl (by rw [HPE.out, put_bad HPE.out (by decide)]; exact PostPE.nothing HBE.out)

    have hlv' : decide (lv > 0) = false := decide_eq_false hlv
    have HL0 : Hid (lv = 0) := Lib.hid (by have := HFI.out.lv; rw [← HLV.out] at this; omega)
    cases hcov : p.covers x.key with
    | false =>
      have HPE : Hid (p.putE x = 103) := Lib.hid (by rw [HEE.out, if_neg]; unfold Page.putFits; rw [hcov]; simp)
      have HCO := Lib.hid hcov
      clear hcov
      go_wp2_with (go_at_call 52; refine (HCV.out _ _ _).mono ?_; rw [HCO.out]; rintro e w4 ⟨rfl, hb4⟩; have T4 := Lib.hid (T3.out.on hb4); clear hb4; obtain ⟨z0, z1, z2, z3, z4, z5, z6⟩ := Blk.cells7 T4.out.rb; have hfz : ∀ i, w4.frozen? ⟨w.heap.size + 2, i, none⟩ = false := T4.out.rb.frozen; obtain ⟨r0, r1, r2, r3, r4, r5, r6⟩ := Blk.cells7 T4.out.pb; obtain ⟨y0, y1, y2, y3⟩ := Blk.cells4 T4.out.xb)
      have HE : Hid (Blk (((((((w4.setCell ⟨w.heap.size + 2, 0, none⟩ (Value.int IntKind.i64 0)).setCell ⟨w.heap.size + 2, 1, none⟩ (Value.string { data := #[] })).setCell ⟨w.heap.size + 2, 2, none⟩ (Value.string { data := #[] })).setCell ⟨w.heap.size + 2, 3, none⟩ (Value.bool false)).setCell ⟨w.heap.size + 2, 4, none⟩ (Value.int IntKind.i64 0)).setCell ⟨w.heap.size + 2, 5, none⟩ (Value.slice none 0 0)).setCell ⟨w.heap.size + 2, 6, none⟩ (Value.slice none 0 0)) (w.heap.size + 2) 27 #[Value.int IntKind.i64 0, Value.string { data := #[] }, Value.string { data := #[] }, Value.bool false, Value.int IntKind.i64 0, Value.slice none 0 0, Value.slice none 0 0]) := Lib.hid (((((((T4.out.rb.set_ 0 (Value.int IntKind.i64 0)).set_ 1 (Value.string { data := #[] })).set_ 2 (Value.string { data := #[] })).set_ 3 (Value.bool false)).set_ 4 (Value.int IntKind.i64 0)).set_ 5 (Value.slice none 0 0)).set_ 6 (Value.slice none 0 0))
      have HBE : Hid (Below w.heap.size w (((((((w4.setCell ⟨w.heap.size + 2, 0, none⟩ (Value.int IntKind.i64 0)).setCell ⟨w.heap.size + 2, 1, none⟩ (Value.string { data := #[] })).setCell ⟨w.heap.size + 2, 2, none⟩ (Value.string { data := #[] })).setCell ⟨w.heap.size + 2, 3, none⟩ (Value.bool false)).setCell ⟨w.heap.size + 2, 4, none⟩ (Value.int IntKind.i64 0)).setCell ⟨w.heap.size + 2, 5, none⟩ (Value.slice none 0 0)).setCell ⟨w.heap.size + 2, 6, none⟩ (Value.slice none 0 0))) := Lib.hid (((((((T4.out.be.setCell (p := ⟨w.heap.size + 2, 0, none⟩) (by simp) (Value.int IntKind.i64 0)).setCell (p := ⟨w.heap.size + 2, 1, none⟩) (by simp) (Value.string { data := #[] })).setCell (p := ⟨w.heap.size + 2, 2, none⟩) (by simp) (Value.string { data := #[] })).setCell (p := ⟨w.heap.size + 2, 3, none⟩) (by simp) (Value.bool false)).setCell (p := ⟨w.heap.size + 2, 4, none⟩) (by simp) (Value.int IntKind.i64 0)).setCell (p := ⟨w.heap.size + 2, 5, none⟩) (by simp) (Value.slice none 0 0)).setCell (p := ⟨w.heap.size + 2, 6, none⟩) (by simp) (Value.slice none 0 0))
      generalize (((((((w4.setCell ⟨w.heap.size + 2, 0, none⟩ (Value.int IntKind.i64 0)).setCell ⟨w.heap.size + 2, 1, none⟩ (Value.string { data := #[] })).setCell ⟨w.heap.size + 2, 2, none⟩ (Value.string { data := #[] })).setCell ⟨w.heap.size + 2, 3, none⟩ (Value.bool false)).setCell ⟨w.heap.size + 2, 4, none⟩ (Value.int IntKind.i64 0)).setCell ⟨w.heap.size + 2, 5, none⟩ (Value.slice none 0 0)).setCell ⟨w.heap.size + 2, 6, none⟩ (Value.slice none 0 0)) = wE at *
      obtain ⟨e0, e1, e2, e3, e4, e5, e6⟩ := Blk.cells7 HE.out
      exact bodyPost_ret (v := .tuple #[.agg #[Value.int IntKind.i64 0, Value.string { data := #[] }, Value.string { data := #[] }, Value.bool false, Value.int IntKind.i64 0, Value.slice none 0 0, Value.slice none 0 0], .int .i64 103]) (by simp [results, Tryz.results115, go_sem, e0, e1, e2, e3, e4, e5, e6]) rfl (by rw [HPE.out, put_bad HPE.out (by decide)]; exact PostPE.nothing HBE.out)

    | true =>
      have HCO := Lib.hid hcov
      clear hcov
      cases his : isAt Item.key p.items x.key with
      | false =>
        have HIS := Lib.hid his
        clear his
        by_cases hfull : ni ≥ 120
        · have HPE : Hid (p.putE x = 103) := Lib.hid (by
            rw [HEE.out, if_neg]; unfold Page.putFits; rw [HIS.out, ← HNI.out]
            have : ¬ ni < 120 := by omega
            simp [this])
          have hfull' : decide ((ni : Int) ≥ 120) = true := decide_eq_true (by omega)
          go_wp2_with (go_at_call 52; refine (HCV.out _ _ _).mono ?_; rw [HCO.out]; rintro e w4 ⟨rfl, hb4⟩; have T4 := Lib.hid (T3.out.on hb4); clear hb4; obtain ⟨z0, z1, z2, z3, z4, z5, z6⟩ := Blk.cells7 T4.out.rb; have hfz : ∀ i, w4.frozen? ⟨w.heap.size + 2, i, none⟩ = false := T4.out.rb.frozen; obtain ⟨r0, r1, r2, r3, r4, r5, r6⟩ := Blk.cells7 T4.out.pb; obtain ⟨y0, y1, y2, y3⟩ := Blk.cells4 T4.out.xb)
          have HE : Hid (Blk (((((((w4.setCell ⟨w.heap.size + 2, 0, none⟩ (Value.int IntKind.i64 0)).setCell ⟨w.heap.size + 2, 1, none⟩ (Value.string { data := #[] })).setCell ⟨w.heap.size + 2, 2, none⟩ (Value.string { data := #[] })).setCell ⟨w.heap.size + 2, 3, none⟩ (Value.bool false)).setCell ⟨w.heap.size + 2, 4, none⟩ (Value.int IntKind.i64 0)).setCell ⟨w.heap.size + 2, 5, none⟩ (Value.slice none 0 0)).setCell ⟨w.heap.size + 2, 6, none⟩ (Value.slice none 0 0)) (w.heap.size + 2) 27 #[Value.int IntKind.i64 0, Value.string { data := #[] }, Value.string { data := #[] }, Value.bool false, Value.int IntKind.i64 0, Value.slice none 0 0, Value.slice none 0 0]) := Lib.hid (((((((T4.out.rb.set_ 0 (Value.int IntKind.i64 0)).set_ 1 (Value.string { data := #[] })).set_ 2 (Value.string { data := #[] })).set_ 3 (Value.bool false)).set_ 4 (Value.int IntKind.i64 0)).set_ 5 (Value.slice none 0 0)).set_ 6 (Value.slice none 0 0))
          have HBE : Hid (Below w.heap.size w (((((((w4.setCell ⟨w.heap.size + 2, 0, none⟩ (Value.int IntKind.i64 0)).setCell ⟨w.heap.size + 2, 1, none⟩ (Value.string { data := #[] })).setCell ⟨w.heap.size + 2, 2, none⟩ (Value.string { data := #[] })).setCell ⟨w.heap.size + 2, 3, none⟩ (Value.bool false)).setCell ⟨w.heap.size + 2, 4, none⟩ (Value.int IntKind.i64 0)).setCell ⟨w.heap.size + 2, 5, none⟩ (Value.slice none 0 0)).setCell ⟨w.heap.size + 2, 6, none⟩ (Value.slice none 0 0))) := Lib.hid (((((((T4.out.be.setCell (p := ⟨w.heap.size + 2, 0, none⟩) (by simp) (Value.int IntKind.i64 0)).setCell (p := ⟨w.heap.size + 2, 1, none⟩) (by simp) (Value.string { data := #[] })).setCell (p := ⟨w.heap.size + 2, 2, none⟩) (by simp) (Value.string { data := #[] })).setCell (p := ⟨w.heap.size + 2, 3, none⟩) (by simp) (Value.bool false)).setCell (p := ⟨w.heap.size + 2, 4, none⟩) (by simp) (Value.int IntKind.i64 0)).setCell (p := ⟨w.heap.size + 2, 5, none⟩) (by simp) (Value.slice none 0 0)).setCell (p := ⟨w.heap.size + 2, 6, none⟩) (by simp) (Value.slice none 0 0))
          generalize (((((((w4.setCell ⟨w.heap.size + 2, 0, none⟩ (Value.int IntKind.i64 0)).setCell ⟨w.heap.size + 2, 1, none⟩ (Value.string { data := #[] })).setCell ⟨w.heap.size + 2, 2, none⟩ (Value.string { data := #[] })).setCell ⟨w.heap.size + 2, 3, none⟩ (Value.bool false)).setCell ⟨w.heap.size + 2, 4, none⟩ (Value.int IntKind.i64 0)).setCell ⟨w.heap.size + 2, 5, none⟩ (Value.slice none 0 0)).setCell ⟨w.heap.size + 2, 6, none⟩ (Value.slice none 0 0)) = wE at *
          obtain ⟨e0, e1, e2, e3, e4, e5, e6⟩ := Blk.cells7 HE.out
          exact bodyPost_ret (v := .tuple #[.agg #[Value.int IntKind.i64 0, Value.string { data := #[] }, Value.string { data := #[] }, Value.bool false, Value.int IntKind.i64 0, Value.slice none 0 0, Value.slice none 0 0], .int .i64 103]) (by simp [results, Tryz.results115, go_sem, e0, e1, e2, e3, e4, e5, e6]) rfl (by rw [HPE.out, put_bad HPE.out (by decide)]; exact PostPE.nothing HBE.out)

        · have HPE : Hid (p.putE x = 0) := Lib.hid (by
            rw [HEE.out, if_pos]; unfold Page.putFits; rw [HIS.out, HCO.out, ← HNI.out, ← HLV.out, HL0.out]
            have : ni < 120 := by omega
            simp [this])
          have hfull' : decide ((ni : Int) ≥ 120) = false := decide_eq_false (by omega)
          go_upto_region 10 with (go_at_call 52; refine (HCV.out _ _ _).mono ?_; rw [HCO.out]; rintro e w4 ⟨rfl, hb4⟩; have T4 := Lib.hid (T3.out.on hb4); clear hb4; obtain ⟨z0, z1, z2, z3, z4, z5, z6⟩ := Blk.cells7 T4.out.rb; have hfz : ∀ i, w4.frozen? ⟨w.heap.size + 2, i, none⟩ = false := T4.out.rb.frozen; obtain ⟨r0, r1, r2, r3, r4, r5, r6⟩ := Blk.cells7 T4.out.pb; obtain ⟨y0, y1, y2, y3⟩ := Blk.cells4 T4.out.xb)
          go_quiet (fail)
          go_wp2_with fail
          have TD := Lib.hid (T4.out.drew nq)
          refine (HOW.out _ (HRD.out _ TD.out.be) (by omega) (by rw [HNK.out]; have := HFI.out.nk; omega)).mono ?_
          rintro e w5 ⟨vi, vk, rfl, hOi, hOk, hb5⟩
          have HA := Lib.hid (own_apart hOi hOk)
          have HOi := Lib.hid hOi
          have HOk := Lib.hid hOk
          obtain ⟨EI, dI, rfl, hdI, _⟩ := hOi.form
          obtain ⟨EK, dK, rfl, hdK, _⟩ := hOk.form
          have T5 := Lib.hid (TD.out.on hb5)
          have hs6 : w4.heap.size ≤ w5.heap.size := hb5.size
          have hbs : w.heap.size + 3 ≤ w4.heap.size := T4.out.rb.lt
          clear hOi hOk hb5 p0 p1 p2 p3 p4 p5 p6 x0 x1 x2 x3 r0 r1 r2 r3 r4 r5 r6 y0 y1 y2 y3 z0 z1 z2 z3 z4 z5 z6 hfz
          rw [← HNI.out] at hdI HOi
          rw [← HNK.out] at hdK HOk
          rw [← HNI.out, ← HNK.out, show p.valW (.slice EI ni dI) (.slice EK nk dK) = .agg #[Value.int IntKind.i64 lv, Value.string p.low, Value.string p.high, Value.bool p.last, Value.int IntKind.i64 p.side, Value.slice EI ni dI, Value.slice EK nk dK] by unfold Page.valW; rw [HLV.out]]
          obtain ⟨p0, p1, p2, p3, p4, p5, p6⟩ := Blk.cells7 T5.out.pb
          obtain ⟨x0, x1, x2, x3⟩ := Blk.cells4 T5.out.xb
          have hfp : ∀ i, w5.frozen? ⟨w.heap.size, i, none⟩ = false := T5.out.pb.frozen
          have T6 : Hid (PtW w (((((((w5.setCell ⟨w.heap.size, 0, none⟩ (Value.int IntKind.i64 lv)).setCell ⟨w.heap.size, 1, none⟩ (Value.string p.low)).setCell ⟨w.heap.size, 2, none⟩ (Value.string p.high)).setCell ⟨w.heap.size, 3, none⟩ (Value.bool p.last)).setCell ⟨w.heap.size, 4, none⟩ (Value.int IntKind.i64 p.side)).setCell ⟨w.heap.size, 5, none⟩ (Value.slice EI ni dI)).setCell ⟨w.heap.size, 6, none⟩ (Value.slice EK nk dK)) #[Value.int IntKind.i64 lv, Value.string p.low, Value.string p.high, Value.bool p.last, Value.int IntKind.i64 p.side, Value.slice EI ni dI, Value.slice EK nk dK] x) := Lib.hid (((((((T5.out.setP 0 (Value.int IntKind.i64 lv) rfl).setP 1 (Value.string p.low) rfl).setP 2 (Value.string p.high) rfl).setP 3 (Value.bool p.last) rfl).setP 4 (Value.int IntKind.i64 p.side) rfl).setP 5 (Value.slice EI ni dI) rfl).setP 6 (Value.slice EK nk dK) rfl)
          have HOi6 : Hid (OwnItem (((((((w5.setCell ⟨w.heap.size, 0, none⟩ (Value.int IntKind.i64 lv)).setCell ⟨w.heap.size, 1, none⟩ (Value.string p.low)).setCell ⟨w.heap.size, 2, none⟩ (Value.string p.high)).setCell ⟨w.heap.size, 3, none⟩ (Value.bool p.last)).setCell ⟨w.heap.size, 4, none⟩ (Value.int IntKind.i64 p.side)).setCell ⟨w.heap.size, 5, none⟩ (Value.slice EI ni dI)).setCell ⟨w.heap.size, 6, none⟩ (Value.slice EK nk dK)) w4.heap.size (.slice EI ni dI) p.items) := Lib.hid (((((((HOi.out.setLow (by show _ < w4.heap.size; omega) _).setLow (by show _ < w4.heap.size; omega) _).setLow (by show _ < w4.heap.size; omega) _).setLow (by show _ < w4.heap.size; omega) _).setLow (by show _ < w4.heap.size; omega) _).setLow (by show _ < w4.heap.size; omega) _).setLow (by show _ < w4.heap.size; omega) _)
          have HOk6 : Hid (OwnKid (((((((w5.setCell ⟨w.heap.size, 0, none⟩ (Value.int IntKind.i64 lv)).setCell ⟨w.heap.size, 1, none⟩ (Value.string p.low)).setCell ⟨w.heap.size, 2, none⟩ (Value.string p.high)).setCell ⟨w.heap.size, 3, none⟩ (Value.bool p.last)).setCell ⟨w.heap.size, 4, none⟩ (Value.int IntKind.i64 p.side)).setCell ⟨w.heap.size, 5, none⟩ (Value.slice EI ni dI)).setCell ⟨w.heap.size, 6, none⟩ (Value.slice EK nk dK)) w4.heap.size (.slice EK nk dK) p.kids) := Lib.hid (((((((HOk.out.setLow (by show _ < w4.heap.size; omega) _).setLow (by show _ < w4.heap.size; omega) _).setLow (by show _ < w4.heap.size; omega) _).setLow (by show _ < w4.heap.size; omega) _).setLow (by show _ < w4.heap.size; omega) _).setLow (by show _ < w4.heap.size; omega) _).setLow (by show _ < w4.heap.size; omega) _)
          have HKB : Hid (Blk (World.alloc (((((((w5.setCell ⟨w.heap.size, 0, none⟩ (Value.int IntKind.i64 lv)).setCell ⟨w.heap.size, 1, none⟩ (Value.string p.low)).setCell ⟨w.heap.size, 2, none⟩ (Value.string p.high)).setCell ⟨w.heap.size, 3, none⟩ (Value.bool p.last)).setCell ⟨w.heap.size, 4, none⟩ (Value.int IntKind.i64 p.side)).setCell ⟨w.heap.size, 5, none⟩ (Value.slice EI ni dI)).setCell ⟨w.heap.size, 6, none⟩ (Value.slice EK nk dK)) (.cells #[Value.string x.key, Value.string x.value, Value.int IntKind.i64 x.no, Value.bool x.gone] 23)) w5.heap.size 23 #[Value.string x.key, Value.string x.value, Value.int IntKind.i64 x.no, Value.bool x.gone]) := Lib.hid (by
            have := Blk.new (((((((w5.setCell ⟨w.heap.size, 0, none⟩ (Value.int IntKind.i64 lv)).setCell ⟨w.heap.size, 1, none⟩ (Value.string p.low)).setCell ⟨w.heap.size, 2, none⟩ (Value.string p.high)).setCell ⟨w.heap.size, 3, none⟩ (Value.bool p.last)).setCell ⟨w.heap.size, 4, none⟩ (Value.int IntKind.i64 p.side)).setCell ⟨w.heap.size, 5, none⟩ (Value.slice EI ni dI)).setCell ⟨w.heap.size, 6, none⟩ (Value.slice EK nk dK)) 23 #[Value.string x.key, Value.string x.value, Value.int IntKind.i64 x.no, Value.bool x.gone]
            simpa using this)
          have T7 : Hid (PtW w (World.alloc (((((((w5.setCell ⟨w.heap.size, 0, none⟩ (Value.int IntKind.i64 lv)).setCell ⟨w.heap.size, 1, none⟩ (Value.string p.low)).setCell ⟨w.heap.size, 2, none⟩ (Value.string p.high)).setCell ⟨w.heap.size, 3, none⟩ (Value.bool p.last)).setCell ⟨w.heap.size, 4, none⟩ (Value.int IntKind.i64 p.side)).setCell ⟨w.heap.size, 5, none⟩ (Value.slice EI ni dI)).setCell ⟨w.heap.size, 6, none⟩ (Value.slice EK nk dK)) (.cells #[Value.string x.key, Value.string x.value, Value.int IntKind.i64 x.no, Value.bool x.gone] 23)) #[Value.int IntKind.i64 lv, Value.string p.low, Value.string p.high, Value.bool p.last, Value.int IntKind.i64 p.side, Value.slice EI ni dI, Value.slice EK nk dK] x) := Lib.hid (T6.out.on' ((Below.refl _ _).alloc (by simp; omega) _))
          have HO7 : Hid (OwnItem (World.alloc (((((((w5.setCell ⟨w.heap.size, 0, none⟩ (Value.int IntKind.i64 lv)).setCell ⟨w.heap.size, 1, none⟩ (Value.string p.low)).setCell ⟨w.heap.size, 2, none⟩ (Value.string p.high)).setCell ⟨w.heap.size, 3, none⟩ (Value.bool p.last)).setCell ⟨w.heap.size, 4, none⟩ (Value.int IntKind.i64 p.side)).setCell ⟨w.heap.size, 5, none⟩ (Value.slice EI ni dI)).setCell ⟨w.heap.size, 6, none⟩ (Value.slice EK nk dK)) (.cells #[Value.string x.key, Value.string x.value, Value.int IntKind.i64 x.no, Value.bool x.gone] 23)) w4.heap.size (.slice EI ni dI) p.items ∧ OwnKid (World.alloc (((((((w5.setCell ⟨w.heap.size, 0, none⟩ (Value.int IntKind.i64 lv)).setCell ⟨w.heap.size, 1, none⟩ (Value.string p.low)).setCell ⟨w.heap.size, 2, none⟩ (Value.string p.high)).setCell ⟨w.heap.size, 3, none⟩ (Value.bool p.last)).setCell ⟨w.heap.size, 4, none⟩ (Value.int IntKind.i64 p.side)).setCell ⟨w.heap.size, 5, none⟩ (Value.slice EI ni dI)).setCell ⟨w.heap.size, 6, none⟩ (Value.slice EK nk dK)) (.cells #[Value.string x.key, Value.string x.value, Value.int IntKind.i64 x.no, Value.bool x.gone] 23)) w4.heap.size (.slice EK nk dK) p.kids) := Lib.hid ⟨HOi6.out.below ((Below.refl _ _).alloc (Nat.le_refl _) _) (Nat.le_refl _), HOk6.out.below ((Below.refl _ _).alloc (Nat.le_refl _) _) (Nat.le_refl _)⟩
          have hvb : Hid (∀ k, (Value.slice EI ni dI).ownBlock = some k → w4.heap.size ≤ k ∧ k < w5.heap.size) := Lib.hid (by have := HOi6.out.block; simpa using this)
          go_wp2_with fail
          generalize (World.alloc (((((((w5.setCell ⟨w.heap.size, 0, none⟩ (Value.int IntKind.i64 lv)).setCell ⟨w.heap.size, 1, none⟩ (Value.string p.low)).setCell ⟨w.heap.size, 2, none⟩ (Value.string p.high)).setCell ⟨w.heap.size, 3, none⟩ (Value.bool p.last)).setCell ⟨w.heap.size, 4, none⟩ (Value.int IntKind.i64 p.side)).setCell ⟨w.heap.size, 5, none⟩ (Value.slice EI ni dI)).setCell ⟨w.heap.size, 6, none⟩ (Value.slice EK nk dK)) (.cells #[Value.string x.key, Value.string x.value, Value.int IntKind.i64 x.no, Value.bool x.gone] 23)) = w7 at *
          have HIN := HINS.out HPE.out HIS.out
          rw [← HK0.out] at HIN
          have hs7 : w5.heap.size < w7.heap.size := HKB.out.lt
          refine (HIN w4.heap.size w5.heap.size (.slice EI ni dI) x w7 HO7.out.1 HKB.out (fun b hb => by have := (hvb.out b hb).2; omega) (by omega)).mono ?_
          rintro e w8 ⟨v8, rfl, hO8, hg8⟩
          have T8 := Lib.hid (T7.out.grown hg8 (fun k hk => by have := (hvb.out k hk).1; omega))
          have HOk8 : Hid (OwnKid w8 w4.heap.size (.slice EK nk dK) p.kids) := Lib.hid (HO7.out.2.keep fun k hk => hg8.block k (HO7.out.2.block k hk).2 (fun e => own_apart HO7.out.1 HO7.out.2 k e.symm hk))
          have HOi8 := Lib.hid hO8
          obtain ⟨E8, d8, rfl, _, _⟩ := hO8.form
          clear hO8 hg8 HIN p0 p1 p2 p3 p4 p5 p6 x0 x1 x2 x3 hfp
          obtain ⟨l8, hl8⟩ : ∃ l, l = p.items.take k0 ++ x :: p.items.drop k0 := ⟨_, rfl⟩
          rw [← hl8]
          rw [← hl8] at HOi8
          have HQ : Hid (p.putP x = { p with items := l8 }) := Lib.hid (by
            unfold Page.putP
            rw [if_pos HPE.out, hl8, HK0.out]
            unfold putL
            rw [HIS.out])
          obtain ⟨n8, hn8⟩ : ∃ n, n = l8.length := ⟨_, rfl⟩
          rw [← hn8]
          rw [← hn8] at HOi8
          clear hl8 hn8
          have T9 : Hid (PtW w (w8.setCell ⟨w.heap.size, 5, none⟩ (.slice E8 n8 d8)) #[Value.int IntKind.i64 lv, Value.string p.low, Value.string p.high, Value.bool p.last, Value.int IntKind.i64 p.side, Value.slice E8 n8 d8, Value.slice EK nk dK] x) := Lib.hid (T8.out.setP 5 _ rfl)
          have HOi9 : Hid (OwnItem (w8.setCell ⟨w.heap.size, 5, none⟩ (.slice E8 n8 d8)) w4.heap.size (.slice E8 n8 d8) l8) := Lib.hid (HOi8.out.setLow (by omega) _)
          have HOk9 : Hid (OwnKid (w8.setCell ⟨w.heap.size, 5, none⟩ (.slice E8 n8 d8)) w4.heap.size (.slice EK nk dK) p.kids) := Lib.hid (HOk8.out.setLow (by omega) _)
          have q5 : w8.cell? ⟨w.heap.size, 5, none⟩ = some (.slice EI ni dI) := T8.out.pb.cell 5
          have q5f := T8.out.pb.frozen 5
          obtain ⟨p0, p1, p2, p3, p4, _, p6⟩ := Blk.cells7 T8.out.pb
          obtain ⟨z0, z1, z2, z3, z4, z5, z6⟩ := Blk.cells7 T8.out.rb
          have hfz : ∀ i, w8.frozen? ⟨w.heap.size + 2, i, none⟩ = false := T8.out.rb.frozen
          go_wp2
          have HE : Hid (Blk ((((((((w8.setCell ⟨w.heap.size, 5, none⟩ (.slice E8 n8 d8)).setCell ⟨w.heap.size + 2, 0, none⟩ (Value.int IntKind.i64 lv)).setCell ⟨w.heap.size + 2, 1, none⟩ (Value.string p.low)).setCell ⟨w.heap.size + 2, 2, none⟩ (Value.string p.high)).setCell ⟨w.heap.size + 2, 3, none⟩ (Value.bool p.last)).setCell ⟨w.heap.size + 2, 4, none⟩ (Value.int IntKind.i64 p.side)).setCell ⟨w.heap.size + 2, 5, none⟩ (Value.slice E8 n8 d8)).setCell ⟨w.heap.size + 2, 6, none⟩ (Value.slice EK nk dK)) (w.heap.size + 2) 27 #[Value.int IntKind.i64 lv, Value.string p.low, Value.string p.high, Value.bool p.last, Value.int IntKind.i64 p.side, Value.slice E8 n8 d8, Value.slice EK nk dK]) := Lib.hid (((((((T9.out.rb.set_ 0 (Value.int IntKind.i64 lv)).set_ 1 (Value.string p.low)).set_ 2 (Value.string p.high)).set_ 3 (Value.bool p.last)).set_ 4 (Value.int IntKind.i64 p.side)).set_ 5 (Value.slice E8 n8 d8)).set_ 6 (Value.slice EK nk dK))
          have HBE : Hid (Below w.heap.size w ((((((((w8.setCell ⟨w.heap.size, 5, none⟩ (.slice E8 n8 d8)).setCell ⟨w.heap.size + 2, 0, none⟩ (Value.int IntKind.i64 lv)).setCell ⟨w.heap.size + 2, 1, none⟩ (Value.string p.low)).setCell ⟨w.heap.size + 2, 2, none⟩ (Value.string p.high)).setCell ⟨w.heap.size + 2, 3, none⟩ (Value.bool p.last)).setCell ⟨w.heap.size + 2, 4, none⟩ (Value.int IntKind.i64 p.side)).setCell ⟨w.heap.size + 2, 5, none⟩ (Value.slice E8 n8 d8)).setCell ⟨w.heap.size + 2, 6, none⟩ (Value.slice EK nk dK))) := Lib.hid (((((((T9.out.be.setCell (p := ⟨w.heap.size + 2, 0, none⟩) (by simp) (Value.int IntKind.i64 lv)).setCell (p := ⟨w.heap.size + 2, 1, none⟩) (by simp) (Value.string p.low)).setCell (p := ⟨w.heap.size + 2, 2, none⟩) (by simp) (Value.string p.high)).setCell (p := ⟨w.heap.size + 2, 3, none⟩) (by simp) (Value.bool p.last)).setCell (p := ⟨w.heap.size + 2, 4, none⟩) (by simp) (Value.int IntKind.i64 p.side)).setCell (p := ⟨w.heap.size + 2, 5, none⟩) (by simp) (Value.slice E8 n8 d8)).setCell (p := ⟨w.heap.size + 2, 6, none⟩) (by simp) (Value.slice EK nk dK))
          have HOE : Hid (OwnItem ((((((((w8.setCell ⟨w.heap.size, 5, none⟩ (.slice E8 n8 d8)).setCell ⟨w.heap.size + 2, 0, none⟩ (Value.int IntKind.i64 lv)).setCell ⟨w.heap.size + 2, 1, none⟩ (Value.string p.low)).setCell ⟨w.heap.size + 2, 2, none⟩ (Value.string p.high)).setCell ⟨w.heap.size + 2, 3, none⟩ (Value.bool p.last)).setCell ⟨w.heap.size + 2, 4, none⟩ (Value.int IntKind.i64 p.side)).setCell ⟨w.heap.size + 2, 5, none⟩ (Value.slice E8 n8 d8)).setCell ⟨w.heap.size + 2, 6, none⟩ (Value.slice EK nk dK)) w.heap.size (Value.slice E8 n8 d8) (p.putP x).items ∧ OwnKid ((((((((w8.setCell ⟨w.heap.size, 5, none⟩ (.slice E8 n8 d8)).setCell ⟨w.heap.size + 2, 0, none⟩ (Value.int IntKind.i64 lv)).setCell ⟨w.heap.size + 2, 1, none⟩ (Value.string p.low)).setCell ⟨w.heap.size + 2, 2, none⟩ (Value.string p.high)).setCell ⟨w.heap.size + 2, 3, none⟩ (Value.bool p.last)).setCell ⟨w.heap.size + 2, 4, none⟩ (Value.int IntKind.i64 p.side)).setCell ⟨w.heap.size + 2, 5, none⟩ (Value.slice E8 n8 d8)).setCell ⟨w.heap.size + 2, 6, none⟩ (Value.slice EK nk dK)) w.heap.size (Value.slice EK nk dK) (p.putP x).kids) := Lib.hid ⟨by rw [HQ.out]; exact (((((((HOi9.out.setLow (by show _ < w4.heap.size; omega) _).setLow (by show _ < w4.heap.size; omega) _).setLow (by show _ < w4.heap.size; omega) _).setLow (by show _ < w4.heap.size; omega) _).setLow (by show _ < w4.heap.size; omega) _).setLow (by show _ < w4.heap.size; omega) _).setLow (by show _ < w4.heap.size; omega) _).mono (by show _ ≤ w4.heap.size; omega), by rw [HQ.out]; exact (((((((HOk9.out.setLow (by show _ < w4.heap.size; omega) _).setLow (by show _ < w4.heap.size; omega) _).setLow (by show _ < w4.heap.size; omega) _).setLow (by show _ < w4.heap.size; omega) _).setLow (by show _ < w4.heap.size; omega) _).setLow (by show _ < w4.heap.size; omega) _).setLow (by show _ < w4.heap.size; omega) _).mono (by show _ ≤ w4.heap.size; omega)⟩
          generalize ((((((((w8.setCell ⟨w.heap.size, 5, none⟩ (.slice E8 n8 d8)).setCell ⟨w.heap.size + 2, 0, none⟩ (Value.int IntKind.i64 lv)).setCell ⟨w.heap.size + 2, 1, none⟩ (Value.string p.low)).setCell ⟨w.heap.size + 2, 2, none⟩ (Value.string p.high)).setCell ⟨w.heap.size + 2, 3, none⟩ (Value.bool p.last)).setCell ⟨w.heap.size + 2, 4, none⟩ (Value.int IntKind.i64 p.side)).setCell ⟨w.heap.size + 2, 5, none⟩ (Value.slice E8 n8 d8)).setCell ⟨w.heap.size + 2, 6, none⟩ (Value.slice EK nk dK)) = wE at *
          obtain ⟨e0, e1, e2, e3, e4, e5, e6⟩ := Blk.cells7 HE.out
          exact bodyPost_ret (v := .tuple #[.agg #[Value.int IntKind.i64 lv, Value.string p.low, Value.string p.high, Value.bool p.last, Value.int IntKind.i64 p.side, Value.slice E8 n8 d8, Value.slice EK nk dK], .int .i64 0]) (by simp [results, Tryz.results115, go_sem, e0, e1, e2, e3, e4, e5, e6]) rfl ⟨_, _, by rw [HPE.out, HQ.out]; unfold Page.valW; rw [HLV.out], HOE.out.1, HOE.out.2, HBE.out⟩

      | true =>
        obtain ⟨y, hy, hyk⟩ := isAt_some his
        rw [← HK0.out] at hy
        have hkl : k0 < p.items.length := (List.getElem?_eq_some_iff.1 hy).1
        have hkl' : k0 < ni := by rw [HNI.out]; exact hkl
        have HKL := Lib.hid hkl
        have hki : (0 : Int) ≤ (k0 : Int) := by omega
        have hki' : (k0 : Int) < (ni : Int) := by omega
        have HPE : Hid (p.putE x = 0) := Lib.hid (by
          rw [HEE.out, if_pos]; unfold Page.putFits; rw [his, HCO.out, ← HLV.out, HL0.out]; simp)
        have HIS := Lib.hid his
        have HY := Lib.hid hy
        clear his hy hyk hkl
        go_upto_region 10 with (go_at_call 52; refine (HCV.out _ _ _).mono ?_; rw [HCO.out]; rintro e w4 ⟨rfl, hb4⟩; have T4 := Lib.hid (T3.out.on hb4); clear hb4; obtain ⟨r0, r1, r2, r3, r4, r5, r6⟩ := Blk.cells7 T4.out.pb; obtain ⟨y0, y1, y2, y3⟩ := Blk.cells4 T4.out.xb)
        obtain ⟨ad, y', rfl, hy', h1, h2, c0, c1, c2, c3⟩ := (HRD.out w4 T4.out.be).items.item (i := k0) HKL.out
        have hyy : y = y' := by
          have := hy'.out
          rw [HY.out] at this
          exact Option.some.inj this
        subst hyy
        by_cases hge : y.no ≥ x.no
        · have HQ : Hid (p.putP x = { p with items := p.items }) := Lib.hid (by
            unfold Page.putP putL
            rw [if_pos HPE.out, HIS.out, ← HK0.out, HY.out]
            simp only
            rw [decide_eq_true hge]; rfl)
          go_quiet (fail)
          go_wp2_with fail
          have TD := Lib.hid (T4.out.drew nq)
          refine (HOW.out _ (HRD.out _ TD.out.be) (by omega) (by rw [HNK.out]; have := HFI.out.nk; omega)).mono ?_
          rintro e w5 ⟨vi, vk, rfl, hOi, hOk, hb5⟩
          have HA := Lib.hid (own_apart hOi hOk)
          have HOi := Lib.hid hOi
          have HOk := Lib.hid hOk
          obtain ⟨EI, dI, rfl, hdI, _⟩ := hOi.form
          obtain ⟨EK, dK, rfl, hdK, _⟩ := hOk.form
          have T5 := Lib.hid (TD.out.on hb5)
          have hs6 : w4.heap.size ≤ w5.heap.size := hb5.size
          have hbs : w.heap.size + 3 ≤ w4.heap.size := T4.out.rb.lt
          clear hOi hOk hb5 p0 p1 p2 p3 p4 p5 p6 x0 x1 x2 x3 r0 r1 r2 r3 r4 r5 r6 y0 y1 y2 y3 c0 c1 c2 c3
          rw [← HNI.out] at hdI HOi
          rw [← HNK.out] at hdK HOk
          rw [← HNI.out, ← HNK.out, show p.valW (.slice EI ni dI) (.slice EK nk dK) = .agg #[Value.int IntKind.i64 lv, Value.string p.low, Value.string p.high, Value.bool p.last, Value.int IntKind.i64 p.side, Value.slice EI ni dI, Value.slice EK nk dK] by unfold Page.valW; rw [HLV.out]]
          obtain ⟨p0, p1, p2, p3, p4, p5, p6⟩ := Blk.cells7 T5.out.pb
          obtain ⟨x0, x1, x2, x3⟩ := Blk.cells4 T5.out.xb
          have hfp : ∀ i, w5.frozen? ⟨w.heap.size, i, none⟩ = false := T5.out.pb.frozen
          obtain ⟨z0, z1, z2, z3, z4, z5, z6⟩ := Blk.cells7 T5.out.rb
          have hfz : ∀ i, w5.frozen? ⟨w.heap.size + 2, i, none⟩ = false := T5.out.rb.frozen
          go_wp2
          have HE : Hid (Blk (((((((w5.setCell ⟨w.heap.size + 2, 0, none⟩ (Value.int IntKind.i64 lv)).setCell ⟨w.heap.size + 2, 1, none⟩ (Value.string p.low)).setCell ⟨w.heap.size + 2, 2, none⟩ (Value.string p.high)).setCell ⟨w.heap.size + 2, 3, none⟩ (Value.bool p.last)).setCell ⟨w.heap.size + 2, 4, none⟩ (Value.int IntKind.i64 p.side)).setCell ⟨w.heap.size + 2, 5, none⟩ (Value.slice EI ni dI)).setCell ⟨w.heap.size + 2, 6, none⟩ (Value.slice EK nk dK)) (w.heap.size + 2) 27 #[Value.int IntKind.i64 lv, Value.string p.low, Value.string p.high, Value.bool p.last, Value.int IntKind.i64 p.side, Value.slice EI ni dI, Value.slice EK nk dK]) := Lib.hid (((((((T5.out.rb.set_ 0 (Value.int IntKind.i64 lv)).set_ 1 (Value.string p.low)).set_ 2 (Value.string p.high)).set_ 3 (Value.bool p.last)).set_ 4 (Value.int IntKind.i64 p.side)).set_ 5 (Value.slice EI ni dI)).set_ 6 (Value.slice EK nk dK))
          have HBE : Hid (Below w.heap.size w (((((((w5.setCell ⟨w.heap.size + 2, 0, none⟩ (Value.int IntKind.i64 lv)).setCell ⟨w.heap.size + 2, 1, none⟩ (Value.string p.low)).setCell ⟨w.heap.size + 2, 2, none⟩ (Value.string p.high)).setCell ⟨w.heap.size + 2, 3, none⟩ (Value.bool p.last)).setCell ⟨w.heap.size + 2, 4, none⟩ (Value.int IntKind.i64 p.side)).setCell ⟨w.heap.size + 2, 5, none⟩ (Value.slice EI ni dI)).setCell ⟨w.heap.size + 2, 6, none⟩ (Value.slice EK nk dK))) := Lib.hid (((((((T5.out.be.setCell (p := ⟨w.heap.size + 2, 0, none⟩) (by simp) (Value.int IntKind.i64 lv)).setCell (p := ⟨w.heap.size + 2, 1, none⟩) (by simp) (Value.string p.low)).setCell (p := ⟨w.heap.size + 2, 2, none⟩) (by simp) (Value.string p.high)).setCell (p := ⟨w.heap.size + 2, 3, none⟩) (by simp) (Value.bool p.last)).setCell (p := ⟨w.heap.size + 2, 4, none⟩) (by simp) (Value.int IntKind.i64 p.side)).setCell (p := ⟨w.heap.size + 2, 5, none⟩) (by simp) (Value.slice EI ni dI)).setCell (p := ⟨w.heap.size + 2, 6, none⟩) (by simp) (Value.slice EK nk dK))
          have HOE : Hid (OwnItem (((((((w5.setCell ⟨w.heap.size + 2, 0, none⟩ (Value.int IntKind.i64 lv)).setCell ⟨w.heap.size + 2, 1, none⟩ (Value.string p.low)).setCell ⟨w.heap.size + 2, 2, none⟩ (Value.string p.high)).setCell ⟨w.heap.size + 2, 3, none⟩ (Value.bool p.last)).setCell ⟨w.heap.size + 2, 4, none⟩ (Value.int IntKind.i64 p.side)).setCell ⟨w.heap.size + 2, 5, none⟩ (Value.slice EI ni dI)).setCell ⟨w.heap.size + 2, 6, none⟩ (Value.slice EK nk dK)) w.heap.size (Value.slice EI ni dI) (p.putP x).items ∧ OwnKid (((((((w5.setCell ⟨w.heap.size + 2, 0, none⟩ (Value.int IntKind.i64 lv)).setCell ⟨w.heap.size + 2, 1, none⟩ (Value.string p.low)).setCell ⟨w.heap.size + 2, 2, none⟩ (Value.string p.high)).setCell ⟨w.heap.size + 2, 3, none⟩ (Value.bool p.last)).setCell ⟨w.heap.size + 2, 4, none⟩ (Value.int IntKind.i64 p.side)).setCell ⟨w.heap.size + 2, 5, none⟩ (Value.slice EI ni dI)).setCell ⟨w.heap.size + 2, 6, none⟩ (Value.slice EK nk dK)) w.heap.size (Value.slice EK nk dK) (p.putP x).kids) := Lib.hid ⟨by rw [HQ.out]; exact (((((((HOi.out.setLow (by show _ < w4.heap.size; omega) _).setLow (by show _ < w4.heap.size; omega) _).setLow (by show _ < w4.heap.size; omega) _).setLow (by show _ < w4.heap.size; omega) _).setLow (by show _ < w4.heap.size; omega) _).setLow (by show _ < w4.heap.size; omega) _).setLow (by show _ < w4.heap.size; omega) _).mono (by show _ ≤ w4.heap.size; omega), by rw [HQ.out]; exact (((((((HOk.out.setLow (by show _ < w4.heap.size; omega) _).setLow (by show _ < w4.heap.size; omega) _).setLow (by show _ < w4.heap.size; omega) _).setLow (by show _ < w4.heap.size; omega) _).setLow (by show _ < w4.heap.size; omega) _).setLow (by show _ < w4.heap.size; omega) _).setLow (by show _ < w4.heap.size; omega) _).mono (by show _ ≤ w4.heap.size; omega)⟩
          generalize (((((((w5.setCell ⟨w.heap.size + 2, 0, none⟩ (Value.int IntKind.i64 lv)).setCell ⟨w.heap.size + 2, 1, none⟩ (Value.string p.low)).setCell ⟨w.heap.size + 2, 2, none⟩ (Value.string p.high)).setCell ⟨w.heap.size + 2, 3, none⟩ (Value.bool p.last)).setCell ⟨w.heap.size + 2, 4, none⟩ (Value.int IntKind.i64 p.side)).setCell ⟨w.heap.size + 2, 5, none⟩ (Value.slice EI ni dI)).setCell ⟨w.heap.size + 2, 6, none⟩ (Value.slice EK nk dK)) = wE at *
          obtain ⟨e0, e1, e2, e3, e4, e5, e6⟩ := Blk.cells7 HE.out
          exact bodyPost_ret (v := .tuple #[.agg #[Value.int IntKind.i64 lv, Value.string p.low, Value.string p.high, Value.bool p.last, Value.int IntKind.i64 p.side, Value.slice EI ni dI, Value.slice EK nk dK], .int .i64 0]) (by simp [results, Tryz.results115, go_sem, e0, e1, e2, e3, e4, e5, e6]) rfl ⟨_, _, by rw [HPE.out, HQ.out]; unfold Page.valW; rw [HLV.out], HOE.out.1, HOE.out.2, HBE.out⟩

        · have HQ : Hid (p.putP x = { p with items := p.items.set k0 x }) := Lib.hid (by
            unfold Page.putP putL
            rw [if_pos HPE.out, HIS.out, ← HK0.out, HY.out]
            simp only
            rw [decide_eq_false hge]; rfl)
          go_quiet (fail)
          go_wp2_with fail
          have TD := Lib.hid (T4.out.drew nq)
          refine (HOW.out _ (HRD.out _ TD.out.be) (by omega) (by rw [HNK.out]; have := HFI.out.nk; omega)).mono ?_
          rintro e w5 ⟨vi, vk, rfl, hOi, hOk, hb5⟩
          have HA := Lib.hid (own_apart hOi hOk)
          have HOi := Lib.hid hOi
          have HOk := Lib.hid hOk
          obtain ⟨EI, dI, rfl, hdI, _⟩ := hOi.form
          obtain ⟨EK, dK, rfl, hdK, _⟩ := hOk.form
          have T5 := Lib.hid (TD.out.on hb5)
          have hs6 : w4.heap.size ≤ w5.heap.size := hb5.size
          have hbs : w.heap.size + 3 ≤ w4.heap.size := T4.out.rb.lt
          clear hOi hOk hb5 p0 p1 p2 p3 p4 p5 p6 x0 x1 x2 x3 r0 r1 r2 r3 r4 r5 r6 y0 y1 y2 y3 c0 c1 c2 c3
          rw [← HNI.out] at hdI HOi
          rw [← HNK.out] at hdK HOk
          rw [← HNI.out, ← HNK.out, show p.valW (.slice EI ni dI) (.slice EK nk dK) = .agg #[Value.int IntKind.i64 lv, Value.string p.low, Value.string p.high, Value.bool p.last, Value.int IntKind.i64 p.side, Value.slice EI ni dI, Value.slice EK nk dK] by unfold Page.valW; rw [HLV.out]]
          obtain ⟨p0, p1, p2, p3, p4, p5, p6⟩ := Blk.cells7 T5.out.pb
          obtain ⟨x0, x1, x2, x3⟩ := Blk.cells4 T5.out.xb
          have hfp : ∀ i, w5.frozen? ⟨w.heap.size, i, none⟩ = false := T5.out.pb.frozen
          obtain ⟨z0, z1, z2, z3, z4, z5, z6⟩ := Blk.cells7 T5.out.rb
          have hfz : ∀ i, w5.frozen? ⟨w.heap.size + 2, i, none⟩ = false := T5.out.rb.frozen
          have T6 : Hid (PtW w (((((((w5.setCell ⟨w.heap.size, 0, none⟩ (Value.int IntKind.i64 lv)).setCell ⟨w.heap.size, 1, none⟩ (Value.string p.low)).setCell ⟨w.heap.size, 2, none⟩ (Value.string p.high)).setCell ⟨w.heap.size, 3, none⟩ (Value.bool p.last)).setCell ⟨w.heap.size, 4, none⟩ (Value.int IntKind.i64 p.side)).setCell ⟨w.heap.size, 5, none⟩ (Value.slice EI ni dI)).setCell ⟨w.heap.size, 6, none⟩ (Value.slice EK nk dK)) #[Value.int IntKind.i64 lv, Value.string p.low, Value.string p.high, Value.bool p.last, Value.int IntKind.i64 p.side, Value.slice EI ni dI, Value.slice EK nk dK] x) := Lib.hid (((((((T5.out.setP 0 (Value.int IntKind.i64 lv) rfl).setP 1 (Value.string p.low) rfl).setP 2 (Value.string p.high) rfl).setP 3 (Value.bool p.last) rfl).setP 4 (Value.int IntKind.i64 p.side) rfl).setP 5 (Value.slice EI ni dI) rfl).setP 6 (Value.slice EK nk dK) rfl)
          have HOi6 : Hid (OwnItem (((((((w5.setCell ⟨w.heap.size, 0, none⟩ (Value.int IntKind.i64 lv)).setCell ⟨w.heap.size, 1, none⟩ (Value.string p.low)).setCell ⟨w.heap.size, 2, none⟩ (Value.string p.high)).setCell ⟨w.heap.size, 3, none⟩ (Value.bool p.last)).setCell ⟨w.heap.size, 4, none⟩ (Value.int IntKind.i64 p.side)).setCell ⟨w.heap.size, 5, none⟩ (Value.slice EI ni dI)).setCell ⟨w.heap.size, 6, none⟩ (Value.slice EK nk dK)) w4.heap.size (.slice EI ni dI) p.items) := Lib.hid (((((((HOi.out.setLow (by show _ < w4.heap.size; omega) _).setLow (by show _ < w4.heap.size; omega) _).setLow (by show _ < w4.heap.size; omega) _).setLow (by show _ < w4.heap.size; omega) _).setLow (by show _ < w4.heap.size; omega) _).setLow (by show _ < w4.heap.size; omega) _).setLow (by show _ < w4.heap.size; omega) _)
          have HOk6 : Hid (OwnKid (((((((w5.setCell ⟨w.heap.size, 0, none⟩ (Value.int IntKind.i64 lv)).setCell ⟨w.heap.size, 1, none⟩ (Value.string p.low)).setCell ⟨w.heap.size, 2, none⟩ (Value.string p.high)).setCell ⟨w.heap.size, 3, none⟩ (Value.bool p.last)).setCell ⟨w.heap.size, 4, none⟩ (Value.int IntKind.i64 p.side)).setCell ⟨w.heap.size, 5, none⟩ (Value.slice EI ni dI)).setCell ⟨w.heap.size, 6, none⟩ (Value.slice EK nk dK)) w4.heap.size (.slice EK nk dK) p.kids) := Lib.hid (((((((HOk.out.setLow (by show _ < w4.heap.size; omega) _).setLow (by show _ < w4.heap.size; omega) _).setLow (by show _ < w4.heap.size; omega) _).setLow (by show _ < w4.heap.size; omega) _).setLow (by show _ < w4.heap.size; omega) _).setLow (by show _ < w4.heap.size; omega) _).setLow (by show _ < w4.heap.size; omega) _)
          have HGI : Hid (∃ g cur, EI = some ⟨g, 0, none⟩ ∧ w4.heap.size ≤ g ∧ ni ≤ dI ∧ dI ≤ maxLen ∧ cur.size = dI * 4 ∧ cur.toList.take (ni * 4) = p.items.flatMap Item.cells ∧ Blk (((((((w5.setCell ⟨w.heap.size, 0, none⟩ (Value.int IntKind.i64 lv)).setCell ⟨w.heap.size, 1, none⟩ (Value.string p.low)).setCell ⟨w.heap.size, 2, none⟩ (Value.string p.high)).setCell ⟨w.heap.size, 3, none⟩ (Value.bool p.last)).setCell ⟨w.heap.size, 4, none⟩ (Value.int IntKind.i64 p.side)).setCell ⟨w.heap.size, 5, none⟩ (Value.slice EI ni dI)).setCell ⟨w.heap.size, 6, none⟩ (Value.slice EK nk dK)) g 23 cur) := Lib.hid (by
            rcases HOi6.out.2 with ⟨e, e2⟩ | ⟨g, cap, cur, e, hbg, hh, hn1, hcm, hsz, htk⟩
            · have := HNI.out; have := HKL.out; omega
            · injection e with e1 e2 e3
              subst e3
              exact ⟨g, cur, e1, hbg, by rw [HNI.out]; exact hn1, hcm, hsz, by rw [HNI.out]; exact htk, hh⟩)
          go_upto_region 14 with (fail)
          generalize (((((((w5.setCell ⟨w.heap.size, 0, none⟩ (Value.int IntKind.i64 lv)).setCell ⟨w.heap.size, 1, none⟩ (Value.string p.low)).setCell ⟨w.heap.size, 2, none⟩ (Value.string p.high)).setCell ⟨w.heap.size, 3, none⟩ (Value.bool p.last)).setCell ⟨w.heap.size, 4, none⟩ (Value.int IntKind.i64 p.side)).setCell ⟨w.heap.size, 5, none⟩ (Value.slice EI ni dI)).setCell ⟨w.heap.size, 6, none⟩ (Value.slice EK nk dK)) = w6 at *
          obtain ⟨g, cur, rfl, hbg, hnd, hdm, hcs, hck, hgb⟩ := HGI.out
          have HGB := Lib.hid hgb
          have HCS := Lib.hid hcs
          have HCK := Lib.hid hck
          clear hgb hcs hck p0 p1 p2 p3 p4 p5 p6 x0 x1 x2 x3 hfp z0 z1 z2 z3 z4 z5 z6 hfz
          obtain ⟨p0, p1, p2, p3, p4, p5, p6⟩ := Blk.cells7 T6.out.pb
          obtain ⟨x0, x1, x2, x3⟩ := Blk.cells4 T6.out.xb
          have hcs0 : k0 * 4 + 3 < cur.size := by have := HCS.out; omega
          have c0 : w6.cell? ⟨g, k0 * 4, none⟩ = some cur[k0 * 4] := (HGB.out.cell _).trans (Array.getElem?_eq_getElem (by omega))
          have c1 : w6.cell? ⟨g, k0 * 4 + 1, none⟩ = some cur[k0 * 4 + 1] := (HGB.out.cell _).trans (Array.getElem?_eq_getElem (by omega))
          have c2 : w6.cell? ⟨g, k0 * 4 + 2, none⟩ = some cur[k0 * 4 + 2] := (HGB.out.cell _).trans (Array.getElem?_eq_getElem (by omega))
          have c3 : w6.cell? ⟨g, k0 * 4 + 3, none⟩ = some cur[k0 * 4 + 3] := (HGB.out.cell _).trans (Array.getElem?_eq_getElem (by omega))
          have hfg : ∀ i, w6.frozen? ⟨g, i, none⟩ = false := HGB.out.frozen
          generalize cur[k0 * 4] = o0 at c0
          generalize cur[k0 * 4 + 1] = o1 at c1
          generalize cur[k0 * 4 + 2] = o2 at c2
          generalize cur[k0 * 4 + 3] = o3 at c3
          go_upto_region 16 with (fail)
          have T7 : Hid (PtW w ((((w6.setCell ⟨g, k0 * 4, none⟩ (.string x.key)).setCell ⟨g, k0 * 4 + 1, none⟩ (.string x.value)).setCell ⟨g, k0 * 4 + 2, none⟩ (.int .i64 x.no)).setCell ⟨g, k0 * 4 + 3, none⟩ (.bool x.gone)) #[Value.int IntKind.i64 lv, Value.string p.low, Value.string p.high, Value.bool p.last, Value.int IntKind.i64 p.side, Value.slice (some ⟨g, 0, none⟩) ni dI, Value.slice EK nk dK] x) := Lib.hid (T6.out.on' ((((((Below.refl _ _).setCell (p := ⟨g, k0 * 4, none⟩) (by show _ ≤ g; omega) _).setCell (p := ⟨g, k0 * 4 + 1, none⟩) (by show _ ≤ g; omega) _)).setCell (p := ⟨g, k0 * 4 + 2, none⟩) (by show _ ≤ g; omega) _).setCell (p := ⟨g, k0 * 4 + 3, none⟩) (by show _ ≤ g; omega) _))
          have HOi7 : Hid (OwnItem ((((w6.setCell ⟨g, k0 * 4, none⟩ (.string x.key)).setCell ⟨g, k0 * 4 + 1, none⟩ (.string x.value)).setCell ⟨g, k0 * 4 + 2, none⟩ (.int .i64 x.no)).setCell ⟨g, k0 * 4 + 3, none⟩ (.bool x.gone)) w4.heap.size (.slice (some ⟨g, 0, none⟩) ni dI) (p.items.set k0 x)) := Lib.hid (OwnItem.setAt x HGB.out hbg HNI.out hnd hdm HCS.out HCK.out HKL.out)
          have HOk7 : Hid (OwnKid ((((w6.setCell ⟨g, k0 * 4, none⟩ (.string x.key)).setCell ⟨g, k0 * 4 + 1, none⟩ (.string x.value)).setCell ⟨g, k0 * 4 + 2, none⟩ (.int .i64 x.no)).setCell ⟨g, k0 * 4 + 3, none⟩ (.bool x.gone)) w4.heap.size (.slice EK nk dK) p.kids) := Lib.hid (HOk6.out.keep fun k hk => by
            have hne : k ≠ g := fun e => own_apart HOi6.out HOk6.out g rfl (by rw [hk, e])
            rw [Below.heap_setCell _ _ _ k hne, Below.heap_setCell _ _ _ k hne, Below.heap_setCell _ _ _ k hne, Below.heap_setCell _ _ _ k hne])
          generalize ((((w6.setCell ⟨g, k0 * 4, none⟩ (.string x.key)).setCell ⟨g, k0 * 4 + 1, none⟩ (.string x.value)).setCell ⟨g, k0 * 4 + 2, none⟩ (.int .i64 x.no)).setCell ⟨g, k0 * 4 + 3, none⟩ (.bool x.gone)) = w7 at *
          clear p0 p1 p2 p3 p4 p5 p6 x0 x1 x2 x3 c0 c1 c2 c3 hfg
          obtain ⟨z0, z1, z2, z3, z4, z5, z6⟩ := Blk.cells7 T7.out.rb
          have hfz : ∀ i, w7.frozen? ⟨w.heap.size + 2, i, none⟩ = false := T7.out.rb.frozen
          obtain ⟨p0, p1, p2, p3, p4, p5, p6⟩ := Blk.cells7 T7.out.pb
          have HE : Hid (Blk (((((((w7.setCell ⟨w.heap.size + 2, 0, none⟩ (Value.int IntKind.i64 lv)).setCell ⟨w.heap.size + 2, 1, none⟩ (Value.string p.low)).setCell ⟨w.heap.size + 2, 2, none⟩ (Value.string p.high)).setCell ⟨w.heap.size + 2, 3, none⟩ (Value.bool p.last)).setCell ⟨w.heap.size + 2, 4, none⟩ (Value.int IntKind.i64 p.side)).setCell ⟨w.heap.size + 2, 5, none⟩ (Value.slice (some ⟨g, 0, none⟩) ni dI)).setCell ⟨w.heap.size + 2, 6, none⟩ (Value.slice EK nk dK)) (w.heap.size + 2) 27 #[Value.int IntKind.i64 lv, Value.string p.low, Value.string p.high, Value.bool p.last, Value.int IntKind.i64 p.side, Value.slice (some ⟨g, 0, none⟩) ni dI, Value.slice EK nk dK]) := Lib.hid (((((((T7.out.rb.set_ 0 (Value.int IntKind.i64 lv)).set_ 1 (Value.string p.low)).set_ 2 (Value.string p.high)).set_ 3 (Value.bool p.last)).set_ 4 (Value.int IntKind.i64 p.side)).set_ 5 (Value.slice (some ⟨g, 0, none⟩) ni dI)).set_ 6 (Value.slice EK nk dK))
          have HBE : Hid (Below w.heap.size w (((((((w7.setCell ⟨w.heap.size + 2, 0, none⟩ (Value.int IntKind.i64 lv)).setCell ⟨w.heap.size + 2, 1, none⟩ (Value.string p.low)).setCell ⟨w.heap.size + 2, 2, none⟩ (Value.string p.high)).setCell ⟨w.heap.size + 2, 3, none⟩ (Value.bool p.last)).setCell ⟨w.heap.size + 2, 4, none⟩ (Value.int IntKind.i64 p.side)).setCell ⟨w.heap.size + 2, 5, none⟩ (Value.slice (some ⟨g, 0, none⟩) ni dI)).setCell ⟨w.heap.size + 2, 6, none⟩ (Value.slice EK nk dK))) := Lib.hid (((((((T7.out.be.setCell (p := ⟨w.heap.size + 2, 0, none⟩) (by simp) (Value.int IntKind.i64 lv)).setCell (p := ⟨w.heap.size + 2, 1, none⟩) (by simp) (Value.string p.low)).setCell (p := ⟨w.heap.size + 2, 2, none⟩) (by simp) (Value.string p.high)).setCell (p := ⟨w.heap.size + 2, 3, none⟩) (by simp) (Value.bool p.last)).setCell (p := ⟨w.heap.size + 2, 4, none⟩) (by simp) (Value.int IntKind.i64 p.side)).setCell (p := ⟨w.heap.size + 2, 5, none⟩) (by simp) (Value.slice (some ⟨g, 0, none⟩) ni dI)).setCell (p := ⟨w.heap.size + 2, 6, none⟩) (by simp) (Value.slice EK nk dK))
          have HOE : Hid (OwnItem (((((((w7.setCell ⟨w.heap.size + 2, 0, none⟩ (Value.int IntKind.i64 lv)).setCell ⟨w.heap.size + 2, 1, none⟩ (Value.string p.low)).setCell ⟨w.heap.size + 2, 2, none⟩ (Value.string p.high)).setCell ⟨w.heap.size + 2, 3, none⟩ (Value.bool p.last)).setCell ⟨w.heap.size + 2, 4, none⟩ (Value.int IntKind.i64 p.side)).setCell ⟨w.heap.size + 2, 5, none⟩ (Value.slice (some ⟨g, 0, none⟩) ni dI)).setCell ⟨w.heap.size + 2, 6, none⟩ (Value.slice EK nk dK)) w.heap.size (Value.slice (some ⟨g, 0, none⟩) ni dI) (p.putP x).items ∧ OwnKid (((((((w7.setCell ⟨w.heap.size + 2, 0, none⟩ (Value.int IntKind.i64 lv)).setCell ⟨w.heap.size + 2, 1, none⟩ (Value.string p.low)).setCell ⟨w.heap.size + 2, 2, none⟩ (Value.string p.high)).setCell ⟨w.heap.size + 2, 3, none⟩ (Value.bool p.last)).setCell ⟨w.heap.size + 2, 4, none⟩ (Value.int IntKind.i64 p.side)).setCell ⟨w.heap.size + 2, 5, none⟩ (Value.slice (some ⟨g, 0, none⟩) ni dI)).setCell ⟨w.heap.size + 2, 6, none⟩ (Value.slice EK nk dK)) w.heap.size (Value.slice EK nk dK) (p.putP x).kids) := Lib.hid ⟨by rw [HQ.out]; exact (((((((HOi7.out.setLow (by show _ < w4.heap.size; omega) _).setLow (by show _ < w4.heap.size; omega) _).setLow (by show _ < w4.heap.size; omega) _).setLow (by show _ < w4.heap.size; omega) _).setLow (by show _ < w4.heap.size; omega) _).setLow (by show _ < w4.heap.size; omega) _).setLow (by show _ < w4.heap.size; omega) _).mono (by show _ ≤ w4.heap.size; omega), by rw [HQ.out]; exact (((((((HOk7.out.setLow (by show _ < w4.heap.size; omega) _).setLow (by show _ < w4.heap.size; omega) _).setLow (by show _ < w4.heap.size; omega) _).setLow (by show _ < w4.heap.size; omega) _).setLow (by show _ < w4.heap.size; omega) _).setLow (by show _ < w4.heap.size; omega) _).setLow (by show _ < w4.heap.size; omega) _).mono (by show _ ≤ w4.heap.size; omega)⟩
          go_wp2
          generalize (((((((w7.setCell ⟨w.heap.size + 2, 0, none⟩ (Value.int IntKind.i64 lv)).setCell ⟨w.heap.size + 2, 1, none⟩ (Value.string p.low)).setCell ⟨w.heap.size + 2, 2, none⟩ (Value.string p.high)).setCell ⟨w.heap.size + 2, 3, none⟩ (Value.bool p.last)).setCell ⟨w.heap.size + 2, 4, none⟩ (Value.int IntKind.i64 p.side)).setCell ⟨w.heap.size + 2, 5, none⟩ (Value.slice (some ⟨g, 0, none⟩) ni dI)).setCell ⟨w.heap.size + 2, 6, none⟩ (Value.slice EK nk dK)) = wE at *
          obtain ⟨e0, e1, e2, e3, e4, e5, e6⟩ := Blk.cells7 HE.out
          exact bodyPost_ret (v := .tuple #[.agg #[Value.int IntKind.i64 lv, Value.string p.low, Value.string p.high, Value.bool p.last, Value.int IntKind.i64 p.side, Value.slice (some ⟨g, 0, none⟩) ni dI, Value.slice EK nk dK], .int .i64 0]) (by simp [results, Tryz.results115, go_sem, e0, e1, e2, e3, e4, e5, e6]) rfl ⟨_, _, by rw [HPE.out, HQ.out]; unfold Page.valW; rw [HLV.out], HOE.out.1, HOE.out.2, HBE.out⟩

end Go.Proofs.YtjbdmaehomhdeaaGreat
