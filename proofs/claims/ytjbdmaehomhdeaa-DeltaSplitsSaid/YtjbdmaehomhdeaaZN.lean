/- A change upon a page that may be leaves a page that may be. -/
import Derived.Test.YtjbdmaehomhdeaaZM
import Derived.Test.YtjbdmaehomhdeaaZL
import Derived.Test.YtjbdmaehomhdeaaG14
import Derived.Test.YtjbdmaehomhdeaaG15
namespace Go.Proofs.Ytjbdmaehomhdeaa
open Go.RowKit

/-- a list that rises, cut at a key -/
theorem cut_at {α : Type} (key : α → ByteArray) (l : List α) (k : ByteArray) (hs : Sorted key l) : ∃ a m b, l = a ++ (m ++ b) ∧ (∀ y ∈ a, lt (key y) k = true) ∧ (∀ y ∈ b, lt k (key y) = true) ∧ a.length = posOf key l k ∧ ((isAt key l k = true ∧ ∃ y, m = [y] ∧ key y = k) ∨ (isAt key l k = false ∧ m = [])) := by
  have hsp := List.takeWhile_append_dropWhile (p := fun y : α => lt (key y) k) (l := l)
  have hi : posOf key l k = (l.takeWhile (fun y : α => lt (key y) k)).length := rfl
  have hA : ∀ y ∈ l.takeWhile (fun y : α => lt (key y) k), lt (key y) k = true := fun y hy => takeWhile_all (fun y : α => lt (key y) k) l y hy
  have hD : ∀ y r, l.dropWhile (fun y : α => lt (key y) k) = y :: r → lt (key y) k = false := fun y r h => by
    have := List.head?_dropWhile_not (fun y : α => lt (key y) k) l
    rw [h] at this
    simpa using this
  generalize hta : l.takeWhile (fun y : α => lt (key y) k) = a at *
  generalize htb : l.dropWhile (fun y : α => lt (key y) k) = d at *
  have hget : l[posOf key l k]? = d[0]? := by
    rw [hi, ← hsp, List.getElem?_append_right (Nat.le_refl _), Nat.sub_self]
  cases d with
  | nil =>
    have hat : isAt key l k = false := by unfold isAt; rw [hget]; rfl
    exact ⟨a, [], [], by rw [← hsp]; rfl, hA, (fun y hy => by cases hy), hi.symm, .inr ⟨hat, rfl⟩⟩
  | cons y r =>
    have hy := hD y r rfl
    have hlr : ∀ z ∈ r, lt (key y) (key z) = true := fun z hz => by
      obtain ⟨j, hj⟩ := List.getElem?_of_mem hz
      refine hs a.length (a.length + 1 + j) y z (by omega) ?_ ?_
      · rw [← hsp, List.getElem?_append_right (Nat.le_refl _), Nat.sub_self]; rfl
      · rw [← hsp, List.getElem?_append_right (by omega), show a.length + 1 + j - a.length = j + 1 by omega]; exact hj
    by_cases hk : key y = k
    · have hat : isAt key l k = true := by unfold isAt; rw [hget]; exact decide_eq_true hk
      exact ⟨a, [y], r, by rw [← hsp]; rfl, hA, fun z hz => by rw [← hk]; exact hlr z hz, hi.symm, .inl ⟨hat, y, rfl, hk⟩⟩
    · have hat : isAt key l k = false := by unfold isAt; rw [hget]; exact decide_eq_false hk
      have hxy := lt_total hy hk
      refine ⟨a, [], y :: r, by rw [← hsp]; rfl, hA, fun z hz => ?_, hi.symm, .inr ⟨hat, rfl⟩⟩
      rcases List.mem_cons.1 hz with rfl | hz
      · exact hxy
      · exact lt_trans hxy (hlr z hz)
/-- keys in a list rise -/
def Up {α : Type} (key : α → ByteArray) (l : List α) : Prop := l.Pairwise (fun x y => lt (key x) (key y) = true)
theorem Up.sorted {α : Type} {key : α → ByteArray} {l : List α} (h : Up key l) : Sorted key l := by
  intro i j x y hij hx hy
  obtain ⟨h1, rfl⟩ := List.getElem?_eq_some_iff.1 hx
  obtain ⟨h2, rfl⟩ := List.getElem?_eq_some_iff.1 hy
  exact (List.pairwise_iff_getElem.1 h) i j h1 h2 hij
theorem Sorted.up {α : Type} {key : α → ByteArray} {l : List α} (h : Sorted key l) : Up key l := by
  unfold Up
  rw [List.pairwise_iff_getElem]
  intro i j hi hj hij
  exact h i j _ _ hij (List.getElem?_eq_getElem hi) (List.getElem?_eq_getElem hj)
theorem rises_up {α : Type} {key : α → ByteArray} {p : Page} {l : List α} : rises p (l.map key) = true ↔ (∀ y ∈ l, p.covers (key y) = true) ∧ Up key l := by
  constructor
  · intro h
    refine ⟨?_, (sorted_of_rises h).up⟩
    have h : Rises p (l.map key) := by
      unfold rises at h
      exact @of_decide_eq_true _ (Classical.propDecidable _) h
    intro y hy
    obtain ⟨i, hi⟩ := List.getElem?_of_mem hy
    exact (h i (key y) (by rw [List.getElem?_map, hi]; rfl)).1
  · rintro ⟨hc, h⟩
    refine (rises_yes ?_).symm
    intro i k hk
    rw [List.getElem?_map] at hk
    obtain ⟨y, hy, rfl⟩ := Option.map_eq_some_iff.1 hk
    refine ⟨hc y (List.mem_of_getElem? hy), fun j k2 hij hk2 => ?_⟩
    rw [List.getElem?_map] at hk2
    obtain ⟨z, hz, rfl⟩ := Option.map_eq_some_iff.1 hk2
    exact h.sorted j i z y (by omega) hz hy
theorem Up.sub {α : Type} {key : α → ByteArray} {l m : List α} (h : Up key l) (hs : m.Sublist l) : Up key m := List.Pairwise.sublist hs h
theorem Up.put {α : Type} {key : α → ByteArray} {a b : List α} {x : α} (h : Up key (a ++ b)) (ha : ∀ y ∈ a, lt (key y) (key x) = true) (hb : ∀ y ∈ b, lt (key x) (key y) = true) : Up key (a ++ x :: b) := by
  unfold Up at h ⊢
  rw [List.pairwise_append] at h ⊢
  obtain ⟨h1, h2, h3⟩ := h
  refine ⟨h1, List.pairwise_cons.2 ⟨hb, h2⟩, fun y hy z hz => ?_⟩
  rcases List.mem_cons.1 hz with rfl | hz
  · exact ha y hy
  · exact h3 y hy z hz
theorem leaf_ok {p : Page} (hb : p.boundsB = true) (h0 : p.level = 0) (hk : p.kids = []) (hn : p.items.length ≤ 120) (hm : ∀ x ∈ p.items, x.May) (hc : ∀ x ∈ p.items, p.covers x.key = true) (hu : Up Item.key p.items) : p.ok = true := by
  have hl : p.leafB = true := by
    unfold Page.leafB
    simp only [Bool.and_eq_true, decide_eq_true_eq, Bool.not_eq_true', List.any_eq_false]
    refine ⟨⟨⟨by rw [hk]; rfl, by omega⟩, fun x hx => ?_⟩, rises_up.2 ⟨hc, hu⟩⟩
    have := hm x hx
    unfold Item.check
    rw [if_pos this]
    decide
  unfold Page.ok
  rw [hb, hl, show (decide (p.level > 0)) = false by rw [h0]; rfl]
  simp
theorem leaf_out {p : Page} (h : p.ok = true) (h0 : p.level = 0) : p.boundsB = true ∧ p.kids = [] ∧ p.items.length ≤ 120 ∧ (∀ x ∈ p.items, x.May) ∧ (∀ x ∈ p.items, p.covers x.key = true) ∧ Up Item.key p.items := by
  obtain ⟨a, b, c⟩ := leaf_facts h h0
  obtain ⟨d, e⟩ := leaf_of_ok h h0
  unfold Page.leafB at e
  simp only [Bool.and_eq_true] at e
  exact ⟨d, a, b, c, (rises_up.1 e.2).1, (rises_up.1 e.2).2⟩
theorem inner_ok {p : Page} (hb : p.boundsB = true) (h0 : 0 < p.level) (hk : p.items = []) {x : Kid} {l : List Kid} (hx : p.kids = x :: l) (hlow : x.key = p.low) (hn : p.kids.length ≤ 120) (hm : ∀ x ∈ p.kids, isPage x.page = true ∧ x.key.size ≤ 16) (hc : ∀ x ∈ p.kids, p.covers x.key = true) (hu : Up Kid.key p.kids) : p.ok = true := by
  have hl : p.innerB = true := by
    unfold Page.innerB
    simp only [Bool.and_eq_true, decide_eq_true_eq, Bool.not_eq_true', List.any_eq_false]
    refine ⟨⟨⟨⟨⟨by rw [hk]; rfl, by rw [hx]; simp⟩, by omega⟩, by rw [hx]; exact same_of.2 hlow⟩, fun x hx => ?_⟩, rises_up.2 ⟨hc, hu⟩⟩
    have := hm x hx
    unfold Kid.bad
    rw [this.1]
    simp; omega
  unfold Page.ok
  rw [hb, hl, show (p.level == 0) = false by simp; omega]
  simp
theorem inner_out {p : Page} (h : p.ok = true) (h0 : p.level ≠ 0) : p.boundsB = true ∧ 0 < p.level ∧ p.items = [] ∧ (∃ x l, p.kids = x :: l ∧ x.key = p.low) ∧ p.kids.length ≤ 120 ∧ (∀ x ∈ p.kids, isPage x.page = true ∧ x.key.size ≤ 16) ∧ (∀ x ∈ p.kids, p.covers x.key = true) ∧ Up Kid.key p.kids := by
  obtain ⟨a, b, c, d⟩ := inner_facts h h0
  obtain ⟨e, f, g⟩ := inner_of_ok' h h0
  unfold Page.innerB at g
  simp only [Bool.and_eq_true] at g
  have hh := g.1.1.2
  refine ⟨e, f, a, ?_, c, d, (rises_up.1 g.2).1, (rises_up.1 g.2).2⟩
  match hk : p.kids with
  | [] => rw [hk] at b; simp at b
  | x :: l => rw [hk] at hh; exact ⟨x, l, rfl, same_of.1 hh⟩
theorem covers_iff {p : Page} {k : ByteArray} : p.covers k = true ↔ lt k p.low = false ∧ (p.last = true ∨ lt k p.high = true) := by
  unfold Page.covers
  simp only [Bool.and_eq_true, Bool.not_eq_true', Bool.or_eq_true]

theorem putL_cut {l : List Item} {x : Item} (hs : Sorted Item.key l) : ∃ a m b, l = a ++ (m ++ b) ∧ (∀ y ∈ a, lt y.key x.key = true) ∧ (∀ y ∈ b, lt x.key y.key = true) ∧
    ((∃ y, m = [y] ∧ y.key = x.key ∧ isAt Item.key l x.key = true ∧ putL l x = if x.no ≤ y.no then l else a ++ x :: b) ∨ (m = [] ∧ isAt Item.key l x.key = false ∧ putL l x = a ++ x :: b)) := by
  obtain ⟨a, m, b, hl, ha, hb, hp, hm⟩ := cut_at Item.key l x.key hs
  refine ⟨a, m, b, hl, ha, hb, ?_⟩
  rcases hm with ⟨hat, y, rfl, hy⟩ | ⟨hat, rfl⟩
  · refine .inl ⟨y, rfl, hy, hat, ?_⟩
    have hg : l[posOf Item.key l x.key]? = some y := by
      rw [← hp, hl, List.getElem?_append_right (Nat.le_refl _), Nat.sub_self]; rfl
    unfold putL
    rw [hat, hg]
    show cond (decide (y.no ≥ x.no)) l (l.set (posOf Item.key l x.key) x) = _
    by_cases h : x.no ≤ y.no
    · rw [if_pos h, decide_eq_true h]; rfl
    · rw [if_neg h, decide_eq_false h, ← hp]
      show l.set a.length x = _
      rw [hl, List.set_append_right _ _ (Nat.le_refl _), Nat.sub_self]; rfl
  · refine .inr ⟨rfl, hat, ?_⟩
    unfold putL
    rw [hat]
    show l.take (posOf Item.key l x.key) ++ x :: l.drop (posOf Item.key l x.key) = _
    rw [← hp, hl, List.take_left, List.drop_left]; rfl
theorem check_yes {x : Item} : x.check = 0 ↔ x.May := by
  constructor
  · exact Item.of_check
  · intro h; unfold Item.check; rw [if_pos h]
theorem ok_of_check {p : Page} (h : p.check = 0) : p.ok = true := by
  unfold Page.check at h
  cases hk : p.ok with
  | true => rfl
  | false => rw [hk] at h; exact absurd h (by decide)
theorem check_of_ok {p : Page} (h : p.ok = true) : p.check = 0 := by unfold Page.check; rw [h]; rfl
theorem putE_iff {p : Page} {x : Item} : p.putE x = 0 ↔ x.check = 0 ∧ p.ok = true ∧ p.putFits x = true := by
  unfold Page.putE
  constructor
  · intro h
    by_cases h1 : x.check = 0
    · rw [if_pos h1] at h
      by_cases h2 : p.check = 0
      · rw [if_pos h2] at h
        by_cases h3 : p.putFits x = true
        · exact ⟨h1, ok_of_check h2, h3⟩
        · rw [if_neg h3] at h; exact absurd h (by decide)
      · rw [if_neg h2] at h; exact absurd h h2
    · rw [if_neg h1] at h; exact absurd h h1
  · rintro ⟨h1, h2, h3⟩
    rw [if_pos h1, if_pos (check_of_ok h2), if_pos h3]
theorem putL_facts {p : Page} {x : Item} (h : p.putE x = 0) : p.ok = true ∧ p.level = 0 ∧ x.May ∧ p.covers x.key = true ∧ (putL p.items x).length ≤ 120 ∧ (∀ y ∈ putL p.items x, y = x ∨ y ∈ p.items) ∧ Up Item.key (putL p.items x) := by
  obtain ⟨hx, hok, hf⟩ := putE_iff.1 h
  unfold Page.putFits at hf
  simp only [Bool.and_eq_true, beq_iff_eq, Bool.or_eq_true, decide_eq_true_eq] at hf
  obtain ⟨⟨h0, hcv⟩, hroom⟩ := hf
  obtain ⟨hb, hk, hn, hm, hc, hu⟩ := leaf_out hok h0
  refine ⟨hok, h0, check_yes.1 hx, hcv, ?_⟩
  obtain ⟨a, m, b, hl, ha, hbb, hcase⟩ := putL_cut (x := x) hu.sorted
  have hsub : (a ++ b).Sublist p.items := by rw [hl]; exact List.Sublist.append (List.Sublist.refl _) (List.sublist_append_right _ _)
  have hup : Up Item.key (a ++ x :: b) := (hu.sub hsub).put ha hbb
  have hmem : ∀ y ∈ a ++ x :: b, y = x ∨ y ∈ p.items := fun y hy => by
    rcases List.mem_append.1 hy with h | h
    · exact .inr (hsub.subset (List.mem_append.2 (.inl h)))
    · rcases List.mem_cons.1 h with h | h
      · exact .inl h
      · exact .inr (hsub.subset (List.mem_append.2 (.inr h)))
  have hlen : p.items.length = a.length + (m.length + b.length) := by rw [hl]; simp
  rcases hcase with ⟨y, rfl, hy, hat, hp⟩ | ⟨rfl, hat, hp⟩
  · rw [hp]
    split
    · exact ⟨hn, fun z hz => .inr hz, hu⟩
    · refine ⟨?_, hmem, hup⟩
      simp at hlen ⊢; omega
  · rw [hp]
    refine ⟨?_, hmem, hup⟩
    rw [hat] at hroom
    simp at hlen hroom ⊢; omega
theorem putP_eq {p : Page} {x : Item} (h : p.putE x = 0) : p.putP x = { p with items := putL p.items x } := by unfold Page.putP; rw [if_pos h]
theorem putP_ok {p : Page} {x : Item} (h : p.putE x = 0) : (p.putP x).ok = true := by
  obtain ⟨hok, h0, hx, hcv, hn, hmem, hup⟩ := putL_facts h
  obtain ⟨hb, hk, _, hm, hc, _⟩ := leaf_out hok h0
  rw [putP_eq h]
  refine leaf_ok (p := { p with items := putL p.items x }) hb h0 hk hn (fun y hy => ?_) (fun y hy => ?_) hup
  · rcases hmem y hy with rfl | h
    · exact hx
    · exact hm y h
  · rcases hmem y hy with rfl | h
    · exact hcv
    · exact hc y h
theorem splitE_iff {p : Page} {s : ByteArray} {n : Int} : p.splitE s n = 0 ↔ p.ok = true ∧ p.splitFits s n = true := by
  unfold Page.splitE
  cases p.ok <;> cases p.splitFits s n <;> simp
theorem splitP_ok {p : Page} {s : ByteArray} {n : Int} (h : p.splitE s n = 0) : (p.splitP s n).ok = true := by
  obtain ⟨hok, hf⟩ := splitE_iff.1 h
  have e : p.splitP s n = ⟨p.level, p.low, s, false, n, p.items.take (posOf Item.key p.items s), p.kids.take (posOf Kid.key p.kids s)⟩ := by unfold Page.splitP; rw [hok, hf]; rfl
  rw [e]
  unfold Page.splitFits at hf
  simp only [Bool.and_eq_true, Bool.not_eq_true', Bool.and_eq_false_iff, Bool.not_eq_false'] at hf
  obtain ⟨hks, hne, hcv, hpg, hat⟩ := hf
  obtain ⟨hc1, hc2⟩ := covers_iff.1 hcv
  have hlow : lt p.low s = true := lt_total hc1 (fun e => by rw [same_of.2 e] at hne; cases hne)
  have hbd : p.bounds1 = true := by
    unfold Page.ok Page.boundsB at hok
    simp only [Bool.and_eq_true] at hok
    exact hok.1.1.1
  have hb : (⟨p.level, p.low, s, false, n, p.items.take (posOf Item.key p.items s), p.kids.take (posOf Kid.key p.kids s)⟩ : Page).boundsB = true := by
    unfold Page.boundsB
    rw [show (⟨p.level, p.low, s, false, n, p.items.take (posOf Item.key p.items s), p.kids.take (posOf Kid.key p.kids s)⟩ : Page).bounds1 = p.bounds1 from rfl, hbd]
    show (isKey s && lt p.low s && isPage n) = true
    rw [hks, hlow, hpg]; rfl
  by_cases h0 : p.level = 0
  · obtain ⟨_, hk, hn, hm, hc, hu⟩ := leaf_out hok h0
    obtain ⟨a, m, b, hl, ha, _, hp, _⟩ := cut_at Item.key p.items s hu.sorted
    have hta : p.items.take (posOf Item.key p.items s) = a := by rw [← hp]; conv => lhs; rw [hl, List.take_left]
    have hsub : a.Sublist p.items := by rw [hl]; exact List.sublist_append_left _ _
    rw [hta] at hb ⊢
    refine leaf_ok hb h0 ?_ ?_ (fun y hy => hm y (hsub.subset hy)) (fun y hy => ?_) (hu.sub hsub)
    · show p.kids.take _ = []
      rw [hk, List.take_nil]
    · exact Nat.le_trans hsub.length_le hn
    · exact covers_iff.2 ⟨(covers_iff.1 (hc y (hsub.subset hy))).1, .inr (ha y hy)⟩
  · obtain ⟨_, h1, hi, ⟨x, l, hx, hxl⟩, hn, hm, hc, hu⟩ := inner_out hok h0
    obtain ⟨a, m, b, hl, ha, _, hp, hcase⟩ := cut_at Kid.key p.kids s hu.sorted
    have hta : p.kids.take (posOf Kid.key p.kids s) = a := by rw [← hp]; conv => lhs; rw [hl, List.take_left]
    have hsub : a.Sublist p.kids := by rw [hl]; exact List.sublist_append_left _ _
    have hat' : isAt Kid.key p.kids s = true := by
      rcases hat with h | h
      · rw [decide_eq_true h1] at h; cases h
      · exact h
    rw [hta] at hb ⊢
    have hax : ∃ l', a = x :: l' := by
      cases a with
      | cons z a' =>
        rw [hx] at hl
        injection hl with h2 _
        exact ⟨a', by rw [h2]⟩
      | nil =>
        exfalso
        rcases hcase with ⟨_, y, rfl, hy⟩ | ⟨h2, _⟩
        · rw [hx] at hl
          injection hl with h2 _
          subst h2
          rw [hxl] at hy
          rw [same_of.2 hy.symm] at hne
          cases hne
        · rw [h2] at hat'; cases hat'
    obtain ⟨l', hl'⟩ := hax
    refine inner_ok (x := x) (l := l') hb h1 ?_ hl' hxl ?_ (fun y hy => hm y (hsub.subset hy)) (fun y hy => ?_) (hu.sub hsub)
    · show p.items.take _ = []
      rw [hi, List.take_nil]
    · exact Nat.le_trans hsub.length_le hn
    · exact covers_iff.2 ⟨(covers_iff.1 (hc y (hsub.subset hy))).1, .inr (ha y hy)⟩
theorem unlinkP_ok {p : Page} {s : ByteArray} (h : p.unlinkE s = 0) : (p.unlinkP s).ok = true := by
  have hh : p.ok = true ∧ p.unlinkFits s = true := by
    unfold Page.unlinkE at h
    cases h1 : p.ok <;> cases h2 : p.unlinkFits s <;> rw [h1, h2] at h <;> simp at h ⊢
  obtain ⟨hok, hf⟩ := hh
  have e : p.unlinkP s = { p with kids := p.kids.take (posOf Kid.key p.kids s) ++ p.kids.drop (posOf Kid.key p.kids s + 1) } := by unfold Page.unlinkP; rw [hok, hf]; rfl
  unfold Page.unlinkFits at hf
  simp only [Bool.and_eq_true, Bool.not_eq_true', beq_eq_false_iff_ne, ne_eq] at hf
  obtain ⟨h0, hat, hp0⟩ := hf
  obtain ⟨hb, h1, hi, ⟨x, l, hx, hxl⟩, hn, hm, hc, hu⟩ := inner_out hok h0
  obtain ⟨a, m, b, hl, ha, _, hp, hcase⟩ := cut_at Kid.key p.kids s hu.sorted
  rcases hcase with ⟨_, y, rfl, hy⟩ | ⟨h2, _⟩
  · have hta : p.kids.take (posOf Kid.key p.kids s) ++ p.kids.drop (posOf Kid.key p.kids s + 1) = a ++ b := by
      have h1 : p.kids.take a.length = a := by rw [hl, List.take_left]
      have h2 : p.kids.drop (a.length + 1) = b := by rw [hl]; simp [List.drop_append]
      rw [← hp, h1, h2]
    rw [e, hta]
    have hsub : (a ++ b).Sublist p.kids := by rw [hl]; exact List.Sublist.append (List.Sublist.refl _) (List.sublist_append_right _ _)
    cases a with
    | nil => simp at hp; omega
    | cons z a' =>
      have hl2 := hl
      rw [hx] at hl2
      injection hl2 with h2 _
      subst h2
      exact inner_ok (p := { p with kids := x :: a' ++ b }) (x := x) (l := a' ++ b) hb h1 hi rfl hxl (Nat.le_trans hsub.length_le hn) (fun y hy => hm y (hsub.subset hy)) (fun y hy => hc y (hsub.subset hy)) (hu.sub hsub)
  · rw [h2] at hat; cases hat
theorem linkP_ok' {p : Page} {x : Kid} (h : p.linkE x = 0) : (p.linkP x).ok = true := by
  have hh : p.ok = true ∧ p.linkFits x = true := by
    unfold Page.linkE at h
    cases h1 : p.ok <;> cases h2 : p.linkFits x <;> rw [h1, h2] at h <;> simp at h ⊢
  obtain ⟨hok, hf⟩ := hh
  have e : p.linkP x = { p with kids := linkL p.kids x } := by unfold Page.linkP; rw [hok, hf]; rfl
  rw [e]
  exact linkP_ok hok hf
theorem up_append {α : Type} {key : α → ByteArray} {l m : List α} {k : ByteArray} (h1 : Up key l) (h2 : Up key m) (hl : ∀ x ∈ l, lt (key x) k = true) (hm : ∀ x ∈ m, lt (key x) k = false) : Up key (l ++ m) := by
  unfold Up
  rw [List.pairwise_append]
  refine ⟨h1, h2, fun x hx y hy => ?_⟩
  have a := hl x hx
  have b := hm y hy
  cases hc : lt (key x) (key y) with
  | true => rfl
  | false =>
    by_cases he : key x = key y
    · rw [he] at a; rw [a] at b; cases b
    · have := lt_trans (lt_total hc he) a
      rw [this] at b; cases b
theorem mergeP_ok {p q : Page} (h : p.mergeE q = 0) : (p.mergeP q).ok = true := by
  have hh : (p.ok && q.ok) = true ∧ p.mergeFits q = true := by
    unfold Page.mergeE at h
    cases h1 : (p.ok && q.ok) <;> cases h2 : p.mergeFits q <;> rw [h1, h2] at h <;> simp at h ⊢
  obtain ⟨hok, hf⟩ := hh
  have e : p.mergeP q = ⟨p.level, p.low, q.high, q.last, q.side, p.items ++ q.items, p.kids ++ q.kids⟩ := by unfold Page.mergeP; rw [hok, hf]; rfl
  rw [e]
  unfold Page.mergeFits at hf
  simp only [Bool.and_eq_true, beq_iff_eq, Bool.not_eq_true', decide_eq_true_eq] at hf hok
  obtain ⟨hlv, hlast, hsame, hni, hnk⟩ := hf
  obtain ⟨hp, hq⟩ := hok
  have hpq := same_of.1 hsame
  have hbp : p.boundsB = true := by unfold Page.ok at hp; simp only [Bool.and_eq_true] at hp; exact hp.1.1
  have hbq : q.boundsB = true := by unfold Page.ok at hq; simp only [Bool.and_eq_true] at hq; exact hq.1.1
  have hbp2 := hbp
  unfold Page.boundsB Page.bounds2 at hbp2
  rw [hlast] at hbp2
  simp only [Bool.and_eq_true, cond_false] at hbp2
  obtain ⟨hb1, ⟨_, hlh⟩, _⟩ := hbp2
  have hqh : q.last = false → lt q.low q.high = true := fun hl => by
    unfold Page.boundsB Page.bounds2 at hbq
    rw [hl] at hbq
    simp only [Bool.and_eq_true, cond_false] at hbq
    exact hbq.2.1.2
  have hb : (⟨p.level, p.low, q.high, q.last, q.side, p.items ++ q.items, p.kids ++ q.kids⟩ : Page).boundsB = true := by
    unfold Page.boundsB
    rw [show (⟨p.level, p.low, q.high, q.last, q.side, p.items ++ q.items, p.kids ++ q.kids⟩ : Page).bounds1 = p.bounds1 from rfl, hb1]
    show cond q.last (q.high.toList.isEmpty && q.side == 0) (isKey q.high && lt p.low q.high && isPage q.side) = true
    have hbq2 := hbq
    unfold Page.boundsB Page.bounds2 at hbq2
    cases hl : q.last with
    | true => rw [hl] at hbq2; simp only [Bool.and_eq_true, cond_true] at hbq2 ⊢; exact hbq2.2
    | false =>
      have h3 := hqh hl
      rw [hl] at hbq2
      simp only [Bool.and_eq_true, cond_false] at hbq2 ⊢
      exact ⟨⟨hbq2.2.1.1, lt_trans hlh (by rw [hpq]; exact h3)⟩, hbq2.2.2⟩
  have hcp : ∀ k, p.covers k = true → (⟨p.level, p.low, q.high, q.last, q.side, p.items ++ q.items, p.kids ++ q.kids⟩ : Page).covers k = true ∧ lt k q.low = true := fun k hk => by
    obtain ⟨h1, h2⟩ := covers_iff.1 hk
    have h3 : lt k q.low = true := by
      rcases h2 with h | h
      · rw [hlast] at h; cases h
      · rw [← hpq]; exact h
    refine ⟨covers_iff.2 ⟨h1, ?_⟩, h3⟩
    show q.last = true ∨ lt k q.high = true
    cases hl : q.last with
    | true => exact .inl rfl
    | false => exact .inr (lt_trans h3 (hqh hl))
  have hcq : ∀ k, q.covers k = true → (⟨p.level, p.low, q.high, q.last, q.side, p.items ++ q.items, p.kids ++ q.kids⟩ : Page).covers k = true ∧ lt k q.low = false := fun k hk => by
    obtain ⟨h1, h2⟩ := covers_iff.1 hk
    refine ⟨covers_iff.2 ⟨?_, h2⟩, h1⟩
    show lt k p.low = false
    cases hl : lt k p.low with
    | false => rfl
    | true =>
      have := lt_trans hl hlh
      rw [hpq, h1] at this; cases this
  by_cases h0 : p.level = 0
  · obtain ⟨_, hk, hn, hm, hc, hu⟩ := leaf_out hp h0
    obtain ⟨_, hk', hn', hm', hc', hu'⟩ := leaf_out hq (by rw [← hlv]; exact h0)
    refine leaf_ok hb h0 (by show p.kids ++ q.kids = []; rw [hk, hk']; rfl) (by show (p.items ++ q.items).length ≤ 120; simp; omega) (fun y hy => ?_) (fun y hy => ?_) (up_append hu hu' (fun x hx => (hcp _ (hc x hx)).2) (fun x hx => (hcq _ (hc' x hx)).2))
    · rcases List.mem_append.1 hy with h | h
      · exact hm y h
      · exact hm' y h
    · rcases List.mem_append.1 hy with h | h
      · exact (hcp _ (hc y h)).1
      · exact (hcq _ (hc' y h)).1
  · obtain ⟨_, h1, hi, ⟨x, l, hx, hxl⟩, hn, hm, hc, hu⟩ := inner_out hp h0
    obtain ⟨_, _, hi', _, hn', hm', hc', hu'⟩ := inner_out hq (by rw [← hlv]; exact h0)
    refine inner_ok (x := x) (l := l ++ q.kids) hb h1 (by show p.items ++ q.items = []; rw [hi, hi']; rfl) (by show p.kids ++ q.kids = _; rw [hx]; rfl) hxl (by show (p.kids ++ q.kids).length ≤ 120; simp; omega) (fun y hy => ?_) (fun y hy => ?_) (up_append hu hu' (fun x hx => (hcp _ (hc x hx)).2) (fun x hx => (hcq _ (hc' x hx)).2))
    · rcases List.mem_append.1 hy with h | h
      · exact hm y h
      · exact hm' y h
    · rcases List.mem_append.1 hy with h | h
      · exact (hcp _ (hc y h)).1
      · exact (hcq _ (hc' y h)).1
theorem applyE_iff {d : Delta} {p : Page} : d.applyE p = 0 ↔ p.ok = true ∧ d.mayB = true ∧ d.opE p = 0 := by
  unfold Delta.applyE
  cases p.ok <;> cases d.mayB <;> simp
theorem applyP_eq {d : Delta} {p : Page} (h : d.applyE p = 0) : d.applyP p = d.opP p := by
  obtain ⟨h1, h2, _⟩ := applyE_iff.1 h
  unfold Delta.applyP
  rw [h1, h2]; rfl
theorem applyP_ok {d : Delta} {p : Page} (h : d.applyE p = 0) : (d.applyP p).ok = true := by
  rw [applyP_eq h]
  obtain ⟨hok, hm, ho⟩ := applyE_iff.1 h
  unfold Delta.opE at ho
  unfold Delta.opP
  by_cases h1 : d.kind = 1
  · rw [if_pos h1] at ho ⊢; exact putP_ok ho
  · rw [if_neg h1] at ho ⊢
    by_cases h2 : d.kind = 2
    · rw [if_pos h2] at ho ⊢; exact splitP_ok ho
    · rw [if_neg h2] at ho ⊢
      by_cases h3 : d.kind = 3
      · rw [if_pos h3] at ho ⊢; exact linkP_ok' ho
      · rw [if_neg h3] at ho ⊢
        by_cases h4 : d.kind = 4
        · rw [if_pos h4] at ho ⊢; exact unlinkP_ok ho
        · rw [if_neg h4] at ho ⊢
          by_cases h5 : d.kind = 5
          · rw [if_pos h5] at ho ⊢; exact hok
          · rw [if_neg h5] at ho ⊢; exact mergeP_ok ho
end Go.Proofs.Ytjbdmaehomhdeaa

namespace Go.Proofs.Ytjbdmaehomhdeaa
open Go.RowKit

theorem decodedD_may {b : Bool} {bs : List Nat} (h : decodeDE b bs = 0) : (decodedD b bs).mayB = true := by
  unfold decodeDE at h
  cases hf : formD b bs with
  | false => rw [hf] at h; exact absurd h (by decide)
  | true =>
    unfold decodedD
    rw [hf]
    unfold formD at hf
    simp only [Bool.and_eq_true] at hf
    exact hf.2.1
theorem may_page {d : Delta} (h : d.mayB = true) (h5 : d.kind = 5) : 1 ≤ d.page ∧ d.page ≤ 512 := by
  unfold Delta.mayB Delta.may at h
  simp only [Bool.and_eq_true] at h
  have h2 := h.2.2
  rw [h5, if_neg (by decide), if_neg (by decide)] at h2
  simp only [Bool.and_eq_true, Bool.or_eq_true] at h2
  rcases h2.2 with h | h
  · exact absurd h (by decide)
  · unfold isPage at h; simpa using h
theorem NV.okOn_iff {x : NV} {p : Page} : x.okOn p = true ↔ decodeDE x.base x.bs = 0 ∧ x.d.applyE p = 0 := by
  unfold NV.okOn
  simp
theorem flatRun_of : ∀ (s : List (Nat × NV)) (p : Page), (flatGo p s).2.2 = 0 → (flatGo p s).2.1 = 0 → flatRun p s = some (flatGo p s).1
  | [], p, _, _ => rfl
  | (i, x) :: r, p, h2, h1 => by
    rw [flatGo] at h2 h1 ⊢
    rw [flatRun]
    cases ho : x.okOn p with
    | false => rw [ho] at h2; exact absurd (show (112 : Int) = 0 from h2) (by decide)
    | true =>
      rw [ho, cond_true] at h2 h1
      simp only [cond_true, Bool.true_and]
      obtain ⟨hd, ha⟩ := NV.okOn_iff.1 ho
      by_cases h5 : x.d.kind = 5
      · exfalso
        rw [decide_eq_true h5, cond_true] at h2 h1
        have hp := may_page (d := x.d) (decodedD_may hd) h5
        by_cases hi : 0 < i
        · rw [decide_eq_true hi] at h2; exact absurd (show (112 : Int) = 0 from h2) (by decide)
        · rw [decide_eq_false hi] at h1
          have : x.d.page = 0 := h1
          omega
      · rw [decide_eq_false h5, cond_false] at h2 h1
        rw [decide_eq_false h5, cond_false]
        exact flatRun_of r _ h2 h1
theorem flatRun_ok : ∀ (s : List (Nat × NV)) (p q : Page), p.ok = true → flatRun p s = some q → q.ok = true
  | [], p, q, hp, h => by injection h with h; rw [← h]; exact hp
  | (i, x) :: r, p, q, hp, h => by
    rw [flatRun] at h
    cases ho : (x.okOn p && !decide (x.d.kind = 5)) with
    | false => rw [ho] at h; cases h
    | true =>
      rw [ho, cond_true] at h
      simp only [Bool.and_eq_true] at ho
      exact flatRun_ok r _ q (applyP_ok (NV.okOn_iff.1 ho.1).2) h
theorem flatRun_map (f : Nat → Nat) : ∀ (s : List (Nat × NV)) (p : Page), flatRun p (s.map fun z => (f z.1, z.2)) = flatRun p s
  | [], p => rfl
  | (i, x) :: r, p => by
    rw [List.map_cons, flatRun, flatRun]
    rw [flatRun_map f r]
noncomputable def seqN (l : List NV) (n : Nat) : List (Nat × NV) := (down n).map fun i => (i.1, l[i.1]?.getD ⟨false, none, 0, []⟩)
theorem seqN_cons (x : NV) (l : List NV) (n : Nat) : seqN (x :: l) (n + 1) = (seqN l n).map (fun z => (z.1 + 1, z.2)) ++ [(0, x)] := by
  unfold seqN down
  rw [List.finRange_succ, List.reverse_cons, List.map_append, List.map_map, ← List.map_reverse, List.map_map]
  congr 1
theorem flatL_eq {l : List NV} {z : NV} (hz : l.getLast? = some z) : flatL l = cond (flatB l && decide (decodeE z.bs = 0)) (flatGo (decoded z.bs) (seqN l (l.length - 1))) (Page.zero, 0, 112) := by
  unfold flatL seqN
  rw [hz]
theorem flatB_of {l : List NV} {z : NV} (hz : l.getLast? = some z) : flatB l = (decide (1 ≤ l.length) && (decide (l.length ≤ 64) && z.base)) := by
  unfold flatB
  rw [hz]; rfl
/-- a chain that is not frozen: its run -/
theorem flat_run {l : List NV} (h2 : (flatL l).2.2 = 0) (h1 : (flatL l).2.1 = 0) : ∃ z, l.getLast? = some z ∧ z.base = true ∧ 1 ≤ l.length ∧ l.length ≤ 64 ∧ decodeE z.bs = 0 ∧ flatRun (decoded z.bs) (seqN l (l.length - 1)) = some (flatL l).1 := by
  cases hz : l.getLast? with
  | none => unfold flatL at h2; rw [hz] at h2; exact absurd (show (112 : Int) = 0 from h2) (by decide)
  | some z =>
    rw [flatL_eq hz] at h2 h1 ⊢
    cases hc : (flatB l && decide (decodeE z.bs = 0)) with
    | false => rw [hc] at h2; exact absurd (show (112 : Int) = 0 from h2) (by decide)
    | true =>
      rw [hc, cond_true] at h2 h1
      rw [flatB_of hz] at hc
      simp only [Bool.and_eq_true, decide_eq_true_eq] at hc
      obtain ⟨⟨a, b, c⟩, d⟩ := hc
      exact ⟨z, rfl, c, a, b, d, flatRun_of _ _ h2 h1⟩
theorem flat_ok {l : List NV} (h2 : (flatL l).2.2 = 0) (h1 : (flatL l).2.1 = 0) : (flatL l).1.ok = true := by
  obtain ⟨z, _, _, _, _, hd, hr⟩ := flat_run h2 h1
  exact flatRun_ok _ _ _ (decoded_ok hd) hr
/-- one change more on a chain -/
theorem flat_cons {l : List NV} (x : NV) (h2 : (flatL l).2.2 = 0) (h1 : (flatL l).2.1 = 0) (hlen : l.length < 64) : flatL (x :: l) = flatGo (flatL l).1 [(0, x)] := by
  obtain ⟨z, hz, hb, hl, _, hd, hr⟩ := flat_run h2 h1
  have hne : l ≠ [] := by intro e; rw [e] at hl; simp at hl
  have hz2 : (x :: l).getLast? = some z := by rw [List.getLast?_cons_of_ne_nil hne]; exact hz
  rw [flatL_eq hz2, flatB_of hz2, hb, hd, decide_eq_true (show 1 ≤ (x :: l).length by simp), decide_eq_true (show (x :: l).length ≤ 64 by simp; omega), decide_eq_true rfl]
  show flatGo _ (seqN (x :: l) l.length) = _
  obtain ⟨n, hn⟩ : ∃ n, l.length = n + 1 := ⟨l.length - 1, by omega⟩
  rw [hn, seqN_cons]
  rw [show l.length - 1 = n by omega] at hr
  exact flatGo_run _ _ _ _ ((flatRun_map (· + 1) _ _).trans hr)
theorem flat_two (x b : NV) {p : Page} (hp : p.ok = true) (hb : b.base = true) (hbs : b.bs = p.bytes) : flatL [x, b] = flatGo p [(0, x)] := by
  have hz : [x, b].getLast? = some b := rfl
  rw [flatL_eq hz, flatB_of hz, hb, hbs, decodeE_bytes hp, decoded_bytes hp]
  rfl
theorem flat_back {l : List NV} (x b : NV) (h2 : (flatL l).2.2 = 0) (h1 : (flatL l).2.1 = 0) (hlen : l.length < 64) (hb : b.base = true) (hbs : b.bs = (flatL l).1.bytes) : flatL [x, b] = flatL (x :: l) := by
  rw [flat_cons x h2 h1 hlen, flat_two x b (flat_ok h2 h1) hb hbs]
end Go.Proofs.Ytjbdmaehomhdeaa
