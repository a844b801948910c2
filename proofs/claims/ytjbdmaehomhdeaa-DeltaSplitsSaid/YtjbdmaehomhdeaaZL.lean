/- plain words for DeltaLinks: a kid more in a sorted list. -/
import Derived.Test.YtjbdmaehomhdeaaH1
import Derived.Test.YtjbdmaehomhdeaaG14
namespace Go.Proofs.Ytjbdmaehomhdeaa
open Go.RowKit

theorem bytesLess_total : ∀ x y : List UInt8, Op.bytesLess x y = false → x ≠ y → Op.bytesLess y x = true
  | [], [] => fun _ h => absurd rfl h
  | [], b :: y => by simp [Op.bytesLess]
  | a :: x, [] => by simp [Op.bytesLess]
  | a :: x, b :: y => by
    have ih := bytesLess_total x y
    simp only [Op.bytesLess, Bool.or_eq_true, Bool.and_eq_true, decide_eq_true_eq, beq_iff_eq, Bool.or_eq_false_iff, Bool.and_eq_false_iff, decide_eq_false_iff_not, ne_eq, List.cons.injEq, not_and]
    simp only [UInt8.lt_iff_toNat_lt, ← UInt8.toNat_inj, beq_eq_false_iff_ne, ne_eq]
    rintro ⟨h1, h2⟩ h3
    rcases Nat.lt_trichotomy a.toNat b.toNat with h | h | h
    · omega
    · refine .inr ⟨h.symm, ih ?_ (h3 h)⟩
      rcases h2 with h2 | h2
      · exact absurd h h2
      · exact h2
    · exact .inl h
theorem lt_total {a b : ByteArray} (h : lt a b = false) (hne : a ≠ b) : lt b a = true :=
  bytesLess_total _ _ h (fun e => hne (bytes_ext e))
theorem takeWhile_all {α : Type} (f : α → Bool) : ∀ (l : List α) (y : α), y ∈ l.takeWhile f → f y = true
  | [], y, h => by cases h
  | a :: l, y, h => by
    rw [List.takeWhile_cons] at h
    cases hf : f a with
    | false => rw [hf] at h; cases h
    | true =>
      rw [hf] at h
      rcases List.mem_cons.1 h with rfl | h
      · exact hf
      · exact takeWhile_all f l y h
theorem link_cut {l : List Kid} (x : Kid) (hs : Sorted Kid.key l) : ∃ a m b, l = a ++ (m ++ b) ∧ linkL l x = a ++ x :: b ∧ (∀ y ∈ a, lt y.key x.key = true) ∧ (∀ y ∈ b, lt x.key y.key = true) ∧ a.length = posOf Kid.key l x.key ∧ ((isAt Kid.key l x.key = true ∧ ∃ y, m = [y] ∧ y.key = x.key) ∨ (isAt Kid.key l x.key = false ∧ m = [])) := by
  have hsp := List.takeWhile_append_dropWhile (p := fun y : Kid => lt y.key x.key) (l := l)
  have hi : posOf Kid.key l x.key = (l.takeWhile (fun y : Kid => lt y.key x.key)).length := rfl
  have hA : ∀ y ∈ l.takeWhile (fun y : Kid => lt y.key x.key), lt y.key x.key = true := fun y hy => takeWhile_all (fun y : Kid => lt y.key x.key) l y hy
  have hD : ∀ y r, l.dropWhile (fun y : Kid => lt y.key x.key) = y :: r → lt y.key x.key = false := fun y r h => by
    have := List.head?_dropWhile_not (fun y : Kid => lt y.key x.key) l
    rw [h] at this
    simpa using this
  generalize hta : l.takeWhile (fun y : Kid => lt y.key x.key) = a at *
  generalize htb : l.dropWhile (fun y : Kid => lt y.key x.key) = d at *
  have hget : l[posOf Kid.key l x.key]? = d[0]? := by
    rw [hi, ← hsp, List.getElem?_append_right (Nat.le_refl _), Nat.sub_self]
  cases d with
  | nil =>
    have hat : isAt Kid.key l x.key = false := by unfold isAt; rw [hget]; rfl
    refine ⟨a, [], [], by rw [← hsp]; rfl, ?_, hA, (fun y hy => by cases hy), hi.symm, .inr ⟨hat, rfl⟩⟩
    unfold linkL
    rw [hat, hi]
    show l.take a.length ++ x :: l.drop a.length = _
    rw [← hsp, List.take_left, List.drop_left]
  | cons y r =>
    have hy := hD y r rfl
    have hlr : ∀ z ∈ r, lt y.key z.key = true := fun z hz => by
      obtain ⟨j, hj⟩ := List.getElem?_of_mem hz
      refine hs a.length (a.length + 1 + j) y z (by omega) ?_ ?_
      · rw [← hsp, List.getElem?_append_right (Nat.le_refl _), Nat.sub_self]; rfl
      · rw [← hsp, List.getElem?_append_right (by omega), show a.length + 1 + j - a.length = j + 1 by omega]; exact hj
    by_cases hk : y.key = x.key
    · have hat : isAt Kid.key l x.key = true := by unfold isAt; rw [hget]; exact decide_eq_true hk
      refine ⟨a, [y], r, by rw [← hsp]; rfl, ?_, hA, fun z hz => by rw [← hk]; exact hlr z hz, hi.symm, .inl ⟨hat, y, rfl, hk⟩⟩
      unfold linkL
      rw [hat, hi]
      show l.set a.length x = _
      rw [← hsp, List.set_append_right _ _ (Nat.le_refl _), Nat.sub_self]; rfl
    · have hat : isAt Kid.key l x.key = false := by unfold isAt; rw [hget]; exact decide_eq_false hk
      have hxy := lt_total hy hk
      refine ⟨a, [], y :: r, by rw [← hsp]; rfl, ?_, hA, fun z hz => ?_, hi.symm, .inr ⟨hat, rfl⟩⟩
      · unfold linkL
        rw [hat, hi]
        show l.take a.length ++ x :: l.drop a.length = _
        rw [← hsp, List.take_left, List.drop_left]
      · rcases List.mem_cons.1 hz with rfl | hz
        · exact hxy
        · exact lt_trans hxy (hlr z hz)
theorem same_of {a b : ByteArray} : same a b = true ↔ a = b := by
  unfold same
  rw [beq_iff_eq]
  exact ⟨bytes_ext, fun e => by rw [e]⟩
theorem down_cut (a b : List Kid) (x : Kid) (hb : ∀ y ∈ b, lt x.key y.key = true) : downN (a ++ x :: b) x.key = x.page := by
  unfold downN
  rw [List.foldl_append, List.foldl_cons]
  rw [show same x.key x.key = true from same_of.2 rfl, Bool.or_true, cond_true]
  generalize x.page = n
  induction b with
  | nil => rfl
  | cons y b ih =>
    rw [List.foldl_cons]
    have h1 := hb y (List.mem_cons_self ..)
    have h2 : same y.key x.key = false := by
      cases h : same y.key x.key with
      | false => rfl
      | true => rw [same_of.1 h, lt_irr] at h1; cases h1
    rw [lt_asymm h1, h2, Bool.or_false, cond_false]
    exact ih (fun z hz => hb z (List.mem_cons_of_mem _ hz))
theorem pos_cut (a b : List Kid) (x : Kid) (ha : ∀ y ∈ a, lt y.key x.key = true) : posOf Kid.key (a ++ x :: b) x.key = a.length ∧ isAt Kid.key (a ++ x :: b) x.key = true := by
  have h : posOf Kid.key (a ++ x :: b) x.key = a.length := by
    refine posOf_eq (by simp) (fun j y hj hy => ?_) (fun y hy => ?_)
    · rw [List.getElem?_append_left hj] at hy
      exact ha y (List.mem_of_getElem? hy)
    · rw [List.getElem?_append_right (Nat.le_refl _), Nat.sub_self] at hy
      injection hy with hy
      subst hy
      exact lt_irr _
  refine ⟨h, ?_⟩
  unfold isAt
  rw [h, List.getElem?_append_right (Nat.le_refl _), Nat.sub_self]
  exact decide_eq_true rfl
end Go.Proofs.Ytjbdmaehomhdeaa

namespace Go.Proofs.Ytjbdmaehomhdeaa
open Go.RowKit

theorem sorted_pw {l : List Kid} (h : Sorted Kid.key l) : l.Pairwise (fun x y => lt x.key y.key = true) := by
  rw [List.pairwise_iff_getElem]
  intro i j hi hj hij
  exact h i j _ _ hij (List.getElem?_eq_getElem hi) (List.getElem?_eq_getElem hj)
theorem pw_link {a m b : List Kid} {x : Kid} (h : (a ++ (m ++ b)).Pairwise (fun x y => lt x.key y.key = true)) (ha : ∀ y ∈ a, lt y.key x.key = true) (hb : ∀ y ∈ b, lt x.key y.key = true) : (a ++ x :: b).Pairwise (fun x y => lt x.key y.key = true) := by
  rw [List.pairwise_append] at h ⊢
  obtain ⟨h1, h2, h3⟩ := h
  rw [List.pairwise_append] at h2
  refine ⟨h1, ?_, fun y hy z hz => ?_⟩
  · rw [List.pairwise_cons]
    exact ⟨hb, h2.2.1⟩
  · rcases List.mem_cons.1 hz with rfl | hz
    · exact ha y hy
    · exact lt_trans (ha y hy) (hb z hz)
theorem rises_pw {p : Page} {l : List Kid} (hc : ∀ y ∈ l, p.covers y.key = true) (h : l.Pairwise (fun x y => lt x.key y.key = true)) : rises p (l.map (·.key)) = true := by
  refine (rises_yes ?_).symm
  intro i k hk
  rw [List.getElem?_map] at hk
  obtain ⟨y, hy, rfl⟩ := Option.map_eq_some_iff.1 hk
  refine ⟨hc y (List.mem_of_getElem? hy), fun j k2 hij hk2 => ?_⟩
  rw [List.getElem?_map] at hk2
  obtain ⟨z, hz, rfl⟩ := Option.map_eq_some_iff.1 hk2
  obtain ⟨h1, rfl⟩ := List.getElem?_eq_some_iff.1 hy
  obtain ⟨h2, rfl⟩ := List.getElem?_eq_some_iff.1 hz
  exact (List.pairwise_iff_getElem.1 h) j i h2 h1 (by omega)
theorem inner_of_ok {p : Page} (h : p.ok = true) (h0 : (p.level == 0) = false) : p.boundsB = true ∧ 0 < p.level ∧ p.innerB = true := by
  unfold Page.ok at h
  simp only [Bool.and_eq_true, Bool.or_eq_true, Bool.not_eq_true'] at h
  obtain ⟨⟨hb, _⟩, hi⟩ := h
  have hlv := bounds_level hb
  have hne : p.level ≠ 0 := by simpa using h0
  refine ⟨hb, by omega, ?_⟩
  rcases hi with h | h
  · simp at h; omega
  · exact h
theorem covers_of_rises {p : Page} {l : List Kid} (h : rises p (l.map (·.key)) = true) : ∀ y ∈ l, p.covers y.key = true := by
  have h : Rises p (l.map (·.key)) := by
    unfold rises at h
    exact @of_decide_eq_true _ (Classical.propDecidable _) h
  intro y hy
  obtain ⟨i, hi⟩ := List.getElem?_of_mem hy
  exact (h i y.key (by rw [List.getElem?_map, hi]; rfl)).1
theorem linkP_ok {p : Page} {x : Kid} (hok : p.ok = true) (hf : p.linkFits x = true) : ({ p with kids := linkL p.kids x } : Page).ok = true := by
  have hs := Page.sortedK hok
  unfold Page.linkFits at hf
  simp only [Bool.and_eq_true, Bool.not_eq_true', decide_eq_true_eq, Bool.or_eq_true] at hf
  obtain ⟨h0, hcov, hpg, hk16, hroom⟩ := hf
  obtain ⟨hbd, hlv, hin⟩ := inner_of_ok hok h0
  obtain ⟨a, m, b, hl, hL, ha, hb, hpos, hm⟩ := link_cut x hs
  unfold Page.innerB at hin
  simp only [Bool.and_eq_true, decide_eq_true_eq, Bool.not_eq_true'] at hin
  obtain ⟨⟨⟨⟨⟨hi0, hk1⟩, hk120⟩, hhd⟩, hbad⟩, hri⟩ := hin
  have hcv := covers_of_rises hri
  have hpw := sorted_pw hs
  have hlen : p.kids.length = a.length + (m.length + b.length) := by rw [hl]; simp
  have hne0 : (p.level == 0) = false := h0
  have hmem : ∀ y, y ∈ a ∨ y ∈ b → y ∈ p.kids := fun y hy => by
    rw [hl]; rcases hy with h | h <;> simp [h]
  have hq : ({ p with kids := linkL p.kids x } : Page).innerB = true := by
    rw [hL]
    unfold Page.innerB
    simp only [Bool.and_eq_true, decide_eq_true_eq, Bool.not_eq_true']
    refine ⟨⟨⟨⟨⟨hi0, by simp only [List.length_append, List.length_cons]; omega⟩, ?_⟩, ?_⟩, ?_⟩, ?_⟩
    · rcases hm with ⟨_, y, rfl, _⟩ | ⟨hat, rfl⟩
      · simp at hlen ⊢; omega
      · have hlt : p.kids.length < 120 := by
          rcases hroom with h | h
          · rw [hat] at h; cases h
          · omega
        simp at hlen ⊢; omega
    · cases a with
      | cons y a =>
        rw [hl] at hhd
        exact hhd
      | nil =>
        show same x.key p.low = true
        rw [same_of]
        rcases hm with ⟨_, y, rfl, hy⟩ | ⟨_, rfl⟩
        · rw [hl] at hhd
          rw [← hy]
          exact same_of.1 hhd
        · cases b with
          | nil => rw [hl] at hk1; simp at hk1
          | cons y b =>
            rw [hl] at hhd
            have h1 := hb y (List.mem_cons_self ..)
            rw [show y.key = p.low from same_of.1 hhd] at h1
            unfold Page.covers at hcov
            rw [h1] at hcov
            simp at hcov
    · have hall : ∀ y ∈ p.kids, y.bad = false := fun y hy => by
        have := List.any_eq_false.1 hbad y hy
        simpa using this
      rw [List.any_eq_false]
      intro y hy
      rcases List.mem_append.1 hy with h | h
      · rw [hall y (hmem y (.inl h))]; simp
      · rcases List.mem_cons.1 h with rfl | h
        · unfold Kid.bad; rw [hpg]; simp; omega
        · rw [hall y (hmem y (.inr h))]; simp
    · refine rises_pw (fun y hy => ?_) (pw_link (by rw [← hl]; exact hpw) ha hb)
      rcases List.mem_append.1 hy with h | h
      · exact hcv y (hmem y (.inl h))
      · rcases List.mem_cons.1 h with rfl | h
        · exact hcov
        · exact hcv y (hmem y (.inr h))
  unfold Page.ok
  rw [hq]
  rw [show ({ p with kids := linkL p.kids x } : Page).boundsB = true from hbd]
  rw [show (({ p with kids := linkL p.kids x } : Page).level == 0) = false from h0]
  simp
end Go.Proofs.Ytjbdmaehomhdeaa
