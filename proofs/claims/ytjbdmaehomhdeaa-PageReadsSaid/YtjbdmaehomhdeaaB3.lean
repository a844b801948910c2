import Derived.Test.YtjbdmaehomhdeaaB2
import Derived.IntWalk
import Derived.Test.YtjbdmaehomhdeaaA8
namespace Go.Proofs.Ytjbdmaehomhdeaa
open Go.RowKit

theorem OwnB.form {w : World} {base n : Nat} {v : Value} {l : List Nat} (h : OwnB w base v l) (hn : l.length = n) :
    ∃ A c, v = .slice A n c ∧ n ≤ c ∧ Rd byteCell 1 w base w.heap.size A l ∧ (∀ k, v.ownBlock = some k → base ≤ k ∧ k < w.heap.size) := by
  subst hn
  have hlt := h.lt
  have hge := h.block
  have h0 := h
  rcases h.2 with ⟨rfl, hl⟩ | ⟨g, cap, cur, rfl, hg, hh, hn, hcm, hsz, htk⟩
  · have : l = [] := List.eq_nil_of_length_eq_zero hl
    subst this
    exact ⟨none, 0, rfl, Nat.le_refl _, Rd.nil, fun k hk => by simp [Value.ownBlock] at hk⟩
  · refine ⟨_, _, rfl, hn, fun _ => ⟨_, rfl, hg, hlt g (by simp [Value.ownBlock]), fun i x hx j u hu => ?_⟩, fun k hk => ⟨hge k hk, hlt k hk⟩⟩
    have hil : i < l.length := (List.getElem?_eq_some_iff.1 hx).1
    have hc := h0.cells (g := g) rfl i (.int .u8 (x : Int)) (by unfold byteVals; rw [List.getElem?_map, hx]; rfl)
    have hj : j = 0 := by
      rcases Nat.eq_zero_or_pos j with e | e
      · exact e
      · unfold byteCell at hu; rw [List.getElem?_eq_none (by simp; omega)] at hu; cases hu
    subst hj
    simp [byteCell] at hu
    subst hu
    simpa using hc

def Item.bytes (x : Item) : List Nat := textB x.key ++ (numB x.no.toNat 6 ++ (flagB x.gone ++ textB x.value))
def Kid.bytes (x : Kid) : List Nat := textB x.key ++ numB x.page.toNat 2
def Page.head (p : Page) : List Nat := numB p.level.toNat 1 ++ (flagB p.last ++ (textB p.low ++ (textB p.high ++ (numB p.side.toNat 2 ++ numB (p.items.length + p.kids.length) 1))))
def Page.bytes (p : Page) : List Nat := p.head ++ (p.items.flatMap Item.bytes ++ p.kids.flatMap Kid.bytes)

/-- what bytes asks of a page -/
structure Page.Fine (p : Page) : Prop where
  lv : 0 ≤ p.level
  sd : 0 ≤ p.side
  its : ∀ x ∈ p.items, 0 ≤ x.no ∧ x.key.size ≤ 16 ∧ x.value.size ≤ 48
  kds : ∀ x ∈ p.kids, 0 ≤ x.page ∧ x.key.size ≤ 16
  ni : p.items.length ≤ 120
  nk : p.kids.length ≤ 120
  low : p.low.size ≤ 16
  high : p.high.size ≤ 16

theorem Item.of_check {x : Item} (h : x.check = 0) : x.May := by
  unfold Item.check at h
  split at h
  · assumption
  · cases h
theorem Page.Fine.of_ok {p : Page} (h : p.ok = true) : p.Fine := by
  unfold Page.ok at h
  simp only [Bool.and_eq_true, Bool.or_eq_true, Bool.not_eq_true'] at h
  obtain ⟨⟨hb, hl⟩, hi⟩ := h
  have hlv := bounds_level hb
  unfold Page.boundsB Page.bounds1 Page.bounds2 at hb
  simp only [Bool.and_eq_true, decide_eq_true_eq] at hb
  obtain ⟨⟨⟨h1, h2⟩, h3⟩, h4⟩ := hb
  have h5 : p.high.size ≤ 16 ∧ 0 ≤ p.side := by
    cases hl : p.last <;> rw [hl] at h4
    · simp only [cond_false, Bool.and_eq_true, isKey, isPage, decide_eq_true_eq] at h4
      omega
    · simp only [cond_true, Bool.and_eq_true, List.isEmpty_iff, beq_iff_eq] at h4
      have : p.high.size = 0 := by
        have h := h4.1
        rw [ByteArray.toList_eq, Array.toList_eq_nil_iff] at h
        show p.high.data.size = 0
        rw [h]; rfl
      omega
  by_cases h0 : p.level = 0
  · have hlf : p.leafB = true := by
      rcases hl with h | h
      · simp [h0] at h
      · exact h
    unfold Page.leafB at hlf
    simp only [Bool.and_eq_true, decide_eq_true_eq, Bool.not_eq_true', List.any_eq_false] at hlf
    obtain ⟨⟨⟨k1, k2⟩, k3⟩, _⟩ := hlf
    have hk : p.kids = [] := List.eq_nil_of_length_eq_zero k1
    refine ⟨hlv, h5.2, fun x hx => ?_, (fun x hx => by rw [hk] at hx; cases hx), k2, by omega, by omega, h5.1⟩
    have hm := Item.of_check (x := x) (by simpa using k3 x hx)
    obtain ⟨a, b, c, _⟩ := hm
    simp only [isKey, decide_eq_true_eq] at a
    omega
  · have hlf : p.innerB = true := by
      rcases hi with h | h
      · simp at h; omega
      · exact h
    unfold Page.innerB at hlf
    simp only [Bool.and_eq_true, decide_eq_true_eq, Bool.not_eq_true', List.any_eq_false] at hlf
    obtain ⟨⟨⟨⟨⟨k1, _⟩, k2⟩, _⟩, k3⟩, _⟩ := hlf
    have hk : p.items = [] := List.eq_nil_of_length_eq_zero k1
    refine ⟨hlv, h5.2, (fun x hx => by rw [hk] at hx; cases hx), fun x hx => ?_, by omega, k2, by omega, h5.1⟩
    have := k3 x hx
    simp [Kid.bad, isPage] at this
    omega
end Go.Proofs.Ytjbdmaehomhdeaa
