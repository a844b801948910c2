/- The chapter's examples of pages. -/
import Derived.Test.YtjbdmaehomhdeaaGreatD4
import Derived.Test.YtjbdmaehomhdeaaGreatD5
import Derived.Test.YtjbdmaehomhdeaaGreatZB
import Derived.Test.YtjbdmaehomhdeaaGreatZS
set_option linter.unusedSimpArgs false
set_option linter.unusedVariables false
namespace Go.Proofs.YtjbdmaehomhdeaaGreat
open Go.RowKit

def keyA : ByteArray := ⟨#[97]⟩
def pgA : Page := ⟨0, ⟨#[]⟩, ⟨#[]⟩, true, 0, [], []⟩
def itA : Item := ⟨⟨#[97]⟩, ⟨#[120]⟩, 3, false⟩
def itB : Item := ⟨⟨#[97]⟩, ⟨#[]⟩, 2, false⟩
def itC : Item := ⟨⟨#[49, 50, 51, 52, 53, 54, 55, 56, 57, 48, 49, 50, 51, 52, 53, 54, 55]⟩, ⟨#[]⟩, 1, false⟩
def pgB : Page := ⟨0, ⟨#[]⟩, ⟨#[]⟩, true, 0, [itA], []⟩
theorem lt_data (a b : ByteArray) : lt a b = Op.bytesLess a.data.toList b.data.toList := by
  unfold lt; rw [ByteArray.toList_eq, ByteArray.toList_eq]
theorem ok_leaf {p : Page} (h0 : p.level = 0) (h1 : p.low.size ≤ 16) (h2 : p.bounds2 p.last = true) (h3 : p.leafB = true) : p.ok = true := by
  unfold Page.ok Page.boundsB Page.bounds1
  rw [h0, h2, h3]
  simp
  omega
theorem itA_check : itA.check = 0 := by
  unfold Item.check; rw [if_pos]
  refine ⟨by decide, by decide, by decide, by decide, fun h => by cases h⟩
theorem itB_check : itB.check = 0 := by
  unfold Item.check; rw [if_pos]
  refine ⟨by decide, by decide, by decide, by decide, fun h => by cases h⟩
theorem itC_check : itC.check = 100 := by
  unfold Item.check; rw [if_neg]
  rintro ⟨h, _⟩
  revert h; decide
theorem pgA_ok : pgA.ok = true := by
  refine ok_leaf rfl (by decide) ?_ ?_
  · unfold Page.bounds2; simp [pgA, ByteArray.toList_eq]
  · unfold Page.leafB
    have : rises pgA (pgA.items.map (·.key)) = true := (rises_yes (fun i x h => by simp [pgA] at h)).symm
    rw [this]; simp [pgA]
theorem coversA (k : ByteArray) : pgA.covers k = true := by
  unfold Page.covers
  rw [lt_data]
  have : Op.bytesLess k.data.toList pgA.low.data.toList = false := by
    show Op.bytesLess k.data.toList [] = false
    cases k.data.toList <;> rfl
  rw [this]; rfl
theorem pgB_ok : pgB.ok = true := by
  refine ok_leaf rfl (by decide) ?_ ?_
  · unfold Page.bounds2; simp [pgB, ByteArray.toList_eq]
  · unfold Page.leafB
    have : rises pgB (pgB.items.map (·.key)) = true := (rises_yes (fun i x h => by
      cases i with
      | zero =>
        simp [pgB] at h
        subst h
        exact ⟨coversA itA.key, fun j y e => by omega⟩
      | succ i => simp [pgB] at h)).symm
    rw [this]; simp [pgB, itA_check]
theorem pgA_check : pgA.check = 0 := by unfold Page.check; rw [pgA_ok]; rfl
theorem pgB_check : pgB.check = 0 := by unfold Page.check; rw [pgB_ok]; rfl
theorem pgA_bytes : pgA.bytes = [0, 1, 0, 0, 0, 0, 0] := by decide
theorem isAtA : isAt Item.key pgA.items itA.key = false := rfl
theorem posA : posOf Item.key pgA.items itA.key = 0 := rfl
theorem ltA : lt itA.key itB.key = false := by rw [lt_data]; decide
theorem posB : posOf Item.key pgB.items itB.key = 0 := by
  unfold posOf pgB
  simp only [List.takeWhile_cons, ltA]
  rfl
theorem isAtB : isAt Item.key pgB.items itB.key = true := by
  unfold isAt
  rw [posB]
  show decide (itA.key = itB.key) = true
  rfl
theorem put_A : pgA.putE itA = 0 ∧ pgA.putP itA = pgB := by
  have h : pgA.putE itA = 0 := by
    unfold Page.putE
    rw [if_pos itA_check, if_pos pgA_check, if_pos]
    unfold Page.putFits
    rw [coversA, isAtA]; decide
  refine ⟨h, ?_⟩
  unfold Page.putP
  rw [if_pos h]
  unfold putL
  rw [isAtA, posA]
  rfl
theorem put_B : pgB.putE itB = 0 ∧ pgB.putP itB = pgB := by
  have h : pgB.putE itB = 0 := by
    unfold Page.putE
    rw [if_pos itB_check, if_pos pgB_check, if_pos]
    unfold Page.putFits
    rw [isAtB]
    have : pgB.covers itB.key = true := coversA itB.key
    rw [this]; decide
  refine ⟨h, ?_⟩
  unfold Page.putP
  rw [if_pos h]
  unfold putL
  rw [isAtB, posB]
  rfl
theorem find_A : findI pgB.items keyA = some itA := by
  unfold findI pgB
  rw [List.find?_cons]
  have : (itA.key.toList == keyA.toList) = true := by rw [ByteArray.toList_eq, ByteArray.toList_eq]; decide
  rw [this]
theorem PostPE.pg {w w' : World} {q : Page} {vi vk : Value} (h1 : OwnItem w' w.heap.size vi q.items) (h2 : OwnKid w' w.heap.size vk q.kids) (hi : q.items.length ≤ 140737488351232) (hk : q.kids.length ≤ 140737488351232) :
    ∃ A A' c c', q.valW vi vk = q.val A c A' c' ∧ Pg w' w.heap.size w'.heap.size q A A' c c' := by
  obtain ⟨A, c, rfl, h3, h4⟩ := h1.form
  obtain ⟨A', c', rfl, h5, h6⟩ := h2.form
  exact ⟨A, A', c, c', rfl, h4, h6, h3, h5, hi, hk⟩
end Go.Proofs.YtjbdmaehomhdeaaGreat

namespace Go.Proofs.YtjbdmaehomhdeaaGreat
open Go.RowKit

theorem Pg.none (w : World) (lo hi : Nat) (p : Page) (h1 : p.items = []) (h2 : p.kids = []) : Pg w lo hi p Option.none Option.none 0 0 := by
  refine ⟨by rw [h1]; exact Rd.nil, by rw [h2]; exact Rd.nil, by rw [h1]; exact Nat.le_refl _, by rw [h2]; exact Nat.le_refl _, by rw [h1]; exact Nat.zero_le _, by rw [h2]; exact Nat.zero_le _⟩

end Go.Proofs.YtjbdmaehomhdeaaGreat
