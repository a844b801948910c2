/- Insert at any place; Put whole. -/
import Derived.Test.YtjbdmaehomhdeaaGreatG1
import Derived.Test.YtjbdmaehomhdeaaGreatD5
set_option linter.unusedSimpArgs false
set_option linter.unusedVariables false
namespace Go.Proofs.YtjbdmaehomhdeaaGreat
open Go.RowKit

def InsKid (l : List Kid) (k : Nat) : Prop := ∀ (base g0 : Nat) (v : Value) (x : Kid) (w : World), OwnKid w base v l → Blk w g0 61 x.cells.toArray → (∀ b, v.ownBlock = some b → b ≠ g0) → base ≤ w.heap.size →
  Calls Tryz.prog 135 #[v, .int .i64 (k : Nat), .slice (some ⟨g0, 0, none⟩) 1 1] w (PostIKid w base v (l.take k ++ x :: l.drop k))

theorem ins_item (l : List Item) (k : Nat) (hk : k ≤ l.length) (h : l.length ≤ 1000) : InsItem l k := by
  intro base g0 v x w h1 h2 h3 h4
  by_cases he : k = l.length
  · subst he
    rw [List.take_length, List.drop_length]
    exact insert_end_item base g0 v l x w h1 h2 h h4
  rcases h1.2 with ⟨rfl, hn⟩ | ⟨g, cap, cur, rfl, hg, hh, hnc, hm, hs, ht⟩
  · omega
  · by_cases hroom : l.length + 1 ≤ cap
    · exact insert_room_item base g0 g cap k l x w cur hh hg hm hs ht h2 (Ne.symm (h3 g rfl)) (by omega) hroom h
    · exact insert_grow_item base g0 g cap k l x w cur hh hg hs ht h2 (by omega) hnc (by omega) h h4
theorem ins_kid (l : List Kid) (k : Nat) (hk : k ≤ l.length) (h : l.length ≤ 1000) : InsKid l k := by
  intro base g0 v x w h1 h2 h3 h4
  by_cases he : k = l.length
  · subst he
    rw [List.take_length, List.drop_length]
    exact insert_end_kid base g0 v l x w h1 h2 h h4
  rcases h1.2 with ⟨rfl, hn⟩ | ⟨g, cap, cur, rfl, hg, hh, hnc, hm, hs, ht⟩
  · omega
  · by_cases hroom : l.length + 1 ≤ cap
    · exact insert_room_kid base g0 g cap k l x w cur hh hg hm hs ht h2 (Ne.symm (h3 g rfl)) (by omega) hroom h
    · exact insert_grow_kid base g0 g cap k l x w cur hh hg hs ht h2 (by omega) hnc (by omega) h h4

theorem Page.Fine.items_few {p : Page} (h : p.Fine) : p.items.length ≤ 1000 ∧ p.kids.length ≤ 1000 := by
  have h1 := h.ni
  have h2 := h.nk
  omega
theorem put_ok {p : Page} {x : Item} (h : p.putE x = 0) : p.ok = true := by
  unfold Page.putE at h
  by_cases h1 : x.check = 0
  · rw [if_pos h1] at h
    by_cases h2 : p.check = 0
    · cases hok : p.ok with
      | true => rfl
      | false => unfold Page.check at h2; rw [hok] at h2; simp at h2
    · rw [if_neg h2] at h; exact absurd h h2
  · rw [if_neg h1] at h; exact absurd h h1
theorem page_put (p : Page) (A A' : Option Addr) (c c' lo : Nat) (x : Item) (w : World) (hp : Pg w lo w.heap.size p A A' c c') :
    Calls Tryz.prog 115 #[p.val A c A' c', x.val] w (PostPE w (p.putP x) (p.putE x)) :=
  page_Put p A A' c c' lo x w hp (fun h1 _ => ins_item _ _ (posOf_le _ _ _) (Page.Fine.items_few (Page.Fine.of_ok (put_ok h1))).1)
end Go.Proofs.YtjbdmaehomhdeaaGreat
