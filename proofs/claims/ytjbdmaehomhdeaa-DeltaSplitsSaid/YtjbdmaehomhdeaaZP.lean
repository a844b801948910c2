/- A change of one item, laid down and read back; changes of items upon a chain. -/
import Derived.Test.YtjbdmaehomhdeaaZN
import Derived.Test.YtjbdmaehomhdeaaG14
import Derived.Test.YtjbdmaehomhdeaaG17
import Derived.Test.YtjbdmaehomhdeaaZT
namespace Go.Proofs.Ytjbdmaehomhdeaa
open Go.RowKit

/-- two lists, pair by pair -/
inductive All2 {α β : Type} (R : α → β → Prop) : List α → List β → Prop where
  | nil : All2 R [] []
  | cons {a : α} {b : β} {l : List α} {m : List β} (h : R a b) (hs : All2 R l m) : All2 R (a :: l) (b :: m)
/-- the change that an item is -/
def dItem (x : Item) : Delta := ⟨1, x, ⟨#[]⟩, 0, Page.zero⟩
/-- the change that a split is -/
def dSplit (k : ByteArray) (n : Int) : Delta := ⟨2, Item.none, k, n, Page.zero⟩
theorem dItem_bytes (x : Item) : (dItem x).bytes (dItem x).kind = 1 :: x.bytes := rfl
theorem dSplit_bytes (k : ByteArray) (n : Int) : (dSplit k n).bytes (dSplit k n).kind = 2 :: (textB k ++ numB n.toNat 2) := rfl
theorem dItem_may {x : Item} : (dItem x).mayB = true ↔ x.check = 0 := by
  unfold Delta.mayB Delta.may
  rw [show (dItem x).kind = 1 from rfl, if_pos rfl]
  have hb : (dItem x).bareB 1 = true := by
    unfold Delta.bareB Delta.b1 Delta.b2 Delta.b3 Page.bareB dItem
    simp [Page.zero, ByteArray.toList_eq]
  rw [hb]
  show (decide (1 ≤ (1 : Int) ∧ (1 : Int) ≤ 6) && (true && (x.check == 0))) = true ↔ _
  simp
theorem dSplit_may {k : ByteArray} {n : Int} : (dSplit k n).mayB = true ↔ isKey k = true ∧ isPage n = true := by
  unfold Delta.mayB Delta.may
  rw [show (dSplit k n).kind = 2 from rfl, if_neg (by decide), if_neg (by decide)]
  have hb : (dSplit k n).bareB 2 = true := by
    unfold Delta.bareB Delta.b1 Delta.b2 Delta.b3 Page.bareB dSplit
    simp [Page.zero, Item.same, Item.none, ByteArray.toList_eq]
  rw [hb]
  show (decide (1 ≤ (2 : Int) ∧ (2 : Int) ≤ 6) && (true && (((2 : Int) == 5 || isKey k) && ((2 : Int) == 4 || isPage n)))) = true ↔ _
  simp
theorem may_item {x : Item} (h : x.check = 0) : x.key.size ≤ 255 ∧ x.value.size ≤ 255 ∧ 0 ≤ x.no ∧ x.no ≤ 1099511627776 := by
  obtain ⟨a, b, c, d, _⟩ := Item.of_check h
  simp only [isKey, decide_eq_true_eq] at a
  omega
theorem toldD_item {x : Item} (h : x.check = 0) : toldD (1 :: x.bytes) = dItem x := by
  obtain ⟨h1, h2, h3, h4⟩ := may_item h
  have e : itemAt x.bytes = (x, []) := by
    have := itemAt_of (r := []) h1 h2 h3 h4
    rwa [List.append_nil] at this
  unfold toldD
  rw [show (1 :: x.bytes).take 1 = [1] from rfl, show (1 :: x.bytes).drop 1 = x.bytes from rfl, show leN [1] = 1 from rfl]
  dsimp only
  rw [e]
  rfl
theorem toldD_split {k : ByteArray} {n : Int} (h1 : k.size ≤ 255) (h2 : 0 ≤ n) (h3 : n ≤ 512) : toldD (2 :: (textB k ++ numB n.toNat 2)) = dSplit k n := by
  unfold toldD
  rw [show (2 :: (textB k ++ numB n.toNat 2)).take 1 = [2] from rfl, show (2 :: (textB k ++ numB n.toNat 2)).drop 1 = textB k ++ numB n.toNat 2 from rfl, show leN [2] = 2 from rfl]
  dsimp only
  rw [textOf_of h1, text_drop h1]
  have e : leN ((numB n.toNat 2).take 2) = n.toNat := by
    have := num_take n.toNat 2 []
    rw [List.append_nil] at this
    rw [this]; omega
  rw [e, show ((n.toNat : Nat) : Int) = n by omega]
  rfl
theorem decodeD_of {d : Delta} {bs : List Nat} (hb : d.bytes d.kind = bs) (ht : toldD bs = d) (hm : d.mayB = true) : decodeDE false bs = 0 ∧ decodedD false bs = d := by
  have hf : formD false bs = true := by
    unfold formD
    rw [ht, hm, hb, decide_eq_true rfl]; rfl
  unfold decodeDE decodedD
  rw [hf, ht]
  exact ⟨rfl, rfl⟩
/-- a node that is a change of an item -/
def IsItem (n : NV) (x : Item) : Prop := n.base = false ∧ n.bs = 1 :: x.bytes
theorem IsItem.dec {n : NV} {x : Item} (h : IsItem n x) (hx : x.check = 0) : decodeDE n.base n.bs = 0 ∧ n.d = dItem x := by
  unfold NV.d
  rw [h.1, h.2]
  exact decodeD_of (dItem_bytes x) (toldD_item hx) (dItem_may.2 hx)
theorem applyE_item {p : Page} {x : Item} (hp : p.ok = true) (hx : x.check = 0) : (dItem x).applyE p = p.putE x := by
  unfold Delta.applyE
  rw [hp, dItem_may.2 hx]
  show (dItem x).opE p = _
  unfold Delta.opE
  exact if_pos rfl
theorem applyP_item {p : Page} {x : Item} (hp : p.ok = true) (hx : x.check = 0) : (dItem x).applyP p = p.putP x := by
  unfold Delta.applyP
  rw [hp, dItem_may.2 hx]
  show (dItem x).opP p = _
  unfold Delta.opP
  exact if_pos rfl
/-- items put one after the other -/
noncomputable def goItems : Page → List Item → Page × Int × Int
  | p, [] => (p, 0, 0)
  | p, x :: r => if p.putE x = 0 then goItems (p.putP x) r else (Page.zero, 0, 112)
theorem flatGo_items : ∀ (s : List (Nat × NV)) (its : List Item) (p : Page), p.ok = true → (∀ x ∈ its, x.check = 0) → All2 (fun z x => IsItem z.2 x) s its → flatGo p s = goItems p its
  | [], [], p, _, _, _ => rfl
  | [], x :: r, p, _, _, h => by cases h
  | z :: s, [], p, _, _, h => by cases h
  | (i, n) :: s, x :: r, p, hp, hc, h => by
    cases h with
    | cons h1 h2 =>
    have hx := hc x (List.mem_cons_self ..)
    obtain ⟨hd, hn⟩ := IsItem.dec h1 hx
    rw [flatGo, goItems]
    have e : n.okOn p = decide (p.putE x = 0) := by
      unfold NV.okOn
      rw [hd, hn, applyE_item hp hx]; simp
    rw [e, hn, applyP_item hp hx]
    by_cases h0 : p.putE x = 0
    · rw [if_pos h0, decide_eq_true h0, cond_true, show decide ((dItem x).kind = 5) = false from rfl, cond_false]
      exact flatGo_items s r _ (putP_ok h0) (fun y hy => hc y (List.mem_cons_of_mem _ hy)) h2
    · rw [if_neg h0, decide_eq_false h0, cond_false]
theorem seqN_app (l : List NV) (m : Nat) : ∀ (ns : List NV), seqN (ns ++ l) (ns.length + m) = (seqN l m).map (fun z => (z.1 + ns.length, z.2)) ++ seqN ns ns.length
  | [] => by
    show seqN l (0 + m) = (seqN l m).map (fun z => (z.1 + 0, z.2)) ++ []
    rw [List.append_nil, Nat.zero_add]
    simp
  | x :: ns => by
    rw [List.cons_append, show (x :: ns).length + m = (ns.length + m) + 1 by simp; omega, seqN_cons, seqN_app l m ns, List.map_append, List.map_map]
    rw [show (x :: ns).length = ns.length + 1 from rfl, seqN_cons, List.append_assoc]
    congr 1
theorem seqN_rev : ∀ (ns : List NV), (seqN ns ns.length).map (·.2) = ns.reverse
  | [] => rfl
  | x :: ns => by
    rw [show (x :: ns).length = ns.length + 1 from rfl, seqN_cons, List.map_append, List.map_map, List.reverse_cons, ← seqN_rev ns]
    rfl
/-- changes laid upon a chain that is not frozen -/
theorem flat_app {l : List NV} (ns : List NV) (h2 : (flatL l).2.2 = 0) (h1 : (flatL l).2.1 = 0) (hlen : ns.length + l.length ≤ 64) : flatL (ns ++ l) = flatGo (flatL l).1 (seqN ns ns.length) := by
  obtain ⟨z, hz, hb, hl, _, hd, hr⟩ := flat_run h2 h1
  have hz2 : (ns ++ l).getLast? = some z := by rw [List.getLast?_append, hz]; rfl
  have hlen2 : (ns ++ l).length = ns.length + l.length := by simp
  rw [flatL_eq hz2, flatB_of hz2, hb, hd, hlen2, decide_eq_true (show 1 ≤ ns.length + l.length by omega), decide_eq_true hlen, decide_eq_true rfl]
  show flatGo _ (seqN (ns ++ l) (ns.length + l.length - 1)) = _
  rw [show ns.length + l.length - 1 = ns.length + (l.length - 1) by omega, seqN_app]
  exact flatGo_run _ _ _ _ ((flatRun_map (· + ns.length) _ _).trans hr)
theorem forall2_of {s : List (Nat × NV)} : ∀ {ns : List NV} {its : List Item}, s.map (·.2) = ns → All2 IsItem ns its → All2 (fun z x => IsItem z.2 x) s its := by
  induction s with
  | nil => intro ns its h hf; rw [← h] at hf; cases hf; exact .nil
  | cons z s ih =>
    intro ns its h hf
    rw [← h, List.map_cons] at hf
    cases hf with
    | cons h1 h2 => exact .cons h1 (ih rfl h2)
theorem forall2_append {α β : Type} {R : α → β → Prop} {a : List α} {b : List β} {c : List α} {d : List β} (h1 : All2 R a b) (h2 : All2 R c d) : All2 R (a ++ c) (b ++ d) := by
  induction h1 with
  | nil => exact h2
  | cons h _ ih => exact .cons h ih
theorem forall2_reverse {α β : Type} {R : α → β → Prop} {a : List α} {b : List β} (h : All2 R a b) : All2 R a.reverse b.reverse := by
  induction h with
  | nil => exact .nil
  | cons h _ ih =>
    rw [List.reverse_cons, List.reverse_cons]
    exact forall2_append ih (.cons h .nil)
/-- a chain of items' changes, the newest first, upon a chain -/
theorem flat_items {l : List NV} {ns : List NV} {its : List Item} (h2 : (flatL l).2.2 = 0) (h1 : (flatL l).2.1 = 0) (hlen : ns.length + l.length ≤ 64) (hc : ∀ x ∈ its, x.check = 0) (hf : All2 IsItem ns its.reverse) : flatL (ns ++ l) = goItems (flatL l).1 its := by
  rw [flat_app ns h2 h1 hlen]
  refine flatGo_items _ _ _ (flat_ok h2 h1) hc (forall2_of (seqN_rev ns) ?_)
  have := forall2_reverse hf
  rwa [List.reverse_reverse] at this

/-! ### the order does not matter -/
def look (l : List Item) (k : ByteArray) : Option Item := l.find? (fun x => decide (x.key = k))
theorem look_append (a b : List Item) (k : ByteArray) : look (a ++ b) k = (look a k).or (look b k) := by unfold look; rw [List.find?_append]
theorem look_none {a : List Item} {k : ByteArray} (h : ∀ y ∈ a, y.key ≠ k) : look a k = none := by
  unfold look
  rw [List.find?_eq_none]
  intro y hy
  simpa using h y hy
theorem look_cons (x : Item) (a : List Item) (k : ByteArray) : look (x :: a) k = if x.key = k then some x else look a k := by
  unfold look
  rw [List.find?_cons]
  by_cases h : x.key = k
  · rw [if_pos h, decide_eq_true h]
  · rw [if_neg h, decide_eq_false h]
def upd (f : ByteArray → Option Item) (x : Item) : ByteArray → Option Item := fun k => if x.key = k then (match f k with | some y => if x.no ≤ y.no then some y else some x | none => some x) else f k
theorem ne_of_lt {a b : ByteArray} (h : lt a b = true) : a ≠ b := by
  intro e; rw [e, lt_irr] at h; cases h
theorem look_put {l : List Item} (x : Item) (hs : Up Item.key l) : look (putL l x) = upd (look l) x := by
  funext k
  obtain ⟨a, m, b, hl, ha, hb, hcase⟩ := putL_cut (x := x) hs.sorted
  unfold upd
  by_cases hk : x.key = k
  · subst hk
    have na : look a x.key = none := look_none (fun y hy => ne_of_lt (ha y hy))
    have nb : look b x.key = none := look_none (fun y hy e => ne_of_lt (hb y hy) e.symm)
    have ex : look (a ++ x :: b) x.key = some x := by rw [look_append, na, look_cons, if_pos rfl]; rfl
    rw [if_pos rfl]
    rcases hcase with ⟨y, rfl, hy, hat, hp⟩ | ⟨rfl, hat, hp⟩
    · have el : look l x.key = some y := by rw [hl, look_append, na, look_append, look_cons, if_pos hy]; rfl
      rw [el, hp]
      show look (if x.no ≤ y.no then l else a ++ x :: b) x.key = if x.no ≤ y.no then some y else some x
      by_cases h : x.no ≤ y.no
      · rw [if_pos h, if_pos h, el]
      · rw [if_neg h, if_neg h, ex]
    · have el : look l x.key = none := by rw [hl, look_append, na, look_append, nb]; rfl
      rw [el, hp, ex]
  · rw [if_neg hk]
    have e1 : look (a ++ x :: b) k = (look a k).or (look b k) := by rw [look_append, look_cons, if_neg hk]
    rcases hcase with ⟨y, rfl, hy, hat, hp⟩ | ⟨rfl, hat, hp⟩
    · have el : look l k = (look a k).or (look b k) := by rw [hl, look_append, List.singleton_append, look_cons, if_neg (by rw [hy]; exact hk)]
      rw [hp]
      by_cases h : x.no ≤ y.no
      · rw [if_pos h]
      · rw [if_neg h, e1, el]
    · have el : look l k = (look a k).or (look b k) := by rw [hl, look_append, List.nil_append]
      rw [hp, e1, el]
theorem putL_up {l : List Item} (x : Item) (hs : Up Item.key l) : Up Item.key (putL l x) := by
  obtain ⟨a, m, b, hl, ha, hb, hcase⟩ := putL_cut (x := x) hs.sorted
  have hsub : (a ++ b).Sublist l := by rw [hl]; exact List.Sublist.append (List.Sublist.refl _) (List.sublist_append_right _ _)
  have hup : Up Item.key (a ++ x :: b) := (hs.sub hsub).put ha hb
  rcases hcase with ⟨y, rfl, hy, hat, hp⟩ | ⟨rfl, hat, hp⟩
  · rw [hp]; split
    · exact hs
    · exact hup
  · rw [hp]; exact hup
theorem putL_len (l : List Item) (x : Item) (hs : Up Item.key l) : (putL l x).length ≤ l.length + 1 := by
  obtain ⟨a, m, b, hl, ha, hb, hcase⟩ := putL_cut (x := x) hs.sorted
  have hlen : l.length = a.length + (m.length + b.length) := by rw [hl]; simp
  rcases hcase with ⟨y, rfl, hy, hat, hp⟩ | ⟨rfl, hat, hp⟩
  · rw [hp]; split
    · omega
    · simp at hlen ⊢; omega
  · rw [hp]; simp at hlen ⊢; omega
theorem fold_look : ∀ (its : List Item) (l : List Item), Up Item.key l → Up Item.key (its.foldl putL l) ∧ look (its.foldl putL l) = its.foldl upd (look l)
  | [], l, h => ⟨h, rfl⟩
  | x :: r, l, h => by
    rw [List.foldl_cons, List.foldl_cons, ← look_put x h]
    exact fold_look r _ (putL_up x h)
theorem upd_comm {x y : Item} (h : x.no ≠ y.no) (f : ByteArray → Option Item) : upd (upd f x) y = upd (upd f y) x := by
  funext k
  unfold upd
  by_cases hx : x.key = k <;> by_cases hy : y.key = k
  · rw [if_pos hx, if_pos hy, if_pos hx, if_pos hy]
    cases f k with
    | none => 
      show (if y.no ≤ x.no then some x else some y) = (if x.no ≤ y.no then some y else some x)
      by_cases h1 : y.no ≤ x.no
      · rw [if_pos h1, if_neg (by omega)]
      · rw [if_neg h1, if_pos (by omega)]
    | some z =>
      show (match (if x.no ≤ z.no then some z else some x) with | some w => if y.no ≤ w.no then some w else some y | none => some y) = (match (if y.no ≤ z.no then some z else some y) with | some w => if x.no ≤ w.no then some w else some x | none => some x)
      by_cases h1 : x.no ≤ z.no <;> by_cases h2 : y.no ≤ z.no
      · rw [if_pos h1, if_pos h2]; show (if y.no ≤ z.no then some z else some y) = (if x.no ≤ z.no then some z else some x); rw [if_pos h1, if_pos h2]
      · rw [if_pos h1, if_neg h2]; show (if y.no ≤ z.no then some z else some y) = (if x.no ≤ y.no then some y else some x); rw [if_neg h2, if_pos (by omega)]
      · rw [if_neg h1, if_pos h2]; show (if y.no ≤ x.no then some x else some y) = (if x.no ≤ z.no then some z else some x); rw [if_neg h1, if_pos (by omega)]
      · rw [if_neg h1, if_neg h2]; show (if y.no ≤ x.no then some x else some y) = (if x.no ≤ y.no then some y else some x)
        by_cases h3 : y.no ≤ x.no
        · rw [if_pos h3, if_neg (by omega)]
        · rw [if_neg h3, if_pos (by omega)]
  · rw [if_neg hy, if_pos hx, if_pos hx, if_neg hy]
  · rw [if_pos hy, if_neg hx, if_neg hx, if_pos hy]
  · rw [if_neg hy, if_neg hx, if_neg hx, if_neg hy]
theorem look_mem {l : List Item} (hs : Up Item.key l) {x : Item} : x ∈ l ↔ look l x.key = some x := by
  constructor
  · intro h
    obtain ⟨a, b, rfl⟩ := List.append_of_mem h
    have : ∀ y ∈ a, lt y.key x.key = true := fun y hy => (List.pairwise_append.1 hs).2.2 y hy x (List.mem_cons_self ..)
    rw [look_append, look_none (fun y hy => ne_of_lt (this y hy)), look_cons, if_pos rfl]; rfl
  · intro h
    exact List.mem_of_find?_eq_some h
theorem up_ext : ∀ {l m : List Item}, Up Item.key l → Up Item.key m → (∀ x, x ∈ l ↔ x ∈ m) → l = m
  | [], [], _, _, _ => rfl
  | [], y :: m, _, _, h => absurd ((h y).2 (List.mem_cons_self ..)) (by simp)
  | x :: l, [], _, _, h => absurd ((h x).1 (List.mem_cons_self ..)) (by simp)
  | x :: l, y :: m, h1, h2, h => by
    obtain ⟨a1, b1⟩ := List.pairwise_cons.1 h1
    obtain ⟨a2, b2⟩ := List.pairwise_cons.1 h2
    have hxy : x = y := by
      rcases List.mem_cons.1 ((h x).1 (List.mem_cons_self ..)) with e | e
      · exact e
      · rcases List.mem_cons.1 ((h y).2 (List.mem_cons_self ..)) with e2 | e2
        · exact e2.symm
        · have := lt_asymm (a2 x e)
          rw [a1 y e2] at this; cases this
    subst hxy
    congr 1
    refine up_ext b1 b2 (fun z => ?_)
    constructor
    · intro hz
      rcases List.mem_cons.1 ((h z).1 (List.mem_cons_of_mem _ hz)) with e | e
      · subst e
        have := a1 z hz
        rw [lt_irr] at this; cases this
      · exact e
    · intro hz
      rcases List.mem_cons.1 ((h z).2 (List.mem_cons_of_mem _ hz)) with e | e
      · subst e
        have := a2 z hz
        rw [lt_irr] at this; cases this
      · exact e
theorem fold_rev {its l : List Item} (hs : Up Item.key l) (hd : ∀ x ∈ its, ∀ y ∈ its, x = y ∨ x.no ≠ y.no) : its.foldl putL l = its.reverse.foldl putL l := by
  obtain ⟨u1, e1⟩ := fold_look its l hs
  obtain ⟨u2, e2⟩ := fold_look its.reverse l hs
  have e : its.foldl upd (look l) = its.reverse.foldl upd (look l) := by
    refine List.Perm.foldl_eq' (List.reverse_perm its).symm (fun x hx y hy z => ?_) _
    rcases hd x hx y hy with rfl | h
    · rfl
    · exact upd_comm h z
  refine up_ext u1 u2 (fun x => ?_)
  rw [look_mem u1, look_mem u2, e1, e2, e]
/-- what the puts come to, where there is room for all -/
theorem goItems_eq : ∀ (its : List Item) (p : Page), p.ok = true → p.level = 0 → (∀ x ∈ its, x.check = 0) → its.length + p.items.length ≤ 120 →
    goItems p its = if its.all (fun x => p.covers x.key) = true then ({ p with items := its.foldl putL p.items }, 0, 0) else (Page.zero, 0, 112)
  | [], p, _, _, _, _ => rfl
  | x :: r, p, hp, h0, hc, hlen => by
    have hx := hc x (List.mem_cons_self ..)
    have hup := (leaf_out hp h0).2.2.2.2.2
    have hlen' : r.length + 1 + p.items.length ≤ 120 := by simpa using hlen
    rw [goItems, List.all_cons]
    cases hcv : p.covers x.key with
    | false =>
      have hne : ¬ p.putE x = 0 := fun h => by
        obtain ⟨_, _, h3⟩ := putE_iff.1 h
        unfold Page.putFits at h3
        rw [hcv] at h3
        simp at h3
      rw [if_neg hne]; rfl
    | true =>
      have he : p.putE x = 0 := putE_iff.2 ⟨hx, hp, by
        unfold Page.putFits
        rw [hcv, h0, decide_eq_true (show p.items.length < 120 by omega)]
        simp⟩
      rw [if_pos he, putP_eq he]
      have hok := putP_ok he
      rw [putP_eq he] at hok
      have hl := putL_len p.items x hup
      rw [goItems_eq r { p with items := putL p.items x } hok h0 (fun y hy => hc y (List.mem_cons_of_mem _ hy)) (by show r.length + (putL p.items x).length ≤ 120; omega)]
      rfl
theorem any_order {p : Page} {its : List Item} (hp : p.ok = true) (h0 : p.level = 0) (hc : ∀ x ∈ its, x.check = 0) (hlen : its.length + p.items.length ≤ 120) (hd : ∀ x ∈ its, ∀ y ∈ its, x = y ∨ x.no ≠ y.no) : goItems p its = goItems p its.reverse := by
  rw [goItems_eq its p hp h0 hc hlen, goItems_eq its.reverse p hp h0 (fun x hx => hc x (List.mem_reverse.1 hx)) (by rw [List.length_reverse]; exact hlen), List.all_reverse, ← fold_rev (leaf_out hp h0).2.2.2.2.2 hd]
end Go.Proofs.Ytjbdmaehomhdeaa

namespace Go.Proofs.Ytjbdmaehomhdeaa
open Go.RowKit

theorem splitR_eq {p : Page} {s : ByteArray} {n : Int} (hok : p.ok = true) (hf : p.splitFits s n = true) : p.splitR s n = ⟨p.level, s, p.high, p.last, p.side, p.items.drop (posOf Item.key p.items s), p.kids.drop (posOf Kid.key p.kids s)⟩ := by
  unfold Page.splitR; rw [hok, hf]; rfl
theorem splitP_eq {p : Page} {s : ByteArray} {n : Int} (hok : p.ok = true) (hf : p.splitFits s n = true) : p.splitP s n = ⟨p.level, p.low, s, false, n, p.items.take (posOf Item.key p.items s), p.kids.take (posOf Kid.key p.kids s)⟩ := by
  unfold Page.splitP; rw [hok, hf]; rfl
/-- what a split asks -/
theorem splitFits_out {p : Page} {s : ByteArray} {n : Int} (hf : p.splitFits s n = true) : isKey s = true ∧ s ≠ p.low ∧ p.covers s = true ∧ isPage n = true := by
  unfold Page.splitFits at hf
  simp only [Bool.and_eq_true, Bool.not_eq_true'] at hf
  obtain ⟨h1, h2, h3, h4, _⟩ := hf
  exact ⟨h1, (fun e => by rw [same_of.2 e] at h2; cases h2), h3, h4⟩
theorem splitR_ok {p : Page} {s : ByteArray} {n : Int} (hok : p.ok = true) (h0 : p.level = 0) (hf : p.splitFits s n = true) : (p.splitR s n).ok = true := by
  obtain ⟨hb, hk, hn, hm, hc, hu⟩ := leaf_out hok h0
  obtain ⟨hks, hne, hcv, _⟩ := splitFits_out hf
  obtain ⟨hc1, hc2⟩ := covers_iff.1 hcv
  rw [splitR_eq hok hf]
  obtain ⟨a, m, b, hl, ha, hbb, hp, hcase⟩ := cut_at Item.key p.items s hu.sorted
  have htd : p.items.drop (posOf Item.key p.items s) = m ++ b := by rw [← hp]; conv => lhs; rw [hl, List.drop_left]
  have hsub : (m ++ b).Sublist p.items := by rw [hl]; exact List.sublist_append_right _ _
  have hmb : ∀ x ∈ m ++ b, lt x.key s = false := fun x hx => by
    rcases List.mem_append.1 hx with h | h
    · rcases hcase with ⟨_, y, rfl, hy⟩ | ⟨_, rfl⟩
      · rw [List.mem_singleton.1 h, hy]; exact lt_irr _
      · cases h
    · exact lt_asymm (hbb x h)
  have hb2 := hb
  unfold Page.boundsB Page.bounds1 Page.bounds2 at hb2
  simp only [Bool.and_eq_true, decide_eq_true_eq] at hb2
  obtain ⟨⟨⟨_, h2⟩, h3⟩, h4⟩ := hb2
  have hs16 : (s.size : Int) ≤ 16 := by
    simp only [isKey, decide_eq_true_eq] at hks
    omega
  have hB : (⟨p.level, s, p.high, p.last, p.side, p.items.drop (posOf Item.key p.items s), p.kids.drop (posOf Kid.key p.kids s)⟩ : Page).boundsB = true := by
    unfold Page.boundsB Page.bounds1 Page.bounds2
    simp only [Bool.and_eq_true, decide_eq_true_eq]
    refine ⟨⟨⟨hs16, h2⟩, h3⟩, ?_⟩
    cases hlst : p.last with
    | true => rw [hlst] at h4; exact h4
    | false =>
      rw [hlst] at h4 hc2
      simp only [cond_false, Bool.and_eq_true] at h4 ⊢
      refine ⟨⟨h4.1.1, ?_⟩, h4.2⟩
      rcases hc2 with h | h
      · cases h
      · exact h
  refine leaf_ok hB h0 ?_ ?_ (fun x hx => ?_) (fun x hx => ?_) ?_
  · show p.kids.drop _ = []
    rw [hk, List.drop_nil]
  · show (p.items.drop _).length ≤ 120
    rw [List.length_drop]; omega
  · have hx' : x ∈ p.items := List.mem_of_mem_drop hx
    exact hm x hx'
  · have hx' : x ∈ m ++ b := by rw [← htd]; exact hx
    exact covers_iff.2 ⟨hmb x hx', (covers_iff.1 (hc x (hsub.subset hx'))).2⟩
  · show Up Item.key (p.items.drop _)
    rw [htd]
    exact hu.sub hsub
theorem flat_one (b : NV) {p : Page} (hp : p.ok = true) (hb : b.base = true) (hbs : b.bs = p.bytes) : flatL [b] = (p, 0, 0) := by
  have hz : [b].getLast? = some b := rfl
  rw [flatL_eq hz, flatB_of hz, hb, hbs, decodeE_bytes hp, decoded_bytes hp]
  rfl
/-- the chain with the split's change on it -/
theorem flat_split {l : List NV} {N : NV} {key : ByteArray} {n : Int} (h2 : (flatL l).2.2 = 0) (h1 : (flatL l).2.1 = 0) (hlen : l.length < 64) (hb : N.base = false) (hbs : N.bs = 2 :: (textB key ++ numB n.toNat 2)) (hf : (flatL l).1.splitFits key n = true) : flatL (N :: l) = ((flatL l).1.splitP key n, 0, 0) := by
  have hok := flat_ok h2 h1
  obtain ⟨hk, _, _, hn⟩ := splitFits_out hf
  have hk2 := hk
  have hn2 := hn
  simp only [isKey, decide_eq_true_eq] at hk2
  simp only [isPage, decide_eq_true_eq] at hn2
  have hm : (dSplit key n).mayB = true := dSplit_may.2 ⟨hk, hn⟩
  obtain ⟨hd, hdd⟩ := decodeD_of (dSplit_bytes key n) (toldD_split (by omega) (by omega) (by omega)) hm
  have hE : (dSplit key n).applyE (flatL l).1 = 0 := applyE_iff.2 ⟨hok, hm, by
    unfold Delta.opE
    exact (if_neg (by decide : ¬ (2 : Int) = 1)).trans ((if_pos rfl).trans (splitE_iff.2 ⟨hok, hf⟩))⟩
  have hP : (dSplit key n).applyP (flatL l).1 = (flatL l).1.splitP key n := by
    rw [applyP_eq hE]
    unfold Delta.opP
    exact (if_neg (by decide : ¬ (2 : Int) = 1)).trans (if_pos rfl)
  have hND : N.d = dSplit key n := by unfold NV.d; rw [hb, hbs]; exact hdd
  have hokN : N.okOn (flatL l).1 = true := NV.okOn_iff.2 ⟨by rw [hb, hbs]; exact hd, by rw [hND]; exact hE⟩
  rw [flat_cons N h2 h1 hlen, flatGo, hokN, hND, hP]
  rfl
theorem findI_eq {l : List Item} {k : ByteArray} : findI l k = look l k := by
  unfold findI look
  congr 1
  funext x
  by_cases h : x.key = k
  · rw [h, decide_eq_true rfl]; simp
  · rw [decide_eq_false h, bytes_ne h]
theorem findE_of {l : List NV} {k : ByteArray} {q : Page} (h : flatL l = (q, 0, 0)) (h0 : q.level = 0) : findE l k = (bif q.covers k then 0 else 103) ∧ findX l k = (bif q.covers k then look q.items k else none) := by
  unfold findE findX findFits
  rw [h]
  dsimp only
  rw [if_pos rfl, if_pos rfl, h0, findI_eq]
  cases q.covers k <;> exact ⟨rfl, rfl⟩
/-- the three ways -/
theorem splits_cases {l : List NV} {N R : NV} {key other : ByteArray} {n : Int} (h2 : (flatL l).2.2 = 0) (h1 : (flatL l).2.1 = 0) (h0 : (flatL l).1.level = 0) (hlen : l.length < 64) (hb : N.base = false) (hbs : N.bs = 2 :: (textB key ++ numB n.toNat 2)) (hf : (flatL l).1.splitFits key n = true) (hr : R.base = true) (hrs : R.bs = ((flatL l).1.splitR key n).bytes) :
    (findE l other = 0 ∧ findE (N :: l) other = 0 ∧ findE [R] other = 103 ∧ findX (N :: l) other = findX l other) ∨ (findE l other = 0 ∧ findE (N :: l) other = 103 ∧ findE [R] other = 0 ∧ findX [R] other = findX l other) ∨ (findE l other = 103 ∧ findE (N :: l) other = 103 ∧ findE [R] other = 103) := by
  have hok := flat_ok h2 h1
  have e1 : flatL l = ((flatL l).1, 0, 0) := Prod.ext rfl (Prod.ext h1 h2)
  have e2 := flat_split h2 h1 hlen hb hbs hf
  have e3 := flat_one R (splitR_ok hok h0 hf) hr hrs
  obtain ⟨a1, b1⟩ := findE_of (k := other) e1 h0
  obtain ⟨a2, b2⟩ := findE_of (k := other) e2 (by rw [splitP_eq hok hf]; exact h0)
  obtain ⟨a3, b3⟩ := findE_of (k := other) e3 (by rw [splitR_eq hok hf]; exact h0)
  rw [a1, a2, a3, b1, b2, b3]
  rw [splitP_eq hok hf, splitR_eq hok hf]
  generalize (flatL l).1 = p at *
  obtain ⟨hk, hne, hcv, _⟩ := splitFits_out hf
  obtain ⟨hc1, hc2⟩ := covers_iff.1 hcv
  obtain ⟨_, _, _, _, _, hu⟩ := leaf_out hok h0
  have hlow : lt p.low key = true := lt_total hc1 hne
  obtain ⟨a, m, b, hl, ha, hbb, hp, hcase⟩ := cut_at Item.key p.items key hu.sorted
  have htd : p.items.drop (posOf Item.key p.items key) = m ++ b := by rw [← hp]; conv => lhs; rw [hl, List.drop_left]
  have hta : p.items.take (posOf Item.key p.items key) = a := by rw [← hp]; conv => lhs; rw [hl, List.take_left]
  have hmb : ∀ x ∈ m ++ b, lt x.key key = false := fun x hx => by
    rcases List.mem_append.1 hx with h | h
    · rcases hcase with ⟨_, y, rfl, hy⟩ | ⟨_, rfl⟩
      · rw [List.mem_singleton.1 h, hy]; exact lt_irr _
      · cases h
    · exact lt_asymm (hbb x h)
  rw [htd, hta]
  cases hlo : lt other key with
  | true =>
    have hcR : (⟨p.level, key, p.high, p.last, p.side, m ++ b, p.kids.drop (posOf Kid.key p.kids key)⟩ : Page).covers other = false := by
      unfold Page.covers
      show (!lt other key && _) = false
      rw [hlo]; rfl
    have hcL : (⟨p.level, p.low, key, false, n, a, p.kids.take (posOf Kid.key p.kids key)⟩ : Page).covers other = !lt other p.low := by
      unfold Page.covers
      show (!lt other p.low && (false || lt other key)) = _
      rw [hlo]; simp
    have hup : (p.last || lt other p.high) = true := by
      rcases hc2 with h | h
      · rw [h]; rfl
      · rw [lt_trans hlo h, Bool.or_true]
    have hcP : p.covers other = !lt other p.low := by
      unfold Page.covers
      rw [hup, Bool.and_true]
    rw [hcR, hcL, hcP]
    cases hlw : lt other p.low with
    | true => exact .inr (.inr ⟨rfl, rfl, rfl⟩)
    | false =>
      refine .inl ⟨rfl, rfl, rfl, ?_⟩
      show look a other = look p.items other
      rw [hl, look_append, look_none (a := m ++ b) (fun y hy e => by rw [← e, hmb y hy] at hlo; cases hlo)]
      simp
  | false =>
    have hnl : lt other p.low = false := by
      cases h : lt other p.low with
      | false => rfl
      | true => rw [lt_trans h hlow] at hlo; cases hlo
    have hcL : (⟨p.level, p.low, key, false, n, a, p.kids.take (posOf Kid.key p.kids key)⟩ : Page).covers other = false := by
      unfold Page.covers
      show (!lt other p.low && (false || lt other key)) = _
      rw [hlo]; simp
    have hcR : (⟨p.level, key, p.high, p.last, p.side, m ++ b, p.kids.drop (posOf Kid.key p.kids key)⟩ : Page).covers other = (p.last || lt other p.high) := by
      unfold Page.covers
      show (!lt other key && (p.last || lt other p.high)) = _
      rw [hlo]; rfl
    have hcP : p.covers other = (p.last || lt other p.high) := by
      unfold Page.covers
      rw [hnl]; rfl
    rw [hcR, hcL, hcP]
    cases hlw : (p.last || lt other p.high) with
    | false => exact .inr (.inr ⟨rfl, rfl, rfl⟩)
    | true =>
      refine .inr (.inl ⟨rfl, rfl, rfl, ?_⟩)
      show look (m ++ b) other = look p.items other
      rw [hl, look_append a, look_none (a := a) (fun y hy e => by rw [← e, ha y hy] at hlo; cases hlo)]
      rfl
end Go.Proofs.Ytjbdmaehomhdeaa
