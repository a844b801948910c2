/- Bytes are small; texts out of bytes. -/
import Derived.Test.YtjbdmaehomhdeaaGreatZC
set_option linter.unusedSimpArgs false
set_option linter.unusedVariables false
namespace Go.Proofs.YtjbdmaehomhdeaaGreat
open Go.RowKit

theorem sB_small (s : ByteArray) : ∀ b ∈ sB s, b < 256 := by
  intro b hb
  unfold sB at hb
  obtain ⟨u, _, rfl⟩ := List.mem_map.1 hb
  exact u.toNat_lt
theorem numB_small (n k : Nat) : ∀ b ∈ numB n k, b < 256 := by
  induction k with
  | zero => intro b hb; cases hb
  | succ k ih =>
    intro b hb
    rcases List.mem_append.1 hb with h | h
    · exact ih b h
    · simp at h; omega
theorem textB_small (s : ByteArray) : ∀ b ∈ textB s, b < 256 := by
  intro b hb
  rcases List.mem_cons.1 hb with h | h
  · omega
  · exact sB_small s b h
theorem flagB_small (f : Bool) : ∀ b ∈ flagB f, b < 256 := by
  intro b hb
  unfold flagB at hb
  cases f <;> simp at hb <;> omega
theorem Item.bytes_small (x : Item) : ∀ b ∈ x.bytes, b < 256 := by
  intro b hb
  unfold Item.bytes at hb
  simp only [List.mem_append] at hb
  rcases hb with h | h | h | h
  · exact textB_small _ b h
  · exact numB_small _ _ b h
  · exact flagB_small _ b h
  · exact textB_small _ b h
theorem Kid.bytes_small (x : Kid) : ∀ b ∈ x.bytes, b < 256 := by
  intro b hb
  unfold Kid.bytes at hb
  simp only [List.mem_append] at hb
  rcases hb with h | h
  · exact textB_small _ b h
  · exact numB_small _ _ b h
theorem Page.bytes_small (p : Page) : ∀ b ∈ p.bytes, b < 256 := by
  intro b hb
  unfold Page.bytes Page.head at hb
  simp only [List.mem_append, List.mem_flatMap] at hb
  rcases hb with (h | h | h | h | h | h) | ⟨x, _, h⟩ | ⟨x, _, h⟩
  · exact numB_small _ _ b h
  · exact flagB_small _ b h
  · exact textB_small _ b h
  · exact textB_small _ b h
  · exact numB_small _ _ b h
  · exact numB_small _ _ b h
  · exact Item.bytes_small x b h
  · exact Kid.bytes_small x b h
theorem strOf_inj {a b : List Nat} (ha : ∀ x ∈ a, x < 256) (hb : ∀ x ∈ b, x < 256) (h : (strOf a).toList = (strOf b).toList) : a = b := by
  have ha' : a.map (fun x => (UInt8.ofNat x).toNat) = a := by
    conv => rhs; rw [← List.map_id a]
    exact List.map_congr_left fun x hx => by simp only [UInt8.toNat_ofNat', id]; exact Nat.mod_eq_of_lt (ha x hx)
  have hb' : b.map (fun x => (UInt8.ofNat x).toNat) = b := by
    conv => rhs; rw [← List.map_id b]
    exact List.map_congr_left fun x hx => by simp only [UInt8.toNat_ofNat', id]; exact Nat.mod_eq_of_lt (hb x hx)
  unfold strOf at h
  rw [ByteArray.toList_eq, ByteArray.toList_eq] at h
  have h2 := congrArg (List.map UInt8.toNat) h
  rw [List.map_map, List.map_map] at h2
  rw [← ha', ← hb']
  exact h2
/-- 'string(a) != string(b)' -/
def neqB (a b : List Nat) : Bool := !((strOf a).toList == (strOf b).toList)
theorem neqB_eq {a b : List Nat} (ha : ∀ x ∈ a, x < 256) (hb : ∀ x ∈ b, x < 256) : neqB a b = !decide (a = b) := by
  unfold neqB
  by_cases h : a = b
  · subst h; simp
  · have : ¬ (strOf a).toList = (strOf b).toList := fun e => h (strOf_inj ha hb e)
    simp [h, this]
end Go.Proofs.YtjbdmaehomhdeaaGreat

namespace Go.Proofs.YtjbdmaehomhdeaaGreat
open Go.RowKit

theorem leN_numB (n k : Nat) : leN (numB n k) = n % 256 ^ k := by
  induction k with
  | zero => simp [numB, leN, Nat.mod_one]
  | succ k ih => rw [numB, leN_append, ih, numB_length, Nat.pow_succ, Nat.mod_mul, Nat.mul_comm (256 ^ k)]
theorem num_take (n k : Nat) (r : List Nat) : leN ((numB n k ++ r).take k) = n % 256 ^ k := by
  rw [List.take_append_of_le_length (by rw [numB_length]; exact Nat.le_refl _), List.take_of_length_le (by rw [numB_length]; exact Nat.le_refl _), leN_numB]
theorem num_drop (n k : Nat) (r : List Nat) : (numB n k ++ r).drop k = r := by
  rw [List.drop_append_of_le_length (by rw [numB_length]; exact Nat.le_refl _), List.drop_of_length_le (by rw [numB_length]; exact Nat.le_refl _)]; rfl
theorem flag_take (b : Bool) (r : List Nat) : (((leN ((flagB b ++ r).take 1) : Nat) : Int) == 1) = b := by cases b <;> rfl
theorem flag_drop (b : Bool) (r : List Nat) : (flagB b ++ r).drop 1 = r := by cases b <;> rfl
theorem strOf_sB (s : ByteArray) : strOf (sB s) = s := by
  unfold strOf sB
  rw [List.map_map]
  have : (UInt8.ofNat ∘ UInt8.toNat) = id := by funext u; simp
  rw [this, List.map_id]
theorem textN_of {s : ByteArray} {r : List Nat} (h : s.size ≤ 255) : textN (textB s ++ r) = s.size := by
  unfold textN textB
  rw [show (((s.size % 256) :: sB s) ++ r).take 1 = [s.size % 256] from rfl, show (((s.size % 256) :: sB s) ++ r).drop 1 = sB s ++ r from rfl, List.length_append, sB_length]
  simp only [leN]
  omega
theorem textOf_of {s : ByteArray} {r : List Nat} (h : s.size ≤ 255) : textOf (textB s ++ r) = s := by
  unfold textOf
  rw [textN_of h, show (textB s ++ r).drop 1 = sB s ++ r from rfl, List.take_append_of_le_length (by rw [sB_length]; exact Nat.le_refl _), List.take_of_length_le (by rw [sB_length]; exact Nat.le_refl _), strOf_sB]
theorem text_drop {s : ByteArray} {r : List Nat} (h : s.size ≤ 255) : (textB s ++ r).drop (1 + textN (textB s ++ r)) = r := by
  rw [textN_of h, List.drop_append_of_le_length (by rw [textB_length]; omega), List.drop_of_length_le (by rw [textB_length]; omega)]; rfl
theorem itemAt_of {x : Item} {r : List Nat} (h1 : x.key.size ≤ 255) (h2 : x.value.size ≤ 255) (h3 : 0 ≤ x.no) (h4 : x.no ≤ 1099511627776) : itemAt (x.bytes ++ r) = (x, r) := by
  unfold itemAt Item.bytes
  simp only [List.append_assoc]
  rw [text_drop h1, textOf_of h1, num_take, num_drop, flag_take, flag_drop, textOf_of h2, text_drop h2]
  have : ((x.no.toNat % 256 ^ 6 : Nat) : Int) = x.no := by
    rw [Nat.mod_eq_of_lt (by omega)]; omega
  rw [this]
theorem kidAt_of {x : Kid} {r : List Nat} (h1 : x.key.size ≤ 255) (h3 : 0 ≤ x.page) (h4 : x.page ≤ 512) : kidAt (x.bytes ++ r) = (x, r) := by
  unfold kidAt Kid.bytes
  simp only [List.append_assoc]
  rw [text_drop h1, textOf_of h1, num_take, num_drop]
  have : ((x.page.toNat % 256 ^ 2 : Nat) : Int) = x.page := by
    rw [Nat.mod_eq_of_lt (by omega)]; omega
  rw [this]
theorem takeItems_of (l : List Item) (r : List Nat) (h : ∀ x ∈ l, x.key.size ≤ 255 ∧ x.value.size ≤ 255 ∧ 0 ≤ x.no ∧ x.no ≤ 1099511627776) : ∀ n, n ≤ l.length → takeItems n (l.flatMap Item.bytes ++ r) = (l.take n, (l.drop n).flatMap Item.bytes ++ r)
  | 0, _ => rfl
  | n + 1, hn => by
    rw [takeItems, takeItems_of l r h n (by omega)]
    obtain ⟨h1, h2, h3, h4⟩ := h _ (List.getElem_mem (show n < l.length by omega))
    rw [List.drop_eq_getElem_cons (show n < l.length by omega), List.flatMap_cons, List.append_assoc, itemAt_of h1 h2 h3 h4]
    rw [List.take_add_one, List.getElem?_eq_getElem (show n < l.length by omega)]; rfl
theorem takeKids_of (l : List Kid) (r : List Nat) (h : ∀ x ∈ l, x.key.size ≤ 255 ∧ 0 ≤ x.page ∧ x.page ≤ 512) : ∀ n, n ≤ l.length → takeKids n (l.flatMap Kid.bytes ++ r) = (l.take n, (l.drop n).flatMap Kid.bytes ++ r)
  | 0, _ => rfl
  | n + 1, hn => by
    rw [takeKids, takeKids_of l r h n (by omega)]
    obtain ⟨h1, h3, h4⟩ := h _ (List.getElem_mem (show n < l.length by omega))
    rw [List.drop_eq_getElem_cons (show n < l.length by omega), List.flatMap_cons, List.append_assoc, kidAt_of h1 h3 h4]
    rw [List.take_add_one, List.getElem?_eq_getElem (show n < l.length by omega)]; rfl

theorem leaf_of_ok {p : Page} (h : p.ok = true) (h0 : p.level = 0) : p.boundsB = true ∧ p.leafB = true := by
  unfold Page.ok at h
  simp only [Bool.and_eq_true, Bool.or_eq_true, Bool.not_eq_true'] at h
  obtain ⟨⟨hb, hl⟩, _⟩ := h
  refine ⟨hb, ?_⟩
  rcases hl with h | h
  · simp [h0] at h
  · exact h
theorem inner_of_ok' {p : Page} (h : p.ok = true) (h0 : p.level ≠ 0) : p.boundsB = true ∧ 0 < p.level ∧ p.innerB = true := by
  unfold Page.ok at h
  simp only [Bool.and_eq_true, Bool.or_eq_true, Bool.not_eq_true'] at h
  obtain ⟨⟨hb, _⟩, hi⟩ := h
  have hlv := bounds_level hb
  refine ⟨hb, by omega, ?_⟩
  rcases hi with h | h
  · simp at h; omega
  · exact h
/-- the lists of a page that may be -/
theorem leaf_facts {p : Page} (h : p.ok = true) (h0 : p.level = 0) : p.kids = [] ∧ p.items.length ≤ 120 ∧ (∀ x ∈ p.items, x.May) := by
  have hlf := (leaf_of_ok h h0).2
  unfold Page.leafB at hlf
  simp only [Bool.and_eq_true, decide_eq_true_eq, Bool.not_eq_true', List.any_eq_false] at hlf
  obtain ⟨⟨⟨k1, k2⟩, k3⟩, _⟩ := hlf
  exact ⟨List.eq_nil_of_length_eq_zero k1, by omega, fun x hx => Item.of_check (x := x) (by simpa using k3 x hx)⟩
theorem inner_facts {p : Page} (h : p.ok = true) (h0 : p.level ≠ 0) : p.items = [] ∧ 1 ≤ p.kids.length ∧ p.kids.length ≤ 120 ∧ (∀ x ∈ p.kids, isPage x.page = true ∧ x.key.size ≤ 16) := by
  have hlf := (inner_of_ok' h h0).2.2
  unfold Page.innerB at hlf
  simp only [Bool.and_eq_true, decide_eq_true_eq, Bool.not_eq_true', List.any_eq_false] at hlf
  obtain ⟨⟨⟨⟨⟨k1, k2⟩, k3⟩, _⟩, k4⟩, _⟩ := hlf
  refine ⟨List.eq_nil_of_length_eq_zero k1, k2, by omega, fun x hx => ?_⟩
  have := k4 x hx
  unfold Kid.bad at this
  simp only [Bool.or_eq_true, Bool.not_eq_true', decide_eq_true_eq, not_or, Bool.not_eq_false] at this
  exact ⟨this.1, by omega⟩
theorem side_of_ok {p : Page} (h : p.ok = true) : p.level ≤ 7 ∧ p.side ≤ 512 := by
  unfold Page.ok at h
  simp only [Bool.and_eq_true] at h
  have hb := h.1.1
  unfold Page.boundsB Page.bounds1 Page.bounds2 at hb
  simp only [Bool.and_eq_true, decide_eq_true_eq] at hb
  obtain ⟨⟨⟨h1, h2⟩, h3⟩, h4⟩ := hb
  refine ⟨h3, ?_⟩
  cases hl : p.last <;> rw [hl] at h4
  · simp only [cond_false, Bool.and_eq_true, isPage, decide_eq_true_eq] at h4
    omega
  · simp only [cond_true, Bool.and_eq_true, beq_iff_eq] at h4
    omega
theorem told_bytes {p : Page} (h : p.ok = true) : told p.bytes = p := by
  have hf := Page.Fine.of_ok h
  obtain ⟨hl7, hs512⟩ := side_of_ok h
  have hlv := hf.lv
  have hsd := hf.sd
  have hlow : p.low.size ≤ 255 := Nat.le_trans hf.low (by omega)
  have hhigh : p.high.size ≤ 255 := Nat.le_trans hf.high (by omega)
  obtain ⟨B, hB⟩ : ∃ B, B = p.items.flatMap Item.bytes ++ p.kids.flatMap Kid.bytes := ⟨_, rfl⟩
  have hb : p.bytes = numB p.level.toNat 1 ++ (flagB p.last ++ (textB p.low ++ (textB p.high ++ (numB p.side.toNat 2 ++ (numB (p.items.length + p.kids.length) 1 ++ B))))) := by
    unfold Page.bytes Page.head
    rw [← hB]
    simp only [List.append_assoc]
  have e1 : rest1 p.bytes = flagB p.last ++ (textB p.low ++ (textB p.high ++ (numB p.side.toNat 2 ++ (numB (p.items.length + p.kids.length) 1 ++ B)))) := by unfold rest1; rw [hb, num_drop]
  have e2 : rest2 p.bytes = textB p.low ++ (textB p.high ++ (numB p.side.toNat 2 ++ (numB (p.items.length + p.kids.length) 1 ++ B))) := by unfold rest2; rw [e1, flag_drop]
  have e3 : rest3 p.bytes = textB p.high ++ (numB p.side.toNat 2 ++ (numB (p.items.length + p.kids.length) 1 ++ B)) := by unfold rest3; rw [e2, text_drop hlow]
  have e4 : rest4 p.bytes = numB p.side.toNat 2 ++ (numB (p.items.length + p.kids.length) 1 ++ B) := by unfold rest4; rw [e3, text_drop hhigh]
  have e5 : rest5 p.bytes = numB (p.items.length + p.kids.length) 1 ++ B := by unfold rest5; rw [e4, num_drop]
  have e6 : rest6 p.bytes = B := by unfold rest6; rw [e5, num_drop]
  have hlev : leN (p.bytes.take 1) = p.level.toNat := by rw [hb, num_take]; omega
  have hcn : p.items.length + p.kids.length ≤ 255 := by
    by_cases h0 : p.level = 0
    · obtain ⟨a, b, _⟩ := leaf_facts h h0
      rw [a]; simp; omega
    · obtain ⟨a, _, b, _⟩ := inner_facts h h0
      rw [a]; simp; omega
  have hcnt : countN p.bytes = p.items.length + p.kids.length := by unfold countN; rw [e5, num_take]; omega
  unfold told
  rw [hlev, e1, flag_take, e2, textOf_of hlow, e3, textOf_of hhigh, e4, num_take, hcnt, e6]
  have hs2 : ((p.side.toNat % 256 ^ 2 : Nat) : Int) = p.side := by rw [Nat.mod_eq_of_lt (by omega)]; omega
  have hl2 : ((p.level.toNat : Nat) : Int) = p.level := by omega
  rw [hs2, hl2]
  by_cases h0 : p.level = 0
  · obtain ⟨a, b, hc⟩ := leaf_facts h h0
    have hz : p.level.toNat = 0 := by omega
    rw [if_pos hz, if_pos hz, hB, a]
    have ht := takeItems_of p.items (([] : List Kid).flatMap Kid.bytes) (fun x hx => by
      obtain ⟨q1, q2, q3, q4, _⟩ := hc x hx
      simp only [isKey, decide_eq_true_eq] at q1
      omega) p.items.length (Nat.le_refl _)
    rw [show p.items.length + ([] : List Kid).length = p.items.length by simp, ht, List.take_length]
    conv => rhs; rw [show p = ⟨p.level, p.low, p.high, p.last, p.side, p.items, p.kids⟩ from rfl, a]
  · obtain ⟨a, _, b, hc⟩ := inner_facts h h0
    have hz : ¬ p.level.toNat = 0 := by omega
    rw [if_neg hz, if_neg hz, hB, a]
    have ht := takeKids_of p.kids [] (fun x hx => by
      obtain ⟨q1, q2⟩ := hc x hx
      simp only [isPage, decide_eq_true_eq] at q1
      omega) p.kids.length (Nat.le_refl _)
    rw [List.append_nil] at ht
    rw [show ([] : List Item).length + p.kids.length = p.kids.length by simp, show ([] : List Item).flatMap Item.bytes ++ p.kids.flatMap Kid.bytes = p.kids.flatMap Kid.bytes from rfl, ht, List.take_length]
    conv => rhs; rw [show p = ⟨p.level, p.low, p.high, p.last, p.side, p.items, p.kids⟩ from rfl, a]
theorem form_bytes {p : Page} (h : p.ok = true) : Page.form p.bytes = true := by
  unfold Page.form
  rw [told_bytes h, h, decide_eq_true rfl]; rfl
theorem decoded_bytes {p : Page} (h : p.ok = true) : decoded p.bytes = p := by
  unfold decoded; rw [form_bytes h, told_bytes h]; rfl
theorem decodeE_bytes {p : Page} (h : p.ok = true) : decodeE p.bytes = 0 := by
  unfold decodeE; rw [form_bytes h]; rfl
theorem decoded_ok {bs : List Nat} (h : decodeE bs = 0) : (decoded bs).ok = true := by
  unfold decodeE at h
  cases hf : Page.form bs with
  | false => rw [hf] at h; exact absurd h (by decide)
  | true =>
    unfold decoded
    rw [hf]
    unfold Page.form at hf
    simp only [Bool.and_eq_true] at hf
    exact hf.1
end Go.Proofs.YtjbdmaehomhdeaaGreat
