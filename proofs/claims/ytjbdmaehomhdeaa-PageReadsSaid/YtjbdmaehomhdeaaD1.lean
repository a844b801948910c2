/- Where a key is among things that rise. -/
import Derived.Test.YtjbdmaehomhdeaaD0
namespace Go.Proofs.Ytjbdmaehomhdeaa
open Go.RowKit

/-- how many keys lie ahead of one -/
def posOf {α : Type} (key : α → ByteArray) (l : List α) (k : ByteArray) : Nat := (l.takeWhile (fun y => lt (key y) k)).length
/-- whether the thing there has it -/
def isAt {α : Type} (key : α → ByteArray) (l : List α) (k : ByteArray) : Bool := match l[posOf key l k]? with
  | some y => decide (key y = k)
  | none => false
/-- keys rise strictly -/
def Sorted {α : Type} (key : α → ByteArray) (l : List α) : Prop := ∀ (i j : Nat) (x y : α), i < j → l[i]? = some x → l[j]? = some y → lt (key x) (key y) = true
theorem posOf_le {α : Type} (key : α → ByteArray) (l : List α) (k : ByteArray) : posOf key l k ≤ l.length := by
  unfold posOf
  induction l with
  | nil => simp
  | cons a l ih =>
    rw [List.takeWhile_cons]
    split <;> simp <;> omega
theorem posOf_eq {α : Type} {key : α → ByteArray} {l : List α} {k : ByteArray} {i : Nat} (hi : i ≤ l.length) (h1 : ∀ a x, a < i → l[a]? = some x → lt (key x) k = true) (h2 : ∀ x, l[i]? = some x → lt (key x) k = false) : posOf key l k = i := by
  unfold posOf
  induction l generalizing i with
  | nil => simp at hi; simp [hi]
  | cons a l ih =>
    rw [List.takeWhile_cons]
    cases i with
    | zero =>
      rw [if_neg (by rw [h2 a rfl]; simp)]; rfl
    | succ i =>
      rw [if_pos (h1 0 a (by omega) rfl)]
      simp only [List.length_cons] at hi ⊢
      rw [ih (i := i) (by omega) (fun b x hb hx => h1 (b + 1) x (by omega) (by simpa using hx)) (fun x hx => h2 x (by simpa using hx))]
theorem bytesLess_trans : ∀ x y z : List UInt8, Op.bytesLess x y = true → Op.bytesLess y z = true → Op.bytesLess x z = true
  | [], [], _ => by simp [Op.bytesLess]
  | [], b :: y, [] => by simp [Op.bytesLess]
  | [], b :: y, c :: z => by simp [Op.bytesLess]
  | a :: x, [], _ => by simp [Op.bytesLess]
  | a :: x, b :: y, [] => by simp [Op.bytesLess]
  | a :: x, b :: y, c :: z => by
    have ih := bytesLess_trans x y z
    simp only [Op.bytesLess, Bool.or_eq_true, Bool.and_eq_true, decide_eq_true_eq, beq_iff_eq]
    simp only [UInt8.lt_iff_toNat_lt, ← UInt8.toNat_inj]
    rintro (h1 | ⟨h1, h1'⟩) (h2 | ⟨h2, h2'⟩)
    · left; omega
    · left; omega
    · left; omega
    · right; exact ⟨by omega, ih h1' h2'⟩
theorem lt_trans {a b c : ByteArray} (h1 : lt a b = true) (h2 : lt b c = true) : lt a c = true := bytesLess_trans _ _ _ h1 h2
theorem lt_asymm {a b : ByteArray} (h1 : lt a b = true) : lt b a = false := by
  cases h : lt b a with
  | false => rfl
  | true => have := lt_trans h1 h; rw [lt_irr] at this; cases this
theorem sorted_of_rises {α : Type} {key : α → ByteArray} {p : Page} {l : List α} (h : rises p (l.map key) = true) : Sorted key l := by
  have h : Rises p (l.map key) := by
    unfold rises at h
    exact @of_decide_eq_true _ (Classical.propDecidable _) h
  have one : ∀ (d i : Nat) (x y : α), l[i]? = some x → l[i + d + 1]? = some y → lt (key x) (key y) = true := by
    intro d
    induction d with
    | zero =>
      intro i x y hx hy
      have := (h (i + 0 + 1) (key y) (by rw [List.getElem?_map, hy]; rfl)).2 i (key x) rfl (by rw [List.getElem?_map, hx]; rfl)
      exact this
    | succ d ih =>
      intro i x y hx hy
      have hlt : i + (d + 1) + 1 < l.length := (List.getElem?_eq_some_iff.1 hy).1
      have hz : l[i + d + 1]? = some l[i + d + 1] := List.getElem?_eq_getElem (by omega)
      have h2 := (h (i + (d + 1) + 1) (key y) (by rw [List.getElem?_map, hy]; rfl)).2 (i + d + 1) (key l[i + d + 1]) (by omega) (by rw [List.getElem?_map, hz]; rfl)
      exact lt_trans (ih i x _ hx hz) h2
  intro i j x y hij hx hy
  have := one (j - i - 1) i x y hx (by rw [show i + (j - i - 1) + 1 = j by omega]; exact hy)
  exact this

set_option maxHeartbeats 1000000 in
theorem place_cmp_item (g : Nat) (k v : ByteArray) (n : Int) (gn : Bool) (s : ByteArray) (w : World) (hf : Blk w g 107 #[.func (.func 48) #[] #[]]) :
    Calls Try.prog 70 #[.agg #[.string k, .string v, .int .i64 n, .bool gn], .string s, .pointer (some ⟨g, 0, none⟩)] w fun e w' => e = .returned (.int .i64 (cmpB k s)) ∧ Below w.heap.size w w' := by
  have hc : ∀ o, (w.alloc o).cell? ⟨g, 0, none⟩ = some (.func (.func 48) #[] #[]) := fun o => (hf.alloc o).cell 0
  clear hf
  go_enter Try.func70, Try.ntmps70
  go_wp2_with (first
    | (go_at_call 48; refine (page_itemKey _ _ _ _ _).mono ?_; rintro e w1 ⟨rfl, hb1⟩)
    | (go_at_call 71; refine (strings_Compare _ _ _).mono ?_; rintro e w2 ⟨rfl, rfl⟩))
  go_ret
  exact ⟨rfl, ((Below.refl _ _).alloc (Nat.le_refl _) _).trans (hb1.mono (by simp))⟩

def PostPl {α : Type} (key : α → ByteArray) (l : List α) (s : ByteArray) (w : World) (e : Ending) (w' : World) : Prop := e = .returned (.tuple #[.int .i64 (posOf key l s : Nat), .bool (isAt key l s)]) ∧ Below w.heap.size w w'

set_option maxRecDepth 100000 in
set_option maxHeartbeats 4000000 in
theorem search_item (A : Option Addr) (c lo g : Nat) (l : List Item) (s : ByteArray) (w : World) (hr : Rd Item.cells 4 w lo w.heap.size A l) (hlen : l.length ≤ 140737488351232) (hs : Sorted Item.key l) (hf : Blk w g 107 #[.func (.func 48) #[] #[]]) :
    Calls Try.prog 69 #[.slice A l.length c, .string s, .func (.func 70) #[] #[.pointer (some ⟨g, 0, none⟩)]] w (PostPl Item.key l s w) := by
  have HR := Lib.hid hr
  have HS := Lib.hid hs
  have HF := Lib.hid hf
  clear hr hs hf
  obtain ⟨n, hn⟩ : ∃ n, n = l.length := ⟨_, rfl⟩
  rw [← hn]
  rw [← hn] at hlen
  have HN := Lib.hid hn
  clear hn
  go_enter Try.func69, Try.ntmps69
  go_wp2
  go_loopw [9, 10] (fun i j wr => ∃ a b : Nat, a ≤ b ∧ b ≤ n ∧ i = .int .i64 a ∧ j = .int .i64 b ∧ Hid (Below w.heap.size w wr) ∧ Hid (∀ q x, q < a → l[q]? = some x → lt x.key s = true) ∧ Hid (∀ q x, b ≤ q → l[q]? = some x → lt x.key s = false)) (fun i j _ => (intOf j).toNat - (intOf i).toNat)
  case atStart => exact ⟨0, n, Nat.zero_le _, Nat.le_refl _, rfl, rfl, Lib.hid (Below.refl _ _), Lib.hid (fun q x h => by omega), Lib.hid (fun q x h hx => by rw [List.getElem?_eq_none (by rw [← HN.out]; exact h)] at hx; cases hx)⟩
  case round =>
    obtain ⟨a, b, hab, hbn, rfl, rfl, HB, HA1, HA2⟩ := hrel
    by_cases hlt : a < b
    · have hlt' : (a : Int) < (b : Int) := by omega
      go_upto_region 5 with (fail)
      rw [show ((a : Int) + (b : Int)) / 2 = (((a + b) / 2 : Nat) : Int) by omega]
      obtain ⟨h, hh⟩ : ∃ h, h = (a + b) / 2 := ⟨_, rfl⟩
      rw [← hh]
      have hah : a ≤ h := by omega
      have hhb : h < b := by omega
      have hhn : h < n := by omega
      have hh0 : (0 : Int) ≤ (h : Int) := by omega
      have hhn' : (h : Int) < (n : Int) := by omega
      clear hh
      obtain ⟨ad, x, rfl, hx, h1, h2, c0, c1, c2, c3⟩ := (HR.out.below HB.out).item (i := h) (by rw [← HN.out]; exact hhn)
      have HFr : Hid (Blk wr g 107 #[.func (.func 48) #[] #[]]) := Lib.hid (HF.out.below HB.out HF.out.lt)
      have hcm := cmpB_neg x.key s
      cases hl : lt x.key s with
      | true =>
        rw [hl] at hcm
        have HL := Lib.hid hl
        clear hl
        go_wp2_with (go_at_call 70; refine (place_cmp_item g _ _ _ _ s _ HFr.out).mono ?_; rintro e w1 ⟨rfl, hb1⟩)
        go_roundw
        case rel => exact ⟨h + 1, b, by omega, hbn, by go_num, rfl, Lib.hid (HB.out.trans (hb1.mono HB.out.size)), Lib.hid (fun q y hq hy => by
          rcases Nat.lt_or_ge q h with hqh | hqh
          · exact lt_trans (HS.out q h y x hqh hy hx.out) HL.out
          · obtain rfl : q = h := by omega
            rw [hx.out] at hy; cases hy; exact HL.out), HA2⟩
        case measure => simp [intOf]; omega
      | false =>
        rw [hl] at hcm
        have HL := Lib.hid hl
        clear hl
        go_wp2_with (go_at_call 70; refine (place_cmp_item g _ _ _ _ s _ HFr.out).mono ?_; rintro e w1 ⟨rfl, hb1⟩)
        go_roundw
        case rel => exact ⟨a, h, hah, by omega, rfl, rfl, Lib.hid (HB.out.trans (hb1.mono HB.out.size)), HA1, Lib.hid (fun q y hq hy => by
          rcases Nat.lt_or_ge h q with hqh | hqh
          · cases hly : lt y.key s with
            | false => rfl
            | true =>
              have := lt_trans (HS.out h q x y hqh hx.out hy) hly
              rw [HL.out] at this; cases this
          · obtain rfl : q = h := by omega
            rw [hx.out] at hy; cases hy; exact HL.out)⟩
        case measure => simp [intOf]; omega
    · obtain rfl : a = b := by omega
      have HPO : Hid (posOf Item.key l s = a) := Lib.hid (posOf_eq (by rw [← HN.out]; exact hbn) HA1.out (fun x hx => HA2.out a x (Nat.le_refl _) hx))
      clear hlt hab
      by_cases han : a < n
      · have han' : (a : Int) < (n : Int) := by omega
        have han0 : (0 : Int) ≤ (a : Int) := by omega
        obtain ⟨ad, x, rfl, hx, h1, h2, c0, c1, c2, c3⟩ := (HR.out.below HB.out).item (i := a) (by rw [← HN.out]; exact han)
        have HFr : Hid (Blk wr g 107 #[.func (.func 48) #[] #[]]) := Lib.hid (HF.out.below HB.out HF.out.lt)
        have HIS : Hid (isAt Item.key l s = decide (x.key = s)) := Lib.hid (by unfold isAt; rw [HPO.out, hx.out])
        have hcz : (cmpB x.key s == 0) = decide (x.key = s) := by
          rw [Bool.eq_iff_iff, beq_iff_eq, decide_eq_true_iff]; exact cmpB_zero _ _
        obtain ⟨cb, hcb⟩ : ∃ cb, cb = cmpB x.key s := ⟨_, rfl⟩
        obtain ⟨db, hdb⟩ : ∃ db, db = decide (x.key = s) := ⟨_, rfl⟩
        rw [← hcb, ← hdb] at hcz
        have HCB := Lib.hid hcb
        have HDB := Lib.hid hdb
        clear hcb hdb
        go_wp2_with (go_at_call 70; refine (place_cmp_item g _ _ _ _ s _ HFr.out).mono ?_; rw [← HCB.out]; rintro e w1 ⟨rfl, hb1⟩)
        go_ret2
        exact ⟨by rw [HPO.out, HIS.out, ← HDB.out]; rfl, HB.out.trans (hb1.mono HB.out.size)⟩
      · have HIS : Hid (isAt Item.key l s = false) := Lib.hid (by unfold isAt; rw [HPO.out, List.getElem?_eq_none (by rw [← HN.out]; omega)])
        have han' : ¬ (a : Int) < (n : Int) := by omega
        go_wp2
        go_ret2
        exact ⟨by rw [HPO.out, HIS.out]; rfl, HB.out⟩

set_option maxHeartbeats 1000000 in
theorem place_item (A : Option Addr) (c lo : Nat) (l : List Item) (s : ByteArray) (w : World) (hr : Rd Item.cells 4 w lo w.heap.size A l) (hlen : l.length ≤ 140737488351232) (hs : Sorted Item.key l) :
    Calls Try.prog 47 #[.slice A l.length c, .string s, .func (.func 48) #[] #[]] w (PostPl Item.key l s w) := by
  have HSE := Lib.hid (fun g w1 h1 h2 => search_item A c lo g l s w1 h1 hlen hs h2)
  have HR := Lib.hid hr
  clear hr hs
  obtain ⟨n, hn⟩ : ∃ n, n = l.length := ⟨_, rfl⟩
  rw [← hn]
  rw [← hn] at HSE
  clear hn hlen
  go_enter Try.func47, Try.ntmps47
  have hb : Below w.heap.size w (w.alloc (.cells #[.func (.func 48) #[] #[]] 107)) := (Below.refl _ _).alloc (Nat.le_refl _) _
  have hk : Blk (w.alloc (.cells #[.func (.func 48) #[] #[]] 107)) w.heap.size 107 #[.func (.func 48) #[] #[]] := Blk.new _ _ _
  go_wp2_with fail
  generalize w.alloc (.cells #[.func (.func 48) #[] #[]] 107) = w0 at *
  refine (HSE.out _ w0 ((HR.out.below hb).mono (Nat.le_refl _) hb.size) hk).mono ?_
  rintro e w1 ⟨rfl, hb1⟩
  have HB : Hid (Below w.heap.size w w1) := Lib.hid (hb.trans (hb1.mono hb.size))
  clear hb hk hb1
  go_wp2
  go_ret2
  exact ⟨rfl, HB.out⟩
end Go.Proofs.Ytjbdmaehomhdeaa
