/- place, of kids. -/
import Derived.Test.YtjbdmaehomhdeaaGreatZD
set_option linter.unusedSimpArgs false
set_option linter.unusedVariables false
namespace Go.Proofs.YtjbdmaehomhdeaaGreat
open Go.RowKit

set_option maxHeartbeats 1000000 in
theorem place_cmp_kid (g : Nat) (k : ByteArray) (n : Int) (s : ByteArray) (w : World) (hf : Blk w g 137 #[.func (.func 95) #[] #[]]) :
    Calls Tryz.prog 132 #[.agg #[.string k, .int .i64 n], .string s, .pointer (some ⟨g, 0, none⟩)] w fun e w' => e = .returned (.int .i64 (cmpB k s)) ∧ Below w.heap.size w w' := by
  have hc : ∀ o, (w.alloc o).cell? ⟨g, 0, none⟩ = some (.func (.func 95) #[] #[]) := fun o => (hf.alloc o).cell 0
  clear hf
  go_enter Tryz.func132, Tryz.ntmps132
  go_wp2_with (first
    | (go_at_call 95; refine (page_kidKey _ _ _).mono ?_; rintro e w1 ⟨rfl, hb1⟩)
    | (go_at_call 121; refine (strings_Compare _ _ _).mono ?_; rintro e w2 ⟨rfl, rfl⟩))
  go_ret
  exact ⟨rfl, ((Below.refl _ _).alloc (Nat.le_refl _) _).trans (hb1.mono (by simp))⟩

set_option maxRecDepth 100000 in
set_option maxHeartbeats 4000000 in
theorem search_kid (A : Option Addr) (c lo g : Nat) (l : List Kid) (s : ByteArray) (w : World) (hr : Rd Kid.cells 2 w lo w.heap.size A l) (hlen : l.length ≤ 140737488351232) (hs : Sorted Kid.key l) (hf : Blk w g 137 #[.func (.func 95) #[] #[]]) :
    Calls Tryz.prog 131 #[.slice A l.length c, .string s, .func (.func 132) #[] #[.pointer (some ⟨g, 0, none⟩)]] w (PostPl Kid.key l s w) := by
  have HR := Lib.hid hr
  have HS := Lib.hid hs
  have HF := Lib.hid hf
  clear hr hs hf
  obtain ⟨n, hn⟩ : ∃ n, n = l.length := ⟨_, rfl⟩
  rw [← hn]
  rw [← hn] at hlen
  have HN := Lib.hid hn
  clear hn
  go_enter Tryz.func131, Tryz.ntmps131
  go_wp2
  go_loopw [9, 10] (fun i j wr => ∃ a b : Nat, a ≤ b ∧ b ≤ n ∧ i = .int .i64 a ∧ j = .int .i64 b ∧ Hid (Below w.heap.size w wr) ∧ Hid (∀ q x, q < a → l[q]? = some x → lt x.key s = true) ∧ Hid (∀ q x, b ≤ q → l[q]? = some x → lt x.key s = false)) (fun i j _ => (intOf j).toNat - (intOf i).toNat)
  case atStart => exact ⟨0, n, Nat.zero_le _, Nat.le_refl _, rfl, rfl, Lib.hid (Below.refl _ _), Lib.hid (fun q x h => by omega), Lib.hid (fun q x h hx => by rw [List.getElem?_eq_none (by rw [← HN.out]; exact h)] at hx; cases hx)⟩
  case round =>
    obtain ⟨a, b, hab, hbn, rfl, rfl, HB, HA1, HA2⟩ := hrel
    by_cases hlt : a < b
    · have hlt' : (a : Int) < (b : Int) := by omega
      go_upto_region 5 with (fail)
      rw [show ((a : Int) + (b : Int)) / 2 = (((a + b) / 2 : Nat) : Int) by omega]
      obtain ⟨h, hh⟩ : ∃ h, h = (a + b) / 2 := ⟨_, rfl⟩
      rw [← hh]
      have hah : a ≤ h := by omega
      have hhb : h < b := by omega
      have hhn : h < n := by omega
      have hh0 : (0 : Int) ≤ (h : Int) := by omega
      have hhn' : (h : Int) < (n : Int) := by omega
      clear hh
      obtain ⟨ad, x, rfl, hx, h1, h2, c0, c1⟩ := (HR.out.below HB.out).kid (i := h) (by rw [← HN.out]; exact hhn)
      have HFr : Hid (Blk wr g 137 #[.func (.func 95) #[] #[]]) := Lib.hid (HF.out.below HB.out HF.out.lt)
      have hcm := cmpB_neg x.key s
      cases hl : lt x.key s with
      | true =>
        rw [hl] at hcm
        have HL := Lib.hid hl
        clear hl
        go_wp2_with (go_at_call 132; refine (place_cmp_kid g _ _ s _ HFr.out).mono ?_; rintro e w1 ⟨rfl, hb1⟩)
        go_roundw
        case rel => exact ⟨h + 1, b, by omega, hbn, by go_num, rfl, Lib.hid (HB.out.trans (hb1.mono HB.out.size)), Lib.hid (fun q y hq hy => by
          rcases Nat.lt_or_ge q h with hqh | hqh
          · exact lt_trans (HS.out q h y x hqh hy hx.out) HL.out
          · obtain rfl : q = h := by omega
            rw [hx.out] at hy; cases hy; exact HL.out), HA2⟩
        case measure => simp [intOf]; omega
      | false =>
        rw [hl] at hcm
        have HL := Lib.hid hl
        clear hl
        go_wp2_with (go_at_call 132; refine (place_cmp_kid g _ _ s _ HFr.out).mono ?_; rintro e w1 ⟨rfl, hb1⟩)
        go_roundw
        case rel => exact ⟨a, h, hah, by omega, rfl, rfl, Lib.hid (HB.out.trans (hb1.mono HB.out.size)), HA1, Lib.hid (fun q y hq hy => by
          rcases Nat.lt_or_ge h q with hqh | hqh
          · cases hly : lt y.key s with
            | false => rfl
            | true =>
              have := lt_trans (HS.out h q x y hqh hx.out hy) hly
              rw [HL.out] at this; cases this
          · obtain rfl : q = h := by omega
            rw [hx.out] at hy; cases hy; exact HL.out)⟩
        case measure => simp [intOf]; omega
    · obtain rfl : a = b := by omega
      have HPO : Hid (posOf Kid.key l s = a) := Lib.hid (posOf_eq (by rw [← HN.out]; exact hbn) HA1.out (fun x hx => HA2.out a x (Nat.le_refl _) hx))
      clear hlt hab
      by_cases han : a < n
      · have han' : (a : Int) < (n : Int) := by omega
        have han0 : (0 : Int) ≤ (a : Int) := by omega
        obtain ⟨ad, x, rfl, hx, h1, h2, c0, c1⟩ := (HR.out.below HB.out).kid (i := a) (by rw [← HN.out]; exact han)
        have HFr : Hid (Blk wr g 137 #[.func (.func 95) #[] #[]]) := Lib.hid (HF.out.below HB.out HF.out.lt)
        have HIS : Hid (isAt Kid.key l s = decide (x.key = s)) := Lib.hid (by unfold isAt; rw [HPO.out, hx.out])
        have hcz : (cmpB x.key s == 0) = decide (x.key = s) := by
          rw [Bool.eq_iff_iff, beq_iff_eq, decide_eq_true_iff]; exact cmpB_zero _ _
        obtain ⟨cb, hcb⟩ : ∃ cb, cb = cmpB x.key s := ⟨_, rfl⟩
        obtain ⟨db, hdb⟩ : ∃ db, db = decide (x.key = s) := ⟨_, rfl⟩
        rw [← hcb, ← hdb] at hcz
        have HCB := Lib.hid hcb
        have HDB := Lib.hid hdb
        clear hcb hdb
        go_wp2_with (go_at_call 132; refine (place_cmp_kid g _ _ s _ HFr.out).mono ?_; rw [← HCB.out]; rintro e w1 ⟨rfl, hb1⟩)
        go_ret2
        exact ⟨by rw [HPO.out, HIS.out, ← HDB.out]; rfl, HB.out.trans (hb1.mono HB.out.size)⟩
      · have HIS : Hid (isAt Kid.key l s = false) := Lib.hid (by unfold isAt; rw [HPO.out, List.getElem?_eq_none (by rw [← HN.out]; omega)])
        have han' : ¬ (a : Int) < (n : Int) := by omega
        go_wp2
        go_ret2
        exact ⟨by rw [HPO.out, HIS.out]; rfl, HB.out⟩

set_option maxHeartbeats 1000000 in
theorem place_kid (A : Option Addr) (c lo : Nat) (l : List Kid) (s : ByteArray) (w : World) (hr : Rd Kid.cells 2 w lo w.heap.size A l) (hlen : l.length ≤ 140737488351232) (hs : Sorted Kid.key l) :
    Calls Tryz.prog 130 #[.slice A l.length c, .string s, .func (.func 95) #[] #[]] w (PostPl Kid.key l s w) := by
  have HSE := Lib.hid (fun g w1 h1 h2 => search_kid A c lo g l s w1 h1 hlen hs h2)
  have HR := Lib.hid hr
  clear hr hs
  obtain ⟨n, hn⟩ : ∃ n, n = l.length := ⟨_, rfl⟩
  rw [← hn]
  rw [← hn] at HSE
  clear hn hlen
  go_enter Tryz.func130, Tryz.ntmps130
  have hb : Below w.heap.size w (w.alloc (.cells #[.func (.func 95) #[] #[]] 137)) := (Below.refl _ _).alloc (Nat.le_refl _) _
  have hk : Blk (w.alloc (.cells #[.func (.func 95) #[] #[]] 137)) w.heap.size 137 #[.func (.func 95) #[] #[]] := Blk.new _ _ _
  go_wp2_with fail
  generalize w.alloc (.cells #[.func (.func 95) #[] #[]] 137) = w0 at *
  refine (HSE.out _ w0 ((HR.out.below hb).mono (Nat.le_refl _) hb.size) hk).mono ?_
  rintro e w1 ⟨rfl, hb1⟩
  have HB : Hid (Below w.heap.size w w1) := Lib.hid (hb.trans (hb1.mono hb.size))
  clear hb hk hb1
  go_wp2
  go_ret2
  exact ⟨rfl, HB.out⟩
end Go.Proofs.YtjbdmaehomhdeaaGreat
