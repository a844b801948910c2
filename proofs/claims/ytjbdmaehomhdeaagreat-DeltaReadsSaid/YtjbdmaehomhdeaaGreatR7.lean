/- The reference's taker: Num, Text. -/
import Derived.Test.YtjbdmaehomhdeaaGreatZC
set_option linter.unusedSimpArgs false
set_option linter.unusedVariables false
namespace Go.Proofs.YtjbdmaehomhdeaaGreat
open Go.RowKit

/-- the reference's taker at block g: its bytes, in blocks from lo on, below hi, and what is left of them -/
structure TkR (w : World) (g lo hi : Nat) (bs r : List Nat) : Prop where
  ex : ∃ A c n, Blk w g 118 #[.slice A bs.length c, .int .i64 (n : Nat)] ∧ bs.length ≤ c ∧ Rd byteCell 1 w lo hi A bs ∧ n ≤ bs.length ∧ r = bs.drop n
  apart : g < lo ∨ hi ≤ g
  small : ∀ b ∈ bs, b < 256
theorem TkR.smallR {w : World} {g lo hi : Nat} {bs r : List Nat} (h : TkR w g lo hi bs r) : ∀ b ∈ r, b < 256 := by
  obtain ⟨A, c, n, _, _, _, _, rfl⟩ := h.ex
  exact fun b hb => h.small b (List.mem_of_mem_drop hb)
theorem TkR.drewN {w : World} {g lo hi : Nat} {bs r : List Nat} (h : TkR w g lo hi bs r) (k : Nat) : TkR (w.drewN k) g lo hi bs r := by
  obtain ⟨A, c, n, h1, h2, h3, h4, h5⟩ := h.ex
  exact ⟨⟨A, c, n, h1.drewN k, h2, h3.keep (fun _ _ _ => rfl), h4, h5⟩, h.apart, h.small⟩
theorem TkR.on {w : World} {g lo hi : Nat} {bs r : List Nat} (h : TkR w g lo hi bs r) {A : Option Addr} {c n m : Nat} (h1 : Blk w g 118 #[.slice A bs.length c, .int .i64 (n : Nat)]) (h2 : bs.length ≤ c) (h3 : Rd byteCell 1 w lo hi A bs) (hm : m ≤ bs.length) :
    TkR (w.setCell ⟨g, 1, none⟩ (.int .i64 (m : Nat))) g lo hi bs (bs.drop m) := by
  refine ⟨⟨A, c, m, h1.set_ 1 _, h2, ?_, hm, rfl⟩, h.apart, h.small⟩
  refine h3.keep fun p hp1 hp2 => World.cell?_setCell_other w _ p _ (fun e => ?_)
  subst e
  have := h.apart
  simp at hp1 hp2
  omega
theorem grown_drewN {w wr : World} {o : Option Nat} (h : w.grownBy wr o) (n : Nat) : w.grownBy (wr.drewN n) o := ⟨h.os, h.tape, h.output, h.size, h.block⟩
def PostTR (w : World) (g lo hi : Nat) (bs r : List Nat) (v : Value) (e : Ending) (w' : World) : Prop := e = .returned v ∧ TkR w' g lo hi bs r ∧ w.grownBy w' (some g)

theorem pow256_le {j : Nat} (h : j ≤ 6) : 256 ^ j ≤ 281474976710656 := by
  exact Nat.le_trans (Nat.pow_le_pow_right (n := 256) (by omega) h) (by decide)
theorem unit_next {j : Nat} : (256 : Int) * ((256 ^ j : Nat) : Int) = ((256 ^ (j + 1) : Nat) : Int) := by
  rw [Nat.pow_succ]
  generalize 256 ^ j = m
  omega

theorem num_val {r bs : List Nat} {j n acc q b : Nat} (hj : j ≤ 5) (hs : ∀ b ∈ r, b < 256) (hrd : r.drop j = bs.drop n) (hn : n < bs.length) (hb : b = bs[n]) (hacc : acc = leN (r.take j)) (hq : q = 256 ^ j) :
    wrap64 ((acc : Int) + wrap64 ((q : Int) * (b : Int))) = ((leN (r.take (j + 1)) : Nat) : Int) := by
  have hl : (r.drop j).length = (bs.drop n).length := by rw [hrd]
  rw [List.length_drop, List.length_drop] at hl
  have hj2 : j < r.length := by omega
  have hrb : r[j] = b := by
    have h1 : r.drop j = r[j] :: r.drop (j + 1) := List.drop_eq_getElem_cons hj2
    have h2 : bs.drop n = bs[n] :: bs.drop (n + 1) := List.drop_eq_getElem_cons hn
    rw [h1, h2] at hrd
    rw [hb]
    exact (List.cons.inj hrd).1
  have hb8 : b < 256 := by rw [← hrb]; exact hs _ (List.getElem_mem _)
  have ha : acc < 256 ^ j := by
    have := leN_lt (r.take j) (fun b hb => hs b (List.mem_of_mem_take hb))
    rwa [List.length_take, Nat.min_eq_left (by omega), ← hacc] at this
  have hp : 256 ^ j ≤ 1099511627776 := Nat.le_trans (Nat.pow_le_pow_right (n := 256) (by omega) hj) (by decide)
  rw [List.take_add_one, List.getElem?_eq_getElem hj2, hrb, Option.toList_some, leN_append, ← hacc, List.length_take, Nat.min_eq_left (by omega), ← hq]
  rw [← hq] at ha hp
  have hm : q * b ≤ q * 255 := Nat.mul_le_mul_left q (by omega)
  have hc : (q : Int) * (b : Int) = ((q * b : Nat) : Int) := by push_cast; rfl
  rw [hc, Nat.mul_comm b q]
  generalize q * b = m at *
  rw [IntWalk.wrap64_in (m : Int) (by omega), IntWalk.wrap64_in _ (by omega)]
  push_cast; rfl

set_option maxRecDepth 100000 in
set_option maxHeartbeats 1000000 in
theorem ref_Num (g lo hi k : Nat) (hk : k ≤ 6) (bs r : List Nat) (w : World) (ht : TkR w g lo hi bs r) (hl : bs.length ≤ 140737488351232) :
    Calls Tryz.prog 69 #[.pointer (some ⟨g, 0, none⟩), .int .i64 k] w (PostTR w g lo hi bs (r.drop k) (.int .i64 (leN (r.take k)))) := by
  have HT := Lib.hid ht
  have HL := Lib.hid hl
  clear ht hl
  go_enter Tryz.func69, Tryz.ntmps69
  go_wp2
  go_loopw [5, 6, 7] (fun n u i wr => ∃ j q : Nat, j ≤ k ∧ i = .int .i64 j ∧ u = .int .i64 q ∧ Hid (q = 256 ^ j) ∧ n = .int .i64 (leN (r.take j)) ∧ Hid (TkR wr g lo hi bs (r.drop j)) ∧ Hid (w.grownBy wr (some g))) (fun _ _ i _ => k - (intOf i).toNat)
  case atStart => exact ⟨0, 1, Nat.zero_le _, rfl, rfl, Lib.hid rfl, rfl, HT, Lib.hid (World.grownBy.refl _ _)⟩
  case round =>
    obtain ⟨j, q, hj, rfl, rfl, HQ, rfl, HTr, HGr⟩ := hrel
    by_cases hlt : j < k
    · obtain ⟨A, c, n, hblk, hc, hr, hn, hrd⟩ := HTr.out.ex
      have b0 : wr.cell? ⟨g, 0, none⟩ = some (.slice A bs.length c) := hblk.cell 0
      have b1 : wr.cell? ⟨g, 1, none⟩ = some (.int .i64 n) := hblk.cell 1
      have hfr := hblk.frozen 1
      have HBL := Lib.hid hblk
      have HRc := Lib.hid hr
      have HRD := Lib.hid hrd
      have hqb : (q : Int) ≤ 281474976710656 := by
        have := pow256_le (j := j) (by omega); have e := HQ.out; omega
      have hq0 : (0 : Int) ≤ (q : Int) := by omega
      have HUN : Hid ((256 : Int) * (q : Int) = ((256 ^ (j + 1) : Nat) : Int)) := Lib.hid (by rw [HQ.out]; exact unit_next)
      obtain ⟨acc, hacc⟩ : ∃ a, a = leN (r.take j) := ⟨_, rfl⟩
      rw [← hacc]
      have HA := Lib.hid hacc
      clear hblk hr hrd hacc
      obtain ⟨nb, hnb⟩ : ∃ a, a = bs.length := ⟨_, rfl⟩
      rw [← hnb] at b0 hc hn
      have HNB := Lib.hid hnb
      have hnb1 : (nb : Int) ≤ 140737488351232 := by have := HL.out; omega
      clear hnb
      by_cases hlast : n < nb
      · obtain ⟨ad, rfl, h1, h2, hcell⟩ := HRc.out.at_ (i := n) (by rw [← HNB.out]; exact hlast)
        have c0 := hcell 0 _ rfl
        rw [Nat.mul_one, Nat.add_zero] at c0
        have hi1 : (0 : Int) ≤ (n : Int) := by omega
        have hi2 : (n : Int) < (nb : Int) := by omega
        obtain ⟨b, hb⟩ : ∃ b, b = bs[n]'(by rw [← HNB.out]; exact hlast) := ⟨_, rfl⟩
        rw [← hb] at c0
        have hb8 : b < 256 := by rw [hb]; exact HTr.out.small _ (List.getElem_mem _)
        have HB := Lib.hid hb
        clear hb hcell
        go_wp2
        go_quiet (fail)
        go_wp2
        go_quiet (fail)
        go_wp2
        go_roundw
        case rel =>
          have hnl : n < bs.length := by rw [← HNB.out]; exact hlast
          have hnext : r.drop (j + 1) = bs.drop (n + 1) := by rw [← List.drop_drop, HRD.out, List.drop_drop]
          refine ⟨j + 1, 256 ^ (j + 1), by omega, by go_num, by rw [← HUN.out], Lib.hid rfl, ?_, Lib.hid ?_, Lib.hid (grown_set (grown_drewN HGr.out _) _ _)⟩
          · rw [num_val (by omega) HT.out.smallR HRD.out hnl HB.out HA.out HQ.out]
          · rw [hnext]
            exact (HTr.out.drewN _).on (m := n + 1) (HBL.out.drewN _) (by rw [← HNB.out]; exact hc) (HRc.out.keep fun _ _ _ => rfl) (by omega)
        case measure => simp [intOf]; omega
      · have hz : (r.drop j).length = 0 := by rw [HRD.out, List.length_drop]; have := HNB.out; omega
        rw [List.length_drop] at hz
        have hd : Hid ((r.drop (j + 1)) = r.drop j) := Lib.hid (by rw [List.drop_eq_nil_of_le (by omega), List.drop_eq_nil_of_le (by omega)])
        have ht : Hid ((r.take (j + 1)) = r.take j) := Lib.hid (by rw [List.take_of_length_le (by omega), List.take_of_length_le (by omega)])
        have hlast' : ¬ ((n : Int) < (nb : Int)) := by omega
        clear hz
        go_wp2
        go_quiet (fail)
        go_wp2
        go_roundw
        case rel => exact ⟨j + 1, 256 ^ (j + 1), by omega, by go_num, by rw [← HUN.out], Lib.hid rfl, by rw [ht.out, HA.out], Lib.hid (by rw [hd.out]; exact HTr.out.drewN _), Lib.hid (grown_drewN HGr.out _)⟩
        case measure => simp [intOf]; omega
    · obtain rfl : j = k := by omega
      go_wp2
      go_ret
      exact ⟨rfl, HTr.out, HGr.out⟩
end Go.Proofs.YtjbdmaehomhdeaaGreat
