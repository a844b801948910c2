/- the taker of delta. -/
import Derived.Test.YtjbdmaehomhdeaaGreatZB
set_option linter.unusedSimpArgs false
set_option linter.unusedVariables false
namespace Go.Proofs.YtjbdmaehomhdeaaGreat
open Go.RowKit

set_option maxRecDepth 100000 in
set_option maxHeartbeats 1000000 in
theorem dt_num (g lo hi k : Nat) (hk : k ≤ 6) (bs : List Nat) (w : World) (ht : Tk w g lo hi 113 bs) :
    Calls Tryz.prog 67 #[.pointer (some ⟨g, 0, none⟩), .int .i64 k] w (PostT w g lo hi 113 (bs.drop k) (.int .i64 (leN (bs.take k)))) := by
  have HT := Lib.hid ht
  clear ht
  go_enter Tryz.func67, Tryz.ntmps67
  go_wp2
  go_loopw [5, 8] (fun n i wr => ∃ j : Nat, j ≤ k ∧ i = .int .i64 j ∧ n = .int .i64 (leN (bs.take j)) ∧ Hid (Tk wr g lo hi 113 (bs.drop j)) ∧ Hid (w.grownBy wr (some g))) (fun _ i _ => k - (intOf i).toNat)
  case atStart => exact ⟨0, Nat.zero_le _, rfl, rfl, HT, Lib.hid (World.grownBy.refl _ _)⟩
  case round =>
    obtain ⟨j, hj, rfl, rfl, HTr, HGr⟩ := hrel
    by_cases hlt : j < k
    · obtain ⟨A, c, hblk, hc, hr⟩ := HTr.out.ex
      have b0 : wr.cell? ⟨g, 0, none⟩ = some (.slice A (bs.drop j).length c) := hblk.cell 0
      have HBL := Lib.hid hblk
      clear hblk
      by_cases hl : bs.length ≤ j
      · have hz : (bs.drop j).length = 0 := by rw [List.length_drop]; omega
        rw [hz] at b0
        have hd : bs.drop (j + 1) = bs.drop j := by rw [List.drop_eq_nil_of_le hl, List.drop_eq_nil_of_le (by omega)]
        have ht : bs.take (j + 1) = bs.take j := by rw [List.take_of_length_le hl, List.take_of_length_le (by omega)]
        obtain ⟨acc, hacc⟩ : ∃ n, n = leN (bs.take j) := ⟨_, rfl⟩
        rw [← hacc]
        have HD := Lib.hid hd
        have HTK := Lib.hid ht
        have HA := Lib.hid hacc
        clear hd ht hacc hz hl hr
        go_wp2
        go_roundw
        case rel => exact ⟨j + 1, by omega, by go_num, by rw [HTK.out, HA.out], Lib.hid (by rw [HD.out]; exact HTr.out), HGr⟩
        case measure => simp [intOf]; omega
      · have hz : 0 < (bs.drop j).length := by rw [List.length_drop]; omega
        obtain ⟨ad, rfl, h1, h2, hcell⟩ := hr.at_ hz
        have c0 : wr.cell? ad = some (.int .u8 ((bs.drop j)[0] : Int)) := hcell 0 _ rfl
        have hfr := HBL.out.frozen 0
        obtain ⟨b, hb⟩ : ∃ b, b = (bs.drop j)[0] := ⟨_, rfl⟩
        rw [← hb] at c0
        have hb8 : b < 256 := by rw [hb]; exact HTr.out.small _ (List.getElem_mem _)
        obtain ⟨n, hn⟩ : ∃ n, n = (bs.drop j).length := ⟨_, rfl⟩
        rw [← hn] at b0 hz hc
        obtain ⟨acc, hacc⟩ : ∃ n, n = leN (bs.take j) := ⟨_, rfl⟩
        rw [← hacc]
        have hz' : (0 : Int) < (n : Int) := by omega
        have HB := Lib.hid hb
        have HN := Lib.hid hn
        have HA := Lib.hid hacc
        have HRc := Lib.hid hr
        have hc0 : (bs.drop j).length ≤ c := by rw [← hn]; exact hc
        clear hb hn hacc hr hcell
        have hlj : j < bs.length := by omega
        have hacc2 : acc < 256 ^ j := by
          rw [HA.out]
          have := leN_lt (bs.take j) (fun b hb => by
            have := HTr.out
            have h0 := HT.out.small b (List.mem_of_mem_take hb)
            exact h0)
          rwa [List.length_take, Nat.min_eq_left (by omega)] at this
        have hbj : b = bs[j] := by rw [HB.out]; simp
        have HV : Hid (bits .or .i64 (acc : Int) (wrap64 ((b : Int) * 2 ^ (8 * j))) = ((leN (bs.take (j + 1)) : Nat) : Int)) := Lib.hid (by
          rw [or_byte acc b j (by omega) hacc2 hb8, drop_succ_take hlj, leN_append, List.length_take, Nat.min_eq_left (by omega), ← HA.out, ← hbj])
        have HLJ := Lib.hid hlj
        clear hacc2 hbj hlj hl
        go_wp2
        go_roundw
        case rel =>
          refine ⟨j + 1, by omega, by go_num, by rw [HV.out], Lib.hid ?_, Lib.hid ?_⟩
          · have := HTr.out.turn ⟨HBL.out, hc0, HRc.out⟩ HN.out (by rw [← HN.out]; omega)
            rw [List.drop_drop] at this
            have ha : ad.add 1 = ⟨ad.block, ad.off + 1, none⟩ := by unfold Addr.add; rfl
            rw [← ha]
            exact this
          · exact grown_set HGr.out _ _
        case measure => simp [intOf]; omega
    · obtain rfl : j = k := by omega
      go_wp2
      go_ret
      exact ⟨rfl, HTr.out, HGr.out⟩
set_option maxRecDepth 100000 in
set_option maxHeartbeats 1000000 in
theorem dt_text (g lo hi : Nat) (bs : List Nat) (w : World) (ht : Tk w g lo hi 113 bs) (hlen : bs.length ≤ 140737488351232) :
    Calls Tryz.prog 68 #[.pointer (some ⟨g, 0, none⟩)] w (PostT w g lo hi 113 (bs.drop (1 + textN bs)) (.string (textOf bs))) := by
  have HT := Lib.hid ht
  clear ht
  have HL := Lib.hid hlen
  clear hlen
  go_enter Tryz.func68, Tryz.ntmps68
  go_upto_region 2 with (go_at_call 67; refine (dt_num g lo hi 1 (by omega) bs _ HT.out).mono ?_; rintro e w1 ⟨rfl, hT1, hg1⟩)
  obtain ⟨ds, hds⟩ : ∃ l, l = bs.drop 1 := ⟨_, rfl⟩
  rw [← hds] at hT1
  obtain ⟨A, c, hblk, hc, hr⟩ := hT1.ex
  have HT1 := Lib.hid hT1
  have HG1 := Lib.hid hg1
  have HDS := Lib.hid hds
  obtain ⟨n, hn⟩ : ∃ n, n = ds.length := ⟨_, rfl⟩
  obtain ⟨m, hm⟩ : ∃ n, n = leN (bs.take 1) := ⟨_, rfl⟩
  have b0 : w1.cell? ⟨g, 0, none⟩ = some (.slice A ds.length c) := hblk.cell 0
  have hfr := hblk.frozen 0
  rw [← hn] at b0 hc
  rw [← hm]
  have HN := Lib.hid hn
  have HM := Lib.hid hm
  have HBL := Lib.hid hblk
  have HRc := Lib.hid hr
  clear hn hm hblk hr hT1 hg1 hds
  obtain ⟨q, hq⟩ : ∃ q, q = textN bs := ⟨_, rfl⟩
  have hq' : q = min m n := by rw [hq, HM.out, HN.out, HDS.out]; rfl
  have HQ := Lib.hid hq
  clear hq
  go_cut [4] (fun v wc => v = .int .i64 q ∧ w1 = wc)
  case first =>
    by_cases hmn : m ≤ n
    · have hmin : (m : Int) ≤ (n : Int) := by omega
      obtain rfl : q = m := by omega
      clear hq'
      go_wp2
      go_meet
      trivial
    · have hmin : ¬ (m : Int) ≤ (n : Int) := by omega
      have hmin' : (n : Int) < (m : Int) := by omega
      obtain rfl : q = n := by omega
      clear hq'
      go_wp2
      go_meet
      trivial
  case rest =>
    obtain ⟨rfl, rfl⟩ := hcut
    have hqn : q ≤ n := by omega
    have hqc : (q : Int) ≤ (c : Int) := by omega
    have hqn' : (q : Int) ≤ (n : Int) := by omega
    have hcv := conv_str (c := c) (A := A) (w := w1) (m := q) (HRc.out.take (n := q)) (by rw [List.length_take, ← HN.out]; omega) (fun b hb => HT1.out.small b (List.mem_of_mem_take hb))
    clear hq'
    have HTT := Lib.hid (HT1.out.turnN ⟨HBL.out, by rw [← HN.out]; exact hc, HRc.out⟩ (by rw [← HN.out]; exact hqn))
    rw [← HN.out] at HTT
    have HDD : Hid (bs.drop (1 + textN bs) = ds.drop q) := Lib.hid (by rw [HDS.out, ← HQ.out, List.drop_drop])
    have HTX : Hid (textOf bs = strOf (ds.take q)) := Lib.hid (by unfold textOf; rw [← HDS.out, ← HQ.out])
    by_cases hcq : c = q
    · subst hcq
      rw [if_pos rfl, Nat.sub_self, show n - c = 0 by omega] at HTT
      go_wp2
      go_ret
      exact ⟨by rw [HTX.out]; rfl, by rw [HDD.out]; exact HTT.out, grown_set HG1.out _ _⟩
    · have hcq' : ¬ (c : Int) = (q : Int) := by omega
      rw [if_neg hcq, Nat.mul_one] at HTT
      go_wp2
      go_ret
      exact ⟨by rw [HTX.out]; rfl, by rw [HDD.out]; exact HTT.out, grown_set HG1.out _ _⟩
end Go.Proofs.YtjbdmaehomhdeaaGreat
