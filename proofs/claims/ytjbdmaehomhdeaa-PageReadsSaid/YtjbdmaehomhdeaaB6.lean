import Derived.Test.YtjbdmaehomhdeaaB5
import Derived.Laws.IdiomStrings
namespace Go.Proofs.Ytjbdmaehomhdeaa
open Go.RowKit

/-- a text out of bytes -/
def strOf (l : List Nat) : ByteArray := ⟨(l.map UInt8.ofNat).toArray⟩
/-- how many bytes the text has that bytes begin with -/
def textN (bs : List Nat) : Nat := min (leN (bs.take 1)) (bs.drop 1).length
def textOf (bs : List Nat) : ByteArray := strOf ((bs.drop 1).take (textN bs))

theorem conv_str {w : World} {lo hi m c : Nat} {A : Option Addr} {l : List Nat} (h : Rd byteCell 1 w lo hi A l) (hm : l.length = m) (hb : ∀ b ∈ l, b < 256) :
    (convert 22 9 (.slice A m c)).run Try.prog w = .ok (.string (strOf l)) w := by
  subst hm
  rcases l with _ | ⟨b, r⟩
  · have := run_convert_bytes_string (P := Try.prog) w 22 9 5 A 0 c Try.underlying22 Try.underlying5 Try.underlying9
    simp only [List.length_nil]
    rw [this]
    cases A with
    | none => simp [Conv.bytesToString, strOf]; rfl
    | some ad =>
      have hl := run_loadCells_list (P := Try.prog) w ad [] (fun j v hj => by simp at hj)
      rw [run_bytesToString w ad 0 c [] (by simpa using hl)]
      simp [strOf]
      rfl
  · obtain ⟨ad, rfl, _, _, hc⟩ := h (by simp)
    have := run_convert_bytes_back (P := Try.prog) w 22 9 5 ad c ((b :: r).map UInt8.ofNat) Try.underlying22 Try.underlying5 Try.underlying9 (fun j hj => by
      have hj' : j < (b :: r).length := by simpa using hj
      have h1 := hc j _ (List.getElem?_eq_getElem hj') 0 _ rfl
      rw [Nat.mul_one, Nat.add_zero] at h1
      rw [h1]
      have h2 := hb _ (List.getElem_mem hj')
      simp only [List.getElem_map, UInt8.toNat_ofNat']
      rw [Nat.mod_eq_of_lt (by omega)])
    rw [List.length_map] at this
    exact this

set_option maxRecDepth 100000 in
set_option maxHeartbeats 1000000 in
theorem page_text (g lo hi : Nat) (bs : List Nat) (w : World) (ht : Tk w g lo hi 66 bs) (hlen : bs.length ≤ 140737488351232) :
    Calls Try.prog 26 #[.pointer (some ⟨g, 0, none⟩)] w (PostT w g lo hi 66 (bs.drop (1 + textN bs)) (.string (textOf bs))) := by
  have HT := Lib.hid ht
  clear ht
  have HL := Lib.hid hlen
  clear hlen
  go_enter Try.func26, Try.ntmps26
  go_upto_region 2 with (go_at_call 25; refine (page_num g lo hi 1 (by omega) bs _ HT.out).mono ?_; rintro e w1 ⟨rfl, hT1, hg1⟩)
  obtain ⟨ds, hds⟩ : ∃ l, l = bs.drop 1 := ⟨_, rfl⟩
  rw [← hds] at hT1
  obtain ⟨A, c, hblk, hc, hr⟩ := hT1.ex
  have HT1 := Lib.hid hT1
  have HG1 := Lib.hid hg1
  have HDS := Lib.hid hds
  obtain ⟨n, hn⟩ : ∃ n, n = ds.length := ⟨_, rfl⟩
  obtain ⟨m, hm⟩ : ∃ n, n = leN (bs.take 1) := ⟨_, rfl⟩
  have b0 : w1.cell? ⟨g, 0, none⟩ = some (.slice A ds.length c) := hblk.cell 0
  have hfr := hblk.frozen 0
  rw [← hn] at b0 hc
  rw [← hm]
  have HN := Lib.hid hn
  have HM := Lib.hid hm
  have HBL := Lib.hid hblk
  have HRc := Lib.hid hr
  clear hn hm hblk hr hT1 hg1 hds
  obtain ⟨q, hq⟩ : ∃ q, q = textN bs := ⟨_, rfl⟩
  have hq' : q = min m n := by rw [hq, HM.out, HN.out, HDS.out]; rfl
  have HQ := Lib.hid hq
  clear hq
  go_cut [4] (fun v wc => v = .int .i64 q ∧ w1 = wc)
  case first =>
    by_cases hmn : m ≤ n
    · have hmin : (m : Int) ≤ (n : Int) := by omega
      obtain rfl : q = m := by omega
      clear hq'
      go_wp2
      go_meet
      trivial
    · have hmin : ¬ (m : Int) ≤ (n : Int) := by omega
      have hmin' : (n : Int) < (m : Int) := by omega
      obtain rfl : q = n := by omega
      clear hq'
      go_wp2
      go_meet
      trivial
  case rest =>
    obtain ⟨rfl, rfl⟩ := hcut
    have hqn : q ≤ n := by omega
    have hqc : (q : Int) ≤ (c : Int) := by omega
    have hqn' : (q : Int) ≤ (n : Int) := by omega
    have hcv := conv_str (c := c) (A := A) (w := w1) (m := q) (HRc.out.take (n := q)) (by rw [List.length_take, ← HN.out]; omega) (fun b hb => HT1.out.small b (List.mem_of_mem_take hb))
    clear hq'
    have HTT := Lib.hid (HT1.out.turnN ⟨HBL.out, by rw [← HN.out]; exact hc, HRc.out⟩ (by rw [← HN.out]; exact hqn))
    rw [← HN.out] at HTT
    have HDD : Hid (bs.drop (1 + textN bs) = ds.drop q) := Lib.hid (by rw [HDS.out, ← HQ.out, List.drop_drop])
    have HTX : Hid (textOf bs = strOf (ds.take q)) := Lib.hid (by unfold textOf; rw [← HDS.out, ← HQ.out])
    by_cases hcq : c = q
    · subst hcq
      rw [if_pos rfl, Nat.sub_self, show n - c = 0 by omega] at HTT
      go_wp2
      go_ret
      exact ⟨by rw [HTX.out]; rfl, by rw [HDD.out]; exact HTT.out, grown_set HG1.out _ _⟩
    · have hcq' : ¬ (c : Int) = (q : Int) := by omega
      rw [if_neg hcq, Nat.mul_one] at HTT
      go_wp2
      go_ret
      exact ⟨by rw [HTX.out]; rfl, by rw [HDD.out]; exact HTT.out, grown_set HG1.out _ _⟩
end Go.Proofs.Ytjbdmaehomhdeaa
