import Derived.Test.YtjbdmaehomhdeaaB6
namespace Go.Proofs.Ytjbdmaehomhdeaa
open Go.RowKit

theorem Rd.byte {w : World} {lo hi : Nat} {A : Option Addr} {l : List Nat} (h : Rd byteCell 1 w lo hi A l) {i : Nat} (hi' : i < l.length) : ∃ ad b, A = some ad ∧ Hid (l[i]? = some b) ∧ w.cell? (ad.add i) = some (.int .u8 (b : Int)) := by
  obtain ⟨ad, e, _, _, hc⟩ := h.at_ hi'
  refine ⟨ad, l[i], e, Lib.hid (List.getElem?_eq_getElem hi'), ?_⟩
  have := hc 0 _ rfl
  simpa using this

set_option maxRecDepth 100000 in
set_option maxHeartbeats 1000000 in
theorem slices_Equal (lo hi lo' hi' c c' : Nat) (A A' : Option Addr) (l m : List Nat) (w : World) (h1 : Rd byteCell 1 w lo hi A l) (h2 : Rd byteCell 1 w lo' hi' A' m) (hl : l.length ≤ 140737488351232) (hm : m.length ≤ 140737488351232) :
    Calls Try.prog 28 #[.slice A l.length c, .slice A' m.length c'] w fun e w' => e = .returned (.bool (decide (l = m))) ∧ ∃ n, w' = w.drewN n := by
  have H1 := Lib.hid h1
  have H2 := Lib.hid h2
  clear h1 h2
  obtain ⟨n, hn⟩ : ∃ n, n = l.length := ⟨_, rfl⟩
  obtain ⟨k, hk⟩ : ∃ n, n = m.length := ⟨_, rfl⟩
  rw [← hn, ← hk]
  rw [← hn] at hl
  rw [← hk] at hm
  have HN := Lib.hid hn
  have HK := Lib.hid hk
  clear hn hk
  go_enter Try.func28, Try.ntmps28
  by_cases hnk : n = k
  · subst hnk
    go_wp2
    go_loopw [13] (fun i wr => ∃ j : Nat, j ≤ n ∧ i = .int .i64 j ∧ (∃ q, wr = w.drewN q) ∧ Hid (∀ q, q < j → l[q]? = m[q]?)) (fun i _ => n - (intOf i).toNat)
    case atStart => exact ⟨0, Nat.zero_le _, rfl, ⟨0, rfl⟩, Lib.hid (fun q h => by omega)⟩
    case round =>
      obtain ⟨j, hj, rfl, ⟨q, rfl⟩, HS⟩ := hrel
      by_cases hlt : j < n
      · obtain ⟨ad, b, rfl, hb, c0⟩ := H1.out.byte (i := j) (by rw [← HN.out]; exact hlt)
        obtain ⟨ad', b', rfl, hb', c0'⟩ := H2.out.byte (i := j) (by rw [← HK.out]; exact hlt)
        have hlt' : (j : Int) < (n : Int) := by omega
        by_cases hbb : b = b'
        · subst hbb
          go_upto_region 6 with (fail)
          go_quiet (fail)
          go_wp2
          go_roundw
          case rel => exact ⟨j + 1, by omega, by go_num, ⟨_, rfl⟩, Lib.hid (fun q hq => by
            rcases Nat.lt_or_ge q j with h | h
            · exact HS.out q h
            · obtain rfl : q = j := by omega
              rw [hb.out, hb'.out])⟩
          case measure => simp [intOf]; omega
        · have hbb' : ¬ (b : Int) = (b' : Int) := by omega
          go_upto_region 6 with (fail)
          go_quiet (fail)
          go_wp2
          go_ret
          exact ⟨ret_bool (by symm; rw [decide_eq_false_iff_not]; intro e; subst e; rw [hb.out] at hb'; exact hbb (Option.some.inj hb'.out)), ⟨_, World.drewN_drewN _ _ _⟩⟩
      · obtain rfl : j = n := by omega
        go_wp2
        go_ret
        exact ⟨ret_bool (by
          symm; rw [decide_eq_true_iff]
          apply List.ext_getElem?
          intro i
          rcases Nat.lt_or_ge i j with h | h
          · exact HS.out i h
          · rw [List.getElem?_eq_none (by rw [← HN.out]; exact h), List.getElem?_eq_none (by rw [← HK.out]; exact h)]), ⟨_, rfl⟩⟩
  · have hnk' : ¬ (n : Int) = (k : Int) := by omega
    go_wp2
    go_ret
    exact ⟨ret_bool (by symm; rw [decide_eq_false_iff_not]; intro e; subst e; exact hnk (by rw [HN.out, HK.out])), 0, rfl⟩
end Go.Proofs.Ytjbdmaehomhdeaa
