/- DriverNone's walk: a driver of no engine refuses all. -/
import Derived.Test.YtcabicicfoehiaaGreatDnA
namespace Go.Proofs.YtcabicicfoehiaaGreat
open Go.RowKit

theorem ansRow_at (n k j : Nat) (hk : k < n) (hj : j < 5) : (AnsRow n)[k * 5 + j]? = ansZ[j]? := by
  unfold AnsRow madeCells
  have h1 : k * 5 + j < n * 5 := by omega
  have h2 : (k * 5 + j) % 5 = j := by omega
  have h3 : ansZ.size = 5 := rfl
  rw [Array.getElem?_map, Array.getElem?_range, if_pos h1]
  simp only [Option.map_some, h3, h2]
  match j, hj with
  | 0, _ => rfl
  | 1, _ => rfl
  | 2, _ => rfl
  | 3, _ => rfl
  | 4, _ => rfl

def CallD.val (x : CallD) : Value := .agg #[.int .i64 x.client, .int .i64 x.kind, .string x.key, .string x.value, .string x.end_, .int .i64 x.most]

set_option maxRecDepth 100000 in
set_option maxHeartbeats 1000000 in
theorem law_walk (x : CallD) (A A' : Option Addr) (c n' c' : Nat) (l : List CallD) (w : World) (hr : Rd CallD.cells 6 w 0 w.heap.size A l) (hn : l.length ≤ 1954687600000) :
    Calls Tryz.prog 3 #[x.val, .slice A l.length c, .slice A' n' c'] w fun e w' => e = .returned (.bool true) ∧ Below w.heap.size w w' := by
  have HR := Lib.hid hr
  have HN := Lib.hid hn
  clear hr hn
  unfold CallD.val
  go_enter Tryz.func3, Tryz.ntmps3
  go_wp2_with fail
  refine (new_nil _).mono ?_
  rintro e w1 ⟨rfl, rfl⟩
  go_wp2_with fail
  have hI : Idle ((w.alloc (.cells #[.int .i64 x.client, .int .i64 x.kind, .string x.key, .string x.value, .string x.end_, .int .i64 x.most] 23)).alloc (.cells #[.pointer none, .int .i64 0] 44)) (w.heap.size + 1) := Blk.second _ _ _ _
  have HI := Lib.hid hI
  clear hI
  have hB0 : Below w.heap.size w ((w.alloc (.cells #[.int .i64 x.client, .int .i64 x.kind, .string x.key, .string x.value, .string x.end_, .int .i64 x.most] 23)).alloc (.cells #[.pointer none, .int .i64 0] 44)) := ((Below.refl _ _).alloc (Nat.le_refl _) _).alloc (by simp) _
  have HB0 := Lib.hid hB0
  clear hB0
  generalize hw1 : ((w.alloc (.cells #[.int .i64 x.client, .int .i64 x.kind, .string x.key, .string x.value, .string x.end_, .int .i64 x.most] 23)).alloc (.cells #[.pointer none, .int .i64 0] 44)) = w1 at *
  clear hw1
  refine (call_none (w.heap.size + 1) _ _ _ _ _ _ w1 HI.out).mono ?_
  rintro e w2 ⟨rfl, hb2⟩
  have HB2 := Lib.hid (HB0.out.trans (hb2.mono HB0.out.size))
  have HI2 : Hid (Idle w2 (w.heap.size + 1)) := Lib.hid (HI.out.below hb2 HI.out.lt)
  clear hb2
  go_wp2_with fail
  obtain ⟨W2, hW2⟩ : ∃ W2, W2 = w2.alloc (.cells ansZ 31) := ⟨_, rfl⟩
  have hBW : Below w.heap.size w W2 := by rw [hW2]; exact HB2.out.alloc HB2.out.size _
  have hIW : Idle W2 (w.heap.size + 1) := by rw [hW2]; exact HI2.out.alloc _
  have hAW : Blk W2 w2.heap.size 31 ansZ := by rw [hW2]; exact Blk.new _ _ _
  have HBW := Lib.hid hBW
  have HIW := Lib.hid hIW
  have HAW := Lib.hid hAW
  clear hBW hIW hAW
  have HR2 : Hid (Rd CallD.cells 6 W2 0 W2.heap.size A l) := Lib.hid ((HR.out.below HBW.out).mono (Nat.le_refl _) HBW.out.size)
  have hM := mix_none (w.heap.size + 1) A A' c n' c' l W2 HIW.out HR2.out HN.out
  rw [hW2] at hM
  unfold ansZ at hM
  refine hM.mono ?_
  clear hM
  rintro e w3 ⟨ga, ge, rfl, hA, hE, hb3'⟩
  have hb3 : Below W2.heap.size W2 w3 := by rw [hW2]; exact hb3'
  clear hb3'
  have HI3 : Hid (Idle w3 (w.heap.size + 1)) := Lib.hid (HIW.out.below hb3 HIW.out.lt)
  have HA3 : Hid (Blk w3 w2.heap.size 31 ansZ) := Lib.hid (HAW.out.below hb3 HAW.out.lt)
  have HB3 : Hid (Below w.heap.size w w3) := Lib.hid (HBW.out.trans (hb3.mono HBW.out.size))
  have HA := Lib.hid hA
  have HE := Lib.hid hE
  clear hA hE hb3 hW2 HBW HIW HAW HR2 HB2 HI2 HB0 HI HR
  obtain ⟨n, hN⟩ : ∃ n, n = l.length := ⟨_, rfl⟩
  rw [← hN] at HA HE HN
  rw [← hN]
  have hn := HN.out
  clear hN
  go_wp2_with (go_at_call 7; refine (keep_none _ _ HI3.out).mono ?_; rintro e w4 ⟨rfl, rfl⟩)
  go_loop [13] (fun i => ∃ k : Nat, k ≤ n ∧ i = .int .i64 k) (fun i => n - (intOf i).toNat)
  case atStart => exact ⟨0, Nat.zero_le _, rfl⟩
  case round =>
    obtain ⟨k, hk, rfl⟩ := hrel
    by_cases hlt : k < n
    · have e0 : w3.cell? ⟨ge, k, none⟩ = some (.int .i64 1) := by rw [HE.out.cell]; exact errRow_full hlt
      have a0 : w3.cell? ⟨ga, k * 5, none⟩ = some (.int .i64 0) := by rw [HA.out.cell]; exact ansRow_at n k 0 hlt (by omega)
      have a3 : w3.cell? ⟨ga, k * 5 + 3, none⟩ = some (.int .i64 0) := by rw [HA.out.cell]; exact ansRow_at n k 3 hlt (by omega)
      go_wp2
      go_round
      case rel => exact ⟨k + 1, by omega, by go_num⟩
      case measure => simp [intOf]; omega
    · obtain rfl : k = n := by omega
      have z3 : w3.cell? ⟨w2.heap.size, 3, none⟩ = some (.int .i64 0) := by rw [HA3.out.cell]; rfl
      go_wp2_with (first | (go_at_call 8; refine (rest_none _ _ HI3.out).mono ?_; rintro e w4 ⟨rfl, rfl⟩) | (go_at_call 9; refine (steps_none _ _ HI3.out).mono ?_; rintro e w4 ⟨rfl, rfl⟩))
      go_ret
      exact ⟨rfl, HB3.out⟩
end Go.Proofs.YtcabicicfoehiaaGreat
