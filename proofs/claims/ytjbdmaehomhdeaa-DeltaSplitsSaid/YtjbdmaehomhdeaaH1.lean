/- reference 10: Down. -/
import Derived.Test.YtjbdmaehomhdeaaZS
import Derived.Test.YtjbdmaehomhdeaaZG
namespace Go.Proofs.Ytjbdmaehomhdeaa
open Go.RowKit

def downN (l : List Kid) (s : ByteArray) : Int := l.foldl (fun a x => bif lt x.key s || same x.key s then x.page else a) 0
noncomputable def Page.downFits (p : Page) (s : ByteArray) : Bool := !(p.level == 0) && p.covers s
noncomputable def Page.downE (p : Page) (s : ByteArray) : Int := cond p.ok (cond (p.downFits s) 0 103) 101
noncomputable def Page.downV (p : Page) (s : ByteArray) : Int := cond (p.ok && p.downFits s) (downN p.kids s) 0

set_option maxRecDepth 100000 in
set_option maxHeartbeats 4000000 in
theorem ref_Down (p : Page) (A A' : Option Addr) (c c' lo : Nat) (s : ByteArray) (w : World) (hp : Pg w lo w.heap.size p A A' c c') :
    Calls Try.prog 21 #[p.val A c A' c', .string s] w fun e w' => e = .returned (.tuple #[.int .i64 (p.downV s), .int .i64 (p.downE s)]) ∧ Below w.heap.size w w' := by
  have HCH := Lib.hid (fun w1 h => ref_Check p A A' c c' lo w1 h)
  have HCV := Lib.hid (fun n1 n2 w1 => ref_Covers p A A' n1 c n2 c' s w1)
  have H1 := Lib.hid hp
  clear hp
  unfold Page.val Page.raw at HCH
  unfold Page.raw at HCV
  unfold Page.val Page.raw
  obtain ⟨ni, hni⟩ : ∃ n, n = p.items.length := ⟨_, rfl⟩
  obtain ⟨nk, hnk⟩ : ∃ n, n = p.kids.length := ⟨_, rfl⟩
  obtain ⟨lv, hlv⟩ : ∃ n, n = p.level := ⟨_, rfl⟩
  rw [← hni, ← hnk, ← hlv]
  rw [← hni, ← hnk, ← hlv] at HCH
  rw [← hlv] at HCV
  have HNK := Lib.hid hnk
  have HLV := Lib.hid hlv
  clear hni hnk hlv
  have hF := Fr.one w 27 #[Value.int IntKind.i64 lv, Value.string p.low, Value.string p.high, Value.bool p.last, Value.int IntKind.i64 p.side, Value.slice A ni c, Value.slice A' nk c']
  go_enter Try.func21, Try.ntmps21
  go_upto_region 1 with (fail)
  generalize w.alloc (.cells #[Value.int IntKind.i64 lv, Value.string p.low, Value.string p.high, Value.bool p.last, Value.int IntKind.i64 p.side, Value.slice A ni c, Value.slice A' nk c'] 27) = w0 at *
  have HF0 := Lib.hid hF
  clear hF
  obtain ⟨z0, z1, z2, z3, z4, z5, z6⟩ := Blk.cells7 HF0.out.b0
  go_wp2_with fail
  refine (HCH.out w0 ((H1.out.below HF0.out.be).mono (Nat.le_refl _) HF0.out.be.size)).mono ?_
  rintro e w1 ⟨rfl, hb1⟩
  have HF1 := Lib.hid (HF0.out.on hb1)
  clear hb1 z0 z1 z2 z3 z4 z5 z6
  obtain ⟨z0, z1, z2, z3, z4, z5, z6⟩ := Blk.cells7 HF1.out.b0
  cases hok : p.ok with
  | false =>
    have HC : Hid (p.check = 101) := Lib.hid (by unfold Page.check; rw [hok]; rfl)
    have HE : Hid (p.downE s = 101 ∧ p.downV s = 0) := Lib.hid (by unfold Page.downE Page.downV; rw [hok]; exact ⟨rfl, rfl⟩)
    clear hok
    rw [HC.out]
    go_wp2
    exact bodyPost_ret (v := .tuple #[.int .i64 0, .int .i64 101]) (by simp [results, Try.results21]) rfl ⟨by rw [HE.out.1, HE.out.2], HF1.out.be⟩
  | true =>
    have HC : Hid (p.check = 0) := Lib.hid (by unfold Page.check; rw [hok]; rfl)
    have HOK := Lib.hid hok
    clear hok
    rw [HC.out]
    go_wp2_with fail
    refine (HCV.out _ _ _).mono ?_
    obtain ⟨cv, hcv⟩ : ∃ v, v = p.covers s := ⟨_, rfl⟩
    rw [← hcv]
    rintro e w2 ⟨rfl, hb2⟩
    have HF2 := Lib.hid (HF1.out.on hb2)
    clear hb2 z0 z1 z2 z3 z4 z5 z6
    obtain ⟨z0, z1, z2, z3, z4, z5, z6⟩ := Blk.cells7 HF2.out.b0
    have HCVE := Lib.hid hcv
    clear hcv
    have hlen : (nk : Int) ≤ 140737488351232 := by have := H1.out.bk; rw [← HNK.out] at this; omega
    have HRD : Hid (Rd Kid.cells 2 w2 lo w.heap.size A' p.kids) := Lib.hid (H1.out.kids.below HF2.out.be)
    cases hl0 : (lv == 0) with
    | true =>
      have HE : Hid (p.downE s = 103 ∧ p.downV s = 0) := Lib.hid (by unfold Page.downE Page.downV Page.downFits; rw [HOK.out, ← HLV.out, hl0]; exact ⟨rfl, rfl⟩)
      go_wp2
      exact bodyPost_ret (v := .tuple #[.int .i64 0, .int .i64 103]) (by simp [results, Try.results21]) rfl ⟨by rw [HE.out.1, HE.out.2], HF2.out.be⟩
    | false =>
      cases hc2 : cv with
      | false =>
        have HE : Hid (p.downE s = 103 ∧ p.downV s = 0) := Lib.hid (by unfold Page.downE Page.downV Page.downFits; rw [HOK.out, ← HLV.out, hl0, ← HCVE.out, hc2]; exact ⟨rfl, rfl⟩)
        go_wp2
        exact bodyPost_ret (v := .tuple #[.int .i64 0, .int .i64 103]) (by simp [results, Try.results21]) rfl ⟨by rw [HE.out.1, HE.out.2], HF2.out.be⟩
      | true =>
        have HE : Hid (p.downE s = 0 ∧ p.downV s = downN p.kids s) := Lib.hid (by unfold Page.downE Page.downV Page.downFits; rw [HOK.out, ← HLV.out, hl0, ← HCVE.out, hc2]; exact ⟨rfl, rfl⟩)
        go_wp2
        go_loopw [8, 9] (fun a i wr => ∃ k : Nat, k ≤ nk ∧ a = .int .i64 (downN (p.kids.take k) s) ∧ i = .int .i64 k ∧ w2 = wr) (fun _ i _ => nk - (intOf i).toNat)
        case atStart => exact ⟨0, Nat.zero_le _, rfl, rfl, rfl⟩
        case round =>
          obtain ⟨k, hk, rfl, rfl, rfl⟩ := hrel
          by_cases hlt : k < nk
          · obtain ⟨ad, x, rfl, hx, h1, h2, c0, c1'⟩ := HRD.out.kid (i := k) (by rw [← HNK.out]; exact hlt)
            have hlt' : (k : Int) < (nk : Int) := by omega
            have hlt2 : (0 : Int) ≤ (k : Int) := by omega
            have HT : Hid (downN (p.kids.take (k + 1)) s = bif lt x.key s || same x.key s then x.page else downN (p.kids.take k) s) := Lib.hid (by
              rw [List.take_add_one, hx.out]
              unfold downN
              rw [List.foldl_append]; rfl)
            obtain ⟨dn, hdn⟩ : ∃ v, v = downN (p.kids.take k) s := ⟨_, rfl⟩
            rw [← hdn]
            rw [← hdn] at HT
            clear hdn
            have HSTEP : Hid (∀ b, (lt x.key s || same x.key s) = b → downN (p.kids.take (k + 1)) s = bif b then x.page else dn) := Lib.hid fun b hb => by rw [HT.out, hb]
            clear HT
            cases ha : Op.bytesLess x.key.toList s.toList with
            | true =>
              have HA : Hid (downN (p.kids.take (k + 1)) s = x.page) := Lib.hid (HSTEP.out true (by unfold lt; rw [ha]; rfl))
              go_wp2
              go_roundw
              case rel => exact ⟨k + 1, by omega, by rw [HA.out], by go_num, trivial⟩
              case measure => simp [intOf]; omega
            | false =>
              cases hb : (x.key.toList == s.toList) with
              | true =>
                have HA : Hid (downN (p.kids.take (k + 1)) s = x.page) := Lib.hid (HSTEP.out true (by unfold lt same; rw [ha, hb]; rfl))
                go_wp2
                go_roundw
                case rel => exact ⟨k + 1, by omega, by rw [HA.out], by go_num, trivial⟩
                case measure => simp [intOf]; omega
              | false =>
                have HA : Hid (downN (p.kids.take (k + 1)) s = dn) := Lib.hid (HSTEP.out false (by unfold lt same; rw [ha, hb]; rfl))
                go_wp2
                go_roundw
                case rel => exact ⟨k + 1, by omega, by rw [HA.out], by go_num, trivial⟩
                case measure => simp [intOf]; omega
          · obtain rfl : k = nk := by omega
            have hno : ¬ ((k : Int) < (k : Int)) := by omega
            go_wp2
            exact bodyPost_ret (v := .tuple #[.int .i64 (downN (p.kids.take k) s), .int .i64 0]) (by simp [results, Try.results21]) rfl ⟨by rw [HE.out.1, HE.out.2, HNK.out, List.take_length], HF2.out.be⟩
end Go.Proofs.Ytjbdmaehomhdeaa
