/- The reference's inner. -/
import Derived.Test.YtjbdmaehomhdeaaR1
import Derived.Test.YtjbdmaehomhdeaaA8
namespace Go.Proofs.Ytjbdmaehomhdeaa
open Go.RowKit

theorem innerB_no {p : Page} {i : Nat} {x : Kid} (hx : p.kids[i]? = some x) (h : x.bad = true ∨ p.covers x.key = false ∨ ∃ j y, i = j + 1 ∧ p.kids[j]? = some y ∧ lt y.key x.key = false) : false = p.innerB := by
  unfold Page.innerB
  have hm : x ∈ p.kids := List.mem_of_getElem? hx
  have hk : (p.kids.map (·.key))[i]? = some x.key := by rw [List.getElem?_map, hx]; rfl
  rcases h with h | h | ⟨j, y, e, hy, hl⟩
  · have : p.kids.any (fun x => x.bad) = true := List.any_eq_true.2 ⟨x, hm, h⟩
    rw [this]; simp
  · rw [← rises_no hk (.inl h)]; simp
  · rw [← rises_no hk (.inr ⟨j, y.key, e, by rw [List.getElem?_map, hy]; rfl, hl⟩)]; simp
theorem innerB_yes {p : Page} (h0 : p.items.length = 0) (h1 : 1 ≤ p.kids.length) (h2 : p.kids.length ≤ 120) (h3 : p.kids.head?.any (fun x => same x.key p.low) = true)
    (h : ∀ (i : Nat) (x : Kid), p.kids[i]? = some x → x.bad = false ∧ p.covers x.key = true ∧ ∀ j y, i = j + 1 → p.kids[j]? = some y → lt y.key x.key = true) : true = p.innerB := by
  unfold Page.innerB
  have a1 : p.kids.any (fun x => x.bad) = false := by
    rw [List.any_eq_false]
    intro x hx
    obtain ⟨i, hi, e⟩ := List.getElem_of_mem hx
    have := (h i x (by rw [List.getElem?_eq_getElem hi, e])).1
    simp [this]
  have a2 : true = rises p (p.kids.map (·.key)) := rises_yes (fun i k hik => by
    rw [List.getElem?_map] at hik
    cases hx : p.kids[i]? with
    | none => rw [hx] at hik; cases hik
    | some x =>
      rw [hx] at hik; cases hik
      obtain ⟨_, a, b⟩ := h i x hx
      refine ⟨a, fun j u e hu => ?_⟩
      rw [List.getElem?_map] at hu
      cases hy : p.kids[j]? with
      | none => rw [hy] at hu; cases hu
      | some y => rw [hy] at hu; cases hu; exact b j y e hy)
  rw [a1, ← a2, h0, h3]; simp [h1, h2]

set_option maxRecDepth 100000 in
set_option maxHeartbeats 8000000 in
theorem ref_inner (p : Page) (A A' : Option Addr) (c c' lo : Nat) (w : World) (hp : Pg w lo w.heap.size p A A' c c') :
    Calls Try.prog 88 #[p.val A c A' c'] w fun e w' => e = .returned (.bool p.innerB) ∧ Below w.heap.size w w' := by
  obtain ⟨h1, h2, h3, h4, h5, h6⟩ := hp
  have H1 := Lib.hid h2
  clear h1 h2 h3 h4
  unfold Page.val Page.raw
  obtain ⟨ni, hni⟩ : ∃ n, n = p.items.length := ⟨_, rfl⟩
  obtain ⟨nk, hnk⟩ : ∃ n, n = p.kids.length := ⟨_, rfl⟩
  rw [← hni, ← hnk]
  have HNI := Lib.hid hni
  have HNK := Lib.hid hnk
  have H6 := Lib.hid h6
  clear hni hnk h5 h6
  go_enter Try.func88, Try.ntmps88
  go_upto_region 1 with (fail)
  have hP : PBlk (w.alloc (Obj.cells #[Value.int IntKind.i64 p.level, Value.string p.low, Value.string p.high, Value.bool p.last, Value.int IntKind.i64 p.side, Value.slice A ni c, Value.slice A' nk c'] 27)) w.heap.size p A ni c A' nk c' := Blk.new _ _ _
  have hB : Below w.heap.size w (w.alloc (Obj.cells #[Value.int IntKind.i64 p.level, Value.string p.low, Value.string p.high, Value.bool p.last, Value.int IntKind.i64 p.side, Value.slice A ni c, Value.slice A' nk c'] 27)) := (Below.refl _ _).alloc (Nat.le_refl _) _
  generalize (w.alloc (Obj.cells #[Value.int IntKind.i64 p.level, Value.string p.low, Value.string p.high, Value.bool p.last, Value.int IntKind.i64 p.side, Value.slice A ni c, Value.slice A' nk c'] 27)) = w0 at *
  have HP := Lib.hid hP
  have HB := Lib.hid hB
  clear hP hB
  obtain ⟨q0, q1, q2, q3, q4, q5, q6⟩ := HP.out.cells
  have hR0 : Rd Kid.cells 2 w0 lo w0.heap.size A' p.kids := (H1.out.below HB.out).mono (Nat.le_refl _) HB.out.size
  have HR0 := Lib.hid hR0
  clear hR0
  by_cases hi : ni = 0
  · by_cases hk1 : 1 ≤ nk
    · by_cases hk : nk ≤ 120
      · have g1 : ¬ ((ni : Int) > 0) := by omega
        have g2 : ¬ ((nk : Int) < 1) := by omega
        have g3 : ¬ ((nk : Int) > 120) := by omega
        have g4 : (0 : Int) < (nk : Int) := by omega
        have HI : Hid (p.items.length = 0) := Lib.hid (by rw [← HNI.out]; exact hi)
        have HK1 : Hid (1 ≤ p.kids.length) := Lib.hid (by rw [← HNK.out]; exact hk1)
        have HK : Hid (p.kids.length ≤ 120) := Lib.hid (by rw [← HNK.out]; exact hk)
        obtain ⟨ad, x, rfl, hx, _, _, c0, c1⟩ := HR0.out.kid (i := 0) (by rw [← HNK.out]; omega)
        have ha0 : ad.add (0 * 2) = ad := rfl
        rw [ha0] at c0 c1
        have HH : Hid (p.kids.head?.any (fun x => same x.key p.low) = same x.key p.low) := Lib.hid (by rw [List.head?_eq_getElem?, hx.out]; rfl)
        cases hkey : (x.key.toList == p.low.toList) with
        | true =>
          have HE : Hid (same x.key p.low = true) := Lib.hid hkey
          go_quiet (fail)
          obtain ⟨wq, hwq⟩ : ∃ w', w' = w0.drewN nq := ⟨_, rfl⟩
          have HQ : Hid (Below w0.heap.size w0 wq) := Lib.hid (by rw [hwq]; exact below_drewN (Below.refl _ _) nq)
          rw [← hwq]
          clear hwq
          have HRq : Hid (Rd Kid.cells 2 wq lo wq.heap.size (some ad) p.kids) := Lib.hid ((HR0.out.below HQ.out).mono (Nat.le_refl _) HQ.out.size)
          clear q0 q1 q2 q3 q4 q5 q6
          obtain ⟨q0, q1, q2, q3, q4, q5, q6⟩ := PBlk.cells (HP.out.below HQ.out HP.out.lt)
          have HBq : Hid (Below w.heap.size w wq) := Lib.hid (HB.out.trans (HQ.out.mono HB.out.size))
          have HPq : Hid (PBlk wq w.heap.size p A ni c (some ad) nk c') := Lib.hid (HP.out.below HQ.out HP.out.lt)
          clear c0 c1 ha0 hkey
          go_wp2
          go_loopw [3] (fun i wr => ∃ k : Nat, k ≤ nk ∧ i = .int .i64 k ∧ Hid (Below wq.heap.size wq wr) ∧
            Hid (∀ (i : Nat) (x : Kid), i < k → p.kids[i]? = some x → x.bad = false ∧ p.covers x.key = true ∧ ∀ j y, i = j + 1 → p.kids[j]? = some y → lt y.key x.key = true)) (fun i _ => nk - (intOf i).toNat)
          case atStart => exact ⟨0, Nat.zero_le _, rfl, Lib.hid (Below.refl _ _), Lib.hid (fun _ _ h => by omega)⟩
          case round =>
            obtain ⟨k, hk, rfl, hb, hno⟩ := hrel
            clear q0 q1 q2 q3 q4 q5 q6
            have hs := hb.out.size
            obtain ⟨q0, q1, q2, q3, q4, q5, q6⟩ := PBlk.cells (HPq.out.below hb.out HPq.out.lt)
            by_cases hlt : k < nk
            · obtain ⟨ad2, x, e2, hx, h1, h2, c0, c1⟩ := (HRq.out.below hb.out).kid (i := k) (by rw [← HNK.out]; exact hlt)
              cases e2
              go_upto_region 7 with (fail)
              have hX := Blk.new wr 60 #[Value.string x.key, Value.int IntKind.i64 x.page]
              have hP5 := (HPq.out.below hb.out HPq.out.lt).alloc (Obj.cells #[Value.string x.key, Value.int IntKind.i64 x.page] 60)
              have hB5 := hb.out.alloc hb.out.size (Obj.cells #[Value.string x.key, Value.int IntKind.i64 x.page] 60)
              generalize (wr.alloc (Obj.cells #[Value.string x.key, Value.int IntKind.i64 x.page] 60)) = w5 at *
              have HX := Lib.hid hX
              have HP5 := Lib.hid hP5
              have HB5 := Lib.hid hB5
              have x0 : w5.cell? ⟨wr.heap.size, 0, none⟩ = some (.string x.key) := hX.cell 0
              have x1 : w5.cell? ⟨wr.heap.size, 1, none⟩ = some (.int .i64 x.page) := hX.cell 1
              clear q0 q1 q2 q3 q4 q5 q6
              obtain ⟨q0, q1, q2, q3, q4, q5, q6⟩ := PBlk.cells hP5
              clear hX hP5 hB5 c0 c1
              obtain ⟨bp, hbp⟩ : ∃ b, b = isPage x.page := ⟨_, rfl⟩
              obtain ⟨bc, hbc⟩ : ∃ b, b = p.covers x.key := ⟨_, rfl⟩
              have HBP := Lib.hid hbp
              have HBC := Lib.hid hbc
              clear hbp hbc
              go_upto_region 9 with (first
                | (go_at_call 41; refine (ref_number x.page w5).mono ?_; rw [← HBP.out]; rintro e w6 ⟨rfl, rfl⟩)
                | (go_at_call 42; refine (ref_Covers p _ _ _ _ _ _ x.key w5).mono ?_; rw [← HBC.out]; rintro e w7 ⟨rfl, hb7⟩; have HB7 := Lib.hid (HB5.out.trans (hb7.mono HB5.out.size)); have HX7 := Lib.hid (HX.out.below hb7 HX.out.lt); have z0 : w7.cell? ⟨wr.heap.size, 0, none⟩ = some (.string x.key) := HX7.out.cell 0; have HP7 := Lib.hid (HP5.out.below hb7 HP5.out.lt); have z6 : w7.cell? ⟨w.heap.size, 6, none⟩ = some (.slice (some ad) nk c') := HP7.out.cell 6; clear hb7))
              clear q0 q1 q2 q3 q4 q5 q6 x0 x1
              cases bp with
              | false =>
                go_quiet (fail)
                go_wp2
                go_ret
                exact ⟨ret_bool (innerB_no hx.out (.inl (by unfold Kid.bad; rw [← HBP.out]; rfl))), (HBq.out.trans (HB7.out.mono HBq.out.size)).trans (below_drewN (Below.refl _ _) _)⟩
              | true =>
                cases bc with
                | false =>
                  go_quiet (fail)
                  go_wp2
                  go_ret
                  exact ⟨ret_bool (innerB_no hx.out (.inr (.inl HBC.out.symm))), (HBq.out.trans (HB7.out.mono HBq.out.size)).trans (below_drewN (Below.refl _ _) _)⟩
                | true =>
                  by_cases hsz : (x.key.size : Int) > 16
                  · go_quiet (fail)
                    go_wp2
                    go_ret
                    exact ⟨ret_bool (innerB_no hx.out (.inl (by unfold Kid.bad; rw [decide_eq_true hsz]; simp))), (HBq.out.trans (HB7.out.mono HBq.out.size)).trans (below_drewN (Below.refl _ _) _)⟩
                  · have HBD : Hid (x.bad = false) := Lib.hid (by unfold Kid.bad; rw [← HBP.out, decide_eq_false hsz]; rfl)
                    have hsz' : (x.key.size : Int) ≤ 16 := by omega
                    rcases k with _ | k
                    · have hgd : decide ((0 : Int) > 0) = false := by decide
                      go_quiet (fail)
                      go_wp2
                      go_roundw
                      case rel => exact ⟨1, by omega, by go_num, Lib.hid (HB7.out.trans (below_drewN (Below.refl _ _) _)), Lib.hid (fun i z hi hz => by
                        obtain rfl : i = 0 := by omega
                        rw [hx.out] at hz; cases hz
                        exact ⟨HBD.out, HBC.out.symm, fun j _ e => by omega⟩)⟩
                      case measure => simp [intOf]; omega
                    · obtain ⟨ad', y, e1, hy, _, h4, y0', y1'⟩ := (HRq.out.below HB7.out).kid (i := k) (by rw [← HNK.out]; omega)
                      cases e1
                      have hgd : (0 : Int) < ((k + 1 : Nat) : Int) := by omega
                      have hsub : ((k + 1 : Nat) : Int) - 1 = (k : Int) := by omega
                      have hlt2 : (k : Int) < (nk : Int) := by omega
                      cases hl : lt y.key x.key with
                      | true =>
                        have HL := Lib.hid hl
                        unfold lt at hl
                        go_quiet (fail)
                        go_wp2
                        go_roundw
                        case rel => exact ⟨k + 1 + 1, by omega, by go_num, Lib.hid (HB7.out.trans (below_drewN (Below.refl _ _) _)), Lib.hid (fun i z hi hz => by
                          rcases Nat.lt_or_ge i (k + 1) with h | h
                          · exact hno.out i z h hz
                          · obtain rfl : i = k + 1 := by omega
                            rw [hx.out] at hz; cases hz
                            refine ⟨HBD.out, HBC.out.symm, fun j u e hu => ?_⟩
                            obtain rfl : j = k := by omega
                            rw [hy.out] at hu; cases hu
                            exact HL.out)⟩
                        case measure => simp [intOf]; omega
                      | false =>
                        have HL := Lib.hid hl
                        unfold lt at hl
                        go_quiet (fail)
                        go_wp2
                        go_ret
                        exact ⟨ret_bool (innerB_no hx.out (.inr (.inr ⟨k, y, rfl, hy.out, HL.out⟩))), (HBq.out.trans (HB7.out.mono HBq.out.size)).trans (below_drewN (Below.refl _ _) _)⟩
            · obtain rfl : k = nk := by omega
              go_wp2
              go_ret
              exact ⟨ret_bool (innerB_yes HI.out HK1.out HK.out (by rw [HH.out]; exact HE.out) (fun i x hx => hno.out i x (by rw [HNK.out]; exact (List.getElem?_eq_some_iff.1 hx).1) hx)), HBq.out.trans (hb.out.mono HBq.out.size)⟩
        | false =>
          have HE : Hid (same x.key p.low = false) := Lib.hid hkey
          go_quiet (fail)
          go_wp2
          go_ret
          exact ⟨ret_bool (by unfold Page.innerB; rw [HH.out, HE.out]; simp), HB.out.trans ((below_drewN (Below.refl _ _) nq).mono HB.out.size)⟩
      · have g1 : ¬ ((ni : Int) > 0) := by omega
        have g2 : ¬ ((nk : Int) < 1) := by omega
        have g3 : ((nk : Int) > 120) := by omega
        have HK : Hid (¬ p.kids.length ≤ 120) := Lib.hid (by rw [← HNK.out]; exact hk)
        go_quiet (fail)
        go_wp2
        go_ret
        exact ⟨ret_bool (by unfold Page.innerB; simp [HK.out]), HB.out.trans ((below_drewN (Below.refl _ _) nq).mono HB.out.size)⟩
    · have g1 : ¬ ((ni : Int) > 0) := by omega
      have g2 : ((nk : Int) < 1) := by omega
      have HK : Hid (¬ 1 ≤ p.kids.length) := Lib.hid (by rw [← HNK.out]; exact hk1)
      go_quiet (fail)
      go_wp2
      go_ret
      exact ⟨ret_bool (by unfold Page.innerB; rw [decide_eq_false HK.out]; simp), HB.out.trans ((below_drewN (Below.refl _ _) nq).mono HB.out.size)⟩
  · have g1 : ((ni : Int) > 0) := by omega
    have g1' : 0 < ni := by omega
    have HI : Hid (¬ p.items.length = 0) := Lib.hid (by rw [← HNI.out]; exact hi)
    go_quiet (fail)
    go_wp2
    go_ret
    exact ⟨ret_bool (by unfold Page.innerB; rw [decide_eq_false HI.out]; simp), HB.out.trans ((below_drewN (Below.refl _ _) nq).mono HB.out.size)⟩
end Go.Proofs.Ytjbdmaehomhdeaa
