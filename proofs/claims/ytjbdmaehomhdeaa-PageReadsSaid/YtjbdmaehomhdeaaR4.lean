/- The reference's leaf. -/
import Derived.Test.YtjbdmaehomhdeaaR1
import Derived.Test.YtjbdmaehomhdeaaA8
namespace Go.Proofs.Ytjbdmaehomhdeaa
open Go.RowKit

theorem leafB_no {p : Page} {i : Nat} {x : Item} (hx : p.items[i]? = some x) (h : x.check ≠ 0 ∨ p.covers x.key = false ∨ ∃ j y, i = j + 1 ∧ p.items[j]? = some y ∧ lt y.key x.key = false) : false = p.leafB := by
  unfold Page.leafB
  have hm : x ∈ p.items := List.mem_of_getElem? hx
  have hk : (p.items.map (·.key))[i]? = some x.key := by rw [List.getElem?_map, hx]; rfl
  rcases h with h | h | ⟨j, y, e, hy, hl⟩
  · have : p.items.any (fun x => x.check != 0) = true := List.any_eq_true.2 ⟨x, hm, by simpa using h⟩
    rw [this]; simp
  · rw [← rises_no hk (.inl h)]; simp
  · rw [← rises_no hk (.inr ⟨j, y.key, e, by rw [List.getElem?_map, hy]; rfl, hl⟩)]; simp
theorem leafB_yes {p : Page} (hk : p.kids.length = 0) (hi : p.items.length ≤ 120) (h : ∀ (i : Nat) (x : Item), p.items[i]? = some x → x.check = 0 ∧ p.covers x.key = true ∧ ∀ j y, i = j + 1 → p.items[j]? = some y → lt y.key x.key = true) : true = p.leafB := by
  unfold Page.leafB
  have h1 : p.items.any (fun x => x.check != 0) = false := by
    rw [List.any_eq_false]
    intro x hx
    obtain ⟨i, hi, e⟩ := List.getElem_of_mem hx
    have := (h i x (by rw [List.getElem?_eq_getElem hi, e])).1
    simp [this]
  have h2 : true = rises p (p.items.map (·.key)) := rises_yes (fun i k hik => by
    rw [List.getElem?_map] at hik
    cases hx : p.items[i]? with
    | none => rw [hx] at hik; cases hik
    | some x =>
      rw [hx] at hik; cases hik
      obtain ⟨_, a, b⟩ := h i x hx
      refine ⟨a, fun j u e hu => ?_⟩
      rw [List.getElem?_map] at hu
      cases hy : p.items[j]? with
      | none => rw [hy] at hu; cases hu
      | some y => rw [hy] at hu; cases hu; exact b j y e hy)
  rw [h1, ← h2, hk]; simp [hi]

set_option maxRecDepth 100000 in
set_option maxHeartbeats 4000000 in
theorem ref_leaf (p : Page) (A A' : Option Addr) (c c' lo : Nat) (w : World) (hp : Pg w lo w.heap.size p A A' c c') :
    Calls Try.prog 87 #[p.val A c A' c'] w fun e w' => e = .returned (.bool p.leafB) ∧ Below w.heap.size w w' := by
  obtain ⟨h1, h2, h3, h4, h5, h6⟩ := hp
  have H1 := Lib.hid h1
  clear h1 h2 h3 h4 h5 h6
  unfold Page.val Page.raw
  obtain ⟨ni, hni⟩ : ∃ n, n = p.items.length := ⟨_, rfl⟩
  obtain ⟨nk, hnk⟩ : ∃ n, n = p.kids.length := ⟨_, rfl⟩
  rw [← hni, ← hnk]
  have HNI := Lib.hid hni
  have HNK := Lib.hid hnk
  clear hni hnk
  go_enter Try.func87, Try.ntmps87
  go_upto_region 1 with (fail)
  have hP : PBlk (w.alloc (Obj.cells #[Value.int IntKind.i64 p.level, Value.string p.low, Value.string p.high, Value.bool p.last, Value.int IntKind.i64 p.side, Value.slice A ni c, Value.slice A' nk c'] 27)) w.heap.size p A ni c A' nk c' := Blk.new _ _ _
  have hB : Below w.heap.size w (w.alloc (Obj.cells #[Value.int IntKind.i64 p.level, Value.string p.low, Value.string p.high, Value.bool p.last, Value.int IntKind.i64 p.side, Value.slice A ni c, Value.slice A' nk c'] 27)) := (Below.refl _ _).alloc (Nat.le_refl _) _
  generalize (w.alloc (Obj.cells #[Value.int IntKind.i64 p.level, Value.string p.low, Value.string p.high, Value.bool p.last, Value.int IntKind.i64 p.side, Value.slice A ni c, Value.slice A' nk c'] 27)) = w0 at *
  have HP := Lib.hid hP
  have HB := Lib.hid hB
  clear hP hB
  obtain ⟨q0, q1, q2, q3, q4, q5, q6⟩ := HP.out.cells
  by_cases hk : nk = 0
  · by_cases hi : ni ≤ 120
    · have g1 : ¬ ((nk : Int) > 0) := by omega
      have g2 : ¬ ((ni : Int) > 120) := by omega
      have HK : Hid (p.kids.length = 0) := Lib.hid (by rw [← HNK.out]; exact hk)
      have HI : Hid (p.items.length ≤ 120) := Lib.hid (by rw [← HNI.out]; exact hi)
      go_wp2
      go_loopw [3] (fun i wr => ∃ k : Nat, k ≤ ni ∧ i = .int .i64 k ∧ Hid (Below w0.heap.size w0 wr) ∧
        Hid (∀ (i : Nat) (x : Item), i < k → p.items[i]? = some x → x.check = 0 ∧ p.covers x.key = true ∧ ∀ j y, i = j + 1 → p.items[j]? = some y → lt y.key x.key = true)) (fun i _ => ni - (intOf i).toNat)
      case atStart => exact ⟨0, Nat.zero_le _, rfl, Lib.hid (Below.refl _ _), Lib.hid (fun _ _ h => by omega)⟩
      case round =>
        obtain ⟨k, hk, rfl, hb, hno⟩ := hrel
        clear q0 q1 q2 q3 q4 q5 q6
        have hs := hb.out.size
        obtain ⟨q0, q1, q2, q3, q4, q5, q6⟩ := PBlk.cells (HP.out.below hb.out HP.out.lt)
        by_cases hlt : k < ni
        · obtain ⟨ad, x, rfl, hx, h1, h2, c0, c1, c2, c3⟩ := ((H1.out.below HB.out).below (hb.out.mono HB.out.size)).item (i := k) (by rw [← HNI.out]; exact hlt)
          go_upto_region 7 with (fail)
          have hX := Blk.new wr 39 #[Value.string x.key, Value.string x.value, Value.int IntKind.i64 x.no, Value.bool x.gone]
          have hP5 := (HP.out.below hb.out HP.out.lt).alloc (Obj.cells #[Value.string x.key, Value.string x.value, Value.int IntKind.i64 x.no, Value.bool x.gone] 39)
          have hB5 := hb.out.alloc hb.out.size (Obj.cells #[Value.string x.key, Value.string x.value, Value.int IntKind.i64 x.no, Value.bool x.gone] 39)
          generalize (wr.alloc (Obj.cells #[Value.string x.key, Value.string x.value, Value.int IntKind.i64 x.no, Value.bool x.gone] 39)) = w5 at *
          have HX := Lib.hid hX
          have HP5 := Lib.hid hP5
          have HB5 := Lib.hid hB5
          obtain ⟨x0, x1, x2, x3⟩ := (⟨hX.cell 0, hX.cell 1, hX.cell 2, hX.cell 3⟩ : w5.cell? ⟨wr.heap.size, 0, none⟩ = some (.string x.key) ∧ w5.cell? ⟨wr.heap.size, 1, none⟩ = some (.string x.value) ∧ w5.cell? ⟨wr.heap.size, 2, none⟩ = some (.int .i64 x.no) ∧ w5.cell? ⟨wr.heap.size, 3, none⟩ = some (.bool x.gone))
          clear hX hP5 hB5 q0 q1 q2 q3 q4 q5 q6 c0 c1 c2 c3
          obtain ⟨ec, hec⟩ : ∃ e, e = x.check := ⟨_, rfl⟩
          obtain ⟨bc, hbc⟩ : ∃ b, b = p.covers x.key := ⟨_, rfl⟩
          have HEC := Lib.hid hec
          have HBC := Lib.hid hbc
          clear hec hbc
          go_upto_region 9 with (first
            | (go_at_call 92; refine (ref_CheckItem x w5).mono ?_; rw [← HEC.out]; rintro e w6 ⟨rfl, hb6⟩; have HB6 := Lib.hid (HB5.out.trans (hb6.mono HB5.out.size)); have HX6 := Lib.hid (HX.out.below hb6 HX.out.lt); obtain ⟨y0, y1, y2, y3⟩ := (⟨HX6.out.cell 0, HX6.out.cell 1, HX6.out.cell 2, HX6.out.cell 3⟩ : w6.cell? ⟨wr.heap.size, 0, none⟩ = some (.string x.key) ∧ w6.cell? ⟨wr.heap.size, 1, none⟩ = some (.string x.value) ∧ w6.cell? ⟨wr.heap.size, 2, none⟩ = some (.int .i64 x.no) ∧ w6.cell? ⟨wr.heap.size, 3, none⟩ = some (.bool x.gone)); have HP6 := Lib.hid (HP5.out.below hb6 HP5.out.lt); obtain ⟨a0, a1, a2, a3, a4, a5, a6⟩ := PBlk.cells HP6.out; clear hb6)
            | (go_at_call 42; refine (ref_Covers p _ _ _ _ _ _ x.key w6).mono ?_; rw [← HBC.out]; rintro e w7 ⟨rfl, hb7⟩; have HB7 := Lib.hid (HB6.out.trans (hb7.mono HB6.out.size)); have HX7 := Lib.hid (HX6.out.below hb7 HX6.out.lt); have z0 : w7.cell? ⟨wr.heap.size, 0, none⟩ = some (.string x.key) := HX7.out.cell 0; have HP7 := Lib.hid (HP6.out.below hb7 HP6.out.lt); have z5 : w7.cell? ⟨w.heap.size, 5, none⟩ = some (.slice (some ad) ni c) := HP7.out.cell 5; clear hb7))
          by_cases he : ec = 0
          · subst he
            cases bc with
            | false =>
              go_quiet (fail)
              go_wp2
              go_ret
              exact ⟨ret_bool (leafB_no hx.out (.inr (.inl HBC.out.symm))), (HB.out.trans (HB7.out.mono HB.out.size)).trans (below_drewN (Below.refl _ _) nq)⟩
            | true =>
              rcases k with _ | k
              · have hgd : decide ((0 : Int) > 0) = false := by decide
                go_quiet (fail)
                go_wp2
                go_roundw
                case rel => exact ⟨1, by omega, by go_num, Lib.hid (HB7.out.trans (below_drewN (Below.refl _ _) nq)), Lib.hid (fun i z hi hz => by
                  obtain rfl : i = 0 := by omega
                  rw [hx.out] at hz; cases hz
                  exact ⟨HEC.out.symm, HBC.out.symm, fun j _ e => by omega⟩)⟩
                case measure => simp [intOf]; omega
              · obtain ⟨ad', y, e1, hy, _, h4, y0', y1', y2', y3'⟩ := ((H1.out.below HB.out).below (HB7.out.mono HB.out.size)).item (i := k) (by rw [← HNI.out]; omega)
                cases e1
                have hgd : (0 : Int) < ((k + 1 : Nat) : Int) := by omega
                have hsub : ((k + 1 : Nat) : Int) - 1 = (k : Int) := by omega
                have hlt2 : (k : Int) < (ni : Int) := by omega
                cases hl : lt y.key x.key with
                | true =>
                  have HL := Lib.hid hl
                  unfold lt at hl
                  go_quiet (fail)
                  go_wp2
                  go_roundw
                  case rel => exact ⟨k + 1 + 1, by omega, by go_num, Lib.hid (HB7.out.trans (below_drewN (Below.refl _ _) nq)), Lib.hid (fun i z hi hz => by
                    rcases Nat.lt_or_ge i (k + 1) with h | h
                    · exact hno.out i z h hz
                    · obtain rfl : i = k + 1 := by omega
                      rw [hx.out] at hz; cases hz
                      refine ⟨HEC.out.symm, HBC.out.symm, fun j u e hu => ?_⟩
                      obtain rfl : j = k := by omega
                      rw [hy.out] at hu; cases hu
                      exact HL.out)⟩
                  case measure => simp [intOf]; omega
                | false =>
                  have HL := Lib.hid hl
                  unfold lt at hl
                  go_quiet (fail)
                  go_wp2
                  go_ret
                  exact ⟨ret_bool (leafB_no hx.out (.inr (.inr ⟨k, y, rfl, hy.out, HL.out⟩))), (HB.out.trans (HB7.out.mono HB.out.size)).trans (below_drewN (Below.refl _ _) nq)⟩
          · have he1 : (ec == 0) = false := by simpa using he
            have he2 : (ec != 0) = true := by simpa using he
            go_quiet (fail)
            go_wp2
            go_ret
            exact ⟨ret_bool (leafB_no hx.out (.inl (by rw [← HEC.out]; exact he))), (HB.out.trans (HB7.out.mono HB.out.size)).trans (below_drewN (Below.refl _ _) nq)⟩
        · obtain rfl : k = ni := by omega
          go_wp2
          go_ret
          exact ⟨ret_bool (leafB_yes HK.out HI.out (fun i x hx => hno.out i x (by rw [HNI.out]; exact (List.getElem?_eq_some_iff.1 hx).1) hx)), HB.out.trans (hb.out.mono HB.out.size)⟩
    · have g1 : ¬ ((nk : Int) > 0) := by omega
      have g2 : ((ni : Int) > 120) := by omega
      have HI : Hid (¬ p.items.length ≤ 120) := Lib.hid (by rw [← HNI.out]; exact hi)
      go_wp2
      go_ret
      exact ⟨ret_bool (by unfold Page.leafB; simp [HI.out]), HB.out⟩
  · have g1 : ((nk : Int) > 0) := by omega
    have HK : Hid (¬ p.kids.length = 0) := Lib.hid (by rw [← HNK.out]; exact hk)
    go_wp2
    go_ret
    exact ⟨ret_bool (by unfold Page.leafB; rw [decide_eq_false HK.out]; simp), HB.out⟩
end Go.Proofs.Ytjbdmaehomhdeaa
