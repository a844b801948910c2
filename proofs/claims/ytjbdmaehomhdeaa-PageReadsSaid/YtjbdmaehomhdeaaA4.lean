import Derived.Test.YtjbdmaehomhdeaaA3
namespace Go.Proofs.Ytjbdmaehomhdeaa
open Go.RowKit

set_option maxHeartbeats 1000000 in
theorem rising_item (p : Page) (A1 A2 : Option Addr) (n1 n2 k1 k2 : Nat) (A : Option Addr) (c lo : Nat) (l : List Item) (w : World) (hr : Rd Item.cells 4 w lo w.heap.size A l) (hlen : l.length ≤ 140737488351232) :
    Calls Try.prog 76 #[p.raw A1 n1 k1 A2 n2 k2, .slice A l.length c, .func (.func 48) #[] #[]] w fun e w' => e = .returned (.bool (rises p (l.map (·.key)))) ∧ Below w.heap.size w w' := by
  have HR := Lib.hid hr
  clear hr
  unfold Page.raw
  go_enter Try.func76, Try.ntmps76
  go_wp2
  go_loopw [11] (fun i wr => ∃ k : Nat, k ≤ l.length ∧ i = .int .i64 k ∧ Hid (Below w.heap.size w wr) ∧ Hid (Blk wr w.heap.size 27 #[.int .i64 p.level, .string p.low, .string p.high, .bool p.last, .int .i64 p.side, .slice A1 n1 k1, .slice A2 n2 k2])
    ∧ Hid (∀ i x, i < k → (l.map (·.key))[i]? = some x → p.covers x = true ∧ ∀ j y, i = j + 1 → (l.map (·.key))[j]? = some y → lt y x = true)) (fun i _ => l.length - (intOf i).toNat)
  case atStart => exact ⟨0, Nat.zero_le _, rfl, Lib.hid ((Below.refl _ _).alloc (Nat.le_refl _) _), Lib.hid (Blk.new _ _ _), Lib.hid (fun _ _ h => by omega)⟩
  case round =>
    obtain ⟨k, hk, rfl, hb, hP, hno⟩ := hrel
    by_cases hlt : k < l.length
    · obtain ⟨ad, x, rfl, hx, h1, h2, c0, c1, c2, c3⟩ := (HR.out.below hb.out).item hlt
      go_upto_region 4 with (fail)
      have hg : w.heap.size < wr.heap.size := hP.out.lt
      have hX := Blk.new wr 39 #[Value.string x.key, Value.string x.value, Value.int IntKind.i64 x.no, Value.bool x.gone]
      have hP4 := hP.out.alloc (Obj.cells #[Value.string x.key, Value.string x.value, Value.int IntKind.i64 x.no, Value.bool x.gone] 39)
      have hb4 : Below w.heap.size w (wr.alloc (Obj.cells #[Value.string x.key, Value.string x.value, Value.int IntKind.i64 x.no, Value.bool x.gone] 39)) := hb.out.alloc (Nat.le_of_lt hg) _
      generalize (wr.alloc (Obj.cells #[Value.string x.key, Value.string x.value, Value.int IntKind.i64 x.no, Value.bool x.gone] 39)) = w4 at *
      have HB4 := Lib.hid hb4
      have x0 := BW.blk hX 0 _ rfl
      have x1 := BW.blk hX 1 _ rfl
      have x2 := BW.blk hX 2 _ rfl
      have x3 := BW.blk hX 3 _ rfl
      have p0 := BW.blk hP4 0 _ rfl
      have p1 := BW.blk hP4 1 _ rfl
      have p2 := BW.blk hP4 2 _ rfl
      have p3 := BW.blk hP4 3 _ rfl
      have p4 := BW.blk hP4 4 _ rfl
      have p5 := BW.blk hP4 5 _ rfl
      have p6 := BW.blk hP4 6 _ rfl
      have HP4 := Lib.hid hP4
      clear hX hP4 hP hb4 c0 c1 c2 c3
      have hkx : (l.map (·.key))[k]? = some x.key := by rw [List.getElem?_map, hx.out]; rfl
      have HX := Lib.hid hkx
      clear hkx
      rcases k with _ | k
      · have hgd : decide ((0 : Int) > 0) = false := by decide
        cases hcv : p.covers x.key with
        | true =>
          have HC := Lib.hid hcv
          refine wp_region_quiet_bw (by kernel_rfl) (by kernel_rfl) ?_
          repeat (go_big_quiet_step (first | (go_at_call 48; refine Calls.bw_of (page_itemKey _ _ _ _ _)) | (go_at_call 44; refine Calls.bw_of (page_Covers p _ _ _ _ _ _ _ _))))
          refine wpQuiet_nil ?_
          intro wq hw'
          obtain ⟨⟨_, hbq⟩, hw''⟩ := hw'
          subst hw''
          have HQ : Hid (Below w.heap.size w wq) := Lib.hid (HB4.out.trans (hbq.mono HB4.out.size))
          have HP5 : Hid (Blk wq w.heap.size 27 #[.int .i64 p.level, .string p.low, .string p.high, .bool p.last, .int .i64 p.side, .slice A1 n1 k1, .slice A2 n2 k2]) := Lib.hid (HP4.out.below hbq HP4.out.lt)
          clear hbq x0 x1 x2 x3 p0 p1 p2 p3 p4 p5 p6
          go_wp2
          go_roundw
          case rel => exact ⟨1, by omega, by go_num, HQ, HP5, Lib.hid (fun i z hi hz => by
            obtain rfl : i = 0 := by omega
            rw [HX.out] at hz; cases hz
            exact ⟨HC.out, fun j _ e => by omega⟩)⟩
          case measure => simp [intOf]; omega
        | false =>
          have HC := Lib.hid hcv
          refine wp_region_quiet_bw (by kernel_rfl) (by kernel_rfl) ?_
          repeat (go_big_quiet_step (first | (go_at_call 48; refine Calls.bw_of (page_itemKey _ _ _ _ _)) | (go_at_call 44; refine Calls.bw_of (page_Covers p _ _ _ _ _ _ _ _))))
          refine wpQuiet_nil ?_
          intro wq hw'
          obtain ⟨⟨_, hbq⟩, hw''⟩ := hw'
          subst hw''
          have HQ : Hid (Below w.heap.size w wq) := Lib.hid (HB4.out.trans (hbq.mono HB4.out.size))
          clear hbq x0 x1 x2 x3 p0 p1 p2 p3 p4 p5 p6
          go_wp2
          go_ret
          exact ⟨ret_bool (rises_no HX.out (.inl HC.out)), HQ.out⟩
      · obtain ⟨ad', y, e1, hy, _, h4, y0, y1, y2, y3⟩ := (HR.out.below HB4.out).item (i := k) (by omega)
        cases e1
        have hky : (l.map (·.key))[k]? = some y.key := by rw [List.getElem?_map, hy.out]; rfl
        have HY := Lib.hid hky
        have z0 := BW.cell y0
        have z1 := BW.cell y1
        have z2 := BW.cell y2
        have z3 := BW.cell y3
        clear y0 y1 y2 y3 hky
        have hgd : (0 : Int) < ((k + 1 : Nat) : Int) := by omega
        have hsub : ((k + 1 : Nat) : Int) - 1 = (k : Int) := by omega
        have hlt2 : (k : Int) < (l.length : Int) := by omega
        cases hl : lt y.key x.key with
        | true =>
          have HL := Lib.hid hl
          unfold lt at hl
          cases hcv : p.covers x.key with
          | true =>
            have HC := Lib.hid hcv
            refine wp_region_quiet_bw (by kernel_rfl) (by kernel_rfl) ?_
            repeat (go_big_quiet_step (first | (go_at_call 48; refine Calls.bw_of (page_itemKey _ _ _ _ _)) | (go_at_call 44; refine Calls.bw_of (page_Covers p _ _ _ _ _ _ _ _))))
            refine wpQuiet_nil ?_
            intro wq hw'
            obtain ⟨⟨_, hbq⟩, hw''⟩ := hw'
            subst hw''
            have HQ : Hid (Below w.heap.size w wq) := Lib.hid (HB4.out.trans (hbq.mono HB4.out.size))
            have HP5 : Hid (Blk wq w.heap.size 27 #[.int .i64 p.level, .string p.low, .string p.high, .bool p.last, .int .i64 p.side, .slice A1 n1 k1, .slice A2 n2 k2]) := Lib.hid (HP4.out.below hbq HP4.out.lt)
            clear hbq x0 x1 x2 x3 p0 p1 p2 p3 p4 p5 p6 z0 z1 z2 z3
            go_wp2
            go_roundw
            case rel => exact ⟨k + 1 + 1, by omega, by go_num, HQ, HP5, Lib.hid (fun i z hi hz => by
              rcases Nat.lt_or_ge i (k + 1) with h | h
              · exact hno.out i z h hz
              · obtain rfl : i = k + 1 := by omega
                rw [HX.out] at hz; cases hz
                refine ⟨HC.out, fun j u e hu => ?_⟩
                obtain rfl : j = k := by omega
                rw [HY.out] at hu; cases hu
                exact HL.out)⟩
            case measure => simp [intOf]; omega
          | false =>
            have HC := Lib.hid hcv
            refine wp_region_quiet_bw (by kernel_rfl) (by kernel_rfl) ?_
            repeat (go_big_quiet_step (first | (go_at_call 48; refine Calls.bw_of (page_itemKey _ _ _ _ _)) | (go_at_call 44; refine Calls.bw_of (page_Covers p _ _ _ _ _ _ _ _))))
            refine wpQuiet_nil ?_
            intro wq hw'
            obtain ⟨⟨_, hbq⟩, hw''⟩ := hw'
            subst hw''
            have HQ : Hid (Below w.heap.size w wq) := Lib.hid (HB4.out.trans (hbq.mono HB4.out.size))
            clear hbq x0 x1 x2 x3 p0 p1 p2 p3 p4 p5 p6 z0 z1 z2 z3
            go_wp2
            go_ret
            exact ⟨ret_bool (rises_no HX.out (.inl HC.out)), HQ.out⟩
        | false =>
          have HL := Lib.hid hl
          unfold lt at hl
          refine wp_region_quiet_bw (by kernel_rfl) (by kernel_rfl) ?_
          repeat (go_big_quiet_step (first | (go_at_call 48; refine Calls.bw_of (page_itemKey _ _ _ _ _)) | (go_at_call 44; refine Calls.bw_of (page_Covers p _ _ _ _ _ _ _ _))))
          refine wpQuiet_nil ?_
          intro wq hw'
          obtain ⟨⟨_, hbq⟩, hw''⟩ := hw'
          subst hw''
          have HQ : Hid (Below w.heap.size w wq) := Lib.hid (HB4.out.trans (hbq.mono HB4.out.size))
          clear hbq x0 x1 x2 x3 p0 p1 p2 p3 p4 p5 p6 z0 z1 z2 z3
          go_wp2
          go_ret
          exact ⟨ret_bool (rises_no HX.out (.inr ⟨k, _, rfl, HY.out, HL.out⟩)), HQ.out⟩
    · go_wp2
      go_ret
      exact ⟨ret_bool (rises_yes (fun i x hi => hno.out i x (by have := (List.getElem?_eq_some_iff.1 hi).1; simp at this; omega) hi)), hb.out⟩
end Go.Proofs.Ytjbdmaehomhdeaa
