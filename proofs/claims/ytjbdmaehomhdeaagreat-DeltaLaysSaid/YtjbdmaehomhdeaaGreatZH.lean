/- append of a list's elements; Grow; Concat of two. -/
import Derived.Test.YtjbdmaehomhdeaaGreatZG
import Derived.Test.YtjbdmaehomhdeaaGreatZD
set_option linter.unusedSimpArgs false
set_option linter.unusedVariables false
namespace Go.Proofs.YtjbdmaehomhdeaaGreat
open Go.RowKit

/-- append(v, l...): elements out of a slice -/
theorem appItems {ops : Array Oper} {rest : List Oper} {o : Oper} {a : Act} {Q : Exit → Act → World → Prop} (w : World) (hgd : o.guard = none) (s x : Operand)
    (ho : o.op = .call { callee := .builtin .append, args := #[s, x], argTypes := #[24, 24] })
    (base : Nat) (v : Value) (l m : List Item) (A : Option Addr) (c lo hi : Nat) (hs : a.eval s = v) (hown : OwnItem w base v l) (hx : a.eval x = .slice A m.length c) (hr : Rd Item.cells 4 w lo hi A m) (hlen : l.length + m.length ≤ 1000000) (hbase : base ≤ w.heap.size)
    (h : ∀ v' w', OwnItem w' base v' (l ++ m) → w.grownBy w' v.ownBlock → wpList Tryz.prog ops Q rest (a.put o.dst v') w') : wpList Tryz.prog ops Q (o :: rest) a w := by
  obtain ⟨i0, hi0, hz0, hz1, hz2⟩ := info_parts info_item
  refine wpList_plain hgd fun K hK => ?_
  have key : ∃ v' w', (Builtin.append_ #[24, 24] o.type #[v, .slice A m.length c]).run Tryz.prog w = .ok v' w' ∧ OwnItem w' base v' (l ++ m) ∧ w.grownBy w' v.ownBlock := by
    rcases A with _ | ad
    · have hm : m = [] := by
        rcases m with _ | ⟨b, r⟩
        · rfl
        · obtain ⟨ad, e, _⟩ := hr (by simp); cases e
      subst hm
      refine ⟨v, w, ?_, by simpa using hown, World.grownBy.refl _ _⟩
      rcases hown.2 with ⟨rfl, hl⟩ | ⟨g, cap, cur, rfl, _, _, hnc, _⟩
      · simp [Builtin.append_, run_underlying Tryz.underlying24, sizeOf, typeInfo, hi0, Builtin.lenOf, Builtin.firstCells]
      · simp [Builtin.append_, run_underlying Tryz.underlying24, sizeOf, typeInfo, hi0, Builtin.lenOf, Builtin.firstCells, hnc, storeCells]
    · obtain ⟨v', w', hrun, h2, h3, _, h5⟩ := run_append_own_at (P := Tryz.prog) w base 24 o.type 23 i0 _ 4 (12 * 4) Tryz.underlying24 hi0 hz0 hz1 hz2 rfl (by omega) v l.length (l.flatMap Item.cells) hown ad m.length c (m.flatMap Item.cells) (by rw [Item.cells_length])
        hr.flatItem (Item.ones m) (by simp only [maxLen]; omega) (by omega) hbase
      refine ⟨v', w', hrun, ?_, h3⟩
      unfold OwnItem
      rw [List.flatMap_append, List.length_append]
      exact h2
  obtain ⟨v', w', hrun, h2, h3⟩ := key
  unfold Oper.wp execOp
  simp only [ho, resolve, invoke, builtin, Sem.run_bind, Sem.run_pure, Result.andThen_ok, List.map_toArray, List.map_cons, List.map_nil, hs, hx, hrun]
  exact hK _ _ (h v' w' h2 h3)

set_option maxRecDepth 100000 in
set_option maxHeartbeats 1000000 in
theorem grow_item (k : Nat) (hk : k ≤ 1000) (w : World) :
    Calls Tryz.prog 148 #[.slice none 0 0, .int .i64 (k : Nat)] w (PostIItem w w.heap.size (.slice none 0 0) []) := by
  obtain ⟨i0, hi0, hz0, hz1, hz2⟩ := info_parts info_item
  go_enter Tryz.func148, Tryz.ntmps148
  by_cases h0 : k = 0
  · subst h0
    go_wp2
    go_ret
    exact ⟨_, rfl, OwnItem.nil _ _, World.grownBy.refl _ _⟩
  · have hk0 : (0 : Int) < (k : Int) := by omega
    obtain ⟨zs, hzs⟩ : ∃ z, i0.zero = some z := ⟨_, hz0⟩
    have hold : (Builtin.firstCells i0.size 0 (.slice none 0 0)).run Tryz.prog w.drew = .ok (([] : List Value)).toArray w.drew := run_firstCells_none w.drew _ 0 0 0
    have hap : ∀ ty, (Builtin.append_ #[24, 3] ty #[.slice none 0 0, .int .i64 (k : Nat)]).run Tryz.prog w = _ := fun ty =>
      Lib.run_append_grow_zeros w 24 3 ty 23 i0 zs .i64 .i64 Tryz.underlying24 Tryz.underlying3 hi0 hzs none 0 0 [] hold k (by omega) (by omega) (by omega) (by omega) (by rw [hz2]; omega) (by rw [hz2]; exact growslice_fits (by omega) (by omega))
    have hG := grownCap_ge w (0 + k) 0 23
    have hGM : grownCap w (0 + k) 0 23 ≤ maxLen := grownCap_le_maxLen w _ _ _ (by unfold maxLen; omega)
    have hzc : zs.cells.size = 4 := by
      rw [hz0] at hzs
      obtain rfl := Option.some.inj hzs
      rfl
    rw [Nat.zero_add] at hap hG hGM
    obtain ⟨G, hGe⟩ : ∃ G, G = grownCap w k 0 23 := ⟨_, rfl⟩
    rw [← hGe] at hap hG hGM
    obtain ⟨ROW, hROW⟩ : ∃ R, R = (([] : List Value)).toArray ++ Builtin.zeroCells zs.cells k ++ Builtin.zeroCells zs.cells (G - k) := ⟨_, rfl⟩
    rw [← hROW] at hap
    have HRS : Hid (ROW.size = G * 4) := Lib.hid (by
      rw [hROW]
      simp only [Array.size_append, List.size_toArray, List.length_nil, Builtin.zeroCells, Array.size_map, Array.size_range, hzc]
      rw [Nat.zero_add, ← Nat.add_mul]
      congr 1
      omega)
    have HGM := Lib.hid hGM
    clear hGe hROW hold hi0 hz0 hz1 hz2 hzs hzc
    go_wp2_with (at_builtin; refine Lib.wpList_append_run _ rfl _ _ _ _ rfl _ _ rfl rfl _ _ (hap _) ?_)
    go_ret
    exact ⟨_, rfl, ⟨rfl, .inr ⟨w.heap.size, G, ROW, rfl, Nat.le_refl _, Blk.new w.drew 23 ROW, Nat.zero_le _, HGM.out, HRS.out, by simp⟩⟩, (⟨rfl, rfl, rfl, Nat.le_refl _, fun _ _ _ => rfl⟩ : w.grownBy w.drew _).trans (World.grownBy_alloc _ _ _)⟩
/-- append(v, l...): elements out of a slice -/
theorem appKids {ops : Array Oper} {rest : List Oper} {o : Oper} {a : Act} {Q : Exit → Act → World → Prop} (w : World) (hgd : o.guard = none) (s x : Operand)
    (ho : o.op = .call { callee := .builtin .append, args := #[s, x], argTypes := #[25, 25] })
    (base : Nat) (v : Value) (l m : List Kid) (A : Option Addr) (c lo hi : Nat) (hs : a.eval s = v) (hown : OwnKid w base v l) (hx : a.eval x = .slice A m.length c) (hr : Rd Kid.cells 2 w lo hi A m) (hlen : l.length + m.length ≤ 1000000) (hbase : base ≤ w.heap.size)
    (h : ∀ v' w', OwnKid w' base v' (l ++ m) → w.grownBy w' v.ownBlock → wpList Tryz.prog ops Q rest (a.put o.dst v') w') : wpList Tryz.prog ops Q (o :: rest) a w := by
  obtain ⟨i0, hi0, hz0, hz1, hz2⟩ := info_parts info_kid
  refine wpList_plain hgd fun K hK => ?_
  have key : ∃ v' w', (Builtin.append_ #[25, 25] o.type #[v, .slice A m.length c]).run Tryz.prog w = .ok v' w' ∧ OwnKid w' base v' (l ++ m) ∧ w.grownBy w' v.ownBlock := by
    rcases A with _ | ad
    · have hm : m = [] := by
        rcases m with _ | ⟨b, r⟩
        · rfl
        · obtain ⟨ad, e, _⟩ := hr (by simp); cases e
      subst hm
      refine ⟨v, w, ?_, by simpa using hown, World.grownBy.refl _ _⟩
      rcases hown.2 with ⟨rfl, hl⟩ | ⟨g, cap, cur, rfl, _, _, hnc, _⟩
      · simp [Builtin.append_, run_underlying Tryz.underlying25, sizeOf, typeInfo, hi0, Builtin.lenOf, Builtin.firstCells]
      · simp [Builtin.append_, run_underlying Tryz.underlying25, sizeOf, typeInfo, hi0, Builtin.lenOf, Builtin.firstCells, hnc, storeCells]
    · obtain ⟨v', w', hrun, h2, h3, _, h5⟩ := run_append_own_at (P := Tryz.prog) w base 25 o.type 61 i0 _ 2 (12 * 2) Tryz.underlying25 hi0 hz0 hz1 hz2 rfl (by omega) v l.length (l.flatMap Kid.cells) hown ad m.length c (m.flatMap Kid.cells) (by rw [Kid.cells_length])
        hr.flatKid (Kid.ones m) (by simp only [maxLen]; omega) (by omega) hbase
      refine ⟨v', w', hrun, ?_, h3⟩
      unfold OwnKid
      rw [List.flatMap_append, List.length_append]
      exact h2
  obtain ⟨v', w', hrun, h2, h3⟩ := key
  unfold Oper.wp execOp
  simp only [ho, resolve, invoke, builtin, Sem.run_bind, Sem.run_pure, Result.andThen_ok, List.map_toArray, List.map_cons, List.map_nil, hs, hx, hrun]
  exact hK _ _ (h v' w' h2 h3)

set_option maxRecDepth 100000 in
set_option maxHeartbeats 1000000 in
theorem grow_kid (k : Nat) (hk : k ≤ 1000) (w : World) :
    Calls Tryz.prog 149 #[.slice none 0 0, .int .i64 (k : Nat)] w (PostIKid w w.heap.size (.slice none 0 0) []) := by
  obtain ⟨i0, hi0, hz0, hz1, hz2⟩ := info_parts info_kid
  go_enter Tryz.func149, Tryz.ntmps149
  by_cases h0 : k = 0
  · subst h0
    go_wp2
    go_ret
    exact ⟨_, rfl, OwnKid.nil _ _, World.grownBy.refl _ _⟩
  · have hk0 : (0 : Int) < (k : Int) := by omega
    obtain ⟨zs, hzs⟩ : ∃ z, i0.zero = some z := ⟨_, hz0⟩
    have hold : (Builtin.firstCells i0.size 0 (.slice none 0 0)).run Tryz.prog w.drew = .ok (([] : List Value)).toArray w.drew := run_firstCells_none w.drew _ 0 0 0
    have hap : ∀ ty, (Builtin.append_ #[25, 3] ty #[.slice none 0 0, .int .i64 (k : Nat)]).run Tryz.prog w = _ := fun ty =>
      Lib.run_append_grow_zeros w 25 3 ty 61 i0 zs .i64 .i64 Tryz.underlying25 Tryz.underlying3 hi0 hzs none 0 0 [] hold k (by omega) (by omega) (by omega) (by omega) (by rw [hz2]; omega) (by rw [hz2]; exact growslice_fits (by omega) (by omega))
    have hG := grownCap_ge w (0 + k) 0 61
    have hGM : grownCap w (0 + k) 0 61 ≤ maxLen := grownCap_le_maxLen w _ _ _ (by unfold maxLen; omega)
    have hzc : zs.cells.size = 2 := by
      rw [hz0] at hzs
      obtain rfl := Option.some.inj hzs
      rfl
    rw [Nat.zero_add] at hap hG hGM
    obtain ⟨G, hGe⟩ : ∃ G, G = grownCap w k 0 61 := ⟨_, rfl⟩
    rw [← hGe] at hap hG hGM
    obtain ⟨ROW, hROW⟩ : ∃ R, R = (([] : List Value)).toArray ++ Builtin.zeroCells zs.cells k ++ Builtin.zeroCells zs.cells (G - k) := ⟨_, rfl⟩
    rw [← hROW] at hap
    have HRS : Hid (ROW.size = G * 2) := Lib.hid (by
      rw [hROW]
      simp only [Array.size_append, List.size_toArray, List.length_nil, Builtin.zeroCells, Array.size_map, Array.size_range, hzc]
      rw [Nat.zero_add, ← Nat.add_mul]
      congr 1
      omega)
    have HGM := Lib.hid hGM
    clear hGe hROW hold hi0 hz0 hz1 hz2 hzs hzc
    go_wp2_with (at_builtin; refine Lib.wpList_append_run _ rfl _ _ _ _ rfl _ _ rfl rfl _ _ (hap _) ?_)
    go_ret
    exact ⟨_, rfl, ⟨rfl, .inr ⟨w.heap.size, G, ROW, rfl, Nat.le_refl _, Blk.new w.drew 61 ROW, Nat.zero_le _, HGM.out, HRS.out, by simp⟩⟩, (⟨rfl, rfl, rfl, Nat.le_refl _, fun _ _ _ => rfl⟩ : w.grownBy w.drew _).trans (World.grownBy_alloc _ _ _)⟩
end Go.Proofs.YtjbdmaehomhdeaaGreat

namespace Go.Proofs.YtjbdmaehomhdeaaGreat
open Go.RowKit

set_option maxRecDepth 100000 in
set_option maxHeartbeats 1000000 in
theorem concat_item (g0 lo lo' c d : Nat) (A B : Option Addr) (l m : List Item) (w : World) (hb : Blk w g0 24 #[.slice A l.length c, .slice B m.length d]) (h1 : Rd Item.cells 4 w lo w.heap.size A l) (h2 : Rd Item.cells 4 w lo' w.heap.size B m) (hl : l.length + m.length ≤ 1000) :
    Calls Tryz.prog 146 #[.slice (some ⟨g0, 0, none⟩) 2 2] w (PostCItem w (l ++ m)) := by
  have HR1 := Lib.hid h1
  have HR2 := Lib.hid h2
  have HBK := Lib.hid hb
  clear h1 h2
  obtain ⟨nl, hnl⟩ : ∃ n, n = l.length := ⟨_, rfl⟩
  obtain ⟨nm, hnm⟩ : ∃ n, n = m.length := ⟨_, rfl⟩
  rw [← hnl, ← hnm] at hl hb HBK
  have HNL := Lib.hid hnl
  have HNM := Lib.hid hnm
  clear hnl hnm
  obtain ⟨q0, q1⟩ := Blk.cells2 hb
  clear hb
  have HGR := Lib.hid (fun W => grow_item (nl + nm) hl W)
  go_enter Tryz.func146, Tryz.ntmps146
  have hw0 : IntKind.i64.wrap ((nl : Int) + (nm : Int)) = (nl : Int) + (nm : Int) := by rw [IntKind.wrap_i64]; omega
  go_wp2
  go_loopw [3, 11] (fun n i wr => ((n = .int .i64 0 ∧ i = .int .i64 0) ∨ (n = .int .i64 (nl : Int) ∧ i = .int .i64 1) ∨ (n = .int .i64 ((nl : Int) + (nm : Int)) ∧ i = .int .i64 2)) ∧ w = wr) (fun _ i _ => 2 - (intOf i).toNat)
  case atStart => exact ⟨.inl ⟨rfl, rfl⟩, rfl⟩
  case round =>
    obtain ⟨hh, rfl⟩ := hrel
    rcases hh with ⟨rfl, rfl⟩ | ⟨rfl, rfl⟩ | ⟨rfl, rfl⟩
    · have hn0 : ¬ ((nl : Int) < 0) := by omega
      go_wp2
      go_roundw
      case rel => exact ⟨.inr (.inl ⟨by go_num, rfl⟩), trivial⟩
      case measure => simp [intOf]
    · have hn0 : ¬ ((nl : Int) + (nm : Int) < 0) := by omega
      go_wp2
      go_roundw
      case rel => exact ⟨.inr (.inr ⟨by go_num, rfl⟩), trivial⟩
      case measure => simp [intOf]
    · go_wp2_with fail
      rw [show (nl : Int) + (nm : Int) = ((nl + nm : Nat) : Int) by omega]
      refine (HGR.out w).mono ?_
      rintro e w1 ⟨v1, rfl, hO1, hG1⟩
      have HB1 : Hid (Below w.heap.size w w1) := Lib.hid ((Below.refl _ _).grown hG1 (Nat.le_refl _) (fun k hk => by simp [Value.ownBlock] at hk))
      have HO1 := Lib.hid hO1
      have HBK1 := Lib.hid (HBK.out.below HB1.out HBK.out.lt)
      clear hO1 hG1 q0 q1
      obtain ⟨q0, q1⟩ := Blk.cells2 HBK1.out
      go_wp2
      go_loopw [6, 27] (fun v i wr => ∃ k, i = .int .i64 (k : Nat) ∧ k ≤ 2 ∧ Hid (OwnItem wr w.heap.size v (if k = 0 then [] else if k = 1 then l else l ++ m)) ∧ Hid (Below w.heap.size w wr)) (fun _ i _ => 2 - (intOf i).toNat)
      case atStart => exact ⟨0, rfl, by omega, HO1, HB1⟩
      case round =>
        obtain ⟨k, rfl, hk, HOr, HBr⟩ := hrel
        have HBKr := Lib.hid (HBK.out.below HBr.out HBK.out.lt)
        clear q0 q1
        obtain ⟨q0, q1⟩ := Blk.cells2 HBKr.out
        have hsr := HBr.out.size
        have hk3 : k = 0 ∨ k = 1 ∨ k = 2 := by omega
        rcases hk3 with rfl | rfl | rfl
        · have HOa : Hid (OwnItem wr w.heap.size u6 []) := HOr
          have HRa := Lib.hid (HR1.out.below HBr.out)
          clear HOr
          go_wp2_with (at_builtin; (refine appItems _ rfl _ _ rfl w.heap.size u6 [] l A c lo w.heap.size rfl HOa.out (by rw [← HNL.out]; rfl) HRa.out (by simp; rw [← HNL.out]; omega) hsr ?_); intro v2 w2 hO2 hG2)
          go_roundw
          case rel => exact ⟨1, by go_num, by omega, Lib.hid (by simpa using hO2), Lib.hid (HBr.out.grown hG2 hsr (fun k hk => (HOa.out.block k hk).1))⟩
          case measure => simp [intOf]
        · have HOa : Hid (OwnItem wr w.heap.size u6 l) := HOr
          have HRa := Lib.hid (HR2.out.below HBr.out)
          clear HOr
          go_wp2_with (at_builtin; (refine appItems _ rfl _ _ rfl w.heap.size u6 l m B d lo' w.heap.size rfl HOa.out (by rw [← HNM.out]; rfl) HRa.out (by rw [← HNL.out, ← HNM.out]; omega) hsr ?_); intro v2 w2 hO2 hG2)
          go_roundw
          case rel => exact ⟨2, by go_num, by omega, Lib.hid hO2, Lib.hid (HBr.out.grown hG2 hsr (fun k hk => (HOa.out.block k hk).1))⟩
          case measure => simp [intOf]
        · have HOa : Hid (OwnItem wr w.heap.size u6 (l ++ m)) := HOr
          clear HOr
          go_wp2
          go_ret
          exact ⟨_, rfl, HOa.out, HBr.out⟩
set_option maxRecDepth 100000 in
set_option maxHeartbeats 1000000 in
theorem concat_kid (g0 lo lo' c d : Nat) (A B : Option Addr) (l m : List Kid) (w : World) (hb : Blk w g0 25 #[.slice A l.length c, .slice B m.length d]) (h1 : Rd Kid.cells 2 w lo w.heap.size A l) (h2 : Rd Kid.cells 2 w lo' w.heap.size B m) (hl : l.length + m.length ≤ 1000) :
    Calls Tryz.prog 147 #[.slice (some ⟨g0, 0, none⟩) 2 2] w (PostCKid w (l ++ m)) := by
  have HR1 := Lib.hid h1
  have HR2 := Lib.hid h2
  have HBK := Lib.hid hb
  clear h1 h2
  obtain ⟨nl, hnl⟩ : ∃ n, n = l.length := ⟨_, rfl⟩
  obtain ⟨nm, hnm⟩ : ∃ n, n = m.length := ⟨_, rfl⟩
  rw [← hnl, ← hnm] at hl hb HBK
  have HNL := Lib.hid hnl
  have HNM := Lib.hid hnm
  clear hnl hnm
  obtain ⟨q0, q1⟩ := Blk.cells2 hb
  clear hb
  have HGR := Lib.hid (fun W => grow_kid (nl + nm) hl W)
  go_enter Tryz.func147, Tryz.ntmps147
  have hw0 : IntKind.i64.wrap ((nl : Int) + (nm : Int)) = (nl : Int) + (nm : Int) := by rw [IntKind.wrap_i64]; omega
  go_wp2
  go_loopw [3, 11] (fun n i wr => ((n = .int .i64 0 ∧ i = .int .i64 0) ∨ (n = .int .i64 (nl : Int) ∧ i = .int .i64 1) ∨ (n = .int .i64 ((nl : Int) + (nm : Int)) ∧ i = .int .i64 2)) ∧ w = wr) (fun _ i _ => 2 - (intOf i).toNat)
  case atStart => exact ⟨.inl ⟨rfl, rfl⟩, rfl⟩
  case round =>
    obtain ⟨hh, rfl⟩ := hrel
    rcases hh with ⟨rfl, rfl⟩ | ⟨rfl, rfl⟩ | ⟨rfl, rfl⟩
    · have hn0 : ¬ ((nl : Int) < 0) := by omega
      go_wp2
      go_roundw
      case rel => exact ⟨.inr (.inl ⟨by go_num, rfl⟩), trivial⟩
      case measure => simp [intOf]
    · have hn0 : ¬ ((nl : Int) + (nm : Int) < 0) := by omega
      go_wp2
      go_roundw
      case rel => exact ⟨.inr (.inr ⟨by go_num, rfl⟩), trivial⟩
      case measure => simp [intOf]
    · go_wp2_with fail
      rw [show (nl : Int) + (nm : Int) = ((nl + nm : Nat) : Int) by omega]
      refine (HGR.out w).mono ?_
      rintro e w1 ⟨v1, rfl, hO1, hG1⟩
      have HB1 : Hid (Below w.heap.size w w1) := Lib.hid ((Below.refl _ _).grown hG1 (Nat.le_refl _) (fun k hk => by simp [Value.ownBlock] at hk))
      have HO1 := Lib.hid hO1
      have HBK1 := Lib.hid (HBK.out.below HB1.out HBK.out.lt)
      clear hO1 hG1 q0 q1
      obtain ⟨q0, q1⟩ := Blk.cells2 HBK1.out
      go_wp2
      go_loopw [6, 27] (fun v i wr => ∃ k, i = .int .i64 (k : Nat) ∧ k ≤ 2 ∧ Hid (OwnKid wr w.heap.size v (if k = 0 then [] else if k = 1 then l else l ++ m)) ∧ Hid (Below w.heap.size w wr)) (fun _ i _ => 2 - (intOf i).toNat)
      case atStart => exact ⟨0, rfl, by omega, HO1, HB1⟩
      case round =>
        obtain ⟨k, rfl, hk, HOr, HBr⟩ := hrel
        have HBKr := Lib.hid (HBK.out.below HBr.out HBK.out.lt)
        clear q0 q1
        obtain ⟨q0, q1⟩ := Blk.cells2 HBKr.out
        have hsr := HBr.out.size
        have hk3 : k = 0 ∨ k = 1 ∨ k = 2 := by omega
        rcases hk3 with rfl | rfl | rfl
        · have HOa : Hid (OwnKid wr w.heap.size u6 []) := HOr
          have HRa := Lib.hid (HR1.out.below HBr.out)
          clear HOr
          go_wp2_with (at_builtin; (refine appKids _ rfl _ _ rfl w.heap.size u6 [] l A c lo w.heap.size rfl HOa.out (by rw [← HNL.out]; rfl) HRa.out (by simp; rw [← HNL.out]; omega) hsr ?_); intro v2 w2 hO2 hG2)
          go_roundw
          case rel => exact ⟨1, by go_num, by omega, Lib.hid (by simpa using hO2), Lib.hid (HBr.out.grown hG2 hsr (fun k hk => (HOa.out.block k hk).1))⟩
          case measure => simp [intOf]
        · have HOa : Hid (OwnKid wr w.heap.size u6 l) := HOr
          have HRa := Lib.hid (HR2.out.below HBr.out)
          clear HOr
          go_wp2_with (at_builtin; (refine appKids _ rfl _ _ rfl w.heap.size u6 l m B d lo' w.heap.size rfl HOa.out (by rw [← HNM.out]; rfl) HRa.out (by rw [← HNL.out, ← HNM.out]; omega) hsr ?_); intro v2 w2 hO2 hG2)
          go_roundw
          case rel => exact ⟨2, by go_num, by omega, Lib.hid hO2, Lib.hid (HBr.out.grown hG2 hsr (fun k hk => (HOa.out.block k hk).1))⟩
          case measure => simp [intOf]
        · have HOa : Hid (OwnKid wr w.heap.size u6 (l ++ m)) := HOr
          clear HOr
          go_wp2
          go_ret
          exact ⟨_, rfl, HOa.out, HBr.out⟩
end Go.Proofs.YtjbdmaehomhdeaaGreat
