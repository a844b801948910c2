/- Insert, at any place. -/
import Derived.Test.YtjbdmaehomhdeaaGreatG0
import Derived.Test.YtjbdmaehomhdeaaGreatZD
set_option linter.unusedSimpArgs false
set_option linter.unusedVariables false
namespace Go.Proofs.YtjbdmaehomhdeaaGreat
open Go.RowKit

theorem shape_blk {w : World} {g : Nat} {t : TypeId} {cs : Array Value} (h : Blk w g t cs) : w.shape? g = some (t, cs.size) := by
  unfold World.shape?
  rw [show w.heap[g]? = _ from h]

set_option maxRecDepth 100000 in
set_option maxHeartbeats 1000000 in
theorem insert_room_item (base g0 g c i : Nat) (l : List Item) (x : Item) (w : World) (cur : Array Value) (hblk : Blk w g 23 cur) (hg : base ≤ g) (hcm : c ≤ maxLen) (hcs : cur.size = c * 4) (ht : cur.toList.take (l.length * 4) = l.flatMap Item.cells)
    (hx : Blk w g0 23 x.cells.toArray) (hne : g0 ≠ g) (hi : i < l.length) (hroom : l.length + 1 ≤ c) (hlen : l.length ≤ 1000) :
    Calls Tryz.prog 118 #[.slice (some ⟨g, 0, none⟩) l.length c, .int .i64 (i : Nat), .slice (some ⟨g0, 0, none⟩) 1 1] w (PostIItem w base (.slice (some ⟨g, 0, none⟩) l.length c) (l.take i ++ x :: l.drop i)) := by
  obtain ⟨n, hn⟩ : ∃ n, n = l.length := ⟨_, rfl⟩
  rw [← hn] at hi hroom hlen ht
  rw [← hn]
  have hov : ∀ lb cb, (callFunc 122 #[.slice (some ⟨g0, 0, none⟩) 1 1, .slice (some ⟨g, (i + 1) * 4, none⟩) lb cb]).run Tryz.prog w = .ok (.value (.bool false)) w := fun lb cb => by
    rw [run_callFunc_extern Tryz.func122 (by kernel_rfl) (by kernel_rfl) (by kernel_rfl) (e := Extern.SlicesOverlaps.overlaps #[24, 24] #[4]) (by kernel_rfl),
      Lib.run_overlaps_apart w 24 4 23 Tryz.underlying24 4 (fun _ => by kernel_rfl) ⟨g0, 0, none⟩ ⟨g, (i + 1) * 4, none⟩ 1 1 lb cb hne _ _ _ _ (shape_blk hx) (shape_blk hblk) (by rw [hcs]; omega) (hx.frozen 0) (hx.frozen _)]
    rfl
  obtain ⟨i0, hi0, hz0, hz1, hz2⟩ := info_parts info_item
  have hsz : (Tryz.prog.info? 23).map (·.size) = some 4 := by rw [hi0]; simp [hz1]
  have hTl : ((l.take i).flatMap Item.cells).length = i * 4 := by rw [Item.cells_length, List.length_take, Nat.min_eq_left (by omega)]
  have hCl : ((l.drop i).flatMap Item.cells).length = (n - i) * 4 := by rw [Item.cells_length, List.length_drop, ← hn]
  have hTC : l.flatMap Item.cells = (l.take i).flatMap Item.cells ++ (l.drop i).flatMap Item.cells := by rw [← List.flatMap_append, List.take_append_drop]
  have hC1 : ∀ v ∈ (l.drop i).flatMap Item.cells, v.oneCell' = true := Item.ones _
  have HRES : Hid ((l.take i ++ x :: l.drop i).flatMap Item.cells = (l.take i).flatMap Item.cells ++ x.cells ++ (l.drop i).flatMap Item.cells ∧ (l.take i ++ x :: l.drop i).length = n + 1) := Lib.hid ⟨by simp, by rw [List.length_append, List.length_cons, List.length_take, List.length_drop, ← hn]; omega⟩
  obtain ⟨T, hT⟩ : ∃ T, T = (l.take i).flatMap Item.cells := ⟨_, rfl⟩
  obtain ⟨C, hC⟩ : ∃ C, C = (l.drop i).flatMap Item.cells := ⟨_, rfl⟩
  rw [← hT, ← hC] at HRES hTC
  rw [← hT] at hTl
  rw [← hC] at hCl hC1
  have hc : cur.toList.take (T.length + C.length) = T ++ C := by
    rw [hTl, hCl, ← hTC, ← ht]
    congr 1
    omega
  have HSRC := Lib.hid (src_mid hblk.drew hc hTl.symm)
  have HXS : Hid (∀ W, Blk W g0 23 x.cells.toArray → ∀ j v, x.cells[j]? = some v → W.cell? ((⟨g0, 0, none⟩ : Addr).add j) = some v) := Lib.hid fun W h j v hj => by
    have e : (⟨g0, 0, none⟩ : Addr).add j = ⟨g0, 0 + j, none⟩ := by unfold Addr.add; split <;> simp_all
    rw [e, h.cell]; simpa using hj
  have HBLK := Lib.hid hblk
  have HX := Lib.hid hx
  have HCS := Lib.hid hcs
  have HT := Lib.hid hTl
  have HCL := Lib.hid hCl
  have HC1 := Lib.hid hC1
  have HSZ := Lib.hid hsz
  have HC := Lib.hid hc
  have HCM := Lib.hid hcm
  unfold maxLen at hcm
  have hz2 : ¬ ((i : Int) = (n : Int)) := by omega
  have hw1 : IntKind.i64.wrap ((i : Int) + 1) = (i : Int) + 1 := by rw [IntKind.wrap_i64]; omega
  have hw2 : IntKind.i64.wrap ((n : Int) + 1) = (n : Int) + 1 := by rw [IntKind.wrap_i64]; omega
  have hin : i ≤ n := by omega
  have hnc : n + 1 ≤ c := hroom
  clear hblk hx hi0 hz0 hz1 hz2 hTl hCl hC1 hsz hc ht hTC hcs hn hT hC
  go_enter Tryz.func118, Tryz.ntmps118
  go_upto_region 15 with (simp only [hov])
  have htn : ((i : Int) + 1).toNat = i + 1 := by omega
  have hb1 : (0 : Int) ≤ (i : Int) + 1 := by omega
  have hb2 : ¬ (c = i + 1) := by omega
  have hb4 : ¬ (c = i) := by omega
  have hb3 : (i : Int) ≤ (n : Int) + 1 := by omega
  have mixed : Tryz.prog.follows Departure.mixedOrders = true := by kernel_rfl
  go_region_law_o (refine step_copy_rowk rfl _ _ 24 24 23 rfl 4 g ((i + 1) * 4) (n + 1 - (i + 1)) (c - (i + 1)) ⟨g, i * 4, none⟩ (n + 1 - i) (c - i) (by simp [Act.eval, Act.put]) (by simp [Act.eval, Act.put]) cur 23 C Tryz.underlying24 HSZ.out HBLK.out.drew (by rw [HCL.out]; congr 1; simp only [Nat.min_def]; split <;> omega) HSRC.out (by rw [HCL.out, HCS.out]; omega) HC1.out ?_; intro w1 hT1 hB1)
  have HT1 := Lib.hid hT1
  have HB1 := Lib.hid hB1
  have HX1 := Lib.hid (hT1.blk HX.out.drew hne)
  clear hT1 hB1
  have HM1 : Hid (x.cells.length = Nat.min 1 (n + 1 - i) * 4) := Lib.hid (by rw [show Nat.min 1 (n + 1 - i) = 1 from Nat.min_eq_left (by omega)]; rfl)
  have HM2 : Hid (i * 4 + x.cells.length ≤ (rowPut cur ((i + 1) * 4) C).size) := Lib.hid (by rw [rowPut_size (by rw [HCL.out, HCS.out]; omega), HCS.out, show x.cells.length = 4 from rfl]; omega)
  go_wp2_with (refine at_copy_gate rfl ?_; (refine wpList_copy_rowk _ rfl _ _ 24 24 23 rfl 4 g (i * 4) (n + 1 - i) (c - i) ⟨g0, 0, none⟩ 1 1 rfl rfl (rowPut cur ((i + 1) * 4) C) 23 x.cells Tryz.underlying24 HSZ.out HB1.out HM1.out (HXS.out _ HX1.out) HM2.out (Item.one x) ?_); intro w2 hT2 hB2)
  go_ret
  refine ⟨_, rfl, ⟨by rw [Item.cells_length], .inr ⟨g, c, _, by rw [HRES.out.2]; rfl, hg, hB2, by rw [HRES.out.2]; exact hnc, HCM.out, ?_, ?_⟩⟩, ?_⟩
  · rw [rowPut_size, rowPut_size, HCS.out]
    · rw [HCL.out, HCS.out]; omega
    · rw [rowPut_size (by rw [HCL.out, HCS.out]; omega), HCS.out, show x.cells.length = 4 from rfl]; omega
  · rw [HRES.out.2, HRES.out.1, rowPut_list, rowPut_list]
    have := rows_shift cur.toList T C x.cells HC.out (by rw [HT.out, HCL.out, show x.cells.length = 4 from rfl]; have := HCS.out; simp only [Array.length_toList]; omega)
    simp only [HT.out, HCL.out, show x.cells.length = 4 from rfl] at this
    rw [HCL.out, show x.cells.length = 4 from rfl, show (i + 1) * 4 = i * 4 + 4 by omega, show (n + 1) * 4 = i * 4 + 4 + (n - i) * 4 by omega]
    exact this
  · show w.grownBy w2 (some g)
    exact (⟨rfl, rfl, rfl, Nat.le_refl _, fun _ _ _ => rfl⟩ : w.grownBy w.drew (some g)).trans (HT1.out.gr.trans hT2.gr)

set_option maxRecDepth 100000 in
set_option maxHeartbeats 1000000 in
theorem insert_grow_item (base g0 g c i : Nat) (l : List Item) (x : Item) (w : World) (cur : Array Value) (hblk : Blk w g 23 cur) (hg : base ≤ g) (hcs : cur.size = c * 4) (ht : cur.toList.take (l.length * 4) = l.flatMap Item.cells)
    (hx : Blk w g0 23 x.cells.toArray) (hi : i < l.length) (hlc : l.length ≤ c) (hroom : c < l.length + 1) (hlen : l.length ≤ 1000) (hbase : base ≤ w.heap.size) :
    Calls Tryz.prog 118 #[.slice (some ⟨g, 0, none⟩) l.length c, .int .i64 (i : Nat), .slice (some ⟨g0, 0, none⟩) 1 1] w (PostIItem w base (.slice (some ⟨g, 0, none⟩) l.length c) (l.take i ++ x :: l.drop i)) := by
  obtain ⟨n, hn⟩ : ∃ n, n = l.length := ⟨_, rfl⟩
  rw [← hn] at hi hroom hlen ht hlc
  rw [← hn]
  obtain ⟨i0, hi0, hz0, hz1, hz2⟩ := info_parts info_item
  have hsz : (Tryz.prog.info? 23).map (·.size) = some 4 := by rw [hi0]; simp [hz1]
  have hTl : ((l.take i).flatMap Item.cells).length = i * 4 := by rw [Item.cells_length, List.length_take, Nat.min_eq_left (by omega)]
  have hCl : ((l.drop i).flatMap Item.cells).length = (n - i) * 4 := by rw [Item.cells_length, List.length_drop, ← hn]
  have hTC : l.flatMap Item.cells = (l.take i).flatMap Item.cells ++ (l.drop i).flatMap Item.cells := by rw [← List.flatMap_append, List.take_append_drop]
  have hC1 : ∀ v ∈ (l.drop i).flatMap Item.cells, v.oneCell' = true := Item.ones _
  have HRES : Hid ((l.take i ++ x :: l.drop i).flatMap Item.cells = (l.take i).flatMap Item.cells ++ x.cells ++ (l.drop i).flatMap Item.cells ∧ (l.take i ++ x :: l.drop i).length = n + 1) := Lib.hid ⟨by simp, by rw [List.length_append, List.length_cons, List.length_take, List.length_drop, ← hn]; omega⟩
  obtain ⟨T, hT⟩ : ∃ T, T = (l.take i).flatMap Item.cells := ⟨_, rfl⟩
  obtain ⟨C, hC⟩ : ∃ C, C = (l.drop i).flatMap Item.cells := ⟨_, rfl⟩
  rw [← hT, ← hC] at HRES hTC
  rw [← hT] at hTl
  rw [← hC] at hCl hC1
  have hc : cur.toList.take (T.length + C.length) = T ++ C := by
    rw [hTl, hCl, ← hTC, ← ht]
    congr 1
    omega
  have hc0 : cur.toList.take T.length = T := by
    have := congrArg (List.take T.length) hc
    rwa [List.take_take, Nat.min_eq_left (by omega), List.take_left] at this
  have hold : (Builtin.firstCells i0.size i (.slice (some ⟨g, 0, none⟩) i c)).run Tryz.prog w.drew = .ok T.toArray w.drew := by
    rw [hz1]
    exact run_firstCells_some w.drew 4 i ⟨g, 0, none⟩ i c T hTl (src_mid (T := []) (C := T) hblk.drew (by simpa using hc0) rfl)
  obtain ⟨zs, hzs⟩ : ∃ z, i0.zero = some z := ⟨_, hz0⟩
  have hik : i + (n + 1 - i) = n + 1 := by omega
  have hkk : (n : Int) + 1 - (i : Int) = ((n + 1 - i : Nat) : Int) := by omega
  obtain ⟨ROW, hrz, hRs⟩ : ∃ Z : List Value, (∀ ty, (Builtin.append_ #[24, 3] ty #[.slice (some ⟨g, 0, none⟩) i c, .int .i64 ((n + 1 - i : Nat) : Int)]).run Tryz.prog w =
      .ok (.slice (some ⟨w.heap.size, 0, none⟩) (n + 1) (grownCap w (n + 1) c 23)) (w.drew.alloc (.cells (T ++ Z).toArray 23))) ∧ (T ++ Z).length = grownCap w (n + 1) c 23 * 4 := by
    have h := fun ty => Lib.run_append_grow_zeros w 24 3 ty 23 i0 zs .i64 .i64 Tryz.underlying24 Tryz.underlying3 hi0 hzs (some ⟨g, 0, none⟩) i c T hold (n + 1 - i) (by omega) (by omega) (by omega) (by omega) (by rw [hz2]; omega) (by rw [hz2, hik]; exact growslice_fits hroom (by omega))
    rw [hik] at h
    have hG := grownCap_ge w (n + 1) c 23
    have hzc : zs.cells.size = 4 := by
      rw [hz0] at hzs
      obtain rfl := Option.some.inj hzs
      rfl
    refine ⟨(Builtin.zeroCells zs.cells (n + 1 - i) ++ Builtin.zeroCells zs.cells (grownCap w (n + 1) c 23 - (n + 1))).toList, fun ty => ?_, ?_⟩
    · rw [h ty]
      congr 3
      simp
    · simp only [List.length_append, Array.length_toList, Array.size_append, Builtin.zeroCells, Array.size_map, Array.size_range, hzc, hTl]
      generalize grownCap w (n + 1) c 23 = G at hG ⊢
      rw [← Nat.add_mul, ← Nat.add_mul]
      congr 1
      omega
  have hG := grownCap_ge w (n + 1) c 23
  have hGM : grownCap w (n + 1) c 23 ≤ maxLen := grownCap_le_maxLen w _ _ _ (by unfold maxLen; omega)
  obtain ⟨G, hGe⟩ : ∃ G, G = grownCap w (n + 1) c 23 := ⟨_, rfl⟩
  rw [← hGe] at hG hGM hrz hRs
  have HXS : Hid (∀ W, Blk W g0 23 x.cells.toArray → ∀ j v, x.cells[j]? = some v → W.cell? ((⟨g0, 0, none⟩ : Addr).add j) = some v) := Lib.hid fun W h j v hj => by
    have e : (⟨g0, 0, none⟩ : Addr).add j = ⟨g0, 0 + j, none⟩ := by unfold Addr.add; split <;> simp_all
    rw [e, h.cell]; simpa using hj
  have hx0 : g0 ≠ w.heap.size := Nat.ne_of_lt hx.lt
  have hg0 : g ≠ w.heap.size := Nat.ne_of_lt hblk.lt
  have HB0 := Lib.hid (show Blk (w.drew.alloc (.cells (T ++ ROW).toArray 23)) w.heap.size 23 (T ++ ROW).toArray from Blk.new w.drew 23 _)
  have HX0 := Lib.hid (show Blk (w.drew.alloc (.cells (T ++ ROW).toArray 23)) g0 23 x.cells.toArray from hx.drew.alloc _)
  have HBK0 := Lib.hid (show Blk (w.drew.alloc (.cells (T ++ ROW).toArray 23)) g 23 cur from hblk.drew.alloc _)
  have HG0 := Lib.hid (show w.grownBy (w.drew.alloc (.cells (T ++ ROW).toArray 23)) (some g) from (⟨rfl, rfl, rfl, Nat.le_refl _, fun _ _ _ => rfl⟩ : w.grownBy w.drew (some g)).trans (World.grownBy_alloc _ _ _))
  have HSZ0 := Lib.hid (show w.heap.size ≤ w.heap.size from Nat.le_refl _)
  obtain ⟨W0, hW0⟩ : ∃ W, W = w.drew.alloc (.cells (T ++ ROW).toArray 23) := ⟨_, rfl⟩
  rw [← hW0] at HB0 HX0 HBK0 HG0 hrz
  obtain ⟨gn, hgn⟩ : ∃ g, g = w.heap.size := ⟨_, rfl⟩
  rw [← hgn] at hrz HB0 hx0 hg0
  have HBG : Hid (base ≤ gn) := Lib.hid (by rw [hgn]; exact hbase)
  have HGN := Lib.hid hgn
  have HX := Lib.hid hx
  have HRS := Lib.hid hRs
  have HT := Lib.hid hTl
  have HCL := Lib.hid hCl
  have HC1 := Lib.hid hC1
  have HSZ := Lib.hid hsz
  have HC := Lib.hid hc
  have HGM := Lib.hid hGM
  have HM1 : Hid (x.cells.length = Nat.min 1 (n + 1 - i) * 4) := Lib.hid (by rw [show Nat.min 1 (n + 1 - i) = 1 from Nat.min_eq_left (by omega)]; rfl)
  have HM2 : Hid (i * 4 + x.cells.length ≤ (T ++ ROW).toArray.size) := Lib.hid (by rw [List.size_toArray, HRS.out, show x.cells.length = 4 from rfl]; omega)
  unfold maxLen at hGM
  have hz2' : ((i : Int) == (n : Int)) = false := by simp only [beq_eq_false_iff_ne, ne_eq]; omega
  have hw1 : IntKind.i64.wrap ((i : Int) + 1) = (i : Int) + 1 := by rw [IntKind.wrap_i64]; omega
  have hin : (i : Int) ≤ (n : Int) := by omega
  have hcn : (c : Int) < (n : Int) + 1 := by omega
  have hci : ¬ (c = i) := by omega
  have hGi : ¬ (G = i) := by omega
  have hGi2 : ¬ (G = i + 1) := by omega
  have htn : ((i : Int) + 1).toNat = i + 1 := by omega
  have hb1 : (0 : Int) ≤ (i : Int) + 1 := by omega
  have hb3 : (i : Int) ≤ (n : Int) + 1 := by omega
  have hiG : (i : Int) ≤ (G : Int) := by omega
  have hic : (i : Int) ≤ (c : Int) := by omega
  have hnG : (n : Int) + 1 ≤ (G : Int) := by omega
  have hnc : (n : Int) ≤ (c : Int) := by omega
  clear hblk hx hi0 hz0 hz1 hz2 hTl hCl hC1 hsz hc ht hTC hcs hn hT hC hold hzs hGe hRs hW0 hgn hc0 hik
  have mixed : Tryz.prog.follows Departure.mixedOrders = true := by kernel_rfl
  go_enter Tryz.func118, Tryz.ntmps118
  go_upto_region 11 with (first
    | (at_builtin; refine Lib.wpList_append_run _ rfl _ _ _ _ rfl _ _ rfl rfl _ _ (hrz _) ?_)
    | (refine at_copy_gate rfl ?_; (refine wpList_copy_rowk _ rfl _ _ 24 24 23 rfl 4 gn (i * 4) (n + 1 - i) (G - i) ⟨g0, 0, none⟩ 1 1 rfl rfl (T ++ ROW).toArray 23 x.cells Tryz.underlying24 HSZ.out HB0.out HM1.out (HXS.out _ HX0.out) HM2.out (Item.one x) ?_); intro w1 hT1 hB1))
  have HT1 := Lib.hid hT1
  have HB1 := Lib.hid hB1
  have HBK1 := Lib.hid (hT1.blk HBK0.out hg0)
  clear hT1 hB1
  have HSRC := Lib.hid (src_mid HBK1.out.drew HC.out HT.out.symm)
  have HM3 : Hid ((i + 1) * 4 + C.length ≤ (rowPut (T ++ ROW).toArray (i * 4) x.cells).size) := Lib.hid (by rw [rowPut_size HM2.out, List.size_toArray, HRS.out, HCL.out]; omega)
  have HM4 : Hid (C.length = Nat.min (n - i) (n + 1 - (i + 1)) * 4) := Lib.hid (by rw [HCL.out]; congr 1; simp only [Nat.min_def]; split <;> omega)
  go_region_law_o (refine step_copy_rowk rfl _ _ 24 24 23 rfl 4 gn ((i + 1) * 4) (n + 1 - (i + 1)) (G - (i + 1)) ⟨g, i * 4, none⟩ (n - i) (c - i) (by simp [Act.eval, Act.put]) (by simp [Act.eval, Act.put]) (rowPut (T ++ ROW).toArray (i * 4) x.cells) 23 C Tryz.underlying24 HSZ.out HB1.out.drew HM4.out HSRC.out HM3.out HC1.out ?_; intro w2 hT2 hB2)
  go_wp2
  go_ret
  refine ⟨_, rfl, ⟨by rw [Item.cells_length], .inr ⟨gn, G, _, by rw [HRES.out.2]; rfl, HBG.out, hB2, by rw [HRES.out.2]; omega, HGM.out, ?_, ?_⟩⟩, ?_⟩
  · rw [rowPut_size HM3.out, rowPut_size HM2.out, List.size_toArray, HRS.out]
  · rw [HRES.out.2, HRES.out.1, rowPut_list, rowPut_list]
    have := rows_new ROW T C x.cells
    simp only [HT.out, HCL.out, show x.cells.length = 4 from rfl] at this
    rw [HCL.out, show x.cells.length = 4 from rfl, show (i + 1) * 4 = i * 4 + 4 by omega, show (n + 1) * 4 = i * 4 + 4 + (n - i) * 4 by omega]
    exact this
  · show w.grownBy w2 (some g)
    have h1 : w.grownBy w1 (some g) := HG0.out.andThen HT1.out.gr (fun j hj => by cases hj; left; rw [HGN.out]; exact Nat.le_refl _)
    exact h1.andThen ((⟨rfl, rfl, rfl, Nat.le_refl _, fun _ _ _ => rfl⟩ : w1.grownBy w1.drew (some gn)).trans hT2.gr) (fun j hj => by cases hj; left; rw [HGN.out]; exact Nat.le_refl _)

set_option maxRecDepth 100000 in
set_option maxHeartbeats 1000000 in
theorem insert_room_kid (base g0 g c i : Nat) (l : List Kid) (x : Kid) (w : World) (cur : Array Value) (hblk : Blk w g 61 cur) (hg : base ≤ g) (hcm : c ≤ maxLen) (hcs : cur.size = c * 2) (ht : cur.toList.take (l.length * 2) = l.flatMap Kid.cells)
    (hx : Blk w g0 61 x.cells.toArray) (hne : g0 ≠ g) (hi : i < l.length) (hroom : l.length + 1 ≤ c) (hlen : l.length ≤ 1000) :
    Calls Tryz.prog 135 #[.slice (some ⟨g, 0, none⟩) l.length c, .int .i64 (i : Nat), .slice (some ⟨g0, 0, none⟩) 1 1] w (PostIKid w base (.slice (some ⟨g, 0, none⟩) l.length c) (l.take i ++ x :: l.drop i)) := by
  obtain ⟨n, hn⟩ : ∃ n, n = l.length := ⟨_, rfl⟩
  rw [← hn] at hi hroom hlen ht
  rw [← hn]
  have hov : ∀ lb cb, (callFunc 136 #[.slice (some ⟨g0, 0, none⟩) 1 1, .slice (some ⟨g, (i + 1) * 2, none⟩) lb cb]).run Tryz.prog w = .ok (.value (.bool false)) w := fun lb cb => by
    rw [run_callFunc_extern Tryz.func136 (by kernel_rfl) (by kernel_rfl) (by kernel_rfl) (e := Extern.SlicesOverlaps.overlaps #[25, 25] #[4]) (by kernel_rfl),
      Lib.run_overlaps_apart w 25 4 61 Tryz.underlying25 2 (fun _ => by kernel_rfl) ⟨g0, 0, none⟩ ⟨g, (i + 1) * 2, none⟩ 1 1 lb cb hne _ _ _ _ (shape_blk hx) (shape_blk hblk) (by rw [hcs]; omega) (hx.frozen 0) (hx.frozen _)]
    rfl
  obtain ⟨i0, hi0, hz0, hz1, hz2⟩ := info_parts info_kid
  have hsz : (Tryz.prog.info? 61).map (·.size) = some 2 := by rw [hi0]; simp [hz1]
  have hTl : ((l.take i).flatMap Kid.cells).length = i * 2 := by rw [Kid.cells_length, List.length_take, Nat.min_eq_left (by omega)]
  have hCl : ((l.drop i).flatMap Kid.cells).length = (n - i) * 2 := by rw [Kid.cells_length, List.length_drop, ← hn]
  have hTC : l.flatMap Kid.cells = (l.take i).flatMap Kid.cells ++ (l.drop i).flatMap Kid.cells := by rw [← List.flatMap_append, List.take_append_drop]
  have hC1 : ∀ v ∈ (l.drop i).flatMap Kid.cells, v.oneCell' = true := Kid.ones _
  have HRES : Hid ((l.take i ++ x :: l.drop i).flatMap Kid.cells = (l.take i).flatMap Kid.cells ++ x.cells ++ (l.drop i).flatMap Kid.cells ∧ (l.take i ++ x :: l.drop i).length = n + 1) := Lib.hid ⟨by simp, by rw [List.length_append, List.length_cons, List.length_take, List.length_drop, ← hn]; omega⟩
  obtain ⟨T, hT⟩ : ∃ T, T = (l.take i).flatMap Kid.cells := ⟨_, rfl⟩
  obtain ⟨C, hC⟩ : ∃ C, C = (l.drop i).flatMap Kid.cells := ⟨_, rfl⟩
  rw [← hT, ← hC] at HRES hTC
  rw [← hT] at hTl
  rw [← hC] at hCl hC1
  have hc : cur.toList.take (T.length + C.length) = T ++ C := by
    rw [hTl, hCl, ← hTC, ← ht]
    congr 1
    omega
  have HSRC := Lib.hid (src_mid hblk.drew hc hTl.symm)
  have HXS : Hid (∀ W, Blk W g0 61 x.cells.toArray → ∀ j v, x.cells[j]? = some v → W.cell? ((⟨g0, 0, none⟩ : Addr).add j) = some v) := Lib.hid fun W h j v hj => by
    have e : (⟨g0, 0, none⟩ : Addr).add j = ⟨g0, 0 + j, none⟩ := by unfold Addr.add; split <;> simp_all
    rw [e, h.cell]; simpa using hj
  have HBLK := Lib.hid hblk
  have HX := Lib.hid hx
  have HCS := Lib.hid hcs
  have HT := Lib.hid hTl
  have HCL := Lib.hid hCl
  have HC1 := Lib.hid hC1
  have HSZ := Lib.hid hsz
  have HC := Lib.hid hc
  have HCM := Lib.hid hcm
  unfold maxLen at hcm
  have hz2 : ¬ ((i : Int) = (n : Int)) := by omega
  have hw1 : IntKind.i64.wrap ((i : Int) + 1) = (i : Int) + 1 := by rw [IntKind.wrap_i64]; omega
  have hw2 : IntKind.i64.wrap ((n : Int) + 1) = (n : Int) + 1 := by rw [IntKind.wrap_i64]; omega
  have hin : i ≤ n := by omega
  have hnc : n + 1 ≤ c := hroom
  clear hblk hx hi0 hz0 hz1 hz2 hTl hCl hC1 hsz hc ht hTC hcs hn hT hC
  go_enter Tryz.func135, Tryz.ntmps135
  go_upto_region 15 with (simp only [hov])
  have htn : ((i : Int) + 1).toNat = i + 1 := by omega
  have hb1 : (0 : Int) ≤ (i : Int) + 1 := by omega
  have hb2 : ¬ (c = i + 1) := by omega
  have hb4 : ¬ (c = i) := by omega
  have hb3 : (i : Int) ≤ (n : Int) + 1 := by omega
  have mixed : Tryz.prog.follows Departure.mixedOrders = true := by kernel_rfl
  go_region_law_o (refine step_copy_rowk rfl _ _ 25 25 61 rfl 2 g ((i + 1) * 2) (n + 1 - (i + 1)) (c - (i + 1)) ⟨g, i * 2, none⟩ (n + 1 - i) (c - i) (by simp [Act.eval, Act.put]) (by simp [Act.eval, Act.put]) cur 61 C Tryz.underlying25 HSZ.out HBLK.out.drew (by rw [HCL.out]; congr 1; simp only [Nat.min_def]; split <;> omega) HSRC.out (by rw [HCL.out, HCS.out]; omega) HC1.out ?_; intro w1 hT1 hB1)
  have HT1 := Lib.hid hT1
  have HB1 := Lib.hid hB1
  have HX1 := Lib.hid (hT1.blk HX.out.drew hne)
  clear hT1 hB1
  have HM1 : Hid (x.cells.length = Nat.min 1 (n + 1 - i) * 2) := Lib.hid (by rw [show Nat.min 1 (n + 1 - i) = 1 from Nat.min_eq_left (by omega)]; rfl)
  have HM2 : Hid (i * 2 + x.cells.length ≤ (rowPut cur ((i + 1) * 2) C).size) := Lib.hid (by rw [rowPut_size (by rw [HCL.out, HCS.out]; omega), HCS.out, show x.cells.length = 2 from rfl]; omega)
  go_wp2_with (refine at_copy_gate rfl ?_; (refine wpList_copy_rowk _ rfl _ _ 25 25 61 rfl 2 g (i * 2) (n + 1 - i) (c - i) ⟨g0, 0, none⟩ 1 1 rfl rfl (rowPut cur ((i + 1) * 2) C) 61 x.cells Tryz.underlying25 HSZ.out HB1.out HM1.out (HXS.out _ HX1.out) HM2.out (Kid.one x) ?_); intro w2 hT2 hB2)
  go_ret
  refine ⟨_, rfl, ⟨by rw [Kid.cells_length], .inr ⟨g, c, _, by rw [HRES.out.2]; rfl, hg, hB2, by rw [HRES.out.2]; exact hnc, HCM.out, ?_, ?_⟩⟩, ?_⟩
  · rw [rowPut_size, rowPut_size, HCS.out]
    · rw [HCL.out, HCS.out]; omega
    · rw [rowPut_size (by rw [HCL.out, HCS.out]; omega), HCS.out, show x.cells.length = 2 from rfl]; omega
  · rw [HRES.out.2, HRES.out.1, rowPut_list, rowPut_list]
    have := rows_shift cur.toList T C x.cells HC.out (by rw [HT.out, HCL.out, show x.cells.length = 2 from rfl]; have := HCS.out; simp only [Array.length_toList]; omega)
    simp only [HT.out, HCL.out, show x.cells.length = 2 from rfl] at this
    rw [HCL.out, show x.cells.length = 2 from rfl, show (i + 1) * 2 = i * 2 + 2 by omega, show (n + 1) * 2 = i * 2 + 2 + (n - i) * 2 by omega]
    exact this
  · show w.grownBy w2 (some g)
    exact (⟨rfl, rfl, rfl, Nat.le_refl _, fun _ _ _ => rfl⟩ : w.grownBy w.drew (some g)).trans (HT1.out.gr.trans hT2.gr)

set_option maxRecDepth 100000 in
set_option maxHeartbeats 1000000 in
theorem insert_grow_kid (base g0 g c i : Nat) (l : List Kid) (x : Kid) (w : World) (cur : Array Value) (hblk : Blk w g 61 cur) (hg : base ≤ g) (hcs : cur.size = c * 2) (ht : cur.toList.take (l.length * 2) = l.flatMap Kid.cells)
    (hx : Blk w g0 61 x.cells.toArray) (hi : i < l.length) (hlc : l.length ≤ c) (hroom : c < l.length + 1) (hlen : l.length ≤ 1000) (hbase : base ≤ w.heap.size) :
    Calls Tryz.prog 135 #[.slice (some ⟨g, 0, none⟩) l.length c, .int .i64 (i : Nat), .slice (some ⟨g0, 0, none⟩) 1 1] w (PostIKid w base (.slice (some ⟨g, 0, none⟩) l.length c) (l.take i ++ x :: l.drop i)) := by
  obtain ⟨n, hn⟩ : ∃ n, n = l.length := ⟨_, rfl⟩
  rw [← hn] at hi hroom hlen ht hlc
  rw [← hn]
  obtain ⟨i0, hi0, hz0, hz1, hz2⟩ := info_parts info_kid
  have hsz : (Tryz.prog.info? 61).map (·.size) = some 2 := by rw [hi0]; simp [hz1]
  have hTl : ((l.take i).flatMap Kid.cells).length = i * 2 := by rw [Kid.cells_length, List.length_take, Nat.min_eq_left (by omega)]
  have hCl : ((l.drop i).flatMap Kid.cells).length = (n - i) * 2 := by rw [Kid.cells_length, List.length_drop, ← hn]
  have hTC : l.flatMap Kid.cells = (l.take i).flatMap Kid.cells ++ (l.drop i).flatMap Kid.cells := by rw [← List.flatMap_append, List.take_append_drop]
  have hC1 : ∀ v ∈ (l.drop i).flatMap Kid.cells, v.oneCell' = true := Kid.ones _
  have HRES : Hid ((l.take i ++ x :: l.drop i).flatMap Kid.cells = (l.take i).flatMap Kid.cells ++ x.cells ++ (l.drop i).flatMap Kid.cells ∧ (l.take i ++ x :: l.drop i).length = n + 1) := Lib.hid ⟨by simp, by rw [List.length_append, List.length_cons, List.length_take, List.length_drop, ← hn]; omega⟩
  obtain ⟨T, hT⟩ : ∃ T, T = (l.take i).flatMap Kid.cells := ⟨_, rfl⟩
  obtain ⟨C, hC⟩ : ∃ C, C = (l.drop i).flatMap Kid.cells := ⟨_, rfl⟩
  rw [← hT, ← hC] at HRES hTC
  rw [← hT] at hTl
  rw [← hC] at hCl hC1
  have hc : cur.toList.take (T.length + C.length) = T ++ C := by
    rw [hTl, hCl, ← hTC, ← ht]
    congr 1
    omega
  have hc0 : cur.toList.take T.length = T := by
    have := congrArg (List.take T.length) hc
    rwa [List.take_take, Nat.min_eq_left (by omega), List.take_left] at this
  have hold : (Builtin.firstCells i0.size i (.slice (some ⟨g, 0, none⟩) i c)).run Tryz.prog w.drew = .ok T.toArray w.drew := by
    rw [hz1]
    exact run_firstCells_some w.drew 2 i ⟨g, 0, none⟩ i c T hTl (src_mid (T := []) (C := T) hblk.drew (by simpa using hc0) rfl)
  obtain ⟨zs, hzs⟩ : ∃ z, i0.zero = some z := ⟨_, hz0⟩
  have hik : i + (n + 1 - i) = n + 1 := by omega
  have hkk : (n : Int) + 1 - (i : Int) = ((n + 1 - i : Nat) : Int) := by omega
  obtain ⟨ROW, hrz, hRs⟩ : ∃ Z : List Value, (∀ ty, (Builtin.append_ #[25, 3] ty #[.slice (some ⟨g, 0, none⟩) i c, .int .i64 ((n + 1 - i : Nat) : Int)]).run Tryz.prog w =
      .ok (.slice (some ⟨w.heap.size, 0, none⟩) (n + 1) (grownCap w (n + 1) c 61)) (w.drew.alloc (.cells (T ++ Z).toArray 61))) ∧ (T ++ Z).length = grownCap w (n + 1) c 61 * 2 := by
    have h := fun ty => Lib.run_append_grow_zeros w 25 3 ty 61 i0 zs .i64 .i64 Tryz.underlying25 Tryz.underlying3 hi0 hzs (some ⟨g, 0, none⟩) i c T hold (n + 1 - i) (by omega) (by omega) (by omega) (by omega) (by rw [hz2]; omega) (by rw [hz2, hik]; exact growslice_fits hroom (by omega))
    rw [hik] at h
    have hG := grownCap_ge w (n + 1) c 61
    have hzc : zs.cells.size = 2 := by
      rw [hz0] at hzs
      obtain rfl := Option.some.inj hzs
      rfl
    refine ⟨(Builtin.zeroCells zs.cells (n + 1 - i) ++ Builtin.zeroCells zs.cells (grownCap w (n + 1) c 61 - (n + 1))).toList, fun ty => ?_, ?_⟩
    · rw [h ty]
      congr 3
      simp
    · simp only [List.length_append, Array.length_toList, Array.size_append, Builtin.zeroCells, Array.size_map, Array.size_range, hzc, hTl]
      generalize grownCap w (n + 1) c 61 = G at hG ⊢
      rw [← Nat.add_mul, ← Nat.add_mul]
      congr 1
      omega
  have hG := grownCap_ge w (n + 1) c 61
  have hGM : grownCap w (n + 1) c 61 ≤ maxLen := grownCap_le_maxLen w _ _ _ (by unfold maxLen; omega)
  obtain ⟨G, hGe⟩ : ∃ G, G = grownCap w (n + 1) c 61 := ⟨_, rfl⟩
  rw [← hGe] at hG hGM hrz hRs
  have HXS : Hid (∀ W, Blk W g0 61 x.cells.toArray → ∀ j v, x.cells[j]? = some v → W.cell? ((⟨g0, 0, none⟩ : Addr).add j) = some v) := Lib.hid fun W h j v hj => by
    have e : (⟨g0, 0, none⟩ : Addr).add j = ⟨g0, 0 + j, none⟩ := by unfold Addr.add; split <;> simp_all
    rw [e, h.cell]; simpa using hj
  have hx0 : g0 ≠ w.heap.size := Nat.ne_of_lt hx.lt
  have hg0 : g ≠ w.heap.size := Nat.ne_of_lt hblk.lt
  have HB0 := Lib.hid (show Blk (w.drew.alloc (.cells (T ++ ROW).toArray 61)) w.heap.size 61 (T ++ ROW).toArray from Blk.new w.drew 61 _)
  have HX0 := Lib.hid (show Blk (w.drew.alloc (.cells (T ++ ROW).toArray 61)) g0 61 x.cells.toArray from hx.drew.alloc _)
  have HBK0 := Lib.hid (show Blk (w.drew.alloc (.cells (T ++ ROW).toArray 61)) g 61 cur from hblk.drew.alloc _)
  have HG0 := Lib.hid (show w.grownBy (w.drew.alloc (.cells (T ++ ROW).toArray 61)) (some g) from (⟨rfl, rfl, rfl, Nat.le_refl _, fun _ _ _ => rfl⟩ : w.grownBy w.drew (some g)).trans (World.grownBy_alloc _ _ _))
  have HSZ0 := Lib.hid (show w.heap.size ≤ w.heap.size from Nat.le_refl _)
  obtain ⟨W0, hW0⟩ : ∃ W, W = w.drew.alloc (.cells (T ++ ROW).toArray 61) := ⟨_, rfl⟩
  rw [← hW0] at HB0 HX0 HBK0 HG0 hrz
  obtain ⟨gn, hgn⟩ : ∃ g, g = w.heap.size := ⟨_, rfl⟩
  rw [← hgn] at hrz HB0 hx0 hg0
  have HBG : Hid (base ≤ gn) := Lib.hid (by rw [hgn]; exact hbase)
  have HGN := Lib.hid hgn
  have HX := Lib.hid hx
  have HRS := Lib.hid hRs
  have HT := Lib.hid hTl
  have HCL := Lib.hid hCl
  have HC1 := Lib.hid hC1
  have HSZ := Lib.hid hsz
  have HC := Lib.hid hc
  have HGM := Lib.hid hGM
  have HM1 : Hid (x.cells.length = Nat.min 1 (n + 1 - i) * 2) := Lib.hid (by rw [show Nat.min 1 (n + 1 - i) = 1 from Nat.min_eq_left (by omega)]; rfl)
  have HM2 : Hid (i * 2 + x.cells.length ≤ (T ++ ROW).toArray.size) := Lib.hid (by rw [List.size_toArray, HRS.out, show x.cells.length = 2 from rfl]; omega)
  unfold maxLen at hGM
  have hz2' : ((i : Int) == (n : Int)) = false := by simp only [beq_eq_false_iff_ne, ne_eq]; omega
  have hw1 : IntKind.i64.wrap ((i : Int) + 1) = (i : Int) + 1 := by rw [IntKind.wrap_i64]; omega
  have hin : (i : Int) ≤ (n : Int) := by omega
  have hcn : (c : Int) < (n : Int) + 1 := by omega
  have hci : ¬ (c = i) := by omega
  have hGi : ¬ (G = i) := by omega
  have hGi2 : ¬ (G = i + 1) := by omega
  have htn : ((i : Int) + 1).toNat = i + 1 := by omega
  have hb1 : (0 : Int) ≤ (i : Int) + 1 := by omega
  have hb3 : (i : Int) ≤ (n : Int) + 1 := by omega
  have hiG : (i : Int) ≤ (G : Int) := by omega
  have hic : (i : Int) ≤ (c : Int) := by omega
  have hnG : (n : Int) + 1 ≤ (G : Int) := by omega
  have hnc : (n : Int) ≤ (c : Int) := by omega
  clear hblk hx hi0 hz0 hz1 hz2 hTl hCl hC1 hsz hc ht hTC hcs hn hT hC hold hzs hGe hRs hW0 hgn hc0 hik
  have mixed : Tryz.prog.follows Departure.mixedOrders = true := by kernel_rfl
  go_enter Tryz.func135, Tryz.ntmps135
  go_upto_region 11 with (first
    | (at_builtin; refine Lib.wpList_append_run _ rfl _ _ _ _ rfl _ _ rfl rfl _ _ (hrz _) ?_)
    | (refine at_copy_gate rfl ?_; (refine wpList_copy_rowk _ rfl _ _ 25 25 61 rfl 2 gn (i * 2) (n + 1 - i) (G - i) ⟨g0, 0, none⟩ 1 1 rfl rfl (T ++ ROW).toArray 61 x.cells Tryz.underlying25 HSZ.out HB0.out HM1.out (HXS.out _ HX0.out) HM2.out (Kid.one x) ?_); intro w1 hT1 hB1))
  have HT1 := Lib.hid hT1
  have HB1 := Lib.hid hB1
  have HBK1 := Lib.hid (hT1.blk HBK0.out hg0)
  clear hT1 hB1
  have HSRC := Lib.hid (src_mid HBK1.out.drew HC.out HT.out.symm)
  have HM3 : Hid ((i + 1) * 2 + C.length ≤ (rowPut (T ++ ROW).toArray (i * 2) x.cells).size) := Lib.hid (by rw [rowPut_size HM2.out, List.size_toArray, HRS.out, HCL.out]; omega)
  have HM4 : Hid (C.length = Nat.min (n - i) (n + 1 - (i + 1)) * 2) := Lib.hid (by rw [HCL.out]; congr 1; simp only [Nat.min_def]; split <;> omega)
  go_region_law_o (refine step_copy_rowk rfl _ _ 25 25 61 rfl 2 gn ((i + 1) * 2) (n + 1 - (i + 1)) (G - (i + 1)) ⟨g, i * 2, none⟩ (n - i) (c - i) (by simp [Act.eval, Act.put]) (by simp [Act.eval, Act.put]) (rowPut (T ++ ROW).toArray (i * 2) x.cells) 61 C Tryz.underlying25 HSZ.out HB1.out.drew HM4.out HSRC.out HM3.out HC1.out ?_; intro w2 hT2 hB2)
  go_wp2
  go_ret
  refine ⟨_, rfl, ⟨by rw [Kid.cells_length], .inr ⟨gn, G, _, by rw [HRES.out.2]; rfl, HBG.out, hB2, by rw [HRES.out.2]; omega, HGM.out, ?_, ?_⟩⟩, ?_⟩
  · rw [rowPut_size HM3.out, rowPut_size HM2.out, List.size_toArray, HRS.out]
  · rw [HRES.out.2, HRES.out.1, rowPut_list, rowPut_list]
    have := rows_new ROW T C x.cells
    simp only [HT.out, HCL.out, show x.cells.length = 2 from rfl] at this
    rw [HCL.out, show x.cells.length = 2 from rfl, show (i + 1) * 2 = i * 2 + 2 by omega, show (n + 1) * 2 = i * 2 + 2 + (n - i) * 2 by omega]
    exact this
  · show w.grownBy w2 (some g)
    have h1 : w.grownBy w1 (some g) := HG0.out.andThen HT1.out.gr (fun j hj => by cases hj; left; rw [HGN.out]; exact Nat.le_refl _)
    exact h1.andThen ((⟨rfl, rfl, rfl, Nat.le_refl _, fun _ _ _ => rfl⟩ : w1.grownBy w1.drew (some gn)).trans hT2.gr) (fun j hj => by cases hj; left; rw [HGN.out]; exact Nat.le_refl _)

end Go.Proofs.YtjbdmaehomhdeaaGreat
