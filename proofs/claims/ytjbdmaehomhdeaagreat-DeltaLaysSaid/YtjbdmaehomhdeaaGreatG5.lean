/- Delete of one kid. -/
import Derived.Test.YtjbdmaehomhdeaaGreatZG
import Derived.Test.YtjbdmaehomhdeaaGreatZD
set_option linter.unusedSimpArgs false
set_option linter.unusedVariables false
namespace Go.Proofs.YtjbdmaehomhdeaaGreat
open Go.RowKit

theorem run_append_rowk {P : Program} (w : World) (t tx ty e : TypeId) (i : TypeInfo) (k : Nat) (ht : P.underlying t = some (.slice e)) (htx : P.underlying tx = some (.slice e)) (hi : P.info? e = some i) (hk : i.size = k) (g m c : Nat) (cur : Array Value) (te : TypeId) (hg : Blk w g te cur)
    (ad : Addr) (n c2 : Nat) (news : List Value) (hl : news.length = n * k) (hsrc : ∀ j u, news[j]? = some u → w.cell? (ad.add j) = some u) (h1 : ∀ u ∈ news, u.oneCell' = true) (hroom : m + n ≤ c) (hfit : m * k + news.length ≤ cur.size) :
    (Builtin.append_ #[t, tx] ty #[.slice (some ⟨g, 0, none⟩) m c, .slice (some ad) n c2]).run P w = .ok (.slice (some ⟨g, 0, none⟩) (m + n) c) (w.setRow g (rowPut cur (m * k) news)) := by
  have hs : Src P i.size tx (.slice (some ad) n c2) n news w := Src.ofSlice w htx ad n c2 news (by rw [hk]; exact hl) hsrc h1
  have hst := run_storeCells_at P g (m * k) te news 0 cur w hg (by simpa using hfit) h1
  simp only [Nat.add_zero] at hst
  subst hk
  simp [Builtin.append_, run_underlying ht, run_underlying htx, sizeOf, typeInfo, hi, hs.len, hroom, hs.cells, Addr.add_lit, hst, rowPut]
theorem run_clear_rowk {P : Program} (w : World) (t ty e : TypeId) (i : TypeInfo) (z : Value) (k : Nat) (ht : P.underlying t = some (.slice e)) (hi : P.info? e = some i) (hz : i.zero = some z) (hk : z.cells.size = k) (g o n c : Nat) (cur : Array Value) (te : TypeId) (hg : Blk w g te cur) (hn : 0 < n)
    (hfit : o + n * k ≤ cur.size) (h1 : ∀ u ∈ (Builtin.zeroCells z.cells n).toList, u.oneCell' = true) :
    (Builtin.clear_ #[t] ty #[.slice (some ⟨g, o, none⟩) n c]).run P w = .ok (.tuple #[]) (w.setRow g (rowPut cur o (Builtin.zeroCells z.cells n).toList)) := by
  have hl : (Builtin.zeroCells z.cells n).toList.length = n * k := by simp [Builtin.zeroCells, hk]
  have hst := run_storeCells_at P g o te (Builtin.zeroCells z.cells n).toList 0 cur w hg (by rw [hl]; simpa using hfit) h1
  simp only [Nat.add_zero] at hst
  obtain ⟨n', rfl⟩ : ∃ m, n = m + 1 := ⟨n - 1, by omega⟩
  simp [Builtin.clear_, run_underlying ht, zeroValue, typeInfo, hi, hz, hst, rowPut]

theorem step_append_rowk {P : Program} {ops : Array Oper} {o : Oper} {a : Act} {w : World} {K : Act → World → Prop} {Q : Exit → Act → World → Prop} {E : Prop}
    (hgd : o.guard = none) (d s : Operand) (t tx e : TypeId) (ho : o.op = Op.call { callee := Callee.builtin Builtin.append, args := #[d, s], argTypes := #[t, tx] }) (v u : Value) (hd : a.eval d = v) (hx : a.eval s = u) (v' : Value) (g : Nat) (te : TypeId) (cur new : Array Value) (hg : Blk w g te cur)
    (hr : (Builtin.append_ #[t, tx] o.type #[v, u]).run P w = .ok v' (w.setRow g new))
    (h : ∀ w', Turned w w' g → Blk w' g te new → K (a.put o.dst v') w') :
    if Region.wanted o (yielded ops a.tmps) = true then Oper.wp P o a w K Q else E := by
  have hw : Region.wanted o (yielded ops a.tmps) = true := by simp [Region.wanted, hgd]
  rw [if_pos hw]
  unfold Oper.wp
  simp [execOp, ho, resolve, invoke, builtin, hd, hx, hr, Result.andThen]
  exact h _ (turned_row hg).1 (turned_row hg).2

/-- stands the walk before a call of the builtin clear? -/
theorem at_clear_gate {P : Program} {ops : Array Oper} {rest : List Oper} {o : Oper} {a : Act} {w : World} {Q : Exit → Act → World → Prop} {xs : Array Operand} {ts : Array TypeId} (_ : o.op = .call { callee := .builtin .clear, args := xs, argTypes := ts }) (h : wpList P ops Q (o :: rest) a w) : wpList P ops Q (o :: rest) a w := h
theorem wpList_clear_row {P : Program} (w : World) {ops : Array Oper} {rest : List Oper} {o : Oper} {a : Act} {Q : Exit → Act → World → Prop} (hgd : o.guard = none) (hdst : o.dst = none) (x : Operand) (t : TypeId)
    (ho : o.op = .call { callee := .builtin .clear, args := #[x], argTypes := #[t] }) (v : Value) (hx : a.eval x = v) (g : Nat) (te : TypeId) (cur new : Array Value) (hg : Blk w g te cur)
    (hr : (Builtin.clear_ #[t] o.type #[v]).run P w = .ok (.tuple #[]) (w.setRow g new)) (h : ∀ w', Turned w w' g → Blk w' g te new → wpList P ops Q rest a w') : wpList P ops Q (o :: rest) a w := by
  refine wpList_plain hgd fun K hK => ?_
  unfold Oper.wp execOp
  simp only [ho, resolve, invoke, builtin, Sem.run_bind, Sem.run_pure, Result.andThen_ok, List.map_toArray, List.map_cons, List.map_nil, hx, hr]
  have := hK a (w.setRow g new) (h _ (turned_row hg).1 (turned_row hg).2)
  simpa [hdst, Act.put, Oper.upon] using this

theorem zero_kid : (Builtin.zeroCells (Value.agg #[.string ByteArray.empty, .int .i64 0]).cells 1).toList = [.string ByteArray.empty, .int .i64 0] := by kernel_rfl
set_option maxRecDepth 100000 in
set_option maxHeartbeats 1000000 in
theorem delete_kid (base g c i : Nat) (l : List Kid) (w : World) (cur : Array Value) (hblk : Blk w g 61 cur) (hg : base ≤ g) (hcm : c ≤ maxLen) (hcs : cur.size = c * 2) (ht : cur.toList.take (l.length * 2) = l.flatMap Kid.cells)
    (hi : i < l.length) (hlc : l.length ≤ c) (hlen : l.length ≤ 1000) :
    Calls Tryz.prog 142 #[.slice (some ⟨g, 0, none⟩) l.length c, .int .i64 (i : Nat), .int .i64 ((i : Int) + 1)] w (PostIKid w base (.slice (some ⟨g, 0, none⟩) l.length c) (l.take i ++ l.drop (i + 1))) := by
  obtain ⟨n, hn⟩ : ∃ n, n = l.length := ⟨_, rfl⟩
  rw [← hn] at hi hlc hlen ht
  rw [← hn]
  obtain ⟨i0, hi0, hz0, hz1, hz2⟩ := info_parts info_kid
  have hDl : ((l.take (i + 1)).flatMap Kid.cells).length = (i + 1) * 2 := by rw [Kid.cells_length, List.length_take, Nat.min_eq_left (by omega)]
  have hTl : ((l.take i).flatMap Kid.cells).length = i * 2 := by rw [Kid.cells_length, List.length_take, Nat.min_eq_left (by omega)]
  have hCl : ((l.drop (i + 1)).flatMap Kid.cells).length = (n - (i + 1)) * 2 := by rw [Kid.cells_length, List.length_drop, ← hn]
  have hTC : l.flatMap Kid.cells = (l.take (i + 1)).flatMap Kid.cells ++ (l.drop (i + 1)).flatMap Kid.cells := by rw [← List.flatMap_append, List.take_append_drop]
  have hT0 : cur.toList.take (i * 2) = (l.take i).flatMap Kid.cells := by
    have := congrArg (List.take (i * 2)) ht
    rw [List.take_take, Nat.min_eq_left (by omega), Kid.flat_take l (by omega)] at this
    exact this
  have HRES : Hid ((l.take i ++ l.drop (i + 1)).flatMap Kid.cells = (l.take i).flatMap Kid.cells ++ (l.drop (i + 1)).flatMap Kid.cells ∧ (l.take i ++ l.drop (i + 1)).length = n - 1) := Lib.hid ⟨by simp, by rw [List.length_append, List.length_take, List.length_drop, ← hn]; omega⟩
  have HC1 : Hid (∀ v ∈ (l.drop (i + 1)).flatMap Kid.cells, v.oneCell' = true) := Lib.hid (Kid.ones _)
  obtain ⟨D, hD⟩ : ∃ T, T = (l.take (i + 1)).flatMap Kid.cells := ⟨_, rfl⟩
  obtain ⟨T, hT⟩ : ∃ T, T = (l.take i).flatMap Kid.cells := ⟨_, rfl⟩
  obtain ⟨C, hC⟩ : ∃ C, C = (l.drop (i + 1)).flatMap Kid.cells := ⟨_, rfl⟩
  rw [← hD] at hDl hTC
  rw [← hT] at hTl HRES hT0
  rw [← hC] at hCl HC1 HRES hTC
  have hc : cur.toList.take (D.length + C.length) = D ++ C := by
    rw [hDl, hCl, ← hTC, ← ht]
    congr 1
    omega
  have hsrc := src_mid hblk.drew hc hDl.symm
  obtain ⟨m, rfl⟩ : ∃ m, n = m + 1 := ⟨n - 1, by omega⟩
  rw [show m + 1 - (i + 1) = m - i by omega] at hCl
  have hfit : i * 2 + C.length ≤ cur.size := by rw [hCl, hcs]; omega
  have hap : ∀ (ty : TypeId) (ad : Addr) (c2 : Nat), (∀ j u, C[j]? = some u → w.drew.cell? (ad.add j) = some u) → (Builtin.append_ #[25, 25] ty #[.slice (some ⟨g, 0, none⟩) i c, .slice (some ad) (m - i) c2]).run Tryz.prog w.drew = .ok (.slice (some ⟨g, 0, none⟩) m c) (w.drew.setRow g (rowPut cur (i * 2) C)) := fun ty ad c2 hs => by
    have h := run_append_rowk w.drew 25 25 ty 61 i0 2 Tryz.underlying25 Tryz.underlying25 hi0 hz1 g i c cur 61 hblk.drew ad (m - i) c2 C hCl hs HC1.out (by omega) hfit
    rwa [show i + (m - i) = m by omega] at h
  have HCL2 : Hid (∀ W ty c2 cur', Blk W g 61 cur' → cur'.size = c * 2 → (Builtin.clear_ #[25] ty #[.slice (some ⟨g, m * 2, none⟩) 1 c2]).run Tryz.prog W = .ok (.tuple #[]) (W.setRow g (rowPut cur' (m * 2) [.string ByteArray.empty, .int .i64 0]))) := Lib.hid fun W ty c2 cur' hW hsz => by
    have h := run_clear_rowk W 25 ty 61 i0 _ 2 Tryz.underlying25 hi0 hz0 rfl g (m * 2) 1 c2 cur' 61 hW (by omega) (by omega) (by intro u hu; rw [zero_kid] at hu; simp at hu; rcases hu with rfl | rfl <;> rfl)
    rw [zero_kid] at h
    exact h
  have HSZ : Hid ((rowPut cur (i * 2) C).size = c * 2) := Lib.hid (by rw [rowPut_size hfit, hcs])
  have HEND : Hid ((rowPut (rowPut cur (i * 2) C) (m * 2) [.string ByteArray.empty, .int .i64 0]).size = c * 2 ∧ (rowPut (rowPut cur (i * 2) C) (m * 2) [.string ByteArray.empty, .int .i64 0]).toList.take (m * 2) = T ++ C) := Lib.hid ⟨by rw [rowPut_size (by rw [HSZ.out]; simp; omega), HSZ.out], by
    have h3 : (rowPut cur (i * 2) C).toList.take (m * 2) = T ++ C := by
      rw [rowPut_list, hT0]
      have : (T ++ C).length = m * 2 := by rw [List.length_append, hTl, hCl]; omega
      rw [← this, List.take_left]
    rw [rowPut_list, List.append_assoc, List.take_append_of_le_length (by rw [List.length_take]; have := HSZ.out; simp only [Array.length_toList]; omega), List.take_take, Nat.min_self, h3]⟩
  have HBLK := Lib.hid hblk
  have HCM := Lib.hid hcm
  have HCS := Lib.hid hcs
  have HSRC := Lib.hid hsrc
  have HCLn := Lib.hid hCl
  have HAP := Lib.hid hap
  have HLC := Lib.hid hlc
  unfold maxLen at hcm
  have him : i ≤ m := by omega
  have hb1 : (0 : Int) ≤ (i : Int) + 1 := by omega
  have htn : ((i : Int) + 1).toNat = i + 1 := by omega
  have hb3 : (i : Int) ≤ (i : Int) + 1 := by omega
  have hb4 : (i : Int) + 1 ≤ (m : Int) + 1 := by omega
  have hb5 : (m : Int) + 1 ≤ (c : Int) := by omega
  have hb6 : ((i : Int) == (i : Int) + 1) = false := by simp only [beq_eq_false_iff_ne, ne_eq]; omega
  have hb7 : (i : Int) ≤ (c : Int) := by omega
  have hb8 : (m : Int) ≤ (m : Int) + 1 := by omega
  have hcm' : ¬ (c = m) := by omega
  have mixed : Tryz.prog.follows Departure.mixedOrders = true := by kernel_rfl
  clear hblk hi0 hz0 hz1 hz2 hTl hDl hCl hc ht hTC hT0 hcs hn hT hC hD hsrc hap hfit hlc
  have HFIN : Hid (∀ w1 w2, Turned w.drew w1 g → Turned w1 w2 g → Blk w2 g 61 (rowPut (rowPut cur (i * 2) C) (m * 2) [.string ByteArray.empty, .int .i64 0]) → PostIKid w base (.slice (some ⟨g, 0, none⟩) (m + 1) c) (l.take i ++ l.drop (i + 1)) (.returned (.slice (some ⟨g, 0, none⟩) m c)) w2) := Lib.hid fun w1 w2 hT1 hT2 hB => by
    refine ⟨_, rfl, ⟨by rw [Kid.cells_length], .inr ⟨g, c, _, by rw [HRES.out.2]; rfl, hg, hB, by rw [HRES.out.2]; have := HLC.out; omega, HCM.out, HEND.out.1, ?_⟩⟩, ?_⟩
    · rw [HRES.out.2, HRES.out.1]; exact HEND.out.2
    · show w.grownBy w2 (some g)
      exact (⟨rfl, rfl, rfl, Nat.le_refl _, fun _ _ _ => rfl⟩ : w.grownBy w.drew (some g)).trans (hT1.gr.trans hT2.gr)
  by_cases hci : c = i + 1
  · obtain rfl : m = i := by have := HLC.out; omega
    subst hci
    have hC0 : C = [] := List.eq_nil_of_length_eq_zero (by rw [HCLn.out]; omega)
    have HSRC0 : Hid (∀ (ad : Addr) (j : Nat) (u : Value), C[j]? = some u → w.drew.cell? (ad.add j) = some u) := Lib.hid (by rw [hC0]; intro ad j u h; simp at h)
    have HAP0 : Hid (∀ (ty : TypeId) (ad : Addr) (c2 : Nat), (Builtin.append_ #[25, 25] ty #[.slice (some ⟨g, 0, none⟩) m (m + 1), .slice (some ad) 0 c2]).run Tryz.prog w.drew = .ok (.slice (some ⟨g, 0, none⟩) m (m + 1)) (w.drew.setRow g (rowPut cur (m * 2) C))) := Lib.hid fun ty ad c2 => by
      have h := HAP.out ty ad c2 (HSRC0.out ad)
      rwa [Nat.sub_self] at h
    clear hC0
    go_enter Tryz.func142, Tryz.ntmps142
    go_upto_region 5 with (fail)
    go_region_law_o (refine step_append_rowk rfl _ _ 25 25 61 rfl (.slice (some ⟨g, 0, none⟩) m (m + 1)) (.slice (some ⟨g, 0, none⟩) 0 0) (by simp [Act.eval, Act.put]) (by simp [Act.eval, Act.put]) _ g 61 cur _ HBLK.out.drew (HAP0.out _ _ _) ?_; intro w1 hT1 hB1)
    have HT1 := Lib.hid hT1
    have HB1 := Lib.hid hB1
    clear hT1 hB1
    go_wp2_with (refine at_clear_gate rfl ?_; (refine wpList_clear_row _ rfl rfl _ 25 rfl _ rfl g 61 _ _ HB1.out (HCL2.out _ _ _ _ HB1.out HSZ.out) ?_); intro w2 hT2 hB2)
    go_ret
    exact HFIN.out w1 w2 HT1.out hT2 hB2
  · have hci2 : ¬ (c = i + 1) := hci
    go_enter Tryz.func142, Tryz.ntmps142
    go_upto_region 5 with (fail)
    go_region_law_o (refine step_append_rowk rfl _ _ 25 25 61 rfl (.slice (some ⟨g, 0, none⟩) i c) (.slice (some ⟨g, (i + 1) * 2, none⟩) (m - i) (c - (i + 1))) (by simp [Act.eval, Act.put]) (by simp [Act.eval, Act.put]) _ g 61 cur _ HBLK.out.drew (HAP.out _ _ _ HSRC.out) ?_; intro w1 hT1 hB1)
    have HT1 := Lib.hid hT1
    have HB1 := Lib.hid hB1
    clear hT1 hB1
    go_wp2_with (refine at_clear_gate rfl ?_; (refine wpList_clear_row _ rfl rfl _ 25 rfl _ rfl g 61 _ _ HB1.out (HCL2.out _ _ _ _ HB1.out HSZ.out) ?_); intro w2 hT2 hB2)
    go_ret
    exact HFIN.out w1 w2 HT1.out hT2 hB2
end Go.Proofs.YtjbdmaehomhdeaaGreat
