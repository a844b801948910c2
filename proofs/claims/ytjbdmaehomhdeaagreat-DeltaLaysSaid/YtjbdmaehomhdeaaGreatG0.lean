/- copy of elements of several cells, into a block known whole; Insert's row. -/
import Derived.Test.YtjbdmaehomhdeaaGreatRowS
import Derived.Test.YtjbdmaehomhdeaaGreatZD
import Derived.Shelf.Spec.SlicesInsert
import Derived.Lib.AppendZerosOnto
import Derived.Laws.NewBlocks
set_option linter.unusedSimpArgs false
set_option linter.unusedVariables false
namespace Go.Proofs.YtjbdmaehomhdeaaGreat
open Go.RowKit

/-- stands the walk before a call of the builtin copy? -/
theorem at_copy_gate {P : Program} {ops : Array Oper} {rest : List Oper} {o : Oper} {a : Act} {w : World} {Q : Exit → Act → World → Prop} {xs : Array Operand} {ts : Array TypeId} (_ : o.op = .call { callee := .builtin .copy, args := xs, argTypes := ts }) (h : wpList P ops Q (o :: rest) a w) : wpList P ops Q (o :: rest) a w := h

def rowPut (cur : Array Value) (o : Nat) (cs : List Value) : Array Value := (cur.toList.take o ++ cs ++ cur.toList.drop (o + cs.length)).toArray
theorem rowPut_size {cur : Array Value} {o : Nat} {cs : List Value} (h : o + cs.length ≤ cur.size) : (rowPut cur o cs).size = cur.size := by
  have : cur.toList.length = cur.size := by simp
  simp only [rowPut, List.size_toArray, List.length_append, List.length_take, List.length_drop]
  omega
theorem rowPut_list (cur : Array Value) (o : Nat) (cs : List Value) : (rowPut cur o cs).toList = cur.toList.take o ++ cs ++ cur.toList.drop (o + cs.length) := by simp [rowPut]

theorem run_copy_rowk {P : Program} (w : World) (dT sT ty elem : TypeId) (k g o dLen dCap : Nat) (a : Addr) (sLen sCap : Nat) (cur : Array Value) (t : TypeId) (cs : List Value)
    (hu : P.underlying dT = some (.slice elem)) (hs : (P.info? elem).map (·.size) = some k)
    (hg : Blk w g t cur) (hn : cs.length = Nat.min sLen dLen * k)
    (hsrc : ∀ j v, cs[j]? = some v → w.cell? (a.add j) = some v) (hfit : o + cs.length ≤ cur.size) (h1 : ∀ v ∈ cs, v.oneCell' = true) :
    (Builtin.copy_ #[dT, sT] ty #[.slice (some ⟨g, o, none⟩) dLen dCap, .slice (some a) sLen sCap]).run P w =
      .ok (goInt (Nat.min sLen dLen)) (w.setRow g (rowPut cur o cs)) := by
  have hl := run_loadCells_list (P := P) w a cs hsrc
  have hst := run_storeCells_at P g o t cs 0 cur w hg (by simpa using hfit) h1
  cases hq : P.info? elem with
  | none => simp [hq] at hs
  | some i =>
    have hi : i.size = k := by simpa [hq] using hs
    simp [Builtin.copy_, run_underlying hu, Builtin.lenOf, Builtin.firstCells, sizeOf, typeInfo, hq, hi, ← hn, hl, hst, rowPut]

theorem turned_row {w : World} {g : Nat} {t : TypeId} {cur cs : Array Value} (hg : Blk w g t cur) : Turned w (w.setRow g cs) g ∧ Blk (w.setRow g cs) g t cs :=
  ⟨⟨⟨rfl, rfl, rfl, by simp, fun k _ hk => setRow_other w g k cs (fun e => hk (by rw [e]))⟩, by simp⟩, setRow_heap w g cur cs t _ hg⟩

theorem wpList_copy_rowk {P : Program} (w : World) {ops : Array Oper} {rest : List Oper} {o : Oper} {a : Act} {Q : Exit → Act → World → Prop} (hgd : o.guard = none) (d s : Operand) (dT sT elem : TypeId)
    (ho : o.op = .call { callee := .builtin .copy, args := #[d, s], argTypes := #[dT, sT] }) (k g of dLen dCap : Nat) (ad : Addr) (sLen sCap : Nat)
    (hd : a.eval d = .slice (some ⟨g, of, none⟩) dLen dCap) (hx : a.eval s = .slice (some ad) sLen sCap) (cur : Array Value) (t : TypeId) (cs : List Value)
    (hu : P.underlying dT = some (.slice elem)) (hs : (P.info? elem).map (·.size) = some k)
    (hg : Blk w g t cur) (hn : cs.length = Nat.min sLen dLen * k)
    (hsrc : ∀ j v, cs[j]? = some v → w.cell? (ad.add j) = some v) (hfit : of + cs.length ≤ cur.size) (h1 : ∀ v ∈ cs, v.oneCell' = true)
    (h : ∀ w', Turned w w' g → Blk w' g t (rowPut cur of cs) → wpList P ops Q rest (a.put o.dst (goInt (Nat.min sLen dLen))) w') : wpList P ops Q (o :: rest) a w :=
  wpList_copy_runI w hgd d s dT sT ho _ _ hd hx (run_copy_rowk w dT sT o.type elem k g of dLen dCap ad sLen sCap cur t cs hu hs hg hn hsrc hfit h1) (h _ (turned_row hg).1 (turned_row hg).2)

theorem step_copy_rowk {P : Program} {ops : Array Oper} {o : Oper} {a : Act} {w : World} {K : Act → World → Prop} {Q : Exit → Act → World → Prop} {E : Prop}
    (hgd : o.guard = none) (d s : Operand) (dT sT elem : TypeId)
    (ho : o.op = .call { callee := .builtin .copy, args := #[d, s], argTypes := #[dT, sT] }) (k g of dLen dCap : Nat) (ad : Addr) (sLen sCap : Nat)
    (hd : a.eval d = .slice (some ⟨g, of, none⟩) dLen dCap) (hx : a.eval s = .slice (some ad) sLen sCap) (cur : Array Value) (t : TypeId) (cs : List Value)
    (hu : P.underlying dT = some (.slice elem)) (hs : (P.info? elem).map (·.size) = some k)
    (hg : Blk w g t cur) (hn : cs.length = Nat.min sLen dLen * k)
    (hsrc : ∀ j v, cs[j]? = some v → w.cell? (ad.add j) = some v) (hfit : of + cs.length ≤ cur.size) (h1 : ∀ v ∈ cs, v.oneCell' = true)
    (h : ∀ w', Turned w w' g → Blk w' g t (rowPut cur of cs) → K (a.put o.dst (goInt (Nat.min sLen dLen))) w') :
    if Region.wanted o (yielded ops a.tmps) = true then Oper.wp P o a w K Q else E :=
  step_copy_runI hgd d s dT sT ho _ _ hd hx (run_copy_rowk w dT sT o.type elem k g of dLen dCap ad sLen sCap cur t cs hu hs hg hn hsrc hfit h1) (h _ (turned_row hg).1 (turned_row hg).2)

/-- what a shift and a write leave -/
theorem rows_shift (cur T C X : List Value) (hc : cur.take (T.length + C.length) = T ++ C) (hs : T.length + X.length + C.length ≤ cur.length) :
    let r1 := cur.take (T.length + X.length) ++ C ++ cur.drop (T.length + X.length + C.length)
    (r1.take T.length ++ X ++ r1.drop (T.length + X.length)).take (T.length + X.length + C.length) = T ++ X ++ C := by
  intro r1
  have h1 : cur.take T.length = T := by
    have := congrArg (List.take T.length) hc
    rwa [List.take_take, Nat.min_eq_left (by omega), List.take_left] at this
  have h2 : (cur.take (T.length + X.length)).length = T.length + X.length := by rw [List.length_take]; omega
  have h3 : r1.take T.length = T := by
    show (cur.take (T.length + X.length) ++ C ++ _).take T.length = T
    rw [List.append_assoc, List.take_append_of_le_length (by omega), List.take_take, Nat.min_eq_left (by omega), h1]
  have h4 : r1.drop (T.length + X.length) = C ++ cur.drop (T.length + X.length + C.length) := by
    show (cur.take (T.length + X.length) ++ C ++ _).drop _ = _
    rw [List.append_assoc]
    exact List.drop_left' h2
  rw [h3, h4, ← List.append_assoc]
  have h5 : (T ++ X ++ C).length = T.length + X.length + C.length := by simp [Nat.add_assoc]
  rw [← h5, List.take_left]
theorem rows_new (Z T C X : List Value) :
    let r0 := T ++ Z
    let r1 := r0.take T.length ++ X ++ r0.drop (T.length + X.length)
    (r1.take (T.length + X.length) ++ C ++ r1.drop (T.length + X.length + C.length)).take (T.length + X.length + C.length) = T ++ X ++ C := by
  intro r0 r1
  have h1 : r0.take T.length = T := List.take_left
  have h2 : r1.take (T.length + X.length) = T ++ X := by
    show (r0.take T.length ++ X ++ _).take _ = _
    rw [h1]
    have : (T ++ X).length = T.length + X.length := by simp
    rw [← this, List.take_left]
  rw [h2]
  have h5 : (T ++ X ++ C).length = T.length + X.length + C.length := by simp [Nat.add_assoc]
  rw [← h5, List.take_left]

theorem src_mid {w : World} {g : Nat} {t : TypeId} {cur : Array Value} (hb : Blk w g t cur) {T C : List Value} (hc : cur.toList.take (T.length + C.length) = T ++ C) {m : Nat} (hm : m = T.length) :
    ∀ j v, C[j]? = some v → w.cell? ((⟨g, m, none⟩ : Addr).add j) = some v := by
  intro j v hj
  have hl : j < C.length := (List.getElem?_eq_some_iff.1 hj).1
  have h1 : (cur.toList.take (T.length + C.length))[T.length + j]? = some v := by
    rw [hc, List.getElem?_append_right (by omega), Nat.add_sub_cancel_left]; exact hj
  rw [List.getElem?_take, if_pos (by omega)] at h1
  have e : (⟨g, m, none⟩ : Addr).add j = ⟨g, m + j, none⟩ := by unfold Addr.add; split <;> simp_all
  rw [e, hb.cell, hm]
  simpa using h1
theorem Item.flat_take (l : List Item) {i : Nat} (hi : i ≤ l.length) : (l.flatMap Item.cells).take (i * 4) = (l.take i).flatMap Item.cells := by
  conv => lhs; rw [← List.take_append_drop i l, List.flatMap_append]
  have : ((l.take i).flatMap Item.cells).length = i * 4 := by rw [Item.cells_length, List.length_take, Nat.min_eq_left hi]
  rw [← this, List.take_left]
theorem Kid.flat_take (l : List Kid) {i : Nat} (hi : i ≤ l.length) : (l.flatMap Kid.cells).take (i * 2) = (l.take i).flatMap Kid.cells := by
  conv => lhs; rw [← List.take_append_drop i l, List.flatMap_append]
  have : ((l.take i).flatMap Kid.cells).length = i * 2 := by rw [Kid.cells_length, List.length_take, Nat.min_eq_left hi]
  rw [← this, List.take_left]
end Go.Proofs.YtjbdmaehomhdeaaGreat
