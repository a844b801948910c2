/- A whole variable stored into its block at one step; read at one step. -/
import Derived.Test.YtjbdmaehomhdeaaGreatZA
import Derived.Laws.CopyRow
import Derived.Laws.CopyOwn
import Derived.Laws.Rows
set_option linter.unusedSimpArgs false
set_option linter.unusedVariables false
namespace Go.Proofs.YtjbdmaehomhdeaaGreat
open Go.RowKit

/-- world w' is w with the block g's cells turned alone -/
structure Turned (w w' : World) (g : Nat) : Prop where
  gr : w.grownBy w' (some g)
  sz : w'.heap.size = w.heap.size
theorem Turned.other {w w' : World} {g k : Nat} (h : Turned w w' g) (hk : k ≠ g) : w'.heap[k]? = w.heap[k]? := by
  rcases Nat.lt_or_ge k w.heap.size with h1 | h1
  · exact h.gr.block k h1 (by simp; exact hk)
  · rw [Array.getElem?_eq_none h1, Array.getElem?_eq_none (by rw [h.sz]; exact h1)]
theorem Turned.below {w w' : World} {g B : Nat} {w0 : World} (h : Turned w w' g) (hb : Below B w0 w) (hB : B ≤ g) (hw : B ≤ w.heap.size) : Below B w0 w' := hb.grown h.gr hw (fun k hk => by cases hk; exact hB)
theorem Turned.blk {w w' : World} {g k : Nat} {t : TypeId} {cs : Array Value} (h : Turned w w' g) (hb : Blk w k t cs) (hk : k ≠ g) : Blk w' k t cs := (h.other hk).trans hb
theorem Turned.cell {w w' : World} {g : Nat} {p : Addr} (h : Turned w w' g) (hp : p.block ≠ g) : w'.cell? p = w.cell? p := World.cell?_of_block (h.other hp)

theorem run_storeVar_row {P : Program} (w : World) (g : Nat) (ty t : TypeId) (cs cur : Array Value) (hg : Blk w g t cur) (hs : cs.size = cur.size) (hi : (P.info? ty).map (·.size) = some cs.size) (h1 : ∀ v ∈ cs.toList, v.oneCell' = true) :
    (storeVar ty ⟨g, 0, none⟩ (.agg cs)).run P w = .ok () (w.setRow g cs) := by
  have h := run_storeCells_at P g 0 t cs.toList 0 cur w hg (by simp [hs]) h1
  have e : (cur.toList.take (0 + 0) ++ cs.toList ++ cur.toList.drop (0 + 0 + cs.toList.length)).toArray = cs := by
    have e2 : cur.toList.drop (0 + 0 + cs.toList.length) = [] := List.drop_eq_nil_of_le (by simp [hs])
    rw [e2]; simp
  rw [e] at h
  cases hq : P.info? ty with
  | none => simp [hq] at hi
  | some i =>
    have hz : i.size = cs.size := by simpa [hq] using hi
    simp [storeVar, Sem.run_bind, sizeOf, typeInfo, hq, hz, Value.cells, h]

theorem wpList_store_row {P : Program} {ops : Array Oper} {rest : List Oper} {o : Oper} {a : Act} {w : World} {Q : Exit → Act → World → Prop} (hgd : o.guard = none) (ty : TypeId) (p x : Operand) (ho : o.op = .store ty p x) (hd : o.dst = none)
    (g : Nat) (hp : a.eval p = .pointer (some ⟨g, 0, none⟩)) (t : TypeId) (cs cur : Array Value) (hx : a.eval x = .agg cs) (hg : Blk w g t cur) (hs : cs.size = cur.size) (hi : (P.info? ty).map (·.size) = some cs.size) (h1 : ∀ v ∈ cs.toList, v.oneCell' = true)
    (h : ∀ w', Turned w w' g → Blk w' g t cs → wpList P ops Q rest a w') : wpList P ops Q (o :: rest) a w := by
  refine wpList_plain hgd fun K hK => ?_
  have hT : Turned w (w.setRow g cs) g := ⟨⟨rfl, rfl, rfl, by simp, fun k _ hk => setRow_other w g k cs (fun e => hk (by rw [e]))⟩, by simp⟩
  have hB : Blk (w.setRow g cs) g t cs := setRow_heap w g cur cs t _ hg
  unfold Oper.wp execOp
  simp only [ho, hp, hx, Instr.storeAt, Instr.sureAddr, Sem.run_bind, Sem.run_pure, Result.andThen_ok, run_storeVar_row w g ty t cs cur hg hs hi h1]
  have := hK a (w.setRow g cs) (h _ hT hB)
  simpa [hd, Act.put, Oper.upon] using this

/-- results: a variable's cells, then a slot -/
theorem results_row2 {P : Program} {fn : Func} {p q : Tmp} {ty : TypeId} (h : fn.results = #[.cell p ty, .tmp q]) (tmps : Array Value) (w : World) (g : Nat) (t : TypeId) (cs : Array Value) (fr : Nat × Nat) (d : TypeDesc)
    (hp : tmps.getD p undef = .pointer (some ⟨g, 0, none⟩)) (hg : w.heap[g]? = some (.cells cs t fr))
    (hu : P.underlying ty = some d) (hd : (match d with | .struct _ | .array _ _ => true | _ => false) = true) (hi : (P.info? ty).map (·.size) = some cs.size) {v : Value} (hq : tmps.getD q undef = v) :
    (results fn tmps).run P w = .ok (.tuple #[.agg cs, v]) w := by
  have hp' : tmps[p]?.getD undef = .pointer (some ⟨g, 0, none⟩) := by simpa using hp
  have hq' : tmps[q]?.getD undef = v := by simpa using hq
  simp [results, h, hp', hq', asAddr, run_loadVar_row w g t ty cs fr d hg hu hd hi]
/-- results: two variables' cells, then a slot -/
theorem results_row3 {P : Program} {fn : Func} {p p2 q : Tmp} {ty ty2 : TypeId} (h : fn.results = #[.cell p ty, .cell p2 ty2, .tmp q]) (tmps : Array Value) (w : World) (g g2 : Nat) (t t2 : TypeId) (cs cs2 : Array Value) (fr fr2 : Nat × Nat) (d d2 : TypeDesc)
    (hp : tmps.getD p undef = .pointer (some ⟨g, 0, none⟩)) (hg : w.heap[g]? = some (.cells cs t fr))
    (hu : P.underlying ty = some d) (hd : (match d with | .struct _ | .array _ _ => true | _ => false) = true) (hi : (P.info? ty).map (·.size) = some cs.size)
    (hp2 : tmps.getD p2 undef = .pointer (some ⟨g2, 0, none⟩)) (hg2 : w.heap[g2]? = some (.cells cs2 t2 fr2))
    (hu2 : P.underlying ty2 = some d2) (hd2 : (match d2 with | .struct _ | .array _ _ => true | _ => false) = true) (hi2 : (P.info? ty2).map (·.size) = some cs2.size) {v : Value} (hq : tmps.getD q undef = v) :
    (results fn tmps).run P w = .ok (.tuple #[.agg cs, .agg cs2, v]) w := by
  have hp' : tmps[p]?.getD undef = .pointer (some ⟨g, 0, none⟩) := by simpa using hp
  have hp2' : tmps[p2]?.getD undef = .pointer (some ⟨g2, 0, none⟩) := by simpa using hp2
  have hq' : tmps[q]?.getD undef = v := by simpa using hq
  simp [results, h, hp', hp2', hq', asAddr, run_loadVar_row w g t ty cs fr d hg hu hd hi, run_loadVar_row w g2 t2 ty2 cs2 fr2 d2 hg2 hu2 hd2 hi2]
end Go.Proofs.YtjbdmaehomhdeaaGreat
