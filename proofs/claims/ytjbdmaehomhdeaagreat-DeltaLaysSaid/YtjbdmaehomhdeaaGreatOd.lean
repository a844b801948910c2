/- Arguments that are changes (structs within a struct): opened. -/
import Derived.Test.YtjbdmaehomhdeaaGreatL5
import Derived.Test.YtjbdmaehomhdeaaGreatF1
set_option linter.unusedSimpArgs false
set_option linter.unusedVariables false
namespace Go.Proofs.YtjbdmaehomhdeaaGreat
open Go.ChangeShapes Go.WideShapes Go.ChangeAt Go.RowKit Go.Deep Go.Joins

theorem cellsDelta : Tryz.prog.cellsOf 29 = 14 := by kernel_rfl
theorem cellsInt1 : Tryz.prog.cellsOf 3 = 1 := by kernel_rfl
theorem cellsStr1 : Tryz.prog.cellsOf 9 = 1 := by kernel_rfl
theorem cellsBool1 : Tryz.prog.cellsOf 4 = 1 := by kernel_rfl
theorem cellsItems1 : Tryz.prog.cellsOf 24 = 1 := by kernel_rfl
theorem cellsKids1 : Tryz.prog.cellsOf 25 = 1 := by kernel_rfl
section
variable {H : Type} {enc : TypeId × Value → H} {w : World} {base : Nat} {spare : Nat → Bool} {held : Bool}
theorem trod_fields {P : Program} {t : TypeId} {fs : Array Field} (hu : P.underlying t = some (.struct fs)) {fuel : Nat} {cs : List Value} {x : DataW H × List MemPlace} (h : DataW.trod enc P w base spare held fuel t cs = some x) :
    ∃ (ys : List (DataW H × List MemPlace)) (n : Nat), x.1 = .agg (ys.map (·.1)) ∧ ∀ (j : Nat) (ty : TypeId) (o k : Nat), (fs[j]?).map (fun f => (f.type, f.offset)) = some (ty, o) → P.cellsOf ty = k → ∃ y, ys[j]? = some y ∧ DataW.trod enc P w base spare held n ty ((cs.drop o).take k) = some y := by
  obtain ⟨ys, n, _, hx, _, hlen, hg⟩ := DataW.trod_struct hu h
  refine ⟨ys, n, by rw [hx], fun j ty o k hm hk => ?_⟩
  obtain ⟨f, hj, hf⟩ := Option.map_eq_some_iff.1 hm
  simp only [Prod.mk.injEq] at hf
  obtain ⟨rfl, rfl⟩ := hf
  subst hk
  have hjl : j < fs.size := (Array.getElem?_eq_some_iff.1 hj).1
  have h1 := hg j f hj
  rw [List.getElem?_eq_getElem (by omega)] at h1
  exact ⟨_, List.getElem?_eq_getElem (by omega), h1⟩
theorem open_item_cells {fuel : Nat} {c0 c1 c2 c3 : Value} {x : DataW H × List MemPlace} (h : DataW.trod enc Tryz.prog w base spare held fuel 23 [c0, c1, c2, c3] = some x) :
    ∃ i : Item, c0 = .string i.key ∧ c1 = .string i.value ∧ c2 = .int .i64 i.no ∧ c3 = .bool i.gone := by
  obtain ⟨ys, n, _, hf⟩ := trod_fields Tryz.underlying23 h
  obtain ⟨y0, _, t0⟩ := hf 0 9 0 1 rfl cellsStr1
  obtain ⟨y1, _, t1⟩ := hf 1 9 1 1 rfl cellsStr1
  obtain ⟨y2, _, t2⟩ := hf 2 3 2 1 rfl cellsInt1
  obtain ⟨y3, _, t3⟩ := hf 3 4 3 1 rfl cellsBool1
  obtain ⟨m0, r0, _⟩ := DataW.trod_string Tryz.underlying9 t0
  obtain ⟨m1, r1, _⟩ := DataW.trod_string Tryz.underlying9 t1
  obtain ⟨m2, r2, _⟩ := DataW.trod_int (k := .i64) (by kernel_rfl) t2
  obtain ⟨m3, r3, _⟩ := DataW.trod_bool (by kernel_rfl) t3
  simp only [List.drop_succ_cons, List.drop_zero, List.take_succ_cons, List.take_zero, List.cons.injEq, and_true] at r0 r1 r2 r3
  exact ⟨⟨m0, m1, m2, m3⟩, r0, r1, r2, r3⟩
set_option maxRecDepth 100000 in
theorem open_page_cells {fuel : Nat} {c0 c1 c2 c3 c4 c5 c6 : Value} {x : DataW H × List MemPlace} (h : DataW.trod enc Tryz.prog w base spare held fuel 27 [c0, c1, c2, c3, c4, c5, c6] = some x) :
    ∃ (pg : Page) (A A' : Option Addr) (c c' : Nat) (parts : List (DataW H)) (x5 x6 : DataW H), [c0, c1, c2, c3, c4, c5, c6] = [.int .i64 pg.level, .string pg.low, .string pg.high, .bool pg.last, .int .i64 pg.side, .slice A pg.items.length c, .slice A' pg.kids.length c'] ∧ x.1 = .agg parts ∧ parts[5]? = some x5 ∧ parts[6]? = some x6 ∧ Rd Item.cells 4 w 0 w.heap.size A pg.items ∧ Rd Kid.cells 2 w 0 w.heap.size A' pg.kids ∧ pg.items.length ≤ c ∧ pg.kids.length ≤ c' ∧
      (pg.items.length = 0 ∨ ∃ es sp, x5 = .slice es sp ∧ es.length = pg.items.length) ∧ (pg.kids.length = 0 ∨ ∃ es sp, x6 = .slice es sp ∧ es.length = pg.kids.length) := by
  obtain ⟨ys, n, hx, hf⟩ := trod_fields Tryz.underlying27 h
  obtain ⟨y0, _, t0⟩ := hf 0 3 0 1 rfl cellsInt1
  obtain ⟨y1, _, t1⟩ := hf 1 9 1 1 rfl cellsStr1
  obtain ⟨y2, _, t2⟩ := hf 2 9 2 1 rfl cellsStr1
  obtain ⟨y3, _, t3⟩ := hf 3 4 3 1 rfl cellsBool1
  obtain ⟨y4, _, t4⟩ := hf 4 3 4 1 rfl cellsInt1
  obtain ⟨y5, z5, t5⟩ := hf 5 24 5 1 rfl cellsItems1
  obtain ⟨y6, z6, t6⟩ := hf 6 25 6 1 rfl cellsKids1
  obtain ⟨m0, r0, _⟩ := DataW.trod_int (k := .i64) (by kernel_rfl) t0
  obtain ⟨m1, r1, _⟩ := DataW.trod_string Tryz.underlying9 t1
  obtain ⟨m2, r2, _⟩ := DataW.trod_string Tryz.underlying9 t2
  obtain ⟨m3, r3, _⟩ := DataW.trod_bool (by kernel_rfl) t3
  obtain ⟨m4, r4, _⟩ := DataW.trod_int (k := .i64) (by kernel_rfl) t4
  obtain ⟨A, len, cap, l, r5, hc5, hl5, hR5, hs5⟩ := open_items t5
  obtain ⟨A', len', cap', l', r6, hc6, hl6, hR6, hs6⟩ := open_kids t6
  simp only [List.drop_succ_cons, List.drop_zero, List.take_succ_cons, List.take_zero, List.cons.injEq, and_true] at r0 r1 r2 r3 r4 r5 r6
  subst r0 r1 r2 r3 r4 r5 r6 hl5 hl6
  exact ⟨⟨m0, m1, m2, m3, m4, l, l'⟩, A, A', cap, cap', _, y5.1, y6.1, rfl, hx, by rw [List.getElem?_map, z5]; rfl, by rw [List.getElem?_map, z6]; rfl, hR5, hR6, hc5, hc6, hs5, hs6⟩
set_option maxRecDepth 100000 in
theorem open_delta {r : Reach} {b0 : Nat} {v : Value} {d : DataW H} {p : List MemPlace} (hv : Value.okWide Tryz.prog w r b0 29 v) (h : DataW.Trod enc Tryz.prog w base spare held 29 v d p) :
    ∃ (dd : Delta) (A A' : Option Addr) (c c' : Nat) (parts pp : List (DataW H)) (x5 x6 : DataW H), v = dd.val A c A' c' ∧ d = .agg parts ∧ parts[4]? = some (.agg pp) ∧ pp[5]? = some x5 ∧ pp[6]? = some x6 ∧ Rd Item.cells 4 w 0 w.heap.size A dd.right.items ∧ Rd Kid.cells 2 w 0 w.heap.size A' dd.right.kids ∧ dd.right.items.length ≤ c ∧ dd.right.kids.length ≤ c' ∧
      (dd.right.items.length = 0 ∨ ∃ es sp, x5 = .slice es sp ∧ es.length = dd.right.items.length) ∧ (dd.right.kids.length = 0 ∨ ∃ es sp, x6 = .slice es sp ∧ es.length = dd.right.kids.length) := by
  obtain ⟨cs, rfl, hsz⟩ := okWide_struct Tryz.underlying29 hv
  rw [cellsDelta] at hsz
  obtain ⟨fuel, h⟩ := h
  obtain ⟨ll⟩ := cs
  match ll, hsz with
  | [c0, c1, c2, c3, c4, c5, c6, c7, c8, c9, c10, c11, c12, c13], _ =>
    have h2 : DataW.trod enc Tryz.prog w base spare held fuel 29 [c0, c1, c2, c3, c4, c5, c6, c7, c8, c9, c10, c11, c12, c13] = some (d, p) := h
    obtain ⟨ys, n, hx, hf⟩ := trod_fields Tryz.underlying29 h2
    obtain ⟨y0, _, t0⟩ := hf 0 3 0 1 rfl cellsInt1
    obtain ⟨y1, _, t1⟩ := hf 1 23 1 4 rfl cellsItem
    obtain ⟨y2, _, t2⟩ := hf 2 9 5 1 rfl cellsStr1
    obtain ⟨y3, _, t3⟩ := hf 3 3 6 1 rfl cellsInt1
    obtain ⟨y4, z4, t4⟩ := hf 4 27 7 7 rfl cellsPage
    obtain ⟨m0, r0, _⟩ := DataW.trod_int (k := .i64) (by kernel_rfl) t0
    obtain ⟨i, i0, i1, i2, i3⟩ := open_item_cells t1
    obtain ⟨m2, r2, _⟩ := DataW.trod_string Tryz.underlying9 t2
    obtain ⟨m3, r3, _⟩ := DataW.trod_int (k := .i64) (by kernel_rfl) t3
    obtain ⟨pg, A, A', c, c', pp, x5, x6, e, hp, h5, h6, q1, q2, q3, q4, q5, q6⟩ := open_page_cells t4
    simp only [List.drop_succ_cons, List.drop_zero, List.take_succ_cons, List.take_zero, List.cons.injEq, and_true] at r0 r2 r3 e
    obtain ⟨e0, e1, e2, e3, e4, e5, e6⟩ := e
    subst r0 r2 r3 i0 i1 i2 i3 e0 e1 e2 e3 e4 e5 e6
    exact ⟨⟨m0, i, m2, m3, pg⟩, A, A', c, c', _, pp, x5, x6, rfl, hx, by rw [List.getElem?_map, z4]; show some y4.1 = _; rw [hp], h5, h6, q1, q2, q3, q4, q5, q6⟩
end
end Go.Proofs.YtjbdmaehomhdeaaGreat
