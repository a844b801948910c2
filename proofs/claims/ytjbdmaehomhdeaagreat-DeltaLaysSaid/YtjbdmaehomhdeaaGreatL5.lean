/- DeltaLinks: its row: the arguments opened. -/
import Derived.Test.YtjbdmaehomhdeaaGreatRows
import Derived.Test.YtjbdmaehomhdeaaGreatZC
import Derived.Test.YtjbdmaehomhdeaaGreatZQ
import Derived.ProofKit
set_option linter.unusedSimpArgs false
set_option linter.unusedVariables false
namespace Go.Proofs.YtjbdmaehomhdeaaGreat
open Go.ChangeShapes Go.WideShapes Go.ChangeAt Go.RowKit Go.Deep Go.Joins

theorem cellsItem : Tryz.prog.cellsOf 23 = 4 := by kernel_rfl
theorem cellsKid : Tryz.prog.cellsOf 61 = 2 := by kernel_rfl
theorem cellsPage : Tryz.prog.cellsOf 27 = 7 := by kernel_rfl
section
variable {H : Type} {enc : TypeId × Value → H} {w : World} {base : Nat} {spare : Nat → Bool} {held : Bool}
theorem open_items {fuel : Nat} {cs : List Value} {x : DataW H × List MemPlace} (h : DataW.trod enc Tryz.prog w base spare held fuel 24 cs = some x) :
    ∃ (A : Option Addr) (len cap : Nat) (l : List Item), cs = [.slice A len cap] ∧ len ≤ cap ∧ l.length = len ∧ Rd Item.cells 4 w 0 w.heap.size A l ∧ (len = 0 ∨ ∃ es sp, x.1 = .slice es sp ∧ es.length = len) := by
  rcases open_slice_fields Tryz.underlying24 Tryz.underlying23 (by kernel_rfl) cellsItem h with ⟨hc, _⟩ | ⟨a, len, cap, m, D, Pl, hcs, hb, hl, hm, hmm, hx, hi⟩
  · exact ⟨none, 0, 0, [], hc, Nat.le_refl _, rfl, Rd.nil, .inl rfl⟩
  · have hle : len ≤ m := by rw [hmm]; split <;> omega
    obtain ⟨l, h1, h2⟩ := exists_list (fun i (x : Item) => ∀ j u, (x.cells)[j]? = some u → w.cell? (a.add (i * 4 + j)) = some u) len (fun i hlt => by
      obtain ⟨ys, n, _, _, hyl, hf⟩ := hi i (by omega)
      obtain ⟨u0, y0, q0, _, t0⟩ := hf 0 _ rfl
      obtain ⟨u1, y1, q1, _, t1⟩ := hf 1 _ rfl
      obtain ⟨u2, y2, q2, _, t2⟩ := hf 2 _ rfl
      obtain ⟨u3, y3, q3, _, t3⟩ := hf 3 _ rfl
      obtain ⟨m0, r0, _⟩ := DataW.trod_string Tryz.underlying9 t0
      obtain ⟨m1, r1, _⟩ := DataW.trod_string Tryz.underlying9 t1
      obtain ⟨m2, r2, _⟩ := DataW.trod_int (k := .i64) (by kernel_rfl) t2
      obtain ⟨m3, r3, _⟩ := DataW.trod_bool (by kernel_rfl) t3
      simp only [List.cons.injEq, and_true] at r0 r1 r2 r3
      subst r0 r1 r2 r3
      refine ⟨⟨m0, m1, m2, m3⟩, fun j u hu => ?_⟩
      match j, hu with
      | 0, hu => simp [Item.cells] at hu; subst hu; simpa using q0
      | 1, hu => simp [Item.cells] at hu; subst hu; simpa using q1
      | 2, hu => simp [Item.cells] at hu; subst hu; simpa using q2
      | 3, hu => simp [Item.cells] at hu; subst hu; simpa using q3
      | (j + 4), hu => simp [Item.cells] at hu)
    refine ⟨some a, len, cap, l, hcs, hl, h1, fun hn => ?_, .inr ⟨_, _, by rw [hx], by simp⟩⟩
    have h0 : 0 < l.length := by
      cases l with
      | nil => exact absurd rfl hn
      | cons _ _ => simp
    have hb0 := World.block_lt_of_cell? w _ (h2 0 _ (List.getElem?_eq_getElem h0) 0 _ rfl)
    exact ⟨a, rfl, Nat.zero_le _, by simpa [block_of_add] using hb0, fun i x hx j u hu => h2 i x hx j u hu⟩
theorem open_kids {fuel : Nat} {cs : List Value} {x : DataW H × List MemPlace} (h : DataW.trod enc Tryz.prog w base spare held fuel 25 cs = some x) :
    ∃ (A : Option Addr) (len cap : Nat) (l : List Kid), cs = [.slice A len cap] ∧ len ≤ cap ∧ l.length = len ∧ Rd Kid.cells 2 w 0 w.heap.size A l ∧ (len = 0 ∨ ∃ es sp, x.1 = .slice es sp ∧ es.length = len) := by
  rcases open_slice_fields Tryz.underlying25 Tryz.underlying61 (by kernel_rfl) cellsKid h with ⟨hc, _⟩ | ⟨a, len, cap, m, D, Pl, hcs, hb, hl, hm, hmm, hx, hi⟩
  · exact ⟨none, 0, 0, [], hc, Nat.le_refl _, rfl, Rd.nil, .inl rfl⟩
  · have hle : len ≤ m := by rw [hmm]; split <;> omega
    obtain ⟨l, h1, h2⟩ := exists_list (fun i (x : Kid) => ∀ j u, (x.cells)[j]? = some u → w.cell? (a.add (i * 2 + j)) = some u) len (fun i hlt => by
      obtain ⟨ys, n, _, _, hyl, hf⟩ := hi i (by omega)
      obtain ⟨u0, y0, q0, _, t0⟩ := hf 0 _ rfl
      obtain ⟨u1, y1, q1, _, t1⟩ := hf 1 _ rfl
      obtain ⟨m0, r0, _⟩ := DataW.trod_string Tryz.underlying9 t0
      obtain ⟨m1, r1, _⟩ := DataW.trod_int (k := .i64) (by kernel_rfl) t1
      simp only [List.cons.injEq, and_true] at r0 r1
      subst r0 r1
      refine ⟨⟨m0, m1⟩, fun j u hu => ?_⟩
      match j, hu with
      | 0, hu => simp [Kid.cells] at hu; subst hu; simpa using q0
      | 1, hu => simp [Kid.cells] at hu; subst hu; simpa using q1
      | (j + 2), hu => simp [Kid.cells] at hu)
    refine ⟨some a, len, cap, l, hcs, hl, h1, fun hn => ?_, .inr ⟨_, _, by rw [hx], by simp⟩⟩
    have h0 : 0 < l.length := by
      cases l with
      | nil => exact absurd rfl hn
      | cons _ _ => simp
    have hb0 := World.block_lt_of_cell? w _ (h2 0 _ (List.getElem?_eq_getElem h0) 0 _ rfl)
    exact ⟨a, rfl, Nat.zero_le _, by simpa [block_of_add] using hb0, fun i x hx j u hu => h2 i x hx j u hu⟩
theorem sized_struct {P : Program} {ts : List TypeId} {ds : List (DataW H)} (h : (DataW.weightsEach P ts ds).all (· ≤ reachBytes) = true) {j : Nat} {t : TypeId} {fs : Array Field} {parts : List (DataW H)} (ht : ts[j]? = some t) (hd : ds[j]? = some (.agg parts)) (hu : P.underlying t = some (.struct fs)) :
    (DataW.weightsEach P (fs.toList.map (·.type)) parts).all (· ≤ reachBytes) = true := by
  rw [List.all_eq_true] at h ⊢
  intro n hn
  exact h n (DataW.weights_mem_each ht hd n (by simp only [DataW.weights, hu]; exact hn))
set_option maxRecDepth 100000 in
theorem open_page {r : Reach} {b0 : Nat} {v : Value} {d : DataW H} {p : List MemPlace} (hv : Value.okWide Tryz.prog w r b0 27 v) (h : DataW.Trod enc Tryz.prog w base spare held 27 v d p) :
    ∃ (pg : Page) (A A' : Option Addr) (c c' : Nat) (parts : List (DataW H)) (x5 x6 : DataW H), v = pg.val A c A' c' ∧ d = .agg parts ∧ parts[5]? = some x5 ∧ parts[6]? = some x6 ∧ Rd Item.cells 4 w 0 w.heap.size A pg.items ∧ Rd Kid.cells 2 w 0 w.heap.size A' pg.kids ∧ pg.items.length ≤ c ∧ pg.kids.length ≤ c' ∧
      (pg.items.length = 0 ∨ ∃ es sp, x5 = .slice es sp ∧ es.length = pg.items.length) ∧ (pg.kids.length = 0 ∨ ∃ es sp, x6 = .slice es sp ∧ es.length = pg.kids.length) := by
  obtain ⟨cs, n, ys, rfl, hsz, hd, _, hf⟩ := open_struct_fields (P := Tryz.prog) Tryz.underlying27 (by kernel_rfl) cellsPage hv h
  obtain ⟨u0, y0, q0, _, t0⟩ := hf 0 _ rfl
  obtain ⟨u1, y1, q1, _, t1⟩ := hf 1 _ rfl
  obtain ⟨u2, y2, q2, _, t2⟩ := hf 2 _ rfl
  obtain ⟨u3, y3, q3, _, t3⟩ := hf 3 _ rfl
  obtain ⟨u4, y4, q4, _, t4⟩ := hf 4 _ rfl
  obtain ⟨u5, y5, q5, z5, t5⟩ := hf 5 _ rfl
  obtain ⟨u6, y6, q6, z6, t6⟩ := hf 6 _ rfl
  obtain ⟨m0, r0, _⟩ := DataW.trod_int (k := .i64) (by kernel_rfl) t0
  obtain ⟨m1, r1, _⟩ := DataW.trod_string Tryz.underlying9 t1
  obtain ⟨m2, r2, _⟩ := DataW.trod_string Tryz.underlying9 t2
  obtain ⟨m3, r3, _⟩ := DataW.trod_bool (by kernel_rfl) t3
  obtain ⟨m4, r4, _⟩ := DataW.trod_int (k := .i64) (by kernel_rfl) t4
  obtain ⟨A, len, cap, l, r5, hc5, hl5, hR5, hs5⟩ := open_items t5
  obtain ⟨A', len', cap', l', r6, hc6, hl6, hR6, hs6⟩ := open_kids t6
  simp only [List.cons.injEq, and_true] at r0 r1 r2 r3 r4 r5 r6
  subst r0 r1 r2 r3 r4 r5 r6 hl5 hl6
  obtain ⟨ll⟩ := cs
  match ll, hsz with
  | [c0, c1, c2, c3, c4, c5, c6], _ =>
    simp at q0 q1 q2 q3 q4 q5 q6
    subst q0 q1 q2 q3 q4 q5 q6
    exact ⟨⟨m0, m1, m2, m3, m4, l, l'⟩, A, A', cap, cap', _, y5.1, y6.1, rfl, hd, by rw [List.getElem?_map, z5]; rfl, by rw [List.getElem?_map, z6]; rfl, hR5, hR6, hc5, hc6, hs5, hs6⟩
end
end Go.Proofs.YtjbdmaehomhdeaaGreat
