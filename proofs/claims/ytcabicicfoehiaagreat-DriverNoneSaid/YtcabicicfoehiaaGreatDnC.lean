/- DriverNone: what the arguments are, opened. -/
import Derived.Test.YtcabicicfoehiaaGreatDnB
import Derived.Test.YtcabicicfoehiaaGreatLawB
namespace Go.Proofs.YtcabicicfoehiaaGreat
open Go.ChangeShapes Go.WideShapes Go.ChangeAt Go.RowKit Go.Deep Go.Joins

theorem cellsCall : Tryz.prog.cellsOf 23 = 6 := by kernel_rfl
theorem bytesCall : Tryz.prog.bytesOf 23 = 72 := by kernel_rfl

section
variable {H : Type} {enc : TypeId × Value → H} {w : World} {base : Nat} {spare : Nat → Bool} {held : Bool}
set_option maxRecDepth 10000 in
theorem open_call {r : Reach} {b0 : Nat} {v : Value} {d : DataW H} {p : List MemPlace} (hv : Value.okWide Tryz.prog w r b0 23 v) (h : DataW.Trod enc Tryz.prog w base spare held 23 v d p) : ∃ x : CallD, v = x.val := by
  obtain ⟨cs, n, ys, rfl, hsz, _, _, hf⟩ := open_struct_fields (P := Tryz.prog) Tryz.underlying23 (by kernel_rfl) cellsCall hv h
  obtain ⟨u0, y0, q0, _, t0⟩ := hf 0 _ rfl
  obtain ⟨u1, y1, q1, _, t1⟩ := hf 1 _ rfl
  obtain ⟨u2, y2, q2, _, t2⟩ := hf 2 _ rfl
  obtain ⟨u3, y3, q3, _, t3⟩ := hf 3 _ rfl
  obtain ⟨u4, y4, q4, _, t4⟩ := hf 4 _ rfl
  obtain ⟨u5, y5, q5, _, t5⟩ := hf 5 _ rfl
  obtain ⟨m0, r0, _⟩ := DataW.trod_int Tryz.underlying3 t0
  obtain ⟨m1, r1, _⟩ := DataW.trod_int (k := .i64) (by kernel_rfl) t1
  obtain ⟨m2, r2, _⟩ := DataW.trod_string Tryz.underlying9 t2
  obtain ⟨m3, r3, _⟩ := DataW.trod_string Tryz.underlying9 t3
  obtain ⟨m4, r4, _⟩ := DataW.trod_string Tryz.underlying9 t4
  obtain ⟨m5, r5, _⟩ := DataW.trod_int Tryz.underlying3 t5
  simp only [List.cons.injEq, and_true] at r0 r1 r2 r3 r4 r5
  subst r0 r1 r2 r3 r4 r5
  obtain ⟨l⟩ := cs
  match l, hsz with
  | [c0, c1, c2, c3, c4, c5], _ =>
    simp at q0 q1 q2 q3 q4 q5
    subst q0 q1 q2 q3 q4 q5
    exact ⟨⟨m0, m1, m2, m3, m4, m5⟩, rfl⟩

theorem open_calls {d : DataW H} {p : List MemPlace} {A : Option Addr} {len cap : Nat} (h : DataW.Trod enc Tryz.prog w base spare held 24 (.slice A len cap) d p) :
    (len = 0 ∨ ∃ a es sp, d = .slice es sp ∧ es.length = len ∧ A = some a) ∧ ∃ l : List CallD, l.length = len ∧ Rd CallD.cells 6 w 0 w.heap.size A l := by
  obtain ⟨fuel, hf⟩ := h
  rcases open_slice_fields Tryz.underlying24 Tryz.underlying23 (by kernel_rfl) cellsCall hf with ⟨hc, _⟩ | ⟨a, len', cap', m, D, Pl, hcs, hb, hl, hm, hmm, hx, hi⟩
  · simp [Value.cells] at hc
    obtain ⟨rfl, rfl, rfl⟩ := hc
    exact ⟨.inl rfl, [], rfl, Rd.nil⟩
  · simp [Value.cells] at hcs
    obtain ⟨rfl, rfl, rfl⟩ := hcs
    simp only [Prod.mk.injEq] at hx
    refine ⟨.inr ⟨a, _, _, hx.1, by simp, rfl⟩, ?_⟩
    have hle : len ≤ m := by rw [hmm]; split <;> omega
    obtain ⟨l, h1, h2⟩ := exists_list (fun i (x : CallD) => ∀ j u, (x.cells)[j]? = some u → w.cell? (a.add (i * 6 + j)) = some u) len (fun i hlt => by
      obtain ⟨ys, n, _, _, hyl, hf⟩ := hi i (by omega)
      obtain ⟨u0, y0, q0, _, t0⟩ := hf 0 _ rfl
      obtain ⟨u1, y1, q1, _, t1⟩ := hf 1 _ rfl
      obtain ⟨u2, y2, q2, _, t2⟩ := hf 2 _ rfl
      obtain ⟨u3, y3, q3, _, t3⟩ := hf 3 _ rfl
      obtain ⟨u4, y4, q4, _, t4⟩ := hf 4 _ rfl
      obtain ⟨u5, y5, q5, _, t5⟩ := hf 5 _ rfl
      obtain ⟨m0, r0, _⟩ := DataW.trod_int Tryz.underlying3 t0
      obtain ⟨m1, r1, _⟩ := DataW.trod_int (k := .i64) (by kernel_rfl) t1
      obtain ⟨m2, r2, _⟩ := DataW.trod_string Tryz.underlying9 t2
      obtain ⟨m3, r3, _⟩ := DataW.trod_string Tryz.underlying9 t3
      obtain ⟨m4, r4, _⟩ := DataW.trod_string Tryz.underlying9 t4
      obtain ⟨m5, r5, _⟩ := DataW.trod_int Tryz.underlying3 t5
      simp only [List.cons.injEq, and_true] at r0 r1 r2 r3 r4 r5
      subst r0 r1 r2 r3 r4 r5
      refine ⟨⟨m0, m1, m2, m3, m4, m5⟩, fun j u hj => ?_⟩
      match j, hj with
      | 0, hj => simp [CallD.cells] at hj; subst hj; exact q0
      | 1, hj => simp [CallD.cells] at hj; subst hj; exact q1
      | 2, hj => simp [CallD.cells] at hj; subst hj; exact q2
      | 3, hj => simp [CallD.cells] at hj; subst hj; exact q3
      | 4, hj => simp [CallD.cells] at hj; subst hj; exact q4
      | 5, hj => simp [CallD.cells] at hj; subst hj; exact q5
      | (j + 6), hj => simp [CallD.cells] at hj)
    refine ⟨l, h1, fun hn => ⟨a, rfl, by omega, ?_, h2⟩⟩
    have h0 : 0 < l.length := by cases l with | nil => exact absurd rfl hn | cons _ _ => simp
    have := h2 0 _ (List.getElem?_eq_getElem h0) 0 _ rfl
    have := World.block_lt_of_cell? w _ this
    simpa [block_of_add] using this
end
end Go.Proofs.YtcabicicfoehiaaGreat
