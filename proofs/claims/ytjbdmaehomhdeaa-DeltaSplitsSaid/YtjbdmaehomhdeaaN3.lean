/- Arguments that are nodes, or slices of nodes: opened. -/
import Derived.Test.YtjbdmaehomhdeaaN2
import Derived.Test.YtjbdmaehomhdeaaLawB
import Derived.ProofKit
import Derived.ChangeSlices
import Derived.OpenShut
namespace Go.Proofs.Ytjbdmaehomhdeaa
open Go.ChangeShapes Go.WideShapes Go.ChangeAt Go.RowKit Go.Deep Go.Joins

theorem cellsU8 : Try.prog.cellsOf 5 = 1 := by kernel_rfl
theorem bytesU8 : Try.prog.bytesOf 5 = 1 := by kernel_rfl
theorem cellsNode : Try.prog.cellsOf 43 = 2 := by kernel_rfl
theorem bytesNode : Try.prog.bytesOf 43 = 32 := by kernel_rfl
section
variable {H : Type} {enc : TypeId × Value → H} {w : World} {base : Nat} {spare : Nat → Bool} {held : Bool}
theorem weightsAll_mem {P : Program} {e : TypeId} {l : List (DataW H)} {d : DataW H} (h : d ∈ l) : ∀ n ∈ d.weights P e, n ∈ DataW.weightsAll P e l := by
  induction l with
  | nil => cases h
  | cons a l ih =>
    intro n hn
    simp only [DataW.weightsAll, List.mem_append]
    rcases List.mem_cons.1 h with rfl | h
    · exact .inl hn
    · exact .inr (ih h n hn)
theorem open_data {fuel : Nat} {cs : List Value} {x : DataW H × List MemPlace} (h : DataW.trod enc Try.prog w base spare held fuel 22 cs = some x) (hs : ∀ n ∈ x.1.weights Try.prog 22, n ≤ reachBytes) :
    ∃ (A : Option Addr) (c : Nat) (l : List Nat), cs = [.slice A l.length c] ∧ Rd byteCell 1 w 0 w.heap.size A l ∧ l.length ≤ c ∧ (∀ b ∈ l, b < 256) ∧ l.length ≤ 140737488351232 := by
  rcases open_ints Try.underlying22 Try.underlying5 cellsU8 h with ⟨rfl, _⟩ | ⟨a, len, cap, zs, hcs, hb, hl, hm, hz, rfl, hcell, hwz⟩
  · exact ⟨none, 0, [], rfl, Rd.nil, Nat.le_refl _, (fun b hb => by cases hb), Nat.zero_le _⟩
  · have hle : len ≤ zs.length := by rw [hz]; split <;> omega
    have hw : ∀ n ∈ zs, 0 ≤ n ∧ n < 256 := fun n hn => by
      have := bounds_u8 (hwz n hn)
      omega
    have hlen : ((zs.take len).map Int.toNat).length = len := by simp; omega
    refine ⟨some a, cap, (zs.take len).map Int.toNat, by rw [hlen]; exact hcs, fun hn => ?_, by rw [hlen]; exact hl, fun b hb => ?_, ?_⟩
    · have hcc : ∀ (i x : Nat), ((zs.take len).map Int.toNat)[i]? = some x → w.cell? (a.add i) = some (.int .u8 (x : Int)) := by
        intro i x hx
        rw [List.getElem?_map, List.getElem?_take] at hx
        split at hx
        · rename_i hi
          have hiz : i < zs.length := by omega
          rw [List.getElem?_eq_getElem hiz] at hx
          simp only [Option.map_some, Option.some.injEq] at hx
          have h1 := hcell i hiz
          rw [List.getD_eq_getElem?_getD, List.getElem?_eq_getElem hiz, Option.getD_some] at h1
          have h2 := hw zs[i] (List.getElem_mem hiz)
          rw [h1, ← hx]
          congr 2
          omega
        · cases hx
      have h0 : 0 < ((zs.take len).map Int.toNat).length := by
        cases hl : (zs.take len).map Int.toNat with
        | nil => exact absurd hl hn
        | cons _ _ => simp
      have hb0 := World.block_lt_of_cell? w _ (hcc 0 _ (List.getElem?_eq_getElem h0))
      refine ⟨a, rfl, Nat.zero_le _, by simpa [block_of_add] using hb0, fun i x hx j u hu => ?_⟩
      match j, hu with
      | 0, hu =>
        simp [byteCell] at hu
        subst hu
        rw [Nat.mul_one, Nat.add_zero]
        exact hcc i x hx
      | (j + 1), hu => simp [byteCell] at hu
    · obtain ⟨n, hn, rfl⟩ := List.mem_map.1 hb
      have := hw n (List.mem_of_mem_take hn)
      omega
    · have h1 := hs (((lits .u8 (zs.take len)).length + (lits .u8 (zs.drop len) : List (DataW H)).length) * Try.prog.bytesOf 5) (by simp only [DataW.weights, Try.underlying22]; exact List.mem_cons_self ..)
      rw [bytesU8] at h1
      rw [hlen]
      simp only [lits, List.length_map, List.length_take, List.length_drop] at h1
      unfold reachBytes at h1
      omega
/-- the node at a place, out of its two fields -/
theorem open_node {ys : List (DataW H × List MemPlace)} {cellAt : Nat → Option Value} (h0 : ∃ (v : Value) (y : DataW H × List MemPlace) (n : Nat), cellAt 0 = some v ∧ ys[0]? = some y ∧ DataW.trod enc Try.prog w base spare held n 4 [v] = some y)
    (h1 : ∃ (v : Value) (y : DataW H × List MemPlace) (n : Nat), cellAt 1 = some v ∧ ys[1]? = some y ∧ DataW.trod enc Try.prog w base spare held n 22 [v] = some y)
    (hs : ∀ n ∈ DataW.weightsEach Try.prog [4, 22] (ys.map (·.1)), n ≤ reachBytes) :
    ∃ x : NV, cellAt 0 = some (.bool x.base) ∧ cellAt 1 = some (.slice x.A x.bs.length x.c) ∧ Nd w x := by
  obtain ⟨u0, y0, n0, q0, z0, t0⟩ := h0
  obtain ⟨u1, y1, n1, q1, z1, t1⟩ := h1
  obtain ⟨b, r0, _⟩ := DataW.trod_bool (by kernel_rfl) t0
  obtain ⟨A, c, l, r1, h1, h2, h3, h4⟩ := open_data t1 (fun n hn => hs n (DataW.weights_mem_each (j := 1) (t := 22) (d := y1.1) rfl (by rw [List.getElem?_map, z1]; rfl) n hn))
  simp only [List.cons.injEq, and_true] at r0 r1
  subst r0 r1
  exact ⟨⟨b, A, c, l⟩, q0, q1, h1, h2, h3, h4⟩
set_option maxRecDepth 100000 in
theorem open_nodes {fuel : Nat} {cs : List Value} {x : DataW H × List MemPlace} (h : DataW.trod enc Try.prog w base spare held fuel 35 cs = some x) (hs : ∀ n ∈ x.1.weights Try.prog 35, n ≤ reachBytes) :
    ∃ (A : Option Addr) (c : Nat) (l : List NV), cs = [.slice A l.length c] ∧ l.length ≤ c ∧ l.length ≤ 140737488351232 ∧ Nodes w 0 w.heap.size A l := by
  rcases open_slice_fields Try.underlying35 Try.underlying43 (by kernel_rfl) cellsNode h with ⟨hc, _⟩ | ⟨a, len, cap, m, D, Pl, hcs, hb, hl, hm, hmm, hx, hi⟩
  · exact ⟨none, 0, [], hc, Nat.le_refl _, Nat.zero_le _, Rd.nil, fun x hx => by cases hx⟩
  · have hle : len ≤ m := by rw [hmm]; split <;> omega
    have hx1 : x.1 = .slice ((List.range len).map D) ((List.range (m - len)).map fun j => D (len + j)) := by rw [hx]
    rw [hx1] at hs
    simp only [DataW.weights, Try.underlying35] at hs
    have hlen : len ≤ 140737488351232 := by
      have h1 := hs _ (List.mem_cons_self ..)
      rw [bytesNode] at h1
      simp only [List.length_map, List.length_range] at h1
      unfold reachBytes at h1
      omega
    obtain ⟨l, h1, h2⟩ := exists_list (fun i (x : NV) => (w.cell? (a.add (i * 2 + 0)) = some (.bool x.base) ∧ w.cell? (a.add (i * 2 + 1)) = some (.slice x.A x.bs.length x.c)) ∧ Nd w x) len (fun i hlt => by
      obtain ⟨ys, n, hD, _, hyl, hf⟩ := hi i (by omega)
      obtain ⟨x, c0, c1, hn⟩ := open_node (ys := ys) (cellAt := fun j => w.cell? (a.add (i * 2 + j))) (by
        obtain ⟨u, y, q, z, t⟩ := hf 0 _ rfl
        exact ⟨u, y, n, q, z, t⟩) (by
        obtain ⟨u, y, q, z, t⟩ := hf 1 _ rfl
        exact ⟨u, y, n, q, z, t⟩) (fun n hn => hs n (List.mem_cons_of_mem _ (List.mem_append.2 (.inl (weightsAll_mem (d := D i) (List.mem_map.2 ⟨i, List.mem_range.2 hlt, rfl⟩) n (by rw [hD]; simp only [DataW.weights, Try.underlying43]; exact hn))))))
      exact ⟨x, ⟨c0, c1⟩, hn⟩)
    refine ⟨some a, cap, l, by rw [h1]; exact hcs, by rw [h1]; exact hl, by rw [h1]; exact hlen, fun hn => ?_, fun x hx => ?_⟩
    · have h0 : 0 < l.length := by
        cases l with
        | nil => exact absurd rfl hn
        | cons _ _ => simp
      have hb0 := World.block_lt_of_cell? w _ (h2 0 _ (List.getElem?_eq_getElem h0)).1.1
      refine ⟨a, rfl, Nat.zero_le _, by simpa [block_of_add] using hb0, fun i x hx j u hu => ?_⟩
      match j, hu with
      | 0, hu => simp [NV.cells] at hu; subst hu; exact (h2 i x hx).1.1
      | 1, hu => simp [NV.cells] at hu; subst hu; exact (h2 i x hx).1.2
      | (j + 2), hu => simp [NV.cells] at hu
    · obtain ⟨i, hi⟩ := List.getElem?_of_mem hx
      exact (h2 i x hi).2
set_option maxRecDepth 100000 in
theorem open_one {r : Reach} {b0 : Nat} {v : Value} {d : DataW H} {p : List MemPlace} (hv : Value.okWide Try.prog w r b0 43 v) (h : DataW.Trod enc Try.prog w base spare held 43 v d p) (hs : ∀ n ∈ d.weights Try.prog 43, n ≤ reachBytes) :
    ∃ x : NV, v = x.val ∧ Nd w x := by
  obtain ⟨cs, n, ys, rfl, hsz, rfl, _, hf⟩ := open_struct_fields (P := Try.prog) Try.underlying43 (by kernel_rfl) cellsNode hv h
  obtain ⟨x, c0, c1, hn⟩ := open_node (ys := ys) (cellAt := fun j => cs[j]?) (by
    obtain ⟨u, y, q, z, t⟩ := hf 0 _ rfl
    exact ⟨u, y, n, q, z, t⟩) (by
    obtain ⟨u, y, q, z, t⟩ := hf 1 _ rfl
    exact ⟨u, y, n, q, z, t⟩) (fun n hn => hs n (by simp only [DataW.weights, Try.underlying43]; exact hn))
  refine ⟨x, ?_, hn⟩
  obtain ⟨ll⟩ := cs
  match ll, hsz with
  | [a, b], _ =>
    simp at c0 c1
    subst c0 c1
    rfl
theorem sized_at {P : Program} {ts : List TypeId} {ds : List (DataW H)} (h : (DataW.weightsEach P ts ds).all (· ≤ reachBytes) = true) {j : Nat} {t : TypeId} {d : DataW H} (ht : ts[j]? = some t) (hd : ds[j]? = some d) : ∀ n ∈ d.weights P t, n ≤ reachBytes := fun n hn => by
  have := List.all_eq_true.1 h n (DataW.weights_mem_each ht hd n hn)
  simpa using this
end
end Go.Proofs.Ytjbdmaehomhdeaa
