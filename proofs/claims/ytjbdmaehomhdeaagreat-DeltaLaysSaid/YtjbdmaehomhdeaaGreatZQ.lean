/- Words for the rows' proofs: arguments read on behind the call; arguments that are slices of structs; the row's last step. -/
import Derived.Test.YtjbdmaehomhdeaaGreatZA
import Derived.Test.YtjbdmaehomhdeaaGreatNx
import Derived.ProofKit
import Derived.SizedLaws
import Derived.Deep.Slices
import Derived.Deep.Fields
import Derived.ChangeSame
import Derived.Lib.SmallJoins
import Derived.ChangeSlices
import Derived.OpenShut
set_option linter.unusedSimpArgs false
set_option linter.unusedVariables false
namespace Go.Proofs.YtjbdmaehomhdeaaGreat
open Go.ChangeShapes Go.WideShapes Go.ChangeAt Go.RowKit Go.Deep Go.Joins

section
variable {H : Type} {enc : TypeId × Value → H} {P : Program}

/-- all arguments read as they did, where nothing old has turned -/
theorem trodAll_stays (hl : laidOutB P = true) {W W' : World} (hb : Below W.heap.size W W') :
    ∀ (ts : List TypeId) (vs : List Value) (ds : List (DataW H)) (ps : List MemPlace), (∀ t ∈ ts, P.readableRec t = true ∧ t < P.types.size) → DataW.TrodAll enc P W 0 (fun _ => true) true ts vs ds ps → (∀ x ∈ ps, x.block < W.heap.size) →
      ∀ sp : Nat → Bool, (∀ x ∈ ps, sp x.block = true) → DataW.TrodAll enc P W' 0 sp true ts vs ds ps
  | [], [], [], _, _, h, _, _, _ => h
  | [], _ :: _, _, _, _, h, _, _, _ => h.elim
  | [], [], _ :: _, _, _, h, _, _, _ => h.elim
  | _ :: _, [], _, _, _, h, _, _, _ => h.elim
  | _ :: _, _ :: _, [], _, _, h, _, _, _ => h.elim
  | t :: ts, v :: vs, d :: ds, ps, hr, h, hlt, sp, hsp => by
    obtain ⟨p, q, h1, h2, rfl⟩ := h
    have hp : ∀ x ∈ p, x ∈ p ++ q := fun x hx => List.mem_append.2 (.inl hx)
    have hq : ∀ x ∈ q, x ∈ p ++ q := fun x hx => List.mem_append.2 (.inr hx)
    exact ⟨p, q, WideElems.Trod_stays hl (hr t (List.mem_cons_self ..)).1 (hr t (List.mem_cons_self ..)).2 h1 (fun x hx => hb.same (hlt x (hp x hx))) (fun x hx => hsp x (hp x hx)),
      trodAll_stays hl hb ts vs ds q (fun t ht => hr t (List.mem_cons_of_mem _ ht)) h2 (fun x hx => hlt x (hq x hx)) sp (fun x hx => hsp x (hq x hx)), rfl⟩

theorem shut_truth {w : World} {base : Nat} {sp : Nat → Bool} {held : Bool} {t : TypeId} (ht : P.underlying t = some .bool) (b : Bool) : DataW.Trod enc P w base sp held t (.bool b) (.lit (.bool b)) [] := ⟨1, by simp [DataW.trod, Value.cells, ht]⟩

theorem post_of_below {f : Func} {s : ChangeSpec} {apart fresh handsOn again : Bool} {W W' : World} {args : Array Value} {v : Value} {ds gs : List (DataW H)} {before pa pv : List MemPlace}
    (hW : DataW.Whole enc P f.params.toList s.vars apart W args.toList ds gs before)
    (hres : ∀ (b : Nat) (sp : Nat → Bool) (hd : Bool), DataW.TrodAll enc P W' b sp hd f.resultTypes.toList (v.resultList f.resultTypes.size) (s.fn H (ds ++ gs)).results [])
    (hargs : ∀ sp : Nat → Bool, (∀ p ∈ before, sp p.block = true) → DataW.TrodAll enc P W' 0 sp true f.params.toList args.toList (s.fn H (ds ++ gs)).args pa)
    (hvars : ∀ sp : Nat → Bool, (∀ p ∈ before, sp p.block = true) → DataW.TrodVars enc P W' sp s.vars (s.fn H (ds ++ gs)).vars pv)
    (hps : before = pa ++ pv) (hb : Below W.heap.size W W')
    (hok : ∀ (j : Nat) (t : TypeId) (r : Value), f.resultTypes[j]? = some t → (v.resultList f.resultTypes.size)[j]? = some r → Value.okWide P W' .any 0 t r) :
    s.post enc P f apart fresh handsOn again W args v W' := by
  have hlt : ∀ p ∈ before, p.block < W.heap.size := fun p hp => hW.lt p hp
  have hold : ∀ p ∈ before, (fun b => decide (b < W.heap.size)) p.block = true := fun p hp => by simpa using hlt p hp
  refine ⟨ds, gs, before, [], pa, pv, hW, hres _ _ _, hargs _ hold, hvars _ hold, World.keptBut_mono (fun p hp => ⟨hp, ?_⟩) (hb.frame (· ∈ before)), fun _ => ?_⟩
  · rw [hps, List.mem_append] at hp
    exact Or.inr hp
  · obtain ⟨_, _, _, _, _, hz, hn⟩ := hW
    refine ⟨hok, _, _, ([] ++ pa) ++ pv, ⟨[] ++ pa, pv, trodAll_append (hargs _ (fun _ _ => rfl)) (hres _ _ _), hvars _ (fun _ _ => rfl), rfl, ?_, ?_⟩, ?_⟩
    · intro b off hp
      have hin : MemPlace.cell b off ∈ before := by rw [hps]; simpa using hp
      rw [hb.frozen (hlt _ hin)]
      exact hz b off hin
    · intro ha
      have := hn ha
      rw [hps] at this
      simpa using this
    · intro p hp _
      rw [hps]
      simpa using hp

theorem open_slice_fields {w : World} {base : Nat} {spare : Nat → Bool} {held : Bool} {t e : TypeId} {fs : Array Field} {fuel : Nat} {cs : List Value} {x : DataW H × List MemPlace} (ht : P.underlying t = some (.slice e)) (he : P.underlying e = some (.struct fs))
    (hone : oneCellFields P fs = true) (hC : P.cellsOf e = fs.size) (h : DataW.trod enc P w base spare held fuel t cs = some x) :
    (cs = [.slice none 0 0] ∧ x = (.nil, [])) ∨
    ∃ (a : Addr) (len cap m : Nat) (D : Nat → DataW H) (Pl : Nat → List MemPlace), cs = [.slice (some a) len cap] ∧ base ≤ a.block ∧ len ≤ cap ∧ cap ≤ maxLen ∧ m = (if spare a.block then cap else len) ∧
      x = (.slice ((List.range len).map D) ((List.range (m - len)).map fun j => D (len + j)), MemPlace.row a (m * fs.size) ++ (List.range m).flatMap Pl) ∧
      ∀ i, i < m → ∃ (ys : List (DataW H × List MemPlace)) (n : Nat), D i = .agg (ys.map (·.1)) ∧ Pl i = ys.flatMap (·.2) ∧ ys.length = fs.size ∧
        ∀ (j : Nat) (f : Field), fs[j]? = some f → ∃ (v : Value) (y : DataW H × List MemPlace), w.cell? (a.add (i * fs.size + j)) = some v ∧ ys[j]? = some y ∧ DataW.trod enc P w base spare held n f.type [v] = some y := by
  rcases open_slice ht h with h0 | ⟨a, len, cap, m, n, D, Pl, hcs, hb, hl, hm, hmm, hx, hi⟩
  · exact .inl h0
  · refine .inr ⟨a, len, cap, m, D, Pl, hcs, hb, hl, hm, hmm, by rw [hC] at hx; exact hx, fun i him => ?_⟩
    obtain ⟨cs', hc, ht'⟩ := hi i him
    rw [hC] at hc
    obtain ⟨ys, n', hn', hy, hlen, hyl, hf⟩ := DataW.trod_struct he ht'
    obtain ⟨_, hcl, hat⟩ := World.cells?_some hc
    simp only [Prod.mk.injEq] at hy
    refine ⟨ys, n', hy.1, hy.2, hyl, fun j f hj => ?_⟩
    obtain ⟨ho, hk⟩ := hone_of hone j f hj
    have hjl : j < fs.size := (Array.getElem?_eq_some_iff.1 hj).1
    have hcell := hat j hjl
    have hv : cs'[j]? = some (cs'[j]'(by omega)) := List.getElem?_eq_getElem (by omega)
    have h1 := hf j f hj
    rw [ho, hk] at h1
    have hone' : (cs'.drop j).take 1 = [cs'[j]'(by omega)] := by
      rw [List.drop_eq_getElem_cons (by omega)]
      rfl
    rw [hone'] at h1
    have hys : ys[j]? = some (ys[j]'(by omega)) := List.getElem?_eq_getElem (by omega)
    refine ⟨_, _, ?_, hys, h1.trans hys⟩
    rw [← Go.Deep.add_add, hcell, hv]
theorem open_struct_fields {r : Reach} {b0 : Nat} {w : World} {base : Nat} {spare : Nat → Bool} {held : Bool} {t : TypeId} {fs : Array Field} {v : Value} {d : DataW H} {p : List MemPlace} (hs : P.underlying t = some (.struct fs))
    (hone : oneCellFields P fs = true) (hC : P.cellsOf t = fs.size) (hv : Value.okWide P w r b0 t v) (h : DataW.Trod enc P w base spare held t v d p) :
    ∃ (cs : Array Value) (n : Nat) (ys : List (DataW H × List MemPlace)), v = .agg cs ∧ cs.size = fs.size ∧ d = .agg (ys.map (·.1)) ∧ p = ys.flatMap (·.2) ∧
      ∀ (j : Nat) (f : Field), fs[j]? = some f → ∃ (u : Value) (y : DataW H × List MemPlace), cs[j]? = some u ∧ ys[j]? = some y ∧ DataW.trod enc P w base spare held n f.type [u] = some y := by
  obtain ⟨cs, rfl, hsz⟩ := okWide_struct hs hv
  obtain ⟨fuel, hf⟩ := h
  obtain ⟨ys, n, _, hx, _, hlen, hg⟩ := DataW.trod_struct hs hf
  simp only [Prod.mk.injEq] at hx
  refine ⟨cs, n, ys, rfl, hsz.trans hC, hx.1, hx.2, fun j f hj => ?_⟩
  obtain ⟨ho, hk⟩ := hone_of hone j f hj
  have hjl : j < fs.size := (Array.getElem?_eq_some_iff.1 hj).1
  have h1 := hg j f hj
  rw [ho, hk] at h1
  have hsz' : j < cs.toList.length := by simpa using (by omega : j < cs.size)
  have hone' : ((Value.agg cs).cells.toList.drop j).take 1 = ([cs[j]'(by omega)] : List Value) := by
    show (cs.toList.drop j).take 1 = ([cs[j]'(by omega)] : List Value)
    rw [List.drop_eq_getElem_cons hsz']
    simp
  rw [hone'] at h1
  exact ⟨_, _, Array.getElem?_eq_getElem (by omega), List.getElem?_eq_getElem (by omega), h1.trans (List.getElem?_eq_getElem (by omega))⟩

end

/-- a list out of what there is at each place -/
theorem exists_list {α : Type} (Q : Nat → α → Prop) : ∀ n : Nat, (∀ i, i < n → ∃ x, Q i x) → ∃ l : List α, l.length = n ∧ ∀ i x, l[i]? = some x → Q i x
  | 0, _ => ⟨[], rfl, fun i x h => by simp at h⟩
  | n + 1, h => by
    obtain ⟨l, hl, hq⟩ := exists_list Q n (fun i hi => h i (by omega))
    obtain ⟨x, hx⟩ := h n (by omega)
    refine ⟨l ++ [x], by simp [hl], fun i y hy => ?_⟩
    rcases Nat.lt_or_ge i l.length with h1 | h1
    · rw [List.getElem?_append_left h1] at hy; exact hq i y hy
    · rw [List.getElem?_append_right h1] at hy
      rcases Nat.eq_or_lt_of_le h1 with h2 | h2
      · subst h2; simp at hy; subst hy; rw [hl]; exact hx
      · rw [List.getElem?_eq_none (by simp; omega)] at hy; cases hy

end Go.Proofs.YtjbdmaehomhdeaaGreat

namespace Go.Proofs.YtjbdmaehomhdeaaGreat
open Go.ChangeShapes Go.WideShapes Go.ChangeAt Go.RowKit Go.Deep Go.Joins

theorem cellsU8 : Tryz.prog.cellsOf 5 = 1 := by kernel_rfl
theorem bytesU8 : Tryz.prog.bytesOf 5 = 1 := by kernel_rfl
theorem cellsNode : Tryz.prog.cellsOf 34 = 2 := by kernel_rfl
theorem bytesNode : Tryz.prog.bytesOf 34 = 32 := by kernel_rfl
section
variable {H : Type} {enc : TypeId × Value → H} {w : World} {base : Nat} {spare : Nat → Bool} {held : Bool}
theorem weightsAll_mem {P : Program} {e : TypeId} {l : List (DataW H)} {d : DataW H} (h : d ∈ l) : ∀ n ∈ d.weights P e, n ∈ DataW.weightsAll P e l := by
  induction l with
  | nil => cases h
  | cons a l ih =>
    intro n hn
    simp only [DataW.weightsAll, List.mem_append]
    rcases List.mem_cons.1 h with rfl | h
    · exact .inl hn
    · exact .inr (ih h n hn)
theorem open_data {fuel : Nat} {cs : List Value} {x : DataW H × List MemPlace} (h : DataW.trod enc Tryz.prog w base spare held fuel 32 cs = some x) (hs : ∀ n ∈ x.1.weights Tryz.prog 32, n ≤ reachBytes) :
    ∃ (A : Option Addr) (c : Nat) (l : List Nat), cs = [.slice A l.length c] ∧ Rd byteCell 1 w 0 w.heap.size A l ∧ l.length ≤ c ∧ (∀ b ∈ l, b < 256) ∧ l.length ≤ 140737488351232 := by
  rcases open_ints Tryz.underlying32 Tryz.underlying5 cellsU8 h with ⟨rfl, _⟩ | ⟨a, len, cap, zs, hcs, hb, hl, hm, hz, rfl, hcell, hwz⟩
  · exact ⟨none, 0, [], rfl, Rd.nil, Nat.le_refl _, (fun b hb => by cases hb), Nat.zero_le _⟩
  · have hle : len ≤ zs.length := by rw [hz]; split <;> omega
    have hw : ∀ n ∈ zs, 0 ≤ n ∧ n < 256 := fun n hn => by
      have := bounds_u8 (hwz n hn)
      omega
    have hlen : ((zs.take len).map Int.toNat).length = len := by simp; omega
    refine ⟨some a, cap, (zs.take len).map Int.toNat, by rw [hlen]; exact hcs, fun hn => ?_, by rw [hlen]; exact hl, fun b hb => ?_, ?_⟩
    · have hcc : ∀ (i x : Nat), ((zs.take len).map Int.toNat)[i]? = some x → w.cell? (a.add i) = some (.int .u8 (x : Int)) := by
        intro i x hx
        rw [List.getElem?_map, List.getElem?_take] at hx
        split at hx
        · rename_i hi
          have hiz : i < zs.length := by omega
          rw [List.getElem?_eq_getElem hiz] at hx
          simp only [Option.map_some, Option.some.injEq] at hx
          have h1 := hcell i hiz
          rw [List.getD_eq_getElem?_getD, List.getElem?_eq_getElem hiz, Option.getD_some] at h1
          have h2 := hw zs[i] (List.getElem_mem hiz)
          rw [h1, ← hx]
          congr 2
          omega
        · cases hx
      have h0 : 0 < ((zs.take len).map Int.toNat).length := by
        cases hl : (zs.take len).map Int.toNat with
        | nil => exact absurd hl hn
        | cons _ _ => simp
      have hb0 := World.block_lt_of_cell? w _ (hcc 0 _ (List.getElem?_eq_getElem h0))
      refine ⟨a, rfl, Nat.zero_le _, by simpa [block_of_add] using hb0, fun i x hx j u hu => ?_⟩
      match j, hu with
      | 0, hu =>
        simp [byteCell] at hu
        subst hu
        rw [Nat.mul_one, Nat.add_zero]
        exact hcc i x hx
      | (j + 1), hu => simp [byteCell] at hu
    · obtain ⟨n, hn, rfl⟩ := List.mem_map.1 hb
      have := hw n (List.mem_of_mem_take hn)
      omega
    · have h1 := hs (((lits .u8 (zs.take len)).length + (lits .u8 (zs.drop len) : List (DataW H)).length) * Tryz.prog.bytesOf 5) (by simp only [DataW.weights, Tryz.underlying32]; exact List.mem_cons_self ..)
      rw [bytesU8] at h1
      rw [hlen]
      simp only [lits, List.length_map, List.length_take, List.length_drop] at h1
      unfold reachBytes at h1
      omega
/-- the node at a place, out of its two fields -/
theorem open_node {ys : List (DataW H × List MemPlace)} {cellAt : Nat → Option Value} (h0 : ∃ (v : Value) (y : DataW H × List MemPlace) (n : Nat), cellAt 0 = some v ∧ ys[0]? = some y ∧ DataW.trod enc Tryz.prog w base spare held n 4 [v] = some y)
    (h1 : ∃ (v : Value) (y : DataW H × List MemPlace) (n : Nat), cellAt 1 = some v ∧ ys[1]? = some y ∧ DataW.trod enc Tryz.prog w base spare held n 32 [v] = some y)
    (hs : ∀ n ∈ DataW.weightsEach Tryz.prog [4, 32] (ys.map (·.1)), n ≤ reachBytes) :
    ∃ x : NV, cellAt 0 = some (.bool x.base) ∧ cellAt 1 = some (.slice x.A x.bs.length x.c) ∧ Nd w x := by
  obtain ⟨u0, y0, n0, q0, z0, t0⟩ := h0
  obtain ⟨u1, y1, n1, q1, z1, t1⟩ := h1
  obtain ⟨b, r0, _⟩ := DataW.trod_bool (by kernel_rfl) t0
  obtain ⟨A, c, l, r1, h1, h2, h3, h4⟩ := open_data t1 (fun n hn => hs n (DataW.weights_mem_each (j := 1) (t := 32) (d := y1.1) rfl (by rw [List.getElem?_map, z1]; rfl) n hn))
  simp only [List.cons.injEq, and_true] at r0 r1
  subst r0 r1
  exact ⟨⟨b, A, c, l⟩, q0, q1, h1, h2, h3, h4⟩
set_option maxRecDepth 100000 in
theorem open_nodes {fuel : Nat} {cs : List Value} {x : DataW H × List MemPlace} (h : DataW.trod enc Tryz.prog w base spare held fuel 51 cs = some x) (hs : ∀ n ∈ x.1.weights Tryz.prog 51, n ≤ reachBytes) :
    ∃ (A : Option Addr) (c : Nat) (l : List NV), cs = [.slice A l.length c] ∧ l.length ≤ c ∧ l.length ≤ 140737488351232 ∧ Nodes w 0 w.heap.size A l := by
  rcases open_slice_fields Tryz.underlying51 Tryz.underlying34 (by kernel_rfl) cellsNode h with ⟨hc, _⟩ | ⟨a, len, cap, m, D, Pl, hcs, hb, hl, hm, hmm, hx, hi⟩
  · exact ⟨none, 0, [], hc, Nat.le_refl _, Nat.zero_le _, Rd.nil, fun x hx => by cases hx⟩
  · have hle : len ≤ m := by rw [hmm]; split <;> omega
    have hx1 : x.1 = .slice ((List.range len).map D) ((List.range (m - len)).map fun j => D (len + j)) := by rw [hx]
    rw [hx1] at hs
    simp only [DataW.weights, Tryz.underlying51] at hs
    have hlen : len ≤ 140737488351232 := by
      have h1 := hs _ (List.mem_cons_self ..)
      rw [bytesNode] at h1
      simp only [List.length_map, List.length_range] at h1
      unfold reachBytes at h1
      omega
    obtain ⟨l, h1, h2⟩ := exists_list (fun i (x : NV) => (w.cell? (a.add (i * 2 + 0)) = some (.bool x.base) ∧ w.cell? (a.add (i * 2 + 1)) = some (.slice x.A x.bs.length x.c)) ∧ Nd w x) len (fun i hlt => by
      obtain ⟨ys, n, hD, _, hyl, hf⟩ := hi i (by omega)
      obtain ⟨x, c0, c1, hn⟩ := open_node (ys := ys) (cellAt := fun j => w.cell? (a.add (i * 2 + j))) (by
        obtain ⟨u, y, q, z, t⟩ := hf 0 _ rfl
        exact ⟨u, y, n, q, z, t⟩) (by
        obtain ⟨u, y, q, z, t⟩ := hf 1 _ rfl
        exact ⟨u, y, n, q, z, t⟩) (fun n hn => hs n (List.mem_cons_of_mem _ (List.mem_append.2 (.inl (weightsAll_mem (d := D i) (List.mem_map.2 ⟨i, List.mem_range.2 hlt, rfl⟩) n (by rw [hD]; simp only [DataW.weights, Tryz.underlying34]; exact hn))))))
      exact ⟨x, ⟨c0, c1⟩, hn⟩)
    refine ⟨some a, cap, l, by rw [h1]; exact hcs, by rw [h1]; exact hl, by rw [h1]; exact hlen, fun hn => ?_, fun x hx => ?_⟩
    · have h0 : 0 < l.length := by
        cases l with
        | nil => exact absurd rfl hn
        | cons _ _ => simp
      have hb0 := World.block_lt_of_cell? w _ (h2 0 _ (List.getElem?_eq_getElem h0)).1.1
      refine ⟨a, rfl, Nat.zero_le _, by simpa [block_of_add] using hb0, fun i x hx j u hu => ?_⟩
      match j, hu with
      | 0, hu => simp [NV.cells] at hu; subst hu; exact (h2 i x hx).1.1
      | 1, hu => simp [NV.cells] at hu; subst hu; exact (h2 i x hx).1.2
      | (j + 2), hu => simp [NV.cells] at hu
    · obtain ⟨i, hi⟩ := List.getElem?_of_mem hx
      exact (h2 i x hi).2
set_option maxRecDepth 100000 in
theorem open_one {r : Reach} {b0 : Nat} {v : Value} {d : DataW H} {p : List MemPlace} (hv : Value.okWide Tryz.prog w r b0 34 v) (h : DataW.Trod enc Tryz.prog w base spare held 34 v d p) (hs : ∀ n ∈ d.weights Tryz.prog 34, n ≤ reachBytes) :
    ∃ x : NV, v = x.val ∧ Nd w x := by
  obtain ⟨cs, n, ys, rfl, hsz, rfl, _, hf⟩ := open_struct_fields (P := Tryz.prog) Tryz.underlying34 (by kernel_rfl) cellsNode hv h
  obtain ⟨x, c0, c1, hn⟩ := open_node (ys := ys) (cellAt := fun j => cs[j]?) (by
    obtain ⟨u, y, q, z, t⟩ := hf 0 _ rfl
    exact ⟨u, y, n, q, z, t⟩) (by
    obtain ⟨u, y, q, z, t⟩ := hf 1 _ rfl
    exact ⟨u, y, n, q, z, t⟩) (fun n hn => hs n (by simp only [DataW.weights, Tryz.underlying34]; exact hn))
  refine ⟨x, ?_, hn⟩
  obtain ⟨ll⟩ := cs
  match ll, hsz with
  | [a, b], _ =>
    simp at c0 c1
    subst c0 c1
    rfl
theorem sized_at {P : Program} {ts : List TypeId} {ds : List (DataW H)} (h : (DataW.weightsEach P ts ds).all (· ≤ reachBytes) = true) {j : Nat} {t : TypeId} {d : DataW H} (ht : ts[j]? = some t) (hd : ds[j]? = some d) : ∀ n ∈ d.weights P t, n ≤ reachBytes := fun n hn => by
  have := List.all_eq_true.1 h n (DataW.weights_mem_each ht hd n hn)
  simpa using this
end
end Go.Proofs.YtjbdmaehomhdeaaGreat
