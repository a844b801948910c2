/- delta.Flat: what it computes; its closure none; the words for its results. -/
import Derived.Test.YtjbdmaehomhdeaaGreatZW
set_option linter.unusedSimpArgs false
set_option linter.unusedVariables false
namespace Go.Proofs.YtjbdmaehomhdeaaGreat
open Go.RowKit Go.Shelf

noncomputable def NV.d (x : NV) : Delta := decodedD x.base x.bs
noncomputable def NV.okOn (x : NV) (p : Page) : Bool := decide (decodeDE x.base x.bs = 0) && decide (x.d.applyE p = 0)
/-- the changes, the oldest first; each with how many newer ones there are -/
noncomputable def flatGo : Page → List (Nat × NV) → Page × Int × Int
  | p, [] => (p, 0, 0)
  | p, (i, x) :: r => cond (x.okOn p) (cond (decide (x.d.kind = 5)) (cond (decide (0 < i)) (Page.zero, 0, 112) (x.d.applyP p, x.d.page, 0)) (flatGo (x.d.applyP p) r)) (Page.zero, 0, 112)
/-- the page, where no change has come to an end -/
noncomputable def flatRun : Page → List (Nat × NV) → Option Page
  | p, [] => some p
  | p, (_, x) :: r => cond (x.okOn p && !decide (x.d.kind = 5)) (flatRun (x.d.applyP p) r) none
theorem flatGo_run : ∀ (pre : List (Nat × NV)) (p q : Page) (r : List (Nat × NV)), flatRun p pre = some q → flatGo p (pre ++ r) = flatGo q r := by
  intro pre
  induction pre with
  | nil => intro p q r h; injection h with h; subst h; rfl
  | cons y pre ih =>
    obtain ⟨i, x⟩ := y
    intro p q r h
    rw [flatRun] at h
    cases hc : (x.okOn p && !decide (x.d.kind = 5)) with
    | false => rw [hc] at h; cases h
    | true =>
      rw [hc] at h
      simp only [Bool.and_eq_true, Bool.not_eq_true'] at hc
      rw [List.cons_append, flatGo, hc.1, hc.2]
      exact ih _ _ _ h
theorem flatRun_snoc : ∀ (pre : List (Nat × NV)) (p q : Page) (i : Nat) (x : NV), flatRun p pre = some q → x.okOn q = true → x.d.kind ≠ 5 → flatRun p (pre ++ [(i, x)]) = some (x.d.applyP q) := by
  intro pre
  induction pre with
  | nil =>
    intro p q i x h h1 h2
    injection h with h; subst h
    rw [List.nil_append, flatRun, h1, decide_eq_false h2]; rfl
  | cons y pre ih =>
    obtain ⟨j, y⟩ := y
    intro p q i x h h1 h2
    rw [flatRun] at h
    cases hc : (y.okOn p && !decide (y.d.kind = 5)) with
    | false => rw [hc] at h; cases h
    | true =>
      rw [hc] at h
      rw [List.cons_append, flatRun, hc]
      exact ih _ _ _ _ h h1 h2
/-- the whole -/
noncomputable def flatB (l : List NV) : Bool := decide (1 ≤ l.length) && (decide (l.length ≤ 64) && l.getLast?.any (fun x => x.base))
noncomputable def flatL (l : List NV) : Page × Int × Int := match l.getLast? with
  | none => (Page.zero, 0, 112)
  | some z => cond (flatB l && decide (decodeE z.bs = 0)) (flatGo (decoded z.bs) ((down (l.length - 1)).map fun i => (i.1, l[i.1]?.getD ⟨false, none, 0, []⟩))) (Page.zero, 0, 112)
/-- a chain's nodes in memory -/
structure Nodes (w : World) (lo hi : Nat) (A : Option Addr) (l : List NV) : Prop where
  row : Rd NV.cells 2 w lo hi A l
  by_ : ∀ x ∈ l, Rd byteCell 1 w lo hi x.A x.bs ∧ x.bs.length ≤ x.c ∧ (∀ b ∈ x.bs, b < 256) ∧ x.bs.length ≤ 140737488351232
theorem Nodes.below {w w' : World} {lo hi : Nat} {A : Option Addr} {l : List NV} (h : Nodes w lo hi A l) (hb : Below hi w w') : Nodes w' lo hi A l :=
  ⟨h.row.below hb, fun x hx => ⟨(h.by_ x hx).1.below hb, (h.by_ x hx).2⟩⟩

set_option maxHeartbeats 2000000 in
theorem flat_none (w : World) : Calls Tryz.prog 49 #[] w (fun e w' => e = .returned (.tuple #[.agg #[Value.int IntKind.i64 0, Value.string { data := #[] }, Value.string { data := #[] }, Value.bool false, Value.int IntKind.i64 0, Value.slice none 0 0, Value.slice none 0 0], .int .i64 0, .int .i64 112]) ∧ Below w.heap.size w w') := by
  have HF := Lib.hid (Fr.one w 27 #[Value.int IntKind.i64 0, Value.string { data := #[] }, Value.string { data := #[] }, Value.bool false, Value.int IntKind.i64 0, Value.slice none 0 0, Value.slice none 0 0])
  go_enter Tryz.func49, Tryz.ntmps49
  go_wp2_with (refine wpList_store_row rfl 27 _ _ rfl rfl (w.heap.size) rfl _ _ _ rfl HF.out.b0 rfl (by kernel_rfl) (List.all_eq_true.1 rfl) ?_; rintro wE hTE hBE)
  have HF1 := Lib.hid (HF.out.t0 hTE hBE)
  exact bodyPost_ret (v := .tuple #[.agg #[Value.int IntKind.i64 0, Value.string { data := #[] }, Value.string { data := #[] }, Value.bool false, Value.int IntKind.i64 0, Value.slice none 0 0, Value.slice none 0 0], .int .i64 0, .int .i64 112]) (by
    have e := run_loadVar_row (P := Tryz.prog) wE w.heap.size 27 27 #[Value.int IntKind.i64 0, Value.string { data := #[] }, Value.string { data := #[] }, Value.bool false, Value.int IntKind.i64 0, Value.slice none 0 0, Value.slice none 0 0] (0, 0) _ HF1.out.b0 Tryz.underlying27 rfl (by kernel_rfl)
    simp [results, Tryz.results49, asAddr, e]) rfl ⟨rfl, HF1.out.be⟩

theorem run_slice_high {P : Program} (W : World) (t e : TypeId) (k : Nat) (hu : P.underlying t = some (.slice e)) (hs : (P.info? e).map (·.size) = some k) (A : Option Addr) (n c : Nat) (j : Int) (i : Nat) (hj : j = (i : Int)) (hi : i ≤ c) :
    (Instr.slice t (.slice A n c) none (some (.int .i64 j)) none).run P W = .ok (.slice A i c) W := by
  subst hj
  cases hq : P.info? e with
  | none => simp [hq] at hs
  | some d =>
    simp [Instr.slice, Instr.sliceBounds, Instr.sliceBound, asIntOf, underlying, sizeOf, typeInfo, Sem.run_bind, hu, hq, hi, Result.andThen]
    intro _
    have := add_zero_map A d.size
    simpa using this
/-- results: a page, and two numbers, each in a box -/
theorem results_pcc {P : Program} {fn : Func} {p p2 p3 : Tmp} {ty ty2 ty3 : TypeId} (h : fn.results = #[.cell p ty, .cell p2 ty2, .cell p3 ty3]) (tmps : Array Value) (w : World) (g g2 g3 : Nat) (t : TypeId) (cs : Array Value) (d : TypeDesc)
    (hp : tmps.getD p undef = .pointer (some ⟨g, 0, none⟩)) (hg : Blk w g t cs) (hu : P.underlying ty = some d) (hd : (match d with | .struct _ | .array _ _ => true | _ => false) = true) (hi : (P.info? ty).map (·.size) = some cs.size)
    (hp2 : tmps.getD p2 undef = .pointer (some ⟨g2, 0, none⟩)) {v2 : Value} (h2 : (loadVar ty2 ⟨g2, 0, none⟩).run P w = .ok v2 w)
    (hp3 : tmps.getD p3 undef = .pointer (some ⟨g3, 0, none⟩)) {v3 : Value} (h3 : (loadVar ty3 ⟨g3, 0, none⟩).run P w = .ok v3 w) :
    (results fn tmps).run P w = .ok (.tuple #[.agg cs, v2, v3]) w := by
  have hp' : tmps[p]?.getD undef = .pointer (some ⟨g, 0, none⟩) := by simpa using hp
  have hp2' : tmps[p2]?.getD undef = .pointer (some ⟨g2, 0, none⟩) := by simpa using hp2
  have hp3' : tmps[p3]?.getD undef = .pointer (some ⟨g3, 0, none⟩) := by simpa using hp3
  simp [results, h, hp', hp2', hp3', asAddr, run_loadVar_row w g t ty cs _ d hg hu hd hi, h2, h3]
/-- what Flat gives back -/
def PostFl (w : World) (R : Page × Int × Int) (e : Ending) (w' : World) : Prop := ∃ A A' c c', e = .returned (.tuple #[R.1.val A c A' c', .int .i64 R.2.1, .int .i64 R.2.2]) ∧ Pg w' w.heap.size w'.heap.size R.1 A A' c c' ∧ Below w.heap.size w w'
/-- the results in their boxes -/
def Held (w : World) (R : Page × Int × Int) (W : World) : Prop := ∃ A A' c c', Blk W w.heap.size 27 (R.1.cellsV A c A' c') ∧ Blk W (w.heap.size + 1) 3 #[.int .i64 R.2.1] ∧ Blk W (w.heap.size + 2) 35 #[.int .i64 R.2.2] ∧ Pg W w.heap.size W.heap.size R.1 A A' c c' ∧ Below w.heap.size w W
theorem Held.ret {w W : World} {R : Page × Int × Int} (h : Held w R W) {tmps : Array Value} (h2 : tmps.getD 2 undef = .pointer (some ⟨w.heap.size, 0, none⟩)) (h3 : tmps.getD 3 undef = .pointer (some ⟨w.heap.size + 1, 0, none⟩)) (h4 : tmps.getD 4 undef = .pointer (some ⟨w.heap.size + 2, 0, none⟩)) :
    ∃ v, (results Tryz.f23 tmps).run Tryz.prog W = .ok v W ∧ PostFl w R (.returned v) W := by
  obtain ⟨A, A', c, c', b0, b1, b2, hp, hb⟩ := h
  have k1 := b1.cell 0
  have k2 := b2.cell 0
  simp only [List.getElem?_toArray, List.getElem?_cons_zero] at k1 k2
  exact ⟨_, results_pcc rfl tmps W _ _ _ _ _ _ h2 b0 Tryz.underlying27 rfl (by kernel_rfl) h3 (v2 := .int .i64 R.2.1) (by go_simp) h4 (v3 := .int .i64 R.2.2) (by go_simp), A, A', c, c', rfl, hp, hb⟩
theorem Held.bad {w W : World} {r : List (TypeId × Array Value)} (h : Fr w W ((27, #[Value.int IntKind.i64 0, Value.string { data := #[] }, Value.string { data := #[] }, Value.bool false, Value.int IntKind.i64 0, Value.slice none 0 0, Value.slice none 0 0]) :: (3, #[.int .i64 0]) :: (35, #[.int .i64 112]) :: r)) : Held w (Page.zero, 0, 112) W :=
  ⟨none, none, 0, 0, h.b0, h.b1, h.b2, ⟨Rd.nil, Rd.nil, Nat.le_refl _, Nat.le_refl _, Nat.zero_le _, Nat.zero_le _⟩, h.be⟩
theorem flatB_eq {l : List NV} (h1 : 1 ≤ l.length) (h2 : l.length ≤ 64) {x : NV} (hx : l[l.length - 1]? = some x) : flatB l = x.base := by
  unfold flatB
  rw [List.getLast?_eq_getElem?, hx, decide_eq_true h1, decide_eq_true h2]; rfl
/-- a world that holds all cells that another holds -/
structure Kept (A B : World) : Prop where
  cell : ∀ p u, A.cell? p = some u → B.cell? p = some u
  blk : ∀ g t cs, Blk A g t cs → Blk B g t cs
  size : A.heap.size ≤ B.heap.size
theorem Kept.of {A B : World} {row : Option Nat} (hg : A.grownBy B row) (hr : ∀ r, row = some r → ∃ o : Obj, A.heap[r]? = some o ∧ o.isCells = false) : Kept A B :=
  ⟨fun _ _ h => cell_kept h hg hr, fun _ _ _ h => (grownBy_keeps_cells hg hr h rfl).trans h, hg.size⟩
theorem Rd.kept {α : Type} {f : α → List Value} {k : Nat} {A B : World} {lo hi : Nat} {a : Option Addr} {l : List α} (h : Rd f k A lo hi a l) (hk : Kept A B) : Rd f k B lo hi a l := fun hn => by
  obtain ⟨ad, e, h1, h2, h3⟩ := h hn
  exact ⟨ad, e, h1, h2, fun i x hx j u hu => hk.cell _ _ (h3 i x hx j u hu)⟩
theorem Pg.kept {A B : World} {lo : Nat} {p : Page} {a a' : Option Addr} {c c' : Nat} (h : Pg A lo A.heap.size p a a' c c') (hk : Kept A B) : Pg B lo B.heap.size p a a' c c' :=
  ⟨(h.items.kept hk).mono (Nat.le_refl _) hk.size, (h.kids.kept hk).mono (Nat.le_refl _) hk.size, h.li, h.lk, h.bi, h.bk⟩

theorem Fr.grownRow {w A B : World} {bs : List (TypeId × Array Value)} {row : Option Nat} (h : Fr w A bs) (hg : A.grownBy B row) (hr : ∀ r, row = some r → w.heap.size ≤ r ∧ ∃ o : Obj, A.heap[r]? = some o ∧ o.isCells = false) : Fr w B bs :=
  have hk := Kept.of hg (fun r e => (hr r e).2)
  ⟨h.be.grown hg h.be.size (fun k e => (hr k e).1), Nat.le_trans h.sz hk.size, fun k t cs hb => hk.blk _ _ _ (h.bl k t cs hb)⟩
theorem Held.grownRow {w A B : World} {R : Page × Int × Int} {row : Option Nat} (h : Held w R A) (hg : A.grownBy B row) (hr : ∀ r, row = some r → w.heap.size ≤ r ∧ ∃ o : Obj, A.heap[r]? = some o ∧ o.isCells = false) : Held w R B := by
  have hk := Kept.of hg (fun r e => (hr r e).2)
  obtain ⟨a, a', c, c', b0, b1, b2, hp, hb⟩ := h
  exact ⟨a, a', c, c', hk.blk _ _ _ b0, hk.blk _ _ _ b1, hk.blk _ _ _ b2, hp.kept hk, hb.grown hg hb.size (fun k e => (hr k e).1)⟩
/-- the law of a range over a function, its rounds' frames told by the frame ahead of it -/
theorem wpIn_rangeFunc_at {α : Type} {F : Fence} {n : Nat} {P : Program} {g : Operand} {ps : Array Tmp} {assign body : Code} {Q : Exit → Act → World → Prop} {a : Act} {w : World}
    (hro : F.round = none) (h1 : 1 ≤ n) {gf : Nat} {lb : Array Value} (hg : a.eval g = .func (.func gf) #[] lb) (hFg : F.fn gf) (eg : ∀ args w, (callFunc gf args).run P w = .ok (.enter gf args) w)
    {encs : α → Array Value} {Kp : World → World → Prop} {S Sp : List α → Prop} {N : Nat} {w0 : World} (hseq : SeqStopsK F (n - 1) P gf lb encs Kp S Sp N w0)
    (hKt : ∀ {A B C : World}, Kp A B → Kp B C → Kp A C) (hKb : ∀ (W : World) (l : Nat) (o o' : Obj), w.heap.size ≤ l → W.heap[l]? = some o → o.isCells = false → o.isWalk = false → Kp W (W.putObj l o')) (hb0 : Below w0.heap.size w0 w) (hps : ∀ x, (encs x).size = ps.size)
    (I : List α → World → Prop) (Ix : Code → List α → World → Prop) (hI : OwnFrom w.heap.size I) (hIx : ∀ c, OwnFrom w.heap.size (Ix c)) (h0 : I [] w) (Ax : Act → α → Act → World → Prop) (hAx : ∀ x a', OwnFrom w.heap.size (fun (_ : Unit) W => Ax a x a' W))
    (hassign : ∀ (l : Nat) (pre : List α) (x : α) (W : World) (K : Act → World → Prop), I pre W → (∀ a' W', KeepsFrom w.heap.size W W' → Kp W W' → I pre W' → Ax a x a' W' → K a' W') →
      assign.wpIn (F.inRound l) (n - 1 - 1) P (Exit.then K (fun _ _ _ => False)) { tmps := (ps.zip (encs x)).foldl (fun t (p, v) => t.setIfInBounds p v) a.tmps, defers := [] } W)
    (hbody : ∀ (l : Nat) (pre : List α) (x : α) (a' : Act) (W : World), w.heap.size ≤ l → (∃ r, W.heap[l]? = some (.loop r)) → I pre W → Ax a x a' W → pre.length < N → body.wpIn (F.inRound l) (n - 1 - 1) P (ownPostG w.heap.size Kp I Ix (pre ++ [x]) W) a' W)
    (hdone : ∀ (D : Nat) (xs : List α) (W : World), w.heap.size ≤ D → S xs → I xs W → W.heap[D]? = some (.deferred (some [])) → Q .normal { a with defers := { target := .collected D, args := #[] } :: a.defers } W)
    (hstop : ∀ (D : Nat) (c : Code) (pre : List α) (W : World), w.heap.size ≤ D → Sp pre → Ix c pre W → W.heap[D]? = some (.deferred (some [])) → c.wpIn F n P Q { a with defers := { target := .collected D, args := #[] } :: a.defers } W) :
    (Code.rangeFunc g ps assign body).wpIn F n P Q a w :=
  wpIn_rangeFunc_ownH hro h1 hg hFg eg hseq hKt hKb hb0 hps I Ix hI hIx h0 (Ax a) hAx hassign hbody hdone hstop

def Delta.cellsV (d : Delta) (A : Option Addr) (c : Nat) (A' : Option Addr) (c' : Nat) : Array Value := #[.int .i64 d.kind, .string d.item.key, .string d.item.value, .int .i64 d.item.no, .bool d.item.gone, .string d.key, .int .i64 d.page,
    .int .i64 d.right.level, .string d.right.low, .string d.right.high, .bool d.right.last, .int .i64 d.right.side, .slice A d.right.items.length c, .slice A' d.right.kids.length c']
/-- what a round has kept so far -/
structure Rn (n₀ Bs : Nat) (W A : World) : Prop where
  ko : KeepsOthers W A
  kb : KB n₀ Bs W A
  sz : n₀ ≤ A.heap.size ∧ Bs < A.heap.size
section
variable {n₀ Bs : Nat} {W A A' : World}
theorem Rn.start (h1 : n₀ ≤ W.heap.size) (h2 : Bs < W.heap.size) : Rn n₀ Bs W W := ⟨KeepsOthers.refl _, KB.refl _ _ _, h1, h2⟩
theorem Rn.call (h : Rn n₀ Bs W A) (hb : Below A.heap.size A A') : Rn n₀ Bs W A' :=
  ⟨h.ko.trans ⟨hb.size, fun k o hk _ => (hb.block k (Array.getElem?_eq_some_iff.1 hk).1).trans hk⟩, h.kb.trans ⟨hb.mono h.sz.1, hb.block _ h.sz.2⟩, Nat.le_trans h.sz.1 hb.size, Nat.lt_of_lt_of_le h.sz.2 hb.size⟩
theorem Rn.alloc (h : Rn n₀ Bs W A) (o : Obj) : Rn n₀ Bs W (A.alloc o) := h.call ((Below.refl _ _).alloc (Nat.le_refl _) o)
theorem Rn.turn {g : Nat} {t : TypeId} {cs : Array Value} (h : Rn n₀ Bs W A) (hT : Turned A A' g) (hg : Blk A g t cs) (h1 : n₀ ≤ g) (h2 : g ≠ Bs) : Rn n₀ Bs W A' :=
  ⟨h.ko.trans ⟨by rw [hT.sz]; exact Nat.le_refl _, fun k o hk ho => (hT.other (fun e => by subst e; unfold Blk at hg; rw [hg] at hk; cases hk; cases ho)).trans hk⟩, h.kb.trans ⟨hT.below (Below.refl _ _) h1 h.sz.1, hT.other (Ne.symm h2)⟩, by rw [hT.sz]; exact h.sz⟩
theorem Rn.set {g i : Nat} {v : Value} (h : Rn n₀ Bs W A) (h1 : n₀ ≤ g) (h2 : g ≠ Bs) : Rn n₀ Bs W (A.setCell ⟨g, i, none⟩ v) :=
  ⟨h.ko.trans (KeepsOthers.setCell _ _ _), h.kb.trans ⟨(Below.refl _ _).setCell (p := ⟨g, i, none⟩) h1 _, Below.heap_setCell A ⟨g, i, none⟩ v Bs (Ne.symm h2)⟩, by simpa using h.sz⟩
theorem Rn.drew (h : Rn n₀ Bs W A) : Rn n₀ Bs W A.drew := ⟨h.ko.trans (KeepsOthers.drew _), h.kb.trans ⟨(Below.refl _ _).drew, rfl⟩, h.sz⟩
end

theorem Pg.turned {A A' : World} {g lo lo2 : Nat} {p : Page} {a a' : Option Addr} {c c' : Nat} (h : Pg A lo A.heap.size p a a' c c') (hT : Turned A A' g) (hg : g < lo) (h2 : lo2 ≤ lo) : Pg A' lo2 A'.heap.size p a a' c c' :=
  ⟨(h.items.keep fun q h1 _ => World.cell?_of_block (hT.other (by omega))).mono h2 (by rw [hT.sz]; exact Nat.le_refl _), (h.kids.keep fun q h1 _ => World.cell?_of_block (hT.other (by omega))).mono h2 (by rw [hT.sz]; exact Nat.le_refl _), h.li, h.lk, h.bi, h.bk⟩
/-- the round's last region: a frozen page into the results -/
structure FlJ (w W0 V0 : World) (bs : Nat) (T TD TI TE : TypeId) (g6 g10 : Nat) (QV DC : Array Value) (rv : Value) (pg : Int) (D : Nat → Bool) (X : Nat → Value) (A : World) : Prop where
  rn : Rn w.heap.size bs W0 A
  be : Below w.heap.size w A
  sz : w.heap.size + 4 ≤ A.heap.size
  b6 : Blk A g6 T QV
  b10 : Blk A g10 TD DC
  l0 : D 0 = true → X 96 = .agg QV
  l1 : D 1 = true → X 97 = .agg DC
  c2 : D 2 = true → X 98 = rv
  t3 : D 3 = true → X 99 = .agg #[.int .i64 pg]
  f4 : D 4 = true → X 100 = .int .i64 pg
  r0 : ∃ a, a.size = 7 ∧ Blk A w.heap.size T a ∧ (D 5 = true → a = QV)
  r1 : ∃ v, Blk A (w.heap.size + 1) TI #[v] ∧ (D 6 = true → v = .int .i64 pg)
  r2 : ∃ v, Blk A (w.heap.size + 2) TE #[v] ∧ (D 7 = true → v = .int .i64 0)
  keep : ∀ k, w.heap.size + 4 ≤ k → k < V0.heap.size → A.heap[k]? = V0.heap[k]?
  gt : V0.heap.size ≤ A.heap.size
section
variable {w W0 V0 : World} {bs : Nat} {T TD TI TE : TypeId} {g6 g10 : Nat} {QV DC : Array Value} {rv : Value} {pg : Int} {D : Nat → Bool} {X : Nat → Value} {W : World}
theorem FlJ.load0 (h : FlJ w W0 V0 bs T TD TI TE g6 g10 QV DC rv pg D X W) : FlJ w W0 V0 bs T TD TI TE g6 g10 QV DC rv pg (on1 D 0) (put1 X 96 (.agg QV)) W := by
  refine ⟨?_, ?_, ?_, ?_, ?_, ?_, ?_, ?_, ?_, ?_, ?_, ?_, ?_, ?_, ?_⟩ <;> try simp only [on1_ne (show 1 ≠ 0 by decide), on1_ne (show 2 ≠ 0 by decide), on1_ne (show 3 ≠ 0 by decide), on1_ne (show 4 ≠ 0 by decide), on1_ne (show 5 ≠ 0 by decide), on1_ne (show 6 ≠ 0 by decide), on1_ne (show 7 ≠ 0 by decide), put1_ne (show 97 ≠ 96 by decide), put1_ne (show 98 ≠ 96 by decide), put1_ne (show 99 ≠ 96 by decide), put1_ne (show 100 ≠ 96 by decide), on1_eq, put1_eq]
  · exact h.rn
  · exact h.be
  · exact h.sz
  · exact h.b6
  · exact h.b10
  · exact fun _ => trivial
  · exact h.l1
  · exact h.c2
  · exact h.t3
  · exact h.f4
  · exact h.r0
  · exact h.r1
  · exact h.r2
  · exact h.keep
  · exact h.gt
theorem FlJ.load1 (h : FlJ w W0 V0 bs T TD TI TE g6 g10 QV DC rv pg D X W) : FlJ w W0 V0 bs T TD TI TE g6 g10 QV DC rv pg (on1 D 1) (put1 X 97 (.agg DC)) W := by
  refine ⟨?_, ?_, ?_, ?_, ?_, ?_, ?_, ?_, ?_, ?_, ?_, ?_, ?_, ?_, ?_⟩ <;> try simp only [on1_ne (show 0 ≠ 1 by decide), on1_ne (show 2 ≠ 1 by decide), on1_ne (show 3 ≠ 1 by decide), on1_ne (show 4 ≠ 1 by decide), on1_ne (show 5 ≠ 1 by decide), on1_ne (show 6 ≠ 1 by decide), on1_ne (show 7 ≠ 1 by decide), put1_ne (show 96 ≠ 97 by decide), put1_ne (show 98 ≠ 97 by decide), put1_ne (show 99 ≠ 97 by decide), put1_ne (show 100 ≠ 97 by decide), on1_eq, put1_eq]
  · exact h.rn
  · exact h.be
  · exact h.sz
  · exact h.b6
  · exact h.b10
  · exact h.l0
  · exact fun _ => trivial
  · exact h.c2
  · exact h.t3
  · exact h.f4
  · exact h.r0
  · exact h.r1
  · exact h.r2
  · exact h.keep
  · exact h.gt
theorem FlJ.call2 (h : FlJ w W0 V0 bs T TD TI TE g6 g10 QV DC rv pg D X W) {W' : World} (hb : Below W.heap.size W W') : FlJ w W0 V0 bs T TD TI TE g6 g10 QV DC rv pg (on1 D 2) (put1 X 98 rv) W' := by
  refine ⟨?_, ?_, ?_, ?_, ?_, ?_, ?_, ?_, ?_, ?_, ?_, ?_, ?_, ?_, ?_⟩ <;> try simp only [on1_ne (show 0 ≠ 2 by decide), on1_ne (show 1 ≠ 2 by decide), on1_ne (show 3 ≠ 2 by decide), on1_ne (show 4 ≠ 2 by decide), on1_ne (show 5 ≠ 2 by decide), on1_ne (show 6 ≠ 2 by decide), on1_ne (show 7 ≠ 2 by decide), put1_ne (show 96 ≠ 98 by decide), put1_ne (show 97 ≠ 98 by decide), put1_ne (show 99 ≠ 98 by decide), put1_ne (show 100 ≠ 98 by decide), on1_eq, put1_eq]
  · exact h.rn.call hb
  · exact h.be.trans (hb.mono h.be.size)
  · exact Nat.le_trans h.sz hb.size
  · exact h.b6.below hb h.b6.lt
  · exact h.b10.below hb h.b10.lt
  · exact h.l0
  · exact h.l1
  · exact fun _ => trivial
  · exact h.t3
  · exact h.f4
  · exact h.r0.elim fun a ha => ⟨a, ha.1, ha.2.1.below hb ha.2.1.lt, ha.2.2⟩
  · exact h.r1.elim fun a ha => ⟨a, ha.1.below hb ha.1.lt, ha.2⟩
  · exact h.r2.elim fun a ha => ⟨a, ha.1.below hb ha.1.lt, ha.2⟩
  · exact fun k h1 h2 => (hb.block k (Nat.lt_of_lt_of_le h2 h.gt)).trans (h.keep k h1 h2)
  · exact Nat.le_trans h.gt hb.size
theorem FlJ.assert3 (h : FlJ w W0 V0 bs T TD TI TE g6 g10 QV DC rv pg D X W) : FlJ w W0 V0 bs T TD TI TE g6 g10 QV DC rv pg (on1 D 3) (put1 X 99 (.agg #[.int .i64 pg])) W := by
  refine ⟨?_, ?_, ?_, ?_, ?_, ?_, ?_, ?_, ?_, ?_, ?_, ?_, ?_, ?_, ?_⟩ <;> try simp only [on1_ne (show 0 ≠ 3 by decide), on1_ne (show 1 ≠ 3 by decide), on1_ne (show 2 ≠ 3 by decide), on1_ne (show 4 ≠ 3 by decide), on1_ne (show 5 ≠ 3 by decide), on1_ne (show 6 ≠ 3 by decide), on1_ne (show 7 ≠ 3 by decide), put1_ne (show 96 ≠ 99 by decide), put1_ne (show 97 ≠ 99 by decide), put1_ne (show 98 ≠ 99 by decide), put1_ne (show 100 ≠ 99 by decide), on1_eq, put1_eq]
  · exact h.rn
  · exact h.be
  · exact h.sz
  · exact h.b6
  · exact h.b10
  · exact h.l0
  · exact h.l1
  · exact h.c2
  · exact fun _ => trivial
  · exact h.f4
  · exact h.r0
  · exact h.r1
  · exact h.r2
  · exact h.keep
  · exact h.gt
theorem FlJ.field4 (h : FlJ w W0 V0 bs T TD TI TE g6 g10 QV DC rv pg D X W) : FlJ w W0 V0 bs T TD TI TE g6 g10 QV DC rv pg (on1 D 4) (put1 X 100 (.int .i64 pg)) W := by
  refine ⟨?_, ?_, ?_, ?_, ?_, ?_, ?_, ?_, ?_, ?_, ?_, ?_, ?_, ?_, ?_⟩ <;> try simp only [on1_ne (show 0 ≠ 4 by decide), on1_ne (show 1 ≠ 4 by decide), on1_ne (show 2 ≠ 4 by decide), on1_ne (show 3 ≠ 4 by decide), on1_ne (show 5 ≠ 4 by decide), on1_ne (show 6 ≠ 4 by decide), on1_ne (show 7 ≠ 4 by decide), put1_ne (show 96 ≠ 100 by decide), put1_ne (show 97 ≠ 100 by decide), put1_ne (show 98 ≠ 100 by decide), put1_ne (show 99 ≠ 100 by decide), on1_eq, put1_eq]
  · exact h.rn
  · exact h.be
  · exact h.sz
  · exact h.b6
  · exact h.b10
  · exact h.l0
  · exact h.l1
  · exact h.c2
  · exact h.t3
  · exact fun _ => trivial
  · exact h.r0
  · exact h.r1
  · exact h.r2
  · exact h.keep
  · exact h.gt
theorem FlJ.store5 (h : FlJ w W0 V0 bs T TD TI TE g6 g10 QV DC rv pg D X W) (hg6 : w.heap.size + 4 ≤ g6) (hg10 : w.heap.size + 4 ≤ g10) (hbs : w.heap.size + 4 ≤ bs) {W' : World} (hV : QV.size = 7) (hT : Turned W W' w.heap.size) (hB : Blk W' w.heap.size T QV) : FlJ w W0 V0 bs T TD TI TE g6 g10 QV DC rv pg (on1 D 5) X W' := by
  refine ⟨?_, ?_, ?_, ?_, ?_, ?_, ?_, ?_, ?_, ?_, ?_, ?_, ?_, ?_, ?_⟩ <;> try simp only [on1_ne (show 0 ≠ 5 by decide), on1_ne (show 1 ≠ 5 by decide), on1_ne (show 2 ≠ 5 by decide), on1_ne (show 3 ≠ 5 by decide), on1_ne (show 4 ≠ 5 by decide), on1_ne (show 6 ≠ 5 by decide), on1_ne (show 7 ≠ 5 by decide), on1_eq]
  · exact h.r0.elim fun a ha => h.rn.turn hT ha.2.1 (Nat.le_refl _) (by omega)
  · exact hT.below h.be (Nat.le_refl _) h.be.size
  · rw [hT.sz]; exact h.sz
  · exact hT.blk h.b6 (by omega)
  · exact hT.blk h.b10 (by omega)
  · exact h.l0
  · exact h.l1
  · exact h.c2
  · exact h.t3
  · exact h.f4
  · exact ⟨QV, hV, hB, fun _ => rfl⟩
  · exact h.r1.elim fun a ha => ⟨a, hT.blk ha.1 (by omega), ha.2⟩
  · exact h.r2.elim fun a ha => ⟨a, hT.blk ha.1 (by omega), ha.2⟩
  · exact fun k h1 h2 => (hT.other (by omega)).trans (h.keep k h1 h2)
  · rw [hT.sz]; exact h.gt
theorem FlJ.store6 (h : FlJ w W0 V0 bs T TD TI TE g6 g10 QV DC rv pg D X W) (hg6 : w.heap.size + 4 ≤ g6) (hg10 : w.heap.size + 4 ≤ g10) (hbs : w.heap.size + 4 ≤ bs) : FlJ w W0 V0 bs T TD TI TE g6 g10 QV DC rv pg (on1 D 6) X (W.setCell ⟨w.heap.size + 1, 0, none⟩ (.int .i64 pg)) := by
  refine ⟨?_, ?_, ?_, ?_, ?_, ?_, ?_, ?_, ?_, ?_, ?_, ?_, ?_, ?_, ?_⟩ <;> try simp only [on1_ne (show 0 ≠ 6 by decide), on1_ne (show 1 ≠ 6 by decide), on1_ne (show 2 ≠ 6 by decide), on1_ne (show 3 ≠ 6 by decide), on1_ne (show 4 ≠ 6 by decide), on1_ne (show 5 ≠ 6 by decide), on1_ne (show 7 ≠ 6 by decide), on1_eq]
  · exact h.rn.set (g := w.heap.size + 1) (i := 0) (by omega) (by omega)
  · exact h.be.setCell (p := ⟨w.heap.size + 1, 0, none⟩) (by show w.heap.size ≤ w.heap.size + 1; omega) _
  · simpa using h.sz
  · exact h.b6.far (p := ⟨w.heap.size + 1, 0, none⟩) (by simp; omega) _
  · exact h.b10.far (p := ⟨w.heap.size + 1, 0, none⟩) (by simp; omega) _
  · exact h.l0
  · exact h.l1
  · exact h.c2
  · exact h.t3
  · exact h.f4
  · exact h.r0.elim fun a ha => ⟨a, ha.1, ha.2.1.far (p := ⟨w.heap.size + 1, 0, none⟩) (by simp) _, ha.2.2⟩
  · exact h.r1.elim fun a ha => ⟨.int .i64 pg, ha.1.set_ 0 _, fun _ => rfl⟩
  · exact h.r2.elim fun a ha => ⟨a, ha.1.far (p := ⟨w.heap.size + 1, 0, none⟩) (by simp) _, ha.2⟩
  · exact fun k h1 h2 => (Below.heap_setCell W ⟨w.heap.size + 1, 0, none⟩ _ k (by show k ≠ w.heap.size + 1; omega)).trans (h.keep k h1 h2)
  · simpa using h.gt
theorem FlJ.store7 (h : FlJ w W0 V0 bs T TD TI TE g6 g10 QV DC rv pg D X W) (hg6 : w.heap.size + 4 ≤ g6) (hg10 : w.heap.size + 4 ≤ g10) (hbs : w.heap.size + 4 ≤ bs) : FlJ w W0 V0 bs T TD TI TE g6 g10 QV DC rv pg (on1 D 7) X (W.setCell ⟨w.heap.size + 2, 0, none⟩ (.int .i64 0)) := by
  refine ⟨?_, ?_, ?_, ?_, ?_, ?_, ?_, ?_, ?_, ?_, ?_, ?_, ?_, ?_, ?_⟩ <;> try simp only [on1_ne (show 0 ≠ 7 by decide), on1_ne (show 1 ≠ 7 by decide), on1_ne (show 2 ≠ 7 by decide), on1_ne (show 3 ≠ 7 by decide), on1_ne (show 4 ≠ 7 by decide), on1_ne (show 5 ≠ 7 by decide), on1_ne (show 6 ≠ 7 by decide), on1_eq]
  · exact h.rn.set (g := w.heap.size + 2) (i := 0) (by omega) (by omega)
  · exact h.be.setCell (p := ⟨w.heap.size + 2, 0, none⟩) (by show w.heap.size ≤ w.heap.size + 2; omega) _
  · simpa using h.sz
  · exact h.b6.far (p := ⟨w.heap.size + 2, 0, none⟩) (by simp; omega) _
  · exact h.b10.far (p := ⟨w.heap.size + 2, 0, none⟩) (by simp; omega) _
  · exact h.l0
  · exact h.l1
  · exact h.c2
  · exact h.t3
  · exact h.f4
  · exact h.r0.elim fun a ha => ⟨a, ha.1, ha.2.1.far (p := ⟨w.heap.size + 2, 0, none⟩) (by simp) _, ha.2.2⟩
  · exact h.r1.elim fun a ha => ⟨a, ha.1.far (p := ⟨w.heap.size + 2, 0, none⟩) (by simp) _, ha.2⟩
  · exact h.r2.elim fun a ha => ⟨.int .i64 0, ha.1.set_ 0 _, fun _ => rfl⟩
  · exact fun k h1 h2 => (Below.heap_setCell W ⟨w.heap.size + 2, 0, none⟩ _ k (by show k ≠ w.heap.size + 2; omega)).trans (h.keep k h1 h2)
  · simpa using h.gt

end

section
variable {P : Program} {o : Oper} {a : Act} {w : World} {K : Act → World → Prop} {Q : Exit → Act → World → Prop}
theorem wp1_assert {l : Oper} (hl : l = o) (x : Operand) (i t : TypeId) (c : Bool) (ho : l.op = .typeAssert x i t c) {d1 : Option Tmp} (hd1 : l.dst = d1) {v r : Value} (hv : a.eval x = v) (hi : (Instr.typeAssert v i t c).run P w = .ok r w) (h : K (a.put d1 r) w) : o.wp P a w K Q := by
  subst hl hd1
  refine wp1_run rfl rfl ?_ h
  unfold execOp
  simp [ho, hv, hi, Sem.run_bind, Result.andThen]
theorem wp1_field {l : Oper} (hl : l = o) (ty : TypeId) (x : Operand) (i : Nat) (ho : l.op = .field ty x i) {d1 : Option Tmp} (hd1 : l.dst = d1) {v r : Value} (hv : a.eval x = v) (hi : (Instr.field ty v i).run P w = .ok r w) (h : K (a.put d1 r) w) : o.wp P a w K Q := by
  subst hl hd1
  refine wp1_run rfl rfl ?_ h
  unfold execOp
  simp [ho, hv, hi, Sem.run_bind, Result.andThen]
end
end Go.Proofs.YtjbdmaehomhdeaaGreat
