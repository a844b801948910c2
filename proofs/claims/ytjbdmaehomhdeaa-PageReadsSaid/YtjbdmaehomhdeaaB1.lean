import Derived.Test.YtjbdmaehomhdeaaBase
import Derived.Lib.AppendStr
namespace Go.Proofs.Ytjbdmaehomhdeaa
open Go.RowKit

/-- byte values as cells -/
def byteVals (l : List Nat) : List Value := l.map fun b : Nat => Value.int .u8 (b : Int)
/-- the slice value v owns these bytes, in a block from base on -/
def OwnB (w : World) (base : Nat) (v : Value) (l : List Nat) : Prop := w.ownsRow base 5 1 v l.length (byteVals l)
theorem OwnB.nil (w : World) (base : Nat) : OwnB w base (.slice none 0 0) [] := World.ownsRow_nil w base 5 1
theorem byteVals_append (a b : List Nat) : byteVals (a ++ b) = byteVals a ++ byteVals b := by simp [byteVals]
theorem byteVals_length (a : List Nat) : (byteVals a).length = a.length := by simp [byteVals]
theorem info_u8 : (Try.prog.info? 5).map (fun i => (i.zero, i.size, i.bytes)) = some (some (.int .u8 0), 1, 1) := by kernel_rfl

def sB (s : ByteArray) : List Nat := s.data.toList.map UInt8.toNat
theorem strCells_sB (s : ByteArray) : Go.Lib.strCells s = byteVals (sB s) := by
  unfold byteVals sB
  simp [Go.Lib.strCells]

/-- the lowest k bytes of a number, the lowest first -/
def numB (n : Nat) : Nat → List Nat
  | 0 => []
  | k + 1 => numB n k ++ [n / 256 ^ k % 256]
theorem numB_length (n k : Nat) : (numB n k).length = k := by
  induction k with
  | zero => rfl
  | succ k ih => simp [numB, ih]

theorem OwnB.block {w : World} {base : Nat} {v : Value} {l : List Nat} (h : OwnB w base v l) : ∀ k, v.ownBlock = some k → base ≤ k := by
  rcases h.2 with ⟨rfl, _⟩ | ⟨g, cap, cur, rfl, hg, _⟩
  · intro k hk; simp [Value.ownBlock] at hk
  · intro k hk; simp [Value.ownBlock] at hk; omega
theorem OwnB.below {w w' : World} {base B : Nat} {v : Value} {l : List Nat} (h : OwnB w base v l) (hb : Below B w w') (hB : ∀ k, v.ownBlock = some k → k < B) : OwnB w' base v l := by
  refine ⟨h.1, ?_⟩
  rcases h.2 with hn | ⟨g, cap, cur, rfl, hg, hh, rest⟩
  · exact .inl hn
  · exact .inr ⟨g, cap, cur, rfl, hg, (hb.block g (hB g (by simp [Value.ownBlock]))).trans hh, rest⟩
theorem OwnB.lt {w : World} {base : Nat} {v : Value} {l : List Nat} (h : OwnB w base v l) : ∀ k, v.ownBlock = some k → k < w.heap.size := by
  rcases h.2 with ⟨rfl, _⟩ | ⟨g, cap, cur, rfl, hg, hh, _⟩
  · intro k hk; simp [Value.ownBlock] at hk
  · intro k hk
    simp [Value.ownBlock] at hk
    subst hk
    rcases Nat.lt_or_ge g w.heap.size with hlt | hge
    · exact hlt
    · rw [Array.getElem?_eq_none hge] at hh; cases hh
theorem OwnB.later {w w' : World} {base : Nat} {v : Value} {l : List Nat} (h : OwnB w base v l) (hb : Below w.heap.size w w') : OwnB w' base v l := h.below hb h.lt
theorem OwnB.mono {w : World} {base base' : Nat} {v : Value} {l : List Nat} (h : OwnB w base v l) (hb : base' ≤ base) : OwnB w base' v l := by
  refine ⟨h.1, ?_⟩
  rcases h.2 with hn | ⟨g, cap, cur, e, hg, rest⟩
  · exact .inl hn
  · exact .inr ⟨g, cap, cur, e, by omega, rest⟩

/-- from w to w' nothing old has turned but v's own row; v' lies there or in new memory -/
structure Grew (w w' : World) (v v' : Value) : Prop where
  grown : w.grownBy w' v.ownBlock
  near : v'.ownBlock = v.ownBlock ∨ ∀ k, v'.ownBlock = some k → w.heap.size ≤ k
theorem Grew.refl (w : World) (v : Value) : Grew w w v v := ⟨World.grownBy.refl w _, .inl rfl⟩
theorem Grew.trans {w w1 w2 : World} {v v1 v2 : Value} (h : Grew w w1 v v1) (g : Grew w1 w2 v1 v2) : Grew w w2 v v2 := by
  have hs := h.grown.size
  refine ⟨⟨g.grown.os.trans h.grown.os, g.grown.tape.trans h.grown.tape, g.grown.output.trans h.grown.output, Nat.le_trans hs g.grown.size, fun k hk hn => ?_⟩, ?_⟩
  · refine (g.grown.block k (by omega) (fun e => ?_)).trans (h.grown.block k hk hn)
    rcases h.near with h1 | h1
    · exact hn (e.trans h1)
    · have := h1 k e.symm; omega
  · rcases g.near with g1 | g1
    · rw [g1]; exact h.near
    · exact .inr fun k hk => Nat.le_trans hs (g1 k hk)
theorem Grew.of_below {w w' : World} (h : Below w.heap.size w w') (v : Value) : Grew w w' v v := ⟨⟨h.os, h.tape, h.output, h.size, fun k hk _ => h.block k hk⟩, .inl rfl⟩
theorem Grew.below {w w' : World} {v v' : Value} (h : Grew w w' v v') {base : Nat} (hb : base ≤ w.heap.size) (hv : ∀ k, v.ownBlock = some k → base ≤ k) : Below base w w' := (Below.refl _ _).grown h.grown hb hv
theorem Grew.cell {w w' : World} {v v' : Value} (h : Grew w w' v v') {p : Addr} (hp : p.block < w.heap.size) (hv : v.ownBlock ≠ some p.block) : w'.cell? p = w.cell? p := World.cell?_of_block (h.grown.block p.block hp (Ne.symm hv))

/-- append(v, b): one byte -/
theorem app1 {ops : Array Oper} {rest : List Oper} {o : Oper} {a : Act} {Q : Exit → Act → World → Prop} (w : World) (hgd : o.guard = none) (s x : Operand)
    (ho : o.op = .call { callee := .builtin .append, args := #[s, x], argTypes := #[22, 22] })
    (base : Nat) (v : Value) (l : List Nat) (b : Nat) (val : Int) (hval : val = (b : Int)) (hs : a.eval s = v) (hown : OwnB w base v l) (hx : a.eval x = .slice (some ⟨w.heap.size, 0, none⟩) 1 1)
    (hlen : l.length ≤ 1099511627776) (hbase : base ≤ w.heap.size)
    (h : ∀ v' w', OwnB w' base v' (l ++ [b]) → Grew w w' v v' → wpList Try.prog ops Q rest (a.put o.dst v') w') : wpList Try.prog ops Q (o :: rest) a (w.alloc (.cells #[.int .u8 val] 5)) := by
  obtain ⟨i0, hi0, hz0, hz1, hz2⟩ := info_parts info_u8
  subst hval
  have hb0 : Grew w (w.alloc (.cells #[.int .u8 (b : Int)] 5)) v v := Grew.of_below ((Below.refl _ _).alloc (Nat.le_refl _) _) v
  have hown' : OwnB (w.alloc (.cells #[.int .u8 (b : Int)] 5)) base v l := hown.later ((Below.refl _ _).alloc (Nat.le_refl _) _)
  refine wpList_append_lies _ hgd s x _ ho base 5 i0 _ 1 1 Try.underlying22 hi0 hz0 hz1 hz2 rfl (by omega) v l.length (byteVals l) hs hown' ⟨w.heap.size, 0, none⟩ 1 1 [.int .u8 (b : Int)] hx rfl
    (World.news_of_block (cs := #[.int .u8 (b : Int)]) (t := 5) (fr := (0, 0)) (heap_alloc_new w _)) (by simp [Value.oneCell']) (by omega) (by simp only [maxLen]; omega) (by omega) (by simp; omega) (w.heap.size + 1) (by simp) ?_
  intro g cap w' h2 h3 h4 _
  refine h _ w' ?_ (hb0.trans ⟨h3, ?_⟩)
  · unfold OwnB
    rw [byteVals_append, List.length_append]
    exact h2
  · rcases h4 with h4 | h4
    · exact .inl (by rw [h4]; rfl)
    · refine .inr fun k hk => ?_
      simp [Value.ownBlock] at hk
      simp; omega

theorem run_appS (w : World) (ty : TypeId) (base : Nat) (v : Value) (l : List Nat) (s : ByteArray) (hown : OwnB w base v l) (hlen : l.length + s.size ≤ 1099511627776) (hbase : base ≤ w.heap.size) :
    ∃ v' w', (Builtin.append_ #[22, 9] ty #[v, .string s]).run Try.prog w = .ok v' w' ∧ OwnB w' base v' (l ++ sB s) ∧ Grew w w' v v' := by
  obtain ⟨i0, hi0, hz0, hz1, hz2⟩ := info_parts info_u8
  have hsB : (sB s).length = s.size := by
    unfold sB
    simp
  have conv : ∀ {w' base' v'}, w'.ownsRow base' 5 1 v' (l.length + s.size) (byteVals l ++ Go.Lib.strCells s) → OwnB w' base' v' (l ++ sB s) := by
    intro w' base' v' h
    unfold OwnB
    rw [byteVals_append, List.length_append, hsB, ← strCells_sB]
    exact h
  obtain ⟨v', w', hr, h2, h3, _⟩ := Go.Lib.run_append_own_string w base 22 9 ty 5 i0 Try.underlying22 Try.underlying9 hi0 hz0 hz1 hz2 v l.length (byteVals l) hown s (by simp only [maxLen]; omega) (by omega) hbase
  refine ⟨v', w', hr, conv h2, h3, ?_⟩
  rcases hown.2 with ⟨rfl, hl0⟩ | ⟨g, cap, cur, rfl, hg, hh, hn, hcm, hsz, htk⟩
  · have hl : l = [] := List.eq_nil_of_length_eq_zero hl0
    subst hl
    obtain ⟨v2, w2, hr2, h22, _, _⟩ := Go.Lib.run_append_own_string w w.heap.size 22 9 ty 5 i0 Try.underlying22 Try.underlying9 hi0 hz0 hz1 hz2 (.slice none 0 0) 0 [] (World.ownsRow_nil _ _ _ _) s (by simp only [maxLen]; omega) (by omega) (Nat.le_refl _)
    have hr' : (Builtin.append_ #[22, 9] ty #[.slice none 0 0, .string s]).run Try.prog w = .ok v' w' := hr
    rw [hr'] at hr2
    injection hr2 with e1 e2
    subst e1
    exact .inr fun k hk => by
      rcases h22.2 with ⟨e, _⟩ | ⟨g, cap, cur, e, hg, _⟩
      · rw [e] at hk; simp [Value.ownBlock] at hk
      · rw [e] at hk; simp [Value.ownBlock] at hk; omega
  · by_cases hroom : l.length + s.size ≤ cap
    · have hr2 := Go.Lib.run_append_room_string (P := Try.prog) w 22 9 ty 5 i0 Try.underlying22 Try.underlying9 hi0 hz1 g l.length cap cur hh s hroom (by omega)
      rw [hr] at hr2
      injection hr2 with e1 e2
      subst e1
      exact .inl rfl
    · have hr2 := Go.Lib.run_append_grow_string (P := Try.prog) w 22 9 ty 5 i0 (.int .u8 0) Try.underlying22 Try.underlying9 hi0 hz0 ⟨g, 0, none⟩ l.length cap (byteVals l) (by rw [hz1, byteVals_length]; omega) (hown.cells (g := g) rfl) s (by omega) (by omega) (by rw [hz2]; exact growslice_fits (by omega) (by omega))
      rw [hr] at hr2
      injection hr2 with e1 e2
      subst e1
      exact .inr fun k hk => by simp [Value.ownBlock] at hk; omega

/-- append(v, s...): a string's bytes -/
theorem appS {ops : Array Oper} {rest : List Oper} {o : Oper} {a : Act} {Q : Exit → Act → World → Prop} (w : World) (hgd : o.guard = none) (s x : Operand)
    (ho : o.op = .call { callee := .builtin .append, args := #[s, x], argTypes := #[22, 9] })
    (base : Nat) (v : Value) (l : List Nat) (st : ByteArray) (hs : a.eval s = v) (hown : OwnB w base v l) (hx : a.eval x = .string st) (hlen : l.length + st.size ≤ 1099511627776) (hbase : base ≤ w.heap.size)
    (h : ∀ v' w', OwnB w' base v' (l ++ sB st) → Grew w w' v v' → wpList Try.prog ops Q rest (a.put o.dst v') w') : wpList Try.prog ops Q (o :: rest) a w := by
  refine wpList_plain hgd fun K hK => ?_
  obtain ⟨v', w', hr, h2, h3⟩ := run_appS w o.type base v l st hown hlen hbase
  unfold Oper.wp execOp
  simp only [ho, resolve, invoke, builtin, Sem.run_bind, Sem.run_pure, Result.andThen_ok, List.map_toArray, List.map_cons, List.map_nil, hs, hx, hr]
  exact hK _ _ (h v' w' h2 h3)

def byteCell (b : Nat) : List Value := [.int .u8 (b : Int)]
theorem byteVals_flat (l : List Nat) : byteVals l = l.flatMap byteCell := by
  induction l with
  | nil => rfl
  | cons x r ih => simp [byteVals, byteCell] at ih ⊢; exact ih

/-- append(v, xs...): bytes out of a slice -/
theorem appB {ops : Array Oper} {rest : List Oper} {o : Oper} {a : Act} {Q : Exit → Act → World → Prop} (w : World) (hgd : o.guard = none) (s x : Operand)
    (ho : o.op = .call { callee := .builtin .append, args := #[s, x], argTypes := #[22, 22] })
    (base : Nat) (v : Value) (l m : List Nat) (A : Option Addr) (c lo hi : Nat) (hs : a.eval s = v) (hown : OwnB w base v l) (hx : a.eval x = .slice A m.length c) (hr : Rd byteCell 1 w lo hi A m) (hlen : l.length + m.length ≤ 1099511627776) (hbase : base ≤ w.heap.size)
    (h : ∀ v' w', OwnB w' base v' (l ++ m) → Grew w w' v v' → wpList Try.prog ops Q rest (a.put o.dst v') w') : wpList Try.prog ops Q (o :: rest) a w := by
  obtain ⟨i0, hi0, hz0, hz1, hz2⟩ := info_parts info_u8
  refine wpList_plain hgd fun K hK => ?_
  have key : ∃ v' w', (Builtin.append_ #[22, 22] o.type #[v, .slice A m.length c]).run Try.prog w = .ok v' w' ∧ OwnB w' base v' (l ++ m) ∧ Grew w w' v v' := by
    rcases A with _ | ad
    · have hm : m = [] := by
        rcases m with _ | ⟨b, r⟩
        · rfl
        · obtain ⟨ad, e, _⟩ := hr (by simp); cases e
      subst hm
      refine ⟨v, w, ?_, by simpa using hown, Grew.refl _ _⟩
      rcases hown.2 with ⟨rfl, hl⟩ | ⟨g, cap, cur, rfl, _, _, hnc, _⟩
      · simp [Builtin.append_, run_underlying Try.underlying22, sizeOf, typeInfo, hi0, Builtin.lenOf, Builtin.firstCells]
      · simp [Builtin.append_, run_underlying Try.underlying22, sizeOf, typeInfo, hi0, Builtin.lenOf, Builtin.firstCells, hnc, storeCells]
    · have hc : ∀ i x, m[i]? = some x → ∀ j u, (byteCell x)[j]? = some u → w.cell? (ad.add (i * 1 + j)) = some u := by
        intro i x hx
        obtain ⟨ad', e, _, _, hc⟩ := hr (by intro e; subst e; simp at hx)
        cases e
        exact hc i x hx
      obtain ⟨v', w', hrun, h2, h3, _, h5⟩ := run_append_own_at (P := Try.prog) w base 22 o.type 5 i0 _ 1 1 Try.underlying22 hi0 hz0 hz1 hz2 rfl (by omega) v l.length (byteVals l) hown ad m.length c (byteVals m) (by rw [byteVals_length]; omega)
        (fun j u hu => by
          unfold byteVals at hu
          rw [List.getElem?_map] at hu
          cases hj : m[j]? with
          | none => rw [hj] at hu; cases hu
          | some b =>
            rw [hj] at hu
            have := hc j b hj 0 u (by simpa [byteCell] using hu)
            simpa using this)
        (by intro u hu; unfold byteVals at hu; simp at hu; obtain ⟨b, _, rfl⟩ := hu; rfl) (by simp only [maxLen]; omega) (by omega) hbase
      refine ⟨v', w', hrun, ?_, h3, ?_⟩
      · unfold OwnB
        rw [byteVals_append, List.length_append]
        exact h2
      · rcases h5 with h5 | h5
        · exact .inl h5
        · exact .inr fun k hk => by rw [h5] at hk; cases hk; exact Nat.le_refl _
  obtain ⟨v', w', hrun, h2, h3⟩ := key
  unfold Oper.wp execOp
  simp only [ho, resolve, invoke, builtin, Sem.run_bind, Sem.run_pure, Result.andThen_ok, List.map_toArray, List.map_cons, List.map_nil, hs, hx, hrun]
  exact hK _ _ (h v' w' h2 h3)

theorem shr_byte (n j : Nat) : ((n : Int) / 2 ^ (8 * j) % 256) = ((n / 256 ^ j % 256 : Nat) : Int) := by
  have h : (2 : Int) ^ (8 * j) = ((256 ^ j : Nat) : Int) := by
    rw [show (256 : Nat) = 2 ^ 8 by rfl, ← Nat.pow_mul]; norm_cast
  rw [h]
  generalize 256 ^ j = m
  rw [Int.natCast_emod, Int.natCast_ediv]
  rfl

def PostB (w : World) (l : List Nat) (e : Ending) (w' : World) : Prop := ∃ v, e = .returned v ∧ OwnB w' w.heap.size v l ∧ Below w.heap.size w w'

set_option maxHeartbeats 1000000 in
theorem page_number (n k : Nat) (hk : k ≤ 7) (w : World) :
    Calls Try.prog 58 #[.int .i64 n, .int .i64 k] w (PostB w (numB n k)) := by
  obtain ⟨i0, hi0, hz0, hz1, hz2⟩ := info_parts info_u8
  go_enter Try.func58, Try.ntmps58
  go_wp2
  go_loopw [5, 8] (fun v i wr => ∃ j : Nat, j ≤ k ∧ i = .int .i64 j ∧ Hid (OwnB wr w.heap.size v (numB n j)) ∧ Hid (Below w.heap.size w wr)) (fun _ i _ => k - (intOf i).toNat)
  case atStart => exact ⟨0, Nat.zero_le _, rfl, Lib.hid (OwnB.nil _ _), Lib.hid (Below.refl _ _)⟩
  case round =>
    obtain ⟨j, hj, rfl, HO, HB⟩ := hrel
    by_cases hlt : j < k
    · go_upto_region 5 with (fail)
      go_wp2_with (at_builtin; refine app1 wr rfl (.tmp 11) (.tmp 17) rfl w.heap.size u5 (numB n j) (n / 256 ^ j % 256) _ (shr_byte n j) rfl HO.out rfl (by rw [numB_length]; omega) HB.out.size ?_; intro v1 w1 hO1 hG1)
      go_roundw
      case rel => exact ⟨j + 1, by omega, by go_num, Lib.hid hO1, Lib.hid (HB.out.trans (hG1.below HB.out.size HO.out.block))⟩
      case measure => simp [intOf]; omega
    · obtain rfl : j = k := by omega
      go_wp2
      go_ret
      exact ⟨_, rfl, HO.out, HB.out⟩
end Go.Proofs.Ytjbdmaehomhdeaa
