/- words and walks for this claim. -/
import Derived.Test.YtjbdmaehomhdeaaGreatZA
import Derived.Lib.AppendStr
import Derived.IntWalk
import Derived.Laws.IdiomStrings
set_option linter.unusedSimpArgs false
set_option linter.unusedVariables false
namespace Go.Proofs.YtjbdmaehomhdeaaGreat
open Go.RowKit

/-- byte values as cells -/
def byteVals (l : List Nat) : List Value := l.map fun b : Nat => Value.int .u8 (b : Int)
/-- the slice value v owns these bytes, in a block from base on -/
def OwnB (w : World) (base : Nat) (v : Value) (l : List Nat) : Prop := w.ownsRow base 5 1 v l.length (byteVals l)
theorem OwnB.nil (w : World) (base : Nat) : OwnB w base (.slice none 0 0) [] := World.ownsRow_nil w base 5 1
theorem byteVals_append (a b : List Nat) : byteVals (a ++ b) = byteVals a ++ byteVals b := by simp [byteVals]
theorem byteVals_length (a : List Nat) : (byteVals a).length = a.length := by simp [byteVals]
theorem info_u8 : (Tryz.prog.info? 5).map (fun i => (i.zero, i.size, i.bytes)) = some (some (.int .u8 0), 1, 1) := by kernel_rfl

def sB (s : ByteArray) : List Nat := s.data.toList.map UInt8.toNat
theorem strCells_sB (s : ByteArray) : Go.Lib.strCells s = byteVals (sB s) := by
  unfold byteVals sB
  simp [Go.Lib.strCells]

/-- the lowest k bytes of a number, the lowest first -/
def numB (n : Nat) : Nat → List Nat
  | 0 => []
  | k + 1 => numB n k ++ [n / 256 ^ k % 256]
theorem numB_length (n k : Nat) : (numB n k).length = k := by
  induction k with
  | zero => rfl
  | succ k ih => simp [numB, ih]

theorem OwnB.block {w : World} {base : Nat} {v : Value} {l : List Nat} (h : OwnB w base v l) : ∀ k, v.ownBlock = some k → base ≤ k := by
  rcases h.2 with ⟨rfl, _⟩ | ⟨g, cap, cur, rfl, hg, _⟩
  · intro k hk; simp [Value.ownBlock] at hk
  · intro k hk; simp [Value.ownBlock] at hk; omega
theorem OwnB.below {w w' : World} {base B : Nat} {v : Value} {l : List Nat} (h : OwnB w base v l) (hb : Below B w w') (hB : ∀ k, v.ownBlock = some k → k < B) : OwnB w' base v l := by
  refine ⟨h.1, ?_⟩
  rcases h.2 with hn | ⟨g, cap, cur, rfl, hg, hh, rest⟩
  · exact .inl hn
  · exact .inr ⟨g, cap, cur, rfl, hg, (hb.block g (hB g (by simp [Value.ownBlock]))).trans hh, rest⟩
theorem OwnB.lt {w : World} {base : Nat} {v : Value} {l : List Nat} (h : OwnB w base v l) : ∀ k, v.ownBlock = some k → k < w.heap.size := by
  rcases h.2 with ⟨rfl, _⟩ | ⟨g, cap, cur, rfl, hg, hh, _⟩
  · intro k hk; simp [Value.ownBlock] at hk
  · intro k hk
    simp [Value.ownBlock] at hk
    subst hk
    rcases Nat.lt_or_ge g w.heap.size with hlt | hge
    · exact hlt
    · rw [Array.getElem?_eq_none hge] at hh; cases hh
theorem OwnB.later {w w' : World} {base : Nat} {v : Value} {l : List Nat} (h : OwnB w base v l) (hb : Below w.heap.size w w') : OwnB w' base v l := h.below hb h.lt
theorem OwnB.mono {w : World} {base base' : Nat} {v : Value} {l : List Nat} (h : OwnB w base v l) (hb : base' ≤ base) : OwnB w base' v l := by
  refine ⟨h.1, ?_⟩
  rcases h.2 with hn | ⟨g, cap, cur, e, hg, rest⟩
  · exact .inl hn
  · exact .inr ⟨g, cap, cur, e, by omega, rest⟩

/-- from w to w' nothing old has turned but v's own row; v' lies there or in new memory -/
structure Grew (w w' : World) (v v' : Value) : Prop where
  grown : w.grownBy w' v.ownBlock
  near : v'.ownBlock = v.ownBlock ∨ ∀ k, v'.ownBlock = some k → w.heap.size ≤ k
theorem Grew.refl (w : World) (v : Value) : Grew w w v v := ⟨World.grownBy.refl w _, .inl rfl⟩
theorem Grew.trans {w w1 w2 : World} {v v1 v2 : Value} (h : Grew w w1 v v1) (g : Grew w1 w2 v1 v2) : Grew w w2 v v2 := by
  have hs := h.grown.size
  refine ⟨⟨g.grown.os.trans h.grown.os, g.grown.tape.trans h.grown.tape, g.grown.output.trans h.grown.output, Nat.le_trans hs g.grown.size, fun k hk hn => ?_⟩, ?_⟩
  · refine (g.grown.block k (by omega) (fun e => ?_)).trans (h.grown.block k hk hn)
    rcases h.near with h1 | h1
    · exact hn (e.trans h1)
    · have := h1 k e.symm; omega
  · rcases g.near with g1 | g1
    · rw [g1]; exact h.near
    · exact .inr fun k hk => Nat.le_trans hs (g1 k hk)
theorem Grew.of_below {w w' : World} (h : Below w.heap.size w w') (v : Value) : Grew w w' v v := ⟨⟨h.os, h.tape, h.output, h.size, fun k hk _ => h.block k hk⟩, .inl rfl⟩
theorem Grew.below {w w' : World} {v v' : Value} (h : Grew w w' v v') {base : Nat} (hb : base ≤ w.heap.size) (hv : ∀ k, v.ownBlock = some k → base ≤ k) : Below base w w' := (Below.refl _ _).grown h.grown hb hv
theorem Grew.cell {w w' : World} {v v' : Value} (h : Grew w w' v v') {p : Addr} (hp : p.block < w.heap.size) (hv : v.ownBlock ≠ some p.block) : w'.cell? p = w.cell? p := World.cell?_of_block (h.grown.block p.block hp (Ne.symm hv))

/-- append(v, b): one byte -/
theorem app1 {ops : Array Oper} {rest : List Oper} {o : Oper} {a : Act} {Q : Exit → Act → World → Prop} (w : World) (hgd : o.guard = none) (s x : Operand)
    (ho : o.op = .call { callee := .builtin .append, args := #[s, x], argTypes := #[32, 32] })
    (base : Nat) (v : Value) (l : List Nat) (b : Nat) (val : Int) (hval : val = (b : Int)) (hs : a.eval s = v) (hown : OwnB w base v l) (hx : a.eval x = .slice (some ⟨w.heap.size, 0, none⟩) 1 1)
    (hlen : l.length ≤ 1099511627776) (hbase : base ≤ w.heap.size)
    (h : ∀ v' w', OwnB w' base v' (l ++ [b]) → Grew w w' v v' → wpList Tryz.prog ops Q rest (a.put o.dst v') w') : wpList Tryz.prog ops Q (o :: rest) a (w.alloc (.cells #[.int .u8 val] 5)) := by
  obtain ⟨i0, hi0, hz0, hz1, hz2⟩ := info_parts info_u8
  subst hval
  have hb0 : Grew w (w.alloc (.cells #[.int .u8 (b : Int)] 5)) v v := Grew.of_below ((Below.refl _ _).alloc (Nat.le_refl _) _) v
  have hown' : OwnB (w.alloc (.cells #[.int .u8 (b : Int)] 5)) base v l := hown.later ((Below.refl _ _).alloc (Nat.le_refl _) _)
  refine wpList_append_lies _ hgd s x _ ho base 5 i0 _ 1 1 Tryz.underlying32 hi0 hz0 hz1 hz2 rfl (by omega) v l.length (byteVals l) hs hown' ⟨w.heap.size, 0, none⟩ 1 1 [.int .u8 (b : Int)] hx rfl
    (World.news_of_block (cs := #[.int .u8 (b : Int)]) (t := 5) (fr := (0, 0)) (heap_alloc_new w _)) (by simp [Value.oneCell']) (by omega) (by simp only [maxLen]; omega) (by omega) (by simp; omega) (w.heap.size + 1) (by simp) ?_
  intro g cap w' h2 h3 h4 _
  refine h _ w' ?_ (hb0.trans ⟨h3, ?_⟩)
  · unfold OwnB
    rw [byteVals_append, List.length_append]
    exact h2
  · rcases h4 with h4 | h4
    · exact .inl (by rw [h4]; rfl)
    · refine .inr fun k hk => ?_
      simp [Value.ownBlock] at hk
      simp; omega

theorem run_appS (w : World) (ty : TypeId) (base : Nat) (v : Value) (l : List Nat) (s : ByteArray) (hown : OwnB w base v l) (hlen : l.length + s.size ≤ 1099511627776) (hbase : base ≤ w.heap.size) :
    ∃ v' w', (Builtin.append_ #[32, 9] ty #[v, .string s]).run Tryz.prog w = .ok v' w' ∧ OwnB w' base v' (l ++ sB s) ∧ Grew w w' v v' := by
  obtain ⟨i0, hi0, hz0, hz1, hz2⟩ := info_parts info_u8
  have hsB : (sB s).length = s.size := by
    unfold sB
    simp
  have conv : ∀ {w' base' v'}, w'.ownsRow base' 5 1 v' (l.length + s.size) (byteVals l ++ Go.Lib.strCells s) → OwnB w' base' v' (l ++ sB s) := by
    intro w' base' v' h
    unfold OwnB
    rw [byteVals_append, List.length_append, hsB, ← strCells_sB]
    exact h
  obtain ⟨v', w', hr, h2, h3, _⟩ := Go.Lib.run_append_own_string w base 32 9 ty 5 i0 Tryz.underlying32 Tryz.underlying9 hi0 hz0 hz1 hz2 v l.length (byteVals l) hown s (by simp only [maxLen]; omega) (by omega) hbase
  refine ⟨v', w', hr, conv h2, h3, ?_⟩
  rcases hown.2 with ⟨rfl, hl0⟩ | ⟨g, cap, cur, rfl, hg, hh, hn, hcm, hsz, htk⟩
  · have hl : l = [] := List.eq_nil_of_length_eq_zero hl0
    subst hl
    obtain ⟨v2, w2, hr2, h22, _, _⟩ := Go.Lib.run_append_own_string w w.heap.size 32 9 ty 5 i0 Tryz.underlying32 Tryz.underlying9 hi0 hz0 hz1 hz2 (.slice none 0 0) 0 [] (World.ownsRow_nil _ _ _ _) s (by simp only [maxLen]; omega) (by omega) (Nat.le_refl _)
    have hr' : (Builtin.append_ #[32, 9] ty #[.slice none 0 0, .string s]).run Tryz.prog w = .ok v' w' := hr
    rw [hr'] at hr2
    injection hr2 with e1 e2
    subst e1
    exact .inr fun k hk => by
      rcases h22.2 with ⟨e, _⟩ | ⟨g, cap, cur, e, hg, _⟩
      · rw [e] at hk; simp [Value.ownBlock] at hk
      · rw [e] at hk; simp [Value.ownBlock] at hk; omega
  · by_cases hroom : l.length + s.size ≤ cap
    · have hr2 := Go.Lib.run_append_room_string (P := Tryz.prog) w 32 9 ty 5 i0 Tryz.underlying32 Tryz.underlying9 hi0 hz1 g l.length cap cur hh s hroom (by omega)
      rw [hr] at hr2
      injection hr2 with e1 e2
      subst e1
      exact .inl rfl
    · have hr2 := Go.Lib.run_append_grow_string (P := Tryz.prog) w 32 9 ty 5 i0 (.int .u8 0) Tryz.underlying32 Tryz.underlying9 hi0 hz0 ⟨g, 0, none⟩ l.length cap (byteVals l) (by rw [hz1, byteVals_length]; omega) (hown.cells (g := g) rfl) s (by omega) (by omega) (by rw [hz2]; exact growslice_fits (by omega) (by omega))
      rw [hr] at hr2
      injection hr2 with e1 e2
      subst e1
      exact .inr fun k hk => by simp [Value.ownBlock] at hk; omega

/-- append(v, s...): a string's bytes -/
theorem appS {ops : Array Oper} {rest : List Oper} {o : Oper} {a : Act} {Q : Exit → Act → World → Prop} (w : World) (hgd : o.guard = none) (s x : Operand)
    (ho : o.op = .call { callee := .builtin .append, args := #[s, x], argTypes := #[32, 9] })
    (base : Nat) (v : Value) (l : List Nat) (st : ByteArray) (hs : a.eval s = v) (hown : OwnB w base v l) (hx : a.eval x = .string st) (hlen : l.length + st.size ≤ 1099511627776) (hbase : base ≤ w.heap.size)
    (h : ∀ v' w', OwnB w' base v' (l ++ sB st) → Grew w w' v v' → wpList Tryz.prog ops Q rest (a.put o.dst v') w') : wpList Tryz.prog ops Q (o :: rest) a w := by
  refine wpList_plain hgd fun K hK => ?_
  obtain ⟨v', w', hr, h2, h3⟩ := run_appS w o.type base v l st hown hlen hbase
  unfold Oper.wp execOp
  simp only [ho, resolve, invoke, builtin, Sem.run_bind, Sem.run_pure, Result.andThen_ok, List.map_toArray, List.map_cons, List.map_nil, hs, hx, hr]
  exact hK _ _ (h v' w' h2 h3)

def byteCell (b : Nat) : List Value := [.int .u8 (b : Int)]
theorem byteVals_flat (l : List Nat) : byteVals l = l.flatMap byteCell := by
  induction l with
  | nil => rfl
  | cons x r ih => simp [byteVals, byteCell] at ih ⊢; exact ih

/-- append(v, xs...): bytes out of a slice -/
theorem appB {ops : Array Oper} {rest : List Oper} {o : Oper} {a : Act} {Q : Exit → Act → World → Prop} (w : World) (hgd : o.guard = none) (s x : Operand)
    (ho : o.op = .call { callee := .builtin .append, args := #[s, x], argTypes := #[32, 32] })
    (base : Nat) (v : Value) (l m : List Nat) (A : Option Addr) (c lo hi : Nat) (hs : a.eval s = v) (hown : OwnB w base v l) (hx : a.eval x = .slice A m.length c) (hr : Rd byteCell 1 w lo hi A m) (hlen : l.length + m.length ≤ 1099511627776) (hbase : base ≤ w.heap.size)
    (h : ∀ v' w', OwnB w' base v' (l ++ m) → Grew w w' v v' → wpList Tryz.prog ops Q rest (a.put o.dst v') w') : wpList Tryz.prog ops Q (o :: rest) a w := by
  obtain ⟨i0, hi0, hz0, hz1, hz2⟩ := info_parts info_u8
  refine wpList_plain hgd fun K hK => ?_
  have key : ∃ v' w', (Builtin.append_ #[32, 32] o.type #[v, .slice A m.length c]).run Tryz.prog w = .ok v' w' ∧ OwnB w' base v' (l ++ m) ∧ Grew w w' v v' := by
    rcases A with _ | ad
    · have hm : m = [] := by
        rcases m with _ | ⟨b, r⟩
        · rfl
        · obtain ⟨ad, e, _⟩ := hr (by simp); cases e
      subst hm
      refine ⟨v, w, ?_, by simpa using hown, Grew.refl _ _⟩
      rcases hown.2 with ⟨rfl, hl⟩ | ⟨g, cap, cur, rfl, _, _, hnc, _⟩
      · simp [Builtin.append_, run_underlying Tryz.underlying32, sizeOf, typeInfo, hi0, Builtin.lenOf, Builtin.firstCells]
      · simp [Builtin.append_, run_underlying Tryz.underlying32, sizeOf, typeInfo, hi0, Builtin.lenOf, Builtin.firstCells, hnc, storeCells]
    · have hc : ∀ i x, m[i]? = some x → ∀ j u, (byteCell x)[j]? = some u → w.cell? (ad.add (i * 1 + j)) = some u := by
        intro i x hx
        obtain ⟨ad', e, _, _, hc⟩ := hr (by intro e; subst e; simp at hx)
        cases e
        exact hc i x hx
      obtain ⟨v', w', hrun, h2, h3, _, h5⟩ := run_append_own_at (P := Tryz.prog) w base 32 o.type 5 i0 _ 1 1 Tryz.underlying32 hi0 hz0 hz1 hz2 rfl (by omega) v l.length (byteVals l) hown ad m.length c (byteVals m) (by rw [byteVals_length]; omega)
        (fun j u hu => by
          unfold byteVals at hu
          rw [List.getElem?_map] at hu
          cases hj : m[j]? with
          | none => rw [hj] at hu; cases hu
          | some b =>
            rw [hj] at hu
            have := hc j b hj 0 u (by simpa [byteCell] using hu)
            simpa using this)
        (by intro u hu; unfold byteVals at hu; simp at hu; obtain ⟨b, _, rfl⟩ := hu; rfl) (by simp only [maxLen]; omega) (by omega) hbase
      refine ⟨v', w', hrun, ?_, h3, ?_⟩
      · unfold OwnB
        rw [byteVals_append, List.length_append]
        exact h2
      · rcases h5 with h5 | h5
        · exact .inl h5
        · exact .inr fun k hk => by rw [h5] at hk; cases hk; exact Nat.le_refl _
  obtain ⟨v', w', hrun, h2, h3⟩ := key
  unfold Oper.wp execOp
  simp only [ho, resolve, invoke, builtin, Sem.run_bind, Sem.run_pure, Result.andThen_ok, List.map_toArray, List.map_cons, List.map_nil, hs, hx, hrun]
  exact hK _ _ (h v' w' h2 h3)

theorem shr_byte (n j : Nat) : ((n : Int) / 2 ^ (8 * j) % 256) = ((n / 256 ^ j % 256 : Nat) : Int) := by
  have h : (2 : Int) ^ (8 * j) = ((256 ^ j : Nat) : Int) := by
    rw [show (256 : Nat) = 2 ^ 8 by rfl, ← Nat.pow_mul]; norm_cast
  rw [h]
  generalize 256 ^ j = m
  rw [Int.natCast_emod, Int.natCast_ediv]
  rfl

def PostB (w : World) (l : List Nat) (e : Ending) (w' : World) : Prop := ∃ v, e = .returned v ∧ OwnB w' w.heap.size v l ∧ Below w.heap.size w w'

set_option maxHeartbeats 1000000 in
theorem page_number (n k : Nat) (hk : k ≤ 7) (w : World) :
    Calls Tryz.prog 87 #[.int .i64 n, .int .i64 k] w (PostB w (numB n k)) := by
  obtain ⟨i0, hi0, hz0, hz1, hz2⟩ := info_parts info_u8
  go_enter Tryz.func87, Tryz.ntmps87
  go_wp2
  go_loopw [5, 8] (fun v i wr => ∃ j : Nat, j ≤ k ∧ i = .int .i64 j ∧ Hid (OwnB wr w.heap.size v (numB n j)) ∧ Hid (Below w.heap.size w wr)) (fun _ i _ => k - (intOf i).toNat)
  case atStart => exact ⟨0, Nat.zero_le _, rfl, Lib.hid (OwnB.nil _ _), Lib.hid (Below.refl _ _)⟩
  case round =>
    obtain ⟨j, hj, rfl, HO, HB⟩ := hrel
    by_cases hlt : j < k
    · go_upto_region 5 with (fail)
      go_wp2_with (at_builtin; refine app1 wr rfl (.tmp 11) (.tmp 17) rfl w.heap.size u5 (numB n j) (n / 256 ^ j % 256) _ (shr_byte n j) rfl HO.out rfl (by rw [numB_length]; omega) HB.out.size ?_; intro v1 w1 hO1 hG1)
      go_roundw
      case rel => exact ⟨j + 1, by omega, by go_num, Lib.hid hO1, Lib.hid (HB.out.trans (hG1.below HB.out.size HO.out.block))⟩
      case measure => simp [intOf]; omega
    · obtain rfl : j = k := by omega
      go_wp2
      go_ret
      exact ⟨_, rfl, HO.out, HB.out⟩
end Go.Proofs.YtjbdmaehomhdeaaGreat

namespace Go.Proofs.YtjbdmaehomhdeaaGreat
open Go.RowKit

/-- what lay lays down -/
inductive Piece where
  | text (s : ByteArray)
  | raw (A : Option Addr) (c : Nat) (l : List Nat)
  | flag (b : Bool)
def Piece.val : Piece → Value
  | .text s => .iface 9 (.string s)
  | .raw A c l => .iface 32 (.slice A l.length c)
  | .flag b => .iface 4 (.bool b)
def Piece.cells (x : Piece) : List Value := [x.val]
def textB (s : ByteArray) : List Nat := (s.size % 256) :: sB s
theorem sB_length (s : ByteArray) : (sB s).length = s.size := by unfold sB; simp
theorem textB_length (s : ByteArray) : (textB s).length = 1 + s.size := by unfold textB; rw [List.length_cons, sB_length]; omega
def flagB (b : Bool) : List Nat := [cond b 1 0]
def Piece.bytes : Piece → List Nat
  | .text s => textB s
  | .raw _ _ l => l
  | .flag b => flagB b
def Piece.In (w : World) (lo hi : Nat) : Piece → Prop
  | .raw A _ l => Rd byteCell 1 w lo hi A l
  | _ => True
def PostG (w : World) (base : Nat) (v : Value) (l : List Nat) (e : Ending) (w' : World) : Prop := ∃ v', e = .returned v' ∧ OwnB w' base v' l ∧ Grew w w' v v'

theorem Rd.piece {w : World} {lo hi : Nat} {A : Option Addr} {l : List Piece} (h : Rd Piece.cells 1 w lo hi A l) {i : Nat} (hi' : i < l.length) :
    ∃ ad x, A = some ad ∧ l[i]? = some x ∧ lo ≤ ad.block ∧ ad.block < hi ∧ w.cell? (ad.add i) = some x.val := by
  obtain ⟨ad, e, h1, h2, hc⟩ := h.at_ hi'
  exact ⟨ad, l[i], e, List.getElem?_eq_getElem hi', h1, h2, by simpa using hc 0 _ rfl⟩
theorem Rd.grew {α : Type} {f : α → List Value} {k : Nat} {w w' : World} {lo hi : Nat} {A : Option Addr} {l : List α} {v v' : Value} (h : Rd f k w lo hi A l) (hg : Grew w w' v v') (hhi : hi ≤ w.heap.size) (hv : ∀ k, v.ownBlock = some k → k < lo) : Rd f k w' lo hi A l :=
  h.keep fun p h1 h2 => hg.cell (by omega) (fun e => by have := hv _ e; omega)
theorem take_flat {l : List Piece} {k : Nat} {x : Piece} (hx : l[k]? = some x) : (l.take (k + 1)).flatMap Piece.bytes = (l.take k).flatMap Piece.bytes ++ x.bytes := by
  rw [List.take_add_one, hx]; simp
theorem flat_len {l : List Piece} {k : Nat} {x : Piece} (hx : l[k]? = some x) : ((l.take k).flatMap Piece.bytes).length + x.bytes.length ≤ (l.flatMap Piece.bytes).length := by
  have h : l.flatMap Piece.bytes = (l.take (k + 1)).flatMap Piece.bytes ++ (l.drop (k + 1)).flatMap Piece.bytes := by rw [← List.flatMap_append, List.take_append_drop]
  rw [h, take_flat hx]; simp

theorem as_ss (v : Value) (W : World) : (Instr.typeAssert (.iface 9 v) 20 9 true).run Tryz.prog W = .ok (.tuple #[v, .bool true]) W := by kernel_rfl
theorem as_bs (v : Value) (W : World) : (Instr.typeAssert (.iface 32 v) 20 9 true).run Tryz.prog W = .ok (.tuple #[.string ByteArray.empty, .bool false]) W := by kernel_rfl
theorem as_bb (v : Value) (W : World) : (Instr.typeAssert (.iface 32 v) 20 32 true).run Tryz.prog W = .ok (.tuple #[v, .bool true]) W := by kernel_rfl
theorem as_fs (v : Value) (W : World) : (Instr.typeAssert (.iface 4 v) 20 9 true).run Tryz.prog W = .ok (.tuple #[.string ByteArray.empty, .bool false]) W := by kernel_rfl
theorem as_fb (v : Value) (W : World) : (Instr.typeAssert (.iface 4 v) 20 32 true).run Tryz.prog W = .ok (.tuple #[.slice none 0 0, .bool false]) W := by kernel_rfl
theorem as_ff (v : Value) (W : World) : (Instr.typeAssert (.iface 4 v) 20 4 true).run Tryz.prog W = .ok (.tuple #[v, .bool true]) W := by kernel_rfl

set_option maxRecDepth 100000 in
set_option maxHeartbeats 2000000 in
theorem page_lay (base lo c : Nat) (v0 : Value) (bs : List Nat) (A : Option Addr) (ps : List Piece) (w : World) (hown : OwnB w base v0 bs) (hbase : base ≤ w.heap.size)
    (hr : Rd Piece.cells 1 w lo w.heap.size A ps) (hin : ∀ x ∈ ps, x.In w lo w.heap.size) (hv : ∀ k, v0.ownBlock = some k → k < lo) (hlen : bs.length + (ps.flatMap Piece.bytes).length ≤ 1099511627776) (hps : ps.length ≤ 1099511627776) :
    Calls Tryz.prog 86 #[v0, .slice A ps.length c] w (PostG w base v0 (bs ++ ps.flatMap Piece.bytes)) := by
  have HO := Lib.hid hown
  have HR := Lib.hid hr
  have HI := Lib.hid hin
  have HV := Lib.hid hv
  have HL := Lib.hid hlen
  have HBA := Lib.hid hbase
  clear hown hr hin hv hlen hbase
  go_enter Tryz.func86, Tryz.ntmps86
  go_wp2
  go_loopw [0, 12] (fun v i wr => ∃ k : Nat, k ≤ ps.length ∧ i = .int .i64 k ∧ Hid (OwnB wr base v (bs ++ (ps.take k).flatMap Piece.bytes)) ∧ Hid (Grew w wr v0 v)) (fun _ i _ => ps.length - (intOf i).toNat)
  case atStart => exact ⟨0, Nat.zero_le _, rfl, Lib.hid (by simpa using HO.out), Lib.hid (Grew.refl _ _)⟩
  case round =>
    obtain ⟨k, hk, rfl, HOr, HG⟩ := hrel
    by_cases hlt : k < ps.length
    · obtain ⟨ad, x, rfl, hx, h1, h2, c0⟩ := (HR.out.grew HG.out (Nat.le_refl _) HV.out).piece hlt
      have hfl := flat_len hx
      have htf := take_flat hx
      have hxm : x ∈ ps := List.mem_of_getElem? hx
      have HX := Lib.hid hx
      have HTF := Lib.hid htf
      have HFL := Lib.hid hfl
      have HIx := Lib.hid (HI.out x hxm)
      have hbr : base ≤ wr.heap.size := Nat.le_trans HBA.out HG.out.grown.size
      have hll : (bs ++ (ps.take k).flatMap Piece.bytes).length + x.bytes.length ≤ 1099511627776 := by have := HL.out; rw [List.length_append]; omega
      have HLL := Lib.hid hll
      clear hx hfl htf hxm hll
      cases x with
      | text s =>
        unfold Piece.val at c0
        have hsz : (bs ++ (ps.take k).flatMap Piece.bytes).length + 1 + s.size ≤ 1099511627776 := by
          have := HLL.out
          have h2 : (Piece.text s).bytes.length = 1 + s.size := textB_length s
          omega
        have HSZ := Lib.hid hsz
        clear hsz
        have a1 := as_ss
        go_wp2_with (first
          | (at_builtin; refine app1 wr rfl (.tmp 20) (.tmp 24) rfl base u0 (bs ++ (ps.take k).flatMap Piece.bytes) (s.size % 256) _ (Int.natCast_emod _ _).symm rfl HOr.out rfl (by have := HSZ.out; omega) hbr ?_; intro v1 w1 hO1 hG1)
          | (at_builtin; refine appS w1 rfl (.tmp 25) (.tmp 26) rfl base v1 _ s rfl hO1 rfl (by have := HSZ.out; rw [List.length_append, List.length_singleton]; omega) (Nat.le_trans hbr hG1.grown.size) ?_; intro v2 w2 hO2 hG2))
        go_roundw
        case rel => exact ⟨k + 1, by omega, by go_num, Lib.hid (by rw [HTF.out]; simpa [Piece.bytes, textB, List.append_assoc] using hO2), Lib.hid ((HG.out.trans hG1).trans hG2)⟩
        case measure => simp [intOf]; omega
      | raw A1 c1 m =>
        unfold Piece.val at c0
        have a1 := as_bs
        have a2 := as_bb
        go_wp2_with (at_builtin; refine appB wr rfl (.tmp 31) (.tmp 32) rfl base u0 (bs ++ (ps.take k).flatMap Piece.bytes) m A1 c1 lo w.heap.size rfl HOr.out rfl (Rd.grew HIx.out HG.out (Nat.le_refl _) HV.out) HLL.out hbr ?_; intro v1 w1 hO1 hG1)
        go_roundw
        case rel => exact ⟨k + 1, by omega, by go_num, Lib.hid (by rw [HTF.out]; simpa [Piece.bytes, List.append_assoc] using hO1), Lib.hid (HG.out.trans hG1)⟩
        case measure => simp [intOf]; omega
      | flag b =>
        unfold Piece.val at c0
        have a1 := as_fs
        have a2 := as_fb
        have a3 := as_ff
        cases b
        · go_wp2_with (at_builtin; refine app1 wr rfl (.tmp 41) (.tmp 42) rfl base u0 (bs ++ (ps.take k).flatMap Piece.bytes) 0 _ rfl rfl HOr.out rfl (by have := HLL.out; omega) hbr ?_; intro v1 w1 hO1 hG1)
          go_roundw
          case rel => exact ⟨k + 1, by omega, by go_num, Lib.hid (by rw [HTF.out]; simpa [Piece.bytes, flagB, List.append_assoc] using hO1), Lib.hid (HG.out.trans hG1)⟩
          case measure => simp [intOf]; omega
        · go_wp2_with (at_builtin; refine app1 wr rfl (.tmp 38) (.tmp 39) rfl base u0 (bs ++ (ps.take k).flatMap Piece.bytes) 1 _ rfl rfl HOr.out rfl (by have := HLL.out; omega) hbr ?_; intro v1 w1 hO1 hG1)
          go_roundw
          case rel => exact ⟨k + 1, by omega, by go_num, Lib.hid (by rw [HTF.out]; simpa [Piece.bytes, flagB, List.append_assoc] using hO1), Lib.hid (HG.out.trans hG1)⟩
          case measure => simp [intOf]; omega
    · obtain rfl : k = ps.length := by omega
      go_wp2
      go_ret
      exact ⟨_, rfl, by simpa using HOr.out, HG.out⟩
end Go.Proofs.YtjbdmaehomhdeaaGreat

namespace Go.Proofs.YtjbdmaehomhdeaaGreat
open Go.RowKit

theorem OwnB.form {w : World} {base n : Nat} {v : Value} {l : List Nat} (h : OwnB w base v l) (hn : l.length = n) :
    ∃ A c, v = .slice A n c ∧ n ≤ c ∧ Rd byteCell 1 w base w.heap.size A l ∧ (∀ k, v.ownBlock = some k → base ≤ k ∧ k < w.heap.size) := by
  subst hn
  have hlt := h.lt
  have hge := h.block
  have h0 := h
  rcases h.2 with ⟨rfl, hl⟩ | ⟨g, cap, cur, rfl, hg, hh, hn, hcm, hsz, htk⟩
  · have : l = [] := List.eq_nil_of_length_eq_zero hl
    subst this
    exact ⟨none, 0, rfl, Nat.le_refl _, Rd.nil, fun k hk => by simp [Value.ownBlock] at hk⟩
  · refine ⟨_, _, rfl, hn, fun _ => ⟨_, rfl, hg, hlt g (by simp [Value.ownBlock]), fun i x hx j u hu => ?_⟩, fun k hk => ⟨hge k hk, hlt k hk⟩⟩
    have hil : i < l.length := (List.getElem?_eq_some_iff.1 hx).1
    have hc := h0.cells (g := g) rfl i (.int .u8 (x : Int)) (by unfold byteVals; rw [List.getElem?_map, hx]; rfl)
    have hj : j = 0 := by
      rcases Nat.eq_zero_or_pos j with e | e
      · exact e
      · unfold byteCell at hu; rw [List.getElem?_eq_none (by simp; omega)] at hu; cases hu
    subst hj
    simp [byteCell] at hu
    subst hu
    simpa using hc

def Item.bytes (x : Item) : List Nat := textB x.key ++ (numB x.no.toNat 6 ++ (flagB x.gone ++ textB x.value))
def Kid.bytes (x : Kid) : List Nat := textB x.key ++ numB x.page.toNat 2
def Page.head (p : Page) : List Nat := numB p.level.toNat 1 ++ (flagB p.last ++ (textB p.low ++ (textB p.high ++ (numB p.side.toNat 2 ++ numB (p.items.length + p.kids.length) 1))))
def Page.bytes (p : Page) : List Nat := p.head ++ (p.items.flatMap Item.bytes ++ p.kids.flatMap Kid.bytes)

/-- what bytes asks of a page -/
structure Page.Fine (p : Page) : Prop where
  lv : 0 ≤ p.level
  sd : 0 ≤ p.side
  its : ∀ x ∈ p.items, 0 ≤ x.no ∧ x.key.size ≤ 16 ∧ x.value.size ≤ 48
  kds : ∀ x ∈ p.kids, 0 ≤ x.page ∧ x.key.size ≤ 16
  ni : p.items.length ≤ 120
  nk : p.kids.length ≤ 120
  low : p.low.size ≤ 16
  high : p.high.size ≤ 16

theorem Item.of_check {x : Item} (h : x.check = 0) : x.May := by
  unfold Item.check at h
  split at h
  · assumption
  · cases h
theorem Page.Fine.of_ok {p : Page} (h : p.ok = true) : p.Fine := by
  unfold Page.ok at h
  simp only [Bool.and_eq_true, Bool.or_eq_true, Bool.not_eq_true'] at h
  obtain ⟨⟨hb, hl⟩, hi⟩ := h
  have hlv := bounds_level hb
  unfold Page.boundsB Page.bounds1 Page.bounds2 at hb
  simp only [Bool.and_eq_true, decide_eq_true_eq] at hb
  obtain ⟨⟨⟨h1, h2⟩, h3⟩, h4⟩ := hb
  have h5 : p.high.size ≤ 16 ∧ 0 ≤ p.side := by
    cases hl : p.last <;> rw [hl] at h4
    · simp only [cond_false, Bool.and_eq_true, isKey, isPage, decide_eq_true_eq] at h4
      omega
    · simp only [cond_true, Bool.and_eq_true, List.isEmpty_iff, beq_iff_eq] at h4
      have : p.high.size = 0 := by
        have h := h4.1
        rw [ByteArray.toList_eq, Array.toList_eq_nil_iff] at h
        show p.high.data.size = 0
        rw [h]; rfl
      omega
  by_cases h0 : p.level = 0
  · have hlf : p.leafB = true := by
      rcases hl with h | h
      · simp [h0] at h
      · exact h
    unfold Page.leafB at hlf
    simp only [Bool.and_eq_true, decide_eq_true_eq, Bool.not_eq_true', List.any_eq_false] at hlf
    obtain ⟨⟨⟨k1, k2⟩, k3⟩, _⟩ := hlf
    have hk : p.kids = [] := List.eq_nil_of_length_eq_zero k1
    refine ⟨hlv, h5.2, fun x hx => ?_, (fun x hx => by rw [hk] at hx; cases hx), k2, by omega, by omega, h5.1⟩
    have hm := Item.of_check (x := x) (by simpa using k3 x hx)
    obtain ⟨a, b, c, _⟩ := hm
    simp only [isKey, decide_eq_true_eq] at a
    omega
  · have hlf : p.innerB = true := by
      rcases hi with h | h
      · simp at h; omega
      · exact h
    unfold Page.innerB at hlf
    simp only [Bool.and_eq_true, decide_eq_true_eq, Bool.not_eq_true', List.any_eq_false] at hlf
    obtain ⟨⟨⟨⟨⟨k1, _⟩, k2⟩, _⟩, k3⟩, _⟩ := hlf
    have hk : p.items = [] := List.eq_nil_of_length_eq_zero k1
    refine ⟨hlv, h5.2, (fun x hx => by rw [hk] at hx; cases hx), fun x hx => ?_, by omega, k2, by omega, h5.1⟩
    have := k3 x hx
    simp [Kid.bad, isPage] at this
    omega
end Go.Proofs.YtjbdmaehomhdeaaGreat

namespace Go.Proofs.YtjbdmaehomhdeaaGreat
open Go.RowKit

theorem Rd.pieces {w : World} {g : Nat} {t : TypeId} {ps : List Piece} {lo : Nat} (h : Blk w g t (ps.map Piece.val).toArray) (hlo : lo ≤ g) : Rd Piece.cells 1 w lo w.heap.size (some ⟨g, 0, none⟩) ps := by
  intro _
  refine ⟨_, rfl, hlo, h.lt, fun i x hx j u hu => ?_⟩
  have hj : j = 0 := by
    rcases Nat.eq_zero_or_pos j with e | e
    · exact e
    · unfold Piece.cells at hu; rw [List.getElem?_eq_none (by simp; omega)] at hu; cases hu
  subst hj
  simp [Piece.cells] at hu
  subst hu
  have ha : (⟨g, 0, none⟩ : Addr).add (i * 1 + 0) = ⟨g, i, none⟩ := by
    unfold Addr.add; split
    · simp_all
    · simp
  rw [ha, h.cell]
  rw [List.getElem?_toArray, List.getElem?_map, hx]; rfl

theorem lay_head (bl : Bool) (low high : ByteArray) (l1 l2 l3 : List Nat) (v1 : Value) (A2 A3 : Option Addr) (c2 c3 : Nat) (w0 w1 w2 w3 : World) (hO1 : OwnB w1 w0.heap.size v1 l1) (hb1 : Below w0.heap.size w0 w1)
    (hB2 : Below w1.heap.size w1 w2) (hR2 : Rd byteCell 1 w2 w1.heap.size w2.heap.size A2 l2) (hB3 : Below w2.heap.size w2 w3) (hR3 : Rd byteCell 1 w3 w2.heap.size w3.heap.size A3 l3) (h1 : l1.length = 1) (h2 : l2.length = 2) (h3 : l3.length = 1)
    (hlow : low.size ≤ 16) (hhigh : high.size ≤ 16) :
    Calls Tryz.prog 86 #[v1, .slice (some ⟨w3.heap.size, 0, none⟩) 5 5] (w3.alloc (.cells #[.iface 4 (.bool bl), .iface 9 (.string low), .iface 9 (.string high), .iface 32 (.slice A2 2 c2), .iface 32 (.slice A3 1 c3)] 20))
      (PostG (w3.alloc (.cells #[.iface 4 (.bool bl), .iface 9 (.string low), .iface 9 (.string high), .iface 32 (.slice A2 2 c2), .iface 32 (.slice A3 1 c3)] 20)) w0.heap.size v1 (l1 ++ (flagB bl ++ (textB low ++ (textB high ++ (l2 ++ l3)))))) := by
  have hs1 := hb1.size
  have hs2 := hB2.size
  have hs3 := hB3.size
  obtain ⟨W, hW⟩ : ∃ W, W = w3.alloc (.cells #[.iface 4 (.bool bl), .iface 9 (.string low), .iface 9 (.string high), .iface 32 (.slice A2 2 c2), .iface 32 (.slice A3 1 c3)] 20) := ⟨_, rfl⟩
  have hW3 : Below w3.heap.size w3 W := by rw [hW]; exact (Below.refl _ _).alloc (Nat.le_refl _) _
  have hWs := hW3.size
  have hblk : Blk W w3.heap.size 20 ([Piece.flag bl, .text low, .text high, .raw A2 c2 l2, .raw A3 c3 l3].map Piece.val).toArray := by
    rw [hW]
    simp only [List.map_cons, List.map_nil, Piece.val, h2, h3]
    exact Blk.new _ _ _
  rw [← hW]
  have hl := page_lay w0.heap.size w1.heap.size 5 v1 l1 (some ⟨w3.heap.size, 0, none⟩) [Piece.flag bl, .text low, .text high, .raw A2 c2 l2, .raw A3 c3 l3] W (hO1.later (hB2.trans ((hB3.trans (hW3.mono hs3)).mono hs2))) (by omega) (Rd.pieces hblk (by omega))
    (by
      intro x hx
      simp only [List.mem_cons, List.not_mem_nil, or_false] at hx
      rcases hx with rfl | rfl | rfl | rfl | rfl
      · trivial
      · trivial
      · trivial
      · exact (hR2.below (hB3.trans (hW3.mono hs3))).mono (Nat.le_refl _) (by omega)
      · exact (hR3.below hW3).mono hs2 (by omega))
    hO1.lt (by simp only [List.flatMap_cons, List.flatMap_nil, Piece.bytes, List.length_append, textB_length, h1, h2, h3, flagB, List.length_cons, List.length_nil]; omega) (by simp)
  simpa [Piece.bytes] using hl

theorem Blk.grew {w w' : World} {g : Nat} {t : TypeId} {cs : Array Value} {v v' : Value} (h : Blk w g t cs) (hg : Grew w w' v v') (hne : ∀ k, v.ownBlock = some k → k < g) : Blk w' g t cs :=
  (hg.grown.block g h.lt (fun e => by have := hne g e.symm; omega)).trans h
theorem Blk.cells4 {w : World} {g : Nat} {t : TypeId} {a b c d : Value} (k : Blk w g t #[a, b, c, d]) :
    w.cell? ⟨g, 0, none⟩ = some a ∧ w.cell? ⟨g, 1, none⟩ = some b ∧ w.cell? ⟨g, 2, none⟩ = some c ∧ w.cell? ⟨g, 3, none⟩ = some d := ⟨k.cell 0, k.cell 1, k.cell 2, k.cell 3⟩
theorem Blk.cells2 {w : World} {g : Nat} {t : TypeId} {a b : Value} (k : Blk w g t #[a, b]) : w.cell? ⟨g, 0, none⟩ = some a ∧ w.cell? ⟨g, 1, none⟩ = some b := ⟨k.cell 0, k.cell 1⟩
theorem lay_at (base n : Nat) (v0 : Value) (bs : List Nat) (ps : List Piece) (arr : Array Value) (w5 w6 : World) (hO : OwnB w5 base v0 bs) (hb : base ≤ w5.heap.size) (h56 : Below w5.heap.size w5 w6)
    (hin : ∀ x ∈ ps, x.In w6 w5.heap.size w6.heap.size) (hn : ps.length = n) (harr : (ps.map Piece.val).toArray = arr) (hlen : bs.length + (ps.flatMap Piece.bytes).length ≤ 1099511627776) (hps : n ≤ 100) :
    Calls Tryz.prog 86 #[v0, .slice (some ⟨w6.heap.size, 0, none⟩) n n] (w6.alloc (.cells arr 20)) (fun e w' => ∃ v', e = .returned v' ∧ OwnB w' base v' (bs ++ ps.flatMap Piece.bytes) ∧ Below base w5 w' ∧ Grew w5 w' v0 v') := by
  subst hn harr
  have hs := h56.size
  obtain ⟨W, hW⟩ : ∃ W, W = w6.alloc (.cells (ps.map Piece.val).toArray 20) := ⟨_, rfl⟩
  have hW6 : Below w6.heap.size w6 W := by rw [hW]; exact (Below.refl _ _).alloc (Nat.le_refl _) _
  have hWs := hW6.size
  have hblk : Blk W w6.heap.size 20 (ps.map Piece.val).toArray := by rw [hW]; exact Blk.new _ _ _
  rw [← hW]
  refine (page_lay base w5.heap.size ps.length v0 bs (some ⟨w6.heap.size, 0, none⟩) ps W (hO.later (h56.trans (hW6.mono hs))) (by omega) (Rd.pieces hblk hs) (fun x hx => ?_) hO.lt hlen (by omega)).mono ?_
  · have := hin x hx
    cases x with
    | text s => trivial
    | flag b => trivial
    | raw A c l => exact (Rd.below this hW6).mono (Nat.le_refl _) hWs
  · rintro e w' ⟨v', rfl, h1, h2⟩
    exact ⟨v', rfl, h1, (h56.trans (hW6.mono hs)).mono hb |>.trans (h2.below (by omega) hO.block), (Grew.of_below (h56.trans (hW6.mono hs)) v0).trans h2⟩
theorem flat_bound {α : Type} (f : α → List Nat) (B : Nat) (l : List α) (h : ∀ x ∈ l, (f x).length ≤ B) : (l.flatMap f).length ≤ B * l.length := by
  induction l with
  | nil => simp
  | cons x r ih =>
    have h1 := h x (by simp)
    have h2 := ih (fun y hy => h y (by simp [hy]))
    simp only [List.flatMap_cons, List.length_append, List.length_cons, Nat.mul_add]
    omega
theorem Page.Fine.item_len {p : Page} (h : p.Fine) {x : Item} (hx : x ∈ p.items) : x.bytes.length ≤ 73 := by
  have := h.its x hx
  simp only [Item.bytes, List.length_append, textB_length, numB_length, flagB, List.length_cons, List.length_nil]
  omega
theorem Page.Fine.kid_len {p : Page} (h : p.Fine) {x : Kid} (hx : x ∈ p.kids) : x.bytes.length ≤ 73 := by
  have := h.kds x hx
  simp only [Kid.bytes, List.length_append, textB_length, numB_length]
  omega
theorem Page.Fine.head_len {p : Page} (h : p.Fine) : p.head.length ≤ 73 := by
  have := h.low
  have := h.high
  simp only [Page.head, List.length_append, textB_length, numB_length, flagB, List.length_cons, List.length_nil]
  omega
theorem Page.Fine.items_len {p : Page} (h : p.Fine) (k : Nat) : ((p.items.take k).flatMap Item.bytes).length ≤ 8760 := by
  have h1 := flat_bound Item.bytes 73 (p.items.take k) (fun x hx => h.item_len (List.mem_of_mem_take hx))
  have h2 : (p.items.take k).length ≤ 120 := by have := h.ni; rw [List.length_take]; omega
  omega
theorem Page.Fine.kids_len {p : Page} (h : p.Fine) (k : Nat) : ((p.kids.take k).flatMap Kid.bytes).length ≤ 8760 := by
  have h1 := flat_bound Kid.bytes 73 (p.kids.take k) (fun x hx => h.kid_len (List.mem_of_mem_take hx))
  have h2 : (p.kids.take k).length ≤ 120 := by have := h.nk; rw [List.length_take]; omega
  omega
theorem take_flat' {α : Type} (f : α → List Nat) {l : List α} {k : Nat} {x : α} (hx : l[k]? = some x) : (l.take (k + 1)).flatMap f = (l.take k).flatMap f ++ f x := by
  rw [List.take_add_one, hx]; simp

set_option maxRecDepth 100000 in
set_option maxHeartbeats 4000000 in
theorem page_bytes (p : Page) (A A' : Option Addr) (c c' lo : Nat) (w : World) (hp : Pg w lo w.heap.size p A A' c c') (hf : p.Fine) :
    Calls Tryz.prog 61 #[p.val A c A' c'] w (PostB w p.bytes) := by
  have H1 := Lib.hid hp
  have HF := Lib.hid hf
  unfold Page.val Page.raw
  obtain ⟨ni, hni⟩ : ∃ n, n = p.items.length := ⟨_, rfl⟩
  obtain ⟨nk, hnk⟩ : ∃ n, n = p.kids.length := ⟨_, rfl⟩
  obtain ⟨lv, hlv⟩ : ∃ n, n = p.level.toNat := ⟨_, rfl⟩
  obtain ⟨sd, hsd⟩ : ∃ n, n = p.side.toNat := ⟨_, rfl⟩
  have hlv' : p.level = (lv : Int) := by have := hf.lv; omega
  have hsd' : p.side = (sd : Int) := by have := hf.sd; omega
  have hni' : ni ≤ 120 := by have := hf.ni; omega
  have hnk' : nk ≤ 120 := by have := hf.nk; omega
  rw [← hni, ← hnk, hlv', hsd']
  have HNI := Lib.hid hni
  have HNK := Lib.hid hnk
  have HLV := Lib.hid hlv
  have HSD := Lib.hid hsd
  have HLO : Hid (p.low.size ≤ 16 ∧ p.high.size ≤ 16) := Lib.hid ⟨hf.low, hf.high⟩
  clear hni hnk hp hf hlv hsd hlv' hsd'
  go_enter Tryz.func61, Tryz.ntmps61
  go_upto_region 1 with (fail)
  have hP : Blk (w.alloc (Obj.cells #[Value.int IntKind.i64 lv, Value.string p.low, Value.string p.high, Value.bool p.last, Value.int IntKind.i64 sd, Value.slice A ni c, Value.slice A' nk c'] 27)) w.heap.size 27 #[Value.int IntKind.i64 lv, Value.string p.low, Value.string p.high, Value.bool p.last, Value.int IntKind.i64 sd, Value.slice A ni c, Value.slice A' nk c'] := Blk.new _ _ _
  have hB : Below w.heap.size w (w.alloc (Obj.cells #[Value.int IntKind.i64 lv, Value.string p.low, Value.string p.high, Value.bool p.last, Value.int IntKind.i64 sd, Value.slice A ni c, Value.slice A' nk c'] 27)) := (Below.refl _ _).alloc (Nat.le_refl _) _
  generalize (w.alloc (Obj.cells #[Value.int IntKind.i64 lv, Value.string p.low, Value.string p.high, Value.bool p.last, Value.int IntKind.i64 sd, Value.slice A ni c, Value.slice A' nk c'] 27)) = w0 at *
  have HP := Lib.hid hP
  have HB := Lib.hid hB
  clear hP hB
  have hwrap : IntKind.i64.wrap ((ni : Int) + (nk : Int)) = ((ni + nk : Nat) : Int) := by
    rw [IntWalk.i64_in _ (by omega)]; omega
  have HN3 : Hid (∀ W, Calls Tryz.prog 87 #[.int .i64 ((ni : Int) + (nk : Int)), .int .i64 1] W (PostB W (numB (ni + nk) 1))) := Lib.hid fun W => by
    have := page_number (ni + nk) 1 (by omega) W
    rw [Int.natCast_add] at this
    exact this
  go_cut [3] (fun v wc => Hid (OwnB wc w0.heap.size v p.head) ∧ Hid (Below w0.heap.size w0 wc))
  case first =>
    obtain ⟨q0, q1, q2, q3, q4, q5, q6⟩ := Blk.cells7 HP.out
    go_region_held3 (fun w' => w'.cell? ⟨w.heap.size, 0, none⟩ = some (.int .i64 lv) ∧ w'.cell? ⟨w.heap.size, 1, none⟩ = some (.string p.low) ∧ w'.cell? ⟨w.heap.size, 2, none⟩ = some (.string p.high) ∧ w'.cell? ⟨w.heap.size, 3, none⟩ = some (.bool p.last) ∧
        w'.cell? ⟨w.heap.size, 4, none⟩ = some (.int .i64 sd) ∧ w'.cell? ⟨w.heap.size, 5, none⟩ = some (.slice A ni c) ∧ w'.cell? ⟨w.heap.size, 6, none⟩ = some (.slice A' nk c'))
      (first | go_keep | exact Blk.cells7 (HP.out.below (by assumption) HP.out.lt))
      (first
        | (go_at_call_of 87 (Value.int IntKind.i64 (lv : Int)); refine (page_number lv 1 (by omega) _).mono ?_; rintro e w1 ⟨v1, rfl, hO1, hB1⟩; have hb1 : Below w0.heap.size w0 w1 := ((Below.refl _ _).drew).trans hB1)
        | (go_at_call_of 87 (Value.int IntKind.i64 (sd : Int)); refine (page_number sd 2 (by omega) _).mono ?_; rintro e w2 ⟨v2, rfl, hO2, hB2⟩; obtain ⟨A2, c2, rfl, _, hR2, _⟩ := OwnB.form hO2 (numB_length _ _); have hb2 : Below w0.heap.size w0 w2 := hb1.trans (hB2.mono hb1.size))
        | (go_at_call 87; refine (HN3.out _).mono ?_; rintro e w3 ⟨v3, rfl, hO3, hB3⟩; obtain ⟨A3, c3, rfl, _, hR3, _⟩ := OwnB.form hO3 (numB_length _ _); have hb3 : Below w0.heap.size w0 w3 := hb2.trans (hB3.mono hb2.size))
        | (go_at_call 86; refine (lay_head p.last p.low p.high (numB lv 1) (numB sd 2) (numB (ni + nk) 1) v1 A2 A3 c2 c3 w0 w1 w2 w3 hO1 hb1 hB2 hR2 hB3 hR3 (numB_length _ _) (numB_length _ _) (numB_length _ _) HLO.out.1 HLO.out.2).mono ?_; rintro e w4 ⟨v4, rfl, hO4, hG4⟩; have hb4 : Below w0.heap.size w0 w4 := (hb3.alloc hb3.size _).trans (hG4.below (by have := hb3.size; simp; omega) hO1.block)))
    go_wp2
    go_meet
    exact ⟨Lib.hid (by unfold Page.head; rw [← HLV.out, ← HSD.out, ← HNI.out, ← HNK.out]; exact hO4), Lib.hid hb4⟩
  case rest =>
    obtain ⟨hOh, hBh⟩ := hcut
    clear HN3 hwrap
    have HPc : Hid (Blk wc w.heap.size 27 #[Value.int IntKind.i64 lv, Value.string p.low, Value.string p.high, Value.bool p.last, Value.int IntKind.i64 sd, Value.slice A ni c, Value.slice A' nk c']) := Lib.hid (HP.out.below hBh.out HP.out.lt)
    obtain ⟨q0, q1, q2, q3, q4, q5, q6⟩ := Blk.cells7 HPc.out
    go_wp2
    have HGW : Hid (w.heap.size < w0.heap.size) := Lib.hid HP.out.lt
    go_loopw [3, 38] (fun v i wr => ∃ k : Nat, k ≤ ni ∧ i = .int .i64 k ∧ Hid (OwnB wr w0.heap.size v (p.head ++ (p.items.take k).flatMap Item.bytes)) ∧ Hid (Below w0.heap.size w0 wr)) (fun _ i _ => ni - (intOf i).toNat)
    case atStart => exact ⟨0, Nat.zero_le _, rfl, Lib.hid (by simpa using hOh.out), hBh⟩
    case round =>
      obtain ⟨k, hk, rfl, HOr, HBr⟩ := hrel
      by_cases hlt : k < ni
      · obtain ⟨ad, x, rfl, hx, h1, h2, c0, c1, c2, c3⟩ := ((H1.out.items.below HB.out).below (HBr.out.mono HB.out.size)).item (i := k) (by rw [← HNI.out]; exact hlt)
        have hxm : x ∈ p.items := List.mem_of_getElem? hx.out
        obtain ⟨hx0, hx1, hx2⟩ := HF.out.its x hxm
        obtain ⟨xn, hxn⟩ : ∃ n, n = x.no.toNat := ⟨_, rfl⟩
        have hxn' : x.no = (xn : Int) := by omega
        rw [hxn'] at c2
        have HXN := Lib.hid hxn
        clear hxn hxn' hx0 hxm
        go_upto_region 5 with (fail)
        have hX := Blk.new wr 23 #[Value.string x.key, Value.string x.value, Value.int IntKind.i64 xn, Value.bool x.gone]
        have hO5 := HOr.out.later ((Below.refl wr.heap.size wr).alloc (Nat.le_refl _) (Obj.cells #[Value.string x.key, Value.string x.value, Value.int IntKind.i64 xn, Value.bool x.gone] 23))
        have hB5 := HBr.out.alloc HBr.out.size (Obj.cells #[Value.string x.key, Value.string x.value, Value.int IntKind.i64 xn, Value.bool x.gone] 23)
        generalize (wr.alloc (Obj.cells #[Value.string x.key, Value.string x.value, Value.int IntKind.i64 xn, Value.bool x.gone] 23)) = w5 at *
        have HX5 := Lib.hid hX
        have HO5 := Lib.hid hO5
        have HB5 := Lib.hid hB5
        clear hX hO5 hB5 c0 c1 c2 c3
        have y0 : w5.cell? ⟨wr.heap.size, 0, none⟩ = some (.string x.key) := HX5.out.cell 0
        have y1 : w5.cell? ⟨wr.heap.size, 1, none⟩ = some (.string x.value) := HX5.out.cell 1
        have y2 : w5.cell? ⟨wr.heap.size, 2, none⟩ = some (.int .i64 xn) := HX5.out.cell 2
        have y3 : w5.cell? ⟨wr.heap.size, 3, none⟩ = some (.bool x.gone) := HX5.out.cell 3
        have HLEN : Hid ((p.head ++ (p.items.take k).flatMap Item.bytes).length ≤ 10000) := Lib.hid (by
          have := HF.out.head_len
          have := HF.out.items_len k
          rw [List.length_append]; omega)
        have HSX : Hid (x.key.size ≤ 16 ∧ x.value.size ≤ 48) := Lib.hid ⟨hx1, hx2⟩
        clear hx1 hx2
        go_region_held3 (fun w' => w'.cell? ⟨wr.heap.size, 0, none⟩ = some (.string x.key) ∧ w'.cell? ⟨wr.heap.size, 1, none⟩ = some (.string x.value) ∧ w'.cell? ⟨wr.heap.size, 2, none⟩ = some (.int .i64 xn) ∧ w'.cell? ⟨wr.heap.size, 3, none⟩ = some (.bool x.gone))
          (first | go_keep | exact Blk.cells4 (by assumption))
          (first
            | (go_at_call 87; refine (page_number xn 6 (by omega) _).mono ?_; rintro e w6 ⟨v6, rfl, hO6, hB6⟩; have hb6 : Below w5.heap.size w5 w6 := ((Below.refl _ _).drew).trans hB6; obtain ⟨A6, c6, rfl, _, hR6, _⟩ := OwnB.form hO6 (numB_length _ _); have hX6 := HX5.out.below hb6 HX5.out.lt)
            | (go_at_call 86; refine (lay_at w0.heap.size 4 u3 _ [.text x.key, .raw A6 c6 (numB xn 6), .flag x.gone, .text x.value] _ w5 _ HO5.out HB5.out.size hb6 (by
                intro z hz
                simp only [List.mem_cons, List.not_mem_nil, or_false] at hz
                rcases hz with rfl | rfl | rfl | rfl
                · trivial
                · exact hR6
                · trivial
                · trivial) rfl rfl (by
                have := HLEN.out
                have := HSX.out
                simp only [List.flatMap_cons, List.flatMap_nil, Piece.bytes, List.length_append, textB_length, numB_length, flagB, List.length_cons, List.length_nil] at *
                omega) (by omega)).mono ?_; rintro e w7 ⟨v7, rfl, hO7, hB7, hG7⟩; have hb7 : Below w0.heap.size w0 w7 := HB5.out.trans hB7; have hX7 := HX5.out.grew hG7 HOr.out.lt))
        go_wp2
        go_roundw
        case rel => exact ⟨k + 1, by omega, by go_num, Lib.hid (by
          rw [take_flat' Item.bytes hx.out]
          have := hO7
          simp only [List.flatMap_cons, List.flatMap_nil, Piece.bytes, List.append_nil] at this
          rw [List.append_assoc] at this
          unfold Item.bytes
          rw [← HXN.out]
          exact this), Lib.hid hb7⟩
        case measure => simp [intOf]; omega
      · obtain rfl : k = ni := by omega
        have HOi : Hid (OwnB wr w0.heap.size u3 (p.head ++ p.items.flatMap Item.bytes)) := Lib.hid (by
          have := HOr.out
          rw [HNI.out, List.take_length] at this
          exact this)
        have HPr : Hid (Blk wr w.heap.size 27 #[Value.int IntKind.i64 lv, Value.string p.low, Value.string p.high, Value.bool p.last, Value.int IntKind.i64 sd, Value.slice A k c, Value.slice A' nk c']) := Lib.hid (HP.out.below HBr.out HP.out.lt)
        clear q0 q1 q2 q3 q4 q5 q6
        obtain ⟨q0, q1, q2, q3, q4, q5, q6⟩ := Blk.cells7 HPr.out
        go_wp2
        go_loopw [3, 62] (fun v i wr => ∃ j : Nat, j ≤ nk ∧ i = .int .i64 j ∧ Hid (OwnB wr w0.heap.size v ((p.head ++ p.items.flatMap Item.bytes) ++ (p.kids.take j).flatMap Kid.bytes)) ∧ Hid (Below w0.heap.size w0 wr)) (fun _ i _ => nk - (intOf i).toNat)
        case atStart => exact ⟨0, Nat.zero_le _, rfl, Lib.hid (by simpa using HOi.out), HBr⟩
        case round =>
          obtain ⟨j, hj, rfl, HOs, HBs⟩ := hrel
          by_cases hlt2 : j < nk
          · obtain ⟨ad, x, rfl, hx, h1, h2, c0, c1⟩ := ((H1.out.kids.below HB.out).below (HBs.out.mono HB.out.size)).kid (i := j) (by rw [← HNK.out]; exact hlt2)
            have hxm : x ∈ p.kids := List.mem_of_getElem? hx.out
            obtain ⟨hx0, hx1⟩ := HF.out.kds x hxm
            obtain ⟨xn, hxn⟩ : ∃ n, n = x.page.toNat := ⟨_, rfl⟩
            have hxn' : x.page = (xn : Int) := by omega
            rw [hxn'] at c1
            have HXN := Lib.hid hxn
            clear hxn hxn' hx0 hxm
            go_upto_region 10 with (fail)
            have hX := Blk.new wr 61 #[Value.string x.key, Value.int IntKind.i64 xn]
            have hO5 := HOs.out.later ((Below.refl wr.heap.size wr).alloc (Nat.le_refl _) (Obj.cells #[Value.string x.key, Value.int IntKind.i64 xn] 61))
            have hB5 := HBs.out.alloc HBs.out.size (Obj.cells #[Value.string x.key, Value.int IntKind.i64 xn] 61)
            generalize (wr.alloc (Obj.cells #[Value.string x.key, Value.int IntKind.i64 xn] 61)) = w5 at *
            have HX5 := Lib.hid hX
            have HO5 := Lib.hid hO5
            have HB5 := Lib.hid hB5
            clear hX hO5 hB5 c0 c1
            have y0 : w5.cell? ⟨wr.heap.size, 0, none⟩ = some (.string x.key) := HX5.out.cell 0
            have y1 : w5.cell? ⟨wr.heap.size, 1, none⟩ = some (.int .i64 xn) := HX5.out.cell 1
            have HLEN : Hid (((p.head ++ p.items.flatMap Item.bytes) ++ (p.kids.take j).flatMap Kid.bytes).length ≤ 20000) := Lib.hid (by
              have := HF.out.head_len
              have := HF.out.kids_len j
              have := HF.out.items_len p.items.length
              rw [List.take_length] at this
              rw [List.length_append, List.length_append]; omega)
            have HSX : Hid (x.key.size ≤ 16) := Lib.hid hx1
            clear hx1
            go_region_held3 (fun w' => w'.cell? ⟨wr.heap.size, 0, none⟩ = some (.string x.key) ∧ w'.cell? ⟨wr.heap.size, 1, none⟩ = some (.int .i64 xn))
              (first | go_keep | exact Blk.cells2 (by assumption))
              (first
                | (go_at_call 87; refine (page_number xn 2 (by omega) _).mono ?_; rintro e w6 ⟨v6, rfl, hO6, hB6⟩; have hb6 : Below w5.heap.size w5 w6 := ((Below.refl _ _).drew).trans hB6; obtain ⟨A6, c6, rfl, _, hR6, _⟩ := OwnB.form hO6 (numB_length _ _); have hX6 := HX5.out.below hb6 HX5.out.lt)
                | (go_at_call 86; refine (lay_at w0.heap.size 2 u3 _ [.text x.key, .raw A6 c6 (numB xn 2)] _ w5 _ HO5.out HB5.out.size hb6 (by
                    intro z hz
                    simp only [List.mem_cons, List.not_mem_nil, or_false] at hz
                    rcases hz with rfl | rfl
                    · trivial
                    · exact hR6) rfl rfl (by
                    have := HLEN.out
                    have := HSX.out
                    simp only [List.flatMap_cons, List.flatMap_nil, Piece.bytes, List.length_append, textB_length, numB_length, List.length_cons, List.length_nil] at *
                    omega) (by omega)).mono ?_; rintro e w7 ⟨v7, rfl, hO7, hB7, hG7⟩; have hb7 : Below w0.heap.size w0 w7 := HB5.out.trans hB7; have hX7 := HX5.out.grew hG7 HOs.out.lt))
            go_wp2
            go_roundw
            case rel => exact ⟨j + 1, by omega, by go_num, Lib.hid (by
              rw [take_flat' Kid.bytes hx.out]
              have := hO7
              simp only [List.flatMap_cons, List.flatMap_nil, Piece.bytes, List.append_nil] at this
              rw [List.append_assoc _ _ (textB x.key ++ _)] at this
              unfold Kid.bytes
              rw [← HXN.out]
              exact this), Lib.hid hb7⟩
            case measure => simp [intOf]; omega
          · obtain rfl : j = nk := by omega
            go_wp2
            go_ret
            exact ⟨_, rfl, by
              have := HOs.out
              rw [HNK.out, List.take_length, List.append_assoc] at this
              exact (OwnB.mono this HB.out.size), HB.out.trans (HBs.out.mono HB.out.size)⟩
end Go.Proofs.YtjbdmaehomhdeaaGreat

namespace Go.Proofs.YtjbdmaehomhdeaaGreat
open Go.RowKit

def PostE (w : World) (p : Page) (e : Ending) (w' : World) : Prop := ∃ v, e = .returned (.tuple #[v, .int .i64 p.check]) ∧ OwnB w' w.heap.size v (cond p.ok p.bytes []) ∧ Below w.heap.size w w'

set_option maxRecDepth 100000 in
set_option maxHeartbeats 1000000 in
theorem page_Encode (p : Page) (A A' : Option Addr) (c c' lo : Nat) (w : World) (hp : Pg w lo w.heap.size p A A' c c') :
    Calls Tryz.prog 33 #[p.val A c A' c'] w (PostE w p) := by
  have H1 := Lib.hid hp
  clear hp
  have HCH := Lib.hid (fun w1 h => page_Check p A A' c c' lo w1 h)
  have HBY := Lib.hid (fun w1 h hf => page_bytes p A A' c c' lo w1 h hf)
  unfold Page.val Page.raw at HCH HBY
  unfold Page.val Page.raw
  obtain ⟨ni, hni⟩ : ∃ n, n = p.items.length := ⟨_, rfl⟩
  obtain ⟨nk, hnk⟩ : ∃ n, n = p.kids.length := ⟨_, rfl⟩
  rw [← hni, ← hnk]
  rw [← hni, ← hnk] at HCH HBY
  clear hni hnk
  go_enter Tryz.func33, Tryz.ntmps33
  go_upto_region 1 with (fail)
  have hP : PBlk (w.alloc (Obj.cells #[Value.int IntKind.i64 p.level, Value.string p.low, Value.string p.high, Value.bool p.last, Value.int IntKind.i64 p.side, Value.slice A ni c, Value.slice A' nk c'] 27)) w.heap.size p A ni c A' nk c' := Blk.new _ _ _
  have hB : Below w.heap.size w (w.alloc (Obj.cells #[Value.int IntKind.i64 p.level, Value.string p.low, Value.string p.high, Value.bool p.last, Value.int IntKind.i64 p.side, Value.slice A ni c, Value.slice A' nk c'] 27)) := (Below.refl _ _).alloc (Nat.le_refl _) _
  generalize (w.alloc (Obj.cells #[Value.int IntKind.i64 p.level, Value.string p.low, Value.string p.high, Value.bool p.last, Value.int IntKind.i64 p.side, Value.slice A ni c, Value.slice A' nk c'] 27)) = w0 at *
  have HP := Lib.hid hP
  have HB := Lib.hid hB
  clear hP hB
  obtain ⟨q0, q1, q2, q3, q4, q5, q6⟩ := HP.out.cells
  have HR0 : Hid (Pg w0 lo w0.heap.size p A A' c c') := Lib.hid ((H1.out.below HB.out).mono (Nat.le_refl _) HB.out.size)
  obtain ⟨ec, hec⟩ : ∃ n, n = p.check := ⟨_, rfl⟩
  have HEC := Lib.hid hec
  clear hec
  cases hok : p.ok with
  | true =>
    have HOK := Lib.hid hok
    have HC0 : Hid (p.check = 0) := Lib.hid (by unfold Page.check; rw [hok]; rfl)
    clear hok
    go_wp2_with (first
      | (go_at_call 40; refine (HCH.out w0 HR0.out).mono ?_; rw [HC0.out]; rintro e w1 ⟨rfl, hb1⟩; obtain ⟨r0, r1, r2, r3, r4, r5, r6⟩ := PBlk.cells (HP.out.below hb1 HP.out.lt))
      | (go_at_call 61; refine (HBY.out w1 ((HR0.out.below hb1).mono (Nat.le_refl _) hb1.size) (Page.Fine.of_ok HOK.out)).mono ?_; rintro e w2 ⟨v2, rfl, hO2, hb2⟩))
    go_ret2
    exact ⟨v2, by rw [HC0.out]; rfl, by rw [HOK.out]; exact hO2.mono (Nat.le_trans HB.out.size hb1.size), (HB.out.trans (hb1.mono HB.out.size)).trans (hb2.mono (Nat.le_trans HB.out.size hb1.size))⟩
  | false =>
    have HOK := Lib.hid hok
    have HC0 : Hid (p.check = 101) := Lib.hid (by unfold Page.check; rw [hok]; rfl)
    clear hok
    go_wp2_with (go_at_call 40; refine (HCH.out w0 HR0.out).mono ?_; rw [HC0.out]; rintro e w1 ⟨rfl, hb1⟩)
    go_ret2
    exact ⟨.slice none 0 0, by rw [HC0.out]; rfl, by rw [HOK.out]; exact OwnB.nil _ _, HB.out.trans (hb1.mono HB.out.size)⟩

/-- a number out of bytes, the lowest first -/
def leN : List Nat → Nat
  | [] => 0
  | b :: r => b + 256 * leN r
theorem leN_append (l : List Nat) (b : Nat) : leN (l ++ [b]) = leN l + b * 256 ^ l.length := by
  induction l with
  | nil => simp [leN]
  | cons x r ih =>
    simp only [List.cons_append, leN, ih, List.length_cons, Nat.pow_succ, Nat.mul_add]
    rw [Nat.mul_comm 256 (b * 256 ^ r.length), Nat.mul_assoc]; omega
theorem leN_lt (l : List Nat) (h : ∀ b ∈ l, b < 256) : leN l < 256 ^ l.length := by
  induction l with
  | nil => simp [leN]
  | cons x r ih =>
    have h1 := h x (by simp)
    have h2 := ih (fun b hb => h b (by simp [hb]))
    simp only [leN, List.length_cons, Nat.pow_succ]
    omega

theorem bits_or_nat (a b : Nat) (ha : a < 4611686018427387904) (hb : b < 4611686018427387904) : bits .or .i64 (a : Int) (b : Int) = ((a ||| b : Nat) : Int) := by
  have hx : a ||| b < 2 ^ 62 := Nat.or_lt_two_pow (by omega) (by omega)
  have h1 : (BitVec.ofInt 64 (a : Int)).toNat = a := by
    rw [BitVec.ofInt_natCast, BitVec.toNat_ofNat]; exact Nat.mod_eq_of_lt (by omega)
  have h2 : (BitVec.ofInt 64 (b : Int)).toNat = b := by
    rw [BitVec.ofInt_natCast, BitVec.toNat_ofNat]; exact Nat.mod_eq_of_lt (by omega)
  show IntKind.i64.wrap ((BitVec.ofInt 64 (a : Int) ||| BitVec.ofInt 64 (b : Int)).toNat : Int) = _
  rw [BitVec.toNat_or, h1, h2, IntWalk.i64_in _ (by omega)]
theorem or_byte (a b j : Nat) (hj : j ≤ 5) (ha : a < 256 ^ j) (hb : b < 256) : bits .or .i64 (a : Int) (wrap64 ((b : Int) * 2 ^ (8 * j))) = ((a + b * 256 ^ j : Nat) : Int) := by
  have hp : (256 : Nat) ^ j = 2 ^ (8 * j) := by rw [show (256 : Nat) = 2 ^ 8 by rfl, ← Nat.pow_mul]
  have hle : (2 : Nat) ^ (8 * j) ≤ 2 ^ 40 := Nat.pow_le_pow_right (by omega) (by omega)
  have hm : b * 2 ^ (8 * j) ≤ 255 * 2 ^ 40 := Nat.mul_le_mul (by omega) hle
  have hc : ((b : Int) * 2 ^ (8 * j)) = ((b * 2 ^ (8 * j) : Nat) : Int) := by push_cast; rfl
  rw [hp] at ha ⊢
  rw [hc, IntWalk.wrap64_in _ (by omega), bits_or_nat _ _ (by omega) (by omega)]
  have := Nat.shiftLeft_add_eq_or_of_lt ha b
  rw [Nat.shiftLeft_eq] at this
  rw [Nat.or_comm, ← this, Nat.add_comm]
theorem drop_succ_take {bs : List Nat} {j : Nat} (h : j < bs.length) : bs.take (j + 1) = bs.take j ++ [bs[j]] := by
  rw [List.take_add_one, List.getElem?_eq_getElem h]; rfl

/-- the taker at block g has these bytes before it, in blocks from lo on, below hi; g is none of them -/
structure Tk (w : World) (g lo hi : Nat) (ty : TypeId) (bs : List Nat) : Prop where
  ex : ∃ A c, Blk w g ty #[.slice A bs.length c] ∧ bs.length ≤ c ∧ Rd byteCell 1 w lo hi A bs
  apart : g < lo ∨ hi ≤ g
  small : ∀ b ∈ bs, b < 256
theorem grown_set {w wr : World} {g : Nat} (h : w.grownBy wr (some g)) (i : Nat) (u : Value) : w.grownBy (wr.setCell ⟨g, i, none⟩ u) (some g) := by
  refine ⟨h.os, h.tape, h.output, by simpa using h.size, fun k hk hn => ?_⟩
  have hne : k ≠ g := fun e => hn (by rw [e])
  exact (Below.heap_setCell wr ⟨g, i, none⟩ u k hne).trans (h.block k hk hn)
theorem Tk.turnN {w : World} {g lo hi : Nat} {ty : TypeId} {bs : List Nat} (h : Tk w g lo hi ty bs) {A : Option Addr} {c m : Nat} (hx : Blk w g ty #[.slice A bs.length c] ∧ bs.length ≤ c ∧ Rd byteCell 1 w lo hi A bs) (hm : m ≤ bs.length) :
    Tk (w.setCell ⟨g, 0, none⟩ (.slice (if c = m then A else A.map (·.add (m * 1))) (bs.length - m) (c - m))) g lo hi ty (bs.drop m) := by
  obtain ⟨h1, h2, h3⟩ := hx
  refine ⟨⟨(if c = m then A else A.map (·.add (m * 1))), c - m, ?_, by rw [List.length_drop]; omega, ?_⟩, h.apart, fun b hb => h.small b (List.mem_of_mem_drop hb)⟩
  · rw [List.length_drop]
    exact h1.set_ 0 _
  · have := h3.tail h2 hm
    refine Rd.keep this fun p hp1 hp2 => World.cell?_setCell_other w _ p _ (fun e => ?_)
    subst e
    have := h.apart
    simp at hp1 hp2
    omega
theorem Tk.turn {w : World} {g lo hi : Nat} {ty : TypeId} {bs : List Nat} (h : Tk w g lo hi ty bs) {ad : Addr} {c n : Nat} (hx : Blk w g ty #[.slice (some ad) bs.length c] ∧ bs.length ≤ c ∧ Rd byteCell 1 w lo hi (some ad) bs) (hn : n = bs.length) (h0 : 1 ≤ bs.length) :
    Tk (w.setCell ⟨g, 0, none⟩ (.slice (if c = 1 then some ad else some (ad.add 1)) (n - 1) (c - 1))) g lo hi ty (bs.drop 1) := by
  subst hn
  exact h.turnN hx h0
def PostT (w : World) (g lo hi : Nat) (ty : TypeId) (bs : List Nat) (v : Value) (e : Ending) (w' : World) : Prop := e = .returned v ∧ Tk w' g lo hi ty bs ∧ w.grownBy w' (some g)

set_option maxRecDepth 100000 in
set_option maxHeartbeats 1000000 in
theorem page_num (g lo hi k : Nat) (hk : k ≤ 6) (bs : List Nat) (w : World) (ht : Tk w g lo hi 124 bs) :
    Calls Tryz.prog 80 #[.pointer (some ⟨g, 0, none⟩), .int .i64 k] w (PostT w g lo hi 124 (bs.drop k) (.int .i64 (leN (bs.take k)))) := by
  have HT := Lib.hid ht
  clear ht
  go_enter Tryz.func80, Tryz.ntmps80
  go_wp2
  go_loopw [5, 8] (fun n i wr => ∃ j : Nat, j ≤ k ∧ i = .int .i64 j ∧ n = .int .i64 (leN (bs.take j)) ∧ Hid (Tk wr g lo hi 124 (bs.drop j)) ∧ Hid (w.grownBy wr (some g))) (fun _ i _ => k - (intOf i).toNat)
  case atStart => exact ⟨0, Nat.zero_le _, rfl, rfl, HT, Lib.hid (World.grownBy.refl _ _)⟩
  case round =>
    obtain ⟨j, hj, rfl, rfl, HTr, HGr⟩ := hrel
    by_cases hlt : j < k
    · obtain ⟨A, c, hblk, hc, hr⟩ := HTr.out.ex
      have b0 : wr.cell? ⟨g, 0, none⟩ = some (.slice A (bs.drop j).length c) := hblk.cell 0
      have HBL := Lib.hid hblk
      clear hblk
      by_cases hl : bs.length ≤ j
      · have hz : (bs.drop j).length = 0 := by rw [List.length_drop]; omega
        rw [hz] at b0
        have hd : bs.drop (j + 1) = bs.drop j := by rw [List.drop_eq_nil_of_le hl, List.drop_eq_nil_of_le (by omega)]
        have ht : bs.take (j + 1) = bs.take j := by rw [List.take_of_length_le hl, List.take_of_length_le (by omega)]
        obtain ⟨acc, hacc⟩ : ∃ n, n = leN (bs.take j) := ⟨_, rfl⟩
        rw [← hacc]
        have HD := Lib.hid hd
        have HTK := Lib.hid ht
        have HA := Lib.hid hacc
        clear hd ht hacc hz hl hr
        go_wp2
        go_roundw
        case rel => exact ⟨j + 1, by omega, by go_num, by rw [HTK.out, HA.out], Lib.hid (by rw [HD.out]; exact HTr.out), HGr⟩
        case measure => simp [intOf]; omega
      · have hz : 0 < (bs.drop j).length := by rw [List.length_drop]; omega
        obtain ⟨ad, rfl, h1, h2, hcell⟩ := hr.at_ hz
        have c0 : wr.cell? ad = some (.int .u8 ((bs.drop j)[0] : Int)) := hcell 0 _ rfl
        have hfr := HBL.out.frozen 0
        obtain ⟨b, hb⟩ : ∃ b, b = (bs.drop j)[0] := ⟨_, rfl⟩
        rw [← hb] at c0
        have hb8 : b < 256 := by rw [hb]; exact HTr.out.small _ (List.getElem_mem _)
        obtain ⟨n, hn⟩ : ∃ n, n = (bs.drop j).length := ⟨_, rfl⟩
        rw [← hn] at b0 hz hc
        obtain ⟨acc, hacc⟩ : ∃ n, n = leN (bs.take j) := ⟨_, rfl⟩
        rw [← hacc]
        have hz' : (0 : Int) < (n : Int) := by omega
        have HB := Lib.hid hb
        have HN := Lib.hid hn
        have HA := Lib.hid hacc
        have HRc := Lib.hid hr
        have hc0 : (bs.drop j).length ≤ c := by rw [← hn]; exact hc
        clear hb hn hacc hr hcell
        have hlj : j < bs.length := by omega
        have hacc2 : acc < 256 ^ j := by
          rw [HA.out]
          have := leN_lt (bs.take j) (fun b hb => by
            have := HTr.out
            have h0 := HT.out.small b (List.mem_of_mem_take hb)
            exact h0)
          rwa [List.length_take, Nat.min_eq_left (by omega)] at this
        have hbj : b = bs[j] := by rw [HB.out]; simp
        have HV : Hid (bits .or .i64 (acc : Int) (wrap64 ((b : Int) * 2 ^ (8 * j))) = ((leN (bs.take (j + 1)) : Nat) : Int)) := Lib.hid (by
          rw [or_byte acc b j (by omega) hacc2 hb8, drop_succ_take hlj, leN_append, List.length_take, Nat.min_eq_left (by omega), ← HA.out, ← hbj])
        have HLJ := Lib.hid hlj
        clear hacc2 hbj hlj hl
        go_wp2
        go_roundw
        case rel =>
          refine ⟨j + 1, by omega, by go_num, by rw [HV.out], Lib.hid ?_, Lib.hid ?_⟩
          · have := HTr.out.turn ⟨HBL.out, hc0, HRc.out⟩ HN.out (by rw [← HN.out]; omega)
            rw [List.drop_drop] at this
            have ha : ad.add 1 = ⟨ad.block, ad.off + 1, none⟩ := by unfold Addr.add; rfl
            rw [← ha]
            exact this
          · exact grown_set HGr.out _ _
        case measure => simp [intOf]; omega
    · obtain rfl : j = k := by omega
      go_wp2
      go_ret
      exact ⟨rfl, HTr.out, HGr.out⟩
end Go.Proofs.YtjbdmaehomhdeaaGreat

namespace Go.Proofs.YtjbdmaehomhdeaaGreat
open Go.RowKit

/-- a text out of bytes -/
def strOf (l : List Nat) : ByteArray := ⟨(l.map UInt8.ofNat).toArray⟩
/-- how many bytes the text has that bytes begin with -/
def textN (bs : List Nat) : Nat := min (leN (bs.take 1)) (bs.drop 1).length
def textOf (bs : List Nat) : ByteArray := strOf ((bs.drop 1).take (textN bs))

theorem conv_str {w : World} {lo hi m c : Nat} {A : Option Addr} {l : List Nat} (h : Rd byteCell 1 w lo hi A l) (hm : l.length = m) (hb : ∀ b ∈ l, b < 256) :
    (convert 32 9 (.slice A m c)).run Tryz.prog w = .ok (.string (strOf l)) w := by
  subst hm
  rcases l with _ | ⟨b, r⟩
  · have := run_convert_bytes_string (P := Tryz.prog) w 32 9 5 A 0 c Tryz.underlying32 Tryz.underlying5 Tryz.underlying9
    simp only [List.length_nil]
    rw [this]
    cases A with
    | none => simp [Conv.bytesToString, strOf]; rfl
    | some ad =>
      have hl := run_loadCells_list (P := Tryz.prog) w ad [] (fun j v hj => by simp at hj)
      rw [run_bytesToString w ad 0 c [] (by simpa using hl)]
      simp [strOf]
      rfl
  · obtain ⟨ad, rfl, _, _, hc⟩ := h (by simp)
    have := run_convert_bytes_back (P := Tryz.prog) w 32 9 5 ad c ((b :: r).map UInt8.ofNat) Tryz.underlying32 Tryz.underlying5 Tryz.underlying9 (fun j hj => by
      have hj' : j < (b :: r).length := by simpa using hj
      have h1 := hc j _ (List.getElem?_eq_getElem hj') 0 _ rfl
      rw [Nat.mul_one, Nat.add_zero] at h1
      rw [h1]
      have h2 := hb _ (List.getElem_mem hj')
      simp only [List.getElem_map, UInt8.toNat_ofNat']
      rw [Nat.mod_eq_of_lt (by omega)])
    rw [List.length_map] at this
    exact this

set_option maxRecDepth 100000 in
set_option maxHeartbeats 1000000 in
theorem page_text (g lo hi : Nat) (bs : List Nat) (w : World) (ht : Tk w g lo hi 124 bs) (hlen : bs.length ≤ 140737488351232) :
    Calls Tryz.prog 81 #[.pointer (some ⟨g, 0, none⟩)] w (PostT w g lo hi 124 (bs.drop (1 + textN bs)) (.string (textOf bs))) := by
  have HT := Lib.hid ht
  clear ht
  have HL := Lib.hid hlen
  clear hlen
  go_enter Tryz.func81, Tryz.ntmps81
  go_upto_region 2 with (go_at_call 80; refine (page_num g lo hi 1 (by omega) bs _ HT.out).mono ?_; rintro e w1 ⟨rfl, hT1, hg1⟩)
  obtain ⟨ds, hds⟩ : ∃ l, l = bs.drop 1 := ⟨_, rfl⟩
  rw [← hds] at hT1
  obtain ⟨A, c, hblk, hc, hr⟩ := hT1.ex
  have HT1 := Lib.hid hT1
  have HG1 := Lib.hid hg1
  have HDS := Lib.hid hds
  obtain ⟨n, hn⟩ : ∃ n, n = ds.length := ⟨_, rfl⟩
  obtain ⟨m, hm⟩ : ∃ n, n = leN (bs.take 1) := ⟨_, rfl⟩
  have b0 : w1.cell? ⟨g, 0, none⟩ = some (.slice A ds.length c) := hblk.cell 0
  have hfr := hblk.frozen 0
  rw [← hn] at b0 hc
  rw [← hm]
  have HN := Lib.hid hn
  have HM := Lib.hid hm
  have HBL := Lib.hid hblk
  have HRc := Lib.hid hr
  clear hn hm hblk hr hT1 hg1 hds
  obtain ⟨q, hq⟩ : ∃ q, q = textN bs := ⟨_, rfl⟩
  have hq' : q = min m n := by rw [hq, HM.out, HN.out, HDS.out]; rfl
  have HQ := Lib.hid hq
  clear hq
  go_cut [4] (fun v wc => v = .int .i64 q ∧ w1 = wc)
  case first =>
    by_cases hmn : m ≤ n
    · have hmin : (m : Int) ≤ (n : Int) := by omega
      obtain rfl : q = m := by omega
      clear hq'
      go_wp2
      go_meet
      trivial
    · have hmin : ¬ (m : Int) ≤ (n : Int) := by omega
      have hmin' : (n : Int) < (m : Int) := by omega
      obtain rfl : q = n := by omega
      clear hq'
      go_wp2
      go_meet
      trivial
  case rest =>
    obtain ⟨rfl, rfl⟩ := hcut
    have hqn : q ≤ n := by omega
    have hqc : (q : Int) ≤ (c : Int) := by omega
    have hqn' : (q : Int) ≤ (n : Int) := by omega
    have hcv := conv_str (c := c) (A := A) (w := w1) (m := q) (HRc.out.take (n := q)) (by rw [List.length_take, ← HN.out]; omega) (fun b hb => HT1.out.small b (List.mem_of_mem_take hb))
    clear hq'
    have HTT := Lib.hid (HT1.out.turnN ⟨HBL.out, by rw [← HN.out]; exact hc, HRc.out⟩ (by rw [← HN.out]; exact hqn))
    rw [← HN.out] at HTT
    have HDD : Hid (bs.drop (1 + textN bs) = ds.drop q) := Lib.hid (by rw [HDS.out, ← HQ.out, List.drop_drop])
    have HTX : Hid (textOf bs = strOf (ds.take q)) := Lib.hid (by unfold textOf; rw [← HDS.out, ← HQ.out])
    by_cases hcq : c = q
    · subst hcq
      rw [if_pos rfl, Nat.sub_self, show n - c = 0 by omega] at HTT
      go_wp2
      go_ret
      exact ⟨by rw [HTX.out]; rfl, by rw [HDD.out]; exact HTT.out, grown_set HG1.out _ _⟩
    · have hcq' : ¬ (c : Int) = (q : Int) := by omega
      rw [if_neg hcq, Nat.mul_one] at HTT
      go_wp2
      go_ret
      exact ⟨by rw [HTX.out]; rfl, by rw [HDD.out]; exact HTT.out, grown_set HG1.out _ _⟩
end Go.Proofs.YtjbdmaehomhdeaaGreat

namespace Go.Proofs.YtjbdmaehomhdeaaGreat
open Go.RowKit

theorem Rd.byte {w : World} {lo hi : Nat} {A : Option Addr} {l : List Nat} (h : Rd byteCell 1 w lo hi A l) {i : Nat} (hi' : i < l.length) : ∃ ad b, A = some ad ∧ Hid (l[i]? = some b) ∧ w.cell? (ad.add i) = some (.int .u8 (b : Int)) := by
  obtain ⟨ad, e, _, _, hc⟩ := h.at_ hi'
  refine ⟨ad, l[i], e, Lib.hid (List.getElem?_eq_getElem hi'), ?_⟩
  have := hc 0 _ rfl
  simpa using this

set_option maxRecDepth 100000 in
set_option maxHeartbeats 1000000 in
theorem slices_Equal (lo hi lo' hi' c c' : Nat) (A A' : Option Addr) (l m : List Nat) (w : World) (h1 : Rd byteCell 1 w lo hi A l) (h2 : Rd byteCell 1 w lo' hi' A' m) (hl : l.length ≤ 140737488351232) (hm : m.length ≤ 140737488351232) :
    Calls Tryz.prog 38 #[.slice A l.length c, .slice A' m.length c'] w fun e w' => e = .returned (.bool (decide (l = m))) ∧ ∃ n, w' = w.drewN n := by
  have H1 := Lib.hid h1
  have H2 := Lib.hid h2
  clear h1 h2
  obtain ⟨n, hn⟩ : ∃ n, n = l.length := ⟨_, rfl⟩
  obtain ⟨k, hk⟩ : ∃ n, n = m.length := ⟨_, rfl⟩
  rw [← hn, ← hk]
  rw [← hn] at hl
  rw [← hk] at hm
  have HN := Lib.hid hn
  have HK := Lib.hid hk
  clear hn hk
  go_enter Tryz.func38, Tryz.ntmps38
  by_cases hnk : n = k
  · subst hnk
    go_wp2
    go_loopw [13] (fun i wr => ∃ j : Nat, j ≤ n ∧ i = .int .i64 j ∧ (∃ q, wr = w.drewN q) ∧ Hid (∀ q, q < j → l[q]? = m[q]?)) (fun i _ => n - (intOf i).toNat)
    case atStart => exact ⟨0, Nat.zero_le _, rfl, ⟨0, rfl⟩, Lib.hid (fun q h => by omega)⟩
    case round =>
      obtain ⟨j, hj, rfl, ⟨q, rfl⟩, HS⟩ := hrel
      by_cases hlt : j < n
      · obtain ⟨ad, b, rfl, hb, c0⟩ := H1.out.byte (i := j) (by rw [← HN.out]; exact hlt)
        obtain ⟨ad', b', rfl, hb', c0'⟩ := H2.out.byte (i := j) (by rw [← HK.out]; exact hlt)
        have hlt' : (j : Int) < (n : Int) := by omega
        by_cases hbb : b = b'
        · subst hbb
          go_upto_region 6 with (fail)
          go_quiet (fail)
          go_wp2
          go_roundw
          case rel => exact ⟨j + 1, by omega, by go_num, ⟨_, rfl⟩, Lib.hid (fun q hq => by
            rcases Nat.lt_or_ge q j with h | h
            · exact HS.out q h
            · obtain rfl : q = j := by omega
              rw [hb.out, hb'.out])⟩
          case measure => simp [intOf]; omega
        · have hbb' : ¬ (b : Int) = (b' : Int) := by omega
          go_upto_region 6 with (fail)
          go_quiet (fail)
          go_wp2
          go_ret
          exact ⟨ret_bool (by symm; rw [decide_eq_false_iff_not]; intro e; subst e; rw [hb.out] at hb'; exact hbb (Option.some.inj hb'.out)), ⟨_, World.drewN_drewN _ _ _⟩⟩
      · obtain rfl : j = n := by omega
        go_wp2
        go_ret
        exact ⟨ret_bool (by
          symm; rw [decide_eq_true_iff]
          apply List.ext_getElem?
          intro i
          rcases Nat.lt_or_ge i j with h | h
          · exact HS.out i h
          · rw [List.getElem?_eq_none (by rw [← HN.out]; exact h), List.getElem?_eq_none (by rw [← HK.out]; exact h)]), ⟨_, rfl⟩⟩
  · have hnk' : ¬ (n : Int) = (k : Int) := by omega
    go_wp2
    go_ret
    exact ⟨ret_bool (by symm; rw [decide_eq_false_iff_not]; intro e; subst e; exact hnk (by rw [HN.out, HK.out])), 0, rfl⟩
end Go.Proofs.YtjbdmaehomhdeaaGreat
