/- A row of bytes of one's own. -/
import Derived.Test.YtjbdmaehomhdeaaGreatZB
import Derived.Test.YtjbdmaehomhdeaaGreatF1
import Derived.Test.YtjbdmaehomhdeaaGreatZS
import Derived.Test.YtjbdmaehomhdeaaGreatZG
import Derived.Test.YtjbdmaehomhdeaaGreatF2
import Derived.Test.YtjbdmaehomhdeaaGreatZF
import Derived.Test.YtjbdmaehomhdeaaGreatF5
import Derived.Test.YtjbdmaehomhdeaaGreatZM
set_option linter.unusedSimpArgs false
set_option linter.unusedVariables false
namespace Go.Proofs.YtjbdmaehomhdeaaGreat
open Go.RowKit

theorem appB47 {ops : Array Oper} {rest : List Oper} {o : Oper} {a : Act} {Q : Exit → Act → World → Prop} (w : World) (hgd : o.guard = none) (s x : Operand)
    (ho : o.op = .call { callee := .builtin .append, args := #[s, x], argTypes := #[32, 32] })
    (base : Nat) (v : Value) (l m : List Nat) (A : Option Addr) (c lo hi : Nat) (hs : a.eval s = v) (hown : OwnB w base v l) (hx : a.eval x = .slice A m.length c) (hr : Rd byteCell 1 w lo hi A m) (hlen : l.length + m.length ≤ 140737488355328) (hbase : base ≤ w.heap.size)
    (h : ∀ v' w', OwnB w' base v' (l ++ m) → Grew w w' v v' → wpList Tryz.prog ops Q rest (a.put o.dst v') w') : wpList Tryz.prog ops Q (o :: rest) a w := by
  obtain ⟨i0, hi0, hz0, hz1, hz2⟩ := info_parts info_u8
  refine wpList_plain hgd fun K hK => ?_
  have key : ∃ v' w', (Builtin.append_ #[32, 32] o.type #[v, .slice A m.length c]).run Tryz.prog w = .ok v' w' ∧ OwnB w' base v' (l ++ m) ∧ Grew w w' v v' := by
    rcases A with _ | ad
    · have hm : m = [] := by
        rcases m with _ | ⟨b, r⟩
        · rfl
        · obtain ⟨ad, e, _⟩ := hr (by simp); cases e
      subst hm
      refine ⟨v, w, ?_, by simpa using hown, Grew.refl _ _⟩
      rcases hown.2 with ⟨rfl, hl⟩ | ⟨g, cap, cur, rfl, _, _, hnc, _⟩
      · simp [Builtin.append_, run_underlying Tryz.underlying32, sizeOf, typeInfo, hi0, Builtin.lenOf, Builtin.firstCells]
      · simp [Builtin.append_, run_underlying Tryz.underlying32, sizeOf, typeInfo, hi0, Builtin.lenOf, Builtin.firstCells, hnc, storeCells]
    · have hc : ∀ i x, m[i]? = some x → ∀ j u, (byteCell x)[j]? = some u → w.cell? (ad.add (i * 1 + j)) = some u := by
        intro i x hx
        obtain ⟨ad', e, _, _, hc⟩ := hr (by intro e; subst e; simp at hx)
        cases e
        exact hc i x hx
      obtain ⟨v', w', hrun, h2, h3, _, h5⟩ := run_append_own_at (P := Tryz.prog) w base 32 o.type 5 i0 _ 1 1 Tryz.underlying32 hi0 hz0 hz1 hz2 rfl (by omega) v l.length (byteVals l) hown ad m.length c (byteVals m) (by rw [byteVals_length]; omega)
        (fun j u hu => by
          unfold byteVals at hu
          rw [List.getElem?_map] at hu
          cases hj : m[j]? with
          | none => rw [hj] at hu; cases hu
          | some b =>
            rw [hj] at hu
            have := hc j b hj 0 u (by simpa [byteCell] using hu)
            simpa using this)
        (by intro u hu; unfold byteVals at hu; simp at hu; obtain ⟨b, _, rfl⟩ := hu; rfl) (by simp only [maxLen]; omega) (by omega) hbase
      refine ⟨v', w', hrun, ?_, h3, ?_⟩
      · unfold OwnB
        rw [byteVals_append, List.length_append]
        exact h2
      · rcases h5 with h5 | h5
        · exact .inl h5
        · exact .inr fun k hk => by rw [h5] at hk; cases hk; exact Nat.le_refl _
  obtain ⟨v', w', hrun, h2, h3⟩ := key
  unfold Oper.wp execOp
  simp only [ho, resolve, invoke, builtin, Sem.run_bind, Sem.run_pure, Result.andThen_ok, List.map_toArray, List.map_cons, List.map_nil, hs, hx, hrun]
  exact hK _ _ (h v' w' h2 h3)


theorem Pg.far {w w' : World} {lo hi g : Nat} {p : Page} {A A' : Option Addr} {c c' : Nat} (h : Pg w lo hi p A A' c c') (hk : ∀ k, k ≠ g → k < hi → w'.heap[k]? = w.heap[k]?) (hg : g < lo) : Pg w' lo hi p A A' c c' := by
  have key : ∀ q : Addr, lo ≤ q.block → q.block < hi → w'.cell? q = w.cell? q := fun q h1 h2 => World.cell?_of_block (hk q.block (by omega) h2)
  exact ⟨h.items.keep key, h.kids.keep key, h.li, h.lk, h.bi, h.bk⟩
theorem own_block {w : World} {base n c : Nat} {A : Option Addr} {l : List Nat} (h : OwnB w base (.slice A n c) l) (hn : l.length = n) (h0 : 0 < n) : ∃ g cur, A = some ⟨g, 0, none⟩ ∧ base ≤ g ∧ n ≤ c ∧ c ≤ maxLen ∧ cur.size = c ∧ Blk w g 5 cur := by
  rcases h.2 with ⟨e, e2⟩ | ⟨g, cap, cur, e, hg, hh, hnc, hm, hs, _⟩
  · omega
  · injection e with e1 e2 e3
    subst e3
    exact ⟨g, cur, e1, hg, by omega, hm, by simpa using hs, hh⟩
end Go.Proofs.YtjbdmaehomhdeaaGreat

namespace Go.Proofs.YtjbdmaehomhdeaaGreat
open Go.RowKit

theorem Delta.bytes_small' {d : Delta} (h : d.mayB = true) : ∀ b ∈ d.bytes d.kind, b < 256 := by
  unfold Delta.mayB Delta.may at h
  simp only [Bool.and_eq_true, decide_eq_true_eq] at h
  obtain ⟨hk, _⟩ := h
  intro b hb
  unfold Delta.bytes at hb
  rcases List.mem_append.1 hb with h | h
  · simp at h; omega
  · split at h
    · exact Item.bytes_small _ b h
    · split at h
      · rcases List.mem_append.1 h with h | h
        · exact textB_small _ b h
        · exact numB_small _ _ b h
      · split at h
        · exact textB_small _ b h
        · split at h
          · exact numB_small _ _ b h
          · exact Page.bytes_small _ b h
set_option maxRecDepth 100000 in
set_option maxHeartbeats 20000000 in
/-- alike changes -/
theorem ref_SameD (d : Delta) (A1 A2 B1 B2 : Option Addr) (c1 c2 d1 d2 lo lo' : Nat) (w : World) (hp : Pg w lo w.heap.size d.right A1 A2 c1 c2) (hq : Pg w lo' w.heap.size d.right B1 B2 d1 d2) :
    Calls Tryz.prog 10 #[d.val A1 c1 A2 c2, d.val B1 d1 B2 d2] w fun e w' => e = .returned (.bool true) ∧ Below w.heap.size w w' := by
  have HSM := Lib.hid (fun (W : World) (h : Below w.heap.size w W) => ref_Same d.right d.right A1 A2 B1 B2 c1 c2 d1 d2 lo lo' W ((hp.below h).mono (Nat.le_refl _) h.size) ((hq.below h).mono (Nat.le_refl _) h.size))
  have HSS : Hid (d.right.same d.right = true) := Lib.hid (Page.same_yes rfl).symm
  rw [HSS.out] at HSM
  clear hp hq
  unfold Page.val Page.raw at HSM
  unfold Delta.val
  obtain ⟨ni, hni⟩ : ∃ n, n = d.right.items.length := ⟨_, rfl⟩
  obtain ⟨nk, hnk⟩ : ∃ n, n = d.right.kids.length := ⟨_, rfl⟩
  rw [← hni, ← hnk]
  rw [← hni, ← hnk] at HSM
  clear hni hnk
  have hF := Fr.two w 29 29 #[Value.int IntKind.i64 d.kind, Value.string d.item.key, Value.string d.item.value, Value.int IntKind.i64 d.item.no, Value.bool d.item.gone, Value.string d.key, Value.int IntKind.i64 d.page, Value.int IntKind.i64 d.right.level, Value.string d.right.low, Value.string d.right.high, Value.bool d.right.last, Value.int IntKind.i64 d.right.side, Value.slice A1 ni c1, Value.slice A2 nk c2] #[Value.int IntKind.i64 d.kind, Value.string d.item.key, Value.string d.item.value, Value.int IntKind.i64 d.item.no, Value.bool d.item.gone, Value.string d.key, Value.int IntKind.i64 d.page, Value.int IntKind.i64 d.right.level, Value.string d.right.low, Value.string d.right.high, Value.bool d.right.last, Value.int IntKind.i64 d.right.side, Value.slice B1 ni d1, Value.slice B2 nk d2]
  go_enter Tryz.func10, Tryz.ntmps10
  go_upto_region 1 with (fail)
  generalize ((w.alloc (.cells #[Value.int IntKind.i64 d.kind, Value.string d.item.key, Value.string d.item.value, Value.int IntKind.i64 d.item.no, Value.bool d.item.gone, Value.string d.key, Value.int IntKind.i64 d.page, Value.int IntKind.i64 d.right.level, Value.string d.right.low, Value.string d.right.high, Value.bool d.right.last, Value.int IntKind.i64 d.right.side, Value.slice A1 ni c1, Value.slice A2 nk c2] 29)).alloc (.cells #[Value.int IntKind.i64 d.kind, Value.string d.item.key, Value.string d.item.value, Value.int IntKind.i64 d.item.no, Value.bool d.item.gone, Value.string d.key, Value.int IntKind.i64 d.page, Value.int IntKind.i64 d.right.level, Value.string d.right.low, Value.string d.right.high, Value.bool d.right.last, Value.int IntKind.i64 d.right.side, Value.slice B1 ni d1, Value.slice B2 nk d2] 29)) = w0 at *
  have HF0 := Lib.hid hF
  clear hF
  obtain ⟨a0, a1, a2, a3, a4, a5, a6, a7, a8, a9, a10, a11, a12, a13⟩ := Blk.cells14 HF0.out.b0
  obtain ⟨b0, b1, b2, b3, b4, b5, b6, b7, b8, b9, b10, b11, b12, b13⟩ := Blk.cells14 HF0.out.b1
  go_wp2_with fail
  refine (HSM.out w0 HF0.out.be).mono ?_
  rintro e w1 ⟨rfl, hb1⟩
  have HF1 := Lib.hid (HF0.out.on hb1)
  clear hb1 a0 a1 a2 a3 a4 a5 a6 a7 a8 a9 a10 a11 a12 a13 b0 b1 b2 b3 b4 b5 b6 b7 b8 b9 b10 b11 b12 b13
  obtain ⟨a0, a1, a2, a3, a4, a5, a6, a7, a8, a9, a10, a11, a12, a13⟩ := Blk.cells14 HF1.out.b0
  obtain ⟨b0, b1, b2, b3, b4, b5, b6, b7, b8, b9, b10, b11, b12, b13⟩ := Blk.cells14 HF1.out.b1
  have heq : ∀ W, (binOp .eql 23 (.agg #[Value.string d.item.key, Value.string d.item.value, Value.int IntKind.i64 d.item.no, Value.bool d.item.gone]) (.agg #[Value.string d.item.key, Value.string d.item.value, Value.int IntKind.i64 d.item.no, Value.bool d.item.gone])).run Tryz.prog W = .ok (.bool true) W := fun W => by rw [eql_item, Item.same_self]
  go_wp2
  go_ret
  exact ⟨rfl, HF1.out.be⟩
set_option maxRecDepth 100000 in
set_option maxHeartbeats 20000000 in
/-- alike nodes -/
theorem ref_SameN (b : Bool) (bs : List Nat) (n : Nat) (hn : bs.length = n) (A B : Option Addr) (c d lo hi lo' hi' : Nat) (w : World) (hA : Rd byteCell 1 w lo hi A bs) (hh : hi ≤ w.heap.size) (hB : Rd byteCell 1 w lo' hi' B bs) (hh' : hi' ≤ w.heap.size) (hb : ∀ x ∈ bs, x < 256) :
    Calls Tryz.prog 13 #[.agg #[Value.bool b, Value.slice A n c], .agg #[Value.bool b, Value.slice B n d]] w fun e w' => e = .returned (.bool true) ∧ Below w.heap.size w w' := by
  have hF := Fr.two w 34 34 #[Value.bool b, Value.slice A n c] #[Value.bool b, Value.slice B n d]
  have HA := Lib.hid (hA.below (hF.be.mono hh))
  have HB := Lib.hid (hB.below (hF.be.mono hh'))
  have HS := Lib.hid hb
  have HN := Lib.hid hn
  clear hA hB hb hh hh' hn
  go_enter Tryz.func13, Tryz.ntmps13
  go_upto_region 1 with (fail)
  generalize (w.alloc (.cells #[Value.bool b, Value.slice A n c] 34)).alloc (.cells #[Value.bool b, Value.slice B n d] 34) = w0 at *
  have HF0 := Lib.hid hF
  clear hF
  obtain ⟨a0, a1⟩ := Blk.cells2' HF0.out.b0
  obtain ⟨b0, b1⟩ := Blk.cells2' HF0.out.b1
  have hcv1 : (convert 32 9 (.slice A n c)).run Tryz.prog w0 = .ok (.string (strOf bs)) w0 := conv_str HA.out HN.out HS.out
  have hcv2 : (convert 32 9 (.slice B n d)).run Tryz.prog w0 = .ok (.string (strOf bs)) w0 := conv_str HB.out HN.out HS.out
  generalize strOf bs = s8 at hcv1 hcv2
  go_wp2
  go_ret
  exact ⟨rfl, HF0.out.be⟩
set_option maxRecDepth 100000 in
set_option maxHeartbeats 20000000 in
/-- a node whose bytes are one's own -/
theorem law_own (b : Bool) (bs : List Nat) (n : Nat) (hn : bs.length = n) (A : Option Addr) (c lo hi : Nat) (w : World) (hA : Rd byteCell 1 w lo hi A bs) (hh : hi ≤ w.heap.size) (hl : bs.length ≤ 140737488351232) :
    Calls Tryz.prog 16 #[.agg #[Value.bool b, Value.slice A n c]] w fun e w' => (∃ v, e = .returned (.agg #[.bool b, v]) ∧ OwnB w' w.heap.size v bs) ∧ Below w.heap.size w w' := by
  have hF := Fr.two w 34 34 #[Value.bool b, Value.slice A n c] #[Value.bool false, Value.slice none 0 0]
  have HA := Lib.hid (hA.below (hF.be.mono hh))
  have HH := Lib.hid hh
  have HL := Lib.hid hl
  have HN := Lib.hid hn
  clear hA hl hh hn
  go_enter Tryz.func16, Tryz.ntmps16
  go_upto_region 1 with (fail)
  generalize (w.alloc (.cells #[Value.bool b, Value.slice A n c] 34)).alloc (.cells #[Value.bool false, Value.slice none 0 0] 34) = w0 at *
  have HF0 := Lib.hid hF
  clear hF
  obtain ⟨a0, a1⟩ := Blk.cells2' HF0.out.b0
  have hw0 := HF0.out.sz
  go_upto_region 3 with (at_builtin; (refine appB47 w0 rfl (.tmp 4) (.tmp 6) rfl (w.heap.size + 2) (.slice none 0 0) [] bs A c lo hi rfl (OwnB.nil _ _) (by rw [HN.out]; rfl) HA.out (by simp only [List.length_nil]; have := HL.out; omega) hw0 ?_); intro v1 w1 hO1 hG1; rw [List.nil_append] at hO1; have hB1 := hG1.below hw0 (fun k hk => by simp [Value.ownBlock] at hk); obtain ⟨A2, c2, rfl, _, _, _⟩ := OwnB.form hO1 HN.out; have HO1 := Lib.hid hO1; have HF1 := Lib.hid (HF0.out.on' (B := w.heap.size + 2) hB1 (Nat.le_refl _) hw0); have f1 := HF1.out.b0.frozen 1; have k1 := HF1.out.b0.cell 1; clear hO1 hG1 hB1)
  have HF2 := Lib.hid (HF1.out.set0 1 (Value.slice A2 n c2) rfl)
  have HO2 : Hid (OwnB (w1.setCell ⟨w.heap.size, 1, none⟩ (Value.slice A2 n c2)) (w.heap.size + 2) (Value.slice A2 n c2) bs) := Lib.hid (HO1.out.keepH fun k hk => by
    have h1 := HO1.out.block k hk
    exact Below.heap_setCell _ _ _ k (by simp; omega))
  generalize w1.setCell ⟨w.heap.size, 1, none⟩ (Value.slice A2 n c2) = w2 at *
  clear f1 k1 HF1 HO1
  go_wp2_with (first
    | (refine wpList_load_row rfl 34 _ rfl (w.heap.size) rfl 34 _ (0, 0) _ HF2.out.b0 Tryz.underlying34 rfl (by kernel_rfl) ?_)
    | (refine wpList_store_row rfl 34 _ _ rfl rfl (w.heap.size + 1) rfl _ _ _ rfl HF2.out.b1 rfl (by kernel_rfl) (List.all_eq_true.1 rfl) ?_; rintro w3 hT3 hB3))
  exact bodyPost_ret (v := .agg #[Value.bool b, Value.slice A2 n c2]) (results_cell_row rfl _ _ (w.heap.size + 1) _ _ _ _ rfl hB3 Tryz.underlying34 rfl (by kernel_rfl)) rfl ⟨⟨_, rfl, (HO2.out.keepH fun k hk => by
    have h1 := HO2.out.block k hk
    exact hT3.other (by omega)).mono (by omega)⟩, hT3.below HF2.out.be (by omega) HF2.out.be.size⟩
end Go.Proofs.YtjbdmaehomhdeaaGreat
