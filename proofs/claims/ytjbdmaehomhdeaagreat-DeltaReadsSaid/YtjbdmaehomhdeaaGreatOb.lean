/- A row of bytes of one's own. -/
import Derived.Test.YtjbdmaehomhdeaaGreatZB
set_option linter.unusedSimpArgs false
set_option linter.unusedVariables false
namespace Go.Proofs.YtjbdmaehomhdeaaGreat
open Go.RowKit

theorem appB47 {ops : Array Oper} {rest : List Oper} {o : Oper} {a : Act} {Q : Exit → Act → World → Prop} (w : World) (hgd : o.guard = none) (s x : Operand)
    (ho : o.op = .call { callee := .builtin .append, args := #[s, x], argTypes := #[32, 32] })
    (base : Nat) (v : Value) (l m : List Nat) (A : Option Addr) (c lo hi : Nat) (hs : a.eval s = v) (hown : OwnB w base v l) (hx : a.eval x = .slice A m.length c) (hr : Rd byteCell 1 w lo hi A m) (hlen : l.length + m.length ≤ 140737488355328) (hbase : base ≤ w.heap.size)
    (h : ∀ v' w', OwnB w' base v' (l ++ m) → Grew w w' v v' → wpList Tryz.prog ops Q rest (a.put o.dst v') w') : wpList Tryz.prog ops Q (o :: rest) a w := by
  obtain ⟨i0, hi0, hz0, hz1, hz2⟩ := info_parts info_u8
  refine wpList_plain hgd fun K hK => ?_
  have key : ∃ v' w', (Builtin.append_ #[32, 32] o.type #[v, .slice A m.length c]).run Tryz.prog w = .ok v' w' ∧ OwnB w' base v' (l ++ m) ∧ Grew w w' v v' := by
    rcases A with _ | ad
    · have hm : m = [] := by
        rcases m with _ | ⟨b, r⟩
        · rfl
        · obtain ⟨ad, e, _⟩ := hr (by simp); cases e
      subst hm
      refine ⟨v, w, ?_, by simpa using hown, Grew.refl _ _⟩
      rcases hown.2 with ⟨rfl, hl⟩ | ⟨g, cap, cur, rfl, _, _, hnc, _⟩
      · simp [Builtin.append_, run_underlying Tryz.underlying32, sizeOf, typeInfo, hi0, Builtin.lenOf, Builtin.firstCells]
      · simp [Builtin.append_, run_underlying Tryz.underlying32, sizeOf, typeInfo, hi0, Builtin.lenOf, Builtin.firstCells, hnc, storeCells]
    · have hc : ∀ i x, m[i]? = some x → ∀ j u, (byteCell x)[j]? = some u → w.cell? (ad.add (i * 1 + j)) = some u := by
        intro i x hx
        obtain ⟨ad', e, _, _, hc⟩ := hr (by intro e; subst e; simp at hx)
        cases e
        exact hc i x hx
      obtain ⟨v', w', hrun, h2, h3, _, h5⟩ := run_append_own_at (P := Tryz.prog) w base 32 o.type 5 i0 _ 1 1 Tryz.underlying32 hi0 hz0 hz1 hz2 rfl (by omega) v l.length (byteVals l) hown ad m.length c (byteVals m) (by rw [byteVals_length]; omega)
        (fun j u hu => by
          unfold byteVals at hu
          rw [List.getElem?_map] at hu
          cases hj : m[j]? with
          | none => rw [hj] at hu; cases hu
          | some b =>
            rw [hj] at hu
            have := hc j b hj 0 u (by simpa [byteCell] using hu)
            simpa using this)
        (by intro u hu; unfold byteVals at hu; simp at hu; obtain ⟨b, _, rfl⟩ := hu; rfl) (by simp only [maxLen]; omega) (by omega) hbase
      refine ⟨v', w', hrun, ?_, h3, ?_⟩
      · unfold OwnB
        rw [byteVals_append, List.length_append]
        exact h2
      · rcases h5 with h5 | h5
        · exact .inl h5
        · exact .inr fun k hk => by rw [h5] at hk; cases hk; exact Nat.le_refl _
  obtain ⟨v', w', hrun, h2, h3⟩ := key
  unfold Oper.wp execOp
  simp only [ho, resolve, invoke, builtin, Sem.run_bind, Sem.run_pure, Result.andThen_ok, List.map_toArray, List.map_cons, List.map_nil, hs, hx, hrun]
  exact hK _ _ (h v' w' h2 h3)


theorem Pg.far {w w' : World} {lo hi g : Nat} {p : Page} {A A' : Option Addr} {c c' : Nat} (h : Pg w lo hi p A A' c c') (hk : ∀ k, k ≠ g → k < hi → w'.heap[k]? = w.heap[k]?) (hg : g < lo) : Pg w' lo hi p A A' c c' := by
  have key : ∀ q : Addr, lo ≤ q.block → q.block < hi → w'.cell? q = w.cell? q := fun q h1 h2 => World.cell?_of_block (hk q.block (by omega) h2)
  exact ⟨h.items.keep key, h.kids.keep key, h.li, h.lk, h.bi, h.bk⟩
theorem own_block {w : World} {base n c : Nat} {A : Option Addr} {l : List Nat} (h : OwnB w base (.slice A n c) l) (hn : l.length = n) (h0 : 0 < n) : ∃ g cur, A = some ⟨g, 0, none⟩ ∧ base ≤ g ∧ n ≤ c ∧ c ≤ maxLen ∧ cur.size = c ∧ Blk w g 5 cur := by
  rcases h.2 with ⟨e, e2⟩ | ⟨g, cap, cur, e, hg, hh, hnc, hm, hs, _⟩
  · omega
  · injection e with e1 e2 e3
    subst e3
    exact ⟨g, cur, e1, hg, by omega, hm, by simpa using hs, hh⟩
end Go.Proofs.YtjbdmaehomhdeaaGreat
