/- PageReads: for any bytes the law returns true and leaves its argument as it was. No condition. -/
import Derived.Test.YtjbdmaehomhdeaaRows
import Derived.Test.YtjbdmaehomhdeaaE3
import Derived.Test.YtjbdmaehomhdeaaLawB
import Derived.ProofKit
import Derived.ChangeSlices
import Derived.OpenShut
namespace Go.Proofs.Ytjbdmaehomhdeaa
open Go.ChangeShapes Go.WideShapes Go.ChangeAt Go.RowKit Go.Deep Go.Joins

theorem Try.own : ownKnob Try.prog.godebug = none := by kernel_rfl
theorem Try.laidOut : laidOutB Try.prog = true := by kernel_rfl
theorem cellsU8 : Try.prog.cellsOf 5 = 1 := by kernel_rfl
theorem bytesU8 : Try.prog.bytesOf 5 = 1 := by kernel_rfl
theorem Try.readable3 : ∀ t ∈ Try.f3.params.toList, Try.prog.readableRec t = true ∧ t < Try.prog.types.size := by
  have h : (Try.f3.params.toList.all fun t => Try.prog.readableRec t && decide (t < Try.prog.types.size)) = true := by kernel_rfl
  intro t ht
  have := List.all_eq_true.1 h t ht
  simpa using this

section
variable {H : Type} {enc : TypeId × Value → H} {w : World} {base : Nat} {spare : Nat → Bool} {held : Bool}
theorem open_u8s {d : DataW H} {p : List MemPlace} {A : Option Addr} {len cap : Nat} (h : DataW.Trod enc Try.prog w base spare held 22 (.slice A len cap) d p) :
    (len = 0 ∨ ∃ a es sp, d = .slice es sp ∧ es.length = len ∧ A = some a) ∧ len ≤ cap ∧ ∃ l : List Nat, l.length = len ∧ (∀ b ∈ l, b < 256) ∧ Rd byteCell 1 w 0 w.heap.size A l := by
  obtain ⟨fuel, hf⟩ := h
  rcases open_ints Try.underlying22 Try.underlying5 cellsU8 hf with ⟨hc, _⟩ | ⟨a, len', cap', zs, hcs, hb, hl, hm, hz, hx, hcell, hwz⟩
  · simp [Value.cells] at hc
    obtain ⟨rfl, rfl, rfl⟩ := hc
    exact ⟨.inl rfl, Nat.le_refl _, [], rfl, (fun b hb => by cases hb), Rd.nil⟩
  · simp [Value.cells] at hcs
    obtain ⟨rfl, rfl, rfl⟩ := hcs
    simp only [Prod.mk.injEq] at hx
    have hle : len ≤ zs.length := by rw [hz]; split <;> omega
    have hw : ∀ n ∈ zs, 0 ≤ n ∧ n < 256 := fun n hn => by
      have := bounds_u8 (hwz n hn)
      omega
    refine ⟨.inr ⟨a, _, _, hx.1, by simp [lits]; omega, rfl⟩, hl, (zs.take len).map Int.toNat, by simp; omega, fun b hb => ?_, fun hn => ?_⟩
    · obtain ⟨n, hn, rfl⟩ := List.mem_map.1 hb
      have := hw n (List.mem_of_mem_take hn)
      omega
    · have hcc : ∀ (i x : Nat), ((zs.take len).map Int.toNat)[i]? = some x → w.cell? (a.add i) = some (.int .u8 (x : Int)) := by
        intro i x hx
        rw [List.getElem?_map, List.getElem?_take] at hx
        split at hx
        · rename_i hi
          have hiz : i < zs.length := by omega
          rw [List.getElem?_eq_getElem hiz] at hx
          simp only [Option.map_some, Option.some.injEq] at hx
          have h1 := hcell i hiz
          rw [List.getD_eq_getElem?_getD, List.getElem?_eq_getElem hiz, Option.getD_some] at h1
          have h2 := hw zs[i] (List.getElem_mem hiz)
          rw [h1, ← hx]
          congr 2
          omega
        · cases hx
      have h0 : 0 < ((zs.take len).map Int.toNat).length := by
        cases hl : (zs.take len).map Int.toNat with
        | nil => exact absurd hl hn
        | cons _ _ => simp
      have hb0 := World.block_lt_of_cell? w _ (hcc 0 _ (List.getElem?_eq_getElem h0))
      refine ⟨a, rfl, by omega, by simpa [block_of_add] using hb0, fun i x hx j u hu => ?_⟩
      match j, hu with
      | 0, hu =>
        simp [byteCell] at hu
        subst hu
        rw [Nat.mul_one, Nat.add_zero]
        exact hcc i x hx
      | (j + 1), hu => simp [byteCell] at hu
end

set_option maxRecDepth 100000 in
theorem pageReads_lifted (os : Os) (started : os.Started) (H : Type) (enc : TypeId × Value → H) :
    ReturnsInHanded {} Try.checked os 3 .any (Rows.pageReadsSpec.pre6 enc Try.prog Try.f3 Rows.pageReadsRow.domain false) (Rows.pageReadsSpec.post enc Try.prog Try.f3 false true false false) := by
  refine returnsInHanded_of_change_sized (C := Try.checked) Try.own started (by kernel_rfl) Try.func3
    (ChangeSpec.witness6 (enc := enc) (C := Try.checked) false ⟨#[], #[.slice none 0 0], []⟩ 8 (by kernel_rfl) (by kernel_rfl) (by kernel_rfl) (by kernel_rfl)) ?_
  intro W base args ds gs before hval0 hW _ hsz0 _
  have hsz : (DataW.weightsEach Try.prog (Try.f3.params.toList ++ Rows.pageReadsSpec.plain.varTypes Try.prog) (ds ++ gs)).all (· ≤ reachBytes) = true := hsz0
  clear hsz0
  have hval : ∀ (j : Nat) t v, Try.f3.params[j]? = some t → args[j]? = some v → Value.okWide Try.prog W .any base t v := hval0
  have hW' := hW
  have hlt := hW.lt
  obtain ⟨p, q, hA0, hV, rfl, hfz, hnd⟩ := hW
  have hA : DataW.TrodAll enc Try.prog W 0 (fun _ => true) true Try.f3.params.toList args.toList ds p := hA0
  have hA1 := hA
  rw [Try.params3] at hA hval hsz
  obtain ⟨v0, d0, rfl, rfl, h0⟩ := trodAll_one hA
  obtain ⟨rfl, rfl⟩ := trodVars_none hV
  obtain ⟨A, len, cap, rfl⟩ := okWide_slice Try.underlying22 (hval 0 _ _ rfl rfl)
  obtain ⟨hlen, hcap, l, hl, hb8, hR⟩ := open_u8s h0
  have hreach : l.length ≤ 140737488351232 := by
    rcases hlen with h | ⟨a, es, sp, rfl, he, _⟩
    · omega
    · have := sized_slice hsz (j := 0) (t := 22) (e := 5) rfl rfl Try.underlying22
      rw [bytesU8] at this
      unfold reachBytes at this
      omega
  subst hl
  refine (law_PageReads 0 cap A l W hR hcap hb8 hreach).mono fun e W' ⟨he, hb⟩ => ?_
  subst he
  have hlt' : ∀ x ∈ p, x.block < W.heap.size := fun y hy => hlt y (by simpa using hy)
  exact ⟨_, rfl, post_of_below (pa := p) (pv := []) hW' (fun _ _ _ => trodAll_mk1 (shut_truth (P := Try.prog) Try.underlying4 true)) (fun sp hsp => trodAll_stays Try.laidOut hb _ _ _ _ Try.readable3 hA1 hlt' sp (fun y hy => hsp y (by simpa using hy))) (fun _ _ => rfl) rfl hb (ok_one (by kernel_rfl) rfl (okWide_bool_mk Try.underlying4 _))⟩

theorem named3 : Try.pinned.checked.prog.funcNamed Rows.pageReadsRow.func = some 3 := by kernel_rfl
theorem c_unfollowed : (Rows.pageReadsRow.unfollowed == Try.prog.unfollowed 3) = true := by kernel_rfl
theorem c_varsNamed : (Rows.pageReadsRow.named == Try.prog.varsNamed 3) = true := by kernel_rfl
theorem c_recurses : (Rows.pageReadsRow.recurses == Try.prog.recurses 3) = true := by kernel_rfl
theorem c_inPlace : (Rows.pageReadsRow.inPlace == Try.prog.inPlace 3) = true := by kernel_rfl
theorem pageReads_closed : joinedFacts Try.prog 3 Try.f3 Rows.pageReadsSpec Rows.pageReadsRow = true := by
  unfold joinedFacts
  rw [c_unfollowed, c_varsNamed, c_recurses, c_inPlace]
  kernel_rfl

theorem pageReads_holds : Rows.PageReadsSaid :=
  OpenClaim.holds_of_wide 3 Try.f3 rfl rfl rfl rfl rfl rfl rfl ⟨rfl, rfl, rfl, rfl, rfl⟩ rfl rfl rfl rfl rfl named3 Try.func3 pageReads_closed
    (of_decide_eq_true (by kernel_rfl)) (by unfold Func.isWrapper; first | (rw [if_pos (by decide +kernel)]; kernel_rfl) | (rw [if_neg (by decide +kernel)]; exact ⟨rfl, rfl⟩))
    (fun os started H enc _ => pageReads_lifted os started H enc)
#print axioms pageReads_holds
end Go.Proofs.Ytjbdmaehomhdeaa
