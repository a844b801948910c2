/- DeltaAnyOrder: for any chain and any items the law returns true and leaves its arguments as they were. No condition. -/
import Derived.Test.YtjbdmaehomhdeaaRows
import Derived.Test.YtjbdmaehomhdeaaP2
import Derived.Test.YtjbdmaehomhdeaaN3
import Derived.Test.YtjbdmaehomhdeaaL5
import Derived.ProofKit
import Derived.ChangeSlices
import Derived.OpenShut
namespace Go.Proofs.Ytjbdmaehomhdeaa
open Go.ChangeShapes Go.WideShapes Go.ChangeAt Go.RowKit Go.Deep Go.Joins

theorem bytesItem : Try.prog.bytesOf 39 = 48 := by kernel_rfl
theorem Try.own : ownKnob Try.prog.godebug = none := by kernel_rfl
theorem Try.laidOut : laidOutB Try.prog = true := by kernel_rfl
theorem Try.readable4 : ∀ t ∈ Try.f4.params.toList, Try.prog.readableRec t = true ∧ t < Try.prog.types.size := by
  have h : (Try.f4.params.toList.all fun t => Try.prog.readableRec t && decide (t < Try.prog.types.size)) = true := by kernel_rfl
  intro t ht
  have := List.all_eq_true.1 h t ht
  simpa using this

set_option maxRecDepth 100000 in
theorem deltaAnyOrder_lifted (os : Os) (started : os.Started) (H : Type) (enc : TypeId × Value → H) :
    ReturnsInHanded {} Try.checked os 4 .any (Rows.deltaAnyOrderSpec.pre6 enc Try.prog Try.f4 Rows.deltaAnyOrderRow.domain false) (Rows.deltaAnyOrderSpec.post enc Try.prog Try.f4 false true false false) := by
  refine returnsInHanded_of_change_sized (C := Try.checked) Try.own started (by kernel_rfl) Try.func4
    (ChangeSpec.witness6 (enc := enc) (C := Try.checked) false ⟨#[], #[.slice none 0 0, .slice none 0 0], []⟩ 8 (by kernel_rfl) (by kernel_rfl) (by kernel_rfl) (by kernel_rfl)) ?_
  intro W base args ds gs before hval0 hW _ hsz0 _
  have hsz : (DataW.weightsEach Try.prog (Try.f4.params.toList ++ Rows.deltaAnyOrderSpec.plain.varTypes Try.prog) (ds ++ gs)).all (· ≤ reachBytes) = true := hsz0
  clear hsz0
  have hval : ∀ (j : Nat) t v, Try.f4.params[j]? = some t → args[j]? = some v → Value.okWide Try.prog W .any base t v := hval0
  have hW' := hW
  have hlt := hW.lt
  obtain ⟨p, q, hA0, hV, rfl, hfz, hnd⟩ := hW
  have hA : DataW.TrodAll enc Try.prog W 0 (fun _ => true) true Try.f4.params.toList args.toList ds p := hA0
  have hA1 := hA
  rw [Try.params4] at hA hval hsz
  obtain ⟨v0, v1, d0, d1, p0, p1, rfl, rfl, rfl, h0, h1⟩ := trodAll_two hA
  obtain ⟨rfl, rfl⟩ := trodVars_none hV
  obtain ⟨f0, h0⟩ := h0
  obtain ⟨A, c, l, hv0, hc, hl, hN⟩ := open_nodes h0 (sized_at hsz (j := 0) rfl rfl)
  obtain ⟨A0, n0, c0, rfl⟩ := okWide_slice Try.underlying35 (hval 0 _ _ rfl rfl)
  simp only [Value.cells, List.cons.injEq, Value.slice.injEq, and_true] at hv0
  obtain ⟨rfl, rfl, rfl⟩ := hv0
  obtain ⟨f1, h1⟩ := h1
  obtain ⟨B, ni, d, its, hv1, hd, hlen, hI, hsi⟩ := open_items h1
  obtain ⟨B0, n1, d2, rfl⟩ := okWide_slice Try.underlying24 (hval 1 _ _ rfl rfl)
  simp only [Value.cells, List.cons.injEq, Value.slice.injEq, and_true] at hv1
  obtain ⟨rfl, rfl, rfl⟩ := hv1
  have hil : its.length ≤ 140737488351232 := by
    rcases hsi with h | ⟨es, sp, he1, he⟩
    · omega
    · dsimp only at he1
      subst he1
      have := sized_slice hsz (j := 1) (t := 24) (e := 39) rfl rfl Try.underlying24
      rw [bytesItem] at this
      unfold reachBytes at this
      omega
  subst hlen
  refine (law_DeltaAnyOrder l A0 c0 its B0 d2 W hN hc hl hI hil).mono fun e W' ⟨he, hb⟩ => ?_
  subst he
  have hlt' : ∀ x ∈ p0 ++ p1, x.block < W.heap.size := fun y hy => hlt y (by simpa using hy)
  exact ⟨_, rfl, post_of_below (pa := p0 ++ p1) (pv := []) hW' (fun _ _ _ => trodAll_mk1 (shut_truth (P := Try.prog) Try.underlying4 true)) (fun sp hsp => trodAll_stays Try.laidOut hb _ _ _ _ Try.readable4 hA1 hlt' sp (fun y hy => hsp y (by simpa using hy))) (fun _ _ => rfl) rfl hb (ok_one (by kernel_rfl) rfl (okWide_bool_mk Try.underlying4 _))⟩

theorem named4 : Try.pinned.checked.prog.funcNamed Rows.deltaAnyOrderRow.func = some 4 := by kernel_rfl
theorem c_unfollowed : (Rows.deltaAnyOrderRow.unfollowed == Try.prog.unfollowed 4) = true := by kernel_rfl
theorem c_varsNamed : (Rows.deltaAnyOrderRow.named == Try.prog.varsNamed 4) = true := by kernel_rfl
theorem c_recurses : (Rows.deltaAnyOrderRow.recurses == Try.prog.recurses 4) = true := by kernel_rfl
theorem c_inPlace : (Rows.deltaAnyOrderRow.inPlace == Try.prog.inPlace 4) = true := by kernel_rfl
theorem deltaAnyOrder_closed : joinedFacts Try.prog 4 Try.f4 Rows.deltaAnyOrderSpec Rows.deltaAnyOrderRow = true := by
  unfold joinedFacts
  rw [c_unfollowed, c_varsNamed, c_recurses, c_inPlace]
  kernel_rfl

theorem deltaAnyOrder_holds : Rows.DeltaAnyOrderSaid :=
  OpenClaim.holds_of_wide 4 Try.f4 rfl rfl rfl rfl rfl rfl rfl ⟨rfl, rfl, rfl, rfl, rfl⟩ rfl rfl rfl rfl rfl named4 Try.func4 deltaAnyOrder_closed
    (of_decide_eq_true (by kernel_rfl)) (by unfold Func.isWrapper; first | (rw [if_pos (by decide +kernel)]; kernel_rfl) | (rw [if_neg (by decide +kernel)]; exact ⟨rfl, rfl⟩))
    (fun os started H enc _ => deltaAnyOrder_lifted os started H enc)
#print axioms deltaAnyOrder_holds
end Go.Proofs.Ytjbdmaehomhdeaa
