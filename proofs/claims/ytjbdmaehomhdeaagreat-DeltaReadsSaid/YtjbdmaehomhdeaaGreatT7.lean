/- DeltaReads: for any node the law returns true and leaves its argument as it was. No condition. -/
import Derived.Test.YtjbdmaehomhdeaaGreatRows
import Derived.Test.YtjbdmaehomhdeaaGreatZU
import Derived.Test.YtjbdmaehomhdeaaGreatZQ
import Derived.ProofKit
import Derived.ChangeSlices
import Derived.OpenShut
set_option linter.unusedSimpArgs false
set_option linter.unusedVariables false
namespace Go.Proofs.YtjbdmaehomhdeaaGreat
open Go.ChangeShapes Go.WideShapes Go.ChangeAt Go.RowKit Go.Deep Go.Joins

theorem Tryz.own : ownKnob Tryz.prog.godebug = none := by kernel_rfl
theorem Tryz.laidOut : laidOutB Tryz.prog = true := by kernel_rfl
theorem Tryz.readable4 : ∀ t ∈ Tryz.f4.params.toList, Tryz.prog.readableRec t = true ∧ t < Tryz.prog.types.size := by
  have h : (Tryz.f4.params.toList.all fun t => Tryz.prog.readableRec t && decide (t < Tryz.prog.types.size)) = true := by kernel_rfl
  intro t ht
  have := List.all_eq_true.1 h t ht
  simpa using this

set_option maxRecDepth 100000 in
theorem deltaReads_lifted (os : Os) (started : os.Started) (H : Type) (enc : TypeId × Value → H) :
    ReturnsInHanded {} Tryz.checked os 4 .any (Rows.deltaReadsSpec.pre6 enc Tryz.prog Tryz.f4 Rows.deltaReadsRow.domain false) (Rows.deltaReadsSpec.post enc Tryz.prog Tryz.f4 false true false false) := by
  refine returnsInHanded_of_change_sized (C := Tryz.checked) Tryz.own started (by kernel_rfl) Tryz.func4
    (ChangeSpec.witness6 (enc := enc) (C := Tryz.checked) false ⟨#[], #[.agg #[.bool false, .slice none 0 0]], []⟩ 8 (by kernel_rfl) (by kernel_rfl) (by kernel_rfl) (by kernel_rfl)) ?_
  intro W base args ds gs before hval0 hW _ hsz0 _
  have hsz : (DataW.weightsEach Tryz.prog (Tryz.f4.params.toList ++ Rows.deltaReadsSpec.plain.varTypes Tryz.prog) (ds ++ gs)).all (· ≤ reachBytes) = true := hsz0
  clear hsz0
  have hval : ∀ (j : Nat) t v, Tryz.f4.params[j]? = some t → args[j]? = some v → Value.okWide Tryz.prog W .any base t v := hval0
  have hW' := hW
  have hlt := hW.lt
  obtain ⟨p, q, hA0, hV, rfl, hfz, hnd⟩ := hW
  have hA : DataW.TrodAll enc Tryz.prog W 0 (fun _ => true) true Tryz.f4.params.toList args.toList ds p := hA0
  have hA1 := hA
  rw [Tryz.params4] at hA hval hsz
  obtain ⟨v0, d0, rfl, rfl, h0⟩ := trodAll_one hA
  obtain ⟨rfl, rfl⟩ := trodVars_none hV
  obtain ⟨x, rfl, hx⟩ := open_one (hval 0 _ _ rfl rfl) h0 (sized_at hsz (j := 0) rfl rfl)
  refine (law_DeltaReads x W hx).mono fun e W' ⟨he, hb⟩ => ?_
  subst he
  have hlt' : ∀ x ∈ p, x.block < W.heap.size := fun y hy => hlt y (by simpa using hy)
  exact ⟨_, rfl, post_of_below (pa := p) (pv := []) hW' (fun _ _ _ => trodAll_mk1 (shut_truth (P := Tryz.prog) Tryz.underlying4 true)) (fun sp hsp => trodAll_stays Tryz.laidOut hb _ _ _ _ Tryz.readable4 hA1 hlt' sp (fun y hy => hsp y (by simpa using hy))) (fun _ _ => rfl) rfl hb (ok_one (by kernel_rfl) rfl (okWide_bool_mk Tryz.underlying4 _))⟩

theorem named4 : Tryz.pinned.checked.prog.funcNamed Rows.deltaReadsRow.func = some 4 := by kernel_rfl
theorem c_unfollowed : (Rows.deltaReadsRow.unfollowed == Tryz.prog.unfollowed 4) = true := by kernel_rfl
theorem c_varsNamed : (Rows.deltaReadsRow.named == Tryz.prog.varsNamed 4) = true := by kernel_rfl
theorem c_recurses : (Rows.deltaReadsRow.recurses == Tryz.prog.recurses 4) = true := by kernel_rfl
theorem c_inPlace : (Rows.deltaReadsRow.inPlace == Tryz.prog.inPlace 4) = true := by kernel_rfl
theorem deltaReads_closed : joinedFacts Tryz.prog 4 Tryz.f4 Rows.deltaReadsSpec Rows.deltaReadsRow = true := by
  unfold joinedFacts
  rw [c_unfollowed, c_varsNamed, c_recurses, c_inPlace]
  kernel_rfl

theorem deltaReads_holds : Rows.DeltaReadsSaid :=
  OpenClaim.holds_of_wide 4 Tryz.f4 rfl rfl rfl rfl rfl rfl rfl ⟨rfl, rfl, rfl, rfl, rfl⟩ rfl rfl rfl rfl rfl named4 Tryz.func4 deltaReads_closed
    (of_decide_eq_true (by kernel_rfl)) (by unfold Func.isWrapper; first | (rw [if_pos (by decide +kernel)]; kernel_rfl) | (rw [if_neg (by decide +kernel)]; exact ⟨rfl, rfl⟩))
    (fun os started H enc _ => deltaReads_lifted os started H enc)
#print axioms deltaReads_holds
end Go.Proofs.YtjbdmaehomhdeaaGreat
