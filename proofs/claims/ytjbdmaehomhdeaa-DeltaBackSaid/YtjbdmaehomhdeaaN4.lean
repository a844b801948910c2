/- DeltaBack: for any chain and any node the law returns true and leaves its arguments as they were. No condition. -/
import Derived.Test.YtjbdmaehomhdeaaRows
import Derived.Test.YtjbdmaehomhdeaaN3
import Derived.ProofKit
import Derived.ChangeSlices
import Derived.OpenShut
namespace Go.Proofs.Ytjbdmaehomhdeaa
open Go.ChangeShapes Go.WideShapes Go.ChangeAt Go.RowKit Go.Deep Go.Joins

theorem Try.own : ownKnob Try.prog.godebug = none := by kernel_rfl
theorem Try.laidOut : laidOutB Try.prog = true := by kernel_rfl
theorem Try.readable6 : ∀ t ∈ Try.f6.params.toList, Try.prog.readableRec t = true ∧ t < Try.prog.types.size := by
  have h : (Try.f6.params.toList.all fun t => Try.prog.readableRec t && decide (t < Try.prog.types.size)) = true := by kernel_rfl
  intro t ht
  have := List.all_eq_true.1 h t ht
  simpa using this

set_option maxRecDepth 100000 in
theorem deltaBack_lifted (os : Os) (started : os.Started) (H : Type) (enc : TypeId × Value → H) :
    ReturnsInHanded {} Try.checked os 6 .any (Rows.deltaBackSpec.pre6 enc Try.prog Try.f6 Rows.deltaBackRow.domain false) (Rows.deltaBackSpec.post enc Try.prog Try.f6 false true false false) := by
  refine returnsInHanded_of_change_sized (C := Try.checked) Try.own started (by kernel_rfl) Try.func6
    (ChangeSpec.witness6 (enc := enc) (C := Try.checked) false ⟨#[], #[.slice none 0 0, .agg #[.bool false, .slice none 0 0]], []⟩ 8 (by kernel_rfl) (by kernel_rfl) (by kernel_rfl) (by kernel_rfl)) ?_
  intro W base args ds gs before hval0 hW _ hsz0 _
  have hsz : (DataW.weightsEach Try.prog (Try.f6.params.toList ++ Rows.deltaBackSpec.plain.varTypes Try.prog) (ds ++ gs)).all (· ≤ reachBytes) = true := hsz0
  clear hsz0
  have hval : ∀ (j : Nat) t v, Try.f6.params[j]? = some t → args[j]? = some v → Value.okWide Try.prog W .any base t v := hval0
  have hW' := hW
  have hlt := hW.lt
  obtain ⟨p, q, hA0, hV, rfl, hfz, hnd⟩ := hW
  have hA : DataW.TrodAll enc Try.prog W 0 (fun _ => true) true Try.f6.params.toList args.toList ds p := hA0
  have hA1 := hA
  rw [Try.params6] at hA hval hsz
  obtain ⟨v0, v1, d0, d1, p0, p1, rfl, rfl, rfl, h0, h1⟩ := trodAll_two hA
  obtain ⟨rfl, rfl⟩ := trodVars_none hV
  obtain ⟨f0, h0⟩ := h0
  obtain ⟨A, c, l, hv0, hc, hl, hN⟩ := open_nodes h0 (sized_at hsz (j := 0) rfl rfl)
  obtain ⟨mo, rfl, hm⟩ := open_one (hval 1 _ _ rfl rfl) h1 (sized_at hsz (j := 1) rfl rfl)
  obtain ⟨A0, n0, c0, rfl⟩ := okWide_slice Try.underlying35 (hval 0 _ _ rfl rfl)
  simp only [Value.cells, List.cons.injEq, Value.slice.injEq, and_true] at hv0
  obtain ⟨rfl, rfl, rfl⟩ := hv0
  refine (law_DeltaBack l A0 c0 mo W hN hc hl hm).mono fun e W' ⟨he, hb⟩ => ?_
  subst he
  have hlt' : ∀ x ∈ p0 ++ p1, x.block < W.heap.size := fun y hy => hlt y (by simpa using hy)
  exact ⟨_, rfl, post_of_below (pa := p0 ++ p1) (pv := []) hW' (fun _ _ _ => trodAll_mk1 (shut_truth (P := Try.prog) Try.underlying4 true)) (fun sp hsp => trodAll_stays Try.laidOut hb _ _ _ _ Try.readable6 hA1 hlt' sp (fun y hy => hsp y (by simpa using hy))) (fun _ _ => rfl) rfl hb (ok_one (by kernel_rfl) rfl (okWide_bool_mk Try.underlying4 _))⟩

theorem named6 : Try.pinned.checked.prog.funcNamed Rows.deltaBackRow.func = some 6 := by kernel_rfl
theorem c_unfollowed : (Rows.deltaBackRow.unfollowed == Try.prog.unfollowed 6) = true := by kernel_rfl
theorem c_varsNamed : (Rows.deltaBackRow.named == Try.prog.varsNamed 6) = true := by kernel_rfl
theorem c_recurses : (Rows.deltaBackRow.recurses == Try.prog.recurses 6) = true := by kernel_rfl
theorem c_inPlace : (Rows.deltaBackRow.inPlace == Try.prog.inPlace 6) = true := by kernel_rfl
theorem deltaBack_closed : joinedFacts Try.prog 6 Try.f6 Rows.deltaBackSpec Rows.deltaBackRow = true := by
  unfold joinedFacts
  rw [c_unfollowed, c_varsNamed, c_recurses, c_inPlace]
  kernel_rfl

theorem deltaBack_holds : Rows.DeltaBackSaid :=
  OpenClaim.holds_of_wide 6 Try.f6 rfl rfl rfl rfl rfl rfl rfl ⟨rfl, rfl, rfl, rfl, rfl⟩ rfl rfl rfl rfl rfl named6 Try.func6 deltaBack_closed
    (of_decide_eq_true (by kernel_rfl)) (by unfold Func.isWrapper; first | (rw [if_pos (by decide +kernel)]; kernel_rfl) | (rw [if_neg (by decide +kernel)]; exact ⟨rfl, rfl⟩))
    (fun os started H enc _ => deltaBack_lifted os started H enc)
#print axioms deltaBack_holds
end Go.Proofs.Ytjbdmaehomhdeaa
