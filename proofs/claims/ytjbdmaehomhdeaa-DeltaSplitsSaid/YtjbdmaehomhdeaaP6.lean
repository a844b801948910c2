/- DeltaSplits: for any chain, any keys and any number the law returns true and leaves its arguments as they were. No condition. -/
import Derived.Test.YtjbdmaehomhdeaaRows
import Derived.Test.YtjbdmaehomhdeaaP5
import Derived.Test.YtjbdmaehomhdeaaN3
import Derived.ProofKit
import Derived.ChangeSlices
import Derived.OpenShut
import Derived.Carry
namespace Go.Proofs.Ytjbdmaehomhdeaa
open Go.ChangeShapes Go.WideShapes Go.ChangeAt Go.RowKit Go.Deep Go.Joins

theorem Try.own : ownKnob Try.prog.godebug = none := by kernel_rfl
theorem Try.laidOut : laidOutB Try.prog = true := by kernel_rfl
theorem Try.readable5 : ∀ t ∈ Try.f5.params.toList, Try.prog.readableRec t = true ∧ t < Try.prog.types.size := by
  have h : (Try.f5.params.toList.all fun t => Try.prog.readableRec t && decide (t < Try.prog.types.size)) = true := by kernel_rfl
  intro t ht
  have := List.all_eq_true.1 h t ht
  simpa using this

set_option maxRecDepth 100000 in
theorem deltaSplits_lifted (os : Os) (started : os.Started) (H : Type) (enc : TypeId × Value → H) :
    ReturnsInHanded {} Try.checked os 5 .any (Rows.deltaSplitsSpec.pre6 enc Try.prog Try.f5 Rows.deltaSplitsRow.domain false) (Rows.deltaSplitsSpec.post enc Try.prog Try.f5 false true false false) := by
  refine returnsInHanded_of_change_sized (C := Try.checked) Try.own started (by kernel_rfl) Try.func5
    (ChangeSpec.witness6 (enc := enc) (C := Try.checked) false ⟨#[], #[.slice none 0 0, .string ByteArray.empty, .int .i64 0, .string ByteArray.empty], []⟩ 8 (by kernel_rfl) (by kernel_rfl) (by kernel_rfl) (by kernel_rfl)) ?_
  intro W base args ds gs before hval0 hW _ hsz0 _
  have hsz : (DataW.weightsEach Try.prog (Try.f5.params.toList ++ Rows.deltaSplitsSpec.plain.varTypes Try.prog) (ds ++ gs)).all (· ≤ reachBytes) = true := hsz0
  clear hsz0
  have hval : ∀ (j : Nat) t v, Try.f5.params[j]? = some t → args[j]? = some v → Value.okWide Try.prog W .any base t v := hval0
  have hW' := hW
  have hlt := hW.lt
  obtain ⟨p, q, hA0, hV, rfl, hfz, hnd⟩ := hW
  have hA : DataW.TrodAll enc Try.prog W 0 (fun _ => true) true Try.f5.params.toList args.toList ds p := hA0
  have hA1 := hA
  rw [Try.params5] at hA hval hsz
  obtain ⟨v0, v1, v2, v3, d0, d1, d2, d3, p0, p1, p2, p3, rfl, rfl, rfl, h0, h1, h2, h3⟩ := trodAll_four hA
  obtain ⟨rfl, rfl⟩ := trodVars_none hV
  obtain ⟨f0, h0⟩ := h0
  obtain ⟨A, c, l, hv0, hc, hl, hN⟩ := open_nodes h0 (sized_at hsz (j := 0) rfl rfl)
  obtain ⟨A0, n0, c0, rfl⟩ := okWide_slice Try.underlying35 (hval 0 _ _ rfl rfl)
  simp only [Value.cells, List.cons.injEq, Value.slice.injEq, and_true] at hv0
  obtain ⟨rfl, rfl, rfl⟩ := hv0
  obtain ⟨key, rfl⟩ := okWide_string Try.underlying9 (hval 1 _ _ rfl rfl)
  obtain ⟨n, rfl⟩ := okWide_int Try.underlying3 (hval 2 _ _ rfl rfl)
  obtain ⟨other, rfl⟩ := okWide_string Try.underlying9 (hval 3 _ _ rfl rfl)
  refine (law_DeltaSplits l A0 c0 key n other W hN hc hl).mono fun e W' ⟨he, hb⟩ => ?_
  subst he
  have hlt' : ∀ x ∈ p0 ++ p1 ++ p2 ++ p3, x.block < W.heap.size := fun y hy => hlt y (by simpa using hy)
  exact ⟨_, rfl, post_of_below (pa := p0 ++ p1 ++ p2 ++ p3) (pv := []) hW' (fun _ _ _ => trodAll_mk1 (shut_truth (P := Try.prog) Try.underlying4 true)) (fun sp hsp => trodAll_stays Try.laidOut hb _ _ _ _ Try.readable5 hA1 hlt' sp (fun y hy => hsp y (by simpa using hy))) (fun _ _ => rfl) rfl hb (ok_one (by kernel_rfl) rfl (okWide_bool_mk Try.underlying4 _))⟩

theorem named5 : Try.pinned.checked.prog.funcNamed Rows.deltaSplitsRow.func = some 5 := by kernel_rfl
theorem c_unfollowed : (Rows.deltaSplitsRow.unfollowed == Try.prog.unfollowed 5) = true := by kernel_rfl
theorem c_varsNamed : (Rows.deltaSplitsRow.named == Try.prog.varsNamed 5) = true := by kernel_rfl
theorem c_recurses : (Rows.deltaSplitsRow.recurses == Try.prog.recurses 5) = true := by kernel_rfl
theorem c_inPlace : (Rows.deltaSplitsRow.inPlace == Try.prog.inPlace 5) = true := by kernel_rfl
theorem deltaSplits_closed : joinedFacts Try.prog 5 Try.f5 Rows.deltaSplitsSpec Rows.deltaSplitsRow = true := by
  unfold joinedFacts
  rw [c_unfollowed, c_varsNamed, c_recurses, c_inPlace]
  kernel_rfl

theorem deltaSplits_holds : Rows.DeltaSplitsSaid :=
  OpenClaim.holds_of_wide 5 Try.f5 rfl rfl rfl rfl rfl rfl rfl ⟨rfl, rfl, rfl, rfl, rfl⟩ rfl rfl rfl rfl rfl named5 Try.func5 deltaSplits_closed
    (of_decide_eq_true (by kernel_rfl)) (by unfold Func.isWrapper; first | (rw [if_pos (by decide +kernel)]; kernel_rfl) | (rw [if_neg (by decide +kernel)]; exact ⟨rfl, rfl⟩))
    (fun os started H enc _ => deltaSplits_lifted os started H enc)
#print axioms deltaSplits_holds
end Go.Proofs.Ytjbdmaehomhdeaa
