/- DeltaLays: for any change and any page the law returns true and leaves its arguments as they were. No condition. -/
import Derived.Test.YtjbdmaehomhdeaaGreatRows
import Derived.Test.YtjbdmaehomhdeaaGreatT11
import Derived.Test.YtjbdmaehomhdeaaGreatOd
import Derived.ProofKit
import Derived.ChangeSlices
import Derived.OpenShut
set_option linter.unusedSimpArgs false
set_option linter.unusedVariables false
namespace Go.Proofs.YtjbdmaehomhdeaaGreat
open Go.ChangeShapes Go.WideShapes Go.ChangeAt Go.RowKit Go.Deep Go.Joins

theorem bytesItem : Tryz.prog.bytesOf 23 = 48 := by kernel_rfl
theorem bytesKid : Tryz.prog.bytesOf 61 = 24 := by kernel_rfl
theorem Tryz.own : ownKnob Tryz.prog.godebug = none := by kernel_rfl
theorem Tryz.laidOut : laidOutB Tryz.prog = true := by kernel_rfl
theorem Tryz.readable3 : ∀ t ∈ Tryz.f3.params.toList, Tryz.prog.readableRec t = true ∧ t < Tryz.prog.types.size := by
  have h : (Tryz.f3.params.toList.all fun t => Tryz.prog.readableRec t && decide (t < Tryz.prog.types.size)) = true := by kernel_rfl
  intro t ht
  have := List.all_eq_true.1 h t ht
  simpa using this

set_option maxRecDepth 100000 in
theorem deltaLays_lifted (os : Os) (started : os.Started) (H : Type) (enc : TypeId × Value → H) :
    ReturnsInHanded {} Tryz.checked os 3 .any (Rows.deltaLaysSpec.pre6 enc Tryz.prog Tryz.f3 Rows.deltaLaysRow.domain false) (Rows.deltaLaysSpec.post enc Tryz.prog Tryz.f3 false true false false) := by
  refine returnsInHanded_of_change_sized (C := Tryz.checked) Tryz.own started (by kernel_rfl) Tryz.func3
    (ChangeSpec.witness6 (enc := enc) (C := Tryz.checked) false ⟨#[], #[.agg #[.int .i64 0, .string ByteArray.empty, .string ByteArray.empty, .int .i64 0, .bool false, .string ByteArray.empty, .int .i64 0, .int .i64 0, .string ByteArray.empty, .string ByteArray.empty, .bool false, .int .i64 0, .slice none 0 0, .slice none 0 0], .agg #[.int .i64 0, .string ByteArray.empty, .string ByteArray.empty, .bool false, .int .i64 0, .slice none 0 0, .slice none 0 0]], []⟩ 8 (by kernel_rfl) (by kernel_rfl) (by kernel_rfl) (by kernel_rfl)) ?_
  intro W base args ds gs before hval0 hW _ hsz0 _
  have hsz : (DataW.weightsEach Tryz.prog (Tryz.f3.params.toList ++ Rows.deltaLaysSpec.plain.varTypes Tryz.prog) (ds ++ gs)).all (· ≤ reachBytes) = true := hsz0
  clear hsz0
  have hval : ∀ (j : Nat) t v, Tryz.f3.params[j]? = some t → args[j]? = some v → Value.okWide Tryz.prog W .any base t v := hval0
  have hW' := hW
  have hlt := hW.lt
  obtain ⟨p, q, hA0, hV, rfl, hfz, hnd⟩ := hW
  have hA : DataW.TrodAll enc Tryz.prog W 0 (fun _ => true) true Tryz.f3.params.toList args.toList ds p := hA0
  have hA1 := hA
  rw [Tryz.params3] at hA hval hsz
  obtain ⟨v0, v1, d0, d1, p0, p1, rfl, rfl, rfl, h0, h1⟩ := trodAll_two hA
  obtain ⟨rfl, rfl⟩ := trodVars_none hV
  obtain ⟨dd, A, A', c, c', parts, pp, x5, x6, rfl, rfl, hpp, hx5, hx6, hRI, hRK, hci, hck, hsi, hsk⟩ := open_delta (hval 0 _ _ rfl rfl) h0
  obtain ⟨pg, B, B', b, b', qarts, y5, y6, rfl, rfl, hy5, hy6, kRI, kRK, kci, kck, ksi, ksk⟩ := open_page (hval 1 _ _ rfl rfl) h1
  have hps := sized_struct (sized_struct hsz (j := 0) (t := 29) rfl rfl Tryz.underlying29) (j := 4) (t := 27) rfl hpp Tryz.underlying27
  have hqs := sized_struct hsz (j := 1) (t := 27) rfl rfl Tryz.underlying27
  have hbi : dd.right.items.length ≤ 2932031007317 := by
    rcases hsi with h | ⟨es, sp, rfl, he⟩
    · omega
    · have := sized_slice hps (j := 5) (t := 24) (e := 23) rfl hx5 Tryz.underlying24
      rw [bytesItem] at this
      unfold reachBytes at this
      omega
  have hbk : dd.right.kids.length ≤ 5864062014634 := by
    rcases hsk with h | ⟨es, sp, rfl, he⟩
    · omega
    · have := sized_slice hps (j := 6) (t := 25) (e := 61) rfl hx6 Tryz.underlying25
      rw [bytesKid] at this
      unfold reachBytes at this
      omega
  have kbi : pg.items.length ≤ 140737488351232 := by
    rcases ksi with h | ⟨es, sp, rfl, he⟩
    · omega
    · have := sized_slice hqs (j := 5) (t := 24) (e := 23) rfl hy5 Tryz.underlying24
      rw [bytesItem] at this
      unfold reachBytes at this
      omega
  have kbk : pg.kids.length ≤ 140737488351232 := by
    rcases ksk with h | ⟨es, sp, rfl, he⟩
    · omega
    · have := sized_slice hqs (j := 6) (t := 25) (e := 61) rfl hy6 Tryz.underlying25
      rw [bytesKid] at this
      unfold reachBytes at this
      omega
  refine (law_DeltaLays dd A A' c c' pg B B' b b' W ⟨hRI, hRK, hci, hck, by omega, by omega⟩ ⟨kRI, kRK, kci, kck, kbi, kbk⟩ hbi hbk).mono fun e W' ⟨he, hb⟩ => ?_
  subst he
  have hlt' : ∀ x ∈ p0 ++ p1, x.block < W.heap.size := fun y hy => hlt y (by simpa using hy)
  exact ⟨_, rfl, post_of_below (pa := p0 ++ p1) (pv := []) hW' (fun _ _ _ => trodAll_mk1 (shut_truth (P := Tryz.prog) Tryz.underlying4 true)) (fun sp hsp => trodAll_stays Tryz.laidOut hb _ _ _ _ Tryz.readable3 hA1 hlt' sp (fun y hy => hsp y (by simpa using hy))) (fun _ _ => rfl) rfl hb (ok_one (by kernel_rfl) rfl (okWide_bool_mk Tryz.underlying4 _))⟩

theorem named3 : Tryz.pinned.checked.prog.funcNamed Rows.deltaLaysRow.func = some 3 := by kernel_rfl
theorem c_unfollowed : (Rows.deltaLaysRow.unfollowed == Tryz.prog.unfollowed 3) = true := by kernel_rfl
theorem c_varsNamed : (Rows.deltaLaysRow.named == Tryz.prog.varsNamed 3) = true := by kernel_rfl
theorem c_recurses : (Rows.deltaLaysRow.recurses == Tryz.prog.recurses 3) = true := by kernel_rfl
theorem c_inPlace : (Rows.deltaLaysRow.inPlace == Tryz.prog.inPlace 3) = true := by kernel_rfl
theorem deltaLays_closed : joinedFacts Tryz.prog 3 Tryz.f3 Rows.deltaLaysSpec Rows.deltaLaysRow = true := by
  unfold joinedFacts
  rw [c_unfollowed, c_varsNamed, c_recurses, c_inPlace]
  kernel_rfl

theorem deltaLays_holds : Rows.DeltaLaysSaid :=
  OpenClaim.holds_of_wide 3 Tryz.f3 rfl rfl rfl rfl rfl rfl rfl ⟨rfl, rfl, rfl, rfl, rfl⟩ rfl rfl rfl rfl rfl named3 Tryz.func3 deltaLays_closed
    (of_decide_eq_true (by kernel_rfl)) (by unfold Func.isWrapper; first | (rw [if_pos (by decide +kernel)]; kernel_rfl) | (rw [if_neg (by decide +kernel)]; exact ⟨rfl, rfl⟩))
    (fun os started H enc _ => deltaLays_lifted os started H enc)
#print axioms deltaLays_holds
end Go.Proofs.YtjbdmaehomhdeaaGreat
