/- DriverNone: for every call, calls and picks a driver of no engine refuses all: the law returns true and leaves its arguments as they were. No condition. -/
import Derived.Test.YtcabicicfoehiaaGreatRows
import Derived.Test.YtcabicicfoehiaaGreatDnC
import Derived.ProofKit
namespace Go.Proofs.YtcabicicfoehiaaGreat
open Go.ChangeShapes Go.WideShapes Go.ChangeAt Go.RowKit Go.Deep Go.Joins

theorem Tryz.own : ownKnob Tryz.prog.godebug = none := by kernel_rfl
theorem Tryz.laidOut : laidOutB Tryz.prog = true := by kernel_rfl
theorem Tryz.readable3 : ∀ t ∈ Tryz.f3.params.toList, Tryz.prog.readableRec t = true ∧ t < Tryz.prog.types.size := by
  have h : (Tryz.f3.params.toList.all fun t => Tryz.prog.readableRec t && decide (t < Tryz.prog.types.size)) = true := by kernel_rfl
  intro t ht
  have := List.all_eq_true.1 h t ht
  simpa using this

set_option maxRecDepth 100000 in
theorem driverNone_lifted (os : Os) (started : os.Started) (H : Type) (enc : TypeId × Value → H) :
    ReturnsInHanded {} Tryz.checked os 3 .any (Rows.driverNoneSpec.pre6 enc Tryz.prog Tryz.f3 Rows.driverNoneRow.domain false) (Rows.driverNoneSpec.post enc Tryz.prog Tryz.f3 false true false false) := by
  refine returnsInHanded_of_change_sized (C := Tryz.checked) Tryz.own started (by kernel_rfl) Tryz.func3
    (ChangeSpec.witness6 (enc := enc) (C := Tryz.checked) false ⟨#[], #[.agg #[.int .i64 0, .int .i64 0, .string ByteArray.empty, .string ByteArray.empty, .string ByteArray.empty, .int .i64 0], .slice none 0 0, .slice none 0 0], []⟩ 8 (by kernel_rfl) (by kernel_rfl) (by kernel_rfl) (by kernel_rfl)) ?_
  intro W base args ds gs before hval0 hW _ hsz0 _
  have hsz : (DataW.weightsEach Tryz.prog (Tryz.f3.params.toList ++ Rows.driverNoneSpec.plain.varTypes Tryz.prog) (ds ++ gs)).all (· ≤ reachBytes) = true := hsz0
  clear hsz0
  have hval : ∀ (j : Nat) t v, Tryz.f3.params[j]? = some t → args[j]? = some v → Value.okWide Tryz.prog W .any base t v := hval0
  have hW' := hW
  have hlt := hW.lt
  obtain ⟨p, q, hA0, hV, rfl, hfz, hnd⟩ := hW
  have hA : DataW.TrodAll enc Tryz.prog W 0 (fun _ => true) true Tryz.f3.params.toList args.toList ds p := hA0
  have hA1 := hA
  rw [Tryz.params3] at hA hval hsz
  obtain ⟨v0, v1, v2, d0, d1, d2, p0, p1, p2, rfl, rfl, rfl, h0, h1, h2⟩ := trodAll_three hA
  obtain ⟨rfl, rfl⟩ := trodVars_none hV
  obtain ⟨x, rfl⟩ := open_call (hval 0 _ _ rfl rfl) h0
  obtain ⟨A, len, cap, rfl⟩ := okWide_slice Tryz.underlying24 (hval 1 _ _ rfl rfl)
  obtain ⟨A', n', c', rfl⟩ := okWide_slice Tryz.underlying25 (hval 2 _ _ rfl rfl)
  obtain ⟨hlen, l, hl, hR⟩ := open_calls h1
  have hreach : l.length ≤ 1954687600000 := by
    rcases hlen with h | ⟨a, es, sp, rfl, he, _⟩
    · omega
    · have := sized_slice hsz (j := 1) (t := 24) (e := 23) rfl rfl Tryz.underlying24
      rw [bytesCall] at this
      unfold reachBytes at this
      omega
  subst hl
  refine (law_walk x A A' cap n' c' l W hR hreach).mono fun e W' ⟨he, hb⟩ => ?_
  subst he
  have hlt' : ∀ x ∈ p0 ++ p1 ++ p2, x.block < W.heap.size := fun y hy => hlt y (by simpa using hy)
  exact ⟨_, rfl, post_of_below (pa := p0 ++ p1 ++ p2) (pv := []) hW' (fun _ _ _ => trodAll_mk1 (shut_truth (P := Tryz.prog) Tryz.underlying4 true)) (fun sp hsp => trodAll_stays Tryz.laidOut hb _ _ _ _ Tryz.readable3 hA1 hlt' sp (fun y hy => hsp y (by simpa using hy))) (fun _ _ => rfl) rfl hb (ok_one (by kernel_rfl) rfl (okWide_bool_mk Tryz.underlying4 _))⟩

theorem named3 : Tryz.pinned.checked.prog.funcNamed Rows.driverNoneRow.func = some 3 := by kernel_rfl
theorem c_unfollowed : (Rows.driverNoneRow.unfollowed == Tryz.prog.unfollowed 3) = true := by kernel_rfl
theorem c_varsNamed : (Rows.driverNoneRow.named == Tryz.prog.varsNamed 3) = true := by kernel_rfl
theorem c_recurses : (Rows.driverNoneRow.recurses == Tryz.prog.recurses 3) = true := by kernel_rfl
theorem c_inPlace : (Rows.driverNoneRow.inPlace == Tryz.prog.inPlace 3) = true := by kernel_rfl
theorem driverNone_closed : joinedFacts Tryz.prog 3 Tryz.f3 Rows.driverNoneSpec Rows.driverNoneRow = true := by
  unfold joinedFacts
  rw [c_unfollowed, c_varsNamed, c_recurses, c_inPlace]
  kernel_rfl

theorem driverNone_holds : Rows.DriverNoneSaid :=
  OpenClaim.holds_of_wide 3 Tryz.f3 rfl rfl rfl rfl rfl rfl rfl ⟨rfl, rfl, rfl, rfl, rfl⟩ rfl rfl rfl rfl rfl named3 Tryz.func3 driverNone_closed
    (of_decide_eq_true (by kernel_rfl)) (by unfold Func.isWrapper; first | (rw [if_pos (by decide +kernel)]; kernel_rfl) | (rw [if_neg (by decide +kernel)]; exact ⟨rfl, rfl⟩))
    (fun os started H enc _ => driverNone_lifted os started H enc)
end Go.Proofs.YtcabicicfoehiaaGreat
