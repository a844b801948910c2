/- DeltaLinks: for any page, key and number the law returns true and leaves its arguments as they were. No condition. -/
import Derived.Test.YtjbdmaehomhdeaaL5
import Derived.OpenShut
namespace Go.Proofs.Ytjbdmaehomhdeaa
open Go.ChangeShapes Go.WideShapes Go.ChangeAt Go.RowKit Go.Deep Go.Joins

theorem Try.own : ownKnob Try.prog.godebug = none := by kernel_rfl
theorem Try.laidOut : laidOutB Try.prog = true := by kernel_rfl
theorem bytesItem : Try.prog.bytesOf 39 = 48 := by kernel_rfl
theorem bytesKid : Try.prog.bytesOf 60 = 24 := by kernel_rfl
theorem Try.readable7 : ∀ t ∈ Try.f7.params.toList, Try.prog.readableRec t = true ∧ t < Try.prog.types.size := by
  have h : (Try.f7.params.toList.all fun t => Try.prog.readableRec t && decide (t < Try.prog.types.size)) = true := by kernel_rfl
  intro t ht
  have := List.all_eq_true.1 h t ht
  simpa using this

set_option maxRecDepth 100000 in
theorem deltaLinks_lifted (os : Os) (started : os.Started) (H : Type) (enc : TypeId × Value → H) :
    ReturnsInHanded {} Try.checked os 7 .any (Rows.deltaLinksSpec.pre6 enc Try.prog Try.f7 Rows.deltaLinksRow.domain false) (Rows.deltaLinksSpec.post enc Try.prog Try.f7 false true false false) := by
  refine returnsInHanded_of_change_sized (C := Try.checked) Try.own started (by kernel_rfl) Try.func7
    (ChangeSpec.witness6 (enc := enc) (C := Try.checked) false ⟨#[], #[.agg #[.int .i64 0, .string ByteArray.empty, .string ByteArray.empty, .bool false, .int .i64 0, .slice none 0 0, .slice none 0 0], .string ByteArray.empty, .int .i64 0], []⟩ 8 (by kernel_rfl) (by kernel_rfl) (by kernel_rfl) (by kernel_rfl)) ?_
  intro W base args ds gs before hval0 hW _ hsz0 _
  have hsz : (DataW.weightsEach Try.prog (Try.f7.params.toList ++ Rows.deltaLinksSpec.plain.varTypes Try.prog) (ds ++ gs)).all (· ≤ reachBytes) = true := hsz0
  clear hsz0
  have hval : ∀ (j : Nat) t v, Try.f7.params[j]? = some t → args[j]? = some v → Value.okWide Try.prog W .any base t v := hval0
  have hW' := hW
  have hlt := hW.lt
  obtain ⟨p, q, hA0, hV, rfl, hfz, hnd⟩ := hW
  have hA : DataW.TrodAll enc Try.prog W 0 (fun _ => true) true Try.f7.params.toList args.toList ds p := hA0
  have hA1 := hA
  rw [Try.params7] at hA hval hsz
  obtain ⟨v0, v1, v2, d0, d1, d2, p0, p1, p2, rfl, rfl, rfl, h0, h1, h2⟩ := trodAll_three hA
  obtain ⟨rfl, rfl⟩ := trodVars_none hV
  obtain ⟨pg, A, A', c, c', parts, x5, x6, rfl, rfl, hx5, hx6, hRI, hRK, hci, hck, hsi, hsk⟩ := open_page (hval 0 _ _ rfl rfl) h0
  obtain ⟨f1, h1⟩ := h1
  obtain ⟨f2, h2⟩ := h2
  obtain ⟨key, rfl⟩ := okWide_string Try.underlying9 (hval 1 _ _ rfl rfl)
  obtain ⟨tt, rfl⟩ := okWide_int Try.underlying3 (hval 2 _ _ rfl rfl)
  have hps := sized_struct hsz (j := 0) (t := 27) rfl rfl Try.underlying27
  have hbi : pg.items.length ≤ 140737488351232 := by
    rcases hsi with h | ⟨es, sp, rfl, he⟩
    · omega
    · have := sized_slice hps (j := 5) (t := 24) (e := 39) rfl hx5 Try.underlying24
      rw [bytesItem] at this
      unfold reachBytes at this
      omega
  have hbk : pg.kids.length ≤ 140737488351232 := by
    rcases hsk with h | ⟨es, sp, rfl, he⟩
    · omega
    · have := sized_slice hps (j := 6) (t := 25) (e := 60) rfl hx6 Try.underlying25
      rw [bytesKid] at this
      unfold reachBytes at this
      omega
  refine (law_DeltaLinks pg A A' c c' 0 key tt W ⟨hRI, hRK, hci, hck, hbi, hbk⟩).mono fun e W' ⟨he, hb⟩ => ?_
  rw [links_true] at he
  subst he
  have hlt' : ∀ x ∈ p0 ++ p1 ++ p2, x.block < W.heap.size := fun y hy => hlt y (by simpa using hy)
  exact ⟨_, rfl, post_of_below (pa := p0 ++ p1 ++ p2) (pv := []) hW' (fun _ _ _ => trodAll_mk1 (shut_truth (P := Try.prog) Try.underlying4 true)) (fun sp hsp => trodAll_stays Try.laidOut hb _ _ _ _ Try.readable7 hA1 hlt' sp (fun y hy => hsp y (by simpa using hy))) (fun _ _ => rfl) rfl hb (ok_one (by kernel_rfl) rfl (okWide_bool_mk Try.underlying4 _))⟩

theorem named7 : Try.pinned.checked.prog.funcNamed Rows.deltaLinksRow.func = some 7 := by kernel_rfl
theorem c_unfollowed : (Rows.deltaLinksRow.unfollowed == Try.prog.unfollowed 7) = true := by kernel_rfl
theorem c_varsNamed : (Rows.deltaLinksRow.named == Try.prog.varsNamed 7) = true := by kernel_rfl
theorem c_recurses : (Rows.deltaLinksRow.recurses == Try.prog.recurses 7) = true := by kernel_rfl
theorem c_inPlace : (Rows.deltaLinksRow.inPlace == Try.prog.inPlace 7) = true := by kernel_rfl
theorem deltaLinks_closed : joinedFacts Try.prog 7 Try.f7 Rows.deltaLinksSpec Rows.deltaLinksRow = true := by
  unfold joinedFacts
  rw [c_unfollowed, c_varsNamed, c_recurses, c_inPlace]
  kernel_rfl

theorem deltaLinks_holds : Rows.DeltaLinksSaid :=
  OpenClaim.holds_of_wide 7 Try.f7 rfl rfl rfl rfl rfl rfl rfl ⟨rfl, rfl, rfl, rfl, rfl⟩ rfl rfl rfl rfl rfl named7 Try.func7 deltaLinks_closed
    (of_decide_eq_true (by kernel_rfl)) (by unfold Func.isWrapper; first | (rw [if_pos (by decide +kernel)]; kernel_rfl) | (rw [if_neg (by decide +kernel)]; exact ⟨rfl, rfl⟩))
    (fun os started H enc _ => deltaLinks_lifted os started H enc)
end Go.Proofs.Ytjbdmaehomhdeaa
