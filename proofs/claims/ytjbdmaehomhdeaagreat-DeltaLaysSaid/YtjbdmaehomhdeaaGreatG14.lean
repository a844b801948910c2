/- delta.Apply, whole. -/
import Derived.Test.YtjbdmaehomhdeaaGreatG13
set_option linter.unusedSimpArgs false
set_option linter.unusedVariables false
namespace Go.Proofs.YtjbdmaehomhdeaaGreat
open Go.RowKit

noncomputable def Delta.opE (d : Delta) (p : Page) : Int := if d.kind = 1 then p.putE d.item else if d.kind = 2 then p.splitE d.key d.page else if d.kind = 3 then p.linkE ⟨d.key, d.page⟩ else if d.kind = 4 then p.unlinkE d.key else if d.kind = 5 then 0 else p.mergeE d.right
noncomputable def Delta.opP (d : Delta) (p : Page) : Page := if d.kind = 1 then p.putP d.item else if d.kind = 2 then p.splitP d.key d.page else if d.kind = 3 then p.linkP ⟨d.key, d.page⟩ else if d.kind = 4 then p.unlinkP d.key else if d.kind = 5 then p else p.mergeP d.right
noncomputable def Delta.applyE (d : Delta) (p : Page) : Int := cond p.ok (cond d.mayB (d.opE p) 110) 101
noncomputable def Delta.applyP (d : Delta) (p : Page) : Page := cond (p.ok && d.mayB) (d.opP p) Page.zero
theorem PostPg.nothing {w w' : World} {n : Int} (hb : Below w.heap.size w w') : PostPg w Page.zero n (.returned (.tuple #[.agg #[Value.int IntKind.i64 0, Value.string { data := #[] }, Value.string { data := #[] }, Value.bool false, Value.int IntKind.i64 0, Value.slice none 0 0, Value.slice none 0 0], .int .i64 n])) w' :=
  ⟨none, none, 0, 0, rfl, ⟨Rd.nil, Rd.nil, Nat.le_refl _, Nat.le_refl _, Nat.zero_le _, Nat.zero_le _⟩, hb⟩
theorem PostPg.on {w : World} {q : Page} {n : Int} {e : Ending} {w' : World} {lo : Nat} (h : PostPg w q n e w') : ∃ B B' h h' lo2, e = .returned (.tuple #[q.val B h B' h', .int .i64 n]) ∧ (false = false → w.heap.size ≤ lo2) ∧ (false = true → lo2 = lo) ∧ Pg w' lo2 w'.heap.size q B B' h h' ∧ Below w.heap.size w w' := by
  obtain ⟨A, A', c, c', e, hp, hb⟩ := h
  exact ⟨A, A', c, c', w.heap.size, e, fun _ => Nat.le_refl _, (fun h => by cases h), hp, hb⟩

set_option maxRecDepth 100000 in
set_option maxHeartbeats 20000000 in
theorem apply_bad_page (p : Page) (d : Delta) (A A' C C' : Option Addr) (c c' b b' lo lo' : Nat) (w : World) (hp : Pg w lo w.heap.size p A A' c c') (hd : Pg w lo' w.heap.size d.right C C' b b') (hok : p.ok = false) :
    Calls Tryz.prog 19 #[p.val A c A' c', d.val C b C' b'] w (PostPg w Page.zero 101) := by
  have HCH := Lib.hid (fun w1 h => page_Check p A A' c c' lo w1 h)
  have HMY := Lib.hid (fun w1 h => delta_may d C C' b b' lo' w1 h)
  have HC : Hid (p.check = 101) := Lib.hid (by unfold Page.check; rw [hok]; rfl)
  have H1 := Lib.hid hp
  have H2 := Lib.hid hd
  clear hp hd
  unfold Page.val Page.raw at HCH
  unfold Delta.val at HMY
  unfold Page.val Page.raw Delta.val
  obtain ⟨ni, hni⟩ : ∃ n, n = p.items.length := ⟨_, rfl⟩
  obtain ⟨nk, hnk⟩ : ∃ n, n = p.kids.length := ⟨_, rfl⟩
  obtain ⟨ri, hri⟩ : ∃ n, n = d.right.items.length := ⟨_, rfl⟩
  obtain ⟨rk, hrk⟩ : ∃ n, n = d.right.kids.length := ⟨_, rfl⟩
  obtain ⟨lv, hlv⟩ : ∃ n, n = p.level := ⟨_, rfl⟩
  rw [← hni, ← hnk, ← hlv, ← hri, ← hrk]
  rw [← hni, ← hnk, ← hlv] at HCH
  rw [← hri, ← hrk] at HMY
  have HNI := Lib.hid hni
  have HNK := Lib.hid hnk
  clear hni hnk hlv hri hrk
  have hF := Fr.three w 27 29 27 #[Value.int IntKind.i64 lv, Value.string p.low, Value.string p.high, Value.bool p.last, Value.int IntKind.i64 p.side, Value.slice A ni c, Value.slice A' nk c'] #[Value.int IntKind.i64 d.kind, Value.string d.item.key, Value.string d.item.value, Value.int IntKind.i64 d.item.no, Value.bool d.item.gone, Value.string d.key, Value.int IntKind.i64 d.page, Value.int IntKind.i64 d.right.level, Value.string d.right.low, Value.string d.right.high, Value.bool d.right.last, Value.int IntKind.i64 d.right.side, Value.slice C ri b, Value.slice C' rk b'] #[Value.int IntKind.i64 0, Value.string { data := #[] }, Value.string { data := #[] }, Value.bool false, Value.int IntKind.i64 0, Value.slice none 0 0, Value.slice none 0 0]
  go_enter Tryz.func19, Tryz.ntmps19
  go_upto_region 1 with (fail)
  generalize ((w.alloc (.cells #[Value.int IntKind.i64 lv, Value.string p.low, Value.string p.high, Value.bool p.last, Value.int IntKind.i64 p.side, Value.slice A ni c, Value.slice A' nk c'] 27)).alloc (.cells #[Value.int IntKind.i64 d.kind, Value.string d.item.key, Value.string d.item.value, Value.int IntKind.i64 d.item.no, Value.bool d.item.gone, Value.string d.key, Value.int IntKind.i64 d.page, Value.int IntKind.i64 d.right.level, Value.string d.right.low, Value.string d.right.high, Value.bool d.right.last, Value.int IntKind.i64 d.right.side, Value.slice C ri b, Value.slice C' rk b'] 29)).alloc (.cells #[Value.int IntKind.i64 0, Value.string { data := #[] }, Value.string { data := #[] }, Value.bool false, Value.int IntKind.i64 0, Value.slice none 0 0, Value.slice none 0 0] 27) = w0 at *
  have HF0 := Lib.hid hF
  clear hF
  go_wp2_with (refine wpList_load_row rfl 27 _ rfl (w.heap.size) rfl 27 _ (0, 0) _ HF0.out.b0 Tryz.underlying27 rfl (by kernel_rfl) ?_)
  refine (HCH.out w0 ((H1.out.below HF0.out.be).mono (Nat.le_refl _) HF0.out.be.size)).mono ?_
  rw [HC.out]
  rintro e w1 ⟨rfl, hb1⟩
  have HF1 := Lib.hid (HF0.out.on hb1)
  clear hb1
  go_wp2_with (refine wpList_store_row rfl 27 _ _ rfl rfl (w.heap.size + 2) rfl _ _ _ rfl HF1.out.b2 rfl (by kernel_rfl) (List.all_eq_true.1 rfl) ?_; rintro wE hTE hBE)
  exact bodyPost_ret (v := .tuple #[.agg #[Value.int IntKind.i64 0, Value.string { data := #[] }, Value.string { data := #[] }, Value.bool false, Value.int IntKind.i64 0, Value.slice none 0 0, Value.slice none 0 0], .int .i64 101]) (results_row2 rfl _ _ (w.heap.size + 2) _ _ _ _ rfl hBE Tryz.underlying27 rfl (by kernel_rfl) rfl) rfl (PostPg.nothing (hTE.below HF1.out.be (by omega) HF1.out.be.size))

set_option maxRecDepth 100000 in
set_option maxHeartbeats 20000000 in
theorem apply_bad_delta (p : Page) (d : Delta) (A A' C C' : Option Addr) (c c' b b' lo lo' : Nat) (w : World) (hp : Pg w lo w.heap.size p A A' c c') (hd : Pg w lo' w.heap.size d.right C C' b b') (hok : p.ok = true) (hmay : d.mayB = false) :
    Calls Tryz.prog 19 #[p.val A c A' c', d.val C b C' b'] w (PostPg w Page.zero 110) := by
  have HCH := Lib.hid (fun w1 h => page_Check p A A' c c' lo w1 h)
  have HMY := Lib.hid (fun w1 h => delta_may d C C' b b' lo' w1 h)
  have HC : Hid (p.check = 0) := Lib.hid (by unfold Page.check; rw [hok]; rfl)
  have HM := Lib.hid hmay
  have H1 := Lib.hid hp
  have H2 := Lib.hid hd
  clear hp hd
  unfold Page.val Page.raw at HCH
  unfold Delta.val at HMY
  unfold Page.val Page.raw Delta.val
  obtain ⟨ni, hni⟩ : ∃ n, n = p.items.length := ⟨_, rfl⟩
  obtain ⟨nk, hnk⟩ : ∃ n, n = p.kids.length := ⟨_, rfl⟩
  obtain ⟨ri, hri⟩ : ∃ n, n = d.right.items.length := ⟨_, rfl⟩
  obtain ⟨rk, hrk⟩ : ∃ n, n = d.right.kids.length := ⟨_, rfl⟩
  obtain ⟨lv, hlv⟩ : ∃ n, n = p.level := ⟨_, rfl⟩
  rw [← hni, ← hnk, ← hlv, ← hri, ← hrk]
  rw [← hni, ← hnk, ← hlv] at HCH
  rw [← hri, ← hrk] at HMY
  have HNI := Lib.hid hni
  have HNK := Lib.hid hnk
  clear hni hnk hlv hri hrk
  have hF := Fr.three w 27 29 27 #[Value.int IntKind.i64 lv, Value.string p.low, Value.string p.high, Value.bool p.last, Value.int IntKind.i64 p.side, Value.slice A ni c, Value.slice A' nk c'] #[Value.int IntKind.i64 d.kind, Value.string d.item.key, Value.string d.item.value, Value.int IntKind.i64 d.item.no, Value.bool d.item.gone, Value.string d.key, Value.int IntKind.i64 d.page, Value.int IntKind.i64 d.right.level, Value.string d.right.low, Value.string d.right.high, Value.bool d.right.last, Value.int IntKind.i64 d.right.side, Value.slice C ri b, Value.slice C' rk b'] #[Value.int IntKind.i64 0, Value.string { data := #[] }, Value.string { data := #[] }, Value.bool false, Value.int IntKind.i64 0, Value.slice none 0 0, Value.slice none 0 0]
  go_enter Tryz.func19, Tryz.ntmps19
  go_upto_region 1 with (fail)
  generalize ((w.alloc (.cells #[Value.int IntKind.i64 lv, Value.string p.low, Value.string p.high, Value.bool p.last, Value.int IntKind.i64 p.side, Value.slice A ni c, Value.slice A' nk c'] 27)).alloc (.cells #[Value.int IntKind.i64 d.kind, Value.string d.item.key, Value.string d.item.value, Value.int IntKind.i64 d.item.no, Value.bool d.item.gone, Value.string d.key, Value.int IntKind.i64 d.page, Value.int IntKind.i64 d.right.level, Value.string d.right.low, Value.string d.right.high, Value.bool d.right.last, Value.int IntKind.i64 d.right.side, Value.slice C ri b, Value.slice C' rk b'] 29)).alloc (.cells #[Value.int IntKind.i64 0, Value.string { data := #[] }, Value.string { data := #[] }, Value.bool false, Value.int IntKind.i64 0, Value.slice none 0 0, Value.slice none 0 0] 27) = w0 at *
  have HF0 := Lib.hid hF
  clear hF
  go_wp2_with (refine wpList_load_row rfl 27 _ rfl (w.heap.size) rfl 27 _ (0, 0) _ HF0.out.b0 Tryz.underlying27 rfl (by kernel_rfl) ?_)
  refine (HCH.out w0 ((H1.out.below HF0.out.be).mono (Nat.le_refl _) HF0.out.be.size)).mono ?_
  rw [HC.out]
  rintro e w1 ⟨rfl, hb1⟩
  have HF1 := Lib.hid (HF0.out.on hb1)
  clear hb1
  go_wp2_with (refine wpList_load_row rfl 29 _ rfl (w.heap.size + 1) rfl 29 _ (0, 0) _ HF1.out.b1 Tryz.underlying29 rfl (by kernel_rfl) ?_)
  refine (HMY.out w1 ((H2.out.below HF1.out.be).mono (Nat.le_refl _) HF1.out.be.size)).mono ?_
  rw [HM.out]
  rintro e w2 ⟨rfl, hb2⟩
  have HF2 := Lib.hid (HF1.out.on hb2)
  clear hb2
  go_wp2_with (refine wpList_store_row rfl 27 _ _ rfl rfl (w.heap.size + 2) rfl _ _ _ rfl HF2.out.b2 rfl (by kernel_rfl) (List.all_eq_true.1 rfl) ?_; rintro wE hTE hBE)
  exact bodyPost_ret (v := .tuple #[.agg #[Value.int IntKind.i64 0, Value.string { data := #[] }, Value.string { data := #[] }, Value.bool false, Value.int IntKind.i64 0, Value.slice none 0 0, Value.slice none 0 0], .int .i64 110]) (results_row2 rfl _ _ (w.heap.size + 2) _ _ _ _ rfl hBE Tryz.underlying27 rfl (by kernel_rfl) rfl) rfl (PostPg.nothing (hTE.below HF2.out.be (by omega) HF2.out.be.size))

theorem cm_1 (v pv : Value) (W : World) : (callMethod (.iface 67 v) "pollard/delta.on" #[pv]).run Tryz.prog W = .ok (.enter 114 #[v, pv]) W := by kernel_rfl
theorem onOk_1 (p : Page) (d : Delta) (C C' : Option Addr) (b b' lo' : Nat) (hk : d.kind = 1) : OnOk p d C C' b b' lo' 67 (.agg #[Value.string d.item.key, Value.string d.item.value, Value.int IntKind.i64 d.item.no, Value.bool d.item.gone]) false 114 (p.putP d.item) (p.putE d.item) where
  of_ := fun W => by
    have h := delta_of1 d C C' d.right.items.length d.right.kids.length b b' W
    unfold Delta.val
    rw [hk]
    exact h
  asr := ⟨0, fun W => as_1_5 _ W⟩
  cm := fun pv W => cm_1 _ pv W
  on := fun A A' c c' lo W hp hr => (on_item p A A' c c' lo d.item W hp).mono fun e w' h => h.on

theorem cm_2 (v pv : Value) (W : World) : (callMethod (.iface 71 v) "pollard/delta.on" #[pv]).run Tryz.prog W = .ok (.enter 128 #[v, pv]) W := by kernel_rfl
theorem onOk_2 (p : Page) (d : Delta) (C C' : Option Addr) (b b' lo' : Nat) (hk : d.kind = 2) : OnOk p d C C' b b' lo' 71 (.agg #[Value.string d.key, Value.int IntKind.i64 d.page]) false 128 (p.splitP d.key d.page) (p.splitE d.key d.page) where
  of_ := fun W => by
    have h := delta_of2 d C C' d.right.items.length d.right.kids.length b b' W
    unfold Delta.val
    rw [hk]
    exact h
  asr := ⟨0, fun W => as_2_5 _ W⟩
  cm := fun pv W => cm_2 _ pv W
  on := fun A A' c c' lo W hp hr => (on_split p A A' c c' lo d.key d.page W hp).mono fun e w' h => h.on

theorem cm_3 (v pv : Value) (W : World) : (callMethod (.iface 73 v) "pollard/delta.on" #[pv]).run Tryz.prog W = .ok (.enter 133 #[v, pv]) W := by kernel_rfl
theorem onOk_3 (p : Page) (d : Delta) (C C' : Option Addr) (b b' lo' : Nat) (hk : d.kind = 3) : OnOk p d C C' b b' lo' 73 (.agg #[Value.string d.key, Value.int IntKind.i64 d.page]) false 133 (p.linkP ⟨d.key, d.page⟩) (p.linkE ⟨d.key, d.page⟩) where
  of_ := fun W => by
    have h := delta_of3 d C C' d.right.items.length d.right.kids.length b b' W
    unfold Delta.val
    rw [hk]
    exact h
  asr := ⟨0, fun W => as_3_5 _ W⟩
  cm := fun pv W => cm_3 _ pv W
  on := fun A A' c c' lo W hp hr => (on_index p A A' c c' lo ⟨d.key, d.page⟩ W hp).mono fun e w' h => h.on

theorem cm_4 (v pv : Value) (W : World) : (callMethod (.iface 75 v) "pollard/delta.on" #[pv]).run Tryz.prog W = .ok (.enter 140 #[v, pv]) W := by kernel_rfl
theorem onOk_4 (p : Page) (d : Delta) (C C' : Option Addr) (b b' lo' : Nat) (hk : d.kind = 4) : OnOk p d C C' b b' lo' 75 (.agg #[Value.string d.key]) false 140 (p.unlinkP d.key) (p.unlinkE d.key) where
  of_ := fun W => by
    have h := delta_of4 d C C' d.right.items.length d.right.kids.length b b' W
    unfold Delta.val
    rw [hk]
    exact h
  asr := ⟨0, fun W => as_4_5 _ W⟩
  cm := fun pv W => cm_4 _ pv W
  on := fun A A' c c' lo W hp hr => (on_gone p A A' c c' lo d.key W hp).mono fun e w' h => h.on

theorem cm_6 (v pv : Value) (W : World) : (callMethod (.iface 79 v) "pollard/delta.on" #[pv]).run Tryz.prog W = .ok (.enter 144 #[v, pv]) W := by kernel_rfl
theorem onOk_6 (p : Page) (d : Delta) (C C' : Option Addr) (b b' lo' : Nat) (hk : d.kind = 6) : OnOk p d C C' b b' lo' 79 (d.right.val C b C' b') false 144 (p.mergeP d.right) (p.mergeE d.right) where
  of_ := fun W => by
    have h := delta_of6 d C C' d.right.items.length d.right.kids.length b b' W
    unfold Delta.val
    rw [hk]
    exact h
  asr := ⟨0, fun W => as_6_5 _ W⟩
  cm := fun pv W => cm_6 _ pv W
  on := fun A A' c c' lo W hp hr => (on_merge p A A' c c' lo d.right C C' b b' lo' _ _ rfl rfl W hp hr).mono fun e w' h => h.on

theorem cm_5 (v pv : Value) (W : World) : (callMethod (.iface 77 v) "pollard/delta.on" #[pv]).run Tryz.prog W = .ok (.enter 143 #[v, pv]) W := by kernel_rfl
theorem onOk_5 (p : Page) (d : Delta) (C C' : Option Addr) (b b' lo' : Nat) (hk : d.kind = 5) (hok : p.ok = true) : OnOk p d C C' b b' lo' 77 (.agg #[Value.int IntKind.i64 d.page]) true 143 p 0 where
  of_ := fun W => by
    have h := delta_of5 d C C' d.right.items.length d.right.kids.length b b' W
    unfold Delta.val
    rw [hk]
    exact h
  asr := ⟨d.page, fun W => as_5_5 _ W⟩
  cm := fun pv W => cm_5 _ pv W
  on := fun A A' c c' lo W hp hr => (on_remove p A A' c c' lo d.page W hp).mono fun e w' h => ⟨A, A', c, c', lo, by rw [h.1, show p.check = 0 by unfold Page.check; rw [hok]; rfl], (fun h => by cases h), fun _ => rfl, (hp.below h.2).mono (Nat.le_refl _) h.2.size, h.2⟩

theorem delta_Apply (p : Page) (d : Delta) (A A' C C' : Option Addr) (c c' b b' lo lo' : Nat) (w : World) (hp : Pg w lo w.heap.size p A A' c c') (hd : Pg w lo' w.heap.size d.right C C' b b') :
    Calls Tryz.prog 19 #[p.val A c A' c', d.val C b C' b'] w (PostPg w (d.applyP p) (d.applyE p)) := by
  cases hok : p.ok with
  | false =>
    rw [show d.applyP p = Page.zero by unfold Delta.applyP; rw [hok]; rfl, show d.applyE p = 101 by unfold Delta.applyE; rw [hok]; rfl]
    exact apply_bad_page p d A A' C C' c c' b b' lo lo' w hp hd hok
  | true =>
    cases hm : d.mayB with
    | false =>
      rw [show d.applyP p = Page.zero by unfold Delta.applyP; rw [hok, hm]; rfl, show d.applyE p = 110 by unfold Delta.applyE; rw [hok, hm]; rfl]
      exact apply_bad_delta p d A A' C C' c c' b b' lo lo' w hp hd hok hm
    | true =>
      rw [show d.applyP p = d.opP p by unfold Delta.applyP; rw [hok, hm]; rfl, show d.applyE p = d.opE p by unfold Delta.applyE; rw [hok, hm]; rfl]
      have hk : 1 ≤ d.kind ∧ d.kind ≤ 6 := by
        unfold Delta.mayB Delta.may at hm
        simp only [Bool.and_eq_true, decide_eq_true_eq] at hm
        exact hm.1
      have h6 : d.kind = 1 ∨ d.kind = 2 ∨ d.kind = 3 ∨ d.kind = 4 ∨ d.kind = 5 ∨ d.kind = 6 := by omega
      rcases h6 with e | e | e | e | e | e
      · rw [show d.opP p = p.putP d.item by unfold Delta.opP; simp [e], show d.opE p = p.putE d.item by unfold Delta.opE; simp [e]]
        exact apply_core_no p d A A' C C' c c' b b' lo lo' w hp hd hok hm _ _ _ _ _ (onOk_1 p d C C' b b' lo' e)
      · rw [show d.opP p = p.splitP d.key d.page by unfold Delta.opP; simp [e], show d.opE p = p.splitE d.key d.page by unfold Delta.opE; simp [e]]
        exact apply_core_no p d A A' C C' c c' b b' lo lo' w hp hd hok hm _ _ _ _ _ (onOk_2 p d C C' b b' lo' e)
      · rw [show d.opP p = p.linkP ⟨d.key, d.page⟩ by unfold Delta.opP; simp [e], show d.opE p = p.linkE ⟨d.key, d.page⟩ by unfold Delta.opE; simp [e]]
        exact apply_core_no p d A A' C C' c c' b b' lo lo' w hp hd hok hm _ _ _ _ _ (onOk_3 p d C C' b b' lo' e)
      · rw [show d.opP p = p.unlinkP d.key by unfold Delta.opP; simp [e], show d.opE p = p.unlinkE d.key by unfold Delta.opE; simp [e]]
        exact apply_core_no p d A A' C C' c c' b b' lo lo' w hp hd hok hm _ _ _ _ _ (onOk_4 p d C C' b b' lo' e)
      · rw [show d.opP p = p by unfold Delta.opP; simp [e], show d.opE p = 0 by unfold Delta.opE; simp [e]]
        exact apply_core_yes p d A A' C C' c c' b b' lo lo' w hp hd hok hm _ _ _ _ _ (onOk_5 p d C C' b b' lo' e hok)
      · rw [show d.opP p = p.mergeP d.right by unfold Delta.opP; simp [e], show d.opE p = p.mergeE d.right by unfold Delta.opE; simp [e]]
        exact apply_core_no p d A A' C C' c c' b b' lo lo' w hp hd hok hm _ _ _ _ _ (onOk_6 p d C C' b b' lo' e)
end Go.Proofs.YtjbdmaehomhdeaaGreat
