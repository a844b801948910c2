/- delta: what each kind of change makes of a page. -/
import Derived.Test.YtjbdmaehomhdeaaGreatG9
import Derived.Test.YtjbdmaehomhdeaaGreatG6
import Derived.Test.YtjbdmaehomhdeaaGreatG10
import Derived.Test.YtjbdmaehomhdeaaGreatZE
import Derived.Test.YtjbdmaehomhdeaaGreatF8
import Derived.Test.YtjbdmaehomhdeaaGreatAp
set_option linter.unusedSimpArgs false
set_option linter.unusedVariables false
namespace Go.Proofs.YtjbdmaehomhdeaaGreat
open Go.RowKit

/-- a page that reads, and an errno -/
def PostPg (w : World) (q : Page) (n : Int) (e : Ending) (w' : World) : Prop := ∃ A A' c c', e = .returned (.tuple #[q.val A c A' c', .int .i64 n]) ∧ Pg w' w.heap.size w'.heap.size q A A' c c' ∧ Below w.heap.size w w'
theorem PostPE.toPg {w w' : World} {q : Page} {n : Int} {e : Ending} (h : PostPE w q n e w') (hl : q.items.length ≤ 1001 ∧ q.kids.length ≤ 1001) : PostPg w q n e w' := by
  obtain ⟨vi, vk, rfl, h1, h2, h3⟩ := h
  obtain ⟨A, A', c, c', e, hp⟩ := PostPE.pg h1 h2 (by omega) (by omega)
  exact ⟨A, A', c, c', by rw [e], hp, h3⟩
theorem putP_few (p : Page) (x : Item) : (p.putP x).items.length ≤ 1001 ∧ (p.putP x).kids.length ≤ 1001 := by
  unfold Page.putP
  split
  · rename_i h
    have h1 := Page.Fine.items_few (Page.Fine.of_ok (put_ok h))
    refine ⟨?_, by simpa using Nat.le_trans h1.2 (by omega)⟩
    show (putL p.items x).length ≤ 1001
    have : (putL p.items x).length ≤ p.items.length + 1 := by
      have := posOf_le Item.key p.items x.key
      unfold putL
      repeat' split
      · rename_i y _ _
        cases decide (y.no ≥ x.no) <;> simp
      · simp
        omega
    omega
  · exact ⟨Nat.zero_le _, Nat.zero_le _⟩
theorem linkP_few (p : Page) (x : Kid) : (p.linkP x).items.length ≤ 1001 ∧ (p.linkP x).kids.length ≤ 1001 := by
  unfold Page.linkP
  cases h : (p.ok && p.linkFits x) with
  | false => exact ⟨Nat.zero_le _, Nat.zero_le _⟩
  | true =>
    simp only [Bool.and_eq_true] at h
    have h1 := Page.Fine.items_few (Page.Fine.of_ok h.1)
    refine ⟨Nat.le_trans h1.1 (by omega), ?_⟩
    show (linkL p.kids x).length ≤ 1001
    have : (linkL p.kids x).length ≤ p.kids.length + 1 := by
      have := posOf_le Kid.key p.kids x.key
      unfold linkL
      cases isAt Kid.key p.kids x.key <;> simp <;> omega
    omega
theorem unlinkP_few (p : Page) (s : ByteArray) : (p.unlinkP s).items.length ≤ 1001 ∧ (p.unlinkP s).kids.length ≤ 1001 := by
  unfold Page.unlinkP
  cases h : (p.ok && p.unlinkFits s) with
  | false => exact ⟨Nat.zero_le _, Nat.zero_le _⟩
  | true =>
    simp only [Bool.and_eq_true] at h
    have h1 := Page.Fine.items_few (Page.Fine.of_ok h.1)
    refine ⟨Nat.le_trans h1.1 (by omega), ?_⟩
    show (List.take _ p.kids ++ List.drop _ p.kids).length ≤ 1001
    simp
    omega
theorem mergeP_few (p q : Page) : (p.mergeP q).items.length ≤ 1001 ∧ (p.mergeP q).kids.length ≤ 1001 := by
  unfold Page.mergeP
  cases h : ((p.ok && q.ok) && p.mergeFits q) with
  | false => exact ⟨Nat.zero_le _, Nat.zero_le _⟩
  | true =>
    simp only [Bool.and_eq_true] at h
    obtain ⟨_, h⟩ := h
    unfold Page.mergeFits at h
    simp only [Bool.and_eq_true, decide_eq_true_eq] at h
    obtain ⟨_, _, _, h3, h4⟩ := h
    constructor
    · show (p.items ++ q.items).length ≤ 1001
      simp; omega
    · show (p.kids ++ q.kids).length ≤ 1001
      simp; omega
theorem Pg.later {w w1 w2 : World} {q : Page} {A A' : Option Addr} {c c' lo : Nat} (h : Pg w1 lo w1.heap.size q A A' c c') (hb : w.heap.size ≤ lo) (h2 : ∀ k, lo ≤ k → k < w1.heap.size → w2.heap[k]? = w1.heap[k]?) (hs : w1.heap.size ≤ w2.heap.size) : Pg w2 w.heap.size w2.heap.size q A A' c c' :=
  ⟨(h.items.keep fun p h1 h3 => World.cell?_of_block (h2 _ h1 h3)).mono hb hs, (h.kids.keep fun p h1 h3 => World.cell?_of_block (h2 _ h1 h3)).mono hb hs, h.li, h.lk, h.bi, h.bk⟩

set_option maxRecDepth 100000 in
set_option maxHeartbeats 20000000 in
theorem on_item (p : Page) (A A' : Option Addr) (c c' lo : Nat) (x : Item) (w : World) (hp : Pg w lo w.heap.size p A A' c c') :
    Calls Tryz.prog 114 #[.agg #[Value.string x.key, Value.string x.value, Value.int IntKind.i64 x.no, Value.bool x.gone], p.val A c A' c'] w (PostPg w (p.putP x) (p.putE x)) := by
  have HCALL := Lib.hid (fun (w1 : World) (hb : Below w.heap.size w w1) => page_put p A A' c c' lo x w1 ((hp.below hb).mono (Nat.le_refl _) hb.size))
  clear hp
  unfold Page.val Page.raw at HCALL
  unfold Page.val Page.raw
  obtain ⟨ni, hni⟩ : ∃ n, n = p.items.length := ⟨_, rfl⟩
  obtain ⟨nk, hnk⟩ : ∃ n, n = p.kids.length := ⟨_, rfl⟩
  obtain ⟨lv, hlv⟩ : ∃ n, n = p.level := ⟨_, rfl⟩
  rw [← hni, ← hnk, ← hlv]
  rw [← hni, ← hnk, ← hlv] at HCALL
  clear hni hnk hlv
  unfold Item.val at HCALL
  have hF := Fr.three w 67 27 27 #[Value.string x.key, Value.string x.value, Value.int IntKind.i64 x.no, Value.bool x.gone] #[Value.int IntKind.i64 lv, Value.string p.low, Value.string p.high, Value.bool p.last, Value.int IntKind.i64 p.side, Value.slice A ni c, Value.slice A' nk c'] #[Value.int IntKind.i64 0, Value.string { data := #[] }, Value.string { data := #[] }, Value.bool false, Value.int IntKind.i64 0, Value.slice none 0 0, Value.slice none 0 0]
  go_enter Tryz.func114, Tryz.ntmps114
  go_upto_region 1 with (fail)
  generalize ((w.alloc (.cells #[Value.string x.key, Value.string x.value, Value.int IntKind.i64 x.no, Value.bool x.gone] 67)).alloc (.cells #[Value.int IntKind.i64 lv, Value.string p.low, Value.string p.high, Value.bool p.last, Value.int IntKind.i64 p.side, Value.slice A ni c, Value.slice A' nk c'] 27)).alloc (.cells #[Value.int IntKind.i64 0, Value.string { data := #[] }, Value.string { data := #[] }, Value.bool false, Value.int IntKind.i64 0, Value.slice none 0 0, Value.slice none 0 0] 27) = w0 at *
  have HF0 := Lib.hid hF
  clear hF
  obtain ⟨z0, z1, z2, z3, z4, z5, z6⟩ := Blk.cells7 HF0.out.b1
  obtain ⟨x0, x1, x2, x3⟩ := Blk.cells4 HF0.out.b0
  go_wp2_with fail
  refine (HCALL.out w0 HF0.out.be).mono ?_
  intro e w1 h
  obtain ⟨B, B', d, d', rfl, hq, hb1⟩ := h.toPg (putP_few _ _)
  have HF1 := Lib.hid (HF0.out.on hb1)
  have HQ := Lib.hid hq
  have hs0 := HF0.out.sz
  simp only [List.length_cons, List.length_nil] at hs0
  clear hq hb1 h
  obtain ⟨q, hqq⟩ : ∃ q, q = p.putP x := ⟨_, rfl⟩
  obtain ⟨n, hnn⟩ : ∃ n, n = p.putE x := ⟨_, rfl⟩
  rw [← hqq] at HQ
  rw [← hqq, ← hnn]
  have HQQ := Lib.hid hqq
  have HNN := Lib.hid hnn
  clear hqq hnn z0 z1 z2 z3 z4 z5 z6
  unfold Page.val Page.raw
  obtain ⟨qi, hqi⟩ : ∃ n, n = q.items.length := ⟨_, rfl⟩
  obtain ⟨qk, hqk⟩ : ∃ n, n = q.kids.length := ⟨_, rfl⟩
  rw [← hqi, ← hqk]
  have HQI := Lib.hid hqi
  have HQK := Lib.hid hqk
  clear hqi hqk
  go_wp2_with (refine wpList_store_row rfl 27 _ _ rfl rfl (w.heap.size + 2) rfl _ _ _ rfl HF1.out.b2 rfl (by kernel_rfl) (List.all_eq_true.1 rfl) ?_; rintro wE hTE hBE)
  exact bodyPost_ret (v := .tuple #[.agg #[Value.int IntKind.i64 q.level, Value.string q.low, Value.string q.high, Value.bool q.last, Value.int IntKind.i64 q.side, Value.slice B qi d, Value.slice B' qk d'], .int .i64 n]) (results_row2 rfl _ _ (w.heap.size + 2) _ _ _ _ rfl hBE Tryz.underlying27 rfl (by kernel_rfl) rfl) rfl (by rw [← HQQ.out, ← HNN.out]; exact ⟨B, B', d, d', by unfold Page.val Page.raw; rw [HQI.out, HQK.out], HQ.out.later (w := w) (by omega) (fun k h1 _ => hTE.other (by omega)) (by rw [hTE.sz]; exact Nat.le_refl _), hTE.below HF1.out.be (by omega) HF1.out.be.size⟩)

set_option maxRecDepth 100000 in
set_option maxHeartbeats 20000000 in
theorem on_index (p : Page) (A A' : Option Addr) (c c' lo : Nat) (x : Kid) (w : World) (hp : Pg w lo w.heap.size p A A' c c') :
    Calls Tryz.prog 133 #[.agg #[Value.string x.key, Value.int IntKind.i64 x.page], p.val A c A' c'] w (PostPg w (p.linkP x) (p.linkE x)) := by
  have HCALL := Lib.hid (fun (w1 : World) (hb : Below w.heap.size w w1) => page_Link p A A' c c' lo x w1 ((hp.below hb).mono (Nat.le_refl _) hb.size))
  clear hp
  unfold Page.val Page.raw at HCALL
  unfold Page.val Page.raw
  obtain ⟨ni, hni⟩ : ∃ n, n = p.items.length := ⟨_, rfl⟩
  obtain ⟨nk, hnk⟩ : ∃ n, n = p.kids.length := ⟨_, rfl⟩
  obtain ⟨lv, hlv⟩ : ∃ n, n = p.level := ⟨_, rfl⟩
  rw [← hni, ← hnk, ← hlv]
  rw [← hni, ← hnk, ← hlv] at HCALL
  clear hni hnk hlv
  have hF := Fr.three w 73 27 27 #[Value.string x.key, Value.int IntKind.i64 x.page] #[Value.int IntKind.i64 lv, Value.string p.low, Value.string p.high, Value.bool p.last, Value.int IntKind.i64 p.side, Value.slice A ni c, Value.slice A' nk c'] #[Value.int IntKind.i64 0, Value.string { data := #[] }, Value.string { data := #[] }, Value.bool false, Value.int IntKind.i64 0, Value.slice none 0 0, Value.slice none 0 0]
  go_enter Tryz.func133, Tryz.ntmps133
  go_upto_region 1 with (fail)
  generalize ((w.alloc (.cells #[Value.string x.key, Value.int IntKind.i64 x.page] 73)).alloc (.cells #[Value.int IntKind.i64 lv, Value.string p.low, Value.string p.high, Value.bool p.last, Value.int IntKind.i64 p.side, Value.slice A ni c, Value.slice A' nk c'] 27)).alloc (.cells #[Value.int IntKind.i64 0, Value.string { data := #[] }, Value.string { data := #[] }, Value.bool false, Value.int IntKind.i64 0, Value.slice none 0 0, Value.slice none 0 0] 27) = w0 at *
  have HF0 := Lib.hid hF
  clear hF
  obtain ⟨z0, z1, z2, z3, z4, z5, z6⟩ := Blk.cells7 HF0.out.b1
  obtain ⟨x0, x1⟩ := Blk.cells2 HF0.out.b0
  go_wp2_with fail
  refine (HCALL.out w0 HF0.out.be).mono ?_
  intro e w1 h
  obtain ⟨B, B', d, d', rfl, hq, hb1⟩ := h.toPg (linkP_few _ _)
  have HF1 := Lib.hid (HF0.out.on hb1)
  have HQ := Lib.hid hq
  have hs0 := HF0.out.sz
  simp only [List.length_cons, List.length_nil] at hs0
  clear hq hb1 h
  obtain ⟨q, hqq⟩ : ∃ q, q = p.linkP x := ⟨_, rfl⟩
  obtain ⟨n, hnn⟩ : ∃ n, n = p.linkE x := ⟨_, rfl⟩
  rw [← hqq] at HQ
  rw [← hqq, ← hnn]
  have HQQ := Lib.hid hqq
  have HNN := Lib.hid hnn
  clear hqq hnn z0 z1 z2 z3 z4 z5 z6
  unfold Page.val Page.raw
  obtain ⟨qi, hqi⟩ : ∃ n, n = q.items.length := ⟨_, rfl⟩
  obtain ⟨qk, hqk⟩ : ∃ n, n = q.kids.length := ⟨_, rfl⟩
  rw [← hqi, ← hqk]
  have HQI := Lib.hid hqi
  have HQK := Lib.hid hqk
  clear hqi hqk
  go_wp2_with (refine wpList_store_row rfl 27 _ _ rfl rfl (w.heap.size + 2) rfl _ _ _ rfl HF1.out.b2 rfl (by kernel_rfl) (List.all_eq_true.1 rfl) ?_; rintro wE hTE hBE)
  exact bodyPost_ret (v := .tuple #[.agg #[Value.int IntKind.i64 q.level, Value.string q.low, Value.string q.high, Value.bool q.last, Value.int IntKind.i64 q.side, Value.slice B qi d, Value.slice B' qk d'], .int .i64 n]) (results_row2 rfl _ _ (w.heap.size + 2) _ _ _ _ rfl hBE Tryz.underlying27 rfl (by kernel_rfl) rfl) rfl (by rw [← HQQ.out, ← HNN.out]; exact ⟨B, B', d, d', by unfold Page.val Page.raw; rw [HQI.out, HQK.out], HQ.out.later (w := w) (by omega) (fun k h1 _ => hTE.other (by omega)) (by rw [hTE.sz]; exact Nat.le_refl _), hTE.below HF1.out.be (by omega) HF1.out.be.size⟩)

set_option maxRecDepth 100000 in
set_option maxHeartbeats 20000000 in
theorem on_gone (p : Page) (A A' : Option Addr) (c c' lo : Nat) (s : ByteArray) (w : World) (hp : Pg w lo w.heap.size p A A' c c') :
    Calls Tryz.prog 140 #[.agg #[Value.string s], p.val A c A' c'] w (PostPg w (p.unlinkP s) (p.unlinkE s)) := by
  have HCALL := Lib.hid (fun (w1 : World) (hb : Below w.heap.size w w1) => page_Unlink p A A' c c' lo s w1 ((hp.below hb).mono (Nat.le_refl _) hb.size))
  clear hp
  unfold Page.val Page.raw at HCALL
  unfold Page.val Page.raw
  obtain ⟨ni, hni⟩ : ∃ n, n = p.items.length := ⟨_, rfl⟩
  obtain ⟨nk, hnk⟩ : ∃ n, n = p.kids.length := ⟨_, rfl⟩
  obtain ⟨lv, hlv⟩ : ∃ n, n = p.level := ⟨_, rfl⟩
  rw [← hni, ← hnk, ← hlv]
  rw [← hni, ← hnk, ← hlv] at HCALL
  clear hni hnk hlv
  have hF := Fr.three w 75 27 27 #[Value.string s] #[Value.int IntKind.i64 lv, Value.string p.low, Value.string p.high, Value.bool p.last, Value.int IntKind.i64 p.side, Value.slice A ni c, Value.slice A' nk c'] #[Value.int IntKind.i64 0, Value.string { data := #[] }, Value.string { data := #[] }, Value.bool false, Value.int IntKind.i64 0, Value.slice none 0 0, Value.slice none 0 0]
  go_enter Tryz.func140, Tryz.ntmps140
  go_upto_region 1 with (fail)
  generalize ((w.alloc (.cells #[Value.string s] 75)).alloc (.cells #[Value.int IntKind.i64 lv, Value.string p.low, Value.string p.high, Value.bool p.last, Value.int IntKind.i64 p.side, Value.slice A ni c, Value.slice A' nk c'] 27)).alloc (.cells #[Value.int IntKind.i64 0, Value.string { data := #[] }, Value.string { data := #[] }, Value.bool false, Value.int IntKind.i64 0, Value.slice none 0 0, Value.slice none 0 0] 27) = w0 at *
  have HF0 := Lib.hid hF
  clear hF
  obtain ⟨z0, z1, z2, z3, z4, z5, z6⟩ := Blk.cells7 HF0.out.b1
  have x0 := HF0.out.b0.cell 0
  simp only [List.getElem?_toArray, List.getElem?_cons_zero] at x0
  go_wp2_with fail
  refine (HCALL.out w0 HF0.out.be).mono ?_
  intro e w1 h
  obtain ⟨B, B', d, d', rfl, hq, hb1⟩ := h.toPg (unlinkP_few _ _)
  have HF1 := Lib.hid (HF0.out.on hb1)
  have HQ := Lib.hid hq
  have hs0 := HF0.out.sz
  simp only [List.length_cons, List.length_nil] at hs0
  clear hq hb1 h
  obtain ⟨q, hqq⟩ : ∃ q, q = p.unlinkP s := ⟨_, rfl⟩
  obtain ⟨n, hnn⟩ : ∃ n, n = p.unlinkE s := ⟨_, rfl⟩
  rw [← hqq] at HQ
  rw [← hqq, ← hnn]
  have HQQ := Lib.hid hqq
  have HNN := Lib.hid hnn
  clear hqq hnn z0 z1 z2 z3 z4 z5 z6
  unfold Page.val Page.raw
  obtain ⟨qi, hqi⟩ : ∃ n, n = q.items.length := ⟨_, rfl⟩
  obtain ⟨qk, hqk⟩ : ∃ n, n = q.kids.length := ⟨_, rfl⟩
  rw [← hqi, ← hqk]
  have HQI := Lib.hid hqi
  have HQK := Lib.hid hqk
  clear hqi hqk
  go_wp2_with (refine wpList_store_row rfl 27 _ _ rfl rfl (w.heap.size + 2) rfl _ _ _ rfl HF1.out.b2 rfl (by kernel_rfl) (List.all_eq_true.1 rfl) ?_; rintro wE hTE hBE)
  exact bodyPost_ret (v := .tuple #[.agg #[Value.int IntKind.i64 q.level, Value.string q.low, Value.string q.high, Value.bool q.last, Value.int IntKind.i64 q.side, Value.slice B qi d, Value.slice B' qk d'], .int .i64 n]) (results_row2 rfl _ _ (w.heap.size + 2) _ _ _ _ rfl hBE Tryz.underlying27 rfl (by kernel_rfl) rfl) rfl (by rw [← HQQ.out, ← HNN.out]; exact ⟨B, B', d, d', by unfold Page.val Page.raw; rw [HQI.out, HQK.out], HQ.out.later (w := w) (by omega) (fun k h1 _ => hTE.other (by omega)) (by rw [hTE.sz]; exact Nat.le_refl _), hTE.below HF1.out.be (by omega) HF1.out.be.size⟩)

set_option maxRecDepth 100000 in
set_option maxHeartbeats 20000000 in
theorem on_merge (p : Page) (A A' : Option Addr) (c c' lo : Nat) (r : Page) (C C' : Option Addr) (b b' lo' mi mk : Nat) (hmi : mi = r.items.length) (hmk : mk = r.kids.length) (w : World) (hp : Pg w lo w.heap.size p A A' c c') (hr : Pg w lo' w.heap.size r C C' b b') :
    Calls Tryz.prog 144 #[.agg #[Value.int IntKind.i64 r.level, Value.string r.low, Value.string r.high, Value.bool r.last, Value.int IntKind.i64 r.side, Value.slice C mi b, Value.slice C' mk b'], p.val A c A' c'] w (PostPg w (p.mergeP r) (p.mergeE r)) := by
  have HCALL := Lib.hid (fun (w1 : World) (hb : Below w.heap.size w w1) => page_Merge p r A A' C C' c c' b b' lo lo' w1 ((hp.below hb).mono (Nat.le_refl _) hb.size) ((hr.below hb).mono (Nat.le_refl _) hb.size))
  clear hp hr
  unfold Page.val Page.raw at HCALL
  unfold Page.val Page.raw
  obtain ⟨ni, hni⟩ : ∃ n, n = p.items.length := ⟨_, rfl⟩
  obtain ⟨nk, hnk⟩ : ∃ n, n = p.kids.length := ⟨_, rfl⟩
  obtain ⟨lv, hlv⟩ : ∃ n, n = p.level := ⟨_, rfl⟩
  rw [← hni, ← hnk, ← hlv]
  rw [← hni, ← hnk, ← hlv] at HCALL
  clear hni hnk hlv
  rw [← hmi, ← hmk] at HCALL
  clear hmi hmk
  have hF := Fr.three w 79 27 27 #[Value.int IntKind.i64 r.level, Value.string r.low, Value.string r.high, Value.bool r.last, Value.int IntKind.i64 r.side, Value.slice C mi b, Value.slice C' mk b'] #[Value.int IntKind.i64 lv, Value.string p.low, Value.string p.high, Value.bool p.last, Value.int IntKind.i64 p.side, Value.slice A ni c, Value.slice A' nk c'] #[Value.int IntKind.i64 0, Value.string { data := #[] }, Value.string { data := #[] }, Value.bool false, Value.int IntKind.i64 0, Value.slice none 0 0, Value.slice none 0 0]
  go_enter Tryz.func144, Tryz.ntmps144
  go_upto_region 1 with (fail)
  generalize ((w.alloc (.cells #[Value.int IntKind.i64 r.level, Value.string r.low, Value.string r.high, Value.bool r.last, Value.int IntKind.i64 r.side, Value.slice C mi b, Value.slice C' mk b'] 79)).alloc (.cells #[Value.int IntKind.i64 lv, Value.string p.low, Value.string p.high, Value.bool p.last, Value.int IntKind.i64 p.side, Value.slice A ni c, Value.slice A' nk c'] 27)).alloc (.cells #[Value.int IntKind.i64 0, Value.string { data := #[] }, Value.string { data := #[] }, Value.bool false, Value.int IntKind.i64 0, Value.slice none 0 0, Value.slice none 0 0] 27) = w0 at *
  have HF0 := Lib.hid hF
  clear hF
  obtain ⟨z0, z1, z2, z3, z4, z5, z6⟩ := Blk.cells7 HF0.out.b1
  obtain ⟨x0, x1, x2, x3, x4, x5, x6⟩ := Blk.cells7 HF0.out.b0
  go_wp2_with fail
  refine (HCALL.out w0 HF0.out.be).mono ?_
  intro e w1 h
  obtain ⟨B, B', d, d', rfl, hq, hb1⟩ := h.toPg (mergeP_few _ _)
  have HF1 := Lib.hid (HF0.out.on hb1)
  have HQ := Lib.hid hq
  have hs0 := HF0.out.sz
  simp only [List.length_cons, List.length_nil] at hs0
  clear hq hb1 h
  obtain ⟨q, hqq⟩ : ∃ q, q = p.mergeP r := ⟨_, rfl⟩
  obtain ⟨n, hnn⟩ : ∃ n, n = p.mergeE r := ⟨_, rfl⟩
  rw [← hqq] at HQ
  rw [← hqq, ← hnn]
  have HQQ := Lib.hid hqq
  have HNN := Lib.hid hnn
  clear hqq hnn z0 z1 z2 z3 z4 z5 z6
  unfold Page.val Page.raw
  obtain ⟨qi, hqi⟩ : ∃ n, n = q.items.length := ⟨_, rfl⟩
  obtain ⟨qk, hqk⟩ : ∃ n, n = q.kids.length := ⟨_, rfl⟩
  rw [← hqi, ← hqk]
  have HQI := Lib.hid hqi
  have HQK := Lib.hid hqk
  clear hqi hqk
  go_wp2_with (refine wpList_store_row rfl 27 _ _ rfl rfl (w.heap.size + 2) rfl _ _ _ rfl HF1.out.b2 rfl (by kernel_rfl) (List.all_eq_true.1 rfl) ?_; rintro wE hTE hBE)
  exact bodyPost_ret (v := .tuple #[.agg #[Value.int IntKind.i64 q.level, Value.string q.low, Value.string q.high, Value.bool q.last, Value.int IntKind.i64 q.side, Value.slice B qi d, Value.slice B' qk d'], .int .i64 n]) (results_row2 rfl _ _ (w.heap.size + 2) _ _ _ _ rfl hBE Tryz.underlying27 rfl (by kernel_rfl) rfl) rfl (by rw [← HQQ.out, ← HNN.out]; exact ⟨B, B', d, d', by unfold Page.val Page.raw; rw [HQI.out, HQK.out], HQ.out.later (w := w) (by omega) (fun k h1 _ => hTE.other (by omega)) (by rw [hTE.sz]; exact Nat.le_refl _), hTE.below HF1.out.be (by omega) HF1.out.be.size⟩)

set_option maxRecDepth 100000 in
set_option maxHeartbeats 20000000 in
theorem on_split (p : Page) (A A' : Option Addr) (c c' lo : Nat) (s : ByteArray) (n0 : Int) (w : World) (hp : Pg w lo w.heap.size p A A' c c') :
    Calls Tryz.prog 128 #[.agg #[Value.string s, Value.int IntKind.i64 n0], p.val A c A' c'] w (PostPg w (p.splitP s n0) (p.splitE s n0)) := by
  have HCALL := Lib.hid (fun (w1 : World) (hb : Below w.heap.size w w1) => page_Split p A A' c c' lo s n0 w1 ((hp.below hb).mono (Nat.le_refl _) hb.size))
  clear hp
  unfold Page.val Page.raw at HCALL
  unfold Page.val Page.raw
  obtain ⟨ni, hni⟩ : ∃ n, n = p.items.length := ⟨_, rfl⟩
  obtain ⟨nk, hnk⟩ : ∃ n, n = p.kids.length := ⟨_, rfl⟩
  obtain ⟨lv, hlv⟩ : ∃ n, n = p.level := ⟨_, rfl⟩
  rw [← hni, ← hnk, ← hlv]
  rw [← hni, ← hnk, ← hlv] at HCALL
  clear hni hnk hlv
  have hF := Fr.three w 71 27 27 #[Value.string s, Value.int IntKind.i64 n0] #[Value.int IntKind.i64 lv, Value.string p.low, Value.string p.high, Value.bool p.last, Value.int IntKind.i64 p.side, Value.slice A ni c, Value.slice A' nk c'] #[Value.int IntKind.i64 0, Value.string { data := #[] }, Value.string { data := #[] }, Value.bool false, Value.int IntKind.i64 0, Value.slice none 0 0, Value.slice none 0 0]
  go_enter Tryz.func128, Tryz.ntmps128
  go_upto_region 1 with (fail)
  generalize ((w.alloc (.cells #[Value.string s, Value.int IntKind.i64 n0] 71)).alloc (.cells #[Value.int IntKind.i64 lv, Value.string p.low, Value.string p.high, Value.bool p.last, Value.int IntKind.i64 p.side, Value.slice A ni c, Value.slice A' nk c'] 27)).alloc (.cells #[Value.int IntKind.i64 0, Value.string { data := #[] }, Value.string { data := #[] }, Value.bool false, Value.int IntKind.i64 0, Value.slice none 0 0, Value.slice none 0 0] 27) = w0 at *
  have HF0 := Lib.hid hF
  clear hF
  obtain ⟨z0, z1, z2, z3, z4, z5, z6⟩ := Blk.cells7 HF0.out.b1
  obtain ⟨x0, x1⟩ := Blk.cells2 HF0.out.b0
  go_wp2_with fail
  refine (HCALL.out w0 HF0.out.be).mono ?_
  intro e w1 h
  obtain ⟨B, B', d, d', vs, rfl, hvs, hone, hq, hb1⟩ := h
  have HF1 := Lib.hid (HF0.out.on hb1)
  have HQ := Lib.hid hq
  have hs0 := HF0.out.sz
  simp only [List.length_cons, List.length_nil] at hs0
  have hs1 : w0.heap.size ≤ w1.heap.size := hb1.size
  have HVS := Lib.hid hvs
  have HONE := Lib.hid hone
  clear hq hb1 hvs hone
  obtain ⟨q, hqq⟩ : ∃ q, q = p.splitP s n0 := ⟨_, rfl⟩
  obtain ⟨n, hnn⟩ : ∃ n, n = p.splitE s n0 := ⟨_, rfl⟩
  rw [← hqq] at HQ
  rw [← hqq, ← hnn]
  have HQQ := Lib.hid hqq
  have HNN := Lib.hid hnn
  clear hqq hnn z0 z1 z2 z3 z4 z5 z6 x0 x1
  unfold Page.val Page.raw
  obtain ⟨qi, hqi⟩ : ∃ n, n = q.items.length := ⟨_, rfl⟩
  obtain ⟨qk, hqk⟩ : ∃ n, n = q.kids.length := ⟨_, rfl⟩
  rw [← hqi, ← hqk]
  have HQI := Lib.hid hqi
  have HQK := Lib.hid hqk
  clear hqi hqk
  have HBa : Hid (Blk ((w1.alloc (.cells #[Value.int IntKind.i64 0, Value.string { data := #[] }, Value.string { data := #[] }, Value.bool false, Value.int IntKind.i64 0, Value.slice none 0 0, Value.slice none 0 0] 27)).alloc (.cells #[Value.int IntKind.i64 0, Value.string { data := #[] }, Value.string { data := #[] }, Value.bool false, Value.int IntKind.i64 0, Value.slice none 0 0, Value.slice none 0 0] 27)) w1.heap.size 27 #[Value.int IntKind.i64 0, Value.string { data := #[] }, Value.string { data := #[] }, Value.bool false, Value.int IntKind.i64 0, Value.slice none 0 0, Value.slice none 0 0]) := Lib.hid ((Blk.new _ _ _).alloc _)
  have HBb : Hid (Blk ((w1.alloc (.cells #[Value.int IntKind.i64 0, Value.string { data := #[] }, Value.string { data := #[] }, Value.bool false, Value.int IntKind.i64 0, Value.slice none 0 0, Value.slice none 0 0] 27)).alloc (.cells #[Value.int IntKind.i64 0, Value.string { data := #[] }, Value.string { data := #[] }, Value.bool false, Value.int IntKind.i64 0, Value.slice none 0 0, Value.slice none 0 0] 27)) (w1.heap.size + 1) 27 #[Value.int IntKind.i64 0, Value.string { data := #[] }, Value.string { data := #[] }, Value.bool false, Value.int IntKind.i64 0, Value.slice none 0 0, Value.slice none 0 0]) := Lib.hid (Blk.newAt (by simp))
  have HBE : Hid (Below w1.heap.size w1 ((w1.alloc (.cells #[Value.int IntKind.i64 0, Value.string { data := #[] }, Value.string { data := #[] }, Value.bool false, Value.int IntKind.i64 0, Value.slice none 0 0, Value.slice none 0 0] 27)).alloc (.cells #[Value.int IntKind.i64 0, Value.string { data := #[] }, Value.string { data := #[] }, Value.bool false, Value.int IntKind.i64 0, Value.slice none 0 0, Value.slice none 0 0] 27))) := Lib.hid (((Below.refl _ _).alloc (Nat.le_refl _) _).alloc (by simp) _)
  have HF2 := Lib.hid (HF1.out.on HBE.out)
  have hs2 : ((w1.alloc (.cells #[Value.int IntKind.i64 0, Value.string { data := #[] }, Value.string { data := #[] }, Value.bool false, Value.int IntKind.i64 0, Value.slice none 0 0, Value.slice none 0 0] 27)).alloc (.cells #[Value.int IntKind.i64 0, Value.string { data := #[] }, Value.string { data := #[] }, Value.bool false, Value.int IntKind.i64 0, Value.slice none 0 0, Value.slice none 0 0] 27)).heap.size = w1.heap.size + 2 := by simp
  go_wp2_with (first
    | (refine wpList_store_row rfl 27 _ _ rfl rfl (w.heap.size + 2) rfl _ _ _ rfl HF5.out.b2 rfl (by kernel_rfl) (List.all_eq_true.1 rfl) ?_; rintro wE hTE hBE)
    | (refine wpList_load_row rfl 27 _ rfl (w1.heap.size) rfl 27 _ (0, 0) _ HB5.out Tryz.underlying27 rfl (by kernel_rfl) ?_)
    | (refine wpList_store_row rfl 27 _ _ rfl rfl (w1.heap.size + 1) rfl _ vs _ rfl HB4.out (by rw [HVS.out]; rfl) (by rw [HVS.out]; kernel_rfl) HONE.out ?_; rintro w5 hT5 _; have HB5 := Lib.hid (hT5.blk HA4.out (by omega)); have HF5 := Lib.hid (HF4.out.on' (B := w.heap.size + 3) (hT5.below (Below.refl _ _) (by omega) (by rw [HT4.out.sz]; omega)) (Nat.le_refl _) (by rw [HT4.out.sz]; omega)); have HT5 := Lib.hid hT5; clear hT5)
    | (refine wpList_store_row rfl 27 _ _ rfl rfl (w1.heap.size) rfl _ _ _ rfl HBa.out rfl (by kernel_rfl) (List.all_eq_true.1 rfl) ?_; rintro w4 hT4 hA4; have HA4 := Lib.hid hA4; have HB4 := Lib.hid (hT4.blk HBb.out (by omega)); have HF4 := Lib.hid (HF2.out.on' (B := w.heap.size + 3) (hT4.below (Below.refl _ _) (by omega) (by omega)) (Nat.le_refl _) (by omega)); have HT4 := Lib.hid hT4; clear hT4 hA4))
  exact bodyPost_ret (v := .tuple #[.agg #[Value.int IntKind.i64 q.level, Value.string q.low, Value.string q.high, Value.bool q.last, Value.int IntKind.i64 q.side, Value.slice B qi d, Value.slice B' qk d'], .int .i64 n]) (results_row2 rfl _ _ (w.heap.size + 2) _ _ _ _ rfl hBE Tryz.underlying27 rfl (by kernel_rfl) rfl) rfl (by rw [← HQQ.out, ← HNN.out]; exact ⟨B, B', d, d', by unfold Page.val Page.raw; rw [HQI.out, HQK.out], HQ.out.later (w := w) (by omega) (fun k h1 h2 => (hTE.other (by omega)).trans ((HT5.out.other (by omega)).trans ((HT4.out.other (by omega)).trans (HBE.out.block k h2)))) (by rw [hTE.sz, HT5.out.sz, HT4.out.sz, hs2]; omega), hTE.below HF5.out.be (by omega) HF5.out.be.size⟩)
end Go.Proofs.YtjbdmaehomhdeaaGreat

namespace Go.Proofs.YtjbdmaehomhdeaaGreat
open Go.RowKit


set_option maxRecDepth 100000 in
set_option maxHeartbeats 20000000 in
theorem on_remove (p : Page) (A A' : Option Addr) (c c' lo : Nat) (k : Int) (w : World) (hp : Pg w lo w.heap.size p A A' c c') :
    Calls Tryz.prog 143 #[.agg #[Value.int IntKind.i64 k], p.val A c A' c'] w (fun e w' => e = .returned (.tuple #[p.val A c A' c', .int .i64 p.check]) ∧ Below w.heap.size w w') := by
  have HCH := Lib.hid (fun w1 h => page_Check p A A' c c' lo w1 h)
  have H1 := Lib.hid hp
  clear hp
  unfold Page.val Page.raw at HCH
  unfold Page.val Page.raw
  obtain ⟨ni, hni⟩ : ∃ n, n = p.items.length := ⟨_, rfl⟩
  obtain ⟨nk, hnk⟩ : ∃ n, n = p.kids.length := ⟨_, rfl⟩
  obtain ⟨lv, hlv⟩ : ∃ n, n = p.level := ⟨_, rfl⟩
  rw [← hni, ← hnk, ← hlv]
  rw [← hni, ← hnk, ← hlv] at HCH
  clear hni hnk hlv
  obtain ⟨pc, hpc⟩ : ∃ n, n = p.check := ⟨_, rfl⟩
  rw [← hpc]
  rw [← hpc] at HCH
  clear hpc
  have hF := Fr.three w 77 27 27 #[Value.int IntKind.i64 k] #[Value.int IntKind.i64 lv, Value.string p.low, Value.string p.high, Value.bool p.last, Value.int IntKind.i64 p.side, Value.slice A ni c, Value.slice A' nk c'] #[Value.int IntKind.i64 0, Value.string { data := #[] }, Value.string { data := #[] }, Value.bool false, Value.int IntKind.i64 0, Value.slice none 0 0, Value.slice none 0 0]
  go_enter Tryz.func143, Tryz.ntmps143
  go_upto_region 1 with (fail)
  generalize ((w.alloc (.cells #[Value.int IntKind.i64 k] 77)).alloc (.cells #[Value.int IntKind.i64 lv, Value.string p.low, Value.string p.high, Value.bool p.last, Value.int IntKind.i64 p.side, Value.slice A ni c, Value.slice A' nk c'] 27)).alloc (.cells #[Value.int IntKind.i64 0, Value.string { data := #[] }, Value.string { data := #[] }, Value.bool false, Value.int IntKind.i64 0, Value.slice none 0 0, Value.slice none 0 0] 27) = w0 at *
  have HF0 := Lib.hid hF
  clear hF
  go_cut [5] (fun v wx => v = .int .i64 pc ∧ Hid (Below w.heap.size w wx ∧ Blk wx (w.heap.size + 2) 27 #[Value.int IntKind.i64 lv, Value.string p.low, Value.string p.high, Value.bool p.last, Value.int IntKind.i64 p.side, Value.slice A ni c, Value.slice A' nk c']))
  case first =>
    refine wp_region_inv (by kernel_rfl) [6, 7, 8, 5] (RmJ w 27 #[Value.int IntKind.i64 lv, Value.string p.low, Value.string p.high, Value.bool p.last, Value.int IntKind.i64 p.side, Value.slice A ni c, Value.slice A' nk c'] pc) (gOrd_ok (by kernel_rfl)) ⟨HF0.out.drew1.be, HF0.out.drew1.sz, HF0.out.drew1.b1, by simp, by simp, by simp, ⟨_, rfl, HF0.out.drew1.b2, by simp⟩, by simp⟩ ?_ ?_
    · intro i o ho D X W hJ hDi hdep
      rcases i with _ | _ | _ | _ | _ | i
      all_goals simp only [List.getElem?_toArray, List.getElem?_cons_zero, List.getElem?_cons_succ, List.getElem?_nil, Option.some.injEq, reduceCtorEq] at ho
      · exact wp1_load_row ho 27 (.tmp 3) rfl rfl (w.heap.size + 1) (by rw [over_out (by decide)]; rfl) 27 _ _ hJ.p1 Tryz.underlying27 rfl (by kernel_rfl) ⟨_, over_put (by decide) _, hJ.load0⟩
      · exact wp1_load_row ho 27 (.tmp 3) rfl rfl (w.heap.size + 1) (by rw [over_out (by decide)]; rfl) 27 _ _ hJ.p1 Tryz.underlying27 rfl (by kernel_rfl) ⟨_, over_put (by decide) _, hJ.load1⟩
      · have d1 : D 1 = true := hdep ⟨1, .data⟩ (by rw [← ho]; simp) rfl
        exact wp1_call ho 40 #[.tmp 7] _ rfl rfl #[.agg #[Value.int IntKind.i64 lv, Value.string p.low, Value.string p.high, Value.bool p.last, Value.int IntKind.i64 p.side, Value.slice A ni c, Value.slice A' nk c']] (by simp only [List.map_toArray, List.map_cons, List.map_nil]; rw [over_in (by decide) (Nat.le_of_ble_eq_true rfl), hJ.l1 d1]) Tryz.func40 (by kernel_rfl) rfl (HCH.out W ((H1.out.below hJ.be).mono (Nat.le_refl _) hJ.be.size)) (by
          rintro e w' ⟨rfl, hb⟩
          exact ⟨_, rfl, _, over_put (by decide) _, hJ.call2 hb⟩)
      · have d0 : D 0 = true := hdep ⟨0, .data⟩ (by rw [← ho]; simp) rfl
        obtain ⟨cs, hcs, hB, _⟩ := hJ.r
        exact wp1_store_row ho 27 (.tmp 4) (.tmp 6) rfl rfl (w.heap.size + 2) (by rw [over_out (by decide)]; rfl) 27 _ cs (by rw [over_in (by decide) (Nat.le_of_ble_eq_true rfl), hJ.l0 d0]) hB (by rw [hcs]; rfl) (by kernel_rfl) (List.all_eq_true.1 rfl) (fun w' hT hB' => ⟨X, rfl, hJ.store3 rfl hT hB'⟩)
      · have d2 : D 2 = true := hdep ⟨2, .data⟩ (by rw [← ho]; simp) rfl
        exact wp1_assign ho (.tmp 8) rfl rfl (by rw [over_in (by decide) (Nat.le_of_ble_eq_true rfl), hJ.c2 d2]) ⟨_, over_put (by decide) _, hJ.assign4⟩
    · intro D X W hJ hall
      have H8 := hJ.e4 (hall 4 (by decide))
      obtain ⟨a1, _, hb1, e1⟩ := hJ.r
      rw [e1 (hall 3 (by decide))] at hb1
      have HALL := Lib.hid (show Below w.heap.size w W ∧ Blk W (w.heap.size + 2) 27 #[Value.int IntKind.i64 lv, Value.string p.low, Value.string p.high, Value.bool p.last, Value.int IntKind.i64 p.side, Value.slice A ni c, Value.slice A' nk c'] from ⟨hJ.be, hb1⟩)
      clear hb1 e1 hall hJ
      simp only [over, List.foldl_cons, List.foldl_nil, Act.put, List.setIfInBounds_toArray, List.set_cons_succ, List.set_cons_zero, H8]
      go_wp2
      go_meet
      exact ⟨rfl, HALL⟩
  case rest =>
    obtain ⟨rfl, hcut⟩ := hcut
    obtain ⟨hbe, hr⟩ := hcut.out
    go_wp2
    exact bodyPost_ret (v := .tuple #[.agg #[Value.int IntKind.i64 lv, Value.string p.low, Value.string p.high, Value.bool p.last, Value.int IntKind.i64 p.side, Value.slice A ni c, Value.slice A' nk c'], .int .i64 pc]) (results_row2 rfl _ _ (w.heap.size + 2) _ _ _ _ rfl hr Tryz.underlying27 rfl (by kernel_rfl) rfl) rfl (⟨rfl, hbe⟩)
end Go.Proofs.YtjbdmaehomhdeaaGreat
