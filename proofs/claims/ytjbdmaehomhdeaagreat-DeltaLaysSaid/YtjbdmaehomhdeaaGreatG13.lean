/- delta.Apply. -/
import Derived.Test.YtjbdmaehomhdeaaGreatZI
set_option linter.unusedSimpArgs false
set_option linter.unusedVariables false
namespace Go.Proofs.YtjbdmaehomhdeaaGreat
open Go.RowKit

def Page.cellsV (p : Page) (A : Option Addr) (c : Nat) (A' : Option Addr) (c' : Nat) : Array Value := #[.int .i64 p.level, .string p.low, .string p.high, .bool p.last, .int .i64 p.side, .slice A p.items.length c, .slice A' p.kids.length c']
theorem Page.val_eq (p : Page) (A : Option Addr) (c : Nat) (A' : Option Addr) (c' : Nat) : p.val A c A' c' = .agg (p.cellsV A c A' c') := rfl
/-- a kind of change: its dynamic type and value, its method, what it makes of the page -/
structure OnOk (p : Page) (d : Delta) (C C' : Option Addr) (b b' lo' : Nat) (T : TypeId) (v : Value) (isr : Bool) (f : FuncId) (q : Page) (n : Int) : Prop where
  of_ : ∀ (W : World), Calls Tryz.prog 30 #[d.val C b C' b'] W (fun e w' => e = .returned (.iface T v) ∧ Below W.heap.size W w')
  asr : ∃ r : Int, ∀ W, (Instr.typeAssert (.iface T v) 64 77 true).run Tryz.prog W = .ok (.tuple #[.agg #[.int .i64 r], .bool isr]) W
  cm : ∀ pv W, (callMethod (.iface T v) "pollard/delta.on" #[pv]).run Tryz.prog W = .ok (.enter f #[v, pv]) W
  on : ∀ (A A' : Option Addr) (c c' lo : Nat) (W : World), Pg W lo W.heap.size p A A' c c' → Pg W lo' W.heap.size d.right C C' b b' → Calls Tryz.prog f #[v, p.val A c A' c'] W (fun e w' => ∃ B B' h h' lo2, e = .returned (.tuple #[q.val B h B' h', .int .i64 n]) ∧ (isr = false → W.heap.size ≤ lo2) ∧ (isr = true → lo2 = lo) ∧ Pg w' lo2 w'.heap.size q B B' h h' ∧ Below W.heap.size W w')

set_option maxRecDepth 100000 in
set_option maxHeartbeats 20000000 in
theorem apply_core_no (p : Page) (d : Delta) (A A' C C' : Option Addr) (c c' b b' lo lo' : Nat) (w : World) (hp : Pg w lo w.heap.size p A A' c c') (hd : Pg w lo' w.heap.size d.right C C' b b') (hok : p.ok = true) (hmay : d.mayB = true)
    (T : TypeId) (v : Value) (f : FuncId) (q : Page) (n : Int) (ho : OnOk p d C C' b b' lo' T v false f q n) :
    Calls Tryz.prog 19 #[p.val A c A' c', d.val C b C' b'] w (PostPg w q n) := by
  have HCH := Lib.hid (fun w1 h => page_Check p A A' c c' lo w1 h)
  have HMY := Lib.hid (fun w1 h => delta_may d C C' b b' lo' w1 h)
  have HFEW := Lib.hid (Page.Fine.items_few (Page.Fine.of_ok hok))
  have HC : Hid (p.check = 0) := Lib.hid (by unfold Page.check; rw [hok]; rfl)
  have HM := Lib.hid hmay
  have HO := Lib.hid ho
  have HOF := Lib.hid ho.of_
  have HPV : Hid (∀ (X Y : Option Addr) (x y : Nat), p.val X x Y y = p.val X x Y y) := Lib.hid (fun _ _ _ _ => rfl)
  have HON := Lib.hid (fun X X' x x' l W h1 h2 => ho.on X X' x x' l W h1 h2)
  have HCI := Lib.hid (fun w1 h => clone_item A c lo p.items w1 h (by have := HFEW.out.1; omega))
  have HCK := Lib.hid (fun w1 h => clone_kid A' c' lo p.kids w1 h (by have := HFEW.out.2; omega))
  have H1 := Lib.hid hp
  have H2 := Lib.hid hd
  have HAS := Lib.hid ho.asr
  clear hp hd hok hmay ho HPV
  unfold Page.val Page.raw at HCH HON
  unfold Delta.val at HMY HOF
  unfold Page.val Page.raw Delta.val
  obtain ⟨ni, hni⟩ : ∃ n, n = p.items.length := ⟨_, rfl⟩
  obtain ⟨nk, hnk⟩ : ∃ n, n = p.kids.length := ⟨_, rfl⟩
  obtain ⟨ri, hri⟩ : ∃ n, n = d.right.items.length := ⟨_, rfl⟩
  obtain ⟨rk, hrk⟩ : ∃ n, n = d.right.kids.length := ⟨_, rfl⟩
  obtain ⟨lv, hlv⟩ : ∃ n, n = p.level := ⟨_, rfl⟩
  rw [← hni, ← hnk, ← hlv, ← hri, ← hrk]
  rw [← hni, ← hnk, ← hlv] at HCH
  rw [← hni] at HCI
  rw [← hnk] at HCK
  rw [← hni, ← hnk, ← hlv] at HON
  rw [← hri, ← hrk] at HMY HOF
  have HNI := Lib.hid hni
  have HNK := Lib.hid hnk
  clear hni hnk hlv hri hrk
  have hF := Fr.three w 27 29 27 #[Value.int IntKind.i64 lv, Value.string p.low, Value.string p.high, Value.bool p.last, Value.int IntKind.i64 p.side, Value.slice A ni c, Value.slice A' nk c'] #[Value.int IntKind.i64 d.kind, Value.string d.item.key, Value.string d.item.value, Value.int IntKind.i64 d.item.no, Value.bool d.item.gone, Value.string d.key, Value.int IntKind.i64 d.page, Value.int IntKind.i64 d.right.level, Value.string d.right.low, Value.string d.right.high, Value.bool d.right.last, Value.int IntKind.i64 d.right.side, Value.slice C ri b, Value.slice C' rk b'] #[Value.int IntKind.i64 0, Value.string { data := #[] }, Value.string { data := #[] }, Value.bool false, Value.int IntKind.i64 0, Value.slice none 0 0, Value.slice none 0 0]
  go_enter Tryz.func19, Tryz.ntmps19
  go_upto_region 1 with (fail)
  generalize ((w.alloc (.cells #[Value.int IntKind.i64 lv, Value.string p.low, Value.string p.high, Value.bool p.last, Value.int IntKind.i64 p.side, Value.slice A ni c, Value.slice A' nk c'] 27)).alloc (.cells #[Value.int IntKind.i64 d.kind, Value.string d.item.key, Value.string d.item.value, Value.int IntKind.i64 d.item.no, Value.bool d.item.gone, Value.string d.key, Value.int IntKind.i64 d.page, Value.int IntKind.i64 d.right.level, Value.string d.right.low, Value.string d.right.high, Value.bool d.right.last, Value.int IntKind.i64 d.right.side, Value.slice C ri b, Value.slice C' rk b'] 29)).alloc (.cells #[Value.int IntKind.i64 0, Value.string { data := #[] }, Value.string { data := #[] }, Value.bool false, Value.int IntKind.i64 0, Value.slice none 0 0, Value.slice none 0 0] 27) = w0 at *
  have HF0 := Lib.hid hF
  clear hF
  go_wp2_with (refine wpList_load_row rfl 27 _ rfl (w.heap.size) rfl 27 _ (0, 0) _ HF0.out.b0 Tryz.underlying27 rfl (by kernel_rfl) ?_)
  refine (HCH.out w0 ((H1.out.below HF0.out.be).mono (Nat.le_refl _) HF0.out.be.size)).mono ?_
  rw [HC.out]
  rintro e w1 ⟨rfl, hb1⟩
  have HF1 := Lib.hid (HF0.out.on hb1)
  clear hb1
  go_wp2_with (refine wpList_load_row rfl 29 _ rfl (w.heap.size + 1) rfl 29 _ (0, 0) _ HF1.out.b1 Tryz.underlying29 rfl (by kernel_rfl) ?_)
  refine (HMY.out w1 ((H2.out.below HF1.out.be).mono (Nat.le_refl _) HF1.out.be.size)).mono ?_
  rw [HM.out]
  rintro e w2 ⟨rfl, hb2⟩
  have HF2 := Lib.hid (HF1.out.on hb2)
  clear hb2
  go_wp2_with (refine wpList_load_row rfl 29 _ rfl (w.heap.size + 1) rfl 29 _ (0, 0) _ HF2.out.b1 Tryz.underlying29 rfl (by kernel_rfl) ?_)
  refine (HOF.out w2).mono ?_
  rintro e w3 ⟨rfl, hb3⟩
  have HF3 := Lib.hid (HF2.out.on hb3)
  clear hb3
  obtain ⟨r3, as3⟩ := HAS.out
  go_upto_region 7 with (fail)
  have hs3 := HF3.out.sz
  simp only [List.length_cons, List.length_nil] at hs3
  have HF4 : Hid (Fr w (w3.alloc (.cells #[Value.int IntKind.i64 r3] 77)) [(27, #[Value.int IntKind.i64 lv, Value.string p.low, Value.string p.high, Value.bool p.last, Value.int IntKind.i64 p.side, Value.slice A ni c, Value.slice A' nk c']), (29, #[Value.int IntKind.i64 d.kind, Value.string d.item.key, Value.string d.item.value, Value.int IntKind.i64 d.item.no, Value.bool d.item.gone, Value.string d.key, Value.int IntKind.i64 d.page, Value.int IntKind.i64 d.right.level, Value.string d.right.low, Value.string d.right.high, Value.bool d.right.last, Value.int IntKind.i64 d.right.side, Value.slice C ri b, Value.slice C' rk b']), (27, #[Value.int IntKind.i64 0, Value.string { data := #[] }, Value.string { data := #[] }, Value.bool false, Value.int IntKind.i64 0, Value.slice none 0 0, Value.slice none 0 0])]) := Lib.hid (HF3.out.later _)
  generalize w3.alloc (.cells #[Value.int IntKind.i64 r3] 77) = w4 at *
  clear HF0 HF1 HF2 HF3 hs3
  go_upto_region 9 with (fail)
  go_cut [5] (fun v5 wx => v5 = .int .i64 n ∧ Hid (Below w.heap.size w wx ∧ ∃ B B' h h' l2, w.heap.size + 3 ≤ l2 ∧ Pg wx l2 wx.heap.size q B B' h h' ∧ Blk wx (w.heap.size + 2) 27 (q.cellsV B h B' h')))
  case first =>
    refine wp_region_inv (by kernel_rfl) [34, 35, 36, 37, 38, 39, 5] (ApJ w w4 3 27 29 #[Value.int IntKind.i64 d.kind, Value.string d.item.key, Value.string d.item.value, Value.int IntKind.i64 d.item.no, Value.bool d.item.gone, Value.string d.key, Value.int IntKind.i64 d.page, Value.int IntKind.i64 d.right.level, Value.string d.right.low, Value.string d.right.high, Value.bool d.right.last, Value.int IntKind.i64 d.right.side, Value.slice C ri b, Value.slice C' rk b'] #[Value.int IntKind.i64 lv, Value.string p.low, Value.string p.high, Value.bool p.last, Value.int IntKind.i64 p.side, Value.slice A ni c, Value.slice A' nk c'] (.iface T v) q n) (gOrd_ok (by kernel_rfl)) ⟨HF4.out.drew1.be, by decide, HF4.out.drew1.sz, fun k _ _ => rfl, Nat.le_refl _, HF4.out.drew1.b0, HF4.out.drew1.b1, by simp, by simp, by simp, by simp, by simp, ⟨_, rfl, HF4.out.drew1.b2, by simp⟩, by simp, by simp, by simp⟩ ?_ ?_
    · intro i o ho D X W hJ hDi hdep
      rcases i with _ | _ | _ | _ | _ | _ | _ | _ | i
      all_goals simp only [List.getElem?_toArray, List.getElem?_cons_zero, List.getElem?_cons_succ, List.getElem?_nil, Option.some.injEq, reduceCtorEq] at ho
      · exact wp1_load_row ho 29 (.tmp 3) rfl rfl (w.heap.size + 1) (by rw [over_out (by decide)]; rfl) 29 _ _ hJ.bd Tryz.underlying29 rfl (by kernel_rfl) ⟨_, over_put (by decide) _, hJ.load0⟩
      · have d0 : D 0 = true := hdep ⟨0, .data⟩ (by rw [← ho]; simp) rfl
        exact wp1_call ho 30 #[.tmp 34] _ rfl rfl #[.agg #[Value.int IntKind.i64 d.kind, Value.string d.item.key, Value.string d.item.value, Value.int IntKind.i64 d.item.no, Value.bool d.item.gone, Value.string d.key, Value.int IntKind.i64 d.page, Value.int IntKind.i64 d.right.level, Value.string d.right.low, Value.string d.right.high, Value.bool d.right.last, Value.int IntKind.i64 d.right.side, Value.slice C ri b, Value.slice C' rk b']] (by simp only [List.map_toArray, List.map_cons, List.map_nil]; rw [over_in (by decide) (Nat.le_of_ble_eq_true rfl), hJ.l0 d0]) Tryz.func30 (by kernel_rfl) rfl (HOF.out W) (by
          rintro e w' ⟨rfl, hb⟩
          exact ⟨_, rfl, _, over_put (by decide) _, hJ.of1 hb⟩)
      · exact wp1_load_row ho 27 (.tmp 2) rfl rfl w.heap.size (by rw [over_out (by decide)]; rfl) 27 _ _ hJ.bp Tryz.underlying27 rfl (by kernel_rfl) ⟨_, over_put (by decide) _, hJ.load2⟩
      · have d1 : D 1 = true := hdep ⟨1, .data⟩ (by rw [← ho]; simp) rfl
        have d2 : D 2 = true := hdep ⟨2, .data⟩ (by rw [← ho]; simp) rfl
        exact wp1_invoke ho (.tmp 35) (.tmp 36) "pollard/delta.on" _ rfl rfl (.iface T v) (by rw [over_in (by decide) (Nat.le_of_ble_eq_true rfl), hJ.o1 d1]) (.agg #[Value.int IntKind.i64 lv, Value.string p.low, Value.string p.high, Value.bool p.last, Value.int IntKind.i64 p.side, Value.slice A ni c, Value.slice A' nk c']) (by rw [over_in (by decide) (Nat.le_of_ble_eq_true rfl), hJ.l2 d2]) f _ (HO.out.cm _ W) (HON.out A A' c c' lo W ((fun (h1 : Below w.heap.size w W) (_ : _) (_ : _) => (H1.out.below h1).mono (Nat.le_refl _) h1.size) hJ.be hJ.keep hJ.gt) ((H2.out.below hJ.be).mono (Nat.le_refl _) hJ.be.size)) (by
          rintro e w' ⟨B, B', h, h', l2, rfl, hl2, hl3, hq, hb⟩
          exact ⟨_, rfl, _, over_put (by decide) _, hJ.on3 hDi hb (Nat.le_trans hJ.sz (by simpa using hl2)) hq⟩)
      · have d3 : D 3 = true := hdep ⟨3, .data⟩ (by rw [← ho]; simp) rfl
        obtain ⟨B, B', h, h', l2, e37, hl2, hq, _⟩ := hJ.r3 d3
        exact wp1_extract ho (.tmp 37) 0 rfl rfl (by rw [over_in (by decide) (Nat.le_of_ble_eq_true rfl), e37]) rfl ⟨_, over_put (by decide) _, hJ.ext4 hDi e37 hl2 hq d3⟩
      · have d3 : D 3 = true := hdep ⟨3, .data⟩ (by rw [← ho]; simp) rfl
        obtain ⟨B, B', h, h', l2, e37, hl2, hq, _⟩ := hJ.r3 d3
        exact wp1_extract ho (.tmp 37) 1 rfl rfl (by rw [over_in (by decide) (Nat.le_of_ble_eq_true rfl), e37]) rfl ⟨_, over_put (by decide) _, hJ.ext5⟩
      · have d4 : D 4 = true := hdep ⟨4, .data⟩ (by rw [← ho]; simp) rfl
        obtain ⟨B, B', h, h', l2, e37, hl2, hq, e38⟩ := hJ.r3 (hJ.d4 d4)
        obtain ⟨cs, hcs, hB, _⟩ := hJ.s6
        have e38' := e38 d4
        rw [Page.val_eq] at e38'
        exact wp1_store_row ho 27 (.tmp 4) (.tmp 38) rfl rfl (w.heap.size + 2) (by rw [over_out (by decide)]; rfl) 27 _ cs (by rw [over_in (by decide) (Nat.le_of_ble_eq_true rfl), e38']) hB (by rw [hcs]; rfl) (by kernel_rfl) (List.all_eq_true.1 rfl) (fun w' hT hB' => ⟨X, rfl, hJ.store6 e38' rfl d4 hT hB'⟩)
      · have d5 : D 5 = true := hdep ⟨5, .data⟩ (by rw [← ho]; simp) rfl
        exact wp1_assign ho (.tmp 39) rfl rfl (by rw [over_in (by decide) (Nat.le_of_ble_eq_true rfl), hJ.x5 d5]) ⟨_, over_put (by decide) _, hJ.assign7⟩
    · intro D X W hJ hall
      have H8 := hJ.e7 (hall 7 (by decide))
      obtain ⟨B, B', h, h', l2, e37, hl2, hq, e38⟩ := hJ.r3 (hall 3 (by decide))
      obtain ⟨cs, hcs, hB, e6⟩ := hJ.s6
      have e38' := e38 (hall 4 (by decide))
      rw [Page.val_eq, e6 (hall 6 (by decide))] at e38'
      injection e38' with e38'
      subst e38'
      have HALL := Lib.hid (show Below w.heap.size w W ∧ ∃ B B' h h' l2, w.heap.size + 3 ≤ l2 ∧ Pg W l2 W.heap.size q B B' h h' ∧ Blk W (w.heap.size + 2) 27 (q.cellsV B h B' h') from ⟨hJ.be, B, B', h, h', l2, hl2, hq, hB⟩)
      clear e37 hl2 hq e38 hcs hB e6 hall hJ
      simp only [over, List.foldl_cons, List.foldl_nil, Act.put, List.setIfInBounds_toArray, List.set_cons_succ, List.set_cons_zero, H8]
      go_wp2
      go_meet
      exact ⟨rfl, HALL⟩
  case rest =>
    obtain ⟨rfl, hcut⟩ := hcut
    obtain ⟨hbe, B, B', h, h', l2, hl2, hq, hr⟩ := hcut.out
    go_wp2
    exact bodyPost_ret (v := .tuple #[.agg (q.cellsV B h B' h'), .int .i64 n]) (results_row2 rfl _ _ (w.heap.size + 2) _ _ _ _ rfl hr Tryz.underlying27 rfl (by kernel_rfl) rfl) rfl ⟨B, B', h, h', rfl, hq.mono (by omega) (Nat.le_refl _), hbe⟩

set_option maxRecDepth 100000 in
set_option maxHeartbeats 20000000 in
theorem apply_core_yes (p : Page) (d : Delta) (A A' C C' : Option Addr) (c c' b b' lo lo' : Nat) (w : World) (hp : Pg w lo w.heap.size p A A' c c') (hd : Pg w lo' w.heap.size d.right C C' b b') (hok : p.ok = true) (hmay : d.mayB = true)
    (T : TypeId) (v : Value) (f : FuncId) (q : Page) (n : Int) (ho : OnOk p d C C' b b' lo' T v true f q n) :
    Calls Tryz.prog 19 #[p.val A c A' c', d.val C b C' b'] w (PostPg w q n) := by
  have HCH := Lib.hid (fun w1 h => page_Check p A A' c c' lo w1 h)
  have HMY := Lib.hid (fun w1 h => delta_may d C C' b b' lo' w1 h)
  have HFEW := Lib.hid (Page.Fine.items_few (Page.Fine.of_ok hok))
  have HC : Hid (p.check = 0) := Lib.hid (by unfold Page.check; rw [hok]; rfl)
  have HM := Lib.hid hmay
  have HO := Lib.hid ho
  have HOF := Lib.hid ho.of_
  have HPV : Hid (∀ (X Y : Option Addr) (x y : Nat), p.val X x Y y = p.val X x Y y) := Lib.hid (fun _ _ _ _ => rfl)
  have HON := Lib.hid (fun X X' x x' l W h1 h2 => ho.on X X' x x' l W h1 h2)
  have HCI := Lib.hid (fun w1 h => clone_item A c lo p.items w1 h (by have := HFEW.out.1; omega))
  have HCK := Lib.hid (fun w1 h => clone_kid A' c' lo p.kids w1 h (by have := HFEW.out.2; omega))
  have H1 := Lib.hid hp
  have H2 := Lib.hid hd
  have HAS := Lib.hid ho.asr
  clear hp hd hok hmay ho HPV
  unfold Page.val Page.raw at HCH HON
  unfold Delta.val at HMY HOF
  unfold Page.val Page.raw Delta.val
  obtain ⟨ni, hni⟩ : ∃ n, n = p.items.length := ⟨_, rfl⟩
  obtain ⟨nk, hnk⟩ : ∃ n, n = p.kids.length := ⟨_, rfl⟩
  obtain ⟨ri, hri⟩ : ∃ n, n = d.right.items.length := ⟨_, rfl⟩
  obtain ⟨rk, hrk⟩ : ∃ n, n = d.right.kids.length := ⟨_, rfl⟩
  obtain ⟨lv, hlv⟩ : ∃ n, n = p.level := ⟨_, rfl⟩
  rw [← hni, ← hnk, ← hlv, ← hri, ← hrk]
  rw [← hni, ← hnk, ← hlv] at HCH
  rw [← hni] at HCI
  rw [← hnk] at HCK
  rw [← hni, ← hnk, ← hlv] at HON
  rw [← hri, ← hrk] at HMY HOF
  have HNI := Lib.hid hni
  have HNK := Lib.hid hnk
  clear hni hnk hlv hri hrk
  have hF := Fr.three w 27 29 27 #[Value.int IntKind.i64 lv, Value.string p.low, Value.string p.high, Value.bool p.last, Value.int IntKind.i64 p.side, Value.slice A ni c, Value.slice A' nk c'] #[Value.int IntKind.i64 d.kind, Value.string d.item.key, Value.string d.item.value, Value.int IntKind.i64 d.item.no, Value.bool d.item.gone, Value.string d.key, Value.int IntKind.i64 d.page, Value.int IntKind.i64 d.right.level, Value.string d.right.low, Value.string d.right.high, Value.bool d.right.last, Value.int IntKind.i64 d.right.side, Value.slice C ri b, Value.slice C' rk b'] #[Value.int IntKind.i64 0, Value.string { data := #[] }, Value.string { data := #[] }, Value.bool false, Value.int IntKind.i64 0, Value.slice none 0 0, Value.slice none 0 0]
  go_enter Tryz.func19, Tryz.ntmps19
  go_upto_region 1 with (fail)
  generalize ((w.alloc (.cells #[Value.int IntKind.i64 lv, Value.string p.low, Value.string p.high, Value.bool p.last, Value.int IntKind.i64 p.side, Value.slice A ni c, Value.slice A' nk c'] 27)).alloc (.cells #[Value.int IntKind.i64 d.kind, Value.string d.item.key, Value.string d.item.value, Value.int IntKind.i64 d.item.no, Value.bool d.item.gone, Value.string d.key, Value.int IntKind.i64 d.page, Value.int IntKind.i64 d.right.level, Value.string d.right.low, Value.string d.right.high, Value.bool d.right.last, Value.int IntKind.i64 d.right.side, Value.slice C ri b, Value.slice C' rk b'] 29)).alloc (.cells #[Value.int IntKind.i64 0, Value.string { data := #[] }, Value.string { data := #[] }, Value.bool false, Value.int IntKind.i64 0, Value.slice none 0 0, Value.slice none 0 0] 27) = w0 at *
  have HF0 := Lib.hid hF
  clear hF
  go_wp2_with (refine wpList_load_row rfl 27 _ rfl (w.heap.size) rfl 27 _ (0, 0) _ HF0.out.b0 Tryz.underlying27 rfl (by kernel_rfl) ?_)
  refine (HCH.out w0 ((H1.out.below HF0.out.be).mono (Nat.le_refl _) HF0.out.be.size)).mono ?_
  rw [HC.out]
  rintro e w1 ⟨rfl, hb1⟩
  have HF1 := Lib.hid (HF0.out.on hb1)
  clear hb1
  go_wp2_with (refine wpList_load_row rfl 29 _ rfl (w.heap.size + 1) rfl 29 _ (0, 0) _ HF1.out.b1 Tryz.underlying29 rfl (by kernel_rfl) ?_)
  refine (HMY.out w1 ((H2.out.below HF1.out.be).mono (Nat.le_refl _) HF1.out.be.size)).mono ?_
  rw [HM.out]
  rintro e w2 ⟨rfl, hb2⟩
  have HF2 := Lib.hid (HF1.out.on hb2)
  clear hb2
  go_wp2_with (refine wpList_load_row rfl 29 _ rfl (w.heap.size + 1) rfl 29 _ (0, 0) _ HF2.out.b1 Tryz.underlying29 rfl (by kernel_rfl) ?_)
  refine (HOF.out w2).mono ?_
  rintro e w3 ⟨rfl, hb3⟩
  have HF3 := Lib.hid (HF2.out.on hb3)
  clear hb3
  obtain ⟨r3, as3⟩ := HAS.out
  go_upto_region 7 with (fail)
  have hs3 := HF3.out.sz
  simp only [List.length_cons, List.length_nil] at hs3
  have HF4 : Hid (Fr w (w3.alloc (.cells #[Value.int IntKind.i64 r3] 77)) [(27, #[Value.int IntKind.i64 lv, Value.string p.low, Value.string p.high, Value.bool p.last, Value.int IntKind.i64 p.side, Value.slice A ni c, Value.slice A' nk c']), (29, #[Value.int IntKind.i64 d.kind, Value.string d.item.key, Value.string d.item.value, Value.int IntKind.i64 d.item.no, Value.bool d.item.gone, Value.string d.key, Value.int IntKind.i64 d.page, Value.int IntKind.i64 d.right.level, Value.string d.right.low, Value.string d.right.high, Value.bool d.right.last, Value.int IntKind.i64 d.right.side, Value.slice C ri b, Value.slice C' rk b']), (27, #[Value.int IntKind.i64 0, Value.string { data := #[] }, Value.string { data := #[] }, Value.bool false, Value.int IntKind.i64 0, Value.slice none 0 0, Value.slice none 0 0])]) := Lib.hid (HF3.out.later _)
  generalize w3.alloc (.cells #[Value.int IntKind.i64 r3] 77) = w4 at *
  clear HF0 HF1 HF2 HF3 hs3
  go_upto_region 8 with (fail)
  go_cut [] (fun wx => Hid (∃ E E' d0 d0', Fr w wx [(27, #[Value.int IntKind.i64 lv, Value.string p.low, Value.string p.high, Value.bool p.last, Value.int IntKind.i64 p.side, Value.slice E ni d0, Value.slice E' nk d0']), (29, #[Value.int IntKind.i64 d.kind, Value.string d.item.key, Value.string d.item.value, Value.int IntKind.i64 d.item.no, Value.bool d.item.gone, Value.string d.key, Value.int IntKind.i64 d.page, Value.int IntKind.i64 d.right.level, Value.string d.right.low, Value.string d.right.high, Value.bool d.right.last, Value.int IntKind.i64 d.right.side, Value.slice C ri b, Value.slice C' rk b']), (27, #[Value.int IntKind.i64 0, Value.string { data := #[] }, Value.string { data := #[] }, Value.bool false, Value.int IntKind.i64 0, Value.slice none 0 0, Value.slice none 0 0])] ∧ OwnItem wx (w.heap.size + 3) (.slice E ni d0) p.items ∧ OwnKid wx (w.heap.size + 3) (.slice E' nk d0') p.kids))
  case first =>
    refine wp_region_inv (by kernel_rfl) [26, 27, 28, 29, 30, 31, 32, 33] (CnJ w w4.drew 3 27 (.slice A ni c) (.slice A' nk c') (fun u5 u6 => #[Value.int IntKind.i64 lv, Value.string p.low, Value.string p.high, Value.bool p.last, Value.int IntKind.i64 p.side, u5, u6]) p.items p.kids) (gOrd_ok (by kernel_rfl)) ⟨HF4.out.drew1.be, HF4.out.drew1.sz, by decide, fun _ _ _ => rfl, by simp, by simp, by simp, by simp, by simp, by simp, by simp, by simp, ⟨_, _, HF4.out.drew1.b0, by simp, fun _ => rfl, by simp, fun _ => rfl⟩, by simp, by simp, by simp, by simp⟩ ?_ ?_
    · intro i o ho D X W hJ hDi hdep
      rcases i with _ | _ | _ | _ | _ | _ | _ | _ | _ | _ | i
      all_goals simp only [List.getElem?_toArray, List.getElem?_cons_zero, List.getElem?_cons_succ, List.getElem?_nil, Option.some.injEq, reduceCtorEq] at ho
      · exact wp1_addr ho 27 (.tmp 2) 5 rfl rfl (v := .pointer (some ⟨w.heap.size, 0, none⟩)) (by rw [over_out (by decide)]; rfl) (by kernel_rfl) ⟨_, over_put (by decide) _, hJ.addr0⟩
      · have d0 : D 0 = true := hdep ⟨0, .data⟩ (by rw [← ho]; simp) rfl
        obtain ⟨u5, u6, hB, _, h7, _⟩ := hJ.b
        have hu := h7 (hJ.no7 (hJ.no2 hDi))
        subst hu
        have k5 : W.cell? ⟨w.heap.size, 5, none⟩ = some (.slice A ni c) := hB.cell 5
        exact wp1_load_cell ho 24 (.tmp 26) rfl rfl (by rw [over_in (by decide) (Nat.le_of_ble_eq_true rfl), hJ.f0 d0]) (v := .slice A ni c) (by go_simp) ⟨_, over_put (by decide) _, hJ.load1⟩
      · have d1 : D 1 = true := hdep ⟨1, .data⟩ (by rw [← ho]; simp) rfl
        exact wp1_call ho 41 #[.tmp 27] _ rfl rfl #[.slice A ni c] (by simp only [List.map_toArray, List.map_cons, List.map_nil]; rw [over_in (by decide) (Nat.le_of_ble_eq_true rfl), hJ.l1 d1]) Tryz.func41 (by kernel_rfl) rfl (HCI.out W ((H1.out.items.below hJ.be).mono (Nat.le_refl _) hJ.be.size)) (by
          rintro e w' ⟨v, rfl, hO, hb⟩
          exact ⟨_, rfl, _, over_put (by decide) _, hJ.call2 hDi d1 hb hO⟩)
      · exact wp1_addr ho 27 (.tmp 2) 6 rfl rfl (v := .pointer (some ⟨w.heap.size, 0, none⟩)) (by rw [over_out (by decide)]; rfl) (by kernel_rfl) ⟨_, over_put (by decide) _, hJ.addr3⟩
      · have d3 : D 3 = true := hdep ⟨3, .data⟩ (by rw [← ho]; simp) rfl
        obtain ⟨u5, u6, hB, _, _, _, h9⟩ := hJ.b
        have hu := h9 (hJ.no9 (hJ.no5 hDi))
        subst hu
        have k6 : W.cell? ⟨w.heap.size, 6, none⟩ = some (.slice A' nk c') := hB.cell 6
        exact wp1_load_cell ho 25 (.tmp 29) rfl rfl (by rw [over_in (by decide) (Nat.le_of_ble_eq_true rfl), hJ.f3 d3]) (v := .slice A' nk c') (by go_simp) ⟨_, over_put (by decide) _, hJ.load4⟩
      · have d4 : D 4 = true := hdep ⟨4, .data⟩ (by rw [← ho]; simp) rfl
        exact wp1_call ho 42 #[.tmp 30] _ rfl rfl #[.slice A' nk c'] (by simp only [List.map_toArray, List.map_cons, List.map_nil]; rw [over_in (by decide) (Nat.le_of_ble_eq_true rfl), hJ.l4 d4]) Tryz.func42 (by kernel_rfl) rfl (HCK.out W ((H1.out.kids.below hJ.be).mono (Nat.le_refl _) hJ.be.size)) (by
          rintro e w' ⟨v, rfl, hO, hb⟩
          exact ⟨_, rfl, _, over_put (by decide) _, hJ.call5 hDi d4 hb hO⟩)
      · exact wp1_addr ho 27 (.tmp 2) 5 rfl rfl (v := .pointer (some ⟨w.heap.size, 0, none⟩)) (by rw [over_out (by decide)]; rfl) (by kernel_rfl) ⟨_, over_put (by decide) _, hJ.addr6⟩
      · have d6 : D 6 = true := hdep ⟨6, .data⟩ (by rw [← ho]; simp) rfl
        have d2 : D 2 = true := hdep ⟨2, .data⟩ (by rw [← ho]; simp) rfl
        obtain ⟨u5, u6, hB, _⟩ := hJ.b
        obtain ⟨E, dE, hX, _, _⟩ := (hJ.o2 d2).form
        have k5 : W.cell? ⟨w.heap.size, 5, none⟩ = some u5 := hB.cell 5
        have g5 : W.frozen? ⟨w.heap.size, 5, none⟩ = false := hB.frozen 5
        exact wp1_store_cell ho 24 (.tmp 32) (.tmp 28) rfl rfl (by rw [over_in (by decide) (Nat.le_of_ble_eq_true rfl), hJ.f6 d6]) (by rw [over_in (by decide) (Nat.le_of_ble_eq_true rfl)]) (w' := W.setCell ⟨w.heap.size, 5, none⟩ (X 28)) (by rw [hX]; go_simp) ⟨X, rfl, hJ.store7 d2 (fun _ _ _ => rfl)⟩
      · exact wp1_addr ho 27 (.tmp 2) 6 rfl rfl (v := .pointer (some ⟨w.heap.size, 0, none⟩)) (by rw [over_out (by decide)]; rfl) (by kernel_rfl) ⟨_, over_put (by decide) _, hJ.addr8⟩
      · have d8 : D 8 = true := hdep ⟨8, .data⟩ (by rw [← ho]; simp) rfl
        have d5 : D 5 = true := hdep ⟨5, .data⟩ (by rw [← ho]; simp) rfl
        obtain ⟨u5, u6, hB, _⟩ := hJ.b
        obtain ⟨E, dE, hX, _, _⟩ := (hJ.o5 d5).form
        have k6 : W.cell? ⟨w.heap.size, 6, none⟩ = some u6 := hB.cell 6
        have g6 : W.frozen? ⟨w.heap.size, 6, none⟩ = false := hB.frozen 6
        exact wp1_store_cell ho 25 (.tmp 33) (.tmp 31) rfl rfl (by rw [over_in (by decide) (Nat.le_of_ble_eq_true rfl), hJ.f8 d8]) (by rw [over_in (by decide) (Nat.le_of_ble_eq_true rfl)]) (w' := W.setCell ⟨w.heap.size, 6, none⟩ (X 31)) (by rw [hX]; go_simp) ⟨X, rfl, hJ.store9 d5 (fun _ _ _ => rfl)⟩
    · intro D X W hJ hall
      have ho2 := hJ.o2 (hall 2 (by decide))
      have ho5 := hJ.o5 (hall 5 (by decide))
      obtain ⟨E, dE, hX, _, _⟩ := ho2.form
      obtain ⟨E', dE', hX', _, _⟩ := ho5.form
      rw [← HNI.out] at hX
      rw [← HNK.out] at hX'
      obtain ⟨u5, u6, hB, h7, _, h9, _⟩ := hJ.b
      have e7 := h7 (hall 7 (by decide))
      have e9 := h9 (hall 9 (by decide))
      rw [hX] at e7 ho2
      rw [hX'] at e9 ho5
      subst e7 e9
      have HALL := Lib.hid (show ∃ E E' d0 d0', Fr w W [(27, #[Value.int IntKind.i64 lv, Value.string p.low, Value.string p.high, Value.bool p.last, Value.int IntKind.i64 p.side, Value.slice E ni d0, Value.slice E' nk d0']), (29, #[Value.int IntKind.i64 d.kind, Value.string d.item.key, Value.string d.item.value, Value.int IntKind.i64 d.item.no, Value.bool d.item.gone, Value.string d.key, Value.int IntKind.i64 d.page, Value.int IntKind.i64 d.right.level, Value.string d.right.low, Value.string d.right.high, Value.bool d.right.last, Value.int IntKind.i64 d.right.side, Value.slice C ri b, Value.slice C' rk b']), (27, #[Value.int IntKind.i64 0, Value.string { data := #[] }, Value.string { data := #[] }, Value.bool false, Value.int IntKind.i64 0, Value.slice none 0 0, Value.slice none 0 0])] ∧ OwnItem W (w.heap.size + 3) (.slice E ni d0) p.items ∧ OwnKid W (w.heap.size + 3) (.slice E' nk d0') p.kids from ⟨E, E', dE, dE', ⟨hJ.be, hJ.sz, fun k t cs hk => by
        rcases k with _ | _ | _ | k
        · cases hk; exact hB
        · cases hk; exact (hJ.oth (w.heap.size + 1) (by omega) (by omega)).trans HF4.out.b1
        · cases hk; exact (hJ.oth (w.heap.size + 2) (by omega) (by omega)).trans HF4.out.b2
        · cases hk⟩, ho2, ho5⟩)
      clear ho2 ho5 hB h7 h9 hall hJ hX hX'
      simp only [over, List.foldl_cons, List.foldl_nil, Act.put, List.setIfInBounds_toArray, List.set_cons_succ, List.set_cons_zero]
      go_wp2
      go_meet
      exact HALL
  case rest =>
  obtain ⟨E, E', d0, d0', hF5, hI, hK⟩ := hcut.out
  have HF5 := Lib.hid hF5
  have HI := Lib.hid hI
  have HK := Lib.hid hK
  clear hcut hF5 hI hK
  have HPGP : Hid (∀ W, Below w.heap.size w W → (∀ k, w.heap.size + 3 ≤ k → k < wc.heap.size → W.heap[k]? = wc.heap[k]?) → wc.heap.size ≤ W.heap.size → Pg W (w.heap.size + 3) W.heap.size p E E' d0 d0') := Lib.hid fun W _ hk hs => by
    obtain ⟨B, x, e1, h1, h2⟩ := HI.out.form
    obtain ⟨B', x', e2, h3, h4⟩ := HK.out.form
    injection e1 with e1 _ e1'
    injection e2 with e2 _ e2'
    subst e1 e1' e2 e2'
    exact ⟨(h2.keep fun q h5 h6 => World.cell?_of_block (hk _ h5 h6)).mono (Nat.le_refl _) hs, (h4.keep fun q h5 h6 => World.cell?_of_block (hk _ h5 h6)).mono (Nat.le_refl _) hs, h1, h3, by have := HFEW.out.1; omega, by have := HFEW.out.2; omega⟩
  go_upto_region 9 with (fail)
  go_cut [5] (fun v5 wx => v5 = .int .i64 n ∧ Hid (Below w.heap.size w wx ∧ ∃ B B' h h' l2, w.heap.size + 3 ≤ l2 ∧ Pg wx l2 wx.heap.size q B B' h h' ∧ Blk wx (w.heap.size + 2) 27 (q.cellsV B h B' h')))
  case first =>
    refine wp_region_inv (by kernel_rfl) [34, 35, 36, 37, 38, 39, 5] (ApJ w wc.drew 3 27 29 #[Value.int IntKind.i64 d.kind, Value.string d.item.key, Value.string d.item.value, Value.int IntKind.i64 d.item.no, Value.bool d.item.gone, Value.string d.key, Value.int IntKind.i64 d.page, Value.int IntKind.i64 d.right.level, Value.string d.right.low, Value.string d.right.high, Value.bool d.right.last, Value.int IntKind.i64 d.right.side, Value.slice C ri b, Value.slice C' rk b'] #[Value.int IntKind.i64 lv, Value.string p.low, Value.string p.high, Value.bool p.last, Value.int IntKind.i64 p.side, Value.slice E ni d0, Value.slice E' nk d0'] (.iface T v) q n) (gOrd_ok (by kernel_rfl)) ⟨HF5.out.drew1.be, by decide, HF5.out.drew1.sz, fun k _ _ => rfl, Nat.le_refl _, HF5.out.drew1.b0, HF5.out.drew1.b1, by simp, by simp, by simp, by simp, by simp, ⟨_, rfl, HF5.out.drew1.b2, by simp⟩, by simp, by simp, by simp⟩ ?_ ?_
    · intro i o ho D X W hJ hDi hdep
      rcases i with _ | _ | _ | _ | _ | _ | _ | _ | i
      all_goals simp only [List.getElem?_toArray, List.getElem?_cons_zero, List.getElem?_cons_succ, List.getElem?_nil, Option.some.injEq, reduceCtorEq] at ho
      · exact wp1_load_row ho 29 (.tmp 3) rfl rfl (w.heap.size + 1) (by rw [over_out (by decide)]; rfl) 29 _ _ hJ.bd Tryz.underlying29 rfl (by kernel_rfl) ⟨_, over_put (by decide) _, hJ.load0⟩
      · have d0 : D 0 = true := hdep ⟨0, .data⟩ (by rw [← ho]; simp) rfl
        exact wp1_call ho 30 #[.tmp 34] _ rfl rfl #[.agg #[Value.int IntKind.i64 d.kind, Value.string d.item.key, Value.string d.item.value, Value.int IntKind.i64 d.item.no, Value.bool d.item.gone, Value.string d.key, Value.int IntKind.i64 d.page, Value.int IntKind.i64 d.right.level, Value.string d.right.low, Value.string d.right.high, Value.bool d.right.last, Value.int IntKind.i64 d.right.side, Value.slice C ri b, Value.slice C' rk b']] (by simp only [List.map_toArray, List.map_cons, List.map_nil]; rw [over_in (by decide) (Nat.le_of_ble_eq_true rfl), hJ.l0 d0]) Tryz.func30 (by kernel_rfl) rfl (HOF.out W) (by
          rintro e w' ⟨rfl, hb⟩
          exact ⟨_, rfl, _, over_put (by decide) _, hJ.of1 hb⟩)
      · exact wp1_load_row ho 27 (.tmp 2) rfl rfl w.heap.size (by rw [over_out (by decide)]; rfl) 27 _ _ hJ.bp Tryz.underlying27 rfl (by kernel_rfl) ⟨_, over_put (by decide) _, hJ.load2⟩
      · have d1 : D 1 = true := hdep ⟨1, .data⟩ (by rw [← ho]; simp) rfl
        have d2 : D 2 = true := hdep ⟨2, .data⟩ (by rw [← ho]; simp) rfl
        exact wp1_invoke ho (.tmp 35) (.tmp 36) "pollard/delta.on" _ rfl rfl (.iface T v) (by rw [over_in (by decide) (Nat.le_of_ble_eq_true rfl), hJ.o1 d1]) (.agg #[Value.int IntKind.i64 lv, Value.string p.low, Value.string p.high, Value.bool p.last, Value.int IntKind.i64 p.side, Value.slice E ni d0, Value.slice E' nk d0']) (by rw [over_in (by decide) (Nat.le_of_ble_eq_true rfl), hJ.l2 d2]) f _ (HO.out.cm _ W) (HON.out E E' d0 d0' (w.heap.size + 3) W ((fun (h1 : Below w.heap.size w W) (h2 : _) (h3 : _) => HPGP.out W h1 h2 h3) hJ.be hJ.keep hJ.gt) ((H2.out.below hJ.be).mono (Nat.le_refl _) hJ.be.size)) (by
          rintro e w' ⟨B, B', h, h', l2, rfl, hl2, hl3, hq, hb⟩
          exact ⟨_, rfl, _, over_put (by decide) _, hJ.on3 hDi hb (by rw [show l2 = w.heap.size + 3 by simpa using hl3]; exact Nat.le_refl _) hq⟩)
      · have d3 : D 3 = true := hdep ⟨3, .data⟩ (by rw [← ho]; simp) rfl
        obtain ⟨B, B', h, h', l2, e37, hl2, hq, _⟩ := hJ.r3 d3
        exact wp1_extract ho (.tmp 37) 0 rfl rfl (by rw [over_in (by decide) (Nat.le_of_ble_eq_true rfl), e37]) rfl ⟨_, over_put (by decide) _, hJ.ext4 hDi e37 hl2 hq d3⟩
      · have d3 : D 3 = true := hdep ⟨3, .data⟩ (by rw [← ho]; simp) rfl
        obtain ⟨B, B', h, h', l2, e37, hl2, hq, _⟩ := hJ.r3 d3
        exact wp1_extract ho (.tmp 37) 1 rfl rfl (by rw [over_in (by decide) (Nat.le_of_ble_eq_true rfl), e37]) rfl ⟨_, over_put (by decide) _, hJ.ext5⟩
      · have d4 : D 4 = true := hdep ⟨4, .data⟩ (by rw [← ho]; simp) rfl
        obtain ⟨B, B', h, h', l2, e37, hl2, hq, e38⟩ := hJ.r3 (hJ.d4 d4)
        obtain ⟨cs, hcs, hB, _⟩ := hJ.s6
        have e38' := e38 d4
        rw [Page.val_eq] at e38'
        exact wp1_store_row ho 27 (.tmp 4) (.tmp 38) rfl rfl (w.heap.size + 2) (by rw [over_out (by decide)]; rfl) 27 _ cs (by rw [over_in (by decide) (Nat.le_of_ble_eq_true rfl), e38']) hB (by rw [hcs]; rfl) (by kernel_rfl) (List.all_eq_true.1 rfl) (fun w' hT hB' => ⟨X, rfl, hJ.store6 e38' rfl d4 hT hB'⟩)
      · have d5 : D 5 = true := hdep ⟨5, .data⟩ (by rw [← ho]; simp) rfl
        exact wp1_assign ho (.tmp 39) rfl rfl (by rw [over_in (by decide) (Nat.le_of_ble_eq_true rfl), hJ.x5 d5]) ⟨_, over_put (by decide) _, hJ.assign7⟩
    · intro D X W hJ hall
      have H8 := hJ.e7 (hall 7 (by decide))
      obtain ⟨B, B', h, h', l2, e37, hl2, hq, e38⟩ := hJ.r3 (hall 3 (by decide))
      obtain ⟨cs, hcs, hB, e6⟩ := hJ.s6
      have e38' := e38 (hall 4 (by decide))
      rw [Page.val_eq, e6 (hall 6 (by decide))] at e38'
      injection e38' with e38'
      subst e38'
      have HALL := Lib.hid (show Below w.heap.size w W ∧ ∃ B B' h h' l2, w.heap.size + 3 ≤ l2 ∧ Pg W l2 W.heap.size q B B' h h' ∧ Blk W (w.heap.size + 2) 27 (q.cellsV B h B' h') from ⟨hJ.be, B, B', h, h', l2, hl2, hq, hB⟩)
      clear e37 hl2 hq e38 hcs hB e6 hall hJ
      simp only [over, List.foldl_cons, List.foldl_nil, Act.put, List.setIfInBounds_toArray, List.set_cons_succ, List.set_cons_zero, H8]
      go_wp2
      go_meet
      exact ⟨rfl, HALL⟩
  case rest =>
    obtain ⟨rfl, hcut⟩ := hcut
    obtain ⟨hbe, B, B', h, h', l2, hl2, hq, hr⟩ := hcut.out
    go_wp2
    exact bodyPost_ret (v := .tuple #[.agg (q.cellsV B h B' h'), .int .i64 n]) (results_row2 rfl _ _ (w.heap.size + 2) _ _ _ _ rfl hr Tryz.underlying27 rfl (by kernel_rfl) rfl) rfl ⟨B, B', h, h', rfl, hq.mono (by omega) (Nat.le_refl _), hbe⟩
end Go.Proofs.YtjbdmaehomhdeaaGreat
