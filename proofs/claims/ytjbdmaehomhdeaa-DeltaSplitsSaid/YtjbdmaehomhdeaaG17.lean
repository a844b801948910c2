/- delta.Find. -/
import Derived.Test.YtjbdmaehomhdeaaG16
namespace Go.Proofs.Ytjbdmaehomhdeaa
open Go.RowKit

noncomputable def findFits (l : List NV) (k : ByteArray) : Bool := !(decide (0 < (flatL l).1.level) || !((flatL l).1.covers k))
noncomputable def findE (l : List NV) (k : ByteArray) : Int := if (flatL l).2.2 = 0 then cond (findFits l k) 0 103 else (flatL l).2.2
noncomputable def findX (l : List NV) (k : ByteArray) : Option Item := if (flatL l).2.2 = 0 then cond (findFits l k) (findI (flatL l).1.items k) none else none
def PostFn (w : World) (x : Option Item) (n : Int) (e : Ending) (w' : World) : Prop := e = .returned (.tuple #[(x.getD Item.zero).val, .bool x.isSome, .int .i64 n]) ∧ Below w.heap.size w w'

set_option maxRecDepth 100000 in
set_option maxHeartbeats 20000000 in
theorem delta_Find (l : List NV) (A : Option Addr) (c lo : Nat) (k : ByteArray) (w : World) (hN : Nodes w lo w.heap.size A l) (hc : l.length ≤ c) (hl : l.length ≤ 140737488351232) :
    Calls Try.prog 19 #[.slice A l.length c, .string k] w (PostFn w (findX l k) (findE l k)) := by
  have HFL := Lib.hid (fun (W : World) (h : Below w.heap.size w W) => delta_Flat l A c lo W ⟨(hN.row.below h).mono (Nat.le_refl _) h.size, fun x hx => ⟨((hN.by_ x hx).1.below h).mono (Nat.le_refl _) h.size, (hN.by_ x hx).2⟩⟩ hc hl)
  clear hN hc hl
  obtain ⟨ln, hln⟩ : ∃ n, n = l.length := ⟨_, rfl⟩
  rw [← hln]
  rw [← hln] at HFL
  clear hln
  have hF := Fr.one w 39 #[Value.string { data := #[] }, Value.string { data := #[] }, Value.int IntKind.i64 0, Value.bool false]
  go_enter Try.func19, Try.ntmps19
  go_upto_region 1 with (fail)
  generalize w.alloc (.cells #[Value.string { data := #[] }, Value.string { data := #[] }, Value.int IntKind.i64 0, Value.bool false] 39) = w0 at *
  have HF0 := Lib.hid hF
  clear hF
  go_wp2_with fail
  refine (HFL.out w0 HF0.out.be).mono ?_
  rintro e w1 ⟨B, B', b, b', rfl, hP, hb1⟩
  obtain ⟨q, hq⟩ : ∃ q, q = (flatL l).1 := ⟨_, rfl⟩
  obtain ⟨fz, hfz⟩ : ∃ q, q = (flatL l).2.1 := ⟨_, rfl⟩
  obtain ⟨ec, hec⟩ : ∃ q, q = (flatL l).2.2 := ⟨_, rfl⟩
  rw [← hq] at hP
  rw [← hq, ← hfz, ← hec]
  have HQ := Lib.hid hq
  have HEC := Lib.hid hec
  have HPG := Lib.hid hP
  have HF1 := Lib.hid (HF0.out.on hb1)
  have hs0 := HF0.out.sz
  simp only [List.length_cons, List.length_nil] at hs0
  have hs1 : w0.heap.size ≤ w1.heap.size := hb1.size
  clear hq hec hfz hP hb1
  have HCV := Lib.hid (fun n1 n2 w1 => page_Covers q B B' n1 b n2 b' k w1)
  have HFD := Lib.hid (fun (w2 : World) (h : Pg w2 w0.heap.size w2.heap.size q B B' b b') => page_Find q B B' b b' w0.heap.size k w2 h)
  unfold Page.val Page.raw at HFD
  unfold Page.val Page.raw
  obtain ⟨ni, hni⟩ : ∃ n, n = q.items.length := ⟨_, rfl⟩
  obtain ⟨nk, hnk⟩ : ∃ n, n = q.kids.length := ⟨_, rfl⟩
  rw [← hni, ← hnk]
  rw [← hni, ← hnk] at HFD
  clear hni hnk
  have HZ7 : Hid (Blk (w1.alloc (.cells #[Value.int IntKind.i64 0, Value.string { data := #[] }, Value.string { data := #[] }, Value.bool false, Value.int IntKind.i64 0, Value.slice none 0 0, Value.slice none 0 0] 27)) w1.heap.size 27 #[Value.int IntKind.i64 0, Value.string { data := #[] }, Value.string { data := #[] }, Value.bool false, Value.int IntKind.i64 0, Value.slice none 0 0, Value.slice none 0 0]) := Lib.hid (Blk.new _ _ _)
  have HAR : Hid (∀ w2, Turned (w1.alloc (.cells #[Value.int IntKind.i64 0, Value.string { data := #[] }, Value.string { data := #[] }, Value.bool false, Value.int IntKind.i64 0, Value.slice none 0 0, Value.slice none 0 0] 27)) w2 w1.heap.size → Fr w w2 [(39, #[Value.string { data := #[] }, Value.string { data := #[] }, Value.int IntKind.i64 0, Value.bool false])] ∧ Pg w2 w0.heap.size w2.heap.size q B B' b b' ∧ w2.heap.size = w1.heap.size + 1) := Lib.hid fun w2 hT => by
    have hsz : (w1.alloc (.cells #[Value.int IntKind.i64 0, Value.string { data := #[] }, Value.string { data := #[] }, Value.bool false, Value.int IntKind.i64 0, Value.slice none 0 0, Value.slice none 0 0] 27)).heap.size = w1.heap.size + 1 := by simp
    have hB : Below w1.heap.size w1 w2 := hT.below ((Below.refl _ _).alloc (Nat.le_refl _) _) (Nat.le_refl _) (by rw [hsz]; omega)
    exact ⟨HF1.out.on hB, (HPG.out.below hB).mono (Nat.le_refl _) hB.size, by rw [hT.sz, hsz]⟩
  by_cases he : ec = 0
  · subst he
    go_upto_region 4 with (refine wpList_store_row rfl 27 _ _ rfl rfl (w1.heap.size) rfl _ _ _ rfl HZ7.out rfl (by kernel_rfl) (List.all_eq_true.1 rfl) ?_; rintro w2 hT2 hB2)
    obtain ⟨hF2, hP2, hs2⟩ := HAR.out w2 hT2
    have HF2 := Lib.hid hF2
    have HP2 := Lib.hid hP2
    have HB2 := Lib.hid hB2
    clear hF2 hP2 hT2 hB2
    obtain ⟨cv, hcv⟩ : ∃ v, v = q.covers k := ⟨_, rfl⟩
    rw [← hcv] at HCV
    have HCVE := Lib.hid hcv
    clear hcv
    obtain ⟨z0, z1, z2, z3, z4, z5, z6⟩ := Blk.cells7 HB2.out
    have HFI : Hid (findE l k = cond (!(decide (0 < q.level) || !cv)) 0 103 ∧ findX l k = cond (!(decide (0 < q.level) || !cv)) (findI q.items k) none) := Lib.hid (by
      unfold findE findX findFits
      rw [← HEC.out, if_pos rfl, if_pos rfl, ← HQ.out, ← HCVE.out]
      exact ⟨rfl, rfl⟩)
    obtain ⟨g7, hg7⟩ : ∃ g, g = w1.heap.size := ⟨_, rfl⟩
    rw [← hg7] at HB2 z0 z1 z2 z3 z4 z5 z6 hs2
    rw [← hg7]
    have hg71 : w.heap.size + 1 ≤ g7 := by omega
    clear hg7 HZ7 HAR
    by_cases hlv : (0 : Int) < q.level
    · have HFJ : Hid (findE l k = 103 ∧ findX l k = none) := Lib.hid (by rw [HFI.out.1, HFI.out.2, decide_eq_true hlv]; exact ⟨rfl, rfl⟩)
      go_wp2_with (refine wpList_store_row rfl 39 _ _ rfl rfl (w.heap.size) rfl _ _ _ rfl HF2.out.b0 rfl (by kernel_rfl) (List.all_eq_true.1 rfl) ?_; rintro wE hTE hBE)
      exact bodyPost_ret (v := .tuple #[.agg #[Value.string { data := #[] }, Value.string { data := #[] }, Value.int IntKind.i64 0, Value.bool false], .bool false, .int .i64 103]) (by
          have e := run_loadVar_row (P := Try.prog) wE w.heap.size 39 39 _ (0, 0) _ hBE Try.underlying39 rfl (by kernel_rfl)
          simp [results, Try.results19, asAddr, e]) rfl (by rw [HFJ.out.1, HFJ.out.2]; exact ⟨rfl, hTE.below HF2.out.be (Nat.le_refl _) HF2.out.be.size⟩)
    · cases hcv2 : cv with
      | false =>
        have HFJ : Hid (findE l k = 103 ∧ findX l k = none) := Lib.hid (by rw [HFI.out.1, HFI.out.2, hcv2, Bool.not_false, Bool.or_true]; exact ⟨rfl, rfl⟩)
        rw [hcv2] at HCV
        clear HFI
        go_wp2_with (first | (refine wpList_store_row rfl 39 _ _ rfl rfl (w.heap.size) rfl _ _ _ rfl HF3.out.b0 rfl (by kernel_rfl) (List.all_eq_true.1 rfl) ?_; rintro wE hTE hBE) | (go_at_call 44; refine (HCV.out _ _ _).mono ?_; rintro e w3 ⟨rfl, hb3⟩; have HF3 := Lib.hid (HF2.out.on hb3); clear hb3))
        exact bodyPost_ret (v := .tuple #[.agg #[Value.string { data := #[] }, Value.string { data := #[] }, Value.int IntKind.i64 0, Value.bool false], .bool false, .int .i64 103]) (by
          have e := run_loadVar_row (P := Try.prog) wE w.heap.size 39 39 _ (0, 0) _ hBE Try.underlying39 rfl (by kernel_rfl)
          simp [results, Try.results19, asAddr, e]) rfl (by rw [HFJ.out.1, HFJ.out.2]; exact ⟨rfl, hTE.below HF3.out.be (Nat.le_refl _) HF3.out.be.size⟩)
      | true =>
        have HFJ : Hid (findE l k = 0 ∧ findX l k = findI q.items k) := Lib.hid (by rw [HFI.out.1, HFI.out.2, hcv2, decide_eq_false hlv]; exact ⟨rfl, rfl⟩)
        rw [hcv2] at HCV
        clear HFI
        go_upto_region 6 with (go_at_call 44; refine (HCV.out _ _ _).mono ?_; rintro e w3 ⟨rfl, hb3⟩; have HF3 := Lib.hid (HF2.out.on hb3); have HP3 := Lib.hid ((HP2.out.below hb3).mono (Nat.le_refl _) hb3.size); have HB3 := Lib.hid (HB2.out.below hb3 HB2.out.lt); clear hb3)
        clear z0 z1 z2 z3 z4 z5 z6
        go_wp2_with (refine wpList_load_row rfl 27 _ rfl g7 rfl 27 _ (0, 0) _ HB3.out Try.underlying27 rfl (by kernel_rfl) ?_)
        refine (HFD.out w3 HP3.out).mono ?_
        rintro e w4 ⟨rfl, hb4⟩
        have HF4 := Lib.hid (HF3.out.on hb4)
        clear hb4
        obtain ⟨y, hy⟩ : ∃ y, y = (findI q.items k).getD Item.zero := ⟨_, rfl⟩
        obtain ⟨iy, hiy⟩ : ∃ y, y = (findI q.items k).isSome := ⟨_, rfl⟩
        rw [← hy, ← hiy]
        have HY := Lib.hid hy
        have HIY := Lib.hid hiy
        clear hy hiy
        unfold Item.val
        have HZI : Hid (Blk (w4.alloc (.cells #[Value.string { data := #[] }, Value.string { data := #[] }, Value.int IntKind.i64 0, Value.bool false] 39)) w4.heap.size 39 #[Value.string { data := #[] }, Value.string { data := #[] }, Value.int IntKind.i64 0, Value.bool false]) := Lib.hid (Blk.new _ _ _)
        have HFL4 := Lib.hid (HF4.out.later (.cells #[Value.string { data := #[] }, Value.string { data := #[] }, Value.int IntKind.i64 0, Value.bool false] 39))
        have hs4 : w.heap.size + 1 ≤ w4.heap.size := HF4.out.sz
        have hs5 : (w4.alloc (.cells #[Value.string { data := #[] }, Value.string { data := #[] }, Value.int IntKind.i64 0, Value.bool false] 39)).heap.size = w4.heap.size + 1 := by simp
        go_wp2_with (first
          | (refine wpList_store_row rfl 39 _ _ rfl rfl (w.heap.size) rfl _ _ _ rfl HF5.out.b0 rfl (by kernel_rfl) (List.all_eq_true.1 rfl) ?_; rintro wE hTE hBE)
          | (refine wpList_load_row rfl 39 _ rfl (w4.heap.size) rfl 39 _ (0, 0) _ HB5.out Try.underlying39 rfl (by kernel_rfl) ?_)
          | (refine wpList_store_row rfl 39 _ _ rfl rfl (w4.heap.size) rfl _ _ _ rfl HZI.out rfl (by kernel_rfl) (List.all_eq_true.1 rfl) ?_; rintro w5 hT5 hB5; have HB5 := Lib.hid hB5; have HF5 := Lib.hid (HFL4.out.on' (B := w.heap.size + 1) (hT5.below (Below.refl _ _) hs4 (by omega)) (Nat.le_refl _) (by omega)); clear hT5 hB5))
        exact bodyPost_ret (v := .tuple #[.agg #[Value.string y.key, Value.string y.value, Value.int IntKind.i64 y.no, Value.bool y.gone], .bool iy, .int .i64 0]) (by
          have e := run_loadVar_row (P := Try.prog) wE w.heap.size 39 39 _ (0, 0) _ hBE Try.underlying39 rfl (by kernel_rfl)
          simp [results, Try.results19, asAddr, e]) rfl (by rw [HFJ.out.1, HFJ.out.2]; exact ⟨by rw [← HY.out, ← HIY.out]; rfl, hTE.below HF5.out.be (Nat.le_refl _) HF5.out.be.size⟩)
  · have hne : (ec != 0) = true := by simpa using he
    have HFJ : Hid (findE l k = ec ∧ findX l k = none) := Lib.hid (by unfold findE findX; rw [← HEC.out, if_neg he, if_neg he]; exact ⟨rfl, rfl⟩)
    go_wp2_with (first
      | (refine wpList_store_row rfl 39 _ _ rfl rfl (w.heap.size) rfl _ _ _ rfl HFd.out.b0 rfl (by kernel_rfl) (List.all_eq_true.1 rfl) ?_; rintro wE hTE hBE)
      | (refine wpList_store_row rfl 27 _ _ rfl rfl (w1.heap.size) rfl _ _ _ rfl HZ7.out rfl (by kernel_rfl) (List.all_eq_true.1 rfl) ?_; rintro w2 hT2 hB2; obtain ⟨hF2, _, _⟩ := HAR.out w2 hT2; have HFd := Lib.hid hF2; clear hF2 hT2 hB2))
    exact bodyPost_ret (v := .tuple #[.agg #[Value.string { data := #[] }, Value.string { data := #[] }, Value.int IntKind.i64 0, Value.bool false], .bool false, .int .i64 ec]) (by
          have e := run_loadVar_row (P := Try.prog) wE w.heap.size 39 39 _ (0, 0) _ hBE Try.underlying39 rfl (by kernel_rfl)
          simp [results, Try.results19, asAddr, e]) rfl (by rw [HFJ.out.1, HFJ.out.2]; exact ⟨rfl, hTE.below HFd.out.be (Nat.le_refl _) HFd.out.be.size⟩)
end Go.Proofs.Ytjbdmaehomhdeaa
