/- The reference's taker: Text, Item. -/
import Derived.Test.YtjbdmaehomhdeaaGreatR7
import Derived.Laws.IdiomStrings
set_option linter.unusedSimpArgs false
set_option linter.unusedVariables false
namespace Go.Proofs.YtjbdmaehomhdeaaGreat
open Go.RowKit

set_option maxRecDepth 100000 in
set_option maxHeartbeats 1000000 in
theorem ref_Text (g lo hi : Nat) (bs r : List Nat) (w : World) (ht : TkR w g lo hi bs r) (hl : bs.length ≤ 140737488351232) :
    Calls Tryz.prog 71 #[.pointer (some ⟨g, 0, none⟩)] w (PostTR w g lo hi bs (r.drop (1 + textN r)) (.string (textOf r))) := by
  have HT := Lib.hid ht
  have HL := Lib.hid hl
  clear ht hl
  go_enter Tryz.func71, Tryz.ntmps71
  go_upto_region 2 with (go_at_call 69; refine (ref_Num g lo hi 1 (by omega) bs r _ HT.out HL.out).mono ?_; rintro e w1 ⟨rfl, hT1, hg1⟩)
  obtain ⟨ds, hds⟩ : ∃ l, l = r.drop 1 := ⟨_, rfl⟩
  rw [← hds] at hT1
  obtain ⟨A, c, n, hblk, hc, hr, hn, hrd⟩ := hT1.ex
  have HT1 := Lib.hid hT1
  have HG1 := Lib.hid hg1
  have HDS := Lib.hid hds
  obtain ⟨nb, hnb⟩ : ∃ n, n = bs.length := ⟨_, rfl⟩
  obtain ⟨m, hm⟩ : ∃ n, n = leN (r.take 1) := ⟨_, rfl⟩
  have b0 : w1.cell? ⟨g, 0, none⟩ = some (.slice A bs.length c) := hblk.cell 0
  have b1 : w1.cell? ⟨g, 1, none⟩ = some (.int .i64 n) := hblk.cell 1
  have hfr := hblk.frozen 1
  rw [← hnb] at b0 hc hn
  rw [← hm]
  have HNB := Lib.hid hnb
  have HM := Lib.hid hm
  have HBL := Lib.hid hblk
  have HRc := Lib.hid hr
  have HRD := Lib.hid hrd
  have hnb1 : (nb : Int) ≤ 140737488351232 := by have := HL.out; omega
  have hm1 : (m : Int) ≤ 255 := by
    have h1 := leN_lt (r.take 1) (fun b hb => HT.out.smallR b (List.mem_of_mem_take hb))
    have h2 : (256 : Nat) ^ (r.take 1).length ≤ 256 ^ 1 := Nat.pow_le_pow_right (by omega) (by rw [List.length_take]; omega)
    omega
  clear hnb hm hblk hr hT1 hg1 hds hrd
  obtain ⟨q, hq⟩ : ∃ q, q = textN r := ⟨_, rfl⟩
  have hdl : ds.length = nb - n := by rw [HRD.out, List.length_drop, HNB.out]
  have hq' : q = min m (nb - n) := by rw [hq, HM.out, ← hdl, HDS.out]; rfl
  have HQ := Lib.hid hq
  have HDL := Lib.hid hdl
  clear hq hdl
  have hsub : (nb : Int) - (n : Int) = ((nb - n : Nat) : Int) := by omega
  go_quiet (fail)
  go_upto_if 18 with (fail)
  go_cut [3] (fun v wc => v = .int .i64 q ∧ ∃ k, w1.drewN k = wc)
  case first =>
    by_cases hmn : m ≤ nb - n
    · have hmin : ¬ (m : Int) > (nb : Int) - (n : Int) := by omega
      obtain rfl : q = m := by omega
      clear hq' hsub
      go_wp2
      go_meet
      exact ⟨rfl, _, rfl⟩
    · have hmin : (m : Int) > (nb : Int) - (n : Int) := by omega
      have hqe : q = nb - n := by omega
      have HQE := Lib.hid hqe
      have HSUB := Lib.hid hsub
      clear hq' hqe hsub
      go_wp2
      go_quiet (fail)
      go_wp2
      go_meet
      exact ⟨by rw [HQE.out, HSUB.out], _, (World.drewN_drewN ..).symm⟩
  case rest =>
    obtain ⟨rfl, k, rfl⟩ := hcut
    have hqn : n + q ≤ nb := by omega
    have hq1 : (n : Int) + (q : Int) ≤ (c : Int) := by omega
    have hq2 : (n : Int) ≤ (n : Int) + (q : Int) := by omega
    have hq3 : (0 : Int) ≤ (n : Int) := by omega
    have hq4 : (0 : Int) ≤ (n : Int) + (q : Int) := by omega
    have hq5 : ((n : Int) + (q : Int)) - (n : Int) = (q : Int) := by omega
    clear hq' hsub
    have hlq : (ds.take q).length = n + q - n := by rw [List.length_take, HDL.out]; omega
    have HTX : Hid (textOf r = strOf (ds.take q)) := Lib.hid (by unfold textOf; rw [← HDS.out, ← HQ.out])
    have HEND : Hid (∀ j, TkR ((w1.drewN j).setCell ⟨g, 1, none⟩ (.int .i64 ((n : Int) + (q : Int)))) g lo hi bs (r.drop (1 + textN r))) := Lib.hid fun j => by
      have e1 : (n : Int) + (q : Int) = ((n + q : Nat) : Int) := by omega
      have e2 : r.drop (1 + textN r) = bs.drop (n + q) := by rw [← HQ.out, ← List.drop_drop, ← HDS.out, HRD.out, List.drop_drop]
      rw [e1, e2]
      exact (HT1.out.drewN j).on (HBL.out.drewN j) (by rw [← HNB.out]; exact hc) (HRc.out.keep fun _ _ _ => rfl) (by rw [← HNB.out]; exact hqn)
    have HLQ := Lib.hid hlq
    clear hlq
    have hw : IntKind.i64.wrap ((n : Int) + (q : Int)) = (n : Int) + (q : Int) := IntWalk.i64_in _ (by omega)
    have HW := Lib.hid hw
    clear hw
    by_cases hcn : c = n
    · have hcv : ∀ j, (convert 32 9 (.slice A 0 0)).run Tryz.prog (w1.drewN j) = .ok (.string (strOf (ds.take q))) (w1.drewN j) := fun j =>
        conv_str (lo := lo) (hi := hi) (by
          have hz : ds.take q = [] := List.eq_nil_of_length_eq_zero (by rw [HLQ.out]; omega)
          rw [hz]; exact Rd.nil) (by rw [HLQ.out]; omega) (fun b hb => HT1.out.smallR b (List.mem_of_mem_take hb))
      have hq6 : (q : Int) ≤ 0 := by omega
      have hq7 : q = 0 := by omega
      have HQ7 := Lib.hid hq7
      clear hq7
      subst hcn
      have hw := HW.out
      go_wp2
      go_quiet (fail)
      go_wp2
      go_ret
      exact ⟨by rw [HTX.out]; rfl, HEND.out _, grown_set (grown_drewN HG1.out _) _ _⟩
    · have hcn' : ¬ (c : Int) = (n : Int) := by omega
      have hw := HW.out
      have hcv : ∀ j, (convert 32 9 (.slice (Option.map (fun x => x.add n) A) (((n : Int) + (q : Int)).toNat - n) (c - n))).run Tryz.prog (w1.drewN j) = .ok (.string (strOf (ds.take q))) (w1.drewN j) := fun j =>
        conv_str (lo := lo) (hi := hi) (by
          have h1 := HRc.out.tail (n := n) (by rw [← HNB.out]; exact hc) (by rw [← HNB.out]; exact hn)
          rw [if_neg hcn, Nat.mul_one, ← HRD.out] at h1
          exact (h1.keep (w' := w1.drewN j) (fun _ _ _ => rfl)).take) (by rw [HLQ.out]; omega) (fun b hb => HT1.out.smallR b (List.mem_of_mem_take hb))
      go_wp2
      go_quiet (fail)
      go_wp2
      go_ret
      exact ⟨by rw [HTX.out]; rfl, HEND.out _, grown_set (grown_drewN HG1.out _) _ _⟩

theorem TkR.far {w w' : World} {g lo hi : Nat} {bs r : List Nat} (h : TkR w g lo hi bs r) (hk : ∀ k, k = g ∨ k < hi → w'.heap[k]? = w.heap[k]?) : TkR w' g lo hi bs r := by
  obtain ⟨A, c, n, h1, h2, h3, h4, h5⟩ := h.ex
  exact ⟨⟨A, c, n, (hk g (.inl rfl)).trans h1, h2, h3.keep fun p _ hp => World.cell?_of_block (hk p.block (.inr hp)), h4, h5⟩, h.apart, h.small⟩
theorem TkR.lt {w : World} {g lo hi : Nat} {bs r : List Nat} (h : TkR w g lo hi bs r) : g < w.heap.size := by
  obtain ⟨A, c, n, h1, _⟩ := h.ex
  exact h1.lt
/-- within a call that has laid two blocks of its own behind w, and has a taker -/
structure Mid (w wc : World) (g lo hi : Nat) (bs r : List Nat) (t : TypeId) (rs cs : Array Value) : Prop where
  tk : TkR wc g lo hi bs r
  gr : w.grownBy wc (some g)
  res : Blk wc w.heap.size t rs
  own : Blk wc (w.heap.size + 1) t cs
  gl : g < w.heap.size
  hl : hi ≤ w.heap.size
section
variable {w wc w' : World} {g lo hi : Nat} {bs r r' : List Nat} {t : TypeId} {rs cs : Array Value}
theorem Mid.start (h : TkR w g lo hi bs r) (hh : hi ≤ w.heap.size) : Mid w ((w.alloc (.cells rs t)).alloc (.cells cs t)) g lo hi bs r t rs cs := by
  have hb : Below w.heap.size w ((w.alloc (.cells rs t)).alloc (.cells cs t)) := ((Below.refl _ _).alloc (Nat.le_refl _) _).alloc (by simp) _
  refine ⟨h.far fun k hk => hb.block k (by have := h.lt; omega), ⟨hb.os, hb.tape, hb.output, hb.size, fun k hk _ => hb.block k hk⟩, (Blk.new _ _ _).alloc _, ?_, h.lt, hh⟩
  have := Blk.new (w.alloc (Obj.cells rs t)) t cs
  simpa using this
theorem Mid.call (h : Mid w wc g lo hi bs r t rs cs) (h1 : TkR w' g lo hi bs r') (h2 : wc.grownBy w' (some g)) : Mid w w' g lo hi bs r' t rs cs := by
  have hs := h.gr.size
  have hl := h.own.lt
  have hg := h.gl
  refine ⟨h1, ⟨h2.os.trans h.gr.os, h2.tape.trans h.gr.tape, h2.output.trans h.gr.output, Nat.le_trans hs h2.size, fun k hk hn => (h2.block k (by omega) hn).trans (h.gr.block k hk hn)⟩, ?_, ?_, h.gl, h.hl⟩
  · exact (h2.block _ h.res.lt (by simp; omega)).trans h.res
  · exact (h2.block _ h.own.lt (by simp; omega)).trans h.own
theorem Mid.set (h : Mid w wc g lo hi bs r t rs cs) (i : Nat) (u : Value) : Mid w (wc.setCell ⟨w.heap.size + 1, i, none⟩ u) g lo hi bs r t rs (cs.setIfInBounds i u) := by
  have hg := h.gl
  have hh := h.hl
  refine ⟨h.tk.far fun k hk => Below.heap_setCell wc _ u k (by simp; omega), ⟨h.gr.os, h.gr.tape, h.gr.output, by simpa using h.gr.size, fun k hk hn => ?_⟩, h.res.far (by simp) u, h.own.set_ i u, h.gl, h.hl⟩
  exact (Below.heap_setCell wc _ u k (by simp; omega)).trans (h.gr.block k hk hn)
theorem Mid.setR (h : Mid w wc g lo hi bs r t rs cs) (i : Nat) (u : Value) : Mid w (wc.setCell ⟨w.heap.size, i, none⟩ u) g lo hi bs r t (rs.setIfInBounds i u) cs := by
  have hg := h.gl
  have hh := h.hl
  refine ⟨h.tk.far fun k hk => Below.heap_setCell wc _ u k (by simp; omega), ⟨h.gr.os, h.gr.tape, h.gr.output, by simpa using h.gr.size, fun k hk hn => ?_⟩, h.res.set_ i u, h.own.far (by simp) u, h.gl, h.hl⟩
  exact (Below.heap_setCell wc _ u k (by simp; omega)).trans (h.gr.block k hk hn)
end

set_option maxRecDepth 100000 in
set_option maxHeartbeats 1000000 in
theorem ref_TItem (g lo hi : Nat) (bs r : List Nat) (w : World) (ht : TkR w g lo hi bs r) (hl : bs.length ≤ 140737488351232) (hh : hi ≤ w.heap.size) :
    Calls Tryz.prog 70 #[.pointer (some ⟨g, 0, none⟩)] w (PostTR w g lo hi bs (itemAt r).2 (itemAt r).1.val) := by
  have HT := Lib.hid ht
  have HL := Lib.hid hl
  clear ht hl
  go_enter Tryz.func70, Tryz.ntmps70
  have HM := Lib.hid (Mid.start (t := 23) (rs := #[Value.string { data := #[] }, Value.string { data := #[] }, Value.int IntKind.i64 0, Value.bool false]) (cs := #[Value.string { data := #[] }, Value.string { data := #[] }, Value.int IntKind.i64 0, Value.bool false]) HT.out hh)
  go_wp2_with fail
  generalize ((w.alloc (Obj.cells #[Value.string { data := #[] }, Value.string { data := #[] }, Value.int IntKind.i64 0, Value.bool false] 23)).alloc (Obj.cells #[Value.string { data := #[] }, Value.string { data := #[] }, Value.int IntKind.i64 0, Value.bool false] 23)) = w1 at *
  refine (ref_Text g lo hi bs r _ HM.out.tk HL.out).mono ?_
  rintro e w2 ⟨rfl, hT, hg⟩
  have M2 := HM.out.call hT hg
  have hc := M2.own.cell 0
  have hf := M2.own.frozen 0
  have M3 : Hid (Mid w (w2.setCell ⟨w.heap.size + 1, 0, none⟩ (.string (textOf r))) g lo hi bs (r.drop (1 + textN r)) 23 #[Value.string { data := #[] }, Value.string { data := #[] }, Value.int IntKind.i64 0, Value.bool false] #[Value.string (textOf r), Value.string { data := #[] }, Value.int IntKind.i64 0, Value.bool false]) := Lib.hid (M2.set 0 (.string (textOf r)))
  clear hT hg M2
  go_wp2_with fail
  clear hc hf
  obtain ⟨r1, hr1⟩ : ∃ l, l = r.drop (1 + textN r) := ⟨_, rfl⟩
  obtain ⟨s1, hs1⟩ : ∃ l, l = textOf r := ⟨_, rfl⟩
  rw [← hr1, ← hs1] at M3
  rw [← hs1]
  have HR1 := Lib.hid hr1
  have HS1 := Lib.hid hs1
  clear hr1 hs1
  generalize w2.setCell ⟨w.heap.size + 1, 0, none⟩ (.string s1) = w3 at *
  refine (ref_Num g lo hi 6 (by omega) bs r1 _ M3.out.tk HL.out).mono ?_
  rintro e w4 ⟨rfl, hT, hg⟩
  have M4 := M3.out.call hT hg
  obtain ⟨n1, hn1⟩ : ∃ l, l = leN (r1.take 6) := ⟨_, rfl⟩
  rw [← hn1]
  have HN1 := Lib.hid hn1
  have hc := M4.own.cell 2
  have hf := M4.own.frozen 2
  have M5 : Hid (Mid w (w4.setCell ⟨w.heap.size + 1, 2, none⟩ (.int .i64 (n1 : Int))) g lo hi bs (r1.drop 6) 23 #[Value.string { data := #[] }, Value.string { data := #[] }, Value.int IntKind.i64 0, Value.bool false] #[Value.string s1, Value.string { data := #[] }, Value.int IntKind.i64 (n1 : Int), Value.bool false]) := Lib.hid (M4.set 2 (.int .i64 (n1 : Int)))
  clear hT hg M4 hn1
  go_wp2_with fail
  clear hc hf
  generalize w4.setCell ⟨w.heap.size + 1, 2, none⟩ (.int .i64 (n1 : Int)) = w5 at *
  obtain ⟨r2, hr2⟩ : ∃ l, l = r1.drop 6 := ⟨_, rfl⟩
  rw [← hr2] at M5
  have HR2 := Lib.hid hr2
  clear hr2
  refine (ref_Num g lo hi 1 (by omega) bs r2 _ M5.out.tk HL.out).mono ?_
  rintro e w6 ⟨rfl, hT, hg⟩
  have M6 := M5.out.call hT hg
  obtain ⟨n2, hn2⟩ : ∃ l, l = leN (r2.take 1) := ⟨_, rfl⟩
  obtain ⟨r3, hr3⟩ : ∃ l, l = r2.drop 1 := ⟨_, rfl⟩
  rw [← hr3] at M6
  rw [← hn2]
  have HN2 := Lib.hid hn2
  have HR3 := Lib.hid hr3
  have hc := M6.own.cell 3
  have hf := M6.own.frozen 3
  have M7 : Hid (Mid w (w6.setCell ⟨w.heap.size + 1, 3, none⟩ (.bool ((n2 : Int) == 1))) g lo hi bs r3 23 #[Value.string { data := #[] }, Value.string { data := #[] }, Value.int IntKind.i64 0, Value.bool false] #[Value.string s1, Value.string { data := #[] }, Value.int IntKind.i64 (n1 : Int), Value.bool ((n2 : Int) == 1)]) := Lib.hid (M6.set 3 (.bool ((n2 : Int) == 1)))
  clear hT hg M6 hn2 hr3
  go_wp2_with fail
  clear hc hf
  generalize w6.setCell ⟨w.heap.size + 1, 3, none⟩ (.bool ((n2 : Int) == 1)) = w7 at *
  refine (ref_Text g lo hi bs r3 _ M7.out.tk HL.out).mono ?_
  rintro e w8 ⟨rfl, hT, hg⟩
  have M8 := M7.out.call hT hg
  obtain ⟨s2, hs2⟩ : ∃ l, l = textOf r3 := ⟨_, rfl⟩
  obtain ⟨r4, hr4⟩ : ∃ l, l = r3.drop (1 + textN r3) := ⟨_, rfl⟩
  rw [← hr4] at M8
  rw [← hs2]
  have HS2 := Lib.hid hs2
  have HR4 := Lib.hid hr4
  have hc0 := M8.own.cell 0
  have hc1 := M8.own.cell 1
  have hc2 := M8.own.cell 2
  have hc3 := M8.own.cell 3
  have hf := M8.own.frozen 1
  have hd0 := M8.res.cell 0
  have hd1 := M8.res.cell 1
  have hd2 := M8.res.cell 2
  have hd3 := M8.res.cell 3
  have hf0 := M8.res.frozen 0
  have hf1 := M8.res.frozen 1
  have hf2 := M8.res.frozen 2
  have hf3 := M8.res.frozen 3
  have hE := ((((M8.set 1 (.string s2)).setR 0 (.string s1)).setR 1 (.string s2)).setR 2 (.int .i64 (n1 : Int))).setR 3 (.bool ((n2 : Int) == 1))
  have HE : Hid (Mid w (((((w8.setCell ⟨w.heap.size + 1, 1, none⟩ (.string s2)).setCell ⟨w.heap.size, 0, none⟩ (.string s1)).setCell ⟨w.heap.size, 1, none⟩ (.string s2)).setCell ⟨w.heap.size, 2, none⟩ (.int .i64 (n1 : Int))).setCell ⟨w.heap.size, 3, none⟩ (.bool ((n2 : Int) == 1))) g lo hi bs r4 23 #[Value.string s1, Value.string s2, Value.int IntKind.i64 (n1 : Int), Value.bool ((n2 : Int) == 1)] #[Value.string s1, Value.string s2, Value.int IntKind.i64 (n1 : Int), Value.bool ((n2 : Int) == 1)]) := Lib.hid hE
  clear hT hg M8 hs2 hr4 hE
  go_wp2
  generalize (((((w8.setCell ⟨w.heap.size + 1, 1, none⟩ (.string s2)).setCell ⟨w.heap.size, 0, none⟩ (.string s1)).setCell ⟨w.heap.size, 1, none⟩ (.string s2)).setCell ⟨w.heap.size, 2, none⟩ (.int .i64 (n1 : Int))).setCell ⟨w.heap.size, 3, none⟩ (.bool ((n2 : Int) == 1))) = w9 at *
  have e0 : w9.cell? ⟨w.heap.size, 0, none⟩ = some (Value.string s1) := HE.out.res.cell 0
  have e1 : w9.cell? ⟨w.heap.size, 1, none⟩ = some (Value.string s2) := HE.out.res.cell 1
  have e2 : w9.cell? ⟨w.heap.size, 2, none⟩ = some (Value.int IntKind.i64 (n1 : Int)) := HE.out.res.cell 2
  have e3 : w9.cell? ⟨w.heap.size, 3, none⟩ = some (Value.bool ((n2 : Int) == 1)) := HE.out.res.cell 3
  exact bodyPost_ret (v := .agg #[Value.string s1, Value.string s2, Value.int IntKind.i64 (n1 : Int), Value.bool ((n2 : Int) == 1)]) (by simp [results, Tryz.results70, go_sem, e0, e1, e2, e3]) rfl
    ⟨by simp only [itemAt, Item.val]; rw [← HR1.out, ← HR2.out, ← HR3.out, ← HS1.out, ← HS2.out, ← HN1.out, ← HN2.out], by simp only [itemAt]; rw [← HR1.out, ← HR2.out, ← HR3.out, ← HR4.out]; exact HE.out.tk, HE.out.gr⟩
end Go.Proofs.YtjbdmaehomhdeaaGreat
