/- the law DeltaBack: it answers true. -/
import Derived.Test.YtjbdmaehomhdeaaN1
import Derived.Test.YtjbdmaehomhdeaaZN
import Derived.Test.YtjbdmaehomhdeaaAw
import Derived.Test.YtjbdmaehomhdeaaZM
namespace Go.Proofs.Ytjbdmaehomhdeaa
open Go.RowKit

theorem Nodes.on {w W : World} {A : Option Addr} {l : List NV} (h : Nodes w 0 w.heap.size A l) (hb : Below w.heap.size w W) : Nodes W 0 W.heap.size A l :=
  ⟨(h.row.below hb).mono (Nat.le_refl _) hb.size, fun x hx => ⟨((h.by_ x hx).1.below hb).mono (Nat.le_refl _) hb.size, (h.by_ x hx).2⟩⟩
/-- a node's bytes can be read -/
def Nd (w : World) (x : NV) : Prop := Rd byteCell 1 w 0 w.heap.size x.A x.bs ∧ x.bs.length ≤ x.c ∧ (∀ b ∈ x.bs, b < 256) ∧ x.bs.length ≤ 140737488351232
theorem Nd.on {w W : World} {x : NV} (h : Nd w x) (hb : Below w.heap.size w W) : Nd W x := ⟨(h.1.below hb).mono (Nat.le_refl _) hb.size, h.2⟩

set_option maxRecDepth 100000 in
set_option maxHeartbeats 20000000 in
theorem law_DeltaBack (l : List NV) (A : Option Addr) (c : Nat) (mo : NV) (w : World) (hN : Nodes w 0 w.heap.size A l) (hc : l.length ≤ c) (hl : l.length ≤ 140737488351232) (hm : Nd w mo) :
    Calls Try.prog 6 #[.slice A l.length c, mo.val] w fun e w' => e = .returned (.bool true) ∧ Below w.heap.size w w' := by
  have HFL := Lib.hid (fun (W : World) (h : Below w.heap.size w W) => delta_Flat l A c 0 W (hN.on h) hc hl)
  have HN := Lib.hid hN
  have HM := Lib.hid hm
  clear hN hm hl
  unfold NV.val
  obtain ⟨ln, hln⟩ : ∃ n, n = l.length := ⟨_, rfl⟩
  obtain ⟨mn, hmn⟩ : ∃ n, n = mo.bs.length := ⟨_, rfl⟩
  rw [← hln, ← hmn]
  rw [← hln] at HFL hc
  have HLN := Lib.hid hln
  have HMN := Lib.hid hmn
  have HC := Lib.hid hc
  clear hln hmn hc
  have hF := Fr.one w 43 #[Value.bool mo.base, Value.slice mo.A mn mo.c]
  go_enter Try.func6, Try.ntmps6
  go_upto_region 1 with (fail)
  generalize w.alloc (.cells #[Value.bool mo.base, Value.slice mo.A mn mo.c] 43) = w0 at *
  have HF0 := Lib.hid hF
  clear hF
  go_wp2_with fail
  refine (awake11 w0).mono ?_
  rintro e w1 ⟨rfl, hb1⟩
  have HF1 := Lib.hid (HF0.out.on hb1)
  clear hb1
  go_wp2_with fail
  refine (HFL.out w1 HF1.out.be).mono ?_
  rintro e w2 ⟨B, B', b, b', rfl, hP, hb2⟩
  obtain ⟨p, hp⟩ : ∃ q, q = (flatL l).1 := ⟨_, rfl⟩
  obtain ⟨fz, hfz⟩ : ∃ q, q = (flatL l).2.1 := ⟨_, rfl⟩
  obtain ⟨ec, hec⟩ : ∃ q, q = (flatL l).2.2 := ⟨_, rfl⟩
  rw [← hp] at hP
  rw [← hp, ← hfz, ← hec]
  have HPE := Lib.hid hp
  have HFZ := Lib.hid hfz
  have HEC := Lib.hid hec
  have HPQ := Lib.hid hP
  have HF2 := Lib.hid (HF1.out.on hb2)
  have hs1 := HF1.out.sz
  simp only [List.length_cons, List.length_nil] at hs1
  have hs2 : w1.heap.size ≤ w2.heap.size := hb2.size
  clear hp hfz hec hP hb2
  have HBS := Lib.hid (fun (W : World) (h : Pg W w1.heap.size W.heap.size p B B' b b') => delta_Base p B B' b b' w1.heap.size W h)
  unfold Page.val Page.raw at HBS
  unfold Page.val Page.raw
  obtain ⟨qi, hqi⟩ : ∃ n, n = p.items.length := ⟨_, rfl⟩
  obtain ⟨qk, hqk⟩ : ∃ n, n = p.kids.length := ⟨_, rfl⟩
  rw [← hqi, ← hqk]
  rw [← hqi, ← hqk] at HBS
  clear hqi hqk
  have HZ8 : Hid (Blk (w2.alloc (.cells #[Value.int IntKind.i64 0, Value.string { data := #[] }, Value.string { data := #[] }, Value.bool false, Value.int IntKind.i64 0, Value.slice none 0 0, Value.slice none 0 0] 27)) w2.heap.size 27 #[Value.int IntKind.i64 0, Value.string { data := #[] }, Value.string { data := #[] }, Value.bool false, Value.int IntKind.i64 0, Value.slice none 0 0, Value.slice none 0 0]) := Lib.hid (Blk.new _ _ _)
  have HAR : Hid (∀ w3, Turned (w2.alloc (.cells #[Value.int IntKind.i64 0, Value.string { data := #[] }, Value.string { data := #[] }, Value.bool false, Value.int IntKind.i64 0, Value.slice none 0 0, Value.slice none 0 0] 27)) w3 w2.heap.size → Fr w w3 [(43, #[Value.bool mo.base, Value.slice mo.A mn mo.c])] ∧ Pg w3 w1.heap.size w3.heap.size p B B' b b' ∧ w3.heap.size = w2.heap.size + 1) := Lib.hid fun w3 hT => by
    have hsz : (w2.alloc (.cells #[Value.int IntKind.i64 0, Value.string { data := #[] }, Value.string { data := #[] }, Value.bool false, Value.int IntKind.i64 0, Value.slice none 0 0, Value.slice none 0 0] 27)).heap.size = w2.heap.size + 1 := by simp
    have hB : Below w2.heap.size w2 w3 := hT.below ((Below.refl _ _).alloc (Nat.le_refl _) _) (Nat.le_refl _) (by rw [hsz]; omega)
    exact ⟨HF2.out.on hB, (HPQ.out.below hB).mono (Nat.le_refl _) hB.size, by rw [hT.sz, hsz]⟩
  by_cases he : ec = 0
  · subst he
    by_cases hf : fz = 0
    · subst hf
      by_cases hlt : ln < 64
      · have HOK : Hid (p.ok = true) := Lib.hid (by rw [HPE.out]; exact flat_ok HEC.out.symm HFZ.out.symm)
        have HCK : Hid (p.check = 0) := Lib.hid (check_of_ok HOK.out)
        have HBK : Hid (∀ x : NV, x.base = true → x.bs = p.bytes → flatL [mo, x] = flatL ([mo] ++ l)) := Lib.hid fun x h1 h2 => (show flatL [mo, x] = flatL (mo :: l) from flat_back (l := l) mo x HEC.out.symm HFZ.out.symm (by rw [← HLN.out]; exact hlt) h1 (by rw [h2, HPE.out]))
        have HLT := Lib.hid hlt
        have hlt2 : ¬ ((64 : Int) ≤ (ln : Int)) := by omega
        clear hlt
        go_upto_region 5 with (refine wpList_store_row rfl 27 _ _ rfl rfl (w2.heap.size) rfl _ _ _ rfl HZ8.out rfl (by kernel_rfl) (List.all_eq_true.1 rfl) ?_; rintro w3 hT3 hB3)
        obtain ⟨hF3, hP3, hs3⟩ := HAR.out w3 hT3
        have HF3 := Lib.hid hF3
        have HP3 := Lib.hid hP3
        have HB8 := Lib.hid hB3
        clear hF3 hP3 hT3 hB3 HZ8 HAR
        obtain ⟨g8, hg8⟩ : ∃ g, g = w2.heap.size := ⟨_, rfl⟩
        rw [← hg8] at HB8 hs3
        rw [← hg8]
        have hg81 : w.heap.size + 1 ≤ g8 := by omega
        clear hg8 hlt2
        obtain ⟨y0, y1, y2, y3, y4, y5, y6⟩ := Blk.cells7 HB8.out
        go_wp2_with fail
        refine (HBS.out w3 HP3.out).mono ?_
        rintro e w4 ⟨v1, rfl, hO1, hb4⟩
        rw [HOK.out, HCK.out]
        rw [HOK.out, cond_true] at hO1
        obtain ⟨bn, hbn⟩ : ∃ n, p.bytes.length = n := ⟨_, rfl⟩
        obtain ⟨A1, c1, rfl, hc1, hR1, _⟩ := OwnB.form (n := bn) hO1 hbn
        have hsm4 : p.bytes.length ≤ 100000 := (Page.Fine.of_ok HOK.out).bytes_small
        have HF4 := Lib.hid (HF3.out.on hb4)
        have hbe9 : Below w4.heap.size w4 (w4.alloc (.cells #[Value.bool true, Value.slice A1 bn c1] 43)) := (Below.refl _ _).alloc (Nat.le_refl _) _
        have HFu := Lib.hid (HF4.out.on hbe9)
        have HNb : Hid (Nd (w4.alloc (.cells #[Value.bool true, Value.slice A1 bn c1] 43)) ⟨true, A1, c1, p.bytes⟩) := Lib.hid ⟨((hR1.below hbe9).mono (Nat.zero_le _) hbe9.size), by rw [hbn]; exact hc1, Page.bytes_small p, by show p.bytes.length ≤ _; omega⟩
        have HN9 : Hid (Blk (w4.alloc (.cells #[Value.bool true, Value.slice A1 bn c1] 43)) w4.heap.size 43 #[Value.bool true, Value.slice A1 bn c1]) := Lib.hid (Blk.new _ _ _)
        have HBN := Lib.hid hbn
        have HC1 := Lib.hid hc1
        clear hO1 hb4 hR1 hc1 hbn hsm4 hbe9 y0 y1 y2 y3 y4 y5 y6 HB8 HF3 HP3 HF4
        go_upto_region 8 with fail
        generalize w4.alloc (.cells #[Value.bool true, Value.slice A1 bn c1] 43) = u1 at *
        obtain ⟨g9, hg9⟩ : ∃ g, g = w4.heap.size := ⟨_, rfl⟩
        rw [← hg9] at HN9
        rw [← hg9]
        clear hg9
        obtain ⟨a0, a1⟩ := HFu.out.b0.cells2'
        have hbe10 : Below u1.heap.size u1 (u1.alloc (.cells #[Value.bool mo.base, Value.slice mo.A mn mo.c] 43)) := (Below.refl _ _).alloc (Nat.le_refl _) _
        have HV10 := Lib.hid (HFu.out.be.trans (hbe10.mono HFu.out.be.size))
        have HBU := Lib.hid hbe10
        have HO10 : Hid (OwnNV (u1.alloc (.cells #[Value.bool mo.base, Value.slice mo.A mn mo.c] 43)) u1.heap.size (.slice (some ⟨u1.heap.size, 0, none⟩) 1 1) [mo]) := Lib.hid (OwnNV.made (l := [mo]) (by rw [HMN.out]; exact Blk.new u1 43 _) rfl (Nat.le_refl _) (by simp))
        have HRL : Hid (Rd NV.cells 2 (u1.alloc (.cells #[Value.bool mo.base, Value.slice mo.A mn mo.c] 43)) 0 w.heap.size A l) := Lib.hid (HN.out.row.below HV10.out)
        have hsu : u1.heap.size ≤ (u1.alloc (.cells #[Value.bool mo.base, Value.slice mo.A mn mo.c] 43)).heap.size := hbe10.size
        clear hbe10
        go_wp2_with (at_builtin; (refine appNVs _ rfl _ _ rfl u1.heap.size (.slice (some ⟨u1.heap.size, 0, none⟩) 1 1) [mo] l A c 0 w.heap.size rfl HO10.out (by rw [← HLN.out]; rfl) HRL.out (by have h := HLT.out; rw [HLN.out] at h; simp; omega) hsu ?_); intro v2 w5 hO2 hG2; obtain ⟨A2, c2, rfl, hc2, hR2⟩ := OwnNV.form hO2)
        have hbg : Below u1.heap.size u1 w5 := HBU.out.grown hG2 HBU.out.size (fun k hk => (HO10.out.block k hk).1)
        have HF5 := Lib.hid (HFu.out.on hbg)
        have HN95 := Lib.hid (HN9.out.below hbg HN9.out.lt)
        have HNb5 := Lib.hid (HNb.out.on hbg)
        have HM5 := Lib.hid (HM.out.on HF5.out.be)
        have hs5 : u1.heap.size ≤ w5.heap.size := hbg.size
        have hnod : Nodes w5 0 w5.heap.size A2 ([mo] ++ l) := ⟨hR2.drop_lo, fun x hx => by
          rcases List.mem_append.1 hx with h | h
          · rw [List.mem_singleton.1 h]; exact HM5.out
          · exact (HN.out.on HF5.out.be).by_ x h⟩
        refine (delta_Flat ([mo] ++ l) A2 c2 0 w5 hnod hc2 (by have h := HLT.out; rw [HLN.out] at h; simp; omega)).mono ?_
        clear hnod hc2 hR2 hO2 hG2 hbg HO10 HRL HBU HV10 hsu a0 a1 HFu HN9 HNb HM5
        rintro e w6 ⟨D, D', d, d', rfl, hX, hb6⟩
        obtain ⟨x, hx⟩ : ∃ q, q = (flatL ([mo] ++ l)).1 := ⟨_, rfl⟩
        obtain ⟨n, hn⟩ : ∃ q, q = (flatL ([mo] ++ l)).2.1 := ⟨_, rfl⟩
        obtain ⟨g, hg⟩ : ∃ q, q = (flatL ([mo] ++ l)).2.2 := ⟨_, rfl⟩
        rw [← hx] at hX
        rw [← hx, ← hn, ← hg]
        have HRR : Hid ((flatL ([mo] ++ l)).1 = x ∧ (flatL ([mo] ++ l)).2.1 = n ∧ (flatL ([mo] ++ l)).2.2 = g) := Lib.hid ⟨hx.symm, hn.symm, hg.symm⟩
        have HX6 := Lib.hid hX
        have HF6 := Lib.hid (HF5.out.on hb6)
        have HN96 := Lib.hid (HN95.out.below hb6 HN95.out.lt)
        have HNb6 := Lib.hid (HNb5.out.on hb6)
        have hs6 : w5.heap.size ≤ w6.heap.size := hb6.size
        clear hx hn hg hX hb6 HF5 HN95 HNb5
        unfold Page.val Page.raw
        obtain ⟨xi, hxi⟩ : ∃ n, n = x.items.length := ⟨_, rfl⟩
        obtain ⟨xk, hxk⟩ : ∃ n, n = x.kids.length := ⟨_, rfl⟩
        rw [← hxi, ← hxk]
        have HXI := Lib.hid hxi
        have HXK := Lib.hid hxk
        clear hxi hxk
        have HZ11 : Hid (Blk (w6.alloc (.cells #[Value.int IntKind.i64 0, Value.string { data := #[] }, Value.string { data := #[] }, Value.bool false, Value.int IntKind.i64 0, Value.slice none 0 0, Value.slice none 0 0] 27)) w6.heap.size 27 #[Value.int IntKind.i64 0, Value.string { data := #[] }, Value.string { data := #[] }, Value.bool false, Value.int IntKind.i64 0, Value.slice none 0 0, Value.slice none 0 0]) := Lib.hid (Blk.new _ _ _)
        have hsz6 : (w6.alloc (.cells #[Value.int IntKind.i64 0, Value.string { data := #[] }, Value.string { data := #[] }, Value.bool false, Value.int IntKind.i64 0, Value.slice none 0 0, Value.slice none 0 0] 27)).heap.size = w6.heap.size + 1 := by simp
        go_upto_region 9 with (refine wpList_store_row rfl 27 _ _ rfl rfl (w6.heap.size) rfl _ _ _ rfl HZ11.out rfl (by kernel_rfl) (List.all_eq_true.1 rfl) ?_; rintro w7 hT7 hB7)
        have hb7 : Below w6.heap.size w6 w7 := hT7.below ((Below.refl _ _).alloc (Nat.le_refl _) _) (Nat.le_refl _) (by rw [hsz6]; omega)
        have HF7 := Lib.hid (HF6.out.on hb7)
        have HN97 := Lib.hid (HN96.out.below hb7 HN96.out.lt)
        have HNb7 := Lib.hid (HNb6.out.on hb7)
        have HX7 := Lib.hid ((HX6.out.below hb7).mono (Nat.le_refl _) hb7.size)
        have HB11 := Lib.hid hB7
        clear hT7 hB7 hb7 HZ11 hsz6 HF6 HN96 HNb6 HX6
        obtain ⟨g11, hg11⟩ : ∃ g, g = w6.heap.size := ⟨_, rfl⟩
        rw [← hg11] at HB11
        rw [← hg11]
        clear hg11
        obtain ⟨a0, a1⟩ := HF7.out.b0.cells2'
        obtain ⟨b0, b1⟩ := HN97.out.cells2'
        go_wp2_with fail
        have hbe12 : Below w7.heap.size w7 (w7.alloc (.cells #[Value.bool mo.base, Value.slice mo.A mn mo.c, Value.bool true, Value.slice A1 bn c1] 43)) := (Below.refl _ _).alloc (Nat.le_refl _) _
        have hnb : Blk (w7.alloc (.cells #[Value.bool mo.base, Value.slice mo.A mn mo.c, Value.bool true, Value.slice A1 bn c1] 43)) w7.heap.size 43 #[Value.bool mo.base, Value.slice mo.A mn mo.c, Value.bool true, Value.slice A1 bn c1] := Blk.new _ _ _
        have hnod : Nodes (w7.alloc (.cells #[Value.bool mo.base, Value.slice mo.A mn mo.c, Value.bool true, Value.slice A1 bn c1] 43)) 0 (w7.alloc (.cells #[Value.bool mo.base, Value.slice mo.A mn mo.c, Value.bool true, Value.slice A1 bn c1] 43)).heap.size (some ⟨w7.heap.size, 0, none⟩) [mo, ⟨true, A1, c1, p.bytes⟩] := ⟨Rd.nodes2 mo ⟨true, A1, c1, p.bytes⟩ (by rw [← HMN.out]; show Blk _ _ _ #[_, _, _, Value.slice A1 p.bytes.length c1]; rw [HBN.out]; exact hnb) (Nat.zero_le _) hnb.lt, fun x hx => by
          simp only [List.mem_cons, List.not_mem_nil, or_false] at hx
          rcases hx with rfl | rfl
          · exact HM.out.on (HF7.out.be.trans (hbe12.mono HF7.out.be.size))
          · exact HNb7.out.on hbe12⟩
        refine (delta_Flat [mo, ⟨true, A1, c1, p.bytes⟩] (some ⟨w7.heap.size, 0, none⟩) 2 0 _ hnod (Nat.le_refl _) (Nat.le_of_ble_eq_true rfl)).mono ?_
        rintro e w8 ⟨E, E', e1, e2, rfl, hY, hb8⟩
        rw [HBK.out ⟨true, A1, c1, p.bytes⟩ rfl rfl, HRR.out.1] at hY
        rw [HBK.out ⟨true, A1, c1, p.bytes⟩ rfl rfl, HRR.out.1, HRR.out.2.1, HRR.out.2.2]
        have hb78 : Below w7.heap.size w7 w8 := hbe12.trans (hb8.mono hbe12.size)
        have HF8 := Lib.hid (HF7.out.on hb78)
        have HX8 := Lib.hid ((HX7.out.below hb78).mono (Nat.le_refl _) hb78.size)
        have HB118 := Lib.hid (HB11.out.below hb78 HB11.out.lt)
        have HY8 := Lib.hid hY
        clear hY hb8 hb78 hnod hnb hbe12 a0 a1 b0 b1 HF7 HX7 HB11 HN97 HNb7
        unfold Page.val Page.raw
        rw [← HXI.out, ← HXK.out]
        have HZ14 : Hid (Blk (w8.alloc (.cells #[Value.int IntKind.i64 0, Value.string { data := #[] }, Value.string { data := #[] }, Value.bool false, Value.int IntKind.i64 0, Value.slice none 0 0, Value.slice none 0 0] 27)) w8.heap.size 27 #[Value.int IntKind.i64 0, Value.string { data := #[] }, Value.string { data := #[] }, Value.bool false, Value.int IntKind.i64 0, Value.slice none 0 0, Value.slice none 0 0]) := Lib.hid (Blk.new _ _ _)
        have hsz8 : (w8.alloc (.cells #[Value.int IntKind.i64 0, Value.string { data := #[] }, Value.string { data := #[] }, Value.bool false, Value.int IntKind.i64 0, Value.slice none 0 0, Value.slice none 0 0] 27)).heap.size = w8.heap.size + 1 := by simp
        go_upto_region 10 with (refine wpList_store_row rfl 27 _ _ rfl rfl (w8.heap.size) rfl _ _ _ rfl HZ14.out rfl (by kernel_rfl) (List.all_eq_true.1 rfl) ?_; rintro w9 hT9 hB9)
        have hb9 : Below w8.heap.size w8 w9 := hT9.below ((Below.refl _ _).alloc (Nat.le_refl _) _) (Nat.le_refl _) (by rw [hsz8]; omega)
        have HF9 := Lib.hid (HF8.out.on hb9)
        have HX9 := Lib.hid ((HX8.out.below hb9).mono (Nat.zero_le _) hb9.size)
        have HB119 := Lib.hid (HB118.out.below hb9 HB118.out.lt)
        have HY9 := Lib.hid ((HY8.out.below hb9).mono (Nat.zero_le _) hb9.size)
        have HB14 := Lib.hid hB9
        clear hT9 hB9 hb9 HZ14 hsz8 HF8 HX8 HB118 HY8
        obtain ⟨g14, hg14⟩ : ∃ g, g = w8.heap.size := ⟨_, rfl⟩
        rw [← hg14] at HB14
        rw [← hg14]
        clear hg14
        have HSM := Lib.hid (ref_Same x x D D' E E' d d' e1 e2 0 0 w9 HX9.out HY9.out)
        unfold Page.val Page.raw at HSM
        rw [← HXI.out, ← HXK.out] at HSM
        have HSS : Hid (x.same x = true) := Lib.hid (Page.same_yes rfl).symm
        rw [HSS.out] at HSM
        obtain ⟨z0, z1, z2, z3, z4, z5, z6⟩ := Blk.cells7 HB119.out
        obtain ⟨y0, y1, y2, y3, y4, y5, y6⟩ := Blk.cells7 HB14.out
        have hnn : (n == n) = true := by simp
        have hgg : (g == g) = true := by simp
        go_wp2_with fail
        refine HSM.out.mono ?_
        rintro e w10 ⟨rfl, hb10⟩
        go_wp2
        go_ret
        exact ⟨rfl, HF9.out.be.trans (hb10.mono HF9.out.be.size)⟩
      · have hge : (64 : Int) ≤ (ln : Int) := by omega
        go_wp2_with (refine wpList_store_row rfl 27 _ _ rfl rfl (w2.heap.size) rfl _ _ _ rfl HZ8.out rfl (by kernel_rfl) (List.all_eq_true.1 rfl) ?_; rintro w3 hT3 hB3; obtain ⟨hF3, hP3, _⟩ := HAR.out w3 hT3; have HF3 := Lib.hid hF3; clear hF3 hP3 hT3 hB3)
        go_ret
        exact ⟨rfl, HF3.out.be⟩
    · have hne : (fz != 0) = true := by simpa using hf
      go_wp2_with (refine wpList_store_row rfl 27 _ _ rfl rfl (w2.heap.size) rfl _ _ _ rfl HZ8.out rfl (by kernel_rfl) (List.all_eq_true.1 rfl) ?_; rintro w3 hT3 hB3; obtain ⟨hF3, hP3, _⟩ := HAR.out w3 hT3; have HF3 := Lib.hid hF3; clear hF3 hP3 hT3 hB3)
      go_ret
      exact ⟨rfl, HF3.out.be⟩
  · have hne : (ec != 0) = true := by simpa using he
    go_wp2_with (refine wpList_store_row rfl 27 _ _ rfl rfl (w2.heap.size) rfl _ _ _ rfl HZ8.out rfl (by kernel_rfl) (List.all_eq_true.1 rfl) ?_; rintro w3 hT3 hB3; obtain ⟨hF3, hP3, _⟩ := HAR.out w3 hT3; have HF3 := Lib.hid hF3; clear hF3 hP3 hT3 hB3)
    go_ret
    exact ⟨rfl, HF3.out.be⟩
end Go.Proofs.Ytjbdmaehomhdeaa
