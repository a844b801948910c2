/- The reference's bytes of a page. -/
import Derived.Test.YtjbdmaehomhdeaaR2
namespace Go.Proofs.Ytjbdmaehomhdeaa
open Go.RowKit

/-- bounds that the reference's numbers want -/
structure Page.Fine2 (p : Page) : Prop where
  lv : p.level ≤ 7
  sd : p.side ≤ 512
  its : ∀ x ∈ p.items, x.no ≤ 1099511627776
  kds : ∀ x ∈ p.kids, x.page ≤ 512

theorem own_one (w : World) (b : Nat) : OwnB (w.alloc (.cells #[.int .u8 (b : Int)] 5)) w.heap.size (.slice (some ⟨w.heap.size, 0, none⟩) 1 1) [b] :=
  ⟨rfl, .inr ⟨w.heap.size, 1, #[.int .u8 (b : Int)], rfl, Nat.le_refl _, heap_alloc_new w _, Nat.le_refl _, by simp [maxLen], rfl, rfl⟩⟩
theorem numB_one {n : Nat} (h : n ≤ 255) : numB n 1 = [n] := by
  simp [numB]; omega

set_option maxRecDepth 100000 in
set_option maxHeartbeats 4000000 in
theorem ref_bytes (p : Page) (A A' : Option Addr) (c c' lo : Nat) (w : World) (hp : Pg w lo w.heap.size p A A' c c') (hf : p.Fine) (hf2 : p.Fine2) :
    Calls Try.prog 62 #[p.val A c A' c'] w (PostB w p.bytes) := by
  have H1 := Lib.hid hp
  have HF := Lib.hid hf
  have HF2 := Lib.hid hf2
  unfold Page.val Page.raw
  obtain ⟨ni, hni⟩ : ∃ n, n = p.items.length := ⟨_, rfl⟩
  obtain ⟨nk, hnk⟩ : ∃ n, n = p.kids.length := ⟨_, rfl⟩
  obtain ⟨lv, hlv⟩ : ∃ n, n = p.level.toNat := ⟨_, rfl⟩
  obtain ⟨sd, hsd⟩ : ∃ n, n = p.side.toNat := ⟨_, rfl⟩
  have hlv' : p.level = (lv : Int) := by have := hf.lv; omega
  have hsd' : p.side = (sd : Int) := by have := hf.sd; omega
  have hsdb : sd ≤ 512 := by have := hf2.sd; omega
  have hlvb : lv ≤ 7 := by have := hf2.lv; omega
  have hni' : ni ≤ 120 := by have := hf.ni; omega
  have hnk' : nk ≤ 120 := by have := hf.nk; omega
  rw [← hni, ← hnk, hlv', hsd']
  have HNI := Lib.hid hni
  have HNK := Lib.hid hnk
  have HLV := Lib.hid hlv
  have HSD := Lib.hid hsd
  have HLO : Hid (p.low.size ≤ 16 ∧ p.high.size ≤ 16) := Lib.hid ⟨hf.low, hf.high⟩
  clear hni hnk hp hf hf2 hlv hsd hlv' hsd'
  go_enter Try.func62, Try.ntmps62
  go_upto_region 1 with (fail)
  have hP : Blk (w.alloc (Obj.cells #[Value.int IntKind.i64 lv, Value.string p.low, Value.string p.high, Value.bool p.last, Value.int IntKind.i64 sd, Value.slice A ni c, Value.slice A' nk c'] 27)) w.heap.size 27 #[Value.int IntKind.i64 lv, Value.string p.low, Value.string p.high, Value.bool p.last, Value.int IntKind.i64 sd, Value.slice A ni c, Value.slice A' nk c'] := Blk.new _ _ _
  have hB : Below w.heap.size w (w.alloc (Obj.cells #[Value.int IntKind.i64 lv, Value.string p.low, Value.string p.high, Value.bool p.last, Value.int IntKind.i64 sd, Value.slice A ni c, Value.slice A' nk c'] 27)) := (Below.refl _ _).alloc (Nat.le_refl _) _
  generalize (w.alloc (Obj.cells #[Value.int IntKind.i64 lv, Value.string p.low, Value.string p.high, Value.bool p.last, Value.int IntKind.i64 sd, Value.slice A ni c, Value.slice A' nk c'] 27)) = w0 at *
  have HP := Lib.hid hP
  have HB := Lib.hid hB
  obtain ⟨q0, q1, q2, q3, q4, q5, q6⟩ := Blk.cells7 hP
  clear hP hB
  go_upto_region 2 with (fail)
  have hO0 : OwnB (w0.alloc (Obj.cells #[Value.int IntKind.u8 lv] 5)) w0.heap.size (.slice (some ⟨w0.heap.size, 0, none⟩) 1 1) (numB lv 1) := by rw [numB_one (by omega)]; exact own_one w0 lv
  have hB0 : Below w0.heap.size w0 (w0.alloc (Obj.cells #[Value.int IntKind.u8 lv] 5)) := (Below.refl _ _).alloc (Nat.le_refl _) _
  generalize (w0.alloc (Obj.cells #[Value.int IntKind.u8 lv] 5)) = w1 at *
  have HO0 := Lib.hid hO0
  have HB0 := Lib.hid hB0
  clear hO0 hB0
  clear q0 q1 q2 q3 q4 q5 q6
  obtain ⟨q0, q1, q2, q3, q4, q5, q6⟩ := Blk.cells7 (HP.out.below HB0.out HP.out.lt)
  have hs1 := HB0.out.size
  go_upto_region 6 with (first
    | (go_at_call 81; refine (ref_flag w0.heap.size _ (numB lv 1) p.last w1 HO0.out hs1 (by rw [numB_length]; omega)).mono ?_; rintro e w2 ⟨v2, rfl, hO2, hG2⟩; have HO2 := Lib.hid hO2; have HB2 := Lib.hid (HB0.out.trans (hG2.below hs1 HO0.out.block)); have hs2 := HB2.out.size; obtain ⟨a0, a1, a2, a3, a4, a5, a6⟩ := Blk.cells7 (HP.out.below HB2.out HP.out.lt); clear HO0 hO2 hG2)
    | (go_at_call 82; refine (ref_text w0.heap.size v2 (numB lv 1 ++ flagB p.last) p.low w2 HO2.out hs2 (by have := HLO.out; rw [List.length_append, numB_length]; simp only [flagB, List.length_cons, List.length_nil]; omega)).mono ?_; rintro e w3 ⟨v3, rfl, hO3, hG3⟩; have HO3 := Lib.hid hO3; have HB3 := Lib.hid (HB2.out.trans (hG3.below hs2 HO2.out.block)); have hs3 := HB3.out.size; obtain ⟨b0, b1, b2, b3, b4, b5, b6⟩ := Blk.cells7 (HP.out.below HB3.out HP.out.lt); clear HO2 hO3 hG3)
    | (go_at_call 82; refine (ref_text w0.heap.size v3 (numB lv 1 ++ flagB p.last ++ textB p.low) p.high w3 HO3.out hs3 (by have := HLO.out; rw [List.length_append, List.length_append, numB_length, textB_length]; simp only [flagB, List.length_cons, List.length_nil]; omega)).mono ?_; rintro e w4 ⟨v4, rfl, hO4, hG4⟩; have HO4 := Lib.hid hO4; have HB4 := Lib.hid (HB3.out.trans (hG4.below hs3 HO3.out.block)); have hs4 := HB4.out.size; obtain ⟨c0, c1, c2, c3, c4, c5, c6⟩ := Blk.cells7 (HP.out.below HB4.out HP.out.lt); clear HO3 hO4 hG4)
    | (go_at_call 83; refine (ref_num w0.heap.size v4 (numB lv 1 ++ flagB p.last ++ textB p.low ++ textB p.high) sd 2 (by omega) (by omega) w4 HO4.out hs4 (by have := HLO.out; rw [List.length_append, List.length_append, List.length_append, numB_length, textB_length, textB_length]; simp only [flagB, List.length_cons, List.length_nil]; omega)).mono ?_; rintro e w5 ⟨v5, rfl, hO5, hG5⟩; have HO5 := Lib.hid hO5; have HB5 := Lib.hid (HB4.out.trans (hG5.below hs4 HO4.out.block)); have hs5 := HB5.out.size; obtain ⟨d0, d1, d2, d3, d4, d5, d6⟩ := Blk.cells7 (HP.out.below HB5.out HP.out.lt); clear HO4 hO5 hG5))
  have hl5 : (numB lv 1 ++ flagB p.last ++ textB p.low ++ textB p.high ++ numB sd 2).length ≤ 100 := by
    have := HLO.out
    rw [List.length_append, List.length_append, List.length_append, List.length_append, numB_length, numB_length, textB_length, textB_length]; simp only [flagB, List.length_cons, List.length_nil]; omega
  go_wp2_with (at_builtin; refine app1 w5 rfl (.tmp 26) (.tmp 35) rfl w0.heap.size v5 _ (ni + nk) _ (by push_cast; rfl) rfl HO5.out rfl (by omega) hs5 ?_; intro v6 w6 hO6 hG6)
  have HO6 : Hid (OwnB w6 w0.heap.size v6 p.head) := Lib.hid (by
    have h := hO6
    unfold Page.head
    rw [← HLV.out, ← HSD.out, ← HNI.out, ← HNK.out, numB_one (n := ni + nk) (by omega)]
    rw [List.append_assoc, List.append_assoc, List.append_assoc, List.append_assoc] at h
    exact h)
  have HB6 := Lib.hid (HB5.out.trans (hG6.below hs5 HO5.out.block))
  clear hO6 hG6 HO5 hl5
  go_loopw [3, 4] (fun v i wr => ∃ k : Nat, k ≤ ni ∧ i = .int .i64 k ∧ Hid (OwnB wr w0.heap.size v (p.head ++ (p.items.take k).flatMap Item.bytes)) ∧ Hid (Below w0.heap.size w0 wr)) (fun _ i _ => ni - (intOf i).toNat)
  case atStart => exact ⟨0, Nat.zero_le _, rfl, Lib.hid (by simpa using HO6.out), HB6⟩
  case round =>
    obtain ⟨k, hk, rfl, HOr, HBr⟩ := hrel
    have hsr := HBr.out.size
    obtain ⟨z0, z1, z2, z3, z4, z5, z6⟩ := Blk.cells7 (HP.out.below HBr.out HP.out.lt)
    by_cases hlt : k < ni
    · obtain ⟨ad, x, rfl, hx, h1, h2, c0, c1, c2, c3⟩ := ((H1.out.items.below HB.out).below (HBr.out.mono HB.out.size)).item (i := k) (by rw [← HNI.out]; exact hlt)
      have hxm : x ∈ p.items := List.mem_of_getElem? hx.out
      have HXA := Lib.hid (HF.out.its x hxm)
      have HXB := Lib.hid (HF2.out.its x hxm)
      clear hxm
      go_wp2_with (go_at_call 84; refine (ref_Item w0.heap.size u3 _ x HXA.out.1 HXB.out wr HOr.out hsr (by
        have := HXA.out
        have := HF.out.head_len
        have := HF.out.items_len k
        rw [List.length_append]; omega)).mono ?_; rintro e w7 ⟨v7, rfl, hO7, hG7⟩; have HO7 := Lib.hid hO7; have HB7 := Lib.hid (HBr.out.trans (hG7.below hsr HOr.out.block)); clear hO7 hG7)
      go_roundw
      case rel => exact ⟨k + 1, by omega, by go_num, Lib.hid (by
        rw [take_flat' Item.bytes hx.out, ← List.append_assoc]
        exact HO7.out), HB7⟩
      case measure => simp [intOf]; omega
    · obtain rfl : k = ni := by omega
      have HOi : Hid (OwnB wr w0.heap.size u3 (p.head ++ p.items.flatMap Item.bytes)) := Lib.hid (by
        have := HOr.out
        rw [HNI.out, List.take_length] at this
        exact this)
      go_wp2
      go_loopw [3, 5] (fun v i wr => ∃ j : Nat, j ≤ nk ∧ i = .int .i64 j ∧ Hid (OwnB wr w0.heap.size v ((p.head ++ p.items.flatMap Item.bytes) ++ (p.kids.take j).flatMap Kid.bytes)) ∧ Hid (Below w0.heap.size w0 wr)) (fun _ i _ => nk - (intOf i).toNat)
      case atStart => exact ⟨0, Nat.zero_le _, rfl, Lib.hid (by simpa using HOi.out), HBr⟩
      case round =>
        obtain ⟨j, hj, rfl, HOs, HBs⟩ := hrel
        have hss := HBs.out.size
        clear z0 z1 z2 z3 z4 z5 z6
        obtain ⟨z0, z1, z2, z3, z4, z5, z6⟩ := Blk.cells7 (HP.out.below HBs.out HP.out.lt)
        by_cases hlt2 : j < nk
        · obtain ⟨ad, x, rfl, hx, h1, h2, c0, c1⟩ := ((H1.out.kids.below HB.out).below (HBs.out.mono HB.out.size)).kid (i := j) (by rw [← HNK.out]; exact hlt2)
          have hxm : x ∈ p.kids := List.mem_of_getElem? hx.out
          have HXA := Lib.hid (HF.out.kds x hxm)
          have HXB := Lib.hid (HF2.out.kds x hxm)
          obtain ⟨xn, hxn⟩ : ∃ n, n = x.page.toNat := ⟨_, rfl⟩
          have hxn' : x.page = (xn : Int) := by have := HXA.out; omega
          have hxnb : xn ≤ 512 := by have := HXB.out; omega
          rw [hxn'] at c1
          have HXN := Lib.hid hxn
          clear hxn hxn' hxm
          have hLEN : (p.head ++ p.items.flatMap Item.bytes ++ (p.kids.take j).flatMap Kid.bytes).length ≤ 20000 := by
            have := HF.out.head_len
            have := HF.out.kids_len j
            have := HF.out.items_len p.items.length
            rw [List.take_length] at this
            rw [List.length_append, List.length_append]; omega
          have HLEN := Lib.hid hLEN
          clear hLEN
          go_wp2_with (first
            | (go_at_call 82; refine (ref_text w0.heap.size u3 _ x.key wr HOs.out hss (by have := HLEN.out; have := HXA.out; omega)).mono ?_; rintro e w7 ⟨v7, rfl, hO7, hG7⟩; have HO7 := Lib.hid hO7; have hb7 : Below w0.heap.size wr w7 := hG7.below hss HOs.out.block; have HB7 := Lib.hid (HBs.out.trans hb7); have hs7 := HB7.out.size; obtain ⟨y0, y1, y2, y3, y4, y5, y6⟩ := Blk.cells7 (HP.out.below HB7.out HP.out.lt); have y7 : w7.cell? (ad.add (j * 2)) = some (.string x.key) := (hb7.cell (by rw [block_of_add]; have := HB.out.size; omega)).trans c0; have y8 : w7.cell? ⟨(ad.add (j * 2)).block, (ad.add (j * 2)).off + 1, none⟩ = some (.int .i64 xn) := (hb7.cell (by rw [block_of_add]; have := HB.out.size; omega)).trans c1; clear hO7 hG7 hb7)
            | (go_at_call 83; refine (ref_num w0.heap.size v7 _ xn 2 (by omega) (by omega) w7 HO7.out hs7 (by have := HLEN.out; have := HXA.out; rw [List.length_append, textB_length]; omega)).mono ?_; rintro e w8 ⟨v8, rfl, hO8, hG8⟩; have HO8 := Lib.hid hO8; have HB8 := Lib.hid (HB7.out.trans (hG8.below hs7 HO7.out.block)); clear hO8 hG8))
          go_roundw
          case rel => exact ⟨j + 1, by omega, by go_num, Lib.hid (by
            rw [take_flat' Kid.bytes hx.out]
            unfold Kid.bytes
            have h := HO8.out
            rw [HXN.out, List.append_assoc _ (textB x.key), List.append_assoc _ _ (textB x.key ++ _)] at h
            exact h), HB8⟩
          case measure => simp [intOf]; omega
        · obtain rfl : j = nk := by omega
          go_wp2
          go_ret
          exact ⟨_, rfl, by
            have := HOs.out
            rw [HNK.out, List.take_length, List.append_assoc] at this
            exact (OwnB.mono this HB.out.size), HB.out.trans (HBs.out.mono HB.out.size)⟩
end Go.Proofs.Ytjbdmaehomhdeaa
