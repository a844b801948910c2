/- The reference's small functions: the same words as the program's. -/
import Derived.Test.YtjbdmaehomhdeaaGreatZB
import Derived.Test.YtjbdmaehomhdeaaGreatZA
set_option linter.unusedSimpArgs false
set_option linter.unusedVariables false
namespace Go.Proofs.YtjbdmaehomhdeaaGreat
open Go.RowKit

set_option maxHeartbeats 400000 in
theorem ref_key (s : ByteArray) (w : World) :
    Calls Tryz.prog 77 #[.string s] w fun e w' => e = .returned (.bool (isKey s)) ∧ w = w' := by
  go_enter Tryz.func77, Tryz.ntmps77
  go_wp2
  all_goals go_ret
  all_goals exact ⟨ret_bool (by first | exact isKey_yes ‹_› | exact isKey_no ‹_›), rfl⟩

set_option maxHeartbeats 400000 in
theorem ref_number (n : Int) (w : World) :
    Calls Tryz.prog 78 #[.int .i64 n] w fun e w' => e = .returned (.bool (isPage n)) ∧ w = w' := by
  go_enter Tryz.func78, Tryz.ntmps78
  go_wp2
  all_goals go_ret
  all_goals exact ⟨ret_bool (by first | exact isPage_yes ‹_› | exact isPage_no ‹_›), rfl⟩

set_option maxHeartbeats 400000 in
theorem ref_Covers (p : Page) (A A' : Option Addr) (n c n' c' : Nat) (k : ByteArray) (w : World)  :
    Calls Tryz.prog 55 #[p.raw A n c A' n' c', .string k] w fun e w' => e = .returned (.bool (p.covers k)) ∧ Below w.heap.size w w' := by
  unfold Page.raw
  go_enter Tryz.func55, Tryz.ntmps55
  go_wp2
  all_goals go_ret
  all_goals refine ⟨?_, (Below.refl _ _).alloc (Nat.le_refl _) _⟩
  all_goals simp_all [Page.covers, lt]

set_option maxHeartbeats 1000000 in
theorem ref_CheckItem (x : Item) (w : World) :
    Calls Tryz.prog 62 #[x.val] w fun e w' => e = .returned (.int .i64 x.check) ∧ Below w.heap.size w w' := by
  unfold Item.val
  go_enter Tryz.func62, Tryz.ntmps62
  go_wp2
  all_goals go_ret
  all_goals refine ⟨ret_i64 ?_, (Below.refl _ _).alloc (Nat.le_refl _) _⟩
  all_goals unfold Item.check Item.May isKey
  all_goals grind
end Go.Proofs.YtjbdmaehomhdeaaGreat

namespace Go.Proofs.YtjbdmaehomhdeaaGreat
open Go.RowKit

set_option maxHeartbeats 1000000 in
theorem ref_flag (base : Nat) (v : Value) (bs : List Nat) (b : Bool) (w : World) (hown : OwnB w base v bs) (hbase : base ≤ w.heap.size) (hlen : bs.length ≤ 1099511627776) :
    Calls Tryz.prog 65 #[v, .bool b] w (PostG w base v (bs ++ flagB b)) := by
  cases b
  · go_enter Tryz.func65, Tryz.ntmps65
    go_wp2_with (at_builtin; refine app1 w rfl (.tmp 9) (.tmp 10) rfl base v bs 0 _ rfl rfl hown rfl hlen hbase ?_; intro v1 w1 hO1 hG1)
    go_ret
    exact ⟨_, rfl, hO1, hG1⟩
  · go_enter Tryz.func65, Tryz.ntmps65
    go_wp2_with (at_builtin; refine app1 w rfl (.tmp 6) (.tmp 7) rfl base v bs 1 _ rfl rfl hown rfl hlen hbase ?_; intro v1 w1 hO1 hG1)
    go_ret
    exact ⟨_, rfl, hO1, hG1⟩

set_option maxRecDepth 100000 in
set_option maxHeartbeats 1000000 in
theorem ref_text (base : Nat) (v : Value) (bs : List Nat) (s : ByteArray) (w : World) (hown : OwnB w base v bs) (hbase : base ≤ w.heap.size) (hlen : bs.length + 1 + s.size ≤ 1099511627776) :
    Calls Tryz.prog 63 #[v, .string s] w (PostG w base v (bs ++ textB s)) := by
  have HL := Lib.hid hlen
  clear hlen
  go_enter Tryz.func63, Tryz.ntmps63
  go_wp2_with (first
    | (at_builtin; refine app1 w rfl (.tmp 5) (.tmp 9) rfl base v bs (s.size % 256) _ (Int.natCast_emod _ _).symm rfl hown rfl (by have := HL.out; omega) hbase ?_; intro v1 w1 hO1 hG1)
    | (at_builtin; refine appS w1 rfl (.tmp 11) (.tmp 12) rfl base v1 _ s rfl hO1 rfl (by have := HL.out; rw [List.length_append, List.length_singleton]; omega) (Nat.le_trans hbase hG1.grown.size) ?_; intro v2 w2 hO2 hG2))
  go_ret
  exact ⟨_, rfl, by simpa [textB, List.append_assoc] using hO2, hG1.trans hG2⟩

set_option maxRecDepth 100000 in
set_option maxHeartbeats 1000000 in
theorem ref_num (base : Nat) (v : Value) (bs : List Nat) (n k : Nat) (hk : k ≤ 7) (hn : n ≤ 9223372036854775807) (w : World) (hown : OwnB w base v bs) (hbase : base ≤ w.heap.size) (hlen : bs.length + 7 ≤ 1099511627776) :
    Calls Tryz.prog 64 #[v, .int .i64 n, .int .i64 k] w (PostG w base v (bs ++ numB n k)) := by
  have HL := Lib.hid hlen
  clear hlen
  go_enter Tryz.func64, Tryz.ntmps64
  go_wp2
  go_loopw [0, 1, 7] (fun u m i wr => ∃ j : Nat, j ≤ k ∧ i = .int .i64 j ∧ m = .int .i64 ((n / 256 ^ j : Nat) : Int) ∧ Hid (OwnB wr base u (bs ++ numB n j)) ∧ Hid (Grew w wr v u)) (fun _ _ i _ => k - (intOf i).toNat)
  case atStart => exact ⟨0, Nat.zero_le _, rfl, by simp, Lib.hid (by simpa [numB] using hown), Lib.hid (Grew.refl _ _)⟩
  case round =>
    obtain ⟨j, hj, rfl, rfl, HO, HG⟩ := hrel
    obtain ⟨m, hm⟩ : ∃ m, m = n / 256 ^ j := ⟨_, rfl⟩
    rw [← hm]
    have HM := Lib.hid hm
    have hmn : m ≤ 9223372036854775807 := by rw [hm]; exact Nat.le_trans (Nat.div_le_self _ _) hn
    clear hm
    by_cases hlt : j < k
    · have hlj : (bs ++ numB n j).length ≤ 1099511627776 := by have := HL.out; rw [List.length_append, numB_length]; omega
      go_wp2_with (at_builtin; refine app1 wr rfl (.tmp 13) (.tmp 17) rfl base u0 (bs ++ numB n j) (m % 256) _ (Int.natCast_emod _ _).symm rfl HO.out rfl hlj (Nat.le_trans hbase HG.out.grown.size) ?_; intro v1 w1 hO1 hG1)
      go_roundw
      case rel =>
        refine ⟨j + 1, by omega, by go_num, ?_, Lib.hid ?_, Lib.hid (HG.out.trans hG1)⟩
        · have : n / 256 ^ (j + 1) = m / 256 := by rw [Nat.pow_succ, ← Nat.div_div_eq_div_mul, HM.out]
          rw [this, Int.natCast_ediv]; rfl
        · have h := hO1
          rw [HM.out, List.append_assoc] at h
          exact h
      case measure => simp [intOf]; omega
    · obtain rfl : j = k := by omega
      go_wp2
      go_ret
      exact ⟨_, rfl, HO.out, HG.out⟩

set_option maxRecDepth 100000 in
set_option maxHeartbeats 1000000 in
theorem ref_Item (base : Nat) (v : Value) (bs : List Nat) (x : Item) (hx : 0 ≤ x.no) (hx2 : x.no ≤ 1099511627776) (w : World) (hown : OwnB w base v bs) (hbase : base ≤ w.heap.size) (hlen : bs.length + 100 + x.key.size + x.value.size ≤ 1099511627776) :
    Calls Tryz.prog 35 #[v, x.val] w (fun e w' => ∃ v', e = .returned v' ∧ OwnB w' base v' (bs ++ x.bytes) ∧ Grew w w' v v') := by
  unfold Item.val
  obtain ⟨n, hn⟩ : ∃ n, n = x.no.toNat := ⟨_, rfl⟩
  have hn' : x.no = (n : Int) := by omega
  rw [hn']
  have hn2 : n ≤ 1099511627776 := by omega
  have HN := Lib.hid hn
  have HL := Lib.hid hlen
  clear hn hn' hx hx2 hlen
  go_enter Tryz.func35, Tryz.ntmps35
  go_upto_region 1 with (fail)
  have hX := Blk.new w 23 #[Value.string x.key, Value.string x.value, Value.int IntKind.i64 n, Value.bool x.gone]
  have hO0 := hown.later ((Below.refl w.heap.size w).alloc (Nat.le_refl _) (Obj.cells #[Value.string x.key, Value.string x.value, Value.int IntKind.i64 n, Value.bool x.gone] 23))
  have hG0 : Grew w (w.alloc (Obj.cells #[Value.string x.key, Value.string x.value, Value.int IntKind.i64 n, Value.bool x.gone] 23)) v v := Grew.of_below ((Below.refl w.heap.size w).alloc (Nat.le_refl _) _) v
  have hvlt := hown.lt
  generalize (w.alloc (Obj.cells #[Value.string x.key, Value.string x.value, Value.int IntKind.i64 n, Value.bool x.gone] 23)) = w0 at *
  have HX := Lib.hid hX
  have HO0 := Lib.hid hO0
  have HG0 := Lib.hid hG0
  have HV := Lib.hid hvlt
  have hb0 : base ≤ w0.heap.size := Nat.le_trans hbase hG0.grown.size
  obtain ⟨a0, a1, a2, a3⟩ := Blk.cells4 hX
  clear hX hO0 hG0 hvlt
  go_wp2_with (first
    | (go_at_call 63; refine (ref_text base v bs x.key w0 HO0.out hb0 (by have := HL.out; omega)).mono ?_; rintro e w1 ⟨v1, rfl, hO1, hG1⟩; have HO1 := Lib.hid hO1; have HZ1 := Lib.hid hG1; have hb1 : base ≤ w1.heap.size := Nat.le_trans hb0 hG1.grown.size; obtain ⟨b0, b1, b2, b3⟩ := Blk.cells4 (HX.out.grew HZ1.out HV.out); clear HO0 hO1 hG1)
    | (go_at_call 64; refine (ref_num base v1 (bs ++ textB x.key) n 6 (by omega) (by omega) w1 HO1.out hb1 (by have := HL.out; rw [List.length_append, textB_length]; omega)).mono ?_; rintro e w2 ⟨v2, rfl, hO2, hG2⟩; have HO2 := Lib.hid hO2; have HZ2 := Lib.hid (HZ1.out.trans hG2); have hb2 : base ≤ w2.heap.size := Nat.le_trans hb1 hG2.grown.size; obtain ⟨c0, c1, c2, c3⟩ := Blk.cells4 (HX.out.grew HZ2.out HV.out); clear HO1 HZ1 hO2 hG2)
    | (go_at_call 65; refine (ref_flag base v2 (bs ++ textB x.key ++ numB n 6) x.gone w2 HO2.out hb2 (by have := HL.out; rw [List.length_append, List.length_append, textB_length, numB_length]; omega)).mono ?_; rintro e w3 ⟨v3, rfl, hO3, hG3⟩; have HO3 := Lib.hid hO3; have HZ3 := Lib.hid (HZ2.out.trans hG3); have hb3 : base ≤ w3.heap.size := Nat.le_trans hb2 hG3.grown.size; obtain ⟨d0, d1, d2, d3⟩ := Blk.cells4 (HX.out.grew HZ3.out HV.out); clear HO2 HZ2 hO3 hG3)
    | (go_at_call 63; refine (ref_text base v3 (bs ++ textB x.key ++ numB n 6 ++ flagB x.gone) x.value w3 HO3.out hb3 (by have := HL.out; rw [List.length_append, List.length_append, List.length_append, textB_length, numB_length]; simp only [flagB, List.length_cons, List.length_nil]; omega)).mono ?_; rintro e w4 ⟨v4, rfl, hO4, hG4⟩; have HO4 := Lib.hid hO4; have HZ4 := Lib.hid (HZ3.out.trans hG4); clear HO3 HZ3 hO4 hG4))
  go_ret
  exact ⟨v4, rfl, by
    have h := HO4.out
    rw [HN.out, List.append_assoc, List.append_assoc, List.append_assoc] at h
    exact h, HG0.out.trans HZ4.out⟩
end Go.Proofs.YtjbdmaehomhdeaaGreat

namespace Go.Proofs.YtjbdmaehomhdeaaGreat
open Go.RowKit

/-- bounds that the reference's numbers want -/
structure Page.Fine2 (p : Page) : Prop where
  lv : p.level ≤ 7
  sd : p.side ≤ 512
  its : ∀ x ∈ p.items, x.no ≤ 1099511627776
  kds : ∀ x ∈ p.kids, x.page ≤ 512

theorem own_one (w : World) (b : Nat) : OwnB (w.alloc (.cells #[.int .u8 (b : Int)] 5)) w.heap.size (.slice (some ⟨w.heap.size, 0, none⟩) 1 1) [b] :=
  ⟨rfl, .inr ⟨w.heap.size, 1, #[.int .u8 (b : Int)], rfl, Nat.le_refl _, heap_alloc_new w _, Nat.le_refl _, by simp [maxLen], rfl, rfl⟩⟩
theorem numB_one {n : Nat} (h : n ≤ 255) : numB n 1 = [n] := by
  simp [numB]; omega

set_option maxRecDepth 100000 in
set_option maxHeartbeats 4000000 in
theorem ref_bytes (p : Page) (A A' : Option Addr) (c c' lo : Nat) (w : World) (hp : Pg w lo w.heap.size p A A' c c') (hf : p.Fine) (hf2 : p.Fine2) :
    Calls Tryz.prog 66 #[p.val A c A' c'] w (PostB w p.bytes) := by
  have H1 := Lib.hid hp
  have HF := Lib.hid hf
  have HF2 := Lib.hid hf2
  unfold Page.val Page.raw
  obtain ⟨ni, hni⟩ : ∃ n, n = p.items.length := ⟨_, rfl⟩
  obtain ⟨nk, hnk⟩ : ∃ n, n = p.kids.length := ⟨_, rfl⟩
  obtain ⟨lv, hlv⟩ : ∃ n, n = p.level.toNat := ⟨_, rfl⟩
  obtain ⟨sd, hsd⟩ : ∃ n, n = p.side.toNat := ⟨_, rfl⟩
  have hlv' : p.level = (lv : Int) := by have := hf.lv; omega
  have hsd' : p.side = (sd : Int) := by have := hf.sd; omega
  have hsdb : sd ≤ 512 := by have := hf2.sd; omega
  have hlvb : lv ≤ 7 := by have := hf2.lv; omega
  have hni' : ni ≤ 120 := by have := hf.ni; omega
  have hnk' : nk ≤ 120 := by have := hf.nk; omega
  rw [← hni, ← hnk, hlv', hsd']
  have HNI := Lib.hid hni
  have HNK := Lib.hid hnk
  have HLV := Lib.hid hlv
  have HSD := Lib.hid hsd
  have HLO : Hid (p.low.size ≤ 16 ∧ p.high.size ≤ 16) := Lib.hid ⟨hf.low, hf.high⟩
  clear hni hnk hp hf hf2 hlv hsd hlv' hsd'
  go_enter Tryz.func66, Tryz.ntmps66
  go_upto_region 1 with (fail)
  have hP : Blk (w.alloc (Obj.cells #[Value.int IntKind.i64 lv, Value.string p.low, Value.string p.high, Value.bool p.last, Value.int IntKind.i64 sd, Value.slice A ni c, Value.slice A' nk c'] 27)) w.heap.size 27 #[Value.int IntKind.i64 lv, Value.string p.low, Value.string p.high, Value.bool p.last, Value.int IntKind.i64 sd, Value.slice A ni c, Value.slice A' nk c'] := Blk.new _ _ _
  have hB : Below w.heap.size w (w.alloc (Obj.cells #[Value.int IntKind.i64 lv, Value.string p.low, Value.string p.high, Value.bool p.last, Value.int IntKind.i64 sd, Value.slice A ni c, Value.slice A' nk c'] 27)) := (Below.refl _ _).alloc (Nat.le_refl _) _
  generalize (w.alloc (Obj.cells #[Value.int IntKind.i64 lv, Value.string p.low, Value.string p.high, Value.bool p.last, Value.int IntKind.i64 sd, Value.slice A ni c, Value.slice A' nk c'] 27)) = w0 at *
  have HP := Lib.hid hP
  have HB := Lib.hid hB
  obtain ⟨q0, q1, q2, q3, q4, q5, q6⟩ := Blk.cells7 hP
  clear hP hB
  go_upto_region 2 with (fail)
  have hO0 : OwnB (w0.alloc (Obj.cells #[Value.int IntKind.u8 lv] 5)) w0.heap.size (.slice (some ⟨w0.heap.size, 0, none⟩) 1 1) (numB lv 1) := by rw [numB_one (by omega)]; exact own_one w0 lv
  have hB0 : Below w0.heap.size w0 (w0.alloc (Obj.cells #[Value.int IntKind.u8 lv] 5)) := (Below.refl _ _).alloc (Nat.le_refl _) _
  generalize (w0.alloc (Obj.cells #[Value.int IntKind.u8 lv] 5)) = w1 at *
  have HO0 := Lib.hid hO0
  have HB0 := Lib.hid hB0
  clear hO0 hB0
  clear q0 q1 q2 q3 q4 q5 q6
  obtain ⟨q0, q1, q2, q3, q4, q5, q6⟩ := Blk.cells7 (HP.out.below HB0.out HP.out.lt)
  have hs1 := HB0.out.size
  go_upto_region 6 with (first
    | (go_at_call 65; refine (ref_flag w0.heap.size _ (numB lv 1) p.last w1 HO0.out hs1 (by rw [numB_length]; omega)).mono ?_; rintro e w2 ⟨v2, rfl, hO2, hG2⟩; have HO2 := Lib.hid hO2; have HB2 := Lib.hid (HB0.out.trans (hG2.below hs1 HO0.out.block)); have hs2 := HB2.out.size; obtain ⟨a0, a1, a2, a3, a4, a5, a6⟩ := Blk.cells7 (HP.out.below HB2.out HP.out.lt); clear HO0 hO2 hG2)
    | (go_at_call 63; refine (ref_text w0.heap.size v2 (numB lv 1 ++ flagB p.last) p.low w2 HO2.out hs2 (by have := HLO.out; rw [List.length_append, numB_length]; simp only [flagB, List.length_cons, List.length_nil]; omega)).mono ?_; rintro e w3 ⟨v3, rfl, hO3, hG3⟩; have HO3 := Lib.hid hO3; have HB3 := Lib.hid (HB2.out.trans (hG3.below hs2 HO2.out.block)); have hs3 := HB3.out.size; obtain ⟨b0, b1, b2, b3, b4, b5, b6⟩ := Blk.cells7 (HP.out.below HB3.out HP.out.lt); clear HO2 hO3 hG3)
    | (go_at_call 63; refine (ref_text w0.heap.size v3 (numB lv 1 ++ flagB p.last ++ textB p.low) p.high w3 HO3.out hs3 (by have := HLO.out; rw [List.length_append, List.length_append, numB_length, textB_length]; simp only [flagB, List.length_cons, List.length_nil]; omega)).mono ?_; rintro e w4 ⟨v4, rfl, hO4, hG4⟩; have HO4 := Lib.hid hO4; have HB4 := Lib.hid (HB3.out.trans (hG4.below hs3 HO3.out.block)); have hs4 := HB4.out.size; obtain ⟨c0, c1, c2, c3, c4, c5, c6⟩ := Blk.cells7 (HP.out.below HB4.out HP.out.lt); clear HO3 hO4 hG4)
    | (go_at_call 64; refine (ref_num w0.heap.size v4 (numB lv 1 ++ flagB p.last ++ textB p.low ++ textB p.high) sd 2 (by omega) (by omega) w4 HO4.out hs4 (by have := HLO.out; rw [List.length_append, List.length_append, List.length_append, numB_length, textB_length, textB_length]; simp only [flagB, List.length_cons, List.length_nil]; omega)).mono ?_; rintro e w5 ⟨v5, rfl, hO5, hG5⟩; have HO5 := Lib.hid hO5; have HB5 := Lib.hid (HB4.out.trans (hG5.below hs4 HO4.out.block)); have hs5 := HB5.out.size; obtain ⟨d0, d1, d2, d3, d4, d5, d6⟩ := Blk.cells7 (HP.out.below HB5.out HP.out.lt); clear HO4 hO5 hG5))
  have hl5 : (numB lv 1 ++ flagB p.last ++ textB p.low ++ textB p.high ++ numB sd 2).length ≤ 100 := by
    have := HLO.out
    rw [List.length_append, List.length_append, List.length_append, List.length_append, numB_length, numB_length, textB_length, textB_length]; simp only [flagB, List.length_cons, List.length_nil]; omega
  go_wp2_with (at_builtin; refine app1 w5 rfl (.tmp 26) (.tmp 35) rfl w0.heap.size v5 _ (ni + nk) _ (by push_cast; rfl) rfl HO5.out rfl (by omega) hs5 ?_; intro v6 w6 hO6 hG6)
  have HO6 : Hid (OwnB w6 w0.heap.size v6 p.head) := Lib.hid (by
    have h := hO6
    unfold Page.head
    rw [← HLV.out, ← HSD.out, ← HNI.out, ← HNK.out, numB_one (n := ni + nk) (by omega)]
    rw [List.append_assoc, List.append_assoc, List.append_assoc, List.append_assoc] at h
    exact h)
  have HB6 := Lib.hid (HB5.out.trans (hG6.below hs5 HO5.out.block))
  clear hO6 hG6 HO5 hl5
  go_loopw [3, 4] (fun v i wr => ∃ k : Nat, k ≤ ni ∧ i = .int .i64 k ∧ Hid (OwnB wr w0.heap.size v (p.head ++ (p.items.take k).flatMap Item.bytes)) ∧ Hid (Below w0.heap.size w0 wr)) (fun _ i _ => ni - (intOf i).toNat)
  case atStart => exact ⟨0, Nat.zero_le _, rfl, Lib.hid (by simpa using HO6.out), HB6⟩
  case round =>
    obtain ⟨k, hk, rfl, HOr, HBr⟩ := hrel
    have hsr := HBr.out.size
    obtain ⟨z0, z1, z2, z3, z4, z5, z6⟩ := Blk.cells7 (HP.out.below HBr.out HP.out.lt)
    by_cases hlt : k < ni
    · obtain ⟨ad, x, rfl, hx, h1, h2, c0, c1, c2, c3⟩ := ((H1.out.items.below HB.out).below (HBr.out.mono HB.out.size)).item (i := k) (by rw [← HNI.out]; exact hlt)
      have hxm : x ∈ p.items := List.mem_of_getElem? hx.out
      have HXA := Lib.hid (HF.out.its x hxm)
      have HXB := Lib.hid (HF2.out.its x hxm)
      clear hxm
      go_wp2_with (go_at_call 35; refine (ref_Item w0.heap.size u3 _ x HXA.out.1 HXB.out wr HOr.out hsr (by
        have := HXA.out
        have := HF.out.head_len
        have := HF.out.items_len k
        rw [List.length_append]; omega)).mono ?_; rintro e w7 ⟨v7, rfl, hO7, hG7⟩; have HO7 := Lib.hid hO7; have HB7 := Lib.hid (HBr.out.trans (hG7.below hsr HOr.out.block)); clear hO7 hG7)
      go_roundw
      case rel => exact ⟨k + 1, by omega, by go_num, Lib.hid (by
        rw [take_flat' Item.bytes hx.out, ← List.append_assoc]
        exact HO7.out), HB7⟩
      case measure => simp [intOf]; omega
    · obtain rfl : k = ni := by omega
      have HOi : Hid (OwnB wr w0.heap.size u3 (p.head ++ p.items.flatMap Item.bytes)) := Lib.hid (by
        have := HOr.out
        rw [HNI.out, List.take_length] at this
        exact this)
      go_wp2
      go_loopw [3, 5] (fun v i wr => ∃ j : Nat, j ≤ nk ∧ i = .int .i64 j ∧ Hid (OwnB wr w0.heap.size v ((p.head ++ p.items.flatMap Item.bytes) ++ (p.kids.take j).flatMap Kid.bytes)) ∧ Hid (Below w0.heap.size w0 wr)) (fun _ i _ => nk - (intOf i).toNat)
      case atStart => exact ⟨0, Nat.zero_le _, rfl, Lib.hid (by simpa using HOi.out), HBr⟩
      case round =>
        obtain ⟨j, hj, rfl, HOs, HBs⟩ := hrel
        have hss := HBs.out.size
        clear z0 z1 z2 z3 z4 z5 z6
        obtain ⟨z0, z1, z2, z3, z4, z5, z6⟩ := Blk.cells7 (HP.out.below HBs.out HP.out.lt)
        by_cases hlt2 : j < nk
        · obtain ⟨ad, x, rfl, hx, h1, h2, c0, c1⟩ := ((H1.out.kids.below HB.out).below (HBs.out.mono HB.out.size)).kid (i := j) (by rw [← HNK.out]; exact hlt2)
          have hxm : x ∈ p.kids := List.mem_of_getElem? hx.out
          have HXA := Lib.hid (HF.out.kds x hxm)
          have HXB := Lib.hid (HF2.out.kds x hxm)
          obtain ⟨xn, hxn⟩ : ∃ n, n = x.page.toNat := ⟨_, rfl⟩
          have hxn' : x.page = (xn : Int) := by have := HXA.out; omega
          have hxnb : xn ≤ 512 := by have := HXB.out; omega
          rw [hxn'] at c1
          have HXN := Lib.hid hxn
          clear hxn hxn' hxm
          have hLEN : (p.head ++ p.items.flatMap Item.bytes ++ (p.kids.take j).flatMap Kid.bytes).length ≤ 20000 := by
            have := HF.out.head_len
            have := HF.out.kids_len j
            have := HF.out.items_len p.items.length
            rw [List.take_length] at this
            rw [List.length_append, List.length_append]; omega
          have HLEN := Lib.hid hLEN
          clear hLEN
          go_wp2_with (first
            | (go_at_call 63; refine (ref_text w0.heap.size u3 _ x.key wr HOs.out hss (by have := HLEN.out; have := HXA.out; omega)).mono ?_; rintro e w7 ⟨v7, rfl, hO7, hG7⟩; have HO7 := Lib.hid hO7; have hb7 : Below w0.heap.size wr w7 := hG7.below hss HOs.out.block; have HB7 := Lib.hid (HBs.out.trans hb7); have hs7 := HB7.out.size; obtain ⟨y0, y1, y2, y3, y4, y5, y6⟩ := Blk.cells7 (HP.out.below HB7.out HP.out.lt); have y7 : w7.cell? (ad.add (j * 2)) = some (.string x.key) := (hb7.cell (by rw [block_of_add]; have := HB.out.size; omega)).trans c0; have y8 : w7.cell? ⟨(ad.add (j * 2)).block, (ad.add (j * 2)).off + 1, none⟩ = some (.int .i64 xn) := (hb7.cell (by rw [block_of_add]; have := HB.out.size; omega)).trans c1; clear hO7 hG7 hb7)
            | (go_at_call 64; refine (ref_num w0.heap.size v7 _ xn 2 (by omega) (by omega) w7 HO7.out hs7 (by have := HLEN.out; have := HXA.out; rw [List.length_append, textB_length]; omega)).mono ?_; rintro e w8 ⟨v8, rfl, hO8, hG8⟩; have HO8 := Lib.hid hO8; have HB8 := Lib.hid (HB7.out.trans (hG8.below hs7 HO7.out.block)); clear hO8 hG8))
          go_roundw
          case rel => exact ⟨j + 1, by omega, by go_num, Lib.hid (by
            rw [take_flat' Kid.bytes hx.out]
            unfold Kid.bytes
            have h := HO8.out
            rw [HXN.out, List.append_assoc _ (textB x.key), List.append_assoc _ _ (textB x.key ++ _)] at h
            exact h), HB8⟩
          case measure => simp [intOf]; omega
        · obtain rfl : j = nk := by omega
          go_wp2
          go_ret
          exact ⟨_, rfl, by
            have := HOs.out
            rw [HNK.out, List.take_length, List.append_assoc] at this
            exact (OwnB.mono this HB.out.size), HB.out.trans (HBs.out.mono HB.out.size)⟩
end Go.Proofs.YtjbdmaehomhdeaaGreat

namespace Go.Proofs.YtjbdmaehomhdeaaGreat
open Go.RowKit

theorem leafB_no {p : Page} {i : Nat} {x : Item} (hx : p.items[i]? = some x) (h : x.check ≠ 0 ∨ p.covers x.key = false ∨ ∃ j y, i = j + 1 ∧ p.items[j]? = some y ∧ lt y.key x.key = false) : false = p.leafB := by
  unfold Page.leafB
  have hm : x ∈ p.items := List.mem_of_getElem? hx
  have hk : (p.items.map (·.key))[i]? = some x.key := by rw [List.getElem?_map, hx]; rfl
  rcases h with h | h | ⟨j, y, e, hy, hl⟩
  · have : p.items.any (fun x => x.check != 0) = true := List.any_eq_true.2 ⟨x, hm, by simpa using h⟩
    rw [this]; simp
  · rw [← rises_no hk (.inl h)]; simp
  · rw [← rises_no hk (.inr ⟨j, y.key, e, by rw [List.getElem?_map, hy]; rfl, hl⟩)]; simp
theorem leafB_yes {p : Page} (hk : p.kids.length = 0) (hi : p.items.length ≤ 120) (h : ∀ (i : Nat) (x : Item), p.items[i]? = some x → x.check = 0 ∧ p.covers x.key = true ∧ ∀ j y, i = j + 1 → p.items[j]? = some y → lt y.key x.key = true) : true = p.leafB := by
  unfold Page.leafB
  have h1 : p.items.any (fun x => x.check != 0) = false := by
    rw [List.any_eq_false]
    intro x hx
    obtain ⟨i, hi, e⟩ := List.getElem_of_mem hx
    have := (h i x (by rw [List.getElem?_eq_getElem hi, e])).1
    simp [this]
  have h2 : true = rises p (p.items.map (·.key)) := rises_yes (fun i k hik => by
    rw [List.getElem?_map] at hik
    cases hx : p.items[i]? with
    | none => rw [hx] at hik; cases hik
    | some x =>
      rw [hx] at hik; cases hik
      obtain ⟨_, a, b⟩ := h i x hx
      refine ⟨a, fun j u e hu => ?_⟩
      rw [List.getElem?_map] at hu
      cases hy : p.items[j]? with
      | none => rw [hy] at hu; cases hu
      | some y => rw [hy] at hu; cases hu; exact b j y e hy)
  rw [h1, ← h2, hk]; simp [hi]

set_option maxRecDepth 100000 in
set_option maxHeartbeats 4000000 in
theorem ref_leaf (p : Page) (A A' : Option Addr) (c c' lo : Nat) (w : World) (hp : Pg w lo w.heap.size p A A' c c') :
    Calls Tryz.prog 96 #[p.val A c A' c'] w fun e w' => e = .returned (.bool p.leafB) ∧ Below w.heap.size w w' := by
  obtain ⟨h1, h2, h3, h4, h5, h6⟩ := hp
  have H1 := Lib.hid h1
  clear h1 h2 h3 h4 h5 h6
  unfold Page.val Page.raw
  obtain ⟨ni, hni⟩ : ∃ n, n = p.items.length := ⟨_, rfl⟩
  obtain ⟨nk, hnk⟩ : ∃ n, n = p.kids.length := ⟨_, rfl⟩
  rw [← hni, ← hnk]
  have HNI := Lib.hid hni
  have HNK := Lib.hid hnk
  clear hni hnk
  go_enter Tryz.func96, Tryz.ntmps96
  go_upto_region 1 with (fail)
  have hP : PBlk (w.alloc (Obj.cells #[Value.int IntKind.i64 p.level, Value.string p.low, Value.string p.high, Value.bool p.last, Value.int IntKind.i64 p.side, Value.slice A ni c, Value.slice A' nk c'] 27)) w.heap.size p A ni c A' nk c' := Blk.new _ _ _
  have hB : Below w.heap.size w (w.alloc (Obj.cells #[Value.int IntKind.i64 p.level, Value.string p.low, Value.string p.high, Value.bool p.last, Value.int IntKind.i64 p.side, Value.slice A ni c, Value.slice A' nk c'] 27)) := (Below.refl _ _).alloc (Nat.le_refl _) _
  generalize (w.alloc (Obj.cells #[Value.int IntKind.i64 p.level, Value.string p.low, Value.string p.high, Value.bool p.last, Value.int IntKind.i64 p.side, Value.slice A ni c, Value.slice A' nk c'] 27)) = w0 at *
  have HP := Lib.hid hP
  have HB := Lib.hid hB
  clear hP hB
  obtain ⟨q0, q1, q2, q3, q4, q5, q6⟩ := HP.out.cells
  by_cases hk : nk = 0
  · by_cases hi : ni ≤ 120
    · have g1 : ¬ ((nk : Int) > 0) := by omega
      have g2 : ¬ ((ni : Int) > 120) := by omega
      have HK : Hid (p.kids.length = 0) := Lib.hid (by rw [← HNK.out]; exact hk)
      have HI : Hid (p.items.length ≤ 120) := Lib.hid (by rw [← HNI.out]; exact hi)
      go_wp2
      go_loopw [3] (fun i wr => ∃ k : Nat, k ≤ ni ∧ i = .int .i64 k ∧ Hid (Below w0.heap.size w0 wr) ∧
        Hid (∀ (i : Nat) (x : Item), i < k → p.items[i]? = some x → x.check = 0 ∧ p.covers x.key = true ∧ ∀ j y, i = j + 1 → p.items[j]? = some y → lt y.key x.key = true)) (fun i _ => ni - (intOf i).toNat)
      case atStart => exact ⟨0, Nat.zero_le _, rfl, Lib.hid (Below.refl _ _), Lib.hid (fun _ _ h => by omega)⟩
      case round =>
        obtain ⟨k, hk, rfl, hb, hno⟩ := hrel
        clear q0 q1 q2 q3 q4 q5 q6
        have hs := hb.out.size
        obtain ⟨q0, q1, q2, q3, q4, q5, q6⟩ := PBlk.cells (HP.out.below hb.out HP.out.lt)
        by_cases hlt : k < ni
        · obtain ⟨ad, x, rfl, hx, h1, h2, c0, c1, c2, c3⟩ := ((H1.out.below HB.out).below (hb.out.mono HB.out.size)).item (i := k) (by rw [← HNI.out]; exact hlt)
          go_upto_region 7 with (fail)
          have hX := Blk.new wr 23 #[Value.string x.key, Value.string x.value, Value.int IntKind.i64 x.no, Value.bool x.gone]
          have hP5 := (HP.out.below hb.out HP.out.lt).alloc (Obj.cells #[Value.string x.key, Value.string x.value, Value.int IntKind.i64 x.no, Value.bool x.gone] 23)
          have hB5 := hb.out.alloc hb.out.size (Obj.cells #[Value.string x.key, Value.string x.value, Value.int IntKind.i64 x.no, Value.bool x.gone] 23)
          generalize (wr.alloc (Obj.cells #[Value.string x.key, Value.string x.value, Value.int IntKind.i64 x.no, Value.bool x.gone] 23)) = w5 at *
          have HX := Lib.hid hX
          have HP5 := Lib.hid hP5
          have HB5 := Lib.hid hB5
          obtain ⟨x0, x1, x2, x3⟩ := (⟨hX.cell 0, hX.cell 1, hX.cell 2, hX.cell 3⟩ : w5.cell? ⟨wr.heap.size, 0, none⟩ = some (.string x.key) ∧ w5.cell? ⟨wr.heap.size, 1, none⟩ = some (.string x.value) ∧ w5.cell? ⟨wr.heap.size, 2, none⟩ = some (.int .i64 x.no) ∧ w5.cell? ⟨wr.heap.size, 3, none⟩ = some (.bool x.gone))
          clear hX hP5 hB5 q0 q1 q2 q3 q4 q5 q6 c0 c1 c2 c3
          obtain ⟨ec, hec⟩ : ∃ e, e = x.check := ⟨_, rfl⟩
          obtain ⟨bc, hbc⟩ : ∃ b, b = p.covers x.key := ⟨_, rfl⟩
          have HEC := Lib.hid hec
          have HBC := Lib.hid hbc
          clear hec hbc
          go_upto_region 9 with (first
            | (go_at_call 62; refine (ref_CheckItem x w5).mono ?_; rw [← HEC.out]; rintro e w6 ⟨rfl, hb6⟩; have HB6 := Lib.hid (HB5.out.trans (hb6.mono HB5.out.size)); have HX6 := Lib.hid (HX.out.below hb6 HX.out.lt); obtain ⟨y0, y1, y2, y3⟩ := (⟨HX6.out.cell 0, HX6.out.cell 1, HX6.out.cell 2, HX6.out.cell 3⟩ : w6.cell? ⟨wr.heap.size, 0, none⟩ = some (.string x.key) ∧ w6.cell? ⟨wr.heap.size, 1, none⟩ = some (.string x.value) ∧ w6.cell? ⟨wr.heap.size, 2, none⟩ = some (.int .i64 x.no) ∧ w6.cell? ⟨wr.heap.size, 3, none⟩ = some (.bool x.gone)); have HP6 := Lib.hid (HP5.out.below hb6 HP5.out.lt); obtain ⟨a0, a1, a2, a3, a4, a5, a6⟩ := PBlk.cells HP6.out; clear hb6)
            | (go_at_call 55; refine (ref_Covers p _ _ _ _ _ _ x.key w6).mono ?_; rw [← HBC.out]; rintro e w7 ⟨rfl, hb7⟩; have HB7 := Lib.hid (HB6.out.trans (hb7.mono HB6.out.size)); have HX7 := Lib.hid (HX6.out.below hb7 HX6.out.lt); have z0 : w7.cell? ⟨wr.heap.size, 0, none⟩ = some (.string x.key) := HX7.out.cell 0; have HP7 := Lib.hid (HP6.out.below hb7 HP6.out.lt); have z5 : w7.cell? ⟨w.heap.size, 5, none⟩ = some (.slice (some ad) ni c) := HP7.out.cell 5; clear hb7))
          by_cases he : ec = 0
          · subst he
            cases bc with
            | false =>
              go_quiet (fail)
              go_wp2
              go_ret
              exact ⟨ret_bool (leafB_no hx.out (.inr (.inl HBC.out.symm))), (HB.out.trans (HB7.out.mono HB.out.size)).trans (below_drewN (Below.refl _ _) nq)⟩
            | true =>
              rcases k with _ | k
              · have hgd : decide ((0 : Int) > 0) = false := by decide
                go_quiet (fail)
                go_wp2
                go_roundw
                case rel => exact ⟨1, by omega, by go_num, Lib.hid (HB7.out.trans (below_drewN (Below.refl _ _) nq)), Lib.hid (fun i z hi hz => by
                  obtain rfl : i = 0 := by omega
                  rw [hx.out] at hz; cases hz
                  exact ⟨HEC.out.symm, HBC.out.symm, fun j _ e => by omega⟩)⟩
                case measure => simp [intOf]; omega
              · obtain ⟨ad', y, e1, hy, _, h4, y0', y1', y2', y3'⟩ := ((H1.out.below HB.out).below (HB7.out.mono HB.out.size)).item (i := k) (by rw [← HNI.out]; omega)
                cases e1
                have hgd : (0 : Int) < ((k + 1 : Nat) : Int) := by omega
                have hsub : ((k + 1 : Nat) : Int) - 1 = (k : Int) := by omega
                have hlt2 : (k : Int) < (ni : Int) := by omega
                cases hl : lt y.key x.key with
                | true =>
                  have HL := Lib.hid hl
                  unfold lt at hl
                  go_quiet (fail)
                  go_wp2
                  go_roundw
                  case rel => exact ⟨k + 1 + 1, by omega, by go_num, Lib.hid (HB7.out.trans (below_drewN (Below.refl _ _) nq)), Lib.hid (fun i z hi hz => by
                    rcases Nat.lt_or_ge i (k + 1) with h | h
                    · exact hno.out i z h hz
                    · obtain rfl : i = k + 1 := by omega
                      rw [hx.out] at hz; cases hz
                      refine ⟨HEC.out.symm, HBC.out.symm, fun j u e hu => ?_⟩
                      obtain rfl : j = k := by omega
                      rw [hy.out] at hu; cases hu
                      exact HL.out)⟩
                  case measure => simp [intOf]; omega
                | false =>
                  have HL := Lib.hid hl
                  unfold lt at hl
                  go_quiet (fail)
                  go_wp2
                  go_ret
                  exact ⟨ret_bool (leafB_no hx.out (.inr (.inr ⟨k, y, rfl, hy.out, HL.out⟩))), (HB.out.trans (HB7.out.mono HB.out.size)).trans (below_drewN (Below.refl _ _) nq)⟩
          · have he1 : (ec == 0) = false := by simpa using he
            have he2 : (ec != 0) = true := by simpa using he
            go_quiet (fail)
            go_wp2
            go_ret
            exact ⟨ret_bool (leafB_no hx.out (.inl (by rw [← HEC.out]; exact he))), (HB.out.trans (HB7.out.mono HB.out.size)).trans (below_drewN (Below.refl _ _) nq)⟩
        · obtain rfl : k = ni := by omega
          go_wp2
          go_ret
          exact ⟨ret_bool (leafB_yes HK.out HI.out (fun i x hx => hno.out i x (by rw [HNI.out]; exact (List.getElem?_eq_some_iff.1 hx).1) hx)), HB.out.trans (hb.out.mono HB.out.size)⟩
    · have g1 : ¬ ((nk : Int) > 0) := by omega
      have g2 : ((ni : Int) > 120) := by omega
      have HI : Hid (¬ p.items.length ≤ 120) := Lib.hid (by rw [← HNI.out]; exact hi)
      go_wp2
      go_ret
      exact ⟨ret_bool (by unfold Page.leafB; simp [HI.out]), HB.out⟩
  · have g1 : ((nk : Int) > 0) := by omega
    have HK : Hid (¬ p.kids.length = 0) := Lib.hid (by rw [← HNK.out]; exact hk)
    go_wp2
    go_ret
    exact ⟨ret_bool (by unfold Page.leafB; rw [decide_eq_false HK.out]; simp), HB.out⟩
end Go.Proofs.YtjbdmaehomhdeaaGreat

namespace Go.Proofs.YtjbdmaehomhdeaaGreat
open Go.RowKit

theorem innerB_no {p : Page} {i : Nat} {x : Kid} (hx : p.kids[i]? = some x) (h : x.bad = true ∨ p.covers x.key = false ∨ ∃ j y, i = j + 1 ∧ p.kids[j]? = some y ∧ lt y.key x.key = false) : false = p.innerB := by
  unfold Page.innerB
  have hm : x ∈ p.kids := List.mem_of_getElem? hx
  have hk : (p.kids.map (·.key))[i]? = some x.key := by rw [List.getElem?_map, hx]; rfl
  rcases h with h | h | ⟨j, y, e, hy, hl⟩
  · have : p.kids.any (fun x => x.bad) = true := List.any_eq_true.2 ⟨x, hm, h⟩
    rw [this]; simp
  · rw [← rises_no hk (.inl h)]; simp
  · rw [← rises_no hk (.inr ⟨j, y.key, e, by rw [List.getElem?_map, hy]; rfl, hl⟩)]; simp
theorem innerB_yes {p : Page} (h0 : p.items.length = 0) (h1 : 1 ≤ p.kids.length) (h2 : p.kids.length ≤ 120) (h3 : p.kids.head?.any (fun x => same x.key p.low) = true)
    (h : ∀ (i : Nat) (x : Kid), p.kids[i]? = some x → x.bad = false ∧ p.covers x.key = true ∧ ∀ j y, i = j + 1 → p.kids[j]? = some y → lt y.key x.key = true) : true = p.innerB := by
  unfold Page.innerB
  have a1 : p.kids.any (fun x => x.bad) = false := by
    rw [List.any_eq_false]
    intro x hx
    obtain ⟨i, hi, e⟩ := List.getElem_of_mem hx
    have := (h i x (by rw [List.getElem?_eq_getElem hi, e])).1
    simp [this]
  have a2 : true = rises p (p.kids.map (·.key)) := rises_yes (fun i k hik => by
    rw [List.getElem?_map] at hik
    cases hx : p.kids[i]? with
    | none => rw [hx] at hik; cases hik
    | some x =>
      rw [hx] at hik; cases hik
      obtain ⟨_, a, b⟩ := h i x hx
      refine ⟨a, fun j u e hu => ?_⟩
      rw [List.getElem?_map] at hu
      cases hy : p.kids[j]? with
      | none => rw [hy] at hu; cases hu
      | some y => rw [hy] at hu; cases hu; exact b j y e hy)
  rw [a1, ← a2, h0, h3]; simp [h1, h2]

set_option maxRecDepth 100000 in
set_option maxHeartbeats 8000000 in
theorem ref_inner (p : Page) (A A' : Option Addr) (c c' lo : Nat) (w : World) (hp : Pg w lo w.heap.size p A A' c c') :
    Calls Tryz.prog 97 #[p.val A c A' c'] w fun e w' => e = .returned (.bool p.innerB) ∧ Below w.heap.size w w' := by
  obtain ⟨h1, h2, h3, h4, h5, h6⟩ := hp
  have H1 := Lib.hid h2
  clear h1 h2 h3 h4
  unfold Page.val Page.raw
  obtain ⟨ni, hni⟩ : ∃ n, n = p.items.length := ⟨_, rfl⟩
  obtain ⟨nk, hnk⟩ : ∃ n, n = p.kids.length := ⟨_, rfl⟩
  rw [← hni, ← hnk]
  have HNI := Lib.hid hni
  have HNK := Lib.hid hnk
  have H6 := Lib.hid h6
  clear hni hnk h5 h6
  go_enter Tryz.func97, Tryz.ntmps97
  go_upto_region 1 with (fail)
  have hP : PBlk (w.alloc (Obj.cells #[Value.int IntKind.i64 p.level, Value.string p.low, Value.string p.high, Value.bool p.last, Value.int IntKind.i64 p.side, Value.slice A ni c, Value.slice A' nk c'] 27)) w.heap.size p A ni c A' nk c' := Blk.new _ _ _
  have hB : Below w.heap.size w (w.alloc (Obj.cells #[Value.int IntKind.i64 p.level, Value.string p.low, Value.string p.high, Value.bool p.last, Value.int IntKind.i64 p.side, Value.slice A ni c, Value.slice A' nk c'] 27)) := (Below.refl _ _).alloc (Nat.le_refl _) _
  generalize (w.alloc (Obj.cells #[Value.int IntKind.i64 p.level, Value.string p.low, Value.string p.high, Value.bool p.last, Value.int IntKind.i64 p.side, Value.slice A ni c, Value.slice A' nk c'] 27)) = w0 at *
  have HP := Lib.hid hP
  have HB := Lib.hid hB
  clear hP hB
  obtain ⟨q0, q1, q2, q3, q4, q5, q6⟩ := HP.out.cells
  have hR0 : Rd Kid.cells 2 w0 lo w0.heap.size A' p.kids := (H1.out.below HB.out).mono (Nat.le_refl _) HB.out.size
  have HR0 := Lib.hid hR0
  clear hR0
  by_cases hi : ni = 0
  · by_cases hk1 : 1 ≤ nk
    · by_cases hk : nk ≤ 120
      · have g1 : ¬ ((ni : Int) > 0) := by omega
        have g2 : ¬ ((nk : Int) < 1) := by omega
        have g3 : ¬ ((nk : Int) > 120) := by omega
        have g4 : (0 : Int) < (nk : Int) := by omega
        have HI : Hid (p.items.length = 0) := Lib.hid (by rw [← HNI.out]; exact hi)
        have HK1 : Hid (1 ≤ p.kids.length) := Lib.hid (by rw [← HNK.out]; exact hk1)
        have HK : Hid (p.kids.length ≤ 120) := Lib.hid (by rw [← HNK.out]; exact hk)
        obtain ⟨ad, x, rfl, hx, _, _, c0, c1⟩ := HR0.out.kid (i := 0) (by rw [← HNK.out]; omega)
        have ha0 : ad.add (0 * 2) = ad := rfl
        rw [ha0] at c0 c1
        have HH : Hid (p.kids.head?.any (fun x => same x.key p.low) = same x.key p.low) := Lib.hid (by rw [List.head?_eq_getElem?, hx.out]; rfl)
        cases hkey : (x.key.toList == p.low.toList) with
        | true =>
          have HE : Hid (same x.key p.low = true) := Lib.hid hkey
          go_quiet (fail)
          obtain ⟨wq, hwq⟩ : ∃ w', w' = w0.drewN nq := ⟨_, rfl⟩
          have HQ : Hid (Below w0.heap.size w0 wq) := Lib.hid (by rw [hwq]; exact below_drewN (Below.refl _ _) nq)
          rw [← hwq]
          clear hwq
          have HRq : Hid (Rd Kid.cells 2 wq lo wq.heap.size (some ad) p.kids) := Lib.hid ((HR0.out.below HQ.out).mono (Nat.le_refl _) HQ.out.size)
          clear q0 q1 q2 q3 q4 q5 q6
          obtain ⟨q0, q1, q2, q3, q4, q5, q6⟩ := PBlk.cells (HP.out.below HQ.out HP.out.lt)
          have HBq : Hid (Below w.heap.size w wq) := Lib.hid (HB.out.trans (HQ.out.mono HB.out.size))
          have HPq : Hid (PBlk wq w.heap.size p A ni c (some ad) nk c') := Lib.hid (HP.out.below HQ.out HP.out.lt)
          clear c0 c1 ha0 hkey
          go_wp2
          go_loopw [3] (fun i wr => ∃ k : Nat, k ≤ nk ∧ i = .int .i64 k ∧ Hid (Below wq.heap.size wq wr) ∧
            Hid (∀ (i : Nat) (x : Kid), i < k → p.kids[i]? = some x → x.bad = false ∧ p.covers x.key = true ∧ ∀ j y, i = j + 1 → p.kids[j]? = some y → lt y.key x.key = true)) (fun i _ => nk - (intOf i).toNat)
          case atStart => exact ⟨0, Nat.zero_le _, rfl, Lib.hid (Below.refl _ _), Lib.hid (fun _ _ h => by omega)⟩
          case round =>
            obtain ⟨k, hk, rfl, hb, hno⟩ := hrel
            clear q0 q1 q2 q3 q4 q5 q6
            have hs := hb.out.size
            obtain ⟨q0, q1, q2, q3, q4, q5, q6⟩ := PBlk.cells (HPq.out.below hb.out HPq.out.lt)
            by_cases hlt : k < nk
            · obtain ⟨ad2, x, e2, hx, h1, h2, c0, c1⟩ := (HRq.out.below hb.out).kid (i := k) (by rw [← HNK.out]; exact hlt)
              cases e2
              go_upto_region 7 with (fail)
              have hX := Blk.new wr 61 #[Value.string x.key, Value.int IntKind.i64 x.page]
              have hP5 := (HPq.out.below hb.out HPq.out.lt).alloc (Obj.cells #[Value.string x.key, Value.int IntKind.i64 x.page] 61)
              have hB5 := hb.out.alloc hb.out.size (Obj.cells #[Value.string x.key, Value.int IntKind.i64 x.page] 61)
              generalize (wr.alloc (Obj.cells #[Value.string x.key, Value.int IntKind.i64 x.page] 61)) = w5 at *
              have HX := Lib.hid hX
              have HP5 := Lib.hid hP5
              have HB5 := Lib.hid hB5
              have x0 : w5.cell? ⟨wr.heap.size, 0, none⟩ = some (.string x.key) := hX.cell 0
              have x1 : w5.cell? ⟨wr.heap.size, 1, none⟩ = some (.int .i64 x.page) := hX.cell 1
              clear q0 q1 q2 q3 q4 q5 q6
              obtain ⟨q0, q1, q2, q3, q4, q5, q6⟩ := PBlk.cells hP5
              clear hX hP5 hB5 c0 c1
              obtain ⟨bp, hbp⟩ : ∃ b, b = isPage x.page := ⟨_, rfl⟩
              obtain ⟨bc, hbc⟩ : ∃ b, b = p.covers x.key := ⟨_, rfl⟩
              have HBP := Lib.hid hbp
              have HBC := Lib.hid hbc
              clear hbp hbc
              go_upto_region 9 with (first
                | (go_at_call 78; refine (ref_number x.page w5).mono ?_; rw [← HBP.out]; rintro e w6 ⟨rfl, rfl⟩)
                | (go_at_call 55; refine (ref_Covers p _ _ _ _ _ _ x.key w5).mono ?_; rw [← HBC.out]; rintro e w7 ⟨rfl, hb7⟩; have HB7 := Lib.hid (HB5.out.trans (hb7.mono HB5.out.size)); have HX7 := Lib.hid (HX.out.below hb7 HX.out.lt); have z0 : w7.cell? ⟨wr.heap.size, 0, none⟩ = some (.string x.key) := HX7.out.cell 0; have HP7 := Lib.hid (HP5.out.below hb7 HP5.out.lt); have z6 : w7.cell? ⟨w.heap.size, 6, none⟩ = some (.slice (some ad) nk c') := HP7.out.cell 6; clear hb7))
              clear q0 q1 q2 q3 q4 q5 q6 x0 x1
              cases bp with
              | false =>
                go_quiet (fail)
                go_wp2
                go_ret
                exact ⟨ret_bool (innerB_no hx.out (.inl (by unfold Kid.bad; rw [← HBP.out]; rfl))), (HBq.out.trans (HB7.out.mono HBq.out.size)).trans (below_drewN (Below.refl _ _) _)⟩
              | true =>
                cases bc with
                | false =>
                  go_quiet (fail)
                  go_wp2
                  go_ret
                  exact ⟨ret_bool (innerB_no hx.out (.inr (.inl HBC.out.symm))), (HBq.out.trans (HB7.out.mono HBq.out.size)).trans (below_drewN (Below.refl _ _) _)⟩
                | true =>
                  by_cases hsz : (x.key.size : Int) > 16
                  · go_quiet (fail)
                    go_wp2
                    go_ret
                    exact ⟨ret_bool (innerB_no hx.out (.inl (by unfold Kid.bad; rw [decide_eq_true hsz]; simp))), (HBq.out.trans (HB7.out.mono HBq.out.size)).trans (below_drewN (Below.refl _ _) _)⟩
                  · have HBD : Hid (x.bad = false) := Lib.hid (by unfold Kid.bad; rw [← HBP.out, decide_eq_false hsz]; rfl)
                    have hsz' : (x.key.size : Int) ≤ 16 := by omega
                    rcases k with _ | k
                    · have hgd : decide ((0 : Int) > 0) = false := by decide
                      go_quiet (fail)
                      go_wp2
                      go_roundw
                      case rel => exact ⟨1, by omega, by go_num, Lib.hid (HB7.out.trans (below_drewN (Below.refl _ _) _)), Lib.hid (fun i z hi hz => by
                        obtain rfl : i = 0 := by omega
                        rw [hx.out] at hz; cases hz
                        exact ⟨HBD.out, HBC.out.symm, fun j _ e => by omega⟩)⟩
                      case measure => simp [intOf]; omega
                    · obtain ⟨ad', y, e1, hy, _, h4, y0', y1'⟩ := (HRq.out.below HB7.out).kid (i := k) (by rw [← HNK.out]; omega)
                      cases e1
                      have hgd : (0 : Int) < ((k + 1 : Nat) : Int) := by omega
                      have hsub : ((k + 1 : Nat) : Int) - 1 = (k : Int) := by omega
                      have hlt2 : (k : Int) < (nk : Int) := by omega
                      cases hl : lt y.key x.key with
                      | true =>
                        have HL := Lib.hid hl
                        unfold lt at hl
                        go_quiet (fail)
                        go_wp2
                        go_roundw
                        case rel => exact ⟨k + 1 + 1, by omega, by go_num, Lib.hid (HB7.out.trans (below_drewN (Below.refl _ _) _)), Lib.hid (fun i z hi hz => by
                          rcases Nat.lt_or_ge i (k + 1) with h | h
                          · exact hno.out i z h hz
                          · obtain rfl : i = k + 1 := by omega
                            rw [hx.out] at hz; cases hz
                            refine ⟨HBD.out, HBC.out.symm, fun j u e hu => ?_⟩
                            obtain rfl : j = k := by omega
                            rw [hy.out] at hu; cases hu
                            exact HL.out)⟩
                        case measure => simp [intOf]; omega
                      | false =>
                        have HL := Lib.hid hl
                        unfold lt at hl
                        go_quiet (fail)
                        go_wp2
                        go_ret
                        exact ⟨ret_bool (innerB_no hx.out (.inr (.inr ⟨k, y, rfl, hy.out, HL.out⟩))), (HBq.out.trans (HB7.out.mono HBq.out.size)).trans (below_drewN (Below.refl _ _) _)⟩
            · obtain rfl : k = nk := by omega
              go_wp2
              go_ret
              exact ⟨ret_bool (innerB_yes HI.out HK1.out HK.out (by rw [HH.out]; exact HE.out) (fun i x hx => hno.out i x (by rw [HNK.out]; exact (List.getElem?_eq_some_iff.1 hx).1) hx)), HBq.out.trans (hb.out.mono HBq.out.size)⟩
        | false =>
          have HE : Hid (same x.key p.low = false) := Lib.hid hkey
          go_quiet (fail)
          go_wp2
          go_ret
          exact ⟨ret_bool (by unfold Page.innerB; rw [HH.out, HE.out]; simp), HB.out.trans ((below_drewN (Below.refl _ _) nq).mono HB.out.size)⟩
      · have g1 : ¬ ((ni : Int) > 0) := by omega
        have g2 : ¬ ((nk : Int) < 1) := by omega
        have g3 : ((nk : Int) > 120) := by omega
        have HK : Hid (¬ p.kids.length ≤ 120) := Lib.hid (by rw [← HNK.out]; exact hk)
        go_quiet (fail)
        go_wp2
        go_ret
        exact ⟨ret_bool (by unfold Page.innerB; simp [HK.out]), HB.out.trans ((below_drewN (Below.refl _ _) nq).mono HB.out.size)⟩
    · have g1 : ¬ ((ni : Int) > 0) := by omega
      have g2 : ((nk : Int) < 1) := by omega
      have HK : Hid (¬ 1 ≤ p.kids.length) := Lib.hid (by rw [← HNK.out]; exact hk1)
      go_quiet (fail)
      go_wp2
      go_ret
      exact ⟨ret_bool (by unfold Page.innerB; rw [decide_eq_false HK.out]; simp), HB.out.trans ((below_drewN (Below.refl _ _) nq).mono HB.out.size)⟩
  · have g1 : ((ni : Int) > 0) := by omega
    have g1' : 0 < ni := by omega
    have HI : Hid (¬ p.items.length = 0) := Lib.hid (by rw [← HNI.out]; exact hi)
    go_quiet (fail)
    go_wp2
    go_ret
    exact ⟨ret_bool (by unfold Page.innerB; rw [decide_eq_false HI.out]; simp), HB.out.trans ((below_drewN (Below.refl _ _) nq).mono HB.out.size)⟩
end Go.Proofs.YtjbdmaehomhdeaaGreat

namespace Go.Proofs.YtjbdmaehomhdeaaGreat
open Go.RowKit

theorem bytesLess_flip : ∀ x y : List UInt8, Op.bytesLess x y = !(Op.bytesLess y x || (y == x))
  | [], [] => by simp [Op.bytesLess]
  | [], b :: y => by simp [Op.bytesLess]
  | a :: x, [] => by simp [Op.bytesLess]
  | a :: x, b :: y => by
    have ih := bytesLess_flip x y
    by_cases h : a = b
    · subst h
      simp [Op.bytesLess, ih]
    · have h' : ¬ b = a := fun e => h e.symm
      rcases Nat.lt_trichotomy a.toNat b.toNat with h1 | h1 | h1
      · have h2 : a < b := UInt8.lt_iff_toNat_lt.2 h1
        have h3 : ¬ b < a := fun e => by have := UInt8.lt_iff_toNat_lt.1 e; omega
        simp [Op.bytesLess, h', h2, h3]
      · exact absurd (UInt8.toNat_inj.1 h1) h
      · have h2 : b < a := UInt8.lt_iff_toNat_lt.2 h1
        have h3 : ¬ a < b := fun e => by have := UInt8.lt_iff_toNat_lt.1 e; omega
        simp [Op.bytesLess, h, h2, h3]

set_option maxRecDepth 100000 in
set_option maxHeartbeats 4000000 in
theorem ref_may (p : Page) (A A' : Option Addr) (c c' lo : Nat) (w : World) (hp : Pg w lo w.heap.size p A A' c c') :
    Calls Tryz.prog 76 #[p.val A c A' c'] w fun e w' => e = .returned (.bool p.ok) ∧ Below w.heap.size w w' := by
  have H1 := Lib.hid hp
  clear hp
  have HLEAF := Lib.hid (fun w1 h => ref_leaf p A A' c c' lo w1 h)
  have HINN := Lib.hid (fun w1 h => ref_inner p A A' c c' lo w1 h)
  unfold Page.val Page.raw at HLEAF HINN
  unfold Page.val Page.raw
  obtain ⟨ni, hni⟩ : ∃ n, n = p.items.length := ⟨_, rfl⟩
  obtain ⟨nk, hnk⟩ : ∃ n, n = p.kids.length := ⟨_, rfl⟩
  obtain ⟨bl, hbl⟩ : ∃ n, n = p.last := ⟨_, rfl⟩
  obtain ⟨lv, hlv⟩ : ∃ n, n = p.level := ⟨_, rfl⟩
  rw [← hni, ← hnk, ← hbl, ← hlv]
  rw [← hni, ← hnk, ← hbl, ← hlv] at HLEAF HINN
  have HLV := Lib.hid hlv
  have HBB : Hid (p.boundsB = (p.bounds1 && p.bounds2 bl)) := Lib.hid (by unfold Page.boundsB; rw [hbl])
  clear hni hnk hbl hlv
  cases bl with
  | false =>
    go_enter Tryz.func76, Tryz.ntmps76
    go_upto_region 1 with (fail)
    have hP : Blk (w.alloc (Obj.cells #[Value.int IntKind.i64 lv, Value.string p.low, Value.string p.high, Value.bool false, Value.int IntKind.i64 p.side, Value.slice A ni c, Value.slice A' nk c'] 27)) w.heap.size 27 #[Value.int IntKind.i64 lv, Value.string p.low, Value.string p.high, Value.bool false, Value.int IntKind.i64 p.side, Value.slice A ni c, Value.slice A' nk c'] := Blk.new _ _ _
    have hB : Below w.heap.size w (w.alloc (Obj.cells #[Value.int IntKind.i64 lv, Value.string p.low, Value.string p.high, Value.bool false, Value.int IntKind.i64 p.side, Value.slice A ni c, Value.slice A' nk c'] 27)) := (Below.refl _ _).alloc (Nat.le_refl _) _
    generalize (w.alloc (Obj.cells #[Value.int IntKind.i64 lv, Value.string p.low, Value.string p.high, Value.bool false, Value.int IntKind.i64 p.side, Value.slice A ni c, Value.slice A' nk c'] 27)) = w0 at *
    have HB := Lib.hid hB
    obtain ⟨q0, q1, q2, q3, q4, q5, q6⟩ := Blk.cells7 hP
    have HR0 : Hid (Pg w0 lo w0.heap.size p A A' c c') := Lib.hid ((H1.out.below hB).mono (Nat.le_refl _) hB.size)
    clear hP hB
    by_cases a1 : lv < 0
    · have HX : Hid (p.bounds1 = false) := Lib.hid (by unfold Page.bounds1; rw [← HLV.out, decide_eq_false (by omega : ¬ lv ≥ 0)]; simp)
      go_wp2
      go_ret
      exact ⟨ret_bool (by unfold Page.ok; rw [HBB.out, HX.out]; simp), HB.out⟩
    · by_cases a2 : lv > 7
      · have HX : Hid (p.bounds1 = false) := Lib.hid (by unfold Page.bounds1; rw [← HLV.out, decide_eq_false (by omega : ¬ lv ≤ 7)]; simp)
        go_wp2
        go_ret
        exact ⟨ret_bool (by unfold Page.ok; rw [HBB.out, HX.out]; simp), HB.out⟩
      · by_cases a3 : (p.low.size : Int) > 16
        · have HX : Hid (p.bounds1 = false) := Lib.hid (by unfold Page.bounds1; rw [decide_eq_false (by omega : ¬ (p.low.size : Int) ≤ 16)]; simp)
          go_wp2
          go_ret
          exact ⟨ret_bool (by unfold Page.ok; rw [HBB.out, HX.out]; simp), HB.out⟩
        · have HX : Hid (p.bounds1 = true) := Lib.hid (by unfold Page.bounds1; rw [← HLV.out, decide_eq_true (by omega : (p.low.size : Int) ≤ 16), decide_eq_true (by omega : lv ≥ 0), decide_eq_true (by omega : lv ≤ 7)]; rfl)
          cases hk : isKey p.high with
          | false =>
            have HY : Hid (p.bounds2 false = false) := Lib.hid (by unfold Page.bounds2; rw [hk]; rfl)
            go_wp2_with (first | (go_at_call 78; refine (ref_number _ _).mono ?_; rintro e w' ⟨rfl, rfl⟩) | (go_at_call 77; refine (ref_key _ _).mono ?_; rintro e w' ⟨rfl, rfl⟩))
            all_goals go_ret
            all_goals exact ⟨ret_bool (by unfold Page.ok; rw [HBB.out, HX.out, HY.out]; simp), HB.out⟩
          | true =>
            cases hl : lt p.low p.high with
            | false =>
              have HY : Hid (p.bounds2 false = false) := Lib.hid (by unfold Page.bounds2; rw [hl]; simp)
              unfold lt at hl
              rw [bytesLess_flip] at hl
              cases hf1 : Op.bytesLess p.high.toList p.low.toList <;> cases hf2 : (p.high.toList == p.low.toList) <;> rw [hf1, hf2] at hl <;> try cases hl
              go_wp2_with (first | (go_at_call 78; refine (ref_number _ _).mono ?_; rintro e w' ⟨rfl, rfl⟩) | (go_at_call 77; refine (ref_key _ _).mono ?_; rintro e w' ⟨rfl, rfl⟩))
              all_goals go_ret
              all_goals exact ⟨ret_bool (by unfold Page.ok; rw [HBB.out, HX.out, HY.out]; simp), HB.out⟩
            | true =>
              cases hs : isPage p.side with
              | false =>
                have HY : Hid (p.bounds2 false = false) := Lib.hid (by unfold Page.bounds2; rw [hs]; simp)
                unfold lt at hl
                rw [bytesLess_flip] at hl
                cases hf1 : Op.bytesLess p.high.toList p.low.toList <;> cases hf2 : (p.high.toList == p.low.toList) <;> rw [hf1, hf2] at hl <;> try cases hl
                go_wp2_with (first | (go_at_call 78; refine (ref_number _ _).mono ?_; rintro e w' ⟨rfl, rfl⟩) | (go_at_call 77; refine (ref_key _ _).mono ?_; rintro e w' ⟨rfl, rfl⟩))
                all_goals go_ret
                all_goals exact ⟨ret_bool (by unfold Page.ok; rw [HBB.out, HX.out, HY.out]; simp), HB.out⟩
              | true =>
                have HY : Hid (p.bounds2 false = true) := Lib.hid (by unfold Page.bounds2; rw [hk, hl, hs]; rfl)
                unfold lt at hl
                rw [bytesLess_flip] at hl
                cases hf1 : Op.bytesLess p.high.toList p.low.toList <;> cases hf2 : (p.high.toList == p.low.toList) <;> rw [hf1, hf2] at hl <;> try cases hl
                have HBT : Hid (p.boundsB = true) := Lib.hid (by rw [HBB.out, HX.out, HY.out]; rfl)
                by_cases h0 : lv = 0
                · subst h0
                  have e1 : (p.level == 0) = true := by rw [← HLV.out]; rfl
                  have e2 : decide (p.level > 0) = false := by rw [← HLV.out]; rfl
                  have HE1 := Lib.hid e1
                  have HE2 := Lib.hid e2
                  clear e1 e2
                  go_wp2_with (first | (go_at_call 78; refine (ref_number _ _).mono ?_; rintro e w' ⟨rfl, rfl⟩) | (go_at_call 77; refine (ref_key _ _).mono ?_; rintro e w' ⟨rfl, rfl⟩) | (go_at_call 96; refine (HLEAF.out w0 HR0.out).mono ?_; rintro e w1 ⟨rfl, hb1⟩))
                  all_goals go_ret
                  all_goals exact ⟨ret_bool (by unfold Page.ok; rw [HBT.out, HE1.out, HE2.out]; simp), HB.out.trans (hb1.mono HB.out.size)⟩
                · have h1 : lv > 0 := by omega
                  have e1 : (p.level == 0) = false := by rw [← HLV.out]; simpa using h0
                  have e2 : decide (p.level > 0) = true := by rw [← HLV.out]; simpa using h1
                  have HE1 := Lib.hid e1
                  have HE2 := Lib.hid e2
                  clear e1 e2
                  go_wp2_with (first | (go_at_call 78; refine (ref_number _ _).mono ?_; rintro e w' ⟨rfl, rfl⟩) | (go_at_call 77; refine (ref_key _ _).mono ?_; rintro e w' ⟨rfl, rfl⟩) | (go_at_call 97; refine (HINN.out w0 HR0.out).mono ?_; rintro e w1 ⟨rfl, hb1⟩))
                  all_goals go_ret
                  all_goals exact ⟨ret_bool (by unfold Page.ok; rw [HBT.out, HE1.out, HE2.out]; simp), HB.out.trans (hb1.mono HB.out.size)⟩
  | true =>
    go_enter Tryz.func76, Tryz.ntmps76
    go_upto_region 1 with (fail)
    have hP : Blk (w.alloc (Obj.cells #[Value.int IntKind.i64 lv, Value.string p.low, Value.string p.high, Value.bool true, Value.int IntKind.i64 p.side, Value.slice A ni c, Value.slice A' nk c'] 27)) w.heap.size 27 #[Value.int IntKind.i64 lv, Value.string p.low, Value.string p.high, Value.bool true, Value.int IntKind.i64 p.side, Value.slice A ni c, Value.slice A' nk c'] := Blk.new _ _ _
    have hB : Below w.heap.size w (w.alloc (Obj.cells #[Value.int IntKind.i64 lv, Value.string p.low, Value.string p.high, Value.bool true, Value.int IntKind.i64 p.side, Value.slice A ni c, Value.slice A' nk c'] 27)) := (Below.refl _ _).alloc (Nat.le_refl _) _
    generalize (w.alloc (Obj.cells #[Value.int IntKind.i64 lv, Value.string p.low, Value.string p.high, Value.bool true, Value.int IntKind.i64 p.side, Value.slice A ni c, Value.slice A' nk c'] 27)) = w0 at *
    have HB := Lib.hid hB
    obtain ⟨q0, q1, q2, q3, q4, q5, q6⟩ := Blk.cells7 hP
    have HR0 : Hid (Pg w0 lo w0.heap.size p A A' c c') := Lib.hid ((H1.out.below hB).mono (Nat.le_refl _) hB.size)
    clear hP hB
    by_cases a1 : lv < 0
    · have HX : Hid (p.bounds1 = false) := Lib.hid (by unfold Page.bounds1; rw [← HLV.out, decide_eq_false (by omega : ¬ lv ≥ 0)]; simp)
      go_wp2
      go_ret
      exact ⟨ret_bool (by unfold Page.ok; rw [HBB.out, HX.out]; simp), HB.out⟩
    · by_cases a2 : lv > 7
      · have HX : Hid (p.bounds1 = false) := Lib.hid (by unfold Page.bounds1; rw [← HLV.out, decide_eq_false (by omega : ¬ lv ≤ 7)]; simp)
        go_wp2
        go_ret
        exact ⟨ret_bool (by unfold Page.ok; rw [HBB.out, HX.out]; simp), HB.out⟩
      · by_cases a3 : (p.low.size : Int) > 16
        · have HX : Hid (p.bounds1 = false) := Lib.hid (by unfold Page.bounds1; rw [decide_eq_false (by omega : ¬ (p.low.size : Int) ≤ 16)]; simp)
          go_wp2
          go_ret
          exact ⟨ret_bool (by unfold Page.ok; rw [HBB.out, HX.out]; simp), HB.out⟩
        · have HX : Hid (p.bounds1 = true) := Lib.hid (by unfold Page.bounds1; rw [← HLV.out, decide_eq_true (by omega : (p.low.size : Int) ≤ 16), decide_eq_true (by omega : lv ≥ 0), decide_eq_true (by omega : lv ≤ 7)]; rfl)
          cases he : p.high.toList.isEmpty with
          | false =>
            have HY : Hid (p.bounds2 true = false) := Lib.hid (by unfold Page.bounds2; rw [he]; rfl)
            go_wp2_with (first | (go_at_call 78; refine (ref_number _ _).mono ?_; rintro e w' ⟨rfl, rfl⟩) | (go_at_call 77; refine (ref_key _ _).mono ?_; rintro e w' ⟨rfl, rfl⟩))
            all_goals go_ret
            all_goals exact ⟨ret_bool (by unfold Page.ok; rw [HBB.out, HX.out, HY.out]; simp), HB.out⟩
          | true =>
            by_cases hs : p.side = 0
            · have HY : Hid (p.bounds2 true = true) := Lib.hid (by unfold Page.bounds2; rw [he, hs]; rfl)
              have HBT : Hid (p.boundsB = true) := Lib.hid (by rw [HBB.out, HX.out, HY.out]; rfl)
              have hs2 : (p.side != 0) = false := by rw [hs]; rfl
              clear hs
              by_cases h0 : lv = 0
              · subst h0
                have e1 : (p.level == 0) = true := by rw [← HLV.out]; rfl
                have e2 : decide (p.level > 0) = false := by rw [← HLV.out]; rfl
                have HE1 := Lib.hid e1
                have HE2 := Lib.hid e2
                clear e1 e2
                go_wp2_with (first | (go_at_call 78; refine (ref_number _ _).mono ?_; rintro e w' ⟨rfl, rfl⟩) | (go_at_call 77; refine (ref_key _ _).mono ?_; rintro e w' ⟨rfl, rfl⟩) | (go_at_call 96; refine (HLEAF.out w0 HR0.out).mono ?_; rintro e w1 ⟨rfl, hb1⟩))
                all_goals go_ret
                all_goals exact ⟨ret_bool (by unfold Page.ok; rw [HBT.out, HE1.out, HE2.out]; simp), HB.out.trans (hb1.mono HB.out.size)⟩
              · have h1 : lv > 0 := by omega
                have e1 : (p.level == 0) = false := by rw [← HLV.out]; simpa using h0
                have e2 : decide (p.level > 0) = true := by rw [← HLV.out]; simpa using h1
                have HE1 := Lib.hid e1
                have HE2 := Lib.hid e2
                clear e1 e2
                go_wp2_with (first | (go_at_call 78; refine (ref_number _ _).mono ?_; rintro e w' ⟨rfl, rfl⟩) | (go_at_call 77; refine (ref_key _ _).mono ?_; rintro e w' ⟨rfl, rfl⟩) | (go_at_call 97; refine (HINN.out w0 HR0.out).mono ?_; rintro e w1 ⟨rfl, hb1⟩))
                all_goals go_ret
                all_goals exact ⟨ret_bool (by unfold Page.ok; rw [HBT.out, HE1.out, HE2.out]; simp), HB.out.trans (hb1.mono HB.out.size)⟩
            · have HY : Hid (p.bounds2 true = false) := Lib.hid (by unfold Page.bounds2; rw [he]; simpa using hs)
              go_wp2_with (first | (go_at_call 78; refine (ref_number _ _).mono ?_; rintro e w' ⟨rfl, rfl⟩) | (go_at_call 77; refine (ref_key _ _).mono ?_; rintro e w' ⟨rfl, rfl⟩))
              all_goals go_ret
              all_goals exact ⟨ret_bool (by unfold Page.ok; rw [HBB.out, HX.out, HY.out]; simp), HB.out⟩
end Go.Proofs.YtjbdmaehomhdeaaGreat
