/- The reference's layers of bytes. -/
import Derived.Test.YtjbdmaehomhdeaaR1
import Derived.Test.YtjbdmaehomhdeaaB4
namespace Go.Proofs.Ytjbdmaehomhdeaa
open Go.RowKit

set_option maxHeartbeats 1000000 in
theorem ref_flag (base : Nat) (v : Value) (bs : List Nat) (b : Bool) (w : World) (hown : OwnB w base v bs) (hbase : base ≤ w.heap.size) (hlen : bs.length ≤ 1099511627776) :
    Calls Try.prog 81 #[v, .bool b] w (PostG w base v (bs ++ flagB b)) := by
  cases b
  · go_enter Try.func81, Try.ntmps81
    go_wp2_with (at_builtin; refine app1 w rfl (.tmp 9) (.tmp 10) rfl base v bs 0 _ rfl rfl hown rfl hlen hbase ?_; intro v1 w1 hO1 hG1)
    go_ret
    exact ⟨_, rfl, hO1, hG1⟩
  · go_enter Try.func81, Try.ntmps81
    go_wp2_with (at_builtin; refine app1 w rfl (.tmp 6) (.tmp 7) rfl base v bs 1 _ rfl rfl hown rfl hlen hbase ?_; intro v1 w1 hO1 hG1)
    go_ret
    exact ⟨_, rfl, hO1, hG1⟩

set_option maxRecDepth 100000 in
set_option maxHeartbeats 1000000 in
theorem ref_text (base : Nat) (v : Value) (bs : List Nat) (s : ByteArray) (w : World) (hown : OwnB w base v bs) (hbase : base ≤ w.heap.size) (hlen : bs.length + 1 + s.size ≤ 1099511627776) :
    Calls Try.prog 82 #[v, .string s] w (PostG w base v (bs ++ textB s)) := by
  have HL := Lib.hid hlen
  clear hlen
  go_enter Try.func82, Try.ntmps82
  go_wp2_with (first
    | (at_builtin; refine app1 w rfl (.tmp 5) (.tmp 9) rfl base v bs (s.size % 256) _ (Int.natCast_emod _ _).symm rfl hown rfl (by have := HL.out; omega) hbase ?_; intro v1 w1 hO1 hG1)
    | (at_builtin; refine appS w1 rfl (.tmp 11) (.tmp 12) rfl base v1 _ s rfl hO1 rfl (by have := HL.out; rw [List.length_append, List.length_singleton]; omega) (Nat.le_trans hbase hG1.grown.size) ?_; intro v2 w2 hO2 hG2))
  go_ret
  exact ⟨_, rfl, by simpa [textB, List.append_assoc] using hO2, hG1.trans hG2⟩

set_option maxRecDepth 100000 in
set_option maxHeartbeats 1000000 in
theorem ref_num (base : Nat) (v : Value) (bs : List Nat) (n k : Nat) (hk : k ≤ 7) (hn : n ≤ 9223372036854775807) (w : World) (hown : OwnB w base v bs) (hbase : base ≤ w.heap.size) (hlen : bs.length + 7 ≤ 1099511627776) :
    Calls Try.prog 83 #[v, .int .i64 n, .int .i64 k] w (PostG w base v (bs ++ numB n k)) := by
  have HL := Lib.hid hlen
  clear hlen
  go_enter Try.func83, Try.ntmps83
  go_wp2
  go_loopw [0, 1, 7] (fun u m i wr => ∃ j : Nat, j ≤ k ∧ i = .int .i64 j ∧ m = .int .i64 ((n / 256 ^ j : Nat) : Int) ∧ Hid (OwnB wr base u (bs ++ numB n j)) ∧ Hid (Grew w wr v u)) (fun _ _ i _ => k - (intOf i).toNat)
  case atStart => exact ⟨0, Nat.zero_le _, rfl, by simp, Lib.hid (by simpa [numB] using hown), Lib.hid (Grew.refl _ _)⟩
  case round =>
    obtain ⟨j, hj, rfl, rfl, HO, HG⟩ := hrel
    obtain ⟨m, hm⟩ : ∃ m, m = n / 256 ^ j := ⟨_, rfl⟩
    rw [← hm]
    have HM := Lib.hid hm
    have hmn : m ≤ 9223372036854775807 := by rw [hm]; exact Nat.le_trans (Nat.div_le_self _ _) hn
    clear hm
    by_cases hlt : j < k
    · have hlj : (bs ++ numB n j).length ≤ 1099511627776 := by have := HL.out; rw [List.length_append, numB_length]; omega
      go_wp2_with (at_builtin; refine app1 wr rfl (.tmp 13) (.tmp 17) rfl base u0 (bs ++ numB n j) (m % 256) _ (Int.natCast_emod _ _).symm rfl HO.out rfl hlj (Nat.le_trans hbase HG.out.grown.size) ?_; intro v1 w1 hO1 hG1)
      go_roundw
      case rel =>
        refine ⟨j + 1, by omega, by go_num, ?_, Lib.hid ?_, Lib.hid (HG.out.trans hG1)⟩
        · have : n / 256 ^ (j + 1) = m / 256 := by rw [Nat.pow_succ, ← Nat.div_div_eq_div_mul, HM.out]
          rw [this, Int.natCast_ediv]; rfl
        · have h := hO1
          rw [HM.out, List.append_assoc] at h
          exact h
      case measure => simp [intOf]; omega
    · obtain rfl : j = k := by omega
      go_wp2
      go_ret
      exact ⟨_, rfl, HO.out, HG.out⟩

set_option maxRecDepth 100000 in
set_option maxHeartbeats 1000000 in
theorem ref_Item (base : Nat) (v : Value) (bs : List Nat) (x : Item) (hx : 0 ≤ x.no) (hx2 : x.no ≤ 1099511627776) (w : World) (hown : OwnB w base v bs) (hbase : base ≤ w.heap.size) (hlen : bs.length + 100 + x.key.size + x.value.size ≤ 1099511627776) :
    Calls Try.prog 84 #[v, x.val] w (fun e w' => ∃ v', e = .returned v' ∧ OwnB w' base v' (bs ++ x.bytes) ∧ Grew w w' v v') := by
  unfold Item.val
  obtain ⟨n, hn⟩ : ∃ n, n = x.no.toNat := ⟨_, rfl⟩
  have hn' : x.no = (n : Int) := by omega
  rw [hn']
  have hn2 : n ≤ 1099511627776 := by omega
  have HN := Lib.hid hn
  have HL := Lib.hid hlen
  clear hn hn' hx hx2 hlen
  go_enter Try.func84, Try.ntmps84
  go_upto_region 1 with (fail)
  have hX := Blk.new w 39 #[Value.string x.key, Value.string x.value, Value.int IntKind.i64 n, Value.bool x.gone]
  have hO0 := hown.later ((Below.refl w.heap.size w).alloc (Nat.le_refl _) (Obj.cells #[Value.string x.key, Value.string x.value, Value.int IntKind.i64 n, Value.bool x.gone] 39))
  have hG0 : Grew w (w.alloc (Obj.cells #[Value.string x.key, Value.string x.value, Value.int IntKind.i64 n, Value.bool x.gone] 39)) v v := Grew.of_below ((Below.refl w.heap.size w).alloc (Nat.le_refl _) _) v
  have hvlt := hown.lt
  generalize (w.alloc (Obj.cells #[Value.string x.key, Value.string x.value, Value.int IntKind.i64 n, Value.bool x.gone] 39)) = w0 at *
  have HX := Lib.hid hX
  have HO0 := Lib.hid hO0
  have HG0 := Lib.hid hG0
  have HV := Lib.hid hvlt
  have hb0 : base ≤ w0.heap.size := Nat.le_trans hbase hG0.grown.size
  obtain ⟨a0, a1, a2, a3⟩ := Blk.cells4 hX
  clear hX hO0 hG0 hvlt
  go_wp2_with (first
    | (go_at_call 82; refine (ref_text base v bs x.key w0 HO0.out hb0 (by have := HL.out; omega)).mono ?_; rintro e w1 ⟨v1, rfl, hO1, hG1⟩; have HO1 := Lib.hid hO1; have HZ1 := Lib.hid hG1; have hb1 : base ≤ w1.heap.size := Nat.le_trans hb0 hG1.grown.size; obtain ⟨b0, b1, b2, b3⟩ := Blk.cells4 (HX.out.grew HZ1.out HV.out); clear HO0 hO1 hG1)
    | (go_at_call 83; refine (ref_num base v1 (bs ++ textB x.key) n 6 (by omega) (by omega) w1 HO1.out hb1 (by have := HL.out; rw [List.length_append, textB_length]; omega)).mono ?_; rintro e w2 ⟨v2, rfl, hO2, hG2⟩; have HO2 := Lib.hid hO2; have HZ2 := Lib.hid (HZ1.out.trans hG2); have hb2 : base ≤ w2.heap.size := Nat.le_trans hb1 hG2.grown.size; obtain ⟨c0, c1, c2, c3⟩ := Blk.cells4 (HX.out.grew HZ2.out HV.out); clear HO1 HZ1 hO2 hG2)
    | (go_at_call 81; refine (ref_flag base v2 (bs ++ textB x.key ++ numB n 6) x.gone w2 HO2.out hb2 (by have := HL.out; rw [List.length_append, List.length_append, textB_length, numB_length]; omega)).mono ?_; rintro e w3 ⟨v3, rfl, hO3, hG3⟩; have HO3 := Lib.hid hO3; have HZ3 := Lib.hid (HZ2.out.trans hG3); have hb3 : base ≤ w3.heap.size := Nat.le_trans hb2 hG3.grown.size; obtain ⟨d0, d1, d2, d3⟩ := Blk.cells4 (HX.out.grew HZ3.out HV.out); clear HO2 HZ2 hO3 hG3)
    | (go_at_call 82; refine (ref_text base v3 (bs ++ textB x.key ++ numB n 6 ++ flagB x.gone) x.value w3 HO3.out hb3 (by have := HL.out; rw [List.length_append, List.length_append, List.length_append, textB_length, numB_length]; simp only [flagB, List.length_cons, List.length_nil]; omega)).mono ?_; rintro e w4 ⟨v4, rfl, hO4, hG4⟩; have HO4 := Lib.hid hO4; have HZ4 := Lib.hid (HZ3.out.trans hG4); clear HO3 HZ3 hO4 hG4))
  go_ret
  exact ⟨v4, rfl, by
    have h := HO4.out
    rw [HN.out, List.append_assoc, List.append_assoc, List.append_assoc] at h
    exact h, HG0.out.trans HZ4.out⟩
end Go.Proofs.Ytjbdmaehomhdeaa
