/- delta.Encode. -/
import Derived.Test.YtjbdmaehomhdeaaGreatZF
import Derived.Test.YtjbdmaehomhdeaaGreatZC
set_option linter.unusedSimpArgs false
set_option linter.unusedVariables false
namespace Go.Proofs.YtjbdmaehomhdeaaGreat
open Go.RowKit

theorem as_1_2 (v : Value) (W : World) : (Instr.typeAssert (.iface 67 v) 64 71 true).run Tryz.prog W = .ok (.tuple #[.agg #[.string ByteArray.empty, .int .i64 0], .bool false]) W := by kernel_rfl
theorem as_1_3 (v : Value) (W : World) : (Instr.typeAssert (.iface 67 v) 64 73 true).run Tryz.prog W = .ok (.tuple #[.agg #[.string ByteArray.empty, .int .i64 0], .bool false]) W := by kernel_rfl
theorem as_1_4 (v : Value) (W : World) : (Instr.typeAssert (.iface 67 v) 64 75 true).run Tryz.prog W = .ok (.tuple #[.agg #[.string ByteArray.empty], .bool false]) W := by kernel_rfl
theorem as_2_2 (v : Value) (W : World) : (Instr.typeAssert (.iface 71 v) 64 71 true).run Tryz.prog W = .ok (.tuple #[v, .bool true]) W := by kernel_rfl
theorem as_2_3 (v : Value) (W : World) : (Instr.typeAssert (.iface 71 v) 64 73 true).run Tryz.prog W = .ok (.tuple #[.agg #[.string ByteArray.empty, .int .i64 0], .bool false]) W := by kernel_rfl
theorem as_2_4 (v : Value) (W : World) : (Instr.typeAssert (.iface 71 v) 64 75 true).run Tryz.prog W = .ok (.tuple #[.agg #[.string ByteArray.empty], .bool false]) W := by kernel_rfl
theorem as_3_2 (v : Value) (W : World) : (Instr.typeAssert (.iface 73 v) 64 71 true).run Tryz.prog W = .ok (.tuple #[.agg #[.string ByteArray.empty, .int .i64 0], .bool false]) W := by kernel_rfl
theorem as_3_3 (v : Value) (W : World) : (Instr.typeAssert (.iface 73 v) 64 73 true).run Tryz.prog W = .ok (.tuple #[v, .bool true]) W := by kernel_rfl
theorem as_3_4 (v : Value) (W : World) : (Instr.typeAssert (.iface 73 v) 64 75 true).run Tryz.prog W = .ok (.tuple #[.agg #[.string ByteArray.empty], .bool false]) W := by kernel_rfl
theorem as_4_2 (v : Value) (W : World) : (Instr.typeAssert (.iface 75 v) 64 71 true).run Tryz.prog W = .ok (.tuple #[.agg #[.string ByteArray.empty, .int .i64 0], .bool false]) W := by kernel_rfl
theorem as_4_3 (v : Value) (W : World) : (Instr.typeAssert (.iface 75 v) 64 73 true).run Tryz.prog W = .ok (.tuple #[.agg #[.string ByteArray.empty, .int .i64 0], .bool false]) W := by kernel_rfl
theorem as_4_4 (v : Value) (W : World) : (Instr.typeAssert (.iface 75 v) 64 75 true).run Tryz.prog W = .ok (.tuple #[v, .bool true]) W := by kernel_rfl
theorem as_5_2 (v : Value) (W : World) : (Instr.typeAssert (.iface 77 v) 64 71 true).run Tryz.prog W = .ok (.tuple #[.agg #[.string ByteArray.empty, .int .i64 0], .bool false]) W := by kernel_rfl
theorem as_5_3 (v : Value) (W : World) : (Instr.typeAssert (.iface 77 v) 64 73 true).run Tryz.prog W = .ok (.tuple #[.agg #[.string ByteArray.empty, .int .i64 0], .bool false]) W := by kernel_rfl
theorem as_5_4 (v : Value) (W : World) : (Instr.typeAssert (.iface 77 v) 64 75 true).run Tryz.prog W = .ok (.tuple #[.agg #[.string ByteArray.empty], .bool false]) W := by kernel_rfl
theorem as_6_2 (v : Value) (W : World) : (Instr.typeAssert (.iface 79 v) 64 71 true).run Tryz.prog W = .ok (.tuple #[.agg #[.string ByteArray.empty, .int .i64 0], .bool false]) W := by kernel_rfl
theorem as_6_3 (v : Value) (W : World) : (Instr.typeAssert (.iface 79 v) 64 73 true).run Tryz.prog W = .ok (.tuple #[.agg #[.string ByteArray.empty, .int .i64 0], .bool false]) W := by kernel_rfl
theorem as_6_4 (v : Value) (W : World) : (Instr.typeAssert (.iface 79 v) 64 75 true).run Tryz.prog W = .ok (.tuple #[.agg #[.string ByteArray.empty], .bool false]) W := by kernel_rfl
theorem fld_6 (a : Int) (b c : ByteArray) (d : Bool) (e : Int) (A : Option Addr) (n m : Nat) (B : Option Addr) (n' m' : Nat) (W : World) : (Instr.field 79 (.agg #[.int .i64 a, .string b, .string c, .bool d, .int .i64 e, .slice A n m, .slice B n' m']) 0).run Tryz.prog W = .ok (.agg #[.int .i64 a, .string b, .string c, .bool d, .int .i64 e, .slice A n m, .slice B n' m']) W := by kernel_rfl
theorem fld_1 (a b : ByteArray) (n : Int) (g : Bool) (W : World) : (Instr.field 67 (.agg #[.string a, .string b, .int .i64 n, .bool g]) 0).run Tryz.prog W = .ok (.agg #[.string a, .string b, .int .i64 n, .bool g]) W := by kernel_rfl
theorem is_1 (v : Value) (W : World) : (Instr.typeAssert (.iface 67 v) 64 67 false).run Tryz.prog W = .ok v W := by kernel_rfl
theorem is_6 (v : Value) (W : World) : (Instr.typeAssert (.iface 79 v) 64 79 false).run Tryz.prog W = .ok v W := by kernel_rfl

/-- a change's bytes -/
def Delta.bytes (d : Delta) (k : Int) : List Nat :=
  [k.toNat] ++ (if k = 1 then d.item.bytes else if k = 2 ∨ k = 3 then textB d.key ++ numB d.page.toNat 2 else if k = 4 then textB d.key else if k = 5 then numB d.page.toNat 2 else d.right.bytes)
theorem Page.Fine.bytes_small {p : Page} (h : p.Fine) : p.bytes.length ≤ 100000 := by
  have h1 := h.head_len
  have h2 := h.items_len p.items.length
  have h3 := h.kids_len p.kids.length
  rw [List.take_length] at h2 h3
  simp only [Page.bytes, List.length_append]
  omega
theorem own_kind (w : World) (b : Nat) : OwnB (w.alloc (.cells #[.int .u8 (b : Int)] 5)) w.heap.size (.slice (some ⟨w.heap.size, 0, none⟩) 1 1) [b] := own_one w b
theorem numB_flag (b : Bool) : numB (cond b 1 0) 1 = flagB b := by cases b <;> rfl

/-- within Encode: the change, the node in blocks of their own, the bytes -/
structure EnW (w wc : World) (da : Array Value) (v : Value) (l : List Nat) : Prop where
  be : Below w.heap.size w wc
  db : Blk wc w.heap.size 29 da
  nb : Blk wc (w.heap.size + 1) 34 #[.bool false, .slice none 0 0]
  ow : OwnB wc (w.heap.size + 2) v l
  ne : ∀ k, v.ownBlock = some k → w.heap.size + 2 ≤ k
section
variable {w wc w' : World} {da : Array Value} {v v' : Value} {l l' : List Nat}
theorem EnW.on (h : EnW w wc da v l) (hb : Below wc.heap.size wc w') : EnW w w' da v l :=
  ⟨h.be.trans (hb.mono h.be.size), h.db.below hb h.db.lt, h.nb.below hb h.nb.lt, h.ow.later hb, h.ne⟩
theorem EnW.drew (h : EnW w wc da v l) : EnW w wc.drew da v l := h.on (Below.refl _ _).drew
theorem EnW.grow (h : EnW w wc da v l) (h1 : OwnB w' (w.heap.size + 2) v' l') (h2 : Grew wc w' v v') : EnW w w' da v' l' := by
  have hl := h.nb.lt
  refine ⟨h.be.trans (h2.below h.be.size (fun k hk => by have := h.ne k hk; omega)), h.db.grewN h2 (fun e => by have := h.ne _ e; omega), h.nb.grewN h2 (fun e => by have := h.ne _ e; omega), h1, fun k hk => ?_⟩
  rcases h2.near with e | e
  · exact h.ne k (e ▸ hk)
  · have := e k hk; omega
end

set_option maxRecDepth 100000 in
set_option maxHeartbeats 4000000 in
theorem delta_Encode1 (d : Delta) (A A' : Option Addr) (ni nk c c' lo : Nat) (hni : ni = d.right.items.length) (hnk : nk = d.right.kids.length) (w : World) (hp : Pg w lo w.heap.size d.right A A' c c') :
    Calls Tryz.prog 9 #[.agg #[Value.int IntKind.i64 1, Value.string d.item.key, Value.string d.item.value, Value.int IntKind.i64 d.item.no, Value.bool d.item.gone, Value.string d.key, Value.int IntKind.i64 d.page, Value.int IntKind.i64 d.right.level, Value.string d.right.low, Value.string d.right.high, Value.bool d.right.last, Value.int IntKind.i64 d.right.side, Value.slice A ni c, Value.slice A' nk c']] w (PostN w false (cond (d.may 1) (d.bytes 1) []) (cond (d.may 1) 0 110)) := by
  have HMY := Lib.hid (fun w1 h => delta_may1 d A A' ni nk c c' lo hni hnk w1 h)
  have HRD : Hid (∀ W, Below w.heap.size w W → Pg W lo W.heap.size d.right A A' c c') := Lib.hid fun W h => (hp.below h).mono (Nat.le_refl _) h.size
  clear hni hnk hp
  have hB : Below w.heap.size w ((w.alloc (.cells #[Value.int IntKind.i64 1, Value.string d.item.key, Value.string d.item.value, Value.int IntKind.i64 d.item.no, Value.bool d.item.gone, Value.string d.key, Value.int IntKind.i64 d.page, Value.int IntKind.i64 d.right.level, Value.string d.right.low, Value.string d.right.high, Value.bool d.right.last, Value.int IntKind.i64 d.right.side, Value.slice A ni c, Value.slice A' nk c'] 29)).alloc (.cells #[Value.bool false, Value.slice none 0 0] 34)) := ((Below.refl _ _).alloc (Nat.le_refl _) _).alloc (by simp) _
  have hD : Blk ((w.alloc (.cells #[Value.int IntKind.i64 1, Value.string d.item.key, Value.string d.item.value, Value.int IntKind.i64 d.item.no, Value.bool d.item.gone, Value.string d.key, Value.int IntKind.i64 d.page, Value.int IntKind.i64 d.right.level, Value.string d.right.low, Value.string d.right.high, Value.bool d.right.last, Value.int IntKind.i64 d.right.side, Value.slice A ni c, Value.slice A' nk c'] 29)).alloc (.cells #[Value.bool false, Value.slice none 0 0] 34)) w.heap.size 29 #[Value.int IntKind.i64 1, Value.string d.item.key, Value.string d.item.value, Value.int IntKind.i64 d.item.no, Value.bool d.item.gone, Value.string d.key, Value.int IntKind.i64 d.page, Value.int IntKind.i64 d.right.level, Value.string d.right.low, Value.string d.right.high, Value.bool d.right.last, Value.int IntKind.i64 d.right.side, Value.slice A ni c, Value.slice A' nk c'] := (Blk.new _ _ _).alloc _
  have hN : Blk ((w.alloc (.cells #[Value.int IntKind.i64 1, Value.string d.item.key, Value.string d.item.value, Value.int IntKind.i64 d.item.no, Value.bool d.item.gone, Value.string d.key, Value.int IntKind.i64 d.page, Value.int IntKind.i64 d.right.level, Value.string d.right.low, Value.string d.right.high, Value.bool d.right.last, Value.int IntKind.i64 d.right.side, Value.slice A ni c, Value.slice A' nk c'] 29)).alloc (.cells #[Value.bool false, Value.slice none 0 0] 34)) (w.heap.size + 1) 34 #[Value.bool false, Value.slice none 0 0] := by
    have := Blk.new (w.alloc (.cells #[Value.int IntKind.i64 1, Value.string d.item.key, Value.string d.item.value, Value.int IntKind.i64 d.item.no, Value.bool d.item.gone, Value.string d.key, Value.int IntKind.i64 d.page, Value.int IntKind.i64 d.right.level, Value.string d.right.low, Value.string d.right.high, Value.bool d.right.last, Value.int IntKind.i64 d.right.side, Value.slice A ni c, Value.slice A' nk c'] 29)) 34 #[Value.bool false, Value.slice none 0 0]
    simpa using this
  go_enter Tryz.func9, Tryz.ntmps9
  go_upto_region 1 with (fail)
  generalize (w.alloc (.cells #[Value.int IntKind.i64 1, Value.string d.item.key, Value.string d.item.value, Value.int IntKind.i64 d.item.no, Value.bool d.item.gone, Value.string d.key, Value.int IntKind.i64 d.page, Value.int IntKind.i64 d.right.level, Value.string d.right.low, Value.string d.right.high, Value.bool d.right.last, Value.int IntKind.i64 d.right.side, Value.slice A ni c, Value.slice A' nk c'] 29)).alloc (.cells #[Value.bool false, Value.slice none 0 0] 34) = w0 at *
  have HB := Lib.hid hB
  have HD := Lib.hid hD
  have HN := Lib.hid hN
  obtain ⟨q0, q1, q2, q3, q4, q5, q6, q7, q8, q9, q10, q11, q12, q13⟩ := Blk.cells14 hD
  clear hB hD hN
  go_wp2_with fail
  refine (HMY.out w0 (HRD.out w0 HB.out)).mono ?_
  rintro e w1 ⟨rfl, hb1⟩
  have HB1 : Hid (Below w.heap.size w w1) := Lib.hid (HB.out.trans (hb1.mono HB.out.size))
  have HD1 := Lib.hid (HD.out.below hb1 HD.out.lt)
  have HN1 := Lib.hid (HN.out.below hb1 HN.out.lt)
  have hs1 := HN1.out.lt
  clear hb1 q0 q1 q2 q3 q4 q5 q6 q7 q8 q9 q10 q11 q12 q13
  obtain ⟨q0, q1, q2, q3, q4, q5, q6, q7, q8, q9, q10, q11, q12, q13⟩ := Blk.cells14 HD1.out
  cases hmy : d.may 1 with
  | false =>
    have HMB := Lib.hid hmy
    clear hmy
    obtain ⟨n0, n1⟩ := Blk.cells2' HN1.out
    have nf : ∀ i, w1.frozen? ⟨w.heap.size + 1, i, none⟩ = false := HN1.out.frozen
    have HE : Hid (Blk ((w1.setCell ⟨w.heap.size + 1, 0, none⟩ (.bool false)).setCell ⟨w.heap.size + 1, 1, none⟩ (.slice none 0 0)) (w.heap.size + 1) 34 #[.bool false, .slice none 0 0]) := Lib.hid ((HN1.out.set_ 0 _).set_ 1 _)
    have HBE : Hid (Below w.heap.size w ((w1.setCell ⟨w.heap.size + 1, 0, none⟩ (.bool false)).setCell ⟨w.heap.size + 1, 1, none⟩ (.slice none 0 0))) := Lib.hid ((HB1.out.setCell (p := ⟨w.heap.size + 1, 0, none⟩) (by simp) _).setCell (p := ⟨w.heap.size + 1, 1, none⟩) (by simp) _)
    go_wp2
    generalize ((w1.setCell ⟨w.heap.size + 1, 0, none⟩ (.bool false)).setCell ⟨w.heap.size + 1, 1, none⟩ (.slice none 0 0)) = wE at *
    obtain ⟨e0, e1⟩ := Blk.cells2' HE.out
    exact bodyPost_ret (v := .tuple #[.agg #[.bool false, .slice none 0 0], .int .i64 110]) (by simp [results, Tryz.results9, go_sem, e0, e1]) rfl (by rw [HMB.out]; exact ⟨.slice none 0 0, rfl, OwnB.nil _ _, HBE.out⟩)
  | true =>
    have HMB := Lib.hid hmy
    have hck : d.item.check = 0 := by unfold Delta.may at hmy; simp at hmy; exact hmy.2
    have hks : d.item.key.size ≤ 16 ∧ d.item.value.size ≤ 48 ∧ 1 ≤ d.item.no := by obtain ⟨h1, h2, h3, _⟩ := Item.of_check hck; simp [isKey] at h1; omega
    clear hck
    clear hmy
    have hEA : EnW w (w1.alloc (.cells #[.int .u8 1] 5)) #[Value.int IntKind.i64 1, Value.string d.item.key, Value.string d.item.value, Value.int IntKind.i64 d.item.no, Value.bool d.item.gone, Value.string d.key, Value.int IntKind.i64 d.page, Value.int IntKind.i64 d.right.level, Value.string d.right.low, Value.string d.right.high, Value.bool d.right.last, Value.int IntKind.i64 d.right.side, Value.slice A ni c, Value.slice A' nk c'] (.slice (some ⟨w1.heap.size, 0, none⟩) 1 1) [1] :=
      ⟨HB1.out.alloc HB1.out.size _, HD1.out.alloc _, HN1.out.alloc _, (own_kind w1 1).mono (by omega), fun k hk => by cases hk; show _ ≤ w1.heap.size; omega⟩
    have hsA : w1.heap.size < (w1.alloc (.cells #[.int .u8 1] 5)).heap.size := by simp
    go_upto_region 4 with (fail)
    generalize w1.alloc (.cells #[.int .u8 1] 5) = wA at *
    have EA := Lib.hid hEA
    clear hEA q0 q1 q2 q3 q4 q5 q6 q7 q8 q9 q10 q11 q12 q13
    obtain ⟨q0, q1, q2, q3, q4, q5, q6, q7, q8, q9, q10, q11, q12, q13⟩ := Blk.cells14 EA.out.db
    go_upto_region 5 with (go_at_call 30; refine (delta_of1 d A A' ni nk c c' _).mono ?_; rintro e w2 ⟨rfl, hb2⟩)
    have E2 := Lib.hid (EA.out.on hb2)
    have hs2 : w1.heap.size < w2.heap.size := Nat.lt_of_lt_of_le hsA hb2.size
    clear hb2 q0 q1 q2 q3 q4 q5 q6 q7 q8 q9 q10 q11 q12 q13
    obtain ⟨q0, q1, q2, q3, q4, q5, q6, q7, q8, q9, q10, q11, q12, q13⟩ := Blk.cells14 E2.out.db
    have is1 := is_1
    have fl1 := fld_1
    have a1 := as_1_1
    have a2 := as_1_2
    have a3 := as_1_3
    have a4 := as_1_4
    have a5 := as_1_5
    have a6 := as_1_6
    obtain ⟨hks1, hks2, hks3⟩ := hks
    have hno : 0 ≤ d.item.no := by omega
    have hXb : Blk (w2.alloc (.cells #[Value.string d.item.key, Value.string d.item.value, Value.int IntKind.i64 d.item.no, Value.bool d.item.gone] 23)) w2.heap.size 23 #[Value.string d.item.key, Value.string d.item.value, Value.int IntKind.i64 d.item.no, Value.bool d.item.gone] := Blk.new _ _ _
    have E2x := Lib.hid (E2.out.on ((Below.refl _ w2).alloc (Nat.le_refl _) (.cells #[Value.string d.item.key, Value.string d.item.value, Value.int IntKind.i64 d.item.no, Value.bool d.item.gone] 23)))
    go_upto_region 9 with (fail)
    generalize w2.alloc (.cells #[Value.string d.item.key, Value.string d.item.value, Value.int IntKind.i64 d.item.no, Value.bool d.item.gone] 23) = w3 at *
    have HX := Lib.hid hXb
    have HNE : Hid ((Value.slice (some ⟨w1.heap.size, 0, none⟩) 1 1).ownBlock ≠ some w2.heap.size) := Lib.hid (by simp [Value.ownBlock]; omega)
    obtain ⟨x0, x1, x2, x3⟩ := Blk.cells4 hXb
    obtain ⟨pn, hpn⟩ := Int.eq_ofNat_of_zero_le hno
    have HPN := Lib.hid hpn
    rw [hpn] at x2
    clear hks3 hno hpn hXb q0 q1 q2 q3 q4 q5 q6 q7 q8 q9 q10 q11 q12 q13
    obtain ⟨fl, hfl⟩ : ∃ b, b = d.item.gone := ⟨_, rfl⟩
    rw [← hfl] at x3
    have HFL := Lib.hid hfl
    clear hfl
    go_upto_if 28 with (fail)
    go_cut [7] (fun v wc => v = .int .i64 ((cond fl 1 0 : Nat) : Int) ∧ w3 = wc)
    case first =>
      cases fl
      all_goals
        go_wp2
        go_meet
        exact ⟨rfl, rfl⟩
    case rest =>
      obtain ⟨rfl, rfl⟩ := hcut
      obtain ⟨fn, hfn⟩ : ∃ n : Nat, n = cond fl 1 0 := ⟨_, rfl⟩
      rw [← hfn]
      have HFN := Lib.hid hfn
      clear hfn
      go_upto_region 11 with (fail)
      go_region_held3 (fun w' => w'.cell? ⟨w2.heap.size, 0, none⟩ = some (.string d.item.key) ∧ w'.cell? ⟨w2.heap.size, 1, none⟩ = some (.string d.item.value) ∧ w'.cell? ⟨w2.heap.size, 2, none⟩ = some (.int .i64 (pn : Int)))
        (first | go_keep | (refine ⟨?_, ?_, ?_⟩ <;> assumption))
        (first
          | (go_at_call_of 31 (Value.string d.item.key); refine (delta_text (w.heap.size + 2) _ _ d.item.key _ E2x.out.drew.ow (by have := E2x.out.nb.lt; show _ ≤ w3.heap.size; omega) (by simp; omega)).mono ?_; rintro e w4 ⟨v4, rfl, hO, hG⟩; have E4 := Lib.hid (E2x.out.drew.grow hO hG); have HX4 := Lib.hid (HX.out.drew.grewN hG HNE.out); have HNE4 := Lib.hid (hG.ne HX.out.drew.lt HNE.out); have hq0 : w4.cell? ⟨w2.heap.size, 0, none⟩ = some (.string d.item.key) := HX4.out.cell 0; have hq1 : w4.cell? ⟨w2.heap.size, 1, none⟩ = some (.string d.item.value) := HX4.out.cell 1; have hq2 : w4.cell? ⟨w2.heap.size, 2, none⟩ = some (.int .i64 (pn : Int)) := by { rw [← HPN.out]; exact HX4.out.cell 2 }; clear hO hG)
          | (go_at_call_of 32 (Value.int IntKind.i64 6); refine (delta_number (w.heap.size + 2) _ _ pn 6 (by omega) _ E4.out.ow (by have := E4.out.nb.lt; omega) (by simp [textB, sB_length]; omega)).mono ?_; rintro e w5 ⟨v5, rfl, hO, hG⟩; have E5 := Lib.hid (E4.out.grow hO hG); have HX5 := Lib.hid (HX4.out.grewN hG HNE4.out); have HNE5 := Lib.hid (hG.ne HX4.out.lt HNE4.out); have hq0' : w5.cell? ⟨w2.heap.size, 0, none⟩ = some (.string d.item.key) := HX5.out.cell 0; have hq1' : w5.cell? ⟨w2.heap.size, 1, none⟩ = some (.string d.item.value) := HX5.out.cell 1; have hq2' : w5.cell? ⟨w2.heap.size, 2, none⟩ = some (.int .i64 (pn : Int)) := by { rw [← HPN.out]; exact HX5.out.cell 2 }; clear hO hG)
          | (go_at_call_of 32 (Value.int IntKind.i64 1); refine (delta_number (w.heap.size + 2) _ _ fn 1 (by omega) _ E5.out.ow (by have := E5.out.nb.lt; omega) (by simp [textB, sB_length, numB_length]; omega)).mono ?_; rintro e w6 ⟨v6, rfl, hO, hG⟩; have E6 := Lib.hid (E5.out.grow hO hG); have HX6 := Lib.hid (HX5.out.grewN hG HNE5.out); have HNE6 := Lib.hid (hG.ne HX5.out.lt HNE5.out); have hq0'' : w6.cell? ⟨w2.heap.size, 0, none⟩ = some (.string d.item.key) := HX6.out.cell 0; have hq1'' : w6.cell? ⟨w2.heap.size, 1, none⟩ = some (.string d.item.value) := HX6.out.cell 1; have hq2'' : w6.cell? ⟨w2.heap.size, 2, none⟩ = some (.int .i64 (pn : Int)) := by { rw [← HPN.out]; exact HX6.out.cell 2 }; clear hO hG)
          | (go_at_call 31; refine (delta_text (w.heap.size + 2) _ _ d.item.value _ E6.out.ow (by have := E6.out.nb.lt; omega) (by simp [textB, sB_length, numB_length]; omega)).mono ?_; rintro e w7 ⟨v7, rfl, hO, hG⟩; have E7 := Lib.hid (E6.out.grow hO hG); have HX7 := Lib.hid (HX6.out.grewN hG HNE6.out); have hq0x : w7.cell? ⟨w2.heap.size, 0, none⟩ = some (.string d.item.key) := HX7.out.cell 0; have hq1x : w7.cell? ⟨w2.heap.size, 1, none⟩ = some (.string d.item.value) := HX7.out.cell 1; have hq2x : w7.cell? ⟨w2.heap.size, 2, none⟩ = some (.int .i64 (pn : Int)) := by { rw [← HPN.out]; exact HX7.out.cell 2 }; clear hO hG))
      go_upto_region 21 with (fail)
      obtain ⟨n0, n1⟩ := Blk.cells2' E7.out.nb
      have nf : ∀ i, w7.frozen? ⟨w.heap.size + 1, i, none⟩ = false := E7.out.nb.frozen
      have hEO := E7.out.ow
      rw [show ((([1] ++ textB d.item.key) ++ numB pn 6) ++ numB fn 1) ++ textB d.item.value = d.bytes 1 from by unfold Delta.bytes Item.bytes; rw [HPN.out, HFN.out, numB_flag, HFL.out]; simp] at hEO
      obtain ⟨AE, cE, rfl, _, _, hob⟩ := OwnB.form hEO rfl
      obtain ⟨nE, hnE⟩ : ∃ n, n = (d.bytes 1).length := ⟨_, rfl⟩
      rw [← hnE]
      rw [← hnE] at hEO hob
      have HEO := Lib.hid hEO
      have HOB := Lib.hid hob
      clear hEO hob hnE
      have HE : Hid (Blk ((w7.setCell ⟨w.heap.size + 1, 0, none⟩ (.bool false)).setCell ⟨w.heap.size + 1, 1, none⟩ (.slice AE nE cE)) (w.heap.size + 1) 34 #[.bool false, .slice AE nE cE]) := Lib.hid ((E7.out.nb.set_ 0 _).set_ 1 _)
      have HBE : Hid (Below w.heap.size w ((w7.setCell ⟨w.heap.size + 1, 0, none⟩ (.bool false)).setCell ⟨w.heap.size + 1, 1, none⟩ (.slice AE nE cE))) := Lib.hid ((E7.out.be.setCell (p := ⟨w.heap.size + 1, 0, none⟩) (by simp) _).setCell (p := ⟨w.heap.size + 1, 1, none⟩) (by simp) _)
      have HOE : Hid (OwnB ((w7.setCell ⟨w.heap.size + 1, 0, none⟩ (.bool false)).setCell ⟨w.heap.size + 1, 1, none⟩ (.slice AE nE cE)) w.heap.size (.slice AE nE cE) (d.bytes 1)) := Lib.hid (OwnB.mono (OwnB.keepH HEO.out fun k hk => by
        have := (HOB.out k hk).1
        rw [Below.heap_setCell _ _ _ k (by simp; omega), Below.heap_setCell _ _ _ k (by simp; omega)]) (by omega))
      go_wp2
      generalize ((w7.setCell ⟨w.heap.size + 1, 0, none⟩ (.bool false)).setCell ⟨w.heap.size + 1, 1, none⟩ (.slice AE nE cE)) = wE at *
      obtain ⟨e0, e1⟩ := Blk.cells2' HE.out
      exact bodyPost_ret (v := .tuple #[.agg #[.bool false, .slice AE nE cE], .int .i64 0]) (by simp [results, Tryz.results9, go_sem, e0, e1]) rfl (by rw [HMB.out]; exact ⟨.slice AE nE cE, rfl, HOE.out, HBE.out⟩)

set_option maxRecDepth 100000 in
set_option maxHeartbeats 4000000 in
theorem delta_Encode2 (d : Delta) (A A' : Option Addr) (ni nk c c' lo : Nat) (hni : ni = d.right.items.length) (hnk : nk = d.right.kids.length) (w : World) (hp : Pg w lo w.heap.size d.right A A' c c') :
    Calls Tryz.prog 9 #[.agg #[Value.int IntKind.i64 2, Value.string d.item.key, Value.string d.item.value, Value.int IntKind.i64 d.item.no, Value.bool d.item.gone, Value.string d.key, Value.int IntKind.i64 d.page, Value.int IntKind.i64 d.right.level, Value.string d.right.low, Value.string d.right.high, Value.bool d.right.last, Value.int IntKind.i64 d.right.side, Value.slice A ni c, Value.slice A' nk c']] w (PostN w false (cond (d.may 2) (d.bytes 2) []) (cond (d.may 2) 0 110)) := by
  have HMY := Lib.hid (fun w1 h => delta_may2 d A A' ni nk c c' lo hni hnk w1 h)
  have HRD : Hid (∀ W, Below w.heap.size w W → Pg W lo W.heap.size d.right A A' c c') := Lib.hid fun W h => (hp.below h).mono (Nat.le_refl _) h.size
  clear hni hnk hp
  have hB : Below w.heap.size w ((w.alloc (.cells #[Value.int IntKind.i64 2, Value.string d.item.key, Value.string d.item.value, Value.int IntKind.i64 d.item.no, Value.bool d.item.gone, Value.string d.key, Value.int IntKind.i64 d.page, Value.int IntKind.i64 d.right.level, Value.string d.right.low, Value.string d.right.high, Value.bool d.right.last, Value.int IntKind.i64 d.right.side, Value.slice A ni c, Value.slice A' nk c'] 29)).alloc (.cells #[Value.bool false, Value.slice none 0 0] 34)) := ((Below.refl _ _).alloc (Nat.le_refl _) _).alloc (by simp) _
  have hD : Blk ((w.alloc (.cells #[Value.int IntKind.i64 2, Value.string d.item.key, Value.string d.item.value, Value.int IntKind.i64 d.item.no, Value.bool d.item.gone, Value.string d.key, Value.int IntKind.i64 d.page, Value.int IntKind.i64 d.right.level, Value.string d.right.low, Value.string d.right.high, Value.bool d.right.last, Value.int IntKind.i64 d.right.side, Value.slice A ni c, Value.slice A' nk c'] 29)).alloc (.cells #[Value.bool false, Value.slice none 0 0] 34)) w.heap.size 29 #[Value.int IntKind.i64 2, Value.string d.item.key, Value.string d.item.value, Value.int IntKind.i64 d.item.no, Value.bool d.item.gone, Value.string d.key, Value.int IntKind.i64 d.page, Value.int IntKind.i64 d.right.level, Value.string d.right.low, Value.string d.right.high, Value.bool d.right.last, Value.int IntKind.i64 d.right.side, Value.slice A ni c, Value.slice A' nk c'] := (Blk.new _ _ _).alloc _
  have hN : Blk ((w.alloc (.cells #[Value.int IntKind.i64 2, Value.string d.item.key, Value.string d.item.value, Value.int IntKind.i64 d.item.no, Value.bool d.item.gone, Value.string d.key, Value.int IntKind.i64 d.page, Value.int IntKind.i64 d.right.level, Value.string d.right.low, Value.string d.right.high, Value.bool d.right.last, Value.int IntKind.i64 d.right.side, Value.slice A ni c, Value.slice A' nk c'] 29)).alloc (.cells #[Value.bool false, Value.slice none 0 0] 34)) (w.heap.size + 1) 34 #[Value.bool false, Value.slice none 0 0] := by
    have := Blk.new (w.alloc (.cells #[Value.int IntKind.i64 2, Value.string d.item.key, Value.string d.item.value, Value.int IntKind.i64 d.item.no, Value.bool d.item.gone, Value.string d.key, Value.int IntKind.i64 d.page, Value.int IntKind.i64 d.right.level, Value.string d.right.low, Value.string d.right.high, Value.bool d.right.last, Value.int IntKind.i64 d.right.side, Value.slice A ni c, Value.slice A' nk c'] 29)) 34 #[Value.bool false, Value.slice none 0 0]
    simpa using this
  go_enter Tryz.func9, Tryz.ntmps9
  go_upto_region 1 with (fail)
  generalize (w.alloc (.cells #[Value.int IntKind.i64 2, Value.string d.item.key, Value.string d.item.value, Value.int IntKind.i64 d.item.no, Value.bool d.item.gone, Value.string d.key, Value.int IntKind.i64 d.page, Value.int IntKind.i64 d.right.level, Value.string d.right.low, Value.string d.right.high, Value.bool d.right.last, Value.int IntKind.i64 d.right.side, Value.slice A ni c, Value.slice A' nk c'] 29)).alloc (.cells #[Value.bool false, Value.slice none 0 0] 34) = w0 at *
  have HB := Lib.hid hB
  have HD := Lib.hid hD
  have HN := Lib.hid hN
  obtain ⟨q0, q1, q2, q3, q4, q5, q6, q7, q8, q9, q10, q11, q12, q13⟩ := Blk.cells14 hD
  clear hB hD hN
  go_wp2_with fail
  refine (HMY.out w0 (HRD.out w0 HB.out)).mono ?_
  rintro e w1 ⟨rfl, hb1⟩
  have HB1 : Hid (Below w.heap.size w w1) := Lib.hid (HB.out.trans (hb1.mono HB.out.size))
  have HD1 := Lib.hid (HD.out.below hb1 HD.out.lt)
  have HN1 := Lib.hid (HN.out.below hb1 HN.out.lt)
  have hs1 := HN1.out.lt
  clear hb1 q0 q1 q2 q3 q4 q5 q6 q7 q8 q9 q10 q11 q12 q13
  obtain ⟨q0, q1, q2, q3, q4, q5, q6, q7, q8, q9, q10, q11, q12, q13⟩ := Blk.cells14 HD1.out
  cases hmy : d.may 2 with
  | false =>
    have HMB := Lib.hid hmy
    clear hmy
    obtain ⟨n0, n1⟩ := Blk.cells2' HN1.out
    have nf : ∀ i, w1.frozen? ⟨w.heap.size + 1, i, none⟩ = false := HN1.out.frozen
    have HE : Hid (Blk ((w1.setCell ⟨w.heap.size + 1, 0, none⟩ (.bool false)).setCell ⟨w.heap.size + 1, 1, none⟩ (.slice none 0 0)) (w.heap.size + 1) 34 #[.bool false, .slice none 0 0]) := Lib.hid ((HN1.out.set_ 0 _).set_ 1 _)
    have HBE : Hid (Below w.heap.size w ((w1.setCell ⟨w.heap.size + 1, 0, none⟩ (.bool false)).setCell ⟨w.heap.size + 1, 1, none⟩ (.slice none 0 0))) := Lib.hid ((HB1.out.setCell (p := ⟨w.heap.size + 1, 0, none⟩) (by simp) _).setCell (p := ⟨w.heap.size + 1, 1, none⟩) (by simp) _)
    go_wp2
    generalize ((w1.setCell ⟨w.heap.size + 1, 0, none⟩ (.bool false)).setCell ⟨w.heap.size + 1, 1, none⟩ (.slice none 0 0)) = wE at *
    obtain ⟨e0, e1⟩ := Blk.cells2' HE.out
    exact bodyPost_ret (v := .tuple #[.agg #[.bool false, .slice none 0 0], .int .i64 110]) (by simp [results, Tryz.results9, go_sem, e0, e1]) rfl (by rw [HMB.out]; exact ⟨.slice none 0 0, rfl, OwnB.nil _ _, HBE.out⟩)
  | true =>
    have HMB := Lib.hid hmy
    have hkey : isKey d.key = true ∧ isPage d.page = true := by unfold Delta.may at hmy; simp at hmy; exact hmy.2
    have hks : d.key.size ≤ 16 ∧ 0 ≤ d.page := by have := hkey.1; have := hkey.2; simp [isKey, isPage] at *; omega
    clear hkey
    clear hmy
    have hEA : EnW w (w1.alloc (.cells #[.int .u8 2] 5)) #[Value.int IntKind.i64 2, Value.string d.item.key, Value.string d.item.value, Value.int IntKind.i64 d.item.no, Value.bool d.item.gone, Value.string d.key, Value.int IntKind.i64 d.page, Value.int IntKind.i64 d.right.level, Value.string d.right.low, Value.string d.right.high, Value.bool d.right.last, Value.int IntKind.i64 d.right.side, Value.slice A ni c, Value.slice A' nk c'] (.slice (some ⟨w1.heap.size, 0, none⟩) 1 1) [2] :=
      ⟨HB1.out.alloc HB1.out.size _, HD1.out.alloc _, HN1.out.alloc _, (own_kind w1 2).mono (by omega), fun k hk => by cases hk; show _ ≤ w1.heap.size; omega⟩
    have hsA : w1.heap.size < (w1.alloc (.cells #[.int .u8 2] 5)).heap.size := by simp
    go_upto_region 4 with (fail)
    generalize w1.alloc (.cells #[.int .u8 2] 5) = wA at *
    have EA := Lib.hid hEA
    clear hEA q0 q1 q2 q3 q4 q5 q6 q7 q8 q9 q10 q11 q12 q13
    obtain ⟨q0, q1, q2, q3, q4, q5, q6, q7, q8, q9, q10, q11, q12, q13⟩ := Blk.cells14 EA.out.db
    go_upto_region 5 with (go_at_call 30; refine (delta_of2 d A A' ni nk c c' _).mono ?_; rintro e w2 ⟨rfl, hb2⟩)
    have E2 := Lib.hid (EA.out.on hb2)
    have hs2 : w1.heap.size < w2.heap.size := Nat.lt_of_lt_of_le hsA hb2.size
    clear hb2 q0 q1 q2 q3 q4 q5 q6 q7 q8 q9 q10 q11 q12 q13
    obtain ⟨q0, q1, q2, q3, q4, q5, q6, q7, q8, q9, q10, q11, q12, q13⟩ := Blk.cells14 E2.out.db
    have a1 := as_2_1
    have a2 := as_2_2
    have a3 := as_2_3
    have a4 := as_2_4
    have a5 := as_2_5
    have a6 := as_2_6
    obtain ⟨hks1, hks2⟩ := hks
    obtain ⟨pn, hpn⟩ := Int.eq_ofNat_of_zero_le hks2
    have HPN := Lib.hid hpn
    rw [hpn] at q6
    clear hks2 hpn
    go_upto_region 13 with (fail)
    go_region_held3 (fun w' => w'.cell? ⟨w.heap.size, 5, none⟩ = some (.string d.key) ∧ w'.cell? ⟨w.heap.size, 6, none⟩ = some (.int .i64 (pn : Int)))
      (first | go_keep | (constructor <;> assumption))
      (first
        | (go_at_call 31; refine (delta_text (w.heap.size + 2) _ _ d.key _ E2.out.drew.ow (by have := E2.out.nb.lt; show _ ≤ w2.heap.size; omega) (by simp; omega)).mono ?_; rintro e w3 ⟨v3, rfl, hO, hG⟩; have E3 := Lib.hid (E2.out.drew.grow hO hG); have hq5 : w3.cell? ⟨w.heap.size, 5, none⟩ = some (.string d.key) := E3.out.db.cell 5; have hq6 : w3.cell? ⟨w.heap.size, 6, none⟩ = some (.int .i64 (pn : Int)) := by { rw [← HPN.out]; exact E3.out.db.cell 6 }; clear hO hG)
        | (go_at_call 32; refine (delta_number (w.heap.size + 2) _ _ pn 2 (by omega) _ E3.out.ow (by have := E3.out.nb.lt; omega) (by simp [textB, sB_length]; omega)).mono ?_; rintro e w4 ⟨v4, rfl, hO, hG⟩; have E4 := Lib.hid (E3.out.grow hO hG); have hq5' : w4.cell? ⟨w.heap.size, 5, none⟩ = some (.string d.key) := E4.out.db.cell 5; have hq6' : w4.cell? ⟨w.heap.size, 6, none⟩ = some (.int .i64 (pn : Int)) := by { rw [← HPN.out]; exact E4.out.db.cell 6 }; clear hO hG))
    go_upto_region 21 with (fail)
    obtain ⟨n0, n1⟩ := Blk.cells2' E4.out.nb
    have nf : ∀ i, w4.frozen? ⟨w.heap.size + 1, i, none⟩ = false := E4.out.nb.frozen
    have hEO := E4.out.ow
    rw [show ([2] ++ textB d.key) ++ numB pn 2 = d.bytes 2 from by unfold Delta.bytes; rw [HPN.out]; rfl] at hEO
    obtain ⟨AE, cE, rfl, _, _, hob⟩ := OwnB.form hEO rfl
    obtain ⟨nE, hnE⟩ : ∃ n, n = (d.bytes 2).length := ⟨_, rfl⟩
    rw [← hnE]
    rw [← hnE] at hEO hob
    have HEO := Lib.hid hEO
    have HOB := Lib.hid hob
    clear hEO hob hnE
    have HE : Hid (Blk ((w4.setCell ⟨w.heap.size + 1, 0, none⟩ (.bool false)).setCell ⟨w.heap.size + 1, 1, none⟩ (.slice AE nE cE)) (w.heap.size + 1) 34 #[.bool false, .slice AE nE cE]) := Lib.hid ((E4.out.nb.set_ 0 _).set_ 1 _)
    have HBE : Hid (Below w.heap.size w ((w4.setCell ⟨w.heap.size + 1, 0, none⟩ (.bool false)).setCell ⟨w.heap.size + 1, 1, none⟩ (.slice AE nE cE))) := Lib.hid ((E4.out.be.setCell (p := ⟨w.heap.size + 1, 0, none⟩) (by simp) _).setCell (p := ⟨w.heap.size + 1, 1, none⟩) (by simp) _)
    have HOE : Hid (OwnB ((w4.setCell ⟨w.heap.size + 1, 0, none⟩ (.bool false)).setCell ⟨w.heap.size + 1, 1, none⟩ (.slice AE nE cE)) w.heap.size (.slice AE nE cE) (d.bytes 2)) := Lib.hid (OwnB.mono (OwnB.keepH HEO.out fun k hk => by
      have := (HOB.out k hk).1
      rw [Below.heap_setCell _ _ _ k (by simp; omega), Below.heap_setCell _ _ _ k (by simp; omega)]) (by omega))
    go_wp2
    generalize ((w4.setCell ⟨w.heap.size + 1, 0, none⟩ (.bool false)).setCell ⟨w.heap.size + 1, 1, none⟩ (.slice AE nE cE)) = wE at *
    obtain ⟨e0, e1⟩ := Blk.cells2' HE.out
    exact bodyPost_ret (v := .tuple #[.agg #[.bool false, .slice AE nE cE], .int .i64 0]) (by simp [results, Tryz.results9, go_sem, e0, e1]) rfl (by rw [HMB.out]; exact ⟨.slice AE nE cE, rfl, HOE.out, HBE.out⟩)

set_option maxRecDepth 100000 in
set_option maxHeartbeats 4000000 in
theorem delta_Encode3 (d : Delta) (A A' : Option Addr) (ni nk c c' lo : Nat) (hni : ni = d.right.items.length) (hnk : nk = d.right.kids.length) (w : World) (hp : Pg w lo w.heap.size d.right A A' c c') :
    Calls Tryz.prog 9 #[.agg #[Value.int IntKind.i64 3, Value.string d.item.key, Value.string d.item.value, Value.int IntKind.i64 d.item.no, Value.bool d.item.gone, Value.string d.key, Value.int IntKind.i64 d.page, Value.int IntKind.i64 d.right.level, Value.string d.right.low, Value.string d.right.high, Value.bool d.right.last, Value.int IntKind.i64 d.right.side, Value.slice A ni c, Value.slice A' nk c']] w (PostN w false (cond (d.may 3) (d.bytes 3) []) (cond (d.may 3) 0 110)) := by
  have HMY := Lib.hid (fun w1 h => delta_may3 d A A' ni nk c c' lo hni hnk w1 h)
  have HRD : Hid (∀ W, Below w.heap.size w W → Pg W lo W.heap.size d.right A A' c c') := Lib.hid fun W h => (hp.below h).mono (Nat.le_refl _) h.size
  clear hni hnk hp
  have hB : Below w.heap.size w ((w.alloc (.cells #[Value.int IntKind.i64 3, Value.string d.item.key, Value.string d.item.value, Value.int IntKind.i64 d.item.no, Value.bool d.item.gone, Value.string d.key, Value.int IntKind.i64 d.page, Value.int IntKind.i64 d.right.level, Value.string d.right.low, Value.string d.right.high, Value.bool d.right.last, Value.int IntKind.i64 d.right.side, Value.slice A ni c, Value.slice A' nk c'] 29)).alloc (.cells #[Value.bool false, Value.slice none 0 0] 34)) := ((Below.refl _ _).alloc (Nat.le_refl _) _).alloc (by simp) _
  have hD : Blk ((w.alloc (.cells #[Value.int IntKind.i64 3, Value.string d.item.key, Value.string d.item.value, Value.int IntKind.i64 d.item.no, Value.bool d.item.gone, Value.string d.key, Value.int IntKind.i64 d.page, Value.int IntKind.i64 d.right.level, Value.string d.right.low, Value.string d.right.high, Value.bool d.right.last, Value.int IntKind.i64 d.right.side, Value.slice A ni c, Value.slice A' nk c'] 29)).alloc (.cells #[Value.bool false, Value.slice none 0 0] 34)) w.heap.size 29 #[Value.int IntKind.i64 3, Value.string d.item.key, Value.string d.item.value, Value.int IntKind.i64 d.item.no, Value.bool d.item.gone, Value.string d.key, Value.int IntKind.i64 d.page, Value.int IntKind.i64 d.right.level, Value.string d.right.low, Value.string d.right.high, Value.bool d.right.last, Value.int IntKind.i64 d.right.side, Value.slice A ni c, Value.slice A' nk c'] := (Blk.new _ _ _).alloc _
  have hN : Blk ((w.alloc (.cells #[Value.int IntKind.i64 3, Value.string d.item.key, Value.string d.item.value, Value.int IntKind.i64 d.item.no, Value.bool d.item.gone, Value.string d.key, Value.int IntKind.i64 d.page, Value.int IntKind.i64 d.right.level, Value.string d.right.low, Value.string d.right.high, Value.bool d.right.last, Value.int IntKind.i64 d.right.side, Value.slice A ni c, Value.slice A' nk c'] 29)).alloc (.cells #[Value.bool false, Value.slice none 0 0] 34)) (w.heap.size + 1) 34 #[Value.bool false, Value.slice none 0 0] := by
    have := Blk.new (w.alloc (.cells #[Value.int IntKind.i64 3, Value.string d.item.key, Value.string d.item.value, Value.int IntKind.i64 d.item.no, Value.bool d.item.gone, Value.string d.key, Value.int IntKind.i64 d.page, Value.int IntKind.i64 d.right.level, Value.string d.right.low, Value.string d.right.high, Value.bool d.right.last, Value.int IntKind.i64 d.right.side, Value.slice A ni c, Value.slice A' nk c'] 29)) 34 #[Value.bool false, Value.slice none 0 0]
    simpa using this
  go_enter Tryz.func9, Tryz.ntmps9
  go_upto_region 1 with (fail)
  generalize (w.alloc (.cells #[Value.int IntKind.i64 3, Value.string d.item.key, Value.string d.item.value, Value.int IntKind.i64 d.item.no, Value.bool d.item.gone, Value.string d.key, Value.int IntKind.i64 d.page, Value.int IntKind.i64 d.right.level, Value.string d.right.low, Value.string d.right.high, Value.bool d.right.last, Value.int IntKind.i64 d.right.side, Value.slice A ni c, Value.slice A' nk c'] 29)).alloc (.cells #[Value.bool false, Value.slice none 0 0] 34) = w0 at *
  have HB := Lib.hid hB
  have HD := Lib.hid hD
  have HN := Lib.hid hN
  obtain ⟨q0, q1, q2, q3, q4, q5, q6, q7, q8, q9, q10, q11, q12, q13⟩ := Blk.cells14 hD
  clear hB hD hN
  go_wp2_with fail
  refine (HMY.out w0 (HRD.out w0 HB.out)).mono ?_
  rintro e w1 ⟨rfl, hb1⟩
  have HB1 : Hid (Below w.heap.size w w1) := Lib.hid (HB.out.trans (hb1.mono HB.out.size))
  have HD1 := Lib.hid (HD.out.below hb1 HD.out.lt)
  have HN1 := Lib.hid (HN.out.below hb1 HN.out.lt)
  have hs1 := HN1.out.lt
  clear hb1 q0 q1 q2 q3 q4 q5 q6 q7 q8 q9 q10 q11 q12 q13
  obtain ⟨q0, q1, q2, q3, q4, q5, q6, q7, q8, q9, q10, q11, q12, q13⟩ := Blk.cells14 HD1.out
  cases hmy : d.may 3 with
  | false =>
    have HMB := Lib.hid hmy
    clear hmy
    obtain ⟨n0, n1⟩ := Blk.cells2' HN1.out
    have nf : ∀ i, w1.frozen? ⟨w.heap.size + 1, i, none⟩ = false := HN1.out.frozen
    have HE : Hid (Blk ((w1.setCell ⟨w.heap.size + 1, 0, none⟩ (.bool false)).setCell ⟨w.heap.size + 1, 1, none⟩ (.slice none 0 0)) (w.heap.size + 1) 34 #[.bool false, .slice none 0 0]) := Lib.hid ((HN1.out.set_ 0 _).set_ 1 _)
    have HBE : Hid (Below w.heap.size w ((w1.setCell ⟨w.heap.size + 1, 0, none⟩ (.bool false)).setCell ⟨w.heap.size + 1, 1, none⟩ (.slice none 0 0))) := Lib.hid ((HB1.out.setCell (p := ⟨w.heap.size + 1, 0, none⟩) (by simp) _).setCell (p := ⟨w.heap.size + 1, 1, none⟩) (by simp) _)
    go_wp2
    generalize ((w1.setCell ⟨w.heap.size + 1, 0, none⟩ (.bool false)).setCell ⟨w.heap.size + 1, 1, none⟩ (.slice none 0 0)) = wE at *
    obtain ⟨e0, e1⟩ := Blk.cells2' HE.out
    exact bodyPost_ret (v := .tuple #[.agg #[.bool false, .slice none 0 0], .int .i64 110]) (by simp [results, Tryz.results9, go_sem, e0, e1]) rfl (by rw [HMB.out]; exact ⟨.slice none 0 0, rfl, OwnB.nil _ _, HBE.out⟩)
  | true =>
    have HMB := Lib.hid hmy
    have hkey : isKey d.key = true ∧ isPage d.page = true := by unfold Delta.may at hmy; simp at hmy; exact hmy.2
    have hks : d.key.size ≤ 16 ∧ 0 ≤ d.page := by have := hkey.1; have := hkey.2; simp [isKey, isPage] at *; omega
    clear hkey
    clear hmy
    have hEA : EnW w (w1.alloc (.cells #[.int .u8 3] 5)) #[Value.int IntKind.i64 3, Value.string d.item.key, Value.string d.item.value, Value.int IntKind.i64 d.item.no, Value.bool d.item.gone, Value.string d.key, Value.int IntKind.i64 d.page, Value.int IntKind.i64 d.right.level, Value.string d.right.low, Value.string d.right.high, Value.bool d.right.last, Value.int IntKind.i64 d.right.side, Value.slice A ni c, Value.slice A' nk c'] (.slice (some ⟨w1.heap.size, 0, none⟩) 1 1) [3] :=
      ⟨HB1.out.alloc HB1.out.size _, HD1.out.alloc _, HN1.out.alloc _, (own_kind w1 3).mono (by omega), fun k hk => by cases hk; show _ ≤ w1.heap.size; omega⟩
    have hsA : w1.heap.size < (w1.alloc (.cells #[.int .u8 3] 5)).heap.size := by simp
    go_upto_region 4 with (fail)
    generalize w1.alloc (.cells #[.int .u8 3] 5) = wA at *
    have EA := Lib.hid hEA
    clear hEA q0 q1 q2 q3 q4 q5 q6 q7 q8 q9 q10 q11 q12 q13
    obtain ⟨q0, q1, q2, q3, q4, q5, q6, q7, q8, q9, q10, q11, q12, q13⟩ := Blk.cells14 EA.out.db
    go_upto_region 5 with (go_at_call 30; refine (delta_of3 d A A' ni nk c c' _).mono ?_; rintro e w2 ⟨rfl, hb2⟩)
    have E2 := Lib.hid (EA.out.on hb2)
    have hs2 : w1.heap.size < w2.heap.size := Nat.lt_of_lt_of_le hsA hb2.size
    clear hb2 q0 q1 q2 q3 q4 q5 q6 q7 q8 q9 q10 q11 q12 q13
    obtain ⟨q0, q1, q2, q3, q4, q5, q6, q7, q8, q9, q10, q11, q12, q13⟩ := Blk.cells14 E2.out.db
    have a1 := as_3_1
    have a2 := as_3_2
    have a3 := as_3_3
    have a4 := as_3_4
    have a5 := as_3_5
    have a6 := as_3_6
    obtain ⟨hks1, hks2⟩ := hks
    obtain ⟨pn, hpn⟩ := Int.eq_ofNat_of_zero_le hks2
    have HPN := Lib.hid hpn
    rw [hpn] at q6
    clear hks2 hpn
    go_upto_region 13 with (fail)
    go_region_held3 (fun w' => w'.cell? ⟨w.heap.size, 5, none⟩ = some (.string d.key) ∧ w'.cell? ⟨w.heap.size, 6, none⟩ = some (.int .i64 (pn : Int)))
      (first | go_keep | (constructor <;> assumption))
      (first
        | (go_at_call 31; refine (delta_text (w.heap.size + 2) _ _ d.key _ E2.out.drew.ow (by have := E2.out.nb.lt; show _ ≤ w2.heap.size; omega) (by simp; omega)).mono ?_; rintro e w3 ⟨v3, rfl, hO, hG⟩; have E3 := Lib.hid (E2.out.drew.grow hO hG); have hq5 : w3.cell? ⟨w.heap.size, 5, none⟩ = some (.string d.key) := E3.out.db.cell 5; have hq6 : w3.cell? ⟨w.heap.size, 6, none⟩ = some (.int .i64 (pn : Int)) := by { rw [← HPN.out]; exact E3.out.db.cell 6 }; clear hO hG)
        | (go_at_call 32; refine (delta_number (w.heap.size + 2) _ _ pn 2 (by omega) _ E3.out.ow (by have := E3.out.nb.lt; omega) (by simp [textB, sB_length]; omega)).mono ?_; rintro e w4 ⟨v4, rfl, hO, hG⟩; have E4 := Lib.hid (E3.out.grow hO hG); have hq5' : w4.cell? ⟨w.heap.size, 5, none⟩ = some (.string d.key) := E4.out.db.cell 5; have hq6' : w4.cell? ⟨w.heap.size, 6, none⟩ = some (.int .i64 (pn : Int)) := by { rw [← HPN.out]; exact E4.out.db.cell 6 }; clear hO hG))
    go_upto_region 21 with (fail)
    obtain ⟨n0, n1⟩ := Blk.cells2' E4.out.nb
    have nf : ∀ i, w4.frozen? ⟨w.heap.size + 1, i, none⟩ = false := E4.out.nb.frozen
    have hEO := E4.out.ow
    rw [show ([3] ++ textB d.key) ++ numB pn 2 = d.bytes 3 from by unfold Delta.bytes; rw [HPN.out]; rfl] at hEO
    obtain ⟨AE, cE, rfl, _, _, hob⟩ := OwnB.form hEO rfl
    obtain ⟨nE, hnE⟩ : ∃ n, n = (d.bytes 3).length := ⟨_, rfl⟩
    rw [← hnE]
    rw [← hnE] at hEO hob
    have HEO := Lib.hid hEO
    have HOB := Lib.hid hob
    clear hEO hob hnE
    have HE : Hid (Blk ((w4.setCell ⟨w.heap.size + 1, 0, none⟩ (.bool false)).setCell ⟨w.heap.size + 1, 1, none⟩ (.slice AE nE cE)) (w.heap.size + 1) 34 #[.bool false, .slice AE nE cE]) := Lib.hid ((E4.out.nb.set_ 0 _).set_ 1 _)
    have HBE : Hid (Below w.heap.size w ((w4.setCell ⟨w.heap.size + 1, 0, none⟩ (.bool false)).setCell ⟨w.heap.size + 1, 1, none⟩ (.slice AE nE cE))) := Lib.hid ((E4.out.be.setCell (p := ⟨w.heap.size + 1, 0, none⟩) (by simp) _).setCell (p := ⟨w.heap.size + 1, 1, none⟩) (by simp) _)
    have HOE : Hid (OwnB ((w4.setCell ⟨w.heap.size + 1, 0, none⟩ (.bool false)).setCell ⟨w.heap.size + 1, 1, none⟩ (.slice AE nE cE)) w.heap.size (.slice AE nE cE) (d.bytes 3)) := Lib.hid (OwnB.mono (OwnB.keepH HEO.out fun k hk => by
      have := (HOB.out k hk).1
      rw [Below.heap_setCell _ _ _ k (by simp; omega), Below.heap_setCell _ _ _ k (by simp; omega)]) (by omega))
    go_wp2
    generalize ((w4.setCell ⟨w.heap.size + 1, 0, none⟩ (.bool false)).setCell ⟨w.heap.size + 1, 1, none⟩ (.slice AE nE cE)) = wE at *
    obtain ⟨e0, e1⟩ := Blk.cells2' HE.out
    exact bodyPost_ret (v := .tuple #[.agg #[.bool false, .slice AE nE cE], .int .i64 0]) (by simp [results, Tryz.results9, go_sem, e0, e1]) rfl (by rw [HMB.out]; exact ⟨.slice AE nE cE, rfl, HOE.out, HBE.out⟩)

set_option maxRecDepth 100000 in
set_option maxHeartbeats 4000000 in
theorem delta_Encode4 (d : Delta) (A A' : Option Addr) (ni nk c c' lo : Nat) (hni : ni = d.right.items.length) (hnk : nk = d.right.kids.length) (w : World) (hp : Pg w lo w.heap.size d.right A A' c c') :
    Calls Tryz.prog 9 #[.agg #[Value.int IntKind.i64 4, Value.string d.item.key, Value.string d.item.value, Value.int IntKind.i64 d.item.no, Value.bool d.item.gone, Value.string d.key, Value.int IntKind.i64 d.page, Value.int IntKind.i64 d.right.level, Value.string d.right.low, Value.string d.right.high, Value.bool d.right.last, Value.int IntKind.i64 d.right.side, Value.slice A ni c, Value.slice A' nk c']] w (PostN w false (cond (d.may 4) (d.bytes 4) []) (cond (d.may 4) 0 110)) := by
  have HMY := Lib.hid (fun w1 h => delta_may4 d A A' ni nk c c' lo hni hnk w1 h)
  have HRD : Hid (∀ W, Below w.heap.size w W → Pg W lo W.heap.size d.right A A' c c') := Lib.hid fun W h => (hp.below h).mono (Nat.le_refl _) h.size
  clear hni hnk hp
  have hB : Below w.heap.size w ((w.alloc (.cells #[Value.int IntKind.i64 4, Value.string d.item.key, Value.string d.item.value, Value.int IntKind.i64 d.item.no, Value.bool d.item.gone, Value.string d.key, Value.int IntKind.i64 d.page, Value.int IntKind.i64 d.right.level, Value.string d.right.low, Value.string d.right.high, Value.bool d.right.last, Value.int IntKind.i64 d.right.side, Value.slice A ni c, Value.slice A' nk c'] 29)).alloc (.cells #[Value.bool false, Value.slice none 0 0] 34)) := ((Below.refl _ _).alloc (Nat.le_refl _) _).alloc (by simp) _
  have hD : Blk ((w.alloc (.cells #[Value.int IntKind.i64 4, Value.string d.item.key, Value.string d.item.value, Value.int IntKind.i64 d.item.no, Value.bool d.item.gone, Value.string d.key, Value.int IntKind.i64 d.page, Value.int IntKind.i64 d.right.level, Value.string d.right.low, Value.string d.right.high, Value.bool d.right.last, Value.int IntKind.i64 d.right.side, Value.slice A ni c, Value.slice A' nk c'] 29)).alloc (.cells #[Value.bool false, Value.slice none 0 0] 34)) w.heap.size 29 #[Value.int IntKind.i64 4, Value.string d.item.key, Value.string d.item.value, Value.int IntKind.i64 d.item.no, Value.bool d.item.gone, Value.string d.key, Value.int IntKind.i64 d.page, Value.int IntKind.i64 d.right.level, Value.string d.right.low, Value.string d.right.high, Value.bool d.right.last, Value.int IntKind.i64 d.right.side, Value.slice A ni c, Value.slice A' nk c'] := (Blk.new _ _ _).alloc _
  have hN : Blk ((w.alloc (.cells #[Value.int IntKind.i64 4, Value.string d.item.key, Value.string d.item.value, Value.int IntKind.i64 d.item.no, Value.bool d.item.gone, Value.string d.key, Value.int IntKind.i64 d.page, Value.int IntKind.i64 d.right.level, Value.string d.right.low, Value.string d.right.high, Value.bool d.right.last, Value.int IntKind.i64 d.right.side, Value.slice A ni c, Value.slice A' nk c'] 29)).alloc (.cells #[Value.bool false, Value.slice none 0 0] 34)) (w.heap.size + 1) 34 #[Value.bool false, Value.slice none 0 0] := by
    have := Blk.new (w.alloc (.cells #[Value.int IntKind.i64 4, Value.string d.item.key, Value.string d.item.value, Value.int IntKind.i64 d.item.no, Value.bool d.item.gone, Value.string d.key, Value.int IntKind.i64 d.page, Value.int IntKind.i64 d.right.level, Value.string d.right.low, Value.string d.right.high, Value.bool d.right.last, Value.int IntKind.i64 d.right.side, Value.slice A ni c, Value.slice A' nk c'] 29)) 34 #[Value.bool false, Value.slice none 0 0]
    simpa using this
  go_enter Tryz.func9, Tryz.ntmps9
  go_upto_region 1 with (fail)
  generalize (w.alloc (.cells #[Value.int IntKind.i64 4, Value.string d.item.key, Value.string d.item.value, Value.int IntKind.i64 d.item.no, Value.bool d.item.gone, Value.string d.key, Value.int IntKind.i64 d.page, Value.int IntKind.i64 d.right.level, Value.string d.right.low, Value.string d.right.high, Value.bool d.right.last, Value.int IntKind.i64 d.right.side, Value.slice A ni c, Value.slice A' nk c'] 29)).alloc (.cells #[Value.bool false, Value.slice none 0 0] 34) = w0 at *
  have HB := Lib.hid hB
  have HD := Lib.hid hD
  have HN := Lib.hid hN
  obtain ⟨q0, q1, q2, q3, q4, q5, q6, q7, q8, q9, q10, q11, q12, q13⟩ := Blk.cells14 hD
  clear hB hD hN
  go_wp2_with fail
  refine (HMY.out w0 (HRD.out w0 HB.out)).mono ?_
  rintro e w1 ⟨rfl, hb1⟩
  have HB1 : Hid (Below w.heap.size w w1) := Lib.hid (HB.out.trans (hb1.mono HB.out.size))
  have HD1 := Lib.hid (HD.out.below hb1 HD.out.lt)
  have HN1 := Lib.hid (HN.out.below hb1 HN.out.lt)
  have hs1 := HN1.out.lt
  clear hb1 q0 q1 q2 q3 q4 q5 q6 q7 q8 q9 q10 q11 q12 q13
  obtain ⟨q0, q1, q2, q3, q4, q5, q6, q7, q8, q9, q10, q11, q12, q13⟩ := Blk.cells14 HD1.out
  cases hmy : d.may 4 with
  | false =>
    have HMB := Lib.hid hmy
    clear hmy
    obtain ⟨n0, n1⟩ := Blk.cells2' HN1.out
    have nf : ∀ i, w1.frozen? ⟨w.heap.size + 1, i, none⟩ = false := HN1.out.frozen
    have HE : Hid (Blk ((w1.setCell ⟨w.heap.size + 1, 0, none⟩ (.bool false)).setCell ⟨w.heap.size + 1, 1, none⟩ (.slice none 0 0)) (w.heap.size + 1) 34 #[.bool false, .slice none 0 0]) := Lib.hid ((HN1.out.set_ 0 _).set_ 1 _)
    have HBE : Hid (Below w.heap.size w ((w1.setCell ⟨w.heap.size + 1, 0, none⟩ (.bool false)).setCell ⟨w.heap.size + 1, 1, none⟩ (.slice none 0 0))) := Lib.hid ((HB1.out.setCell (p := ⟨w.heap.size + 1, 0, none⟩) (by simp) _).setCell (p := ⟨w.heap.size + 1, 1, none⟩) (by simp) _)
    go_wp2
    generalize ((w1.setCell ⟨w.heap.size + 1, 0, none⟩ (.bool false)).setCell ⟨w.heap.size + 1, 1, none⟩ (.slice none 0 0)) = wE at *
    obtain ⟨e0, e1⟩ := Blk.cells2' HE.out
    exact bodyPost_ret (v := .tuple #[.agg #[.bool false, .slice none 0 0], .int .i64 110]) (by simp [results, Tryz.results9, go_sem, e0, e1]) rfl (by rw [HMB.out]; exact ⟨.slice none 0 0, rfl, OwnB.nil _ _, HBE.out⟩)
  | true =>
    have HMB := Lib.hid hmy
    have hks : d.key.size ≤ 16 := by unfold Delta.may at hmy; simp [isKey] at hmy; omega
    clear hmy
    have hEA : EnW w (w1.alloc (.cells #[.int .u8 4] 5)) #[Value.int IntKind.i64 4, Value.string d.item.key, Value.string d.item.value, Value.int IntKind.i64 d.item.no, Value.bool d.item.gone, Value.string d.key, Value.int IntKind.i64 d.page, Value.int IntKind.i64 d.right.level, Value.string d.right.low, Value.string d.right.high, Value.bool d.right.last, Value.int IntKind.i64 d.right.side, Value.slice A ni c, Value.slice A' nk c'] (.slice (some ⟨w1.heap.size, 0, none⟩) 1 1) [4] :=
      ⟨HB1.out.alloc HB1.out.size _, HD1.out.alloc _, HN1.out.alloc _, (own_kind w1 4).mono (by omega), fun k hk => by cases hk; show _ ≤ w1.heap.size; omega⟩
    have hsA : w1.heap.size < (w1.alloc (.cells #[.int .u8 4] 5)).heap.size := by simp
    go_upto_region 4 with (fail)
    generalize w1.alloc (.cells #[.int .u8 4] 5) = wA at *
    have EA := Lib.hid hEA
    clear hEA q0 q1 q2 q3 q4 q5 q6 q7 q8 q9 q10 q11 q12 q13
    obtain ⟨q0, q1, q2, q3, q4, q5, q6, q7, q8, q9, q10, q11, q12, q13⟩ := Blk.cells14 EA.out.db
    go_upto_region 5 with (go_at_call 30; refine (delta_of4 d A A' ni nk c c' _).mono ?_; rintro e w2 ⟨rfl, hb2⟩)
    have E2 := Lib.hid (EA.out.on hb2)
    have hs2 : w1.heap.size < w2.heap.size := Nat.lt_of_lt_of_le hsA hb2.size
    clear hb2 q0 q1 q2 q3 q4 q5 q6 q7 q8 q9 q10 q11 q12 q13
    obtain ⟨q0, q1, q2, q3, q4, q5, q6, q7, q8, q9, q10, q11, q12, q13⟩ := Blk.cells14 E2.out.db
    have a1 := as_4_1
    have a2 := as_4_2
    have a3 := as_4_3
    have a4 := as_4_4
    have a5 := as_4_5
    have a6 := as_4_6
    go_upto_region 21 with (go_at_call 31; refine (delta_text (w.heap.size + 2) _ _ d.key _ E2.out.ow (by have := E2.out.nb.lt; omega) (by simp; omega)).mono ?_; rintro e w3 ⟨v3, rfl, hO, hG⟩; have E3 := Lib.hid (E2.out.grow hO hG); clear hO hG)
    obtain ⟨n0, n1⟩ := Blk.cells2' E3.out.nb
    have nf : ∀ i, w3.frozen? ⟨w.heap.size + 1, i, none⟩ = false := E3.out.nb.frozen
    have hEO := E3.out.ow
    rw [show [4] ++ textB d.key = d.bytes 4 from rfl] at hEO
    obtain ⟨AE, cE, rfl, _, _, hob⟩ := OwnB.form hEO rfl
    obtain ⟨nE, hnE⟩ : ∃ n, n = (d.bytes 4).length := ⟨_, rfl⟩
    rw [← hnE]
    rw [← hnE] at hEO hob
    have HEO := Lib.hid hEO
    have HOB := Lib.hid hob
    clear hEO hob hnE
    have HE : Hid (Blk ((w3.setCell ⟨w.heap.size + 1, 0, none⟩ (.bool false)).setCell ⟨w.heap.size + 1, 1, none⟩ (.slice AE nE cE)) (w.heap.size + 1) 34 #[.bool false, .slice AE nE cE]) := Lib.hid ((E3.out.nb.set_ 0 _).set_ 1 _)
    have HBE : Hid (Below w.heap.size w ((w3.setCell ⟨w.heap.size + 1, 0, none⟩ (.bool false)).setCell ⟨w.heap.size + 1, 1, none⟩ (.slice AE nE cE))) := Lib.hid ((E3.out.be.setCell (p := ⟨w.heap.size + 1, 0, none⟩) (by simp) _).setCell (p := ⟨w.heap.size + 1, 1, none⟩) (by simp) _)
    have HOE : Hid (OwnB ((w3.setCell ⟨w.heap.size + 1, 0, none⟩ (.bool false)).setCell ⟨w.heap.size + 1, 1, none⟩ (.slice AE nE cE)) w.heap.size (.slice AE nE cE) (d.bytes 4)) := Lib.hid (OwnB.mono (OwnB.keepH HEO.out fun k hk => by
      have := (HOB.out k hk).1
      rw [Below.heap_setCell _ _ _ k (by simp; omega), Below.heap_setCell _ _ _ k (by simp; omega)]) (by omega))
    go_wp2
    generalize ((w3.setCell ⟨w.heap.size + 1, 0, none⟩ (.bool false)).setCell ⟨w.heap.size + 1, 1, none⟩ (.slice AE nE cE)) = wE at *
    obtain ⟨e0, e1⟩ := Blk.cells2' HE.out
    exact bodyPost_ret (v := .tuple #[.agg #[.bool false, .slice AE nE cE], .int .i64 0]) (by simp [results, Tryz.results9, go_sem, e0, e1]) rfl (by rw [HMB.out]; exact ⟨.slice AE nE cE, rfl, HOE.out, HBE.out⟩)

set_option maxRecDepth 100000 in
set_option maxHeartbeats 4000000 in
theorem delta_Encode5 (d : Delta) (A A' : Option Addr) (ni nk c c' lo : Nat) (hni : ni = d.right.items.length) (hnk : nk = d.right.kids.length) (w : World) (hp : Pg w lo w.heap.size d.right A A' c c') :
    Calls Tryz.prog 9 #[.agg #[Value.int IntKind.i64 5, Value.string d.item.key, Value.string d.item.value, Value.int IntKind.i64 d.item.no, Value.bool d.item.gone, Value.string d.key, Value.int IntKind.i64 d.page, Value.int IntKind.i64 d.right.level, Value.string d.right.low, Value.string d.right.high, Value.bool d.right.last, Value.int IntKind.i64 d.right.side, Value.slice A ni c, Value.slice A' nk c']] w (PostN w false (cond (d.may 5) (d.bytes 5) []) (cond (d.may 5) 0 110)) := by
  have HMY := Lib.hid (fun w1 h => delta_may5 d A A' ni nk c c' lo hni hnk w1 h)
  have HRD : Hid (∀ W, Below w.heap.size w W → Pg W lo W.heap.size d.right A A' c c') := Lib.hid fun W h => (hp.below h).mono (Nat.le_refl _) h.size
  clear hni hnk hp
  have hB : Below w.heap.size w ((w.alloc (.cells #[Value.int IntKind.i64 5, Value.string d.item.key, Value.string d.item.value, Value.int IntKind.i64 d.item.no, Value.bool d.item.gone, Value.string d.key, Value.int IntKind.i64 d.page, Value.int IntKind.i64 d.right.level, Value.string d.right.low, Value.string d.right.high, Value.bool d.right.last, Value.int IntKind.i64 d.right.side, Value.slice A ni c, Value.slice A' nk c'] 29)).alloc (.cells #[Value.bool false, Value.slice none 0 0] 34)) := ((Below.refl _ _).alloc (Nat.le_refl _) _).alloc (by simp) _
  have hD : Blk ((w.alloc (.cells #[Value.int IntKind.i64 5, Value.string d.item.key, Value.string d.item.value, Value.int IntKind.i64 d.item.no, Value.bool d.item.gone, Value.string d.key, Value.int IntKind.i64 d.page, Value.int IntKind.i64 d.right.level, Value.string d.right.low, Value.string d.right.high, Value.bool d.right.last, Value.int IntKind.i64 d.right.side, Value.slice A ni c, Value.slice A' nk c'] 29)).alloc (.cells #[Value.bool false, Value.slice none 0 0] 34)) w.heap.size 29 #[Value.int IntKind.i64 5, Value.string d.item.key, Value.string d.item.value, Value.int IntKind.i64 d.item.no, Value.bool d.item.gone, Value.string d.key, Value.int IntKind.i64 d.page, Value.int IntKind.i64 d.right.level, Value.string d.right.low, Value.string d.right.high, Value.bool d.right.last, Value.int IntKind.i64 d.right.side, Value.slice A ni c, Value.slice A' nk c'] := (Blk.new _ _ _).alloc _
  have hN : Blk ((w.alloc (.cells #[Value.int IntKind.i64 5, Value.string d.item.key, Value.string d.item.value, Value.int IntKind.i64 d.item.no, Value.bool d.item.gone, Value.string d.key, Value.int IntKind.i64 d.page, Value.int IntKind.i64 d.right.level, Value.string d.right.low, Value.string d.right.high, Value.bool d.right.last, Value.int IntKind.i64 d.right.side, Value.slice A ni c, Value.slice A' nk c'] 29)).alloc (.cells #[Value.bool false, Value.slice none 0 0] 34)) (w.heap.size + 1) 34 #[Value.bool false, Value.slice none 0 0] := by
    have := Blk.new (w.alloc (.cells #[Value.int IntKind.i64 5, Value.string d.item.key, Value.string d.item.value, Value.int IntKind.i64 d.item.no, Value.bool d.item.gone, Value.string d.key, Value.int IntKind.i64 d.page, Value.int IntKind.i64 d.right.level, Value.string d.right.low, Value.string d.right.high, Value.bool d.right.last, Value.int IntKind.i64 d.right.side, Value.slice A ni c, Value.slice A' nk c'] 29)) 34 #[Value.bool false, Value.slice none 0 0]
    simpa using this
  go_enter Tryz.func9, Tryz.ntmps9
  go_upto_region 1 with (fail)
  generalize (w.alloc (.cells #[Value.int IntKind.i64 5, Value.string d.item.key, Value.string d.item.value, Value.int IntKind.i64 d.item.no, Value.bool d.item.gone, Value.string d.key, Value.int IntKind.i64 d.page, Value.int IntKind.i64 d.right.level, Value.string d.right.low, Value.string d.right.high, Value.bool d.right.last, Value.int IntKind.i64 d.right.side, Value.slice A ni c, Value.slice A' nk c'] 29)).alloc (.cells #[Value.bool false, Value.slice none 0 0] 34) = w0 at *
  have HB := Lib.hid hB
  have HD := Lib.hid hD
  have HN := Lib.hid hN
  obtain ⟨q0, q1, q2, q3, q4, q5, q6, q7, q8, q9, q10, q11, q12, q13⟩ := Blk.cells14 hD
  clear hB hD hN
  go_wp2_with fail
  refine (HMY.out w0 (HRD.out w0 HB.out)).mono ?_
  rintro e w1 ⟨rfl, hb1⟩
  have HB1 : Hid (Below w.heap.size w w1) := Lib.hid (HB.out.trans (hb1.mono HB.out.size))
  have HD1 := Lib.hid (HD.out.below hb1 HD.out.lt)
  have HN1 := Lib.hid (HN.out.below hb1 HN.out.lt)
  have hs1 := HN1.out.lt
  clear hb1 q0 q1 q2 q3 q4 q5 q6 q7 q8 q9 q10 q11 q12 q13
  obtain ⟨q0, q1, q2, q3, q4, q5, q6, q7, q8, q9, q10, q11, q12, q13⟩ := Blk.cells14 HD1.out
  cases hmy : d.may 5 with
  | false =>
    have HMB := Lib.hid hmy
    clear hmy
    obtain ⟨n0, n1⟩ := Blk.cells2' HN1.out
    have nf : ∀ i, w1.frozen? ⟨w.heap.size + 1, i, none⟩ = false := HN1.out.frozen
    have HE : Hid (Blk ((w1.setCell ⟨w.heap.size + 1, 0, none⟩ (.bool false)).setCell ⟨w.heap.size + 1, 1, none⟩ (.slice none 0 0)) (w.heap.size + 1) 34 #[.bool false, .slice none 0 0]) := Lib.hid ((HN1.out.set_ 0 _).set_ 1 _)
    have HBE : Hid (Below w.heap.size w ((w1.setCell ⟨w.heap.size + 1, 0, none⟩ (.bool false)).setCell ⟨w.heap.size + 1, 1, none⟩ (.slice none 0 0))) := Lib.hid ((HB1.out.setCell (p := ⟨w.heap.size + 1, 0, none⟩) (by simp) _).setCell (p := ⟨w.heap.size + 1, 1, none⟩) (by simp) _)
    go_wp2
    generalize ((w1.setCell ⟨w.heap.size + 1, 0, none⟩ (.bool false)).setCell ⟨w.heap.size + 1, 1, none⟩ (.slice none 0 0)) = wE at *
    obtain ⟨e0, e1⟩ := Blk.cells2' HE.out
    exact bodyPost_ret (v := .tuple #[.agg #[.bool false, .slice none 0 0], .int .i64 110]) (by simp [results, Tryz.results9, go_sem, e0, e1]) rfl (by rw [HMB.out]; exact ⟨.slice none 0 0, rfl, OwnB.nil _ _, HBE.out⟩)
  | true =>
    have HMB := Lib.hid hmy
    have hks : 0 ≤ d.page := by unfold Delta.may at hmy; simp [isPage] at hmy; omega
    clear hmy
    have hEA : EnW w (w1.alloc (.cells #[.int .u8 5] 5)) #[Value.int IntKind.i64 5, Value.string d.item.key, Value.string d.item.value, Value.int IntKind.i64 d.item.no, Value.bool d.item.gone, Value.string d.key, Value.int IntKind.i64 d.page, Value.int IntKind.i64 d.right.level, Value.string d.right.low, Value.string d.right.high, Value.bool d.right.last, Value.int IntKind.i64 d.right.side, Value.slice A ni c, Value.slice A' nk c'] (.slice (some ⟨w1.heap.size, 0, none⟩) 1 1) [5] :=
      ⟨HB1.out.alloc HB1.out.size _, HD1.out.alloc _, HN1.out.alloc _, (own_kind w1 5).mono (by omega), fun k hk => by cases hk; show _ ≤ w1.heap.size; omega⟩
    have hsA : w1.heap.size < (w1.alloc (.cells #[.int .u8 5] 5)).heap.size := by simp
    go_upto_region 4 with (fail)
    generalize w1.alloc (.cells #[.int .u8 5] 5) = wA at *
    have EA := Lib.hid hEA
    clear hEA q0 q1 q2 q3 q4 q5 q6 q7 q8 q9 q10 q11 q12 q13
    obtain ⟨q0, q1, q2, q3, q4, q5, q6, q7, q8, q9, q10, q11, q12, q13⟩ := Blk.cells14 EA.out.db
    go_upto_region 5 with (go_at_call 30; refine (delta_of5 d A A' ni nk c c' _).mono ?_; rintro e w2 ⟨rfl, hb2⟩)
    have E2 := Lib.hid (EA.out.on hb2)
    have hs2 : w1.heap.size < w2.heap.size := Nat.lt_of_lt_of_le hsA hb2.size
    clear hb2 q0 q1 q2 q3 q4 q5 q6 q7 q8 q9 q10 q11 q12 q13
    obtain ⟨q0, q1, q2, q3, q4, q5, q6, q7, q8, q9, q10, q11, q12, q13⟩ := Blk.cells14 E2.out.db
    have a1 := as_5_1
    have a2 := as_5_2
    have a3 := as_5_3
    have a4 := as_5_4
    have a5 := as_5_5
    have a6 := as_5_6
    obtain ⟨pn, hpn⟩ := Int.eq_ofNat_of_zero_le hks
    have HPN := Lib.hid hpn
    rw [hpn] at q6
    clear hks hpn
    go_upto_region 21 with (go_at_call 32; refine (delta_number (w.heap.size + 2) _ _ pn 2 (by omega) _ E2.out.ow (by have := E2.out.nb.lt; omega) (by simp)).mono ?_; rintro e w3 ⟨v3, rfl, hO, hG⟩; have E3 := Lib.hid (E2.out.grow hO hG); clear hO hG)
    obtain ⟨n0, n1⟩ := Blk.cells2' E3.out.nb
    have nf : ∀ i, w3.frozen? ⟨w.heap.size + 1, i, none⟩ = false := E3.out.nb.frozen
    have hEO := E3.out.ow
    rw [show [5] ++ numB pn 2 = d.bytes 5 from by unfold Delta.bytes; rw [HPN.out]; rfl] at hEO
    obtain ⟨AE, cE, rfl, _, _, hob⟩ := OwnB.form hEO rfl
    obtain ⟨nE, hnE⟩ : ∃ n, n = (d.bytes 5).length := ⟨_, rfl⟩
    rw [← hnE]
    rw [← hnE] at hEO hob
    have HEO := Lib.hid hEO
    have HOB := Lib.hid hob
    clear hEO hob hnE
    have HE : Hid (Blk ((w3.setCell ⟨w.heap.size + 1, 0, none⟩ (.bool false)).setCell ⟨w.heap.size + 1, 1, none⟩ (.slice AE nE cE)) (w.heap.size + 1) 34 #[.bool false, .slice AE nE cE]) := Lib.hid ((E3.out.nb.set_ 0 _).set_ 1 _)
    have HBE : Hid (Below w.heap.size w ((w3.setCell ⟨w.heap.size + 1, 0, none⟩ (.bool false)).setCell ⟨w.heap.size + 1, 1, none⟩ (.slice AE nE cE))) := Lib.hid ((E3.out.be.setCell (p := ⟨w.heap.size + 1, 0, none⟩) (by simp) _).setCell (p := ⟨w.heap.size + 1, 1, none⟩) (by simp) _)
    have HOE : Hid (OwnB ((w3.setCell ⟨w.heap.size + 1, 0, none⟩ (.bool false)).setCell ⟨w.heap.size + 1, 1, none⟩ (.slice AE nE cE)) w.heap.size (.slice AE nE cE) (d.bytes 5)) := Lib.hid (OwnB.mono (OwnB.keepH HEO.out fun k hk => by
      have := (HOB.out k hk).1
      rw [Below.heap_setCell _ _ _ k (by simp; omega), Below.heap_setCell _ _ _ k (by simp; omega)]) (by omega))
    go_wp2
    generalize ((w3.setCell ⟨w.heap.size + 1, 0, none⟩ (.bool false)).setCell ⟨w.heap.size + 1, 1, none⟩ (.slice AE nE cE)) = wE at *
    obtain ⟨e0, e1⟩ := Blk.cells2' HE.out
    exact bodyPost_ret (v := .tuple #[.agg #[.bool false, .slice AE nE cE], .int .i64 0]) (by simp [results, Tryz.results9, go_sem, e0, e1]) rfl (by rw [HMB.out]; exact ⟨.slice AE nE cE, rfl, HOE.out, HBE.out⟩)

set_option maxRecDepth 100000 in
set_option maxHeartbeats 4000000 in
theorem delta_Encode6 (d : Delta) (A A' : Option Addr) (ni nk c c' lo : Nat) (hni : ni = d.right.items.length) (hnk : nk = d.right.kids.length) (w : World) (hp : Pg w lo w.heap.size d.right A A' c c') :
    Calls Tryz.prog 9 #[.agg #[Value.int IntKind.i64 6, Value.string d.item.key, Value.string d.item.value, Value.int IntKind.i64 d.item.no, Value.bool d.item.gone, Value.string d.key, Value.int IntKind.i64 d.page, Value.int IntKind.i64 d.right.level, Value.string d.right.low, Value.string d.right.high, Value.bool d.right.last, Value.int IntKind.i64 d.right.side, Value.slice A ni c, Value.slice A' nk c']] w (PostN w false (cond (d.may 6) (d.bytes 6) []) (cond (d.may 6) 0 110)) := by
  have HMY := Lib.hid (fun w1 h => delta_may6 d A A' ni nk c c' lo hni hnk w1 h)
  have HRD : Hid (∀ W, Below w.heap.size w W → Pg W lo W.heap.size d.right A A' c c') := Lib.hid fun W h => (hp.below h).mono (Nat.le_refl _) h.size
  have HEN := Lib.hid (fun w1 h => page_Encode d.right A A' c c' lo w1 h)
  unfold Page.val Page.raw at HEN
  rw [← hni, ← hnk] at HEN
  clear hni hnk hp
  have hB : Below w.heap.size w ((w.alloc (.cells #[Value.int IntKind.i64 6, Value.string d.item.key, Value.string d.item.value, Value.int IntKind.i64 d.item.no, Value.bool d.item.gone, Value.string d.key, Value.int IntKind.i64 d.page, Value.int IntKind.i64 d.right.level, Value.string d.right.low, Value.string d.right.high, Value.bool d.right.last, Value.int IntKind.i64 d.right.side, Value.slice A ni c, Value.slice A' nk c'] 29)).alloc (.cells #[Value.bool false, Value.slice none 0 0] 34)) := ((Below.refl _ _).alloc (Nat.le_refl _) _).alloc (by simp) _
  have hD : Blk ((w.alloc (.cells #[Value.int IntKind.i64 6, Value.string d.item.key, Value.string d.item.value, Value.int IntKind.i64 d.item.no, Value.bool d.item.gone, Value.string d.key, Value.int IntKind.i64 d.page, Value.int IntKind.i64 d.right.level, Value.string d.right.low, Value.string d.right.high, Value.bool d.right.last, Value.int IntKind.i64 d.right.side, Value.slice A ni c, Value.slice A' nk c'] 29)).alloc (.cells #[Value.bool false, Value.slice none 0 0] 34)) w.heap.size 29 #[Value.int IntKind.i64 6, Value.string d.item.key, Value.string d.item.value, Value.int IntKind.i64 d.item.no, Value.bool d.item.gone, Value.string d.key, Value.int IntKind.i64 d.page, Value.int IntKind.i64 d.right.level, Value.string d.right.low, Value.string d.right.high, Value.bool d.right.last, Value.int IntKind.i64 d.right.side, Value.slice A ni c, Value.slice A' nk c'] := (Blk.new _ _ _).alloc _
  have hN : Blk ((w.alloc (.cells #[Value.int IntKind.i64 6, Value.string d.item.key, Value.string d.item.value, Value.int IntKind.i64 d.item.no, Value.bool d.item.gone, Value.string d.key, Value.int IntKind.i64 d.page, Value.int IntKind.i64 d.right.level, Value.string d.right.low, Value.string d.right.high, Value.bool d.right.last, Value.int IntKind.i64 d.right.side, Value.slice A ni c, Value.slice A' nk c'] 29)).alloc (.cells #[Value.bool false, Value.slice none 0 0] 34)) (w.heap.size + 1) 34 #[Value.bool false, Value.slice none 0 0] := by
    have := Blk.new (w.alloc (.cells #[Value.int IntKind.i64 6, Value.string d.item.key, Value.string d.item.value, Value.int IntKind.i64 d.item.no, Value.bool d.item.gone, Value.string d.key, Value.int IntKind.i64 d.page, Value.int IntKind.i64 d.right.level, Value.string d.right.low, Value.string d.right.high, Value.bool d.right.last, Value.int IntKind.i64 d.right.side, Value.slice A ni c, Value.slice A' nk c'] 29)) 34 #[Value.bool false, Value.slice none 0 0]
    simpa using this
  go_enter Tryz.func9, Tryz.ntmps9
  go_upto_region 1 with (fail)
  generalize (w.alloc (.cells #[Value.int IntKind.i64 6, Value.string d.item.key, Value.string d.item.value, Value.int IntKind.i64 d.item.no, Value.bool d.item.gone, Value.string d.key, Value.int IntKind.i64 d.page, Value.int IntKind.i64 d.right.level, Value.string d.right.low, Value.string d.right.high, Value.bool d.right.last, Value.int IntKind.i64 d.right.side, Value.slice A ni c, Value.slice A' nk c'] 29)).alloc (.cells #[Value.bool false, Value.slice none 0 0] 34) = w0 at *
  have HB := Lib.hid hB
  have HD := Lib.hid hD
  have HN := Lib.hid hN
  obtain ⟨q0, q1, q2, q3, q4, q5, q6, q7, q8, q9, q10, q11, q12, q13⟩ := Blk.cells14 hD
  clear hB hD hN
  go_wp2_with fail
  refine (HMY.out w0 (HRD.out w0 HB.out)).mono ?_
  rintro e w1 ⟨rfl, hb1⟩
  have HB1 : Hid (Below w.heap.size w w1) := Lib.hid (HB.out.trans (hb1.mono HB.out.size))
  have HD1 := Lib.hid (HD.out.below hb1 HD.out.lt)
  have HN1 := Lib.hid (HN.out.below hb1 HN.out.lt)
  have hs1 := HN1.out.lt
  clear hb1 q0 q1 q2 q3 q4 q5 q6 q7 q8 q9 q10 q11 q12 q13
  obtain ⟨q0, q1, q2, q3, q4, q5, q6, q7, q8, q9, q10, q11, q12, q13⟩ := Blk.cells14 HD1.out
  cases hmy : d.may 6 with
  | false =>
    have HMB := Lib.hid hmy
    clear hmy
    obtain ⟨n0, n1⟩ := Blk.cells2' HN1.out
    have nf : ∀ i, w1.frozen? ⟨w.heap.size + 1, i, none⟩ = false := HN1.out.frozen
    have HE : Hid (Blk ((w1.setCell ⟨w.heap.size + 1, 0, none⟩ (.bool false)).setCell ⟨w.heap.size + 1, 1, none⟩ (.slice none 0 0)) (w.heap.size + 1) 34 #[.bool false, .slice none 0 0]) := Lib.hid ((HN1.out.set_ 0 _).set_ 1 _)
    have HBE : Hid (Below w.heap.size w ((w1.setCell ⟨w.heap.size + 1, 0, none⟩ (.bool false)).setCell ⟨w.heap.size + 1, 1, none⟩ (.slice none 0 0))) := Lib.hid ((HB1.out.setCell (p := ⟨w.heap.size + 1, 0, none⟩) (by simp) _).setCell (p := ⟨w.heap.size + 1, 1, none⟩) (by simp) _)
    go_wp2
    generalize ((w1.setCell ⟨w.heap.size + 1, 0, none⟩ (.bool false)).setCell ⟨w.heap.size + 1, 1, none⟩ (.slice none 0 0)) = wE at *
    obtain ⟨e0, e1⟩ := Blk.cells2' HE.out
    exact bodyPost_ret (v := .tuple #[.agg #[.bool false, .slice none 0 0], .int .i64 110]) (by simp [results, Tryz.results9, go_sem, e0, e1]) rfl (by rw [HMB.out]; exact ⟨.slice none 0 0, rfl, OwnB.nil _ _, HBE.out⟩)
  | true =>
    have HMB := Lib.hid hmy
    have hok : d.right.ok = true := by unfold Delta.may at hmy; simp at hmy; exact hmy.2
    have HOK := Lib.hid hok
    clear hok
    clear hmy
    have hEA : EnW w (w1.alloc (.cells #[.int .u8 6] 5)) #[Value.int IntKind.i64 6, Value.string d.item.key, Value.string d.item.value, Value.int IntKind.i64 d.item.no, Value.bool d.item.gone, Value.string d.key, Value.int IntKind.i64 d.page, Value.int IntKind.i64 d.right.level, Value.string d.right.low, Value.string d.right.high, Value.bool d.right.last, Value.int IntKind.i64 d.right.side, Value.slice A ni c, Value.slice A' nk c'] (.slice (some ⟨w1.heap.size, 0, none⟩) 1 1) [6] :=
      ⟨HB1.out.alloc HB1.out.size _, HD1.out.alloc _, HN1.out.alloc _, (own_kind w1 6).mono (by omega), fun k hk => by cases hk; show _ ≤ w1.heap.size; omega⟩
    have hsA : w1.heap.size < (w1.alloc (.cells #[.int .u8 6] 5)).heap.size := by simp
    go_upto_region 4 with (fail)
    generalize w1.alloc (.cells #[.int .u8 6] 5) = wA at *
    have EA := Lib.hid hEA
    clear hEA q0 q1 q2 q3 q4 q5 q6 q7 q8 q9 q10 q11 q12 q13
    obtain ⟨q0, q1, q2, q3, q4, q5, q6, q7, q8, q9, q10, q11, q12, q13⟩ := Blk.cells14 EA.out.db
    go_upto_region 5 with (go_at_call 30; refine (delta_of6 d A A' ni nk c c' _).mono ?_; rintro e w2 ⟨rfl, hb2⟩)
    have E2 := Lib.hid (EA.out.on hb2)
    have hs2 : w1.heap.size < w2.heap.size := Nat.lt_of_lt_of_le hsA hb2.size
    clear hb2 q0 q1 q2 q3 q4 q5 q6 q7 q8 q9 q10 q11 q12 q13
    obtain ⟨q0, q1, q2, q3, q4, q5, q6, q7, q8, q9, q10, q11, q12, q13⟩ := Blk.cells14 E2.out.db
    have is1 := is_6
    have fl1 := fld_6
    have a1 := as_6_1
    have a2 := as_6_2
    have a3 := as_6_3
    have a4 := as_6_4
    have a5 := as_6_5
    have a6 := as_6_6
    go_upto_region 19 with (fail)
    go_wp2_with fail
    refine (HEN.out w2 (HRD.out w2 E2.out.be)).mono ?_
    rintro e w3 ⟨v3, rfl, hO3, hb3⟩
    rw [HOK.out, cond_true] at hO3
    have E3 := Lib.hid (E2.out.on hb3)
    have hlen : d.right.bytes.length ≤ 140737488351232 := (Page.Fine.of_ok HOK.out).bytes_len
    have hl2 : d.right.bytes.length ≤ 100000 := (Page.Fine.of_ok HOK.out).bytes_small
    obtain ⟨n3, hn3⟩ : ∃ n, n = d.right.bytes.length := ⟨_, rfl⟩
    obtain ⟨A3, c3, rfl, hc3, hR3, _⟩ := OwnB.form hO3 hn3.symm
    have HR3 := Lib.hid hR3
    have HN3 := Lib.hid hn3
    have HL2 := Lib.hid hl2
    clear hO3 hb3 hR3 hn3 hlen hl2
    go_upto_region 21 with (at_builtin; (refine appB w3 rfl (.tmp 79) (.tmp 80) rfl (w.heap.size + 2) _ [6] d.right.bytes A3 c3 w2.heap.size w3.heap.size rfl E3.out.ow (by rw [← HN3.out]; rfl) HR3.out (by have := HL2.out; simp; omega) (by have := E3.out.nb.lt; omega) ?_); intro v4 w4 hO hG; have E4 := Lib.hid (E3.out.grow hO hG); clear hO hG)
    obtain ⟨n0, n1⟩ := Blk.cells2' E4.out.nb
    have nf : ∀ i, w4.frozen? ⟨w.heap.size + 1, i, none⟩ = false := E4.out.nb.frozen
    have hEO := E4.out.ow
    rw [show [6] ++ d.right.bytes = d.bytes 6 from rfl] at hEO
    obtain ⟨AE, cE, rfl, _, _, hob⟩ := OwnB.form hEO rfl
    obtain ⟨nE, hnE⟩ : ∃ n, n = (d.bytes 6).length := ⟨_, rfl⟩
    rw [← hnE]
    rw [← hnE] at hEO hob
    have HEO := Lib.hid hEO
    have HOB := Lib.hid hob
    clear hEO hob hnE
    have HE : Hid (Blk ((w4.setCell ⟨w.heap.size + 1, 0, none⟩ (.bool false)).setCell ⟨w.heap.size + 1, 1, none⟩ (.slice AE nE cE)) (w.heap.size + 1) 34 #[.bool false, .slice AE nE cE]) := Lib.hid ((E4.out.nb.set_ 0 _).set_ 1 _)
    have HBE : Hid (Below w.heap.size w ((w4.setCell ⟨w.heap.size + 1, 0, none⟩ (.bool false)).setCell ⟨w.heap.size + 1, 1, none⟩ (.slice AE nE cE))) := Lib.hid ((E4.out.be.setCell (p := ⟨w.heap.size + 1, 0, none⟩) (by simp) _).setCell (p := ⟨w.heap.size + 1, 1, none⟩) (by simp) _)
    have HOE : Hid (OwnB ((w4.setCell ⟨w.heap.size + 1, 0, none⟩ (.bool false)).setCell ⟨w.heap.size + 1, 1, none⟩ (.slice AE nE cE)) w.heap.size (.slice AE nE cE) (d.bytes 6)) := Lib.hid (OwnB.mono (OwnB.keepH HEO.out fun k hk => by
      have := (HOB.out k hk).1
      rw [Below.heap_setCell _ _ _ k (by simp; omega), Below.heap_setCell _ _ _ k (by simp; omega)]) (by omega))
    go_wp2
    generalize ((w4.setCell ⟨w.heap.size + 1, 0, none⟩ (.bool false)).setCell ⟨w.heap.size + 1, 1, none⟩ (.slice AE nE cE)) = wE at *
    obtain ⟨e0, e1⟩ := Blk.cells2' HE.out
    exact bodyPost_ret (v := .tuple #[.agg #[.bool false, .slice AE nE cE], .int .i64 0]) (by simp [results, Tryz.results9, go_sem, e0, e1]) rfl (by rw [HMB.out]; exact ⟨.slice AE nE cE, rfl, HOE.out, HBE.out⟩)

set_option maxRecDepth 100000 in
set_option maxHeartbeats 4000000 in
theorem delta_Encode0 (d : Delta) (k : Int) (hk : ¬ (1 ≤ k ∧ k ≤ 6)) (A A' : Option Addr) (ni nk c c' : Nat) (w : World) :
    Calls Tryz.prog 9 #[.agg #[Value.int IntKind.i64 k, Value.string d.item.key, Value.string d.item.value, Value.int IntKind.i64 d.item.no, Value.bool d.item.gone, Value.string d.key, Value.int IntKind.i64 d.page, Value.int IntKind.i64 d.right.level, Value.string d.right.low, Value.string d.right.high, Value.bool d.right.last, Value.int IntKind.i64 d.right.side, Value.slice A ni c, Value.slice A' nk c']] w (PostN w false (cond (d.may k) (d.bytes k) []) (cond (d.may k) 0 110)) := by
  have HMY := Lib.hid (fun w1 => delta_may0 d k hk A A' ni nk c c' w1)
  have hB : Below w.heap.size w ((w.alloc (.cells #[Value.int IntKind.i64 k, Value.string d.item.key, Value.string d.item.value, Value.int IntKind.i64 d.item.no, Value.bool d.item.gone, Value.string d.key, Value.int IntKind.i64 d.page, Value.int IntKind.i64 d.right.level, Value.string d.right.low, Value.string d.right.high, Value.bool d.right.last, Value.int IntKind.i64 d.right.side, Value.slice A ni c, Value.slice A' nk c'] 29)).alloc (.cells #[Value.bool false, Value.slice none 0 0] 34)) := ((Below.refl _ _).alloc (Nat.le_refl _) _).alloc (by simp) _
  have hD : Blk ((w.alloc (.cells #[Value.int IntKind.i64 k, Value.string d.item.key, Value.string d.item.value, Value.int IntKind.i64 d.item.no, Value.bool d.item.gone, Value.string d.key, Value.int IntKind.i64 d.page, Value.int IntKind.i64 d.right.level, Value.string d.right.low, Value.string d.right.high, Value.bool d.right.last, Value.int IntKind.i64 d.right.side, Value.slice A ni c, Value.slice A' nk c'] 29)).alloc (.cells #[Value.bool false, Value.slice none 0 0] 34)) w.heap.size 29 #[Value.int IntKind.i64 k, Value.string d.item.key, Value.string d.item.value, Value.int IntKind.i64 d.item.no, Value.bool d.item.gone, Value.string d.key, Value.int IntKind.i64 d.page, Value.int IntKind.i64 d.right.level, Value.string d.right.low, Value.string d.right.high, Value.bool d.right.last, Value.int IntKind.i64 d.right.side, Value.slice A ni c, Value.slice A' nk c'] := (Blk.new _ _ _).alloc _
  have hN : Blk ((w.alloc (.cells #[Value.int IntKind.i64 k, Value.string d.item.key, Value.string d.item.value, Value.int IntKind.i64 d.item.no, Value.bool d.item.gone, Value.string d.key, Value.int IntKind.i64 d.page, Value.int IntKind.i64 d.right.level, Value.string d.right.low, Value.string d.right.high, Value.bool d.right.last, Value.int IntKind.i64 d.right.side, Value.slice A ni c, Value.slice A' nk c'] 29)).alloc (.cells #[Value.bool false, Value.slice none 0 0] 34)) (w.heap.size + 1) 34 #[Value.bool false, Value.slice none 0 0] := by
    have := Blk.new (w.alloc (.cells #[Value.int IntKind.i64 k, Value.string d.item.key, Value.string d.item.value, Value.int IntKind.i64 d.item.no, Value.bool d.item.gone, Value.string d.key, Value.int IntKind.i64 d.page, Value.int IntKind.i64 d.right.level, Value.string d.right.low, Value.string d.right.high, Value.bool d.right.last, Value.int IntKind.i64 d.right.side, Value.slice A ni c, Value.slice A' nk c'] 29)) 34 #[Value.bool false, Value.slice none 0 0]
    simpa using this
  go_enter Tryz.func9, Tryz.ntmps9
  go_upto_region 1 with (fail)
  generalize (w.alloc (.cells #[Value.int IntKind.i64 k, Value.string d.item.key, Value.string d.item.value, Value.int IntKind.i64 d.item.no, Value.bool d.item.gone, Value.string d.key, Value.int IntKind.i64 d.page, Value.int IntKind.i64 d.right.level, Value.string d.right.low, Value.string d.right.high, Value.bool d.right.last, Value.int IntKind.i64 d.right.side, Value.slice A ni c, Value.slice A' nk c'] 29)).alloc (.cells #[Value.bool false, Value.slice none 0 0] 34) = w0 at *
  have HB := Lib.hid hB
  have HD := Lib.hid hD
  have HN := Lib.hid hN
  obtain ⟨q0, q1, q2, q3, q4, q5, q6, q7, q8, q9, q10, q11, q12, q13⟩ := Blk.cells14 hD
  clear hB hD hN
  go_wp2_with fail
  refine (HMY.out w0).mono ?_
  rintro e w1 ⟨rfl, hb1⟩
  have HB1 : Hid (Below w.heap.size w w1) := Lib.hid (HB.out.trans (hb1.mono HB.out.size))
  have HD1 := Lib.hid (HD.out.below hb1 HD.out.lt)
  have HN1 := Lib.hid (HN.out.below hb1 HN.out.lt)
  have hs1 := HN1.out.lt
  clear hb1 q0 q1 q2 q3 q4 q5 q6 q7 q8 q9 q10 q11 q12 q13
  obtain ⟨q0, q1, q2, q3, q4, q5, q6, q7, q8, q9, q10, q11, q12, q13⟩ := Blk.cells14 HD1.out
  have hmy : d.may k = false := by unfold Delta.may; rw [decide_eq_false hk]; rfl
  have HMB := Lib.hid hmy
  obtain ⟨n0, n1⟩ := Blk.cells2' HN1.out
  have nf : ∀ i, w1.frozen? ⟨w.heap.size + 1, i, none⟩ = false := HN1.out.frozen
  have HE : Hid (Blk ((w1.setCell ⟨w.heap.size + 1, 0, none⟩ (.bool false)).setCell ⟨w.heap.size + 1, 1, none⟩ (.slice none 0 0)) (w.heap.size + 1) 34 #[.bool false, .slice none 0 0]) := Lib.hid ((HN1.out.set_ 0 _).set_ 1 _)
  have HBE : Hid (Below w.heap.size w ((w1.setCell ⟨w.heap.size + 1, 0, none⟩ (.bool false)).setCell ⟨w.heap.size + 1, 1, none⟩ (.slice none 0 0))) := Lib.hid ((HB1.out.setCell (p := ⟨w.heap.size + 1, 0, none⟩) (by simp) _).setCell (p := ⟨w.heap.size + 1, 1, none⟩) (by simp) _)
  go_wp2
  generalize ((w1.setCell ⟨w.heap.size + 1, 0, none⟩ (.bool false)).setCell ⟨w.heap.size + 1, 1, none⟩ (.slice none 0 0)) = wE at *
  obtain ⟨e0, e1⟩ := Blk.cells2' HE.out
  exact bodyPost_ret (v := .tuple #[.agg #[.bool false, .slice none 0 0], .int .i64 110]) (by simp [results, Tryz.results9, go_sem, e0, e1]) rfl (by rw [HMB.out]; exact ⟨.slice none 0 0, rfl, OwnB.nil _ _, HBE.out⟩)

theorem delta_Encode (d : Delta) (A A' : Option Addr) (c c' lo : Nat) (w : World) (hp : Pg w lo w.heap.size d.right A A' c c') :
    Calls Tryz.prog 9 #[d.val A c A' c'] w (PostN w false (cond d.mayB (d.bytes d.kind) []) (cond d.mayB 0 110)) := by
  unfold Delta.val Delta.mayB
  by_cases h : 1 ≤ d.kind ∧ d.kind ≤ 6
  · have h6 : d.kind = 1 ∨ d.kind = 2 ∨ d.kind = 3 ∨ d.kind = 4 ∨ d.kind = 5 ∨ d.kind = 6 := by omega
    rcases h6 with e | e | e | e | e | e
    · rw [e]; exact delta_Encode1 d A A' _ _ c c' lo rfl rfl w hp
    · rw [e]; exact delta_Encode2 d A A' _ _ c c' lo rfl rfl w hp
    · rw [e]; exact delta_Encode3 d A A' _ _ c c' lo rfl rfl w hp
    · rw [e]; exact delta_Encode4 d A A' _ _ c c' lo rfl rfl w hp
    · rw [e]; exact delta_Encode5 d A A' _ _ c c' lo rfl rfl w hp
    · rw [e]; exact delta_Encode6 d A A' _ _ c c' lo rfl rfl w hp
  · exact delta_Encode0 d d.kind h A A' _ _ c c' w
end Go.Proofs.YtjbdmaehomhdeaaGreat
