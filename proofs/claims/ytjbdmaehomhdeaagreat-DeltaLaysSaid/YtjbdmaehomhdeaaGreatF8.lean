/- delta.Decode. -/
import Derived.Test.YtjbdmaehomhdeaaGreatF7
import Derived.Test.YtjbdmaehomhdeaaGreatZB
set_option linter.unusedSimpArgs false
set_option linter.unusedVariables false
namespace Go.Proofs.YtjbdmaehomhdeaaGreat
open Go.RowKit

noncomputable def formD (base : Bool) (bs : List Nat) : Bool := !base && ((toldD bs).mayB && decide ((toldD bs).bytes (toldD bs).kind = bs))
def Delta.zero : Delta := ⟨0, Item.none, ⟨#[]⟩, 0, Page.zero⟩
noncomputable def decodedD (base : Bool) (bs : List Nat) : Delta := cond (formD base bs) (toldD bs) Delta.zero
noncomputable def decodeDE (base : Bool) (bs : List Nat) : Int := cond (formD base bs) 0 111
def PostDD (w : World) (base : Bool) (bs : List Nat) (e : Ending) (w' : World) : Prop := ∃ A A' c c', e = .returned (.tuple #[(decodedD base bs).val A c A' c', .int .i64 (decodeDE base bs)]) ∧ Pg w' w.heap.size w'.heap.size (decodedD base bs).right A A' c c' ∧ Below w.heap.size w w'
theorem PostDD.bad {w W' : World} {base : Bool} {bs : List Nat} (hf : formD base bs = false) (hB : Below w.heap.size w W') :
    PostDD w base bs (.returned (.tuple #[.agg #[Value.int IntKind.i64 0, Value.string { data := #[] }, Value.string { data := #[] }, Value.int IntKind.i64 0, Value.bool false, Value.string { data := #[] }, Value.int IntKind.i64 0, Value.int IntKind.i64 0, Value.string { data := #[] }, Value.string { data := #[] }, Value.bool false, Value.int IntKind.i64 0, Value.slice none 0 0, Value.slice none 0 0], .int .i64 111])) W' := by
  refine ⟨none, none, 0, 0, ?_, ?_, hB⟩
  · unfold decodedD decodeDE; rw [hf]; rfl
  · unfold decodedD; rw [hf]
    exact ⟨Rd.nil, Rd.nil, Nat.le_refl _, Nat.le_refl _, Nat.zero_le _, Nat.zero_le _⟩
theorem PostDD.good {w W' : World} {base : Bool} {bs : List Nat} {A A' : Option Addr} {c c' : Nat} (hf : formD base bs = true) (hP : Pg W' w.heap.size W'.heap.size (toldD bs).right A A' c c') (hB : Below w.heap.size w W') :
    PostDD w base bs (.returned (.tuple #[(toldD bs).val A c A' c', .int .i64 0])) W' := by
  refine ⟨A, A', c, c', ?_, ?_, hB⟩
  · unfold decodedD decodeDE; rw [hf]; rfl
  · unfold decodedD; rw [hf]; exact hP
theorem Delta.bytes_len {d : Delta} (h : d.mayB = true) : (d.bytes d.kind).length ≤ 140737488351232 := by
  unfold Delta.mayB Delta.may at h
  simp only [Bool.and_eq_true, decide_eq_true_eq] at h
  obtain ⟨hk, _, h⟩ := h
  unfold Delta.bytes
  rw [List.length_append]
  by_cases h1 : d.kind = 1
  · simp only [h1, if_true, List.length_singleton]
    rw [if_pos h1] at h
    have := Item.of_check (x := d.item) (by simpa using h)
    obtain ⟨a, b, _⟩ := this
    simp only [isKey, decide_eq_true_eq] at a
    simp only [Item.bytes, List.length_append, textB_length, numB_length, flagB, List.length_singleton]
    omega
  · rw [if_neg h1] at h
    simp only [h1, if_false, List.length_singleton]
    by_cases h6 : d.kind = 6
    · rw [if_pos h6] at h
      have := (Page.Fine.of_ok h).bytes_small
      rw [if_neg (by omega), if_neg (by omega), if_neg (by omega)]
      omega
    · rw [if_neg h6] at h
      simp only [Bool.and_eq_true, Bool.or_eq_true, beq_iff_eq, isKey, decide_eq_true_eq] at h
      obtain ⟨ha, _⟩ := h
      by_cases h5 : d.kind = 5
      · simp [h5, numB_length]
      · have hs : d.key.size ≤ 16 := by rcases ha with ha | ha; exact absurd ha h5; exact ha.2
        by_cases h23 : d.kind = 2 ∨ d.kind = 3
        · simp only [h23, if_true, List.length_append, textB_length, numB_length]; omega
        · by_cases h4 : d.kind = 4
          · rw [if_neg h23, if_pos h4, textB_length]; omega
          · omega

/-- within Decode: the node and the result in blocks of their own -/
structure DeW (w wc : World) (base : Bool) (A : Option Addr) (n c : Nat) : Prop where
  be : Below w.heap.size w wc
  nb : Blk wc w.heap.size 34 #[.bool base, .slice A n c]
  rb : Blk wc (w.heap.size + 1) 29 #[Value.int IntKind.i64 0, Value.string { data := #[] }, Value.string { data := #[] }, Value.int IntKind.i64 0, Value.bool false, Value.string { data := #[] }, Value.int IntKind.i64 0, Value.int IntKind.i64 0, Value.string { data := #[] }, Value.string { data := #[] }, Value.bool false, Value.int IntKind.i64 0, Value.slice none 0 0, Value.slice none 0 0]
theorem DeW.on {w wc w' : World} {base : Bool} {A : Option Addr} {n c : Nat} (h : DeW w wc base A n c) (hb : Below wc.heap.size wc w') : DeW w w' base A n c :=
  ⟨h.be.trans (hb.mono h.be.size), h.nb.below hb h.nb.lt, h.rb.below hb h.rb.lt⟩

set_option maxRecDepth 100000 in
set_option maxHeartbeats 4000000 in
theorem delta_Decode (lo c : Nat) (base : Bool) (A : Option Addr) (bs : List Nat) (w : World) (hr : Rd byteCell 1 w lo w.heap.size A bs) (hc : bs.length ≤ c) (hb : ∀ b ∈ bs, b < 256) (hl : bs.length ≤ 140737488351232) :
    Calls Tryz.prog 17 #[.agg #[.bool base, .slice A bs.length c]] w (PostDD w base bs) := by
  have HR := Lib.hid hr
  have HC := Lib.hid hc
  have HS := Lib.hid hb
  have HL := Lib.hid hl
  clear hr hc hb hl
  obtain ⟨nb, hnb⟩ : ∃ n, n = bs.length := ⟨_, rfl⟩
  rw [← hnb]
  have HNB := Lib.hid hnb
  have D0 : DeW w ((w.alloc (.cells #[.bool base, .slice A nb c] 34)).alloc (.cells #[Value.int IntKind.i64 0, Value.string { data := #[] }, Value.string { data := #[] }, Value.int IntKind.i64 0, Value.bool false, Value.string { data := #[] }, Value.int IntKind.i64 0, Value.int IntKind.i64 0, Value.string { data := #[] }, Value.string { data := #[] }, Value.bool false, Value.int IntKind.i64 0, Value.slice none 0 0, Value.slice none 0 0] 29)) base A nb c := ⟨((Below.refl _ _).alloc (Nat.le_refl _) _).alloc (by simp) _, (Blk.new _ _ _).alloc _, by simpa using Blk.new (w.alloc (.cells #[.bool base, .slice A nb c] 34)) 29 #[Value.int IntKind.i64 0, Value.string { data := #[] }, Value.string { data := #[] }, Value.int IntKind.i64 0, Value.bool false, Value.string { data := #[] }, Value.int IntKind.i64 0, Value.int IntKind.i64 0, Value.string { data := #[] }, Value.string { data := #[] }, Value.bool false, Value.int IntKind.i64 0, Value.slice none 0 0, Value.slice none 0 0]⟩
  clear hnb
  go_enter Tryz.func17, Tryz.ntmps17
  go_upto_region 1 with (fail)
  generalize (w.alloc (.cells #[.bool base, .slice A nb c] 34)).alloc (.cells #[Value.int IntKind.i64 0, Value.string { data := #[] }, Value.string { data := #[] }, Value.int IntKind.i64 0, Value.bool false, Value.string { data := #[] }, Value.int IntKind.i64 0, Value.int IntKind.i64 0, Value.string { data := #[] }, Value.string { data := #[] }, Value.bool false, Value.int IntKind.i64 0, Value.slice none 0 0, Value.slice none 0 0] 29) = w0 at *
  have HD0 := Lib.hid D0
  obtain ⟨n0, n1⟩ := Blk.cells2' D0.nb
  clear D0
  go_wp2_with fail
  rw [HNB.out]
  refine (delta_told lo c A bs _ ((HR.out.below HD0.out.be).mono (Nat.le_refl _) HD0.out.be.size) HC.out HS.out HL.out).mono ?_
  rintro e w1 ⟨A1, A1', c1, c1', rfl, hP1, hb1⟩
  rw [← HNB.out]
  have HD1 := Lib.hid (HD0.out.on hb1)
  obtain ⟨d, hd⟩ : ∃ d, d = toldD bs := ⟨_, rfl⟩
  rw [← hd] at hP1
  rw [← hd]
  have HDD := Lib.hid hd
  have hP1' : Pg w1 w0.heap.size w1.heap.size d.right A1 A1' c1 c1' := hP1
  have HEN := Lib.hid (fun W h => delta_Encode d A1 A1' c1 c1' w0.heap.size W h)
  unfold Delta.val at HEN
  unfold Delta.val
  obtain ⟨ni, hni⟩ : ∃ n, n = d.right.items.length := ⟨_, rfl⟩
  obtain ⟨nk, hnk⟩ : ∃ n, n = d.right.kids.length := ⟨_, rfl⟩
  rw [← hni, ← hnk]
  rw [← hni, ← hnk] at HEN
  have HNI := Lib.hid hni
  have HNK := Lib.hid hnk
  have HP1 := Lib.hid hP1
  have HB1 := Lib.hid hb1
  clear hd hP1 hP1' hni hnk hb1 n0 n1
  go_upto_region 2 with (fail)
  have HB := Lib.hid (Blk.new w1 29 #[Value.int IntKind.i64 d.kind, Value.string d.item.key, Value.string d.item.value, Value.int IntKind.i64 d.item.no, Value.bool d.item.gone, Value.string d.key, Value.int IntKind.i64 d.page, Value.int IntKind.i64 d.right.level, Value.string d.right.low, Value.string d.right.high, Value.bool d.right.last, Value.int IntKind.i64 d.right.side, Value.slice A1 ni c1, Value.slice A1' nk c1'])
  have HD2 := Lib.hid (HD1.out.on ((Below.refl w1.heap.size w1).alloc (Nat.le_refl _) (.cells #[Value.int IntKind.i64 d.kind, Value.string d.item.key, Value.string d.item.value, Value.int IntKind.i64 d.item.no, Value.bool d.item.gone, Value.string d.key, Value.int IntKind.i64 d.page, Value.int IntKind.i64 d.right.level, Value.string d.right.low, Value.string d.right.high, Value.bool d.right.last, Value.int IntKind.i64 d.right.side, Value.slice A1 ni c1, Value.slice A1' nk c1'] 29)))
  have HP2 : Hid (Pg (w1.alloc (.cells #[Value.int IntKind.i64 d.kind, Value.string d.item.key, Value.string d.item.value, Value.int IntKind.i64 d.item.no, Value.bool d.item.gone, Value.string d.key, Value.int IntKind.i64 d.page, Value.int IntKind.i64 d.right.level, Value.string d.right.low, Value.string d.right.high, Value.bool d.right.last, Value.int IntKind.i64 d.right.side, Value.slice A1 ni c1, Value.slice A1' nk c1'] 29)) w0.heap.size (w1.alloc (.cells #[Value.int IntKind.i64 d.kind, Value.string d.item.key, Value.string d.item.value, Value.int IntKind.i64 d.item.no, Value.bool d.item.gone, Value.string d.key, Value.int IntKind.i64 d.page, Value.int IntKind.i64 d.right.level, Value.string d.right.low, Value.string d.right.high, Value.bool d.right.last, Value.int IntKind.i64 d.right.side, Value.slice A1 ni c1, Value.slice A1' nk c1'] 29)).heap.size d.right A1 A1' c1 c1') := Lib.hid ((HP1.out.below ((Below.refl w1.heap.size w1).alloc (Nat.le_refl _) _)).mono (Nat.le_refl _) (by simp))
  obtain ⟨gd, hgd⟩ : ∃ g, g = w1.heap.size := ⟨_, rfl⟩
  rw [← hgd] at HB
  rw [← hgd]
  have hgl : w.heap.size + 1 < gd := by have := HD1.out.rb.lt; omega
  generalize w1.alloc (.cells #[Value.int IntKind.i64 d.kind, Value.string d.item.key, Value.string d.item.value, Value.int IntKind.i64 d.item.no, Value.bool d.item.gone, Value.string d.key, Value.int IntKind.i64 d.page, Value.int IntKind.i64 d.right.level, Value.string d.right.low, Value.string d.right.high, Value.bool d.right.last, Value.int IntKind.i64 d.right.side, Value.slice A1 ni c1, Value.slice A1' nk c1'] 29) = w2 at *
  clear hgd HD1
  go_wp2_with (refine wpList_load_row rfl 29 _ rfl gd rfl 29 _ (0, 0) _ HB.out Tryz.underlying29 rfl (by kernel_rfl) ?_)
  refine (HEN.out w2 HP2.out).mono ?_
  rintro e w3 ⟨v3, rfl, hO3, hb3⟩
  have HD3 := Lib.hid (HD2.out.on hb3)
  have HB3 := Lib.hid (HB.out.below hb3 HB.out.lt)
  have HP3 := Lib.hid ((HP2.out.below hb3).mono (Nat.le_refl _) hb3.size)
  obtain ⟨bl, hbl⟩ : ∃ n, (cond d.mayB (d.bytes d.kind) []).length = n := ⟨_, rfl⟩
  obtain ⟨A9, c9, rfl, _, hR9, _⟩ := OwnB.form hO3 hbl
  have HBL := Lib.hid hbl
  have HR9 := Lib.hid hR9
  have hb23 := hb3
  have HB23 := Lib.hid hb23
  clear hO3 hb3 hbl hR9 hb23 HB HD2 HP2 HEN
  go_upto_region 3 with (fail)
  have HD4 := Lib.hid (HD3.out.on ((Below.refl w3.heap.size w3).alloc (Nat.le_refl _) (.cells #[.bool false, .slice A9 bl c9] 34)))
  have HB4 := Lib.hid (HB3.out.alloc (.cells #[.bool false, .slice A9 bl c9] 34))
  have HP4 : Hid (Pg (w3.alloc (.cells #[.bool false, .slice A9 bl c9] 34)) w0.heap.size (w3.alloc (.cells #[.bool false, .slice A9 bl c9] 34)).heap.size d.right A1 A1' c1 c1') := Lib.hid ((HP3.out.below ((Below.refl w3.heap.size w3).alloc (Nat.le_refl _) _)).mono (Nat.le_refl _) (by simp))
  have HR4 := Lib.hid (HR9.out.below ((Below.refl w3.heap.size w3).alloc (Nat.le_refl _) (.cells #[.bool false, .slice A9 bl c9] 34)))
  have HM4 := Lib.hid (Blk.new w3 34 #[.bool false, .slice A9 bl c9])
  have HRb4 : Hid (Rd byteCell 1 (w3.alloc (.cells #[.bool false, .slice A9 bl c9] 34)) lo w.heap.size A bs) := Lib.hid (HR.out.below HD4.out.be)
  obtain ⟨gm, hgm⟩ : ∃ g, g = w3.heap.size := ⟨_, rfl⟩
  rw [← hgm] at HM4
  rw [← hgm]
  generalize w3.alloc (.cells #[.bool false, .slice A9 bl c9] 34) = w4 at *
  clear hgm HD3 HB3 HP3
  obtain ⟨m0, m1⟩ := Blk.cells2' HM4.out
  obtain ⟨n0, n1⟩ := Blk.cells2' HD4.out.nb
  have hW := HD4.out.be.size
  cases base with
  | true =>
    have HF : Hid (formD true bs = false) := Lib.hid rfl
    go_wp2_with (refine wpList_store_row rfl 29 _ _ rfl rfl (w.heap.size + 1) rfl _ _ _ rfl HD4.out.rb rfl (by kernel_rfl) (List.all_eq_true.1 rfl) ?_; rintro wE hTE hE)
    exact bodyPost_ret (v := .tuple #[.agg #[Value.int IntKind.i64 0, Value.string { data := #[] }, Value.string { data := #[] }, Value.int IntKind.i64 0, Value.bool false, Value.string { data := #[] }, Value.int IntKind.i64 0, Value.int IntKind.i64 0, Value.string { data := #[] }, Value.string { data := #[] }, Value.bool false, Value.int IntKind.i64 0, Value.slice none 0 0, Value.slice none 0 0], .int .i64 111]) (results_row2 rfl _ _ (w.heap.size + 1) _ _ _ _ rfl hE Tryz.underlying29 rfl (by kernel_rfl) rfl) rfl (PostDD.bad HF.out (hTE.below HD4.out.be (by omega) HD4.out.be.size))
  | false =>
    cases hmb : d.mayB with
    | false =>
      have HF : Hid (formD false bs = false) := Lib.hid (by unfold formD; rw [← HDD.out, hmb]; rfl)
      clear hmb
      simp only [cond_false]
      go_wp2_with (refine wpList_store_row rfl 29 _ _ rfl rfl (w.heap.size + 1) rfl _ _ _ rfl HD4.out.rb rfl (by kernel_rfl) (List.all_eq_true.1 rfl) ?_; rintro wE hTE hE)
      exact bodyPost_ret (v := .tuple #[.agg #[Value.int IntKind.i64 0, Value.string { data := #[] }, Value.string { data := #[] }, Value.int IntKind.i64 0, Value.bool false, Value.string { data := #[] }, Value.int IntKind.i64 0, Value.int IntKind.i64 0, Value.string { data := #[] }, Value.string { data := #[] }, Value.bool false, Value.int IntKind.i64 0, Value.slice none 0 0, Value.slice none 0 0], .int .i64 111]) (results_row2 rfl _ _ (w.heap.size + 1) _ _ _ _ rfl hE Tryz.underlying29 rfl (by kernel_rfl) rfl) rfl (PostDD.bad HF.out (hTE.below HD4.out.be (by omega) HD4.out.be.size))
    | true =>
      have HMB := Lib.hid hmb
      rw [HMB.out] at HBL HR4
      simp only [cond_true] at HBL HR4
      clear hmb
      simp only [cond_true]
      have HEQ : Hid (∀ W, Rd byteCell 1 W w2.heap.size w3.heap.size A9 (d.bytes d.kind) → Rd byteCell 1 W lo w.heap.size A bs → Calls Tryz.prog 38 #[.slice A9 bl c9, .slice A nb c] W fun e w' => e = .returned (.bool (decide (d.bytes d.kind = bs))) ∧ ∃ n, w' = W.drewN n) := Lib.hid fun W h1 h2 => by
        rw [HNB.out, ← HBL.out]
        exact slices_Equal _ _ _ _ _ _ A9 A _ bs W h1 h2 (Delta.bytes_len HMB.out) HL.out
      by_cases hq : d.bytes d.kind = bs
      · have HQ : Hid (decide (d.bytes d.kind = bs) = true) := Lib.hid (by simpa using hq)
        have HF : Hid (formD false bs = true) := Lib.hid (by unfold formD; rw [← HDD.out, HMB.out, HQ.out]; rfl)
        clear hq
        go_wp2_with (first
          | (go_at_call 38; refine (HEQ.out w4 HR4.out HRb4.out).mono ?_; rw [HQ.out]; rintro e w5 ⟨rfl, n5, hw5⟩; have hb5 : Below w4.heap.size w4 w5 := by { rw [hw5]; exact below_drewN (Below.refl _ _) n5 }; have HD5 := Lib.hid (HD4.out.on hb5); have HP5 := Lib.hid ((HP4.out.below hb5).mono (Nat.le_refl _) hb5.size); have HB5 := Lib.hid (HB4.out.below hb5 HB4.out.lt); clear hb5 hw5)
          | (refine wpList_load_row rfl 29 _ rfl gd rfl 29 _ (0, 0) _ HB5.out Tryz.underlying29 rfl (by kernel_rfl) ?_)
          | (refine wpList_store_row rfl 29 _ _ rfl rfl (w.heap.size + 1) rfl _ _ _ rfl HD5.out.rb rfl (by kernel_rfl) (List.all_eq_true.1 rfl) ?_; rintro wE hTE hE))
        exact bodyPost_ret (v := .tuple #[.agg #[Value.int IntKind.i64 d.kind, Value.string d.item.key, Value.string d.item.value, Value.int IntKind.i64 d.item.no, Value.bool d.item.gone, Value.string d.key, Value.int IntKind.i64 d.page, Value.int IntKind.i64 d.right.level, Value.string d.right.low, Value.string d.right.high, Value.bool d.right.last, Value.int IntKind.i64 d.right.side, Value.slice A1 ni c1, Value.slice A1' nk c1'], .int .i64 0]) (results_row2 rfl _ _ (w.heap.size + 1) _ _ _ _ rfl hE Tryz.underlying29 rfl (by kernel_rfl) rfl) rfl (by
          have := PostDD.good (w := w) (W' := wE) (A := A1) (A' := A1') (c := c1) (c' := c1') HF.out (by rw [← HDD.out]; exact (hTE.pg HP5.out (by have := HD0.out.rb.lt; omega)).mono HD0.out.be.size (by rw [hTE.sz]; exact Nat.le_refl _)) (hTE.below HD5.out.be (by omega) HD5.out.be.size)
          rw [← HDD.out] at this
          unfold Delta.val at this
          rw [← HNI.out, ← HNK.out] at this
          exact this)
      · have HQ : Hid (decide (d.bytes d.kind = bs) = false) := Lib.hid (by simpa using hq)
        have HF : Hid (formD false bs = false) := Lib.hid (by unfold formD; rw [← HDD.out, HMB.out, HQ.out]; rfl)
        clear hq
        go_wp2_with (first
          | (go_at_call 38; refine (HEQ.out w4 HR4.out HRb4.out).mono ?_; rw [HQ.out]; rintro e w5 ⟨rfl, n5, hw5⟩; have hb5 : Below w4.heap.size w4 w5 := by { rw [hw5]; exact below_drewN (Below.refl _ _) n5 }; have HD5 := Lib.hid (HD4.out.on hb5); have HP5 := Lib.hid ((HP4.out.below hb5).mono (Nat.le_refl _) hb5.size); have HB5 := Lib.hid (HB4.out.below hb5 HB4.out.lt); clear hb5 hw5)
          | (refine wpList_store_row rfl 29 _ _ rfl rfl (w.heap.size + 1) rfl _ _ _ rfl HD5.out.rb rfl (by kernel_rfl) (List.all_eq_true.1 rfl) ?_; rintro wE hTE hE))
        exact bodyPost_ret (v := .tuple #[.agg #[Value.int IntKind.i64 0, Value.string { data := #[] }, Value.string { data := #[] }, Value.int IntKind.i64 0, Value.bool false, Value.string { data := #[] }, Value.int IntKind.i64 0, Value.int IntKind.i64 0, Value.string { data := #[] }, Value.string { data := #[] }, Value.bool false, Value.int IntKind.i64 0, Value.slice none 0 0, Value.slice none 0 0], .int .i64 111]) (results_row2 rfl _ _ (w.heap.size + 1) _ _ _ _ rfl hE Tryz.underlying29 rfl (by kernel_rfl) rfl) rfl (PostDD.bad HF.out (hTE.below HD5.out.be (by omega) HD5.out.be.size))
end Go.Proofs.YtjbdmaehomhdeaaGreat
