import Derived.Test.YtjbdmaehomhdeaaB4
namespace Go.Proofs.Ytjbdmaehomhdeaa
open Go.RowKit

def PostE (w : World) (p : Page) (e : Ending) (w' : World) : Prop := ∃ v, e = .returned (.tuple #[v, .int .i64 p.check]) ∧ OwnB w' w.heap.size v (cond p.ok p.bytes []) ∧ Below w.heap.size w w'

set_option maxRecDepth 100000 in
set_option maxHeartbeats 1000000 in
theorem page_Encode (p : Page) (A A' : Option Addr) (c c' lo : Nat) (w : World) (hp : Pg w lo w.heap.size p A A' c c') :
    Calls Try.prog 12 #[p.val A c A' c'] w (PostE w p) := by
  have H1 := Lib.hid hp
  clear hp
  have HCH := Lib.hid (fun w1 h => page_Check p A A' c c' lo w1 h)
  have HBY := Lib.hid (fun w1 h hf => page_bytes p A A' c c' lo w1 h hf)
  unfold Page.val Page.raw at HCH HBY
  unfold Page.val Page.raw
  obtain ⟨ni, hni⟩ : ∃ n, n = p.items.length := ⟨_, rfl⟩
  obtain ⟨nk, hnk⟩ : ∃ n, n = p.kids.length := ⟨_, rfl⟩
  rw [← hni, ← hnk]
  rw [← hni, ← hnk] at HCH HBY
  clear hni hnk
  go_enter Try.func12, Try.ntmps12
  go_upto_region 1 with (fail)
  have hP : PBlk (w.alloc (Obj.cells #[Value.int IntKind.i64 p.level, Value.string p.low, Value.string p.high, Value.bool p.last, Value.int IntKind.i64 p.side, Value.slice A ni c, Value.slice A' nk c'] 27)) w.heap.size p A ni c A' nk c' := Blk.new _ _ _
  have hB : Below w.heap.size w (w.alloc (Obj.cells #[Value.int IntKind.i64 p.level, Value.string p.low, Value.string p.high, Value.bool p.last, Value.int IntKind.i64 p.side, Value.slice A ni c, Value.slice A' nk c'] 27)) := (Below.refl _ _).alloc (Nat.le_refl _) _
  generalize (w.alloc (Obj.cells #[Value.int IntKind.i64 p.level, Value.string p.low, Value.string p.high, Value.bool p.last, Value.int IntKind.i64 p.side, Value.slice A ni c, Value.slice A' nk c'] 27)) = w0 at *
  have HP := Lib.hid hP
  have HB := Lib.hid hB
  clear hP hB
  obtain ⟨q0, q1, q2, q3, q4, q5, q6⟩ := HP.out.cells
  have HR0 : Hid (Pg w0 lo w0.heap.size p A A' c c') := Lib.hid ((H1.out.below HB.out).mono (Nat.le_refl _) HB.out.size)
  obtain ⟨ec, hec⟩ : ∃ n, n = p.check := ⟨_, rfl⟩
  have HEC := Lib.hid hec
  clear hec
  cases hok : p.ok with
  | true =>
    have HOK := Lib.hid hok
    have HC0 : Hid (p.check = 0) := Lib.hid (by unfold Page.check; rw [hok]; rfl)
    clear hok
    go_wp2_with (first
      | (go_at_call 27; refine (HCH.out w0 HR0.out).mono ?_; rw [HC0.out]; rintro e w1 ⟨rfl, hb1⟩; obtain ⟨r0, r1, r2, r3, r4, r5, r6⟩ := PBlk.cells (HP.out.below hb1 HP.out.lt))
      | (go_at_call 29; refine (HBY.out w1 ((HR0.out.below hb1).mono (Nat.le_refl _) hb1.size) (Page.Fine.of_ok HOK.out)).mono ?_; rintro e w2 ⟨v2, rfl, hO2, hb2⟩))
    go_ret2
    exact ⟨v2, by rw [HC0.out]; rfl, by rw [HOK.out]; exact hO2.mono (Nat.le_trans HB.out.size hb1.size), (HB.out.trans (hb1.mono HB.out.size)).trans (hb2.mono (Nat.le_trans HB.out.size hb1.size))⟩
  | false =>
    have HOK := Lib.hid hok
    have HC0 : Hid (p.check = 101) := Lib.hid (by unfold Page.check; rw [hok]; rfl)
    clear hok
    go_wp2_with (go_at_call 27; refine (HCH.out w0 HR0.out).mono ?_; rw [HC0.out]; rintro e w1 ⟨rfl, hb1⟩)
    go_ret2
    exact ⟨.slice none 0 0, by rw [HC0.out]; rfl, by rw [HOK.out]; exact OwnB.nil _ _, HB.out.trans (hb1.mono HB.out.size)⟩

/-- a number out of bytes, the lowest first -/
def leN : List Nat → Nat
  | [] => 0
  | b :: r => b + 256 * leN r
theorem leN_append (l : List Nat) (b : Nat) : leN (l ++ [b]) = leN l + b * 256 ^ l.length := by
  induction l with
  | nil => simp [leN]
  | cons x r ih =>
    simp only [List.cons_append, leN, ih, List.length_cons, Nat.pow_succ, Nat.mul_add]
    rw [Nat.mul_comm 256 (b * 256 ^ r.length), Nat.mul_assoc]; omega
theorem leN_lt (l : List Nat) (h : ∀ b ∈ l, b < 256) : leN l < 256 ^ l.length := by
  induction l with
  | nil => simp [leN]
  | cons x r ih =>
    have h1 := h x (by simp)
    have h2 := ih (fun b hb => h b (by simp [hb]))
    simp only [leN, List.length_cons, Nat.pow_succ]
    omega

theorem bits_or_nat (a b : Nat) (ha : a < 4611686018427387904) (hb : b < 4611686018427387904) : bits .or .i64 (a : Int) (b : Int) = ((a ||| b : Nat) : Int) := by
  have hx : a ||| b < 2 ^ 62 := Nat.or_lt_two_pow (by omega) (by omega)
  have h1 : (BitVec.ofInt 64 (a : Int)).toNat = a := by
    rw [BitVec.ofInt_natCast, BitVec.toNat_ofNat]; exact Nat.mod_eq_of_lt (by omega)
  have h2 : (BitVec.ofInt 64 (b : Int)).toNat = b := by
    rw [BitVec.ofInt_natCast, BitVec.toNat_ofNat]; exact Nat.mod_eq_of_lt (by omega)
  show IntKind.i64.wrap ((BitVec.ofInt 64 (a : Int) ||| BitVec.ofInt 64 (b : Int)).toNat : Int) = _
  rw [BitVec.toNat_or, h1, h2, IntWalk.i64_in _ (by omega)]
theorem or_byte (a b j : Nat) (hj : j ≤ 5) (ha : a < 256 ^ j) (hb : b < 256) : bits .or .i64 (a : Int) (wrap64 ((b : Int) * 2 ^ (8 * j))) = ((a + b * 256 ^ j : Nat) : Int) := by
  have hp : (256 : Nat) ^ j = 2 ^ (8 * j) := by rw [show (256 : Nat) = 2 ^ 8 by rfl, ← Nat.pow_mul]
  have hle : (2 : Nat) ^ (8 * j) ≤ 2 ^ 40 := Nat.pow_le_pow_right (by omega) (by omega)
  have hm : b * 2 ^ (8 * j) ≤ 255 * 2 ^ 40 := Nat.mul_le_mul (by omega) hle
  have hc : ((b : Int) * 2 ^ (8 * j)) = ((b * 2 ^ (8 * j) : Nat) : Int) := by push_cast; rfl
  rw [hp] at ha ⊢
  rw [hc, IntWalk.wrap64_in _ (by omega), bits_or_nat _ _ (by omega) (by omega)]
  have := Nat.shiftLeft_add_eq_or_of_lt ha b
  rw [Nat.shiftLeft_eq] at this
  rw [Nat.or_comm, ← this, Nat.add_comm]
theorem drop_succ_take {bs : List Nat} {j : Nat} (h : j < bs.length) : bs.take (j + 1) = bs.take j ++ [bs[j]] := by
  rw [List.take_add_one, List.getElem?_eq_getElem h]; rfl

/-- the taker at block g has these bytes before it, in blocks from lo on, below hi; g is none of them -/
structure Tk (w : World) (g lo hi : Nat) (ty : TypeId) (bs : List Nat) : Prop where
  ex : ∃ A c, Blk w g ty #[.slice A bs.length c] ∧ bs.length ≤ c ∧ Rd byteCell 1 w lo hi A bs
  apart : g < lo ∨ hi ≤ g
  small : ∀ b ∈ bs, b < 256
theorem grown_set {w wr : World} {g : Nat} (h : w.grownBy wr (some g)) (i : Nat) (u : Value) : w.grownBy (wr.setCell ⟨g, i, none⟩ u) (some g) := by
  refine ⟨h.os, h.tape, h.output, by simpa using h.size, fun k hk hn => ?_⟩
  have hne : k ≠ g := fun e => hn (by rw [e])
  exact (Below.heap_setCell wr ⟨g, i, none⟩ u k hne).trans (h.block k hk hn)
theorem Tk.turnN {w : World} {g lo hi : Nat} {ty : TypeId} {bs : List Nat} (h : Tk w g lo hi ty bs) {A : Option Addr} {c m : Nat} (hx : Blk w g ty #[.slice A bs.length c] ∧ bs.length ≤ c ∧ Rd byteCell 1 w lo hi A bs) (hm : m ≤ bs.length) :
    Tk (w.setCell ⟨g, 0, none⟩ (.slice (if c = m then A else A.map (·.add (m * 1))) (bs.length - m) (c - m))) g lo hi ty (bs.drop m) := by
  obtain ⟨h1, h2, h3⟩ := hx
  refine ⟨⟨(if c = m then A else A.map (·.add (m * 1))), c - m, ?_, by rw [List.length_drop]; omega, ?_⟩, h.apart, fun b hb => h.small b (List.mem_of_mem_drop hb)⟩
  · rw [List.length_drop]
    exact h1.set_ 0 _
  · have := h3.tail h2 hm
    refine Rd.keep this fun p hp1 hp2 => World.cell?_setCell_other w _ p _ (fun e => ?_)
    subst e
    have := h.apart
    simp at hp1 hp2
    omega
theorem Tk.turn {w : World} {g lo hi : Nat} {ty : TypeId} {bs : List Nat} (h : Tk w g lo hi ty bs) {ad : Addr} {c n : Nat} (hx : Blk w g ty #[.slice (some ad) bs.length c] ∧ bs.length ≤ c ∧ Rd byteCell 1 w lo hi (some ad) bs) (hn : n = bs.length) (h0 : 1 ≤ bs.length) :
    Tk (w.setCell ⟨g, 0, none⟩ (.slice (if c = 1 then some ad else some (ad.add 1)) (n - 1) (c - 1))) g lo hi ty (bs.drop 1) := by
  subst hn
  exact h.turnN hx h0
def PostT (w : World) (g lo hi : Nat) (ty : TypeId) (bs : List Nat) (v : Value) (e : Ending) (w' : World) : Prop := e = .returned v ∧ Tk w' g lo hi ty bs ∧ w.grownBy w' (some g)

set_option maxRecDepth 100000 in
set_option maxHeartbeats 1000000 in
theorem page_num (g lo hi k : Nat) (hk : k ≤ 6) (bs : List Nat) (w : World) (ht : Tk w g lo hi 66 bs) :
    Calls Try.prog 25 #[.pointer (some ⟨g, 0, none⟩), .int .i64 k] w (PostT w g lo hi 66 (bs.drop k) (.int .i64 (leN (bs.take k)))) := by
  have HT := Lib.hid ht
  clear ht
  go_enter Try.func25, Try.ntmps25
  go_wp2
  go_loopw [5, 8] (fun n i wr => ∃ j : Nat, j ≤ k ∧ i = .int .i64 j ∧ n = .int .i64 (leN (bs.take j)) ∧ Hid (Tk wr g lo hi 66 (bs.drop j)) ∧ Hid (w.grownBy wr (some g))) (fun _ i _ => k - (intOf i).toNat)
  case atStart => exact ⟨0, Nat.zero_le _, rfl, rfl, HT, Lib.hid (World.grownBy.refl _ _)⟩
  case round =>
    obtain ⟨j, hj, rfl, rfl, HTr, HGr⟩ := hrel
    by_cases hlt : j < k
    · obtain ⟨A, c, hblk, hc, hr⟩ := HTr.out.ex
      have b0 : wr.cell? ⟨g, 0, none⟩ = some (.slice A (bs.drop j).length c) := hblk.cell 0
      have HBL := Lib.hid hblk
      clear hblk
      by_cases hl : bs.length ≤ j
      · have hz : (bs.drop j).length = 0 := by rw [List.length_drop]; omega
        rw [hz] at b0
        have hd : bs.drop (j + 1) = bs.drop j := by rw [List.drop_eq_nil_of_le hl, List.drop_eq_nil_of_le (by omega)]
        have ht : bs.take (j + 1) = bs.take j := by rw [List.take_of_length_le hl, List.take_of_length_le (by omega)]
        obtain ⟨acc, hacc⟩ : ∃ n, n = leN (bs.take j) := ⟨_, rfl⟩
        rw [← hacc]
        have HD := Lib.hid hd
        have HTK := Lib.hid ht
        have HA := Lib.hid hacc
        clear hd ht hacc hz hl hr
        go_wp2
        go_roundw
        case rel => exact ⟨j + 1, by omega, by go_num, by rw [HTK.out, HA.out], Lib.hid (by rw [HD.out]; exact HTr.out), HGr⟩
        case measure => simp [intOf]; omega
      · have hz : 0 < (bs.drop j).length := by rw [List.length_drop]; omega
        obtain ⟨ad, rfl, h1, h2, hcell⟩ := hr.at_ hz
        have c0 : wr.cell? ad = some (.int .u8 ((bs.drop j)[0] : Int)) := hcell 0 _ rfl
        have hfr := HBL.out.frozen 0
        obtain ⟨b, hb⟩ : ∃ b, b = (bs.drop j)[0] := ⟨_, rfl⟩
        rw [← hb] at c0
        have hb8 : b < 256 := by rw [hb]; exact HTr.out.small _ (List.getElem_mem _)
        obtain ⟨n, hn⟩ : ∃ n, n = (bs.drop j).length := ⟨_, rfl⟩
        rw [← hn] at b0 hz hc
        obtain ⟨acc, hacc⟩ : ∃ n, n = leN (bs.take j) := ⟨_, rfl⟩
        rw [← hacc]
        have hz' : (0 : Int) < (n : Int) := by omega
        have HB := Lib.hid hb
        have HN := Lib.hid hn
        have HA := Lib.hid hacc
        have HRc := Lib.hid hr
        have hc0 : (bs.drop j).length ≤ c := by rw [← hn]; exact hc
        clear hb hn hacc hr hcell
        have hlj : j < bs.length := by omega
        have hacc2 : acc < 256 ^ j := by
          rw [HA.out]
          have := leN_lt (bs.take j) (fun b hb => by
            have := HTr.out
            have h0 := HT.out.small b (List.mem_of_mem_take hb)
            exact h0)
          rwa [List.length_take, Nat.min_eq_left (by omega)] at this
        have hbj : b = bs[j] := by rw [HB.out]; simp
        have HV : Hid (bits .or .i64 (acc : Int) (wrap64 ((b : Int) * 2 ^ (8 * j))) = ((leN (bs.take (j + 1)) : Nat) : Int)) := Lib.hid (by
          rw [or_byte acc b j (by omega) hacc2 hb8, drop_succ_take hlj, leN_append, List.length_take, Nat.min_eq_left (by omega), ← HA.out, ← hbj])
        have HLJ := Lib.hid hlj
        clear hacc2 hbj hlj hl
        go_wp2
        go_roundw
        case rel =>
          refine ⟨j + 1, by omega, by go_num, by rw [HV.out], Lib.hid ?_, Lib.hid ?_⟩
          · have := HTr.out.turn ⟨HBL.out, hc0, HRc.out⟩ HN.out (by rw [← HN.out]; omega)
            rw [List.drop_drop] at this
            have ha : ad.add 1 = ⟨ad.block, ad.off + 1, none⟩ := by unfold Addr.add; rfl
            rw [← ha]
            exact this
          · exact grown_set HGr.out _ _
        case measure => simp [intOf]; omega
    · obtain rfl : j = k := by omega
      go_wp2
      go_ret
      exact ⟨rfl, HTr.out, HGr.out⟩
end Go.Proofs.Ytjbdmaehomhdeaa
