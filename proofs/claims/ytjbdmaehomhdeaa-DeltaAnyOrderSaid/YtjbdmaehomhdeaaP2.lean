/- the law DeltaAnyOrder: it answers true. -/
import Derived.Test.YtjbdmaehomhdeaaP1
import Derived.Test.YtjbdmaehomhdeaaN2
import Derived.Test.YtjbdmaehomhdeaaRj
import Derived.Test.YtjbdmaehomhdeaaS1
namespace Go.Proofs.Ytjbdmaehomhdeaa
open Go.RowKit

theorem below_keep {w W : World} (h : Below w.heap.size w W) {A : Option Addr} {l : List Item} (hr : Rd Item.cells 4 w 0 w.heap.size A l) : Rd Item.cells 4 W 0 w.heap.size A l := hr.below h
/-- a node that Encode gave: its bytes if the item may be -/
noncomputable def encB (x : Item) : List Nat := cond (dItem x).mayB ((dItem x).bytes (dItem x).kind) []
theorem encB_small (x : Item) : (∀ b ∈ encB x, b < 256) ∧ (encB x).length ≤ 140737488351232 := by
  unfold encB
  cases h : (dItem x).mayB with
  | false => exact ⟨(fun b hb => by cases hb), Nat.zero_le _⟩
  | true =>
    rw [cond_true, dItem_bytes]
    refine ⟨fun b hb => ?_, ?_⟩
    · rcases List.mem_cons.1 hb with rfl | hb
      · omega
      · exact Item.bytes_small x b hb
    · obtain ⟨h1, h2, _, _⟩ := may_item (dItem_may.1 h)
      unfold Item.bytes
      simp only [List.length_cons, List.length_append, textB_length, numB_length, flagB, List.length_nil]
      omega
theorem encB_is {x : Item} (h : x.check = 0) : encB x = 1 :: x.bytes := by
  unfold encB
  rw [dItem_may.2 h, cond_true, dItem_bytes]
/-- no two of the first k have one number -/
def Apart (its : List Item) (k : Nat) : Prop := ∀ (a b : Nat) (x y : Item), a < k → b < a → its[a]? = some x → its[b]? = some y → x.no ≠ y.no
theorem Apart.all {its : List Item} (h : Apart its its.length) : ∀ x ∈ its, ∀ y ∈ its, x = y ∨ x.no ≠ y.no := by
  intro x hx y hy
  obtain ⟨i, hi⟩ := List.getElem?_of_mem hx
  obtain ⟨j, hj⟩ := List.getElem?_of_mem hy
  have hil := (List.getElem?_eq_some_iff.1 hi).1
  have hjl := (List.getElem?_eq_some_iff.1 hj).1
  rcases Nat.lt_trichotomy i j with hij | hij | hij
  · exact .inr (fun e => h j i y x hjl hij hj hi e.symm)
  · subst hij; rw [hi] at hj; exact .inl (Option.some.inj hj)
  · exact .inr (h i j x y hil hij hi hj)
/-- what the third loop has laid: a chain upon the old one -/
structure Laid (w : World) (A : Option Addr) (m c : Nat) (ns l : List NV) (done : List Item) : Prop where
  nd : Nodes w 0 w.heap.size A (ns ++ l)
  len : m = (ns ++ l).length
  c : m ≤ c
  is : All2 IsItem ns done.reverse
  ok : ∀ x ∈ done, x.check = 0
theorem Laid.on {w W : World} {A : Option Addr} {m c : Nat} {ns l : List NV} {done : List Item} (h : Laid w A m c ns l done) (hb : Below w.heap.size w W) : Laid W A m c ns l done := ⟨h.nd.on hb, h.len, h.c, h.is, h.ok⟩
theorem Laid.more {w W : World} {A A' : Option Addr} {m m' c c' base : Nat} {ns l : List NV} {done : List Item} {x : Item} {N : NV} (h : Laid w A m c ns l done) (hb : Below w.heap.size w W) (hr : Rd NV.cells 2 W base W.heap.size A' ([N] ++ (ns ++ l))) (hm : m' = ([N] ++ (ns ++ l)).length) (hc : m' ≤ c') (hN : Nd W N) (hi : IsItem N x) (hx : x.check = 0) : Laid W A' m' c' (N :: ns) l (done ++ [x]) := by
  refine ⟨⟨hr.drop_lo, fun y hy => ?_⟩, hm, hc, ?_, fun y hy => ?_⟩
  · rcases List.mem_append.1 (show y ∈ [N] ++ (ns ++ l) from hy) with h1 | h1
    · rw [List.mem_singleton.1 h1]; exact hN
    · exact (h.nd.on hb).by_ y h1
  · rw [List.reverse_append]
    exact .cons hi h.is
  · rcases List.mem_append.1 hy with h1 | h1
    · exact h.ok y h1
    · rw [List.mem_singleton.1 h1]; exact hx
theorem All2.len {α β : Type} {R : α → β → Prop} {a : List α} {b : List β} (h : All2 R a b) : a.length = b.length := by
  induction h with
  | nil => rfl
  | cons _ _ ih => rw [List.length_cons, List.length_cons, ih]

set_option maxRecDepth 100000 in
set_option maxHeartbeats 20000000 in
theorem law_DeltaAnyOrder (l : List NV) (A : Option Addr) (c : Nat) (its : List Item) (B : Option Addr) (d : Nat) (w : World) (hN : Nodes w 0 w.heap.size A l) (hc : l.length ≤ c) (hl : l.length ≤ 140737488351232) (hI : Rd Item.cells 4 w 0 w.heap.size B its) (hil : its.length ≤ 140737488351232) :
    Calls Try.prog 4 #[.slice A l.length c, .slice B its.length d] w fun e w' => e = .returned (.bool true) ∧ Below w.heap.size w w' := by
  have HFL := Lib.hid (fun (W : World) (h : Below w.heap.size w W) => delta_Flat l A c 0 W (hN.on h) hc hl)
  have HN := Lib.hid hN
  have HI := Lib.hid hI
  clear hN hI
  obtain ⟨ln, hln⟩ : ∃ n, n = l.length := ⟨_, rfl⟩
  obtain ⟨ni, hni⟩ : ∃ n, n = its.length := ⟨_, rfl⟩
  rw [← hln, ← hni]
  rw [← hln] at HFL hc hl
  rw [← hni] at hil
  have HLN := Lib.hid hln
  have HNI := Lib.hid hni
  have HC := Lib.hid hc
  clear hln hni hc
  have hw1 : IntKind.i64.wrap ((ni : Int) + (ln : Int)) = (ni : Int) + (ln : Int) := by rw [IntKind.wrap_i64]; omega
  have HIL := Lib.hid hil
  go_enter Try.func4, Try.ntmps4
  go_upto_region 1 with (fail)
  go_wp2_with fail
  refine (awake11 w).mono ?_
  rintro e w1 ⟨rfl, hb1⟩
  have HB1 := Lib.hid hb1
  clear hb1
  go_wp2_with fail
  refine (HFL.out w1 HB1.out).mono ?_
  rintro e w2 ⟨C, C', b, b', rfl, hP, hb2⟩
  obtain ⟨p, hp⟩ : ∃ q, q = (flatL l).1 := ⟨_, rfl⟩
  obtain ⟨fz, hfz⟩ : ∃ q, q = (flatL l).2.1 := ⟨_, rfl⟩
  obtain ⟨ec, hec⟩ : ∃ q, q = (flatL l).2.2 := ⟨_, rfl⟩
  rw [← hp] at hP
  rw [← hp, ← hfz, ← hec]
  have HPE := Lib.hid hp
  have HFZ := Lib.hid hfz
  have HEC := Lib.hid hec
  have HPQ := Lib.hid hP
  have hs1 : w.heap.size ≤ w1.heap.size := HB1.out.size
  have hs2 : w1.heap.size ≤ w2.heap.size := hb2.size
  have HB2 := Lib.hid (HB1.out.trans (hb2.mono hs1))
  clear hp hfz hec hP hb2
  have HFI := Lib.hid (fun (W : World) (k : ByteArray) (h : Pg W w1.heap.size W.heap.size p C C' b b') => ref_Find p C C' b b' w1.heap.size k W h)
  unfold Page.val Page.raw at HFI
  unfold Page.val Page.raw
  have hbq := HPQ.out.bi
  obtain ⟨qi, hqi⟩ : ∃ n, n = p.items.length := ⟨_, rfl⟩
  obtain ⟨qk, hqk⟩ : ∃ n, n = p.kids.length := ⟨_, rfl⟩
  obtain ⟨lv, hlv⟩ : ∃ n, n = p.level := ⟨_, rfl⟩
  rw [← hqi, ← hqk, ← hlv]
  rw [← hqi, ← hqk, ← hlv] at HFI
  rw [← hqi] at hbq
  have HQI := Lib.hid hqi
  have HLV := Lib.hid hlv
  clear hqi hqk hlv
  have hw2 : IntKind.i64.wrap ((ni : Int) + (qi : Int)) = (ni : Int) + (qi : Int) := by rw [IntKind.wrap_i64]; omega
  have HZ6 : Hid (Blk (w2.alloc (.cells #[Value.int IntKind.i64 0, Value.string { data := #[] }, Value.string { data := #[] }, Value.bool false, Value.int IntKind.i64 0, Value.slice none 0 0, Value.slice none 0 0] 27)) w2.heap.size 27 #[Value.int IntKind.i64 0, Value.string { data := #[] }, Value.string { data := #[] }, Value.bool false, Value.int IntKind.i64 0, Value.slice none 0 0, Value.slice none 0 0]) := Lib.hid (Blk.new _ _ _)
  have HAR : Hid (∀ w3, Turned (w2.alloc (.cells #[Value.int IntKind.i64 0, Value.string { data := #[] }, Value.string { data := #[] }, Value.bool false, Value.int IntKind.i64 0, Value.slice none 0 0, Value.slice none 0 0] 27)) w3 w2.heap.size → Below w.heap.size w w3 ∧ Pg w3 w1.heap.size w3.heap.size p C C' b b' ∧ w3.heap.size = w2.heap.size + 1) := Lib.hid fun w3 hT => by
    have hsz : (w2.alloc (.cells #[Value.int IntKind.i64 0, Value.string { data := #[] }, Value.string { data := #[] }, Value.bool false, Value.int IntKind.i64 0, Value.slice none 0 0, Value.slice none 0 0] 27)).heap.size = w2.heap.size + 1 := by simp
    have hB : Below w2.heap.size w2 w3 := hT.below ((Below.refl _ _).alloc (Nat.le_refl _) _) (Nat.le_refl _) (by rw [hsz]; omega)
    exact ⟨HB2.out.trans (hB.mono HB2.out.size), (HPQ.out.below hB).mono (Nat.le_refl _) hB.size, by rw [hT.sz, hsz]⟩
  by_cases he : ec = 0
  case neg =>
    have hne : (ec != 0) = true := by simpa using he
    go_wp2_with (refine wpList_store_row rfl 27 _ _ rfl rfl (w2.heap.size) rfl _ _ _ rfl HZ6.out rfl (by kernel_rfl) (List.all_eq_true.1 rfl) ?_; rintro w3 hT3 hB3; obtain ⟨hb3, hp3, hs3⟩ := HAR.out w3 hT3; have HB3 := Lib.hid hb3; have HP3 := Lib.hid hp3; have HB6 := Lib.hid hB3; obtain ⟨y0, y1, y2, y3, y4, y5, y6⟩ := Blk.cells7 hB3; clear hT3 hB3 hb3 hp3)
    go_ret
    exact ⟨rfl, HB3.out⟩
  subst he
  by_cases hf : fz = 0
  case neg =>
    have hne : (fz != 0) = true := by simpa using hf
    go_wp2_with (refine wpList_store_row rfl 27 _ _ rfl rfl (w2.heap.size) rfl _ _ _ rfl HZ6.out rfl (by kernel_rfl) (List.all_eq_true.1 rfl) ?_; rintro w3 hT3 hB3; obtain ⟨hb3, hp3, hs3⟩ := HAR.out w3 hT3; have HB3 := Lib.hid hb3; have HP3 := Lib.hid hp3; have HB6 := Lib.hid hB3; obtain ⟨y0, y1, y2, y3, y4, y5, y6⟩ := Blk.cells7 hB3; clear hT3 hB3 hb3 hp3)
    go_ret
    exact ⟨rfl, HB3.out⟩
  subst hf
  by_cases hv : lv = 0
  case neg =>
    have hne : (lv != 0) = true := by simpa using hv
    go_wp2_with (refine wpList_store_row rfl 27 _ _ rfl rfl (w2.heap.size) rfl _ _ _ rfl HZ6.out rfl (by kernel_rfl) (List.all_eq_true.1 rfl) ?_; rintro w3 hT3 hB3; obtain ⟨hb3, hp3, hs3⟩ := HAR.out w3 hT3; have HB3 := Lib.hid hb3; have HP3 := Lib.hid hp3; have HB6 := Lib.hid hB3; obtain ⟨y0, y1, y2, y3, y4, y5, y6⟩ := Blk.cells7 hB3; clear hT3 hB3 hb3 hp3)
    go_ret
    exact ⟨rfl, HB3.out⟩
  subst hv
  by_cases h64 : ni + ln ≤ 64
  case neg =>
    have hne : (64 : Int) < (ni : Int) + (ln : Int) := by omega
    go_wp2_with (refine wpList_store_row rfl 27 _ _ rfl rfl (w2.heap.size) rfl _ _ _ rfl HZ6.out rfl (by kernel_rfl) (List.all_eq_true.1 rfl) ?_; rintro w3 hT3 hB3; obtain ⟨hb3, hp3, hs3⟩ := HAR.out w3 hT3; have HB3 := Lib.hid hb3; have HP3 := Lib.hid hp3; have HB6 := Lib.hid hB3; obtain ⟨y0, y1, y2, y3, y4, y5, y6⟩ := Blk.cells7 hB3; clear hT3 hB3 hb3 hp3)
    go_ret
    exact ⟨rfl, HB3.out⟩
  by_cases h120 : ni + qi ≤ 120
  case neg =>
    have hne : ¬ ((64 : Int) < (ni : Int) + (ln : Int)) := by omega
    have hne2 : (120 : Int) < (ni : Int) + (qi : Int) := by omega
    go_wp2_with (refine wpList_store_row rfl 27 _ _ rfl rfl (w2.heap.size) rfl _ _ _ rfl HZ6.out rfl (by kernel_rfl) (List.all_eq_true.1 rfl) ?_; rintro w3 hT3 hB3; obtain ⟨hb3, hp3, hs3⟩ := HAR.out w3 hT3; have HB3 := Lib.hid hb3; have HP3 := Lib.hid hp3; have HB6 := Lib.hid hB3; obtain ⟨y0, y1, y2, y3, y4, y5, y6⟩ := Blk.cells7 hB3; clear hT3 hB3 hb3 hp3)
    go_ret
    exact ⟨rfl, HB3.out⟩
  have hne : ¬ ((64 : Int) < (ni : Int) + (ln : Int)) := by omega
  have hne2 : ¬ ((120 : Int) < (ni : Int) + (qi : Int)) := by omega
  go_upto_region 5 with (refine wpList_store_row rfl 27 _ _ rfl rfl (w2.heap.size) rfl _ _ _ rfl HZ6.out rfl (by kernel_rfl) (List.all_eq_true.1 rfl) ?_; rintro w3 hT3 hB3; obtain ⟨hb3, hp3, hs3⟩ := HAR.out w3 hT3; have HB3 := Lib.hid hb3; have HP3 := Lib.hid hp3; have HB6 := Lib.hid hB3; obtain ⟨y0, y1, y2, y3, y4, y5, y6⟩ := Blk.cells7 hB3; clear hT3 hB3 hb3 hp3)
  have HOK : Hid (p.ok = true) := Lib.hid (by rw [HPE.out]; exact flat_ok HEC.out.symm HFZ.out.symm)
  obtain ⟨g6, hg6⟩ : ∃ g, g = w2.heap.size := ⟨_, rfl⟩
  rw [← hg6] at HB6 hs3
  rw [← hg6] at y0 y1 y2 y3 y4 y5 y6
  rw [← hg6]
  have hg6w : w.heap.size ≤ g6 := by omega
  clear hg6 HZ6 HAR y0 y1 y2 y3 y4 y5 y6 hne hne2 hw1 hw2 hbq
  have hi64 : ni ≤ 64 := by omega
  go_wp2
  go_loopw [9] (fun i wq => ∃ k : Nat, k ≤ ni ∧ i = .int .i64 k ∧ Hid (Below w3.heap.size w3 wq) ∧ Hid (Apart its k)) (fun i _ => ni - (intOf i).toNat)
  case atStart => exact ⟨0, Nat.zero_le _, rfl, Lib.hid (Below.refl _ _), Lib.hid (fun a b x y h => by omega)⟩
  case round =>
    obtain ⟨k, hk, rfl, HBk, HAK⟩ := hrel
    by_cases hlt : k < ni
    · have hbw : Below w.heap.size w wr := HB3.out.trans (HBk.out.mono HB3.out.size)
      obtain ⟨ad, x, rfl, hx, e1, e2, c0, c1', c2, c3⟩ := (below_keep hbw HI.out).item (i := k) (by rw [← HNI.out]; exact hlt)
      have HBW := Lib.hid hbw
      have HX := Lib.hid hx.out
      clear hbw
      have hlt' : (k : Int) < (ni : Int) := by omega
      have hlt2 : (0 : Int) ≤ (k : Int) := by omega
      have HP6 : Hid (Blk wr g6 27 #[Value.int IntKind.i64 0, Value.string p.low, Value.string p.high, Value.bool p.last, Value.int IntKind.i64 p.side, Value.slice C qi b, Value.slice C' qk b']) := Lib.hid (HB6.out.below HBk.out HB6.out.lt)
      have HPk : Hid (Pg wr w1.heap.size wr.heap.size p C C' b b') := Lib.hid ((HP3.out.below HBk.out).mono (Nat.le_refl _) HBk.out.size)
      have hsk : w3.heap.size ≤ wr.heap.size := HBk.out.size
      obtain ⟨fi, hfi⟩ : ∃ r, r = findI p.items x.key := ⟨_, rfl⟩
      obtain ⟨fk, hfk⟩ : ∃ r, r = (fi.getD Item.zero).key := ⟨_, rfl⟩
      obtain ⟨fv, hfv⟩ : ∃ r, r = (fi.getD Item.zero).value := ⟨_, rfl⟩
      obtain ⟨fn, hfn⟩ : ∃ r, r = (fi.getD Item.zero).no := ⟨_, rfl⟩
      obtain ⟨fg, hfg⟩ : ∃ r, r = (fi.getD Item.zero).gone := ⟨_, rfl⟩
      obtain ⟨fs, hfs⟩ : ∃ r, r = fi.isSome := ⟨_, rfl⟩
      have HFC : Hid (∀ W, Pg W w1.heap.size W.heap.size p C C' b b' → Calls Try.prog 15 #[.agg #[Value.int IntKind.i64 0, Value.string p.low, Value.string p.high, Value.bool p.last, Value.int IntKind.i64 p.side, Value.slice C qi b, Value.slice C' qk b'], .string x.key] W (fun e w' => e = .returned (.tuple #[.agg #[Value.string fk, Value.string fv, Value.int IntKind.i64 fn, Value.bool fg], .bool fs]) ∧ Below W.heap.size W w')) := Lib.hid fun W h => (HFI.out W x.key h).mono fun e w' he => by
        unfold PostF at he
        rw [← hfi] at he
        rw [hfk, hfv, hfn, hfg, hfs]
        exact he
      clear hfi hfk hfv hfn hfg hfs
      go_upto_region 8 with (fail)
      go_cut [10, 11] (fun u v wx => ∃ g, u = .pointer (some ⟨g, 0, none⟩) ∧ v = .bool fs ∧ Hid (Below wr.heap.size wr wx ∧ Blk wx g 39 #[Value.string fk, Value.string fv, Value.int IntKind.i64 fn, Value.bool fg]))
      case first =>
        obtain ⟨S, hS⟩ : ∃ S : Rs Unit, S = ⟨[(0, 69, .agg #[Value.int IntKind.i64 0, Value.string p.low, Value.string p.high, Value.bool p.last, Value.int IntKind.i64 p.side, Value.slice C qi b, Value.slice C' qk b']), (1, 70, .slice (some ad) ni d), (2, 71, .int .i64 k), (3, 72, .pointer (some (ad.add (k * 4)))), (4, 73, .pointer (some (ad.add (k * 4)))), (5, 74, .string x.key)],
          fun _ => [(6, 75, .tuple #[.agg #[Value.string fk, Value.string fv, Value.int IntKind.i64 fn, Value.bool fg], .bool fs]), (7, 68, .tuple #[.agg #[Value.string fk, Value.string fv, Value.int IntKind.i64 fn, Value.bool fg], .bool fs]), (8, 76, .agg #[Value.string fk, Value.string fv, Value.int IntKind.i64 fn, Value.bool fg]), (9, 77, .bool fs), (12, 11, .bool fs)], 6, 10, 10, 11, 39, 4, fun _ => #[Value.string fk, Value.string fv, Value.int IntKind.i64 fn, Value.bool fg], fun _ _ _ _ => True⟩ := ⟨_, rfl⟩
        have ok : S.Ok := by subst hS; exact ⟨⟨[(0, 69), (1, 70), (2, 71), (3, 72), (4, 73), (5, 74)], [(6, 75), (7, 68), (8, 76), (9, 77), (12, 11)], rfl, fun _ => rfl, (by show okSk [(0, 69), (1, 70), (2, 71), (3, 72), (4, 73), (5, 74)] [(6, 75), (7, 68), (8, 76), (9, 77), (12, 11)] 6 10 10 11 = true; decide)⟩, fun _ _ _ _ _ _ _ => trivial⟩
        have m0 : (0, 69, .agg #[Value.int IntKind.i64 0, Value.string p.low, Value.string p.high, Value.bool p.last, Value.int IntKind.i64 p.side, Value.slice C qi b, Value.slice C' qk b']) ∈ S.pre := by subst hS; exact .head _
        have m1 : (1, 70, Value.slice (some ad) ni d) ∈ S.pre := by subst hS; exact .tail _ (.head _)
        have m2 : (2, 71, Value.int .i64 k) ∈ S.pre := by subst hS; exact .tail _ (.tail _ (.head _))
        have m3 : (3, 72, Value.pointer (some (ad.add (k * 4)))) ∈ S.pre := by subst hS; exact .tail _ (.tail _ (.tail _ (.head _)))
        have m4 : (4, 73, Value.pointer (some (ad.add (k * 4)))) ∈ S.pre := by subst hS; exact .tail _ (.tail _ (.tail _ (.tail _ (.head _))))
        have m5 : (5, 74, Value.string x.key) ∈ S.pre := by subst hS; exact .tail _ (.tail _ (.tail _ (.tail _ (.tail _ (.head _)))))
        have q6 : ∀ r, (6, 75, .tuple #[.agg #[Value.string fk, Value.string fv, Value.int IntKind.i64 fn, Value.bool fg], .bool fs]) ∈ S.post r := by subst hS; exact fun _ => .head _
        have q7 : ∀ r, (7, 68, .tuple #[.agg #[Value.string fk, Value.string fv, Value.int IntKind.i64 fn, Value.bool fg], .bool fs]) ∈ S.post r := by subst hS; exact fun _ => .tail _ (.head _)
        have q8 : ∀ r, (8, 76, .agg #[Value.string fk, Value.string fv, Value.int IntKind.i64 fn, Value.bool fg]) ∈ S.post r := by subst hS; exact fun _ => .tail _ (.tail _ (.head _))
        have q9 : ∀ r, (9, 77, .bool fs) ∈ S.post r := by subst hS; exact fun _ => .tail _ (.tail _ (.tail _ (.head _)))
        have q12 : ∀ r, (12, 11, .bool fs) ∈ S.post r := by subst hS; exact fun _ => .tail _ (.tail _ (.tail _ (.tail _ (.head _))))
        have s_ic : S.ic = 6 := by subst hS; rfl
        have s_ia : S.ia = 10 := by subst hS; rfl
        have s_sa : S.sa = 10 := by subst hS; rfl
        have s_st : S.st = 11 := by subst hS; rfl
        have s_T : S.T = 39 := by subst hS; rfl
        have s_n : S.n = 4 := by subst hS; rfl
        have s_V : ∀ r, S.V r = #[Value.string fk, Value.string fv, Value.int IntKind.i64 fn, Value.bool fg] := by subst hS; exact fun _ => rfl
        have s_R : ∀ r lo hi W, S.R r lo hi W := by subst hS; exact fun _ _ _ _ => trivial
        clear hS
        refine wp_region_inv (by kernel_rfl) [69, 70, 71, 72, 73, 74, 75, 68, 76, 77, 10, 11] (RJ S wr.heap.size wr.drew [(g6, 27, #[Value.int IntKind.i64 0, Value.string p.low, Value.string p.high, Value.bool p.last, Value.int IntKind.i64 p.side, Value.slice C qi b, Value.slice C' qk b'])]) (gOrd_ok (by kernel_rfl)) ⟨Nat.le_refl _, (Below.refl _ _), Nat.le_refl _, fun e he => by
          rw [List.mem_singleton.1 he]
          exact ⟨HP6.out.lt, HP6.out⟩, fun e _ h => by simp at h, fun r e _ h => by simp at h, fun h => by simp at h, fun h => by simp at h, fun h => by simp at h⟩ ?_ ?_
        · intro i o ho D X W hJ hDi hdep
          have hbW : Below wr.heap.size wr W := ((Below.refl wr.heap.size wr).drew).trans hJ.be
          rcases i with _ | _ | _ | _ | _ | _ | _ | _ | _ | _ | _ | _ | _ | i
          all_goals simp only [List.getElem?_toArray, List.getElem?_cons_zero, List.getElem?_cons_succ, List.getElem?_nil, Option.some.injEq, reduceCtorEq] at ho
          · exact wp1_load_row ho 27 (.tmp 6) rfl rfl g6 (by rw [over_out (by decide)]; rfl) 27 _ _ (hJ.cs (g6, 27, #[Value.int IntKind.i64 0, Value.string p.low, Value.string p.high, Value.bool p.last, Value.int IntKind.i64 p.side, Value.slice C qi b, Value.slice C' qk b']) (List.mem_singleton.2 rfl)).2 Try.underlying27 rfl (by kernel_rfl) ⟨_, over_put (by decide) _, hJ.pre1 ok () m0⟩
          · exact wp1_move ho (.tmp 1) rfl rfl (by rw [over_out (by decide)]; rfl) ⟨_, over_put (by decide) _, hJ.pre1 ok () m1⟩
          · exact wp1_move ho (.tmp 9) rfl rfl (by rw [over_out (by decide)]; rfl) ⟨_, over_put (by decide) _, hJ.pre1 ok () m2⟩
          · have d1 : D 1 = true := hdep ⟨1, .data⟩ (by rw [← ho]; simp) rfl
            have d2 : D 2 = true := hdep ⟨2, .data⟩ (by rw [← ho]; simp) rfl
            exact wp1_index ho 24 (.tmp 70) (.tmp 71) rfl rfl (by rw [over_in (by decide) (Nat.le_of_ble_eq_true rfl), hJ.vs _ m1 d1]) (by rw [over_in (by decide) (Nat.le_of_ble_eq_true rfl), hJ.vs _ m2 d2]) (by go_simp) ⟨_, over_put (by decide) _, hJ.pre1 ok () m3⟩
          · have d3 : D 3 = true := hdep ⟨3, .data⟩ (by rw [← ho]; simp) rfl
            exact wp1_addr ho 39 (.tmp 72) 0 rfl rfl (by rw [over_in (by decide) (Nat.le_of_ble_eq_true rfl), hJ.vs _ m3 d3]) (by go_simp) ⟨_, over_put (by decide) _, hJ.pre1 ok () m4⟩
          · have d4 : D 4 = true := hdep ⟨4, .data⟩ (by rw [← ho]; simp) rfl
            have k0 : W.cell? (ad.add (k * 4)) = some (.string x.key) := (World.cell?_of_block (hbW.block _ (World.block_lt_of_cell? wr _ c0))).trans c0
            exact wp1_load_cell ho 9 (.tmp 73) rfl rfl (by rw [over_in (by decide) (Nat.le_of_ble_eq_true rfl), hJ.vs _ m4 d4]) (v := .string x.key) (by go_simp) ⟨_, over_put (by decide) _, hJ.pre1 ok () m5⟩
          · have d0 : D 0 = true := hdep ⟨0, .data⟩ (by rw [← ho]; simp) rfl
            have d5 : D 5 = true := hdep ⟨5, .data⟩ (by rw [← ho]; simp) rfl
            exact wp1_call ho 15 #[.tmp 69, .tmp 74] _ rfl rfl #[.agg #[Value.int IntKind.i64 0, Value.string p.low, Value.string p.high, Value.bool p.last, Value.int IntKind.i64 p.side, Value.slice C qi b, Value.slice C' qk b'], .string x.key] (by simp only [List.map_toArray, List.map_cons, List.map_nil]; rw [over_in (by decide) (Nat.le_of_ble_eq_true rfl), hJ.vs _ m0 d0]; rw [over_in (by decide) (Nat.le_of_ble_eq_true rfl), hJ.vs _ m5 d5]) Try.func15 (by kernel_rfl) rfl (HFC.out W ((HPk.out.below hbW).mono (Nat.le_refl _) hbW.size)) (by
              rintro e w' ⟨rfl, hb⟩
              refine ⟨_, rfl, _, over_put (by decide) _, ?_⟩
              have := hJ.call1 ok (by rw [s_ic]; exact hDi) hb () (by rw [s_ic]; exact q6 ()) (s_R _ _ _ _)
              rw [s_ic] at this
              exact this)
          · have d6 : D 6 = true := hdep ⟨6, .data⟩ (by rw [← ho]; simp) rfl
            obtain ⟨r, hv, hp⟩ := hJ.post1 ok (by rw [s_ic]; exact d6)
            exact wp1_move ho (.tmp 75) rfl rfl (by rw [over_in (by decide) (Nat.le_of_ble_eq_true rfl), hv _ (q6 r) d6]) ⟨_, over_put (by decide) _, hp _ _ _ (q7 r)⟩
          · have d7 : D 7 = true := hdep ⟨7, .data⟩ (by rw [← ho]; simp) rfl
            obtain ⟨r, hv, hp⟩ := hJ.post1 ok (by rw [s_ic]; exact hJ.dp () _ (q7 ()) d7 |> fun h => by rw [s_ic] at h; exact h)
            exact wp1_extract ho (.tmp 68) 0 rfl rfl (by rw [over_in (by decide) (Nat.le_of_ble_eq_true rfl), hv _ (q7 r) d7]) rfl ⟨_, over_put (by decide) _, hp _ _ _ (q8 r)⟩
          · have d7 : D 7 = true := hdep ⟨7, .data⟩ (by rw [← ho]; simp) rfl
            obtain ⟨r, hv, hp⟩ := hJ.post1 ok (by rw [s_ic]; exact hJ.dp () _ (q7 ()) d7 |> fun h => by rw [s_ic] at h; exact h)
            exact wp1_extract ho (.tmp 68) 1 rfl rfl (by rw [over_in (by decide) (Nat.le_of_ble_eq_true rfl), hv _ (q7 r) d7]) rfl ⟨_, over_put (by decide) _, hp _ _ _ (q9 r)⟩
          · have ha := hJ.alloc1 ok () (by rw [s_ia]; exact hDi) (cs0 := #[Value.string { data := #[] }, Value.string { data := #[] }, Value.int IntKind.i64 0, Value.bool false]) (by rw [s_n]; rfl)
            rw [s_ia, s_sa, s_T] at ha
            exact wp1_alloc ho 39 rfl rfl (w' := W.alloc (.cells #[Value.string { data := #[] }, Value.string { data := #[] }, Value.int IntKind.i64 0, Value.bool false] 39)) (v := .pointer (some ⟨W.heap.size, 0, none⟩)) (by kernel_rfl) ⟨_, over_put (by decide) _, ha⟩
          · have d10 : D 10 = true := hdep ⟨10, .data⟩ (by rw [← ho]; simp) rfl
            have d8 : D 8 = true := hdep ⟨8, .data⟩ (by rw [← ho]; simp) rfl
            have d6 : D 6 = true := hJ.dp () _ (q8 ()) d8 |> fun h => by rw [s_ic] at h; exact h
            obtain ⟨r, g, cs, hg, hB, hcs, hv, hw⟩ := hJ.store1 ok (by rw [s_ic]; exact d6) (by rw [s_ia]; exact d10)
            rw [s_sa] at hg
            rw [s_T] at hB hw
            rw [s_n] at hcs hw
            rw [s_st, s_V] at hw
            exact wp1_store_row ho 39 (.tmp 10) (.tmp 76) rfl rfl g (by rw [over_in (by decide) (Nat.le_of_ble_eq_true rfl), hg]) 39 _ cs (by rw [over_in (by decide) (Nat.le_of_ble_eq_true rfl), hv _ (q8 r) d8]) hB (by rw [hcs]; rfl) (by kernel_rfl) (List.all_eq_true.1 rfl) (fun w' hT hB' => ⟨X, rfl, hw w' hT hB' rfl⟩)
          · have d9 : D 9 = true := hdep ⟨9, .data⟩ (by rw [← ho]; simp) rfl
            obtain ⟨r, hv, hp⟩ := hJ.post1 ok (by rw [s_ic]; exact hJ.dp () _ (q9 ()) d9 |> fun h => by rw [s_ic] at h; exact h)
            exact wp1_assign ho (.tmp 77) rfl rfl (by rw [over_in (by decide) (Nat.le_of_ble_eq_true rfl), hv _ (q9 r) d9]) ⟨_, over_put (by decide) _, hp _ _ _ (q12 r)⟩
        · intro D X W hJ hall
          obtain ⟨r, lo, hi, _, _, _, hv, _, hst⟩ := hJ.ca (by rw [s_ic]; exact hall 6 (by decide))
          obtain ⟨g, hg, hB⟩ := hst (by rw [s_st]; exact hall 11 (by decide))
          rw [s_sa] at hg
          rw [s_T, s_V] at hB
          have h11 := hv _ (q12 r) (hall 12 (by decide))
          have HALL := Lib.hid (show Below wr.heap.size wr W ∧ Blk W g 39 #[Value.string fk, Value.string fv, Value.int IntKind.i64 fn, Value.bool fg] from ⟨((Below.refl wr.heap.size wr).drew).trans hJ.be, hB⟩)
          clear hv hst hB hall hJ ok m0 m1 m2 m3 m4 m5 q6 q7 q8 q9 q12 s_ic s_ia s_sa s_st s_T s_n s_V s_R
          dsimp only at h11
          simp only [over, List.foldl_cons, List.foldl_nil, Act.put, List.setIfInBounds_toArray, List.set_cons_succ, List.set_cons_zero, hg, h11]
          go_wp2
          go_meet
          exact ⟨g, rfl, rfl, HALL⟩
      case rest =>
        obtain ⟨g, rfl, rfl, hcut⟩ := hcut
        obtain ⟨hbx, hgx⟩ := hcut.out
        have HBx := Lib.hid (HBk.out.trans (hbx.mono hsk))
        have HIv := Lib.hid hgx
        have HBV := Lib.hid (HB3.out.trans (HBx.out.mono HB3.out.size))
        clear hcut hgx c0 c1' c2 c3
        obtain ⟨ad', x', e', hx', _, _, c0, c1', c2, c3⟩ := (below_keep HBV.out HI.out).item (i := k) (by rw [← HNI.out]; exact hlt)
        cases e'
        have hxx : x' = x := by rw [hx'.out] at HX; exact Option.some.inj HX.out
        subst hxx
        clear hbx
        obtain ⟨f0, f1, f2, f3⟩ := Blk.cells4' HIv.out
        go_upto_region 9 with (fail)
        go_cut [88] (fun v wx => v = .bool (fs && (fn == x'.no)) ∧ Hid (Below w3.heap.size w3 wx))
        case first =>
          cases fs with
          | false =>
            go_quiet (fail)
            go_wp2
            go_meet
            exact ⟨rfl, Lib.hid (HBx.out.trans (below_drewN (Below.refl _ _) nq))⟩
          | true =>
            cases hq : (fn == x'.no) with
            | false =>
              go_quiet (fail)
              go_wp2
              go_meet
              exact ⟨by rw [hq]; rfl, Lib.hid (HBx.out.trans (below_drewN (Below.refl _ _) nq))⟩
            | true =>
              go_quiet (fail)
              go_wp2
              go_meet
              exact ⟨by rw [hq]; rfl, Lib.hid (HBx.out.trans (below_drewN (Below.refl _ _) nq))⟩
        case rest =>
          obtain ⟨rfl, HBy⟩ := hcut
          clear c0 c1' c2 c3 f0 f1 f2 f3 HIv HP6 HPk HBV HBW HBx
          cases hq : (fs && (fn == x'.no)) with
          | true =>
            go_wp2
            go_ret
            exact ⟨rfl, HB3.out.trans (HBy.out.mono HB3.out.size)⟩
          | false =>
            clear hq
            go_wp2
            go_loopw [12] (fun j wq => ∃ q : Nat, q ≤ k ∧ j = .int .i64 q ∧ Hid (Below w3.heap.size w3 wq) ∧ Hid (∀ (e : Nat) (y : Item), e < q → its[e]? = some y → x'.no ≠ y.no)) (fun j _ => k - (intOf j).toNat)
            case atStart => exact ⟨0, Nat.zero_le _, rfl, HBy, Lib.hid (fun _ _ h => by omega)⟩
            case round =>
              obtain ⟨q, hqk, rfl, HBz, HAQ⟩ := hrel
              have HBV := Lib.hid (HB3.out.trans (HBz.out.mono HB3.out.size))
              by_cases hql : q < k
              · obtain ⟨ad2, y, ee2, hy, _, _, d0, d1, d2, d3⟩ := (below_keep HBV.out HI.out).item (i := q) (by rw [← HNI.out]; omega)
                cases ee2
                obtain ⟨ad3, x2, ee3, hx2, _, _, c0, c1', c2, c3⟩ := (below_keep HBV.out HI.out).item (i := k) (by rw [← HNI.out]; exact hlt)
                cases ee3
                have hxx : x2 = x' := by have h := hx2.out; rw [HX.out] at h; exact (Option.some.inj h).symm
                subst hxx
                have hq1 : (q : Int) < (k : Int) := by omega
                have hq2 : (0 : Int) ≤ (q : Int) := by omega
                have hq3 : (q : Int) < (ni : Int) := by omega
                cases hq : (y.no == x2.no) with
                | true =>
                  go_upto_region 14 with (fail)
                  go_quiet (fail)
                  go_wp2
                  go_ret
                  exact ⟨rfl, HBV.out.trans (below_drewN (Below.refl _ _) nq)⟩
                | false =>
                  have hne : x2.no ≠ y.no := fun e => by rw [e] at hq; simp at hq
                  go_upto_region 14 with (fail)
                  go_quiet (fail)
                  go_wp2
                  go_roundw
                  case rel => exact ⟨q + 1, by omega, by go_num, Lib.hid (HBz.out.trans (below_drewN (Below.refl _ _) nq)), Lib.hid (fun e z he hz => by
                    rcases Nat.lt_or_ge e q with h | h
                    · exact HAQ.out e z h hz
                    · obtain rfl : e = q := by omega
                      rw [hy.out] at hz; cases hz; exact hne)⟩
                  case measure => simp [intOf]; omega
              · obtain rfl : k = q := by omega
                have hno2 : ¬ ((k : Int) < (k : Int)) := by omega
                go_wp2
                go_roundw
                case rel => exact ⟨k + 1, by omega, by go_num, HBz, Lib.hid (fun a e z y ha he hz hy => by
                  rcases Nat.lt_or_ge a k with h | h
                  · exact HAK.out a e z y h he hz hy
                  · obtain rfl : a = k := by omega
                    rw [HX.out] at hz; cases hz
                    exact HAQ.out e y he hy)⟩
                case measure => simp [intOf]; omega
    · obtain rfl : ni = k := by omega
      have hno2 : ¬ ((ni : Int) < (ni : Int)) := by omega
      have HBV := Lib.hid (HB3.out.trans (HBk.out.mono HB3.out.size))
      have HAP := Lib.hid (Apart.all (its := its) (by rw [← HNI.out]; exact HAK.out))
      clear HAK HBk hlt hk
      go_wp2
      go_loopw [13, 14, 15] (fun u v i wq => ∃ (k : Nat) (n1 n2 : List NV) (A1 A2 : Option Addr) (m1 m2 c1 c2 : Nat), k ≤ ni ∧ u = .slice A1 m1 c1 ∧ v = .slice A2 m2 c2 ∧ i = .int .i64 k ∧ Hid (Below w.heap.size w wq) ∧ Hid (Laid wq A1 m1 c1 n1 l (its.take k)) ∧ Hid (Laid wq A2 m2 c2 n2 l (its.reverse.take k))) (fun _ _ i _ => ni - (intOf i).toNat)
      case atStart => exact ⟨0, [], [], A, A, ln, ln, c, c, Nat.zero_le _, rfl, rfl, rfl, HBV, Lib.hid ⟨HN.out.on HBV.out, HLN.out, HC.out, .nil, fun x hx => by cases hx⟩, Lib.hid ⟨HN.out.on HBV.out, HLN.out, HC.out, .nil, fun x hx => by cases hx⟩⟩
      case round =>
        clear HBV hno2
        obtain ⟨k, n1, n2, A1, A2, m1, m2, c1, c2, hk, rfl, rfl, rfl, HBw, HL1, HL2⟩ := hrel
        by_cases hlt : k < ni
        · obtain ⟨ad, x, rfl, hx, _, _, q0, q1, q2, q3⟩ := (below_keep HBw.out HI.out).item (i := k) (by rw [← HNI.out]; exact hlt)
          have HX := Lib.hid hx.out
          have hlt' : (k : Int) < (ni : Int) := by omega
          have hlt2 : (0 : Int) ≤ (k : Int) := by omega
          have hwa : IntKind.i64.wrap ((ni : Int) - 1) = (ni : Int) - 1 := by rw [IntKind.wrap_i64]; omega
          have hwb : IntKind.i64.wrap ((ni : Int) - 1 - (k : Int)) = ((ni - 1 - k : Nat) : Int) := by rw [IntKind.wrap_i64]; omega
          have hcast : (ni : Int) - 1 - (k : Int) = ((ni - 1 - k : Nat) : Int) := by omega
          go_wp2_with fail
          refine (delta_Encode (dItem x) none none 0 0 0 wr (Pg.none _ _ _ _ rfl rfl)).mono ?_
          rintro e w4 ⟨v1, rfl, hO1, hb4⟩
          obtain ⟨bn1, hbn1⟩ : ∃ n, (encB x).length = n := ⟨_, rfl⟩
          obtain ⟨AE, cE, rfl, hcE, hRE, _⟩ := OwnB.form (n := bn1) (l := encB x) hO1 hbn1
          obtain ⟨ef, hef⟩ : ∃ n, n = cond (dItem x).mayB (0 : Int) 110 := ⟨_, rfl⟩
          rw [← hef]
          have hbe9 : Below w4.heap.size w4 (w4.alloc (.cells #[Value.bool false, Value.slice AE bn1 cE] 43)) := (Below.refl _ _).alloc (Nat.le_refl _) _
          have hbu1 : Below wr.heap.size wr (w4.alloc (.cells #[Value.bool false, Value.slice AE bn1 cE] 43)) := hb4.trans (hbe9.mono hb4.size)
          have HN1 : Hid (Nd (w4.alloc (.cells #[Value.bool false, Value.slice AE bn1 cE] 43)) ⟨false, AE, cE, encB x⟩) := Lib.hid ⟨((hRE.below hbe9).mono (Nat.zero_le _) hbe9.size), by rw [hbn1]; exact hcE, (encB_small x).1, (encB_small x).2⟩
          have HG16 : Hid (Blk (w4.alloc (.cells #[Value.bool false, Value.slice AE bn1 cE] 43)) w4.heap.size 43 #[Value.bool false, Value.slice AE bn1 cE]) := Lib.hid (Blk.new _ _ _)
          have HBu1 := Lib.hid (HBw.out.trans (hbu1.mono HBw.out.size))
          have HM1 := Lib.hid (HL1.out.on hbu1)
          have HM2 := Lib.hid (HL2.out.on hbu1)
          have HBN1 := Lib.hid hbn1
          have HEF := Lib.hid hef
          clear hO1 hb4 hbn1 hcE hRE hef hbe9 hbu1 q0 q1 q2 q3 HBw HL1 HL2
          go_upto_region 22 with fail
          generalize w4.alloc (.cells #[Value.bool false, Value.slice AE bn1 cE] 43) = u1 at *
          obtain ⟨g16, hg16⟩ : ∃ g, g = w4.heap.size := ⟨_, rfl⟩
          rw [← hg16] at HG16
          rw [← hg16]
          clear hg16
          obtain ⟨ad', y, ee2, hy, _, _, q0, q1, q2, q3⟩ := (below_keep HBu1.out HI.out).item (i := ni - 1 - k) (by rw [← HNI.out]; omega)
          cases ee2
          have HY := Lib.hid hy.out
          have hj1 : ((ni - 1 - k : Nat) : Int) < (ni : Int) := by omega
          have hj2 : (0 : Int) ≤ ((ni - 1 - k : Nat) : Int) := by omega
          obtain ⟨jx, hjx⟩ : ∃ j, j = ni - 1 - k := ⟨_, rfl⟩
          rw [← hjx] at hwb hcast hj1 hj2 q0 q1 q2 q3 HY
          have HJX := Lib.hid hjx
          clear hjx hy
          go_wp2_with fail
          refine (delta_Encode (dItem y) none none 0 0 0 u1 (Pg.none _ _ _ _ rfl rfl)).mono ?_
          rintro e w5 ⟨v2, rfl, hO1, hb4⟩
          obtain ⟨bn2, hbn2⟩ : ∃ n, (encB y).length = n := ⟨_, rfl⟩
          obtain ⟨AF, cF, rfl, hcF, hRF, _⟩ := OwnB.form (n := bn2) (l := encB y) hO1 hbn2
          obtain ⟨eg, heg⟩ : ∃ n, n = cond (dItem y).mayB (0 : Int) 110 := ⟨_, rfl⟩
          rw [← heg]
          have hbe9 : Below w5.heap.size w5 (w5.alloc (.cells #[Value.bool false, Value.slice AF bn2 cF] 43)) := (Below.refl _ _).alloc (Nat.le_refl _) _
          have hbu2 : Below u1.heap.size u1 (w5.alloc (.cells #[Value.bool false, Value.slice AF bn2 cF] 43)) := hb4.trans (hbe9.mono hb4.size)
          have HN2 : Hid (Nd (w5.alloc (.cells #[Value.bool false, Value.slice AF bn2 cF] 43)) ⟨false, AF, cF, encB y⟩) := Lib.hid ⟨((hRF.below hbe9).mono (Nat.zero_le _) hbe9.size), by rw [hbn2]; exact hcF, (encB_small y).1, (encB_small y).2⟩
          have HG18 : Hid (Blk (w5.alloc (.cells #[Value.bool false, Value.slice AF bn2 cF] 43)) w5.heap.size 43 #[Value.bool false, Value.slice AF bn2 cF]) := Lib.hid (Blk.new _ _ _)
          have HBu2 := Lib.hid (HBu1.out.trans (hbu2.mono HBu1.out.size))
          have HP1 := Lib.hid (HM1.out.on hbu2)
          have HP2 := Lib.hid (HM2.out.on hbu2)
          have HN1' := Lib.hid (HN1.out.on hbu2)
          have HG16' := Lib.hid (HG16.out.below hbu2 HG16.out.lt)
          have HBN2 := Lib.hid hbn2
          have HEG := Lib.hid heg
          clear hO1 hb4 hbn2 hcF hRF heg hbe9 hbu2 q0 q1 q2 q3 HBu1 HM1 HM2 HN1 HG16
          go_upto_region 23 with fail
          generalize w5.alloc (.cells #[Value.bool false, Value.slice AF bn2 cF] 43) = u2 at *
          obtain ⟨g18, hg18⟩ : ∃ g, g = w5.heap.size := ⟨_, rfl⟩
          rw [← hg18] at HG18
          rw [← hg18]
          clear hg18
          by_cases hcx : x.check = 0
          case neg =>
            have h0 : ef = 110 := by
              rw [HEF.out]
              cases hm : (dItem x).mayB with
              | true => exact absurd (dItem_may.1 hm) hcx
              | false => rfl
            subst h0
            go_wp2
            go_ret
            exact ⟨rfl, HBu2.out⟩
          have h0 : ef = 0 := by rw [HEF.out, dItem_may.2 hcx]; rfl
          subst h0
          by_cases hcy : y.check = 0
          case neg =>
            have h0 : eg = 110 := by
              rw [HEG.out]
              cases hm : (dItem y).mayB with
              | true => exact absurd (dItem_may.1 hm) hcy
              | false => rfl
            subst h0
            go_wp2
            go_ret
            exact ⟨rfl, HBu2.out⟩
          have h0 : eg = 0 := by rw [HEG.out, dItem_may.2 hcy]; rfl
          subst h0
          have hlen1 : (n1 ++ l).length ≤ 200 := by have h := HP1.out.is.len; rw [List.length_reverse, List.length_take] at h; rw [List.length_append, ← HLN.out]; omega
          have hlen2 : (n2 ++ l).length ≤ 200 := by have h := HP2.out.is.len; rw [List.length_reverse, List.length_take] at h; rw [List.length_append, ← HLN.out]; omega
          have HLE := Lib.hid (And.intro hlen1 hlen2)
          clear hlen1 hlen2
          obtain ⟨a0, a1⟩ := HG16'.out.cells2'
          obtain ⟨b0, b1⟩ := HG18.out.cells2'
          have hbe10 : Below u2.heap.size u2 (u2.alloc (.cells #[Value.bool false, Value.slice AE bn1 cE] 43)) := (Below.refl _ _).alloc (Nat.le_refl _) _
          have HBE := Lib.hid hbe10
          have HO10 : Hid (OwnNV (u2.alloc (.cells #[Value.bool false, Value.slice AE bn1 cE] 43)) u2.heap.size (.slice (some ⟨u2.heap.size, 0, none⟩) 1 1) [⟨false, AE, cE, encB x⟩]) := Lib.hid (OwnNV.made (l := [⟨false, AE, cE, encB x⟩]) (by
            show Blk _ _ _ #[_, Value.slice AE (encB x).length cE]
            rw [HBN1.out]
            exact Blk.new u2 43 _) rfl (Nat.le_refl _) (by simp))
          have HRL : Hid (Rd NV.cells 2 (u2.alloc (.cells #[Value.bool false, Value.slice AE bn1 cE] 43)) 0 u2.heap.size A1 (n1 ++ l)) := Lib.hid (HP1.out.nd.row.below hbe10)
          have hsu : u2.heap.size ≤ (u2.alloc (.cells #[Value.bool false, Value.slice AE bn1 cE] 43)).heap.size := hbe10.size
          clear hbe10
          go_upto_region 26 with (at_builtin; (refine appNVs _ rfl _ _ rfl u2.heap.size (.slice (some ⟨u2.heap.size, 0, none⟩) 1 1) [⟨false, AE, cE, encB x⟩] (n1 ++ l) A1 c1 0 u2.heap.size rfl HO10.out (by rw [← HP1.out.len]; rfl) HRL.out (by have h := HLE.out.1; simp only [List.length_singleton]; omega) hsu ?_); intro v6 w6 hO6 hG6; obtain ⟨D1, t1, hv6, ht1, hR1⟩ := OwnNV.form hO6; obtain ⟨r1, hr1⟩ : ∃ r, r = ([(⟨false, AE, cE, encB x⟩ : NV)] ++ (n1 ++ l)).length := ⟨_, rfl⟩; rw [← hr1] at hv6 ht1; subst hv6; have HRR1 := Lib.hid hr1; clear hr1)
          have hbg : Below u2.heap.size u2 w6 := HBE.out.grown hG6 HBE.out.size (fun k hk => (HO10.out.block k hk).1)
          have HS1 : Hid (Laid w6 D1 r1 t1 (⟨false, AE, cE, encB x⟩ :: n1) l (its.take k ++ [x])) := Lib.hid (HP1.out.more hbg hR1 HRR1.out ht1 (HN1'.out.on hbg) ⟨rfl, encB_is hcx⟩ hcx)
          have HS2 := Lib.hid (HP2.out.on hbg)
          have HN2' := Lib.hid (HN2.out.on hbg)
          have HG18' := Lib.hid (HG18.out.below hbg HG18.out.lt)
          have HBu6 := Lib.hid (HBu2.out.trans (hbg.mono HBu2.out.size))
          clear hO6 hG6 hR1 HRR1 ht1 hbg HBE HO10 HRL hsu a0 a1 b0 b1 HP1 HP2 HN1' HN2 HG16' HG18 HBu2
          obtain ⟨b0, b1⟩ := HG18'.out.cells2'
          have hbe10 : Below w6.heap.size w6 (w6.alloc (.cells #[Value.bool false, Value.slice AF bn2 cF] 43)) := (Below.refl _ _).alloc (Nat.le_refl _) _
          have HBE := Lib.hid hbe10
          have HO10 : Hid (OwnNV (w6.alloc (.cells #[Value.bool false, Value.slice AF bn2 cF] 43)) w6.heap.size (.slice (some ⟨w6.heap.size, 0, none⟩) 1 1) [⟨false, AF, cF, encB y⟩]) := Lib.hid (OwnNV.made (l := [⟨false, AF, cF, encB y⟩]) (by
            show Blk _ _ _ #[_, Value.slice AF (encB y).length cF]
            rw [HBN2.out]
            exact Blk.new w6 43 _) rfl (Nat.le_refl _) (by simp))
          have HRL : Hid (Rd NV.cells 2 (w6.alloc (.cells #[Value.bool false, Value.slice AF bn2 cF] 43)) 0 w6.heap.size A2 (n2 ++ l)) := Lib.hid (HS2.out.nd.row.below hbe10)
          have hsu : w6.heap.size ≤ (w6.alloc (.cells #[Value.bool false, Value.slice AF bn2 cF] 43)).heap.size := hbe10.size
          clear hbe10
          go_wp2_with (at_builtin; (refine appNVs _ rfl _ _ rfl w6.heap.size (.slice (some ⟨w6.heap.size, 0, none⟩) 1 1) [⟨false, AF, cF, encB y⟩] (n2 ++ l) A2 c2 0 w6.heap.size rfl HO10.out (by rw [← HS2.out.len]; rfl) HRL.out (by have h := HLE.out.2; simp only [List.length_singleton]; omega) hsu ?_); intro v7 w7 hO7 hG7; obtain ⟨D2, t2, hv7, ht2, hR2⟩ := OwnNV.form hO7; obtain ⟨r2, hr2⟩ : ∃ r, r = ([(⟨false, AF, cF, encB y⟩ : NV)] ++ (n2 ++ l)).length := ⟨_, rfl⟩; rw [← hr2] at hv7 ht2; subst hv7; have HRR2 := Lib.hid hr2; clear hr2)
          have hbg : Below w6.heap.size w6 w7 := HBE.out.grown hG7 HBE.out.size (fun k hk => (HO10.out.block k hk).1)
          have htk : its.take (k + 1) = its.take k ++ [x] := by rw [List.take_add_one, HX.out]; rfl
          have hrv : its.reverse[k]? = some y := by
            rw [List.getElem?_reverse (by rw [← HNI.out]; exact hlt), ← HNI.out, ← HJX.out]
            exact HY.out
          have htr : its.reverse.take (k + 1) = its.reverse.take k ++ [y] := by rw [List.take_add_one, hrv]; rfl
          have HT1 : Hid (Laid w7 D1 r1 t1 (⟨false, AE, cE, encB x⟩ :: n1) l (its.take (k + 1))) := Lib.hid (by rw [htk]; exact HS1.out.on hbg)
          have HT2 : Hid (Laid w7 D2 r2 t2 (⟨false, AF, cF, encB y⟩ :: n2) l (its.reverse.take (k + 1))) := Lib.hid (by rw [htr]; exact HS2.out.more hbg hR2 HRR2.out ht2 (HN2'.out.on hbg) ⟨rfl, encB_is hcy⟩ hcy)
          have HBu7 := Lib.hid (HBu6.out.trans (hbg.mono HBu6.out.size))
          clear hO7 hG7 hR2 HRR2 ht2 hbg htk hrv htr
          go_roundw
          case rel => exact ⟨k + 1, _, _, D1, D2, r1, r2, t1, t2, by omega, rfl, rfl, by go_num, HBu7, HT1, HT2⟩
          case measure => simp [intOf]; omega
        · obtain rfl : ni = k := by omega
          have hno2 : ¬ ((ni : Int) < (ni : Int)) := by omega
          have ht1 : its.take ni = its := by rw [HNI.out, List.take_length]
          have ht2 : its.reverse.take ni = its.reverse := by rw [HNI.out, ← List.length_reverse, List.take_length]
          rw [ht1] at HL1
          rw [ht2] at HL2
          have hli1 := HL1.out.is.len
          have hli2 := HL2.out.is.len
          rw [List.length_reverse, ← HNI.out] at hli1
          rw [List.length_reverse, List.length_reverse, ← HNI.out] at hli2
          have hR1 : flatL (n1 ++ l) = goItems p its := by rw [HPE.out]; exact flat_items HEC.out.symm HFZ.out.symm (by rw [hli1, ← HLN.out]; exact h64) HL1.out.ok HL1.out.is
          have hR2 : flatL (n2 ++ l) = goItems p its := by
            rw [any_order HOK.out HLV.out.symm HL1.out.ok (by rw [← HNI.out, ← HQI.out]; exact h120) HAP.out]
            rw [HPE.out]
            exact flat_items HEC.out.symm HFZ.out.symm (by rw [hli2, ← HLN.out]; exact h64) HL2.out.ok HL2.out.is
          obtain ⟨R, hR⟩ : ∃ R, R = goItems p its := ⟨_, rfl⟩
          rw [← hR] at hR1 hR2
          have HR1 := Lib.hid hR1
          have HR2 := Lib.hid hR2
          have hb1 : (n1 ++ l).length ≤ 140737488351232 := by rw [List.length_append, hli1, ← HLN.out]; omega
          have hb2 : (n2 ++ l).length ≤ 140737488351232 := by rw [List.length_append, hli2, ← HLN.out]; omega
          have HF1 := Lib.hid (delta_Flat (n1 ++ l) A1 c1 0 wr HL1.out.nd (by rw [← HL1.out.len]; exact HL1.out.c) hb1)
          have HF2 := Lib.hid (fun (W : World) (h : Below wr.heap.size wr W) => delta_Flat (n2 ++ l) A2 c2 0 W (HL2.out.nd.on h) (by rw [← HL2.out.len]; exact HL2.out.c) hb2)
          rw [← HL1.out.len, hR1] at HF1
          rw [← HL2.out.len, hR2] at HF2
          clear hR hR1 hR2 hb1 hb2 ht1 ht2 hli1 hli2 hlt hk
          go_wp2_with fail
          refine HF1.out.mono ?_
          rintro e w6 ⟨E, E', e1, e1', rfl, hX, hb6⟩
          obtain ⟨q, hq⟩ : ∃ q, q = R.1 := ⟨_, rfl⟩
          obtain ⟨n, hn⟩ : ∃ q, q = R.2.1 := ⟨_, rfl⟩
          obtain ⟨g, hg⟩ : ∃ q, q = R.2.2 := ⟨_, rfl⟩
          rw [← hq] at hX
          rw [← hq, ← hn, ← hg]
          have HQQ := Lib.hid (And.intro hq (And.intro hn hg))
          have HX6 := Lib.hid hX
          have HB6' := Lib.hid hb6
          clear hq hn hg hX hb6
          unfold Page.val Page.raw
          obtain ⟨xi, hxi⟩ : ∃ n, n = q.items.length := ⟨_, rfl⟩
          obtain ⟨xk, hxk⟩ : ∃ n, n = q.kids.length := ⟨_, rfl⟩
          rw [← hxi, ← hxk]
          have HXI := Lib.hid hxi
          have HXK := Lib.hid hxk
          clear hxi hxk
          have HZ20 : Hid (Blk (w6.alloc (.cells #[Value.int IntKind.i64 0, Value.string { data := #[] }, Value.string { data := #[] }, Value.bool false, Value.int IntKind.i64 0, Value.slice none 0 0, Value.slice none 0 0] 27)) w6.heap.size 27 #[Value.int IntKind.i64 0, Value.string { data := #[] }, Value.string { data := #[] }, Value.bool false, Value.int IntKind.i64 0, Value.slice none 0 0, Value.slice none 0 0]) := Lib.hid (Blk.new _ _ _)
          have hsz6 : (w6.alloc (.cells #[Value.int IntKind.i64 0, Value.string { data := #[] }, Value.string { data := #[] }, Value.bool false, Value.int IntKind.i64 0, Value.slice none 0 0, Value.slice none 0 0] 27)).heap.size = w6.heap.size + 1 := by simp
          go_upto_region 28 with (refine wpList_store_row rfl 27 _ _ rfl rfl (w6.heap.size) rfl _ _ _ rfl HZ20.out rfl (by kernel_rfl) (List.all_eq_true.1 rfl) ?_; rintro w7 hT7 hB7)
          have hb7 : Below w6.heap.size w6 w7 := hT7.below ((Below.refl _ _).alloc (Nat.le_refl _) _) (Nat.le_refl _) (by rw [hsz6]; omega)
          have HX7 := Lib.hid ((HX6.out.below hb7).mono (Nat.zero_le _) hb7.size)
          have HB7 := Lib.hid (HB6'.out.trans (hb7.mono HB6'.out.size))
          have HB20 := Lib.hid hB7
          clear hT7 hB7 hb7 HZ20 hsz6 HX6 HB6'
          obtain ⟨g20, hg20⟩ : ∃ g, g = w6.heap.size := ⟨_, rfl⟩
          rw [← hg20] at HB20
          rw [← hg20]
          clear hg20
          go_wp2_with fail
          refine (HF2.out w7 HB7.out).mono ?_
          rintro e w8 ⟨F, F', f1, f1', rfl, hY, hb8⟩
          rw [← HQQ.out.1] at hY
          rw [← HQQ.out.1, ← HQQ.out.2.1, ← HQQ.out.2.2]
          have HX8 := Lib.hid ((HX7.out.below hb8).mono (Nat.zero_le _) hb8.size)
          have HB8 := Lib.hid (HB7.out.trans (hb8.mono HB7.out.size))
          have HB208 := Lib.hid (HB20.out.below hb8 HB20.out.lt)
          have HY8 := Lib.hid hY
          clear hY hb8 HX7 HB7 HB20
          unfold Page.val Page.raw
          rw [← HXI.out, ← HXK.out]
          have HZ23 : Hid (Blk (w8.alloc (.cells #[Value.int IntKind.i64 0, Value.string { data := #[] }, Value.string { data := #[] }, Value.bool false, Value.int IntKind.i64 0, Value.slice none 0 0, Value.slice none 0 0] 27)) w8.heap.size 27 #[Value.int IntKind.i64 0, Value.string { data := #[] }, Value.string { data := #[] }, Value.bool false, Value.int IntKind.i64 0, Value.slice none 0 0, Value.slice none 0 0]) := Lib.hid (Blk.new _ _ _)
          have hsz8 : (w8.alloc (.cells #[Value.int IntKind.i64 0, Value.string { data := #[] }, Value.string { data := #[] }, Value.bool false, Value.int IntKind.i64 0, Value.slice none 0 0, Value.slice none 0 0] 27)).heap.size = w8.heap.size + 1 := by simp
          go_upto_region 29 with (refine wpList_store_row rfl 27 _ _ rfl rfl (w8.heap.size) rfl _ _ _ rfl HZ23.out rfl (by kernel_rfl) (List.all_eq_true.1 rfl) ?_; rintro w9 hT9 hB9)
          have hb9 : Below w8.heap.size w8 w9 := hT9.below ((Below.refl _ _).alloc (Nat.le_refl _) _) (Nat.le_refl _) (by rw [hsz8]; omega)
          have HX9 := Lib.hid ((HX8.out.below hb9).mono (Nat.zero_le _) hb9.size)
          have HY9 := Lib.hid ((HY8.out.below hb9).mono (Nat.zero_le _) hb9.size)
          have HB9 := Lib.hid (HBw.out.trans ((HB8.out.trans (hb9.mono HB8.out.size)).mono HBw.out.size))
          have HB209 := Lib.hid (HB208.out.below hb9 HB208.out.lt)
          have HB23 := Lib.hid hB9
          clear hT9 hB9 hb9 HZ23 hsz8 HX8 HY8 HB208 HB8
          obtain ⟨g23, hg23⟩ : ∃ g, g = w8.heap.size := ⟨_, rfl⟩
          rw [← hg23] at HB23
          rw [← hg23]
          clear hg23
          have HSM := Lib.hid (ref_Same q q E E' F F' e1 e1' f1 f1' 0 0 w9 HX9.out HY9.out)
          unfold Page.val Page.raw at HSM
          rw [← HXI.out, ← HXK.out] at HSM
          have HSS : Hid (q.same q = true) := Lib.hid (Page.same_yes rfl).symm
          rw [HSS.out] at HSM
          obtain ⟨z0, z1, z2, z3, z4, z5, z6⟩ := Blk.cells7 HB209.out
          obtain ⟨y0, y1, y2, y3, y4, y5, y6⟩ := Blk.cells7 HB23.out
          have hgg : (g == g) = true := by simp
          go_wp2_with fail
          refine HSM.out.mono ?_
          rintro e w10 ⟨rfl, hb10⟩
          go_wp2
          go_ret
          exact ⟨rfl, HB9.out.trans (hb10.mono HB9.out.size)⟩
end Go.Proofs.Ytjbdmaehomhdeaa
