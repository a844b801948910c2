/- the law DeltaSplits: it answers true. -/
import Derived.Test.YtjbdmaehomhdeaaZP
import Derived.Test.YtjbdmaehomhdeaaN2
import Derived.Test.YtjbdmaehomhdeaaS4
namespace Go.Proofs.Ytjbdmaehomhdeaa
open Go.RowKit

noncomputable def encS (k : ByteArray) (n : Int) : List Nat := cond (dSplit k n).mayB ((dSplit k n).bytes (dSplit k n).kind) []
theorem encS_small (k : ByteArray) (n : Int) : (∀ b ∈ encS k n, b < 256) ∧ (encS k n).length ≤ 140737488351232 := by
  unfold encS
  cases h : (dSplit k n).mayB with
  | false => exact ⟨(fun b hb => by cases hb), Nat.zero_le _⟩
  | true =>
    rw [cond_true, dSplit_bytes]
    refine ⟨fun b hb => ?_, ?_⟩
    · rcases List.mem_cons.1 hb with rfl | hb
      · omega
      · rcases List.mem_append.1 hb with hb | hb
        · exact textB_small _ b hb
        · exact numB_small _ _ b hb
    · have h1 := (dSplit_may.1 h).1
      simp only [isKey, decide_eq_true_eq] at h1
      simp only [List.length_cons, List.length_append, textB_length, numB_length]
      omega

set_option maxRecDepth 100000 in
set_option maxHeartbeats 20000000 in
theorem law_DeltaSplits (l : List NV) (A : Option Addr) (c : Nat) (key : ByteArray) (n : Int) (other : ByteArray) (w : World) (hN : Nodes w 0 w.heap.size A l) (hc : l.length ≤ c) (hl : l.length ≤ 140737488351232) :
    Calls Try.prog 5 #[.slice A l.length c, .string key, .int .i64 n, .string other] w fun e w' => e = .returned (.bool true) ∧ Below w.heap.size w w' := by
  have HFL := Lib.hid (fun (W : World) (h : Below w.heap.size w W) => delta_Flat l A c 0 W (hN.on h) hc hl)
  have HFD := Lib.hid (fun (W : World) (h : Below w.heap.size w W) => delta_Find l A c 0 other W (hN.on h) hc hl)
  have HN := Lib.hid hN
  clear hN
  obtain ⟨ln, hln⟩ : ∃ n, n = l.length := ⟨_, rfl⟩
  rw [← hln]
  rw [← hln] at HFL HFD hc hl
  have HLN := Lib.hid hln
  have HC := Lib.hid hc
  clear hln hc
  go_enter Try.func5, Try.ntmps5
  go_upto_region 1 with (fail)
  go_wp2_with fail
  refine (awake11 w).mono ?_
  rintro e w1 ⟨rfl, hb1⟩
  have HB1 := Lib.hid hb1
  clear hb1
  go_wp2_with fail
  refine (HFL.out w1 HB1.out).mono ?_
  rintro e w2 ⟨C, C', b, b', rfl, hP, hb2⟩
  obtain ⟨p, hp⟩ : ∃ q, q = (flatL l).1 := ⟨_, rfl⟩
  obtain ⟨fz, hfz⟩ : ∃ q, q = (flatL l).2.1 := ⟨_, rfl⟩
  obtain ⟨ec, hec⟩ : ∃ q, q = (flatL l).2.2 := ⟨_, rfl⟩
  rw [← hp] at hP
  rw [← hp, ← hfz, ← hec]
  have HPE := Lib.hid hp
  have HFZ := Lib.hid hfz
  have HEC := Lib.hid hec
  have HPQ := Lib.hid hP
  have hs1 : w.heap.size ≤ w1.heap.size := HB1.out.size
  have hs2 : w1.heap.size ≤ w2.heap.size := hb2.size
  have HB2 := Lib.hid (HB1.out.trans (hb2.mono hs1))
  clear hp hfz hec hP hb2
  have HSP := Lib.hid (fun (W : World) (h : Pg W w1.heap.size W.heap.size p C C' b b') => ref_Split p C C' b b' w1.heap.size key n W h)
  unfold Page.val Page.raw at HSP
  unfold Page.val Page.raw
  obtain ⟨qi, hqi⟩ : ∃ n, n = p.items.length := ⟨_, rfl⟩
  obtain ⟨qk, hqk⟩ : ∃ n, n = p.kids.length := ⟨_, rfl⟩
  obtain ⟨lv, hlv⟩ : ∃ n, n = p.level := ⟨_, rfl⟩
  rw [← hqi, ← hqk, ← hlv]
  rw [← hqi, ← hqk, ← hlv] at HSP
  have HLV := Lib.hid hlv
  clear hqi hqk hlv
  have HZ6 : Hid (Blk (w2.alloc (.cells #[Value.int IntKind.i64 0, Value.string { data := #[] }, Value.string { data := #[] }, Value.bool false, Value.int IntKind.i64 0, Value.slice none 0 0, Value.slice none 0 0] 27)) w2.heap.size 27 #[Value.int IntKind.i64 0, Value.string { data := #[] }, Value.string { data := #[] }, Value.bool false, Value.int IntKind.i64 0, Value.slice none 0 0, Value.slice none 0 0]) := Lib.hid (Blk.new _ _ _)
  have HAR : Hid (∀ w3, Turned (w2.alloc (.cells #[Value.int IntKind.i64 0, Value.string { data := #[] }, Value.string { data := #[] }, Value.bool false, Value.int IntKind.i64 0, Value.slice none 0 0, Value.slice none 0 0] 27)) w3 w2.heap.size → Below w.heap.size w w3 ∧ Pg w3 w1.heap.size w3.heap.size p C C' b b' ∧ w3.heap.size = w2.heap.size + 1) := Lib.hid fun w3 hT => by
    have hsz : (w2.alloc (.cells #[Value.int IntKind.i64 0, Value.string { data := #[] }, Value.string { data := #[] }, Value.bool false, Value.int IntKind.i64 0, Value.slice none 0 0, Value.slice none 0 0] 27)).heap.size = w2.heap.size + 1 := by simp
    have hB : Below w2.heap.size w2 w3 := hT.below ((Below.refl _ _).alloc (Nat.le_refl _) _) (Nat.le_refl _) (by rw [hsz]; omega)
    exact ⟨HB2.out.trans (hB.mono HB2.out.size), (HPQ.out.below hB).mono (Nat.le_refl _) hB.size, by rw [hT.sz, hsz]⟩
  by_cases he : ec = 0
  case neg =>
    have hne : (ec != 0) = true := by simpa using he
    go_wp2_with (refine wpList_store_row rfl 27 _ _ rfl rfl (w2.heap.size) rfl _ _ _ rfl HZ6.out rfl (by kernel_rfl) (List.all_eq_true.1 rfl) ?_; rintro w3 hT3 hB3; obtain ⟨hb3, hp3, hs3⟩ := HAR.out w3 hT3; have HB3 := Lib.hid hb3; have HP3 := Lib.hid hp3; have HB6 := Lib.hid hB3; obtain ⟨y0, y1, y2, y3, y4, y5, y6⟩ := Blk.cells7 hB3; clear hT3 hB3 hb3 hp3)
    go_ret
    exact ⟨rfl, HB3.out⟩
  subst he
  by_cases hf : fz = 0
  case neg =>
    have hne : (fz != 0) = true := by simpa using hf
    go_wp2_with (refine wpList_store_row rfl 27 _ _ rfl rfl (w2.heap.size) rfl _ _ _ rfl HZ6.out rfl (by kernel_rfl) (List.all_eq_true.1 rfl) ?_; rintro w3 hT3 hB3; obtain ⟨hb3, hp3, hs3⟩ := HAR.out w3 hT3; have HB3 := Lib.hid hb3; have HP3 := Lib.hid hp3; have HB6 := Lib.hid hB3; obtain ⟨y0, y1, y2, y3, y4, y5, y6⟩ := Blk.cells7 hB3; clear hT3 hB3 hb3 hp3)
    go_ret
    exact ⟨rfl, HB3.out⟩
  subst hf
  by_cases hv : lv = 0
  case neg =>
    have hne : (lv != 0) = true := by simpa using hv
    go_wp2_with (refine wpList_store_row rfl 27 _ _ rfl rfl (w2.heap.size) rfl _ _ _ rfl HZ6.out rfl (by kernel_rfl) (List.all_eq_true.1 rfl) ?_; rintro w3 hT3 hB3; obtain ⟨hb3, hp3, hs3⟩ := HAR.out w3 hT3; have HB3 := Lib.hid hb3; have HP3 := Lib.hid hp3; have HB6 := Lib.hid hB3; obtain ⟨y0, y1, y2, y3, y4, y5, y6⟩ := Blk.cells7 hB3; clear hT3 hB3 hb3 hp3)
    go_ret
    exact ⟨rfl, HB3.out⟩
  subst hv
  by_cases h64 : ln < 64
  case neg =>
    have hne : (64 : Int) ≤ (ln : Int) := by omega
    go_wp2_with (refine wpList_store_row rfl 27 _ _ rfl rfl (w2.heap.size) rfl _ _ _ rfl HZ6.out rfl (by kernel_rfl) (List.all_eq_true.1 rfl) ?_; rintro w3 hT3 hB3; obtain ⟨hb3, hp3, hs3⟩ := HAR.out w3 hT3; have HB3 := Lib.hid hb3; have HP3 := Lib.hid hp3; have HB6 := Lib.hid hB3; obtain ⟨y0, y1, y2, y3, y4, y5, y6⟩ := Blk.cells7 hB3; clear hT3 hB3 hb3 hp3)
    go_ret
    exact ⟨rfl, HB3.out⟩
  have hne : ¬ ((64 : Int) ≤ (ln : Int)) := by omega
  go_upto_region 5 with (refine wpList_store_row rfl 27 _ _ rfl rfl (w2.heap.size) rfl _ _ _ rfl HZ6.out rfl (by kernel_rfl) (List.all_eq_true.1 rfl) ?_; rintro w3 hT3 hB3; obtain ⟨hb3, hp3, hs3⟩ := HAR.out w3 hT3; have HB3 := Lib.hid hb3; have HP3 := Lib.hid hp3; have HB6 := Lib.hid hB3; obtain ⟨y0, y1, y2, y3, y4, y5, y6⟩ := Blk.cells7 hB3; clear hT3 hB3 hb3 hp3)
  have HOK : Hid (p.ok = true) := Lib.hid (by rw [HPE.out]; exact flat_ok HEC.out.symm HFZ.out.symm)
  have H64 := Lib.hid h64
  obtain ⟨g6, hg6⟩ : ∃ g, g = w2.heap.size := ⟨_, rfl⟩
  rw [← hg6] at HB6 hs3
  rw [← hg6]
  clear hg6 HZ6 HAR y0 y1 y2 y3 y4 y5 y6 hne h64
  go_wp2_with fail
  refine (delta_Encode (dSplit key n) none none 0 0 0 w3 (Pg.none _ _ _ _ rfl rfl)).mono ?_
  rintro e w4 ⟨v1, rfl, hO1, hb4⟩
  obtain ⟨bn1, hbn1⟩ : ∃ m, (encS key n).length = m := ⟨_, rfl⟩
  obtain ⟨AE, cE, rfl, hcE, hRE, _⟩ := OwnB.form (n := bn1) (l := encS key n) hO1 hbn1
  obtain ⟨ef, hef⟩ : ∃ m, m = cond (dSplit key n).mayB (0 : Int) 110 := ⟨_, rfl⟩
  rw [← hef]
  have hbe9 : Below w4.heap.size w4 (w4.alloc (.cells #[Value.bool false, Value.slice AE bn1 cE] 43)) := (Below.refl _ _).alloc (Nat.le_refl _) _
  have hbu1 : Below w3.heap.size w3 (w4.alloc (.cells #[Value.bool false, Value.slice AE bn1 cE] 43)) := hb4.trans (hbe9.mono hb4.size)
  have HN1 : Hid (Nd (w4.alloc (.cells #[Value.bool false, Value.slice AE bn1 cE] 43)) ⟨false, AE, cE, encS key n⟩) := Lib.hid ⟨((hRE.below hbe9).mono (Nat.zero_le _) hbe9.size), by rw [hbn1]; exact hcE, (encS_small key n).1, (encS_small key n).2⟩
  have HG13 : Hid (Blk (w4.alloc (.cells #[Value.bool false, Value.slice AE bn1 cE] 43)) w4.heap.size 43 #[Value.bool false, Value.slice AE bn1 cE]) := Lib.hid (Blk.new _ _ _)
  have HBu1 := Lib.hid (HB3.out.trans (hbu1.mono HB3.out.size))
  have HPu1 := Lib.hid ((HP3.out.below hbu1).mono (Nat.le_refl _) hbu1.size)
  have HB6u := Lib.hid (HB6.out.below hbu1 HB6.out.lt)
  have HBN1 := Lib.hid hbn1
  have HEF := Lib.hid hef
  clear hO1 hb4 hbn1 hcE hRE hef hbe9 hbu1 HB6 HP3 HB3
  go_upto_region 6 with fail
  generalize w4.alloc (.cells #[Value.bool false, Value.slice AE bn1 cE] 43) = u1 at *
  obtain ⟨g13, hg13⟩ : ∃ g, g = w4.heap.size := ⟨_, rfl⟩
  rw [← hg13] at HG13
  rw [← hg13]
  clear hg13
  obtain ⟨y0, y1, y2, y3, y4, y5, y6⟩ := Blk.cells7 HB6u.out
  go_wp2_with fail
  refine (HSP.out u1 HPu1.out).mono ?_
  rintro e w5 ⟨E, E', e1, e2, F, F', f1, f2, rfl, hQ, hR, hb5⟩
  obtain ⟨q, hq⟩ : ∃ q, q = p.splitP key n := ⟨_, rfl⟩
  obtain ⟨r, hr⟩ : ∃ q, q = p.splitR key n := ⟨_, rfl⟩
  obtain ⟨eg, heg⟩ : ∃ q, q = p.splitE key n := ⟨_, rfl⟩
  rw [← hr] at hR
  rw [← hq, ← hr, ← heg]
  have HRE := Lib.hid hr
  have HEG := Lib.hid heg
  have HR5 := Lib.hid hR
  have HN15 := Lib.hid (HN1.out.on hb5)
  have HG135 := Lib.hid (HG13.out.below hb5 HG13.out.lt)
  have HB5 := Lib.hid (HBu1.out.trans (hb5.mono HBu1.out.size))
  have hs5 : u1.heap.size ≤ w5.heap.size := hb5.size
  clear hq hr heg hQ hR hb5 y0 y1 y2 y3 y4 y5 y6 HN1 HG13 HBu1 HPu1 HB6u
  have HBA := Lib.hid (fun (W : World) (h : Pg W u1.heap.size W.heap.size r F F' f1 f2) => delta_Base r F F' f1 f2 u1.heap.size W h)
  unfold Page.val Page.raw at HBA
  unfold Page.val Page.raw
  obtain ⟨q1, hq1⟩ : ∃ n, n = q.items.length := ⟨_, rfl⟩
  obtain ⟨q2, hq2⟩ : ∃ n, n = q.kids.length := ⟨_, rfl⟩
  obtain ⟨r1, hr1⟩ : ∃ n, n = r.items.length := ⟨_, rfl⟩
  obtain ⟨r2, hr2⟩ : ∃ n, n = r.kids.length := ⟨_, rfl⟩
  rw [← hq1, ← hq2, ← hr1, ← hr2]
  rw [← hr1, ← hr2] at HBA
  clear hq1 hq2 hr1 hr2
  have HZ15 : Hid (Blk ((w5.alloc (.cells #[Value.int IntKind.i64 0, Value.string { data := #[] }, Value.string { data := #[] }, Value.bool false, Value.int IntKind.i64 0, Value.slice none 0 0, Value.slice none 0 0] 27)).alloc (.cells #[Value.int IntKind.i64 0, Value.string { data := #[] }, Value.string { data := #[] }, Value.bool false, Value.int IntKind.i64 0, Value.slice none 0 0, Value.slice none 0 0] 27)) w5.heap.size 27 #[Value.int IntKind.i64 0, Value.string { data := #[] }, Value.string { data := #[] }, Value.bool false, Value.int IntKind.i64 0, Value.slice none 0 0, Value.slice none 0 0]) := Lib.hid ((Blk.new w5 _ _).alloc _)
  have HZ16 : Hid (Blk ((w5.alloc (.cells #[Value.int IntKind.i64 0, Value.string { data := #[] }, Value.string { data := #[] }, Value.bool false, Value.int IntKind.i64 0, Value.slice none 0 0, Value.slice none 0 0] 27)).alloc (.cells #[Value.int IntKind.i64 0, Value.string { data := #[] }, Value.string { data := #[] }, Value.bool false, Value.int IntKind.i64 0, Value.slice none 0 0, Value.slice none 0 0] 27)) (w5.heap.size + 1) 27 #[Value.int IntKind.i64 0, Value.string { data := #[] }, Value.string { data := #[] }, Value.bool false, Value.int IntKind.i64 0, Value.slice none 0 0, Value.slice none 0 0]) := Lib.hid (Blk.newAt (by simp))
  have HAR : Hid (∀ w6 w7, Turned ((w5.alloc (.cells #[Value.int IntKind.i64 0, Value.string { data := #[] }, Value.string { data := #[] }, Value.bool false, Value.int IntKind.i64 0, Value.slice none 0 0, Value.slice none 0 0] 27)).alloc (.cells #[Value.int IntKind.i64 0, Value.string { data := #[] }, Value.string { data := #[] }, Value.bool false, Value.int IntKind.i64 0, Value.slice none 0 0, Value.slice none 0 0] 27)) w6 w5.heap.size → Turned w6 w7 (w5.heap.size + 1) → Below w5.heap.size w5 w7 ∧ w7.heap.size = w5.heap.size + 2) := Lib.hid fun w6 w7 h1 h2 => by
    have hsz : ((w5.alloc (.cells #[Value.int IntKind.i64 0, Value.string { data := #[] }, Value.string { data := #[] }, Value.bool false, Value.int IntKind.i64 0, Value.slice none 0 0, Value.slice none 0 0] 27)).alloc (.cells #[Value.int IntKind.i64 0, Value.string { data := #[] }, Value.string { data := #[] }, Value.bool false, Value.int IntKind.i64 0, Value.slice none 0 0, Value.slice none 0 0] 27)).heap.size = w5.heap.size + 2 := by simp
    have hB6 : Below w5.heap.size w5 w6 := h1.below (((Below.refl _ _).alloc (Nat.le_refl _) _).alloc (by simp) _) (Nat.le_refl _) (by rw [hsz]; omega)
    exact ⟨h2.below hB6 (by omega) hB6.size, by rw [h2.sz, h1.sz, hsz]⟩
  cases hfit : p.splitFits key n with
  | false =>
    have h103 : eg = 103 := by rw [HEG.out]; unfold Page.splitE; rw [HOK.out, hfit]; rfl
    subst h103
    have hef : ef = 0 ∨ ef = 110 := by
      rw [HEF.out]
      cases (dSplit key n).mayB
      · exact .inr rfl
      · exact .inl rfl
    rcases hef with h | h
    · subst h
      go_wp2_with (first
    | (refine wpList_store_row rfl 27 _ _ rfl rfl (w5.heap.size + 1) rfl _ _ _ rfl HZ16a.out rfl (by kernel_rfl) (List.all_eq_true.1 rfl) ?_; rintro w7 hT7 hB7; obtain ⟨hbb7, hs7⟩ := HAR.out w6 w7 HTT6.out hT7; have HBB7 := Lib.hid hbb7; have HB7 := Lib.hid (HB5.out.trans (hbb7.mono HB5.out.size)); have HB16 := Lib.hid hB7; clear hT7 hB7 hbb7)
    | (refine wpList_store_row rfl 27 _ _ rfl rfl (w5.heap.size) rfl _ _ _ rfl HZ15.out rfl (by kernel_rfl) (List.all_eq_true.1 rfl) ?_; rintro w6 hT6 hB6; have HTT6 := Lib.hid hT6; have HZ16a := Lib.hid (hT6.blk HZ16.out (by omega)); clear hT6 hB6))
      go_ret
      exact ⟨rfl, HB7.out⟩
    · subst h
      go_wp2_with (first
    | (refine wpList_store_row rfl 27 _ _ rfl rfl (w5.heap.size + 1) rfl _ _ _ rfl HZ16a.out rfl (by kernel_rfl) (List.all_eq_true.1 rfl) ?_; rintro w7 hT7 hB7; obtain ⟨hbb7, hs7⟩ := HAR.out w6 w7 HTT6.out hT7; have HBB7 := Lib.hid hbb7; have HB7 := Lib.hid (HB5.out.trans (hbb7.mono HB5.out.size)); have HB16 := Lib.hid hB7; clear hT7 hB7 hbb7)
    | (refine wpList_store_row rfl 27 _ _ rfl rfl (w5.heap.size) rfl _ _ _ rfl HZ15.out rfl (by kernel_rfl) (List.all_eq_true.1 rfl) ?_; rintro w6 hT6 hB6; have HTT6 := Lib.hid hT6; have HZ16a := Lib.hid (hT6.blk HZ16.out (by omega)); clear hT6 hB6))
      go_ret
      exact ⟨rfl, HB7.out⟩
  | true =>
    have hks := splitFits_out hfit
    have h0g : eg = 0 := by rw [HEG.out]; exact splitE_iff.2 ⟨HOK.out, hfit⟩
    have hmay : (dSplit key n).mayB = true := dSplit_may.2 ⟨hks.1, hks.2.2.2⟩
    have h0f : ef = 0 := by rw [HEF.out, hmay]; rfl
    subst h0g h0f
    have HRO : Hid (r.ok = true) := Lib.hid (by rw [HRE.out]; exact splitR_ok HOK.out HLV.out.symm hfit)
    have HRC : Hid (r.check = 0) := Lib.hid (check_of_ok HRO.out)
    have HES : Hid (encS key n = 2 :: (textB key ++ numB n.toNat 2)) := Lib.hid (by unfold encS; rw [hmay, cond_true, dSplit_bytes])
    have HFT := Lib.hid hfit
    clear hks hmay hfit
    go_upto_region 9 with (first
    | (refine wpList_store_row rfl 27 _ _ rfl rfl (w5.heap.size + 1) rfl _ _ _ rfl HZ16a.out rfl (by kernel_rfl) (List.all_eq_true.1 rfl) ?_; rintro w7 hT7 hB7; obtain ⟨hbb7, hs7⟩ := HAR.out w6 w7 HTT6.out hT7; have HBB7 := Lib.hid hbb7; have HB7 := Lib.hid (HB5.out.trans (hbb7.mono HB5.out.size)); have HB16 := Lib.hid hB7; clear hT7 hB7 hbb7)
    | (refine wpList_store_row rfl 27 _ _ rfl rfl (w5.heap.size) rfl _ _ _ rfl HZ15.out rfl (by kernel_rfl) (List.all_eq_true.1 rfl) ?_; rintro w6 hT6 hB6; have HTT6 := Lib.hid hT6; have HZ16a := Lib.hid (hT6.blk HZ16.out (by omega)); clear hT6 hB6))
    obtain ⟨g16, hg16⟩ : ∃ g, g = w5.heap.size + 1 := ⟨_, rfl⟩
    have hgg : w5.heap.size ≤ g16 := by omega
    rw [← hg16] at HB16
    rw [← hg16]
    clear hg16
    obtain ⟨y0, y1, y2, y3, y4, y5, y6⟩ := Blk.cells7 HB16.out
    have HR7 := Lib.hid ((HR5.out.below HBB7.out).mono (Nat.le_refl _) HBB7.out.size)
    have HN17 := Lib.hid (HN15.out.on HBB7.out)
    have HG137 := Lib.hid (HG135.out.below HBB7.out HG135.out.lt)
    clear HZ15 HZ16 HAR HR5 HN15 HG135
    go_wp2_with fail
    refine (HBA.out w7 HR7.out).mono ?_
    rintro e w8 ⟨v8, rfl, hO8, hb8⟩
    rw [HRO.out, HRC.out]
    rw [HRO.out, cond_true] at hO8
    obtain ⟨bn2, hbn2⟩ : ∃ m, r.bytes.length = m := ⟨_, rfl⟩
    obtain ⟨AR, cR, rfl, hcR, hRR, _⟩ := OwnB.form (n := bn2) hO8 hbn2
    have hsm : r.bytes.length ≤ 100000 := (Page.Fine.of_ok HRO.out).bytes_small
    have hbe9 : Below w8.heap.size w8 (w8.alloc (.cells #[Value.bool true, Value.slice AR bn2 cR] 43)) := (Below.refl _ _).alloc (Nat.le_refl _) _
    have hbu2 : Below w7.heap.size w7 (w8.alloc (.cells #[Value.bool true, Value.slice AR bn2 cR] 43)) := hb8.trans (hbe9.mono hb8.size)
    have HNR : Hid (Nd (w8.alloc (.cells #[Value.bool true, Value.slice AR bn2 cR] 43)) ⟨true, AR, cR, r.bytes⟩) := Lib.hid ⟨((hRR.below hbe9).mono (Nat.zero_le _) hbe9.size), by rw [hbn2]; exact hcR, Page.bytes_small r, by show r.bytes.length ≤ _; omega⟩
    have HG18 : Hid (Blk (w8.alloc (.cells #[Value.bool true, Value.slice AR bn2 cR] 43)) w8.heap.size 43 #[Value.bool true, Value.slice AR bn2 cR]) := Lib.hid (Blk.new _ _ _)
    have HBu2 := Lib.hid (HB7.out.trans (hbu2.mono HB7.out.size))
    have HN18 := Lib.hid (HN17.out.on hbu2)
    have HG138 := Lib.hid (HG137.out.below hbu2 HG137.out.lt)
    have HBN2 := Lib.hid hbn2
    clear hO8 hb8 hbn2 hcR hRR hsm hbe9 hbu2 y0 y1 y2 y3 y4 y5 y6 HN17 HG137 HB16 HR7
    go_upto_region 10 with fail
    generalize w8.alloc (.cells #[Value.bool true, Value.slice AR bn2 cR] 43) = u2 at *
    obtain ⟨g18, hg18⟩ : ∃ g, g = w8.heap.size := ⟨_, rfl⟩
    rw [← hg18] at HG18
    rw [← hg18]
    clear hg18
    obtain ⟨a0, a1⟩ := HG138.out.cells2'
    have hbe10 : Below u2.heap.size u2 (u2.alloc (.cells #[Value.bool false, Value.slice AE bn1 cE] 43)) := (Below.refl _ _).alloc (Nat.le_refl _) _
    have HBE := Lib.hid hbe10
    have HO10 : Hid (OwnNV (u2.alloc (.cells #[Value.bool false, Value.slice AE bn1 cE] 43)) u2.heap.size (.slice (some ⟨u2.heap.size, 0, none⟩) 1 1) [⟨false, AE, cE, encS key n⟩]) := Lib.hid (OwnNV.made (l := [⟨false, AE, cE, encS key n⟩]) (by
      show Blk _ _ _ #[_, Value.slice AE (encS key n).length cE]
      rw [HBN1.out]
      exact Blk.new u2 43 _) rfl (Nat.le_refl _) (by simp))
    have HRL : Hid (Rd NV.cells 2 (u2.alloc (.cells #[Value.bool false, Value.slice AE bn1 cE] 43)) 0 u2.heap.size A l) := Lib.hid ((HN.out.on HBu2.out).row.below hbe10)
    have hsu : u2.heap.size ≤ (u2.alloc (.cells #[Value.bool false, Value.slice AE bn1 cE] 43)).heap.size := hbe10.size
    clear hbe10
    go_upto_region 11 with (at_builtin; (refine appNVs _ rfl _ _ rfl u2.heap.size (.slice (some ⟨u2.heap.size, 0, none⟩) 1 1) [⟨false, AE, cE, encS key n⟩] l A c 0 u2.heap.size rfl HO10.out (by rw [← HLN.out]; rfl) HRL.out (by have h := H64.out; rw [HLN.out] at h; simp only [List.length_singleton]; omega) hsu ?_); intro v6 w9 hO6 hG6; obtain ⟨D1, t1, hv6, ht1, hR1⟩ := OwnNV.form hO6; obtain ⟨m1, hm1⟩ : ∃ r, r = ([(⟨false, AE, cE, encS key n⟩ : NV)] ++ l).length := ⟨_, rfl⟩; rw [← hm1] at hv6 ht1; subst hv6; have HMM1 := Lib.hid hm1; clear hm1)
    have hbg : Below u2.heap.size u2 w9 := HBE.out.grown hG6 HBE.out.size (fun k hk => (HO10.out.block k hk).1)
    have HB9 := Lib.hid (HBu2.out.trans (hbg.mono HBu2.out.size))
    have HN19 := Lib.hid (HN18.out.on hbg)
    have HNR9 := Lib.hid (HNR.out.on hbg)
    have HG189 := Lib.hid (HG18.out.below hbg HG18.out.lt)
    have HNO : Hid (Nodes w9 0 w9.heap.size D1 ([⟨false, AE, cE, encS key n⟩] ++ l)) := Lib.hid ⟨hR1.drop_lo, fun x hx => by
      rcases List.mem_append.1 hx with h | h
      · rw [List.mem_singleton.1 h]; exact HN19.out
      · exact (HN.out.on HB9.out).by_ x h⟩
    have HT1 := Lib.hid ht1
    have hls : ([(⟨false, AE, cE, encS key n⟩ : NV)] ++ l).length ≤ 140737488351232 := by have h := H64.out; rw [HLN.out] at h; rw [List.length_append, List.length_singleton]; omega
    have HFM := Lib.hid (fun (W : World) (h : Below w9.heap.size w9 W) => delta_Find ([⟨false, AE, cE, encS key n⟩] ++ l) D1 t1 0 other W (HNO.out.on h) (by rw [← HMM1.out]; exact HT1.out) hls)
    rw [← HMM1.out] at HFM
    have HCA := Lib.hid (splits_cases (l := l) (N := ⟨false, AE, cE, encS key n⟩) (R := ⟨true, AR, cR, r.bytes⟩) (key := key) (other := other) (n := n) HEC.out.symm HFZ.out.symm (by rw [← HPE.out]; exact HLV.out.symm) (by rw [← HLN.out]; exact H64.out) rfl HES.out (by rw [← HPE.out]; exact HFT.out) rfl (by rw [← HPE.out, ← HRE.out]))
    obtain ⟨X, hX⟩ : ∃ X, X = findX l other := ⟨_, rfl⟩
    obtain ⟨Y, hY⟩ : ∃ X, X = findX ([⟨false, AE, cE, encS key n⟩] ++ l) other := ⟨_, rfl⟩
    obtain ⟨Z, hZ⟩ : ∃ X, X = findX [⟨true, AR, cR, r.bytes⟩] other := ⟨_, rfl⟩
    obtain ⟨ei, hei⟩ : ∃ X, X = findE l other := ⟨_, rfl⟩
    obtain ⟨ej, hej⟩ : ∃ X, X = findE ([⟨false, AE, cE, encS key n⟩] ++ l) other := ⟨_, rfl⟩
    obtain ⟨ek, hek⟩ : ∃ X, X = findE [⟨true, AR, cR, r.bytes⟩] other := ⟨_, rfl⟩
    have HCB : Hid ((ei = 0 ∧ ej = 0 ∧ ek = 103 ∧ Y = X) ∨ (ei = 0 ∧ ej = 103 ∧ ek = 0 ∧ Z = X) ∨ (ei = 103 ∧ ej = 103 ∧ ek = 103)) := Lib.hid (by rw [hX, hY, hZ, hei, hej, hek]; exact HCA.out)
    rw [← hX, ← hei] at HFD
    rw [← hY, ← hej] at HFM
    have HZE := Lib.hid (And.intro hZ hek)
    clear HCA hX hY hZ hei hej hek hls ht1 hR1 hO6 hG6 hbg HBE HO10 HRL hsu a0 a1 HN18 HNR HG18 HG138 HBu2
    obtain ⟨xi, hxi⟩ : ∃ x, x = X.getD Item.zero := ⟨_, rfl⟩
    obtain ⟨xs, hxs⟩ : ∃ x, x = X.isSome := ⟨_, rfl⟩
    obtain ⟨yi, hyi⟩ : ∃ x, x = Y.getD Item.zero := ⟨_, rfl⟩
    obtain ⟨ys, hys⟩ : ∃ x, x = Y.isSome := ⟨_, rfl⟩
    obtain ⟨zi, hzi⟩ : ∃ x, x = Z.getD Item.zero := ⟨_, rfl⟩
    obtain ⟨zs, hzs⟩ : ∃ x, x = Z.isSome := ⟨_, rfl⟩
    have HCC : Hid ((ei = 0 ∧ ej = 0 ∧ ek = 103 ∧ yi = xi ∧ ys = xs) ∨ (ei = 0 ∧ ej = 103 ∧ ek = 0 ∧ zi = xi ∧ zs = xs) ∨ (ei = 103 ∧ ej = 103 ∧ ek = 103)) := Lib.hid (by
      rcases HCB.out with ⟨a, b, c, d⟩ | ⟨a, b, c, d⟩ | h
      · exact .inl ⟨a, b, c, by rw [hyi, hxi, d], by rw [hys, hxs, d]⟩
      · exact .inr (.inl ⟨a, b, c, by rw [hzi, hxi, d], by rw [hzs, hxs, d]⟩)
      · exact .inr (.inr h))
    have HXI := Lib.hid hxi
    have HXS := Lib.hid hxs
    have HYI := Lib.hid hyi
    have HYS := Lib.hid hys
    have HZI := Lib.hid hzi
    have HZS := Lib.hid hzs
    clear hxi hxs hyi hys hzi hzs
    go_wp2_with fail
    refine (HFD.out w9 HB9.out).mono ?_
    rintro e w10 ⟨he, hb10⟩
    rw [← HXI.out, ← HXS.out] at he
    unfold Item.val at he
    subst he
    have hbe : Below w10.heap.size w10 (w10.alloc (.cells #[Value.string xi.key, Value.string xi.value, Value.int IntKind.i64 xi.no, Value.bool xi.gone] 39)) := (Below.refl _ _).alloc (Nat.le_refl _) _
    have hbu : Below w9.heap.size w9 (w10.alloc (.cells #[Value.string xi.key, Value.string xi.value, Value.int IntKind.i64 xi.no, Value.bool xi.gone] 39)) := hb10.trans (hbe.mono hb10.size)
    have HI21 : Hid (Blk (w10.alloc (.cells #[Value.string xi.key, Value.string xi.value, Value.int IntKind.i64 xi.no, Value.bool xi.gone] 39)) w10.heap.size 39 #[Value.string xi.key, Value.string xi.value, Value.int IntKind.i64 xi.no, Value.bool xi.gone]) := Lib.hid (Blk.new _ _ _)
    have HBu3 := Lib.hid hbu
    clear hb10 hbe hbu
    go_upto_region 12 with fail
    generalize w10.alloc (.cells #[Value.string xi.key, Value.string xi.value, Value.int IntKind.i64 xi.no, Value.bool xi.gone] 39) = u3 at *
    obtain ⟨g21, hg21⟩ : ∃ g, g = w10.heap.size := ⟨_, rfl⟩
    rw [← hg21] at HI21
    rw [← hg21]
    clear hg21
    go_wp2_with fail
    refine (HFM.out u3 HBu3.out).mono ?_
    rintro e w11 ⟨he, hb11⟩
    rw [← HYI.out, ← HYS.out] at he
    unfold Item.val at he
    subst he
    have hbe : Below w11.heap.size w11 (w11.alloc (.cells #[Value.string yi.key, Value.string yi.value, Value.int IntKind.i64 yi.no, Value.bool yi.gone] 39)) := (Below.refl _ _).alloc (Nat.le_refl _) _
    have hbu : Below u3.heap.size u3 (w11.alloc (.cells #[Value.string yi.key, Value.string yi.value, Value.int IntKind.i64 yi.no, Value.bool yi.gone] 39)) := hb11.trans (hbe.mono hb11.size)
    have HI24 : Hid (Blk (w11.alloc (.cells #[Value.string yi.key, Value.string yi.value, Value.int IntKind.i64 yi.no, Value.bool yi.gone] 39)) w11.heap.size 39 #[Value.string yi.key, Value.string yi.value, Value.int IntKind.i64 yi.no, Value.bool yi.gone]) := Lib.hid (Blk.new _ _ _)
    have HI214 := Lib.hid (HI21.out.below hbu HI21.out.lt)
    have HBu4 := Lib.hid (HBu3.out.trans (hbu.mono HBu3.out.size))
    clear hb11 hbe hbu HI21 HBu3
    go_upto_region 13 with fail
    generalize w11.alloc (.cells #[Value.string yi.key, Value.string yi.value, Value.int IntKind.i64 yi.no, Value.bool yi.gone] 39) = u4 at *
    obtain ⟨g24, hg24⟩ : ∃ g, g = w11.heap.size := ⟨_, rfl⟩
    rw [← hg24] at HI24
    rw [← hg24]
    clear hg24
    have HG184 := Lib.hid (HG189.out.below HBu4.out HG189.out.lt)
    obtain ⟨b0, b1⟩ := HG184.out.cells2'
    go_wp2_with fail
    have hbe : Below u4.heap.size u4 (u4.alloc (.cells #[Value.bool true, Value.slice AR bn2 cR] 43)) := (Below.refl _ _).alloc (Nat.le_refl _) _
    have hnb : Blk (u4.alloc (.cells #[Value.bool true, Value.slice AR bn2 cR] 43)) u4.heap.size 43 #[Value.bool true, Value.slice AR bn2 cR] := Blk.new _ _ _
    have hON : OwnNV (u4.alloc (.cells #[Value.bool true, Value.slice AR bn2 cR] 43)) u4.heap.size (.slice (some ⟨u4.heap.size, 0, none⟩) 1 1) [⟨true, AR, cR, r.bytes⟩] := OwnNV.made (l := [⟨true, AR, cR, r.bytes⟩]) (by
      show Blk _ _ _ #[_, Value.slice AR r.bytes.length cR]
      rw [HBN2.out]
      exact hnb) rfl (Nat.le_refl _) (by simp)
    obtain ⟨AX, cX, hAX, hcX, hRX⟩ := hON.form
    have hAX2 : some ⟨u4.heap.size, 0, none⟩ = AX ∧ 1 = cX := by
      simp only [List.length_singleton, Value.slice.injEq] at hAX
      exact ⟨hAX.1, hAX.2.2⟩
    obtain ⟨rfl, rfl⟩ := hAX2
    have hnod : Nodes (u4.alloc (.cells #[Value.bool true, Value.slice AR bn2 cR] 43)) 0 (u4.alloc (.cells #[Value.bool true, Value.slice AR bn2 cR] 43)).heap.size (some ⟨u4.heap.size, 0, none⟩) [⟨true, AR, cR, r.bytes⟩] := ⟨hRX.drop_lo, fun x hx => by
      rw [List.mem_singleton.1 hx]
      exact (HNR9.out.on HBu4.out).on hbe⟩
    refine (delta_Find [⟨true, AR, cR, r.bytes⟩] (some ⟨u4.heap.size, 0, none⟩) 1 0 other _ hnod (Nat.le_refl _) (Nat.le_of_ble_eq_true rfl)).mono ?_
    rintro e w12 ⟨he, hb12⟩
    rw [← HZE.out.1, ← HZE.out.2, ← HZI.out, ← HZS.out] at he
    unfold Item.val at he
    subst he
    have hbe2 : Below w12.heap.size w12 (w12.alloc (.cells #[Value.string zi.key, Value.string zi.value, Value.int IntKind.i64 zi.no, Value.bool zi.gone] 39)) := (Below.refl _ _).alloc (Nat.le_refl _) _
    have hb412 : Below u4.heap.size u4 w12 := hbe.trans (hb12.mono hbe.size)
    have hbu : Below u4.heap.size u4 (w12.alloc (.cells #[Value.string zi.key, Value.string zi.value, Value.int IntKind.i64 zi.no, Value.bool zi.gone] 39)) := hb412.trans (hbe2.mono hb412.size)
    have HI27 : Hid (Blk (w12.alloc (.cells #[Value.string zi.key, Value.string zi.value, Value.int IntKind.i64 zi.no, Value.bool zi.gone] 39)) w12.heap.size 39 #[Value.string zi.key, Value.string zi.value, Value.int IntKind.i64 zi.no, Value.bool zi.gone]) := Lib.hid (Blk.new _ _ _)
    have HI215 := Lib.hid (HI214.out.below hbu HI214.out.lt)
    have HI245 := Lib.hid (HI24.out.below hbu HI24.out.lt)
    have HBu5 := Lib.hid (HB9.out.trans ((HBu4.out.trans (hbu.mono HBu4.out.size)).mono HB9.out.size))
    clear hb12 hbe hbe2 hb412 hbu hnod hON hAX hcX hRX hnb b0 b1 HI214 HI24 HBu4 HG184
    go_upto_region 14 with fail
    generalize w12.alloc (.cells #[Value.string zi.key, Value.string zi.value, Value.int IntKind.i64 zi.no, Value.bool zi.gone] 39) = u5 at *
    obtain ⟨g27, hg27⟩ : ∃ g, g = w12.heap.size := ⟨_, rfl⟩
    rw [← hg27] at HI27
    rw [← hg27]
    clear hg27
    have heq : ∀ W, (binOp .eql 39 (.agg #[Value.string xi.key, Value.string xi.value, Value.int IntKind.i64 xi.no, Value.bool xi.gone]) (.agg #[Value.string xi.key, Value.string xi.value, Value.int IntKind.i64 xi.no, Value.bool xi.gone])).run Try.prog W = .ok (.bool true) W := fun W => by rw [eql_item, Item.same_self]
    have hxx : (xs == xs) = true := by simp
    obtain ⟨x0, x1, x2, x3⟩ := Blk.cells4' HI215.out
    rcases HCC.out with ⟨h1, h2, h3, h4, h5⟩ | ⟨h1, h2, h3, h4, h5⟩ | ⟨h1, h2, h3⟩
    · subst h1 h2 h3 h4 h5
      obtain ⟨s0, s1, s2, s3⟩ := Blk.cells4' HI245.out
      go_wp2
      go_ret
      exact ⟨rfl, HBu5.out⟩
    · subst h1 h2 h3 h4 h5
      obtain ⟨s0, s1, s2, s3⟩ := Blk.cells4' HI27.out
      go_wp2
      go_ret
      exact ⟨rfl, HBu5.out⟩
    · subst h1 h2 h3
      go_wp2
      go_ret
      exact ⟨rfl, HBu5.out⟩
end Go.Proofs.Ytjbdmaehomhdeaa
