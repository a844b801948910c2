/- the law DeltaLays: it answers true. -/
import Derived.Test.YtjbdmaehomhdeaaGreatZJ
import Derived.Test.YtjbdmaehomhdeaaGreatZO
import Derived.Test.YtjbdmaehomhdeaaGreatZV
import Derived.Test.YtjbdmaehomhdeaaGreatAw
set_option linter.unusedSimpArgs false
set_option linter.unusedVariables false
namespace Go.Proofs.YtjbdmaehomhdeaaGreat
open Go.RowKit

theorem But.below {w w1 w0 : World} {g g' B : Nat} (h : But w w1 g g') (hb : Below B w0 w) (h1 : B ≤ g) (h2 : B ≤ g') (h3 : B ≤ w.heap.size) : Below B w0 w1 :=
  ⟨h.os.trans hb.os, h.tape.trans hb.tape, h.output.trans hb.output, Nat.le_trans hb.size h.size, fun k hk => (h.block k (by omega) (by omega) (by omega)).trans (hb.block k hk)⟩
theorem But.blk {w w1 : World} {g g' k : Nat} {t : TypeId} {cs : Array Value} (h : But w w1 g g') (hk : Blk w k t cs) (h1 : k ≠ g) (h2 : k ≠ g') : Blk w1 k t cs := (h.block k hk.lt h1 h2).trans hk
theorem But.rd {α : Type} {f : α → List Value} {w w1 : World} {g g' n lo : Nat} {A : Option Addr} {l : List α} (h : But w w1 g g') (hr : Rd f n w lo w.heap.size A l) (h1 : g < lo) (h2 : g' < lo) : Rd f n w1 lo w1.heap.size A l :=
  (hr.keep fun q q1 q2 => World.cell?_of_block (h.block q.block q2 (by omega) (by omega))).mono (Nat.le_refl _) h.size
theorem Pg.ofOwn {w W : World} {lo hi b : Nat} {p : Page} {A A' : Option Addr} {c c' : Nat} {E E' : Option Addr} {e e' : Nat} (h : Pg w lo hi p A A' c c') (hI : OwnItem W b (.slice E p.items.length e) p.items) (hK : OwnKid W b (.slice E' p.kids.length e') p.kids) : Pg W b W.heap.size p E E' e e' := by
  obtain ⟨X, x, e1, l1, r1⟩ := hI.form
  obtain ⟨Y, y, e2, l2, r2⟩ := hK.form
  injection e1 with a1 a2 a3
  injection e2 with b1 b2 b3
  subst a1 a3 b1 b3
  exact ⟨r1, r2, l1, l2, h.bi, h.bk⟩
/-- the bytes that Encode lays a change down as -/
noncomputable def Delta.enc (d : Delta) : List Nat := cond d.mayB (d.bytes d.kind) []
theorem Delta.enc_small (d : Delta) : ∀ b ∈ d.enc, b < 256 := by
  unfold Delta.enc
  cases h : d.mayB with
  | true => exact Delta.bytes_small' h
  | false => intro b hb; cases hb
noncomputable def Page.enc (p : Page) : List Nat := cond p.ok p.bytes []
theorem Page.enc_small (p : Page) : ∀ b ∈ p.enc, b < 256 := by
  unfold Page.enc
  cases h : p.ok with
  | true => exact Page.bytes_small p
  | false => intro b hb; cases hb

set_option maxRecDepth 100000 in
set_option maxHeartbeats 40000000 in
theorem law_DeltaLays (d : Delta) (A1 A1' : Option Addr) (c1 c1' : Nat) (p : Page) (A2 A2' : Option Addr) (c2 c2' : Nat) (w : World) (hd : Pg w 0 w.heap.size d.right A1 A1' c1 c1') (hp : Pg w 0 w.heap.size p A2 A2' c2 c2') (hli : d.right.items.length ≤ 2932031007317) (hlk : d.right.kids.length ≤ 5864062014634) :
    Calls Tryz.prog 3 #[d.val A1 c1 A1' c1', p.val A2 c2 A2' c2'] w fun e w' => e = .returned (.bool true) ∧ Below w.heap.size w w' := by
  have HD := Lib.hid hd
  have HP := Lib.hid hp
  have HCP := Lib.hid (fun (W : World) (h : Below w.heap.size w W) => ref_Copied d.right A1 A1' c1 c1' 0 W ((hd.below h).mono (Nat.le_refl _) h.size) hli hlk)
  have HSP := Lib.hid (fun (g g' b : Nat) (W : World) (h1 : g ≠ g') (h2 : OwnItem W b (.slice (some ⟨g, 0, none⟩) d.right.items.length (d.right.items.length + 1)) d.right.items) (h3 : OwnKid W b (.slice (some ⟨g', 0, none⟩) d.right.kids.length (d.right.kids.length + 1)) d.right.kids) => ref_Spoilt d.right g g' b W h1 h2 h3 hli hlk)
  have HEN := Lib.hid (fun (E E' : Option Addr) (e e' lo : Nat) (W : World) (h : Pg W lo W.heap.size d.right E E' e e') => delta_Encode d E E' e e' lo W h)
  have HER := Lib.hid (fun (E E' : Option Addr) (e e' lo : Nat) (W : World) (h : Pg W lo W.heap.size d.right E E' e e') => ref_EncodeD d E E' e e' lo W h)
  have HSM := Lib.hid (fun (E E' F F' : Option Addr) (e e' f f' lo lo' : Nat) (W : World) (h : Pg W lo W.heap.size d.right E E' e e') (h' : Pg W lo' W.heap.size d.right F F' f f') => ref_SameD d E E' F F' e e' f f' lo lo' W h h')
  have HBA := Lib.hid (fun (W : World) (h : Below w.heap.size w W) => delta_Base p A2 A2' c2 c2' 0 W ((hp.below h).mono (Nat.le_refl _) h.size))
  have HBR := Lib.hid (fun (W : World) (h : Below w.heap.size w W) => ref_BaseN p A2 A2' c2 c2' 0 W ((hp.below h).mono (Nat.le_refl _) h.size))
  clear hd hp hli hlk
  unfold PostCp Page.val Page.raw at HCP
  unfold Page.val Page.raw at HSP HBA HBR
  unfold Delta.val at HEN HER HSM
  unfold Delta.val Page.val Page.raw
  obtain ⟨ni, hni⟩ : ∃ n, n = d.right.items.length := ⟨_, rfl⟩
  obtain ⟨nk, hnk⟩ : ∃ n, n = d.right.kids.length := ⟨_, rfl⟩
  obtain ⟨mi, hmi⟩ : ∃ n, n = p.items.length := ⟨_, rfl⟩
  obtain ⟨mk, hmk⟩ : ∃ n, n = p.kids.length := ⟨_, rfl⟩
  rw [← hni, ← hnk, ← hmi, ← hmk]
  rw [← hni, ← hnk] at HCP HSP HEN HER HSM
  rw [← hmi, ← hmk] at HBA HBR
  have HNI := Lib.hid hni
  have HNK := Lib.hid hnk
  clear hni hnk hmi hmk
  rw [show cond d.mayB (d.bytes d.kind) [] = d.enc from rfl] at HEN HER
  rw [show cond p.ok p.bytes [] = p.enc from rfl] at HBA HBR
  obtain ⟨bs, hbs⟩ : ∃ l, l = d.enc := ⟨_, rfl⟩
  obtain ⟨ps, hps⟩ : ∃ l, l = p.enc := ⟨_, rfl⟩
  obtain ⟨en, hen⟩ : ∃ n : Int, n = cond d.mayB 0 110 := ⟨_, rfl⟩
  obtain ⟨ec, hec⟩ : ∃ n : Int, n = p.check := ⟨_, rfl⟩
  obtain ⟨pk, hpk⟩ : ∃ n, n = p.ok := ⟨_, rfl⟩
  rw [← hbs, ← hen] at HEN HER
  rw [← hps, ← hec, ← hpk] at HBA HBR
  have HSB : Hid (∀ b ∈ bs, b < 256) := Lib.hid (by rw [hbs]; exact Delta.enc_small d)
  have HSP2 : Hid (∀ b ∈ ps, b < 256) := Lib.hid (by rw [hps]; exact Page.enc_small p)
  clear hbs hps hen hec hpk
  obtain ⟨bn, hbn⟩ : ∃ n, bs.length = n := ⟨_, rfl⟩
  obtain ⟨pn, hpn⟩ : ∃ n, ps.length = n := ⟨_, rfl⟩
  have HBN := Lib.hid hbn
  have HPN := Lib.hid hpn
  clear hbn hpn
  have hF := Fr.two w 29 27 #[Value.int IntKind.i64 d.kind, Value.string d.item.key, Value.string d.item.value, Value.int IntKind.i64 d.item.no, Value.bool d.item.gone, Value.string d.key, Value.int IntKind.i64 d.page, Value.int IntKind.i64 d.right.level, Value.string d.right.low, Value.string d.right.high, Value.bool d.right.last, Value.int IntKind.i64 d.right.side, Value.slice A1 ni c1, Value.slice A1' nk c1'] #[Value.int IntKind.i64 p.level, Value.string p.low, Value.string p.high, Value.bool p.last, Value.int IntKind.i64 p.side, Value.slice A2 mi c2, Value.slice A2' mk c2']
  go_enter Tryz.func3, Tryz.ntmps3
  go_upto_region 1 with (fail)
  generalize (w.alloc (.cells #[Value.int IntKind.i64 d.kind, Value.string d.item.key, Value.string d.item.value, Value.int IntKind.i64 d.item.no, Value.bool d.item.gone, Value.string d.key, Value.int IntKind.i64 d.page, Value.int IntKind.i64 d.right.level, Value.string d.right.low, Value.string d.right.high, Value.bool d.right.last, Value.int IntKind.i64 d.right.side, Value.slice A1 ni c1, Value.slice A1' nk c1'] 29)).alloc (.cells #[Value.int IntKind.i64 p.level, Value.string p.low, Value.string p.high, Value.bool p.last, Value.int IntKind.i64 p.side, Value.slice A2 mi c2, Value.slice A2' mk c2'] 27) = w0 at *
  have HF0 := Lib.hid hF
  clear hF
  go_wp2_with fail
  refine (awake11 w0).mono ?_
  rintro e w1 ⟨rfl, hb⟩
  have HF1 := Lib.hid (HF0.out.on hb)
  clear hb
  go_upto_region 3 with (refine wpList_load_row rfl 29 _ rfl (w.heap.size) rfl 29 _ (0, 0) _ HF1.out.b0 Tryz.underlying29 rfl (by kernel_rfl) ?_)
  have hb : Below w1.heap.size w1 (w1.alloc (.cells #[Value.int IntKind.i64 d.kind, Value.string d.item.key, Value.string d.item.value, Value.int IntKind.i64 d.item.no, Value.bool d.item.gone, Value.string d.key, Value.int IntKind.i64 d.page, Value.int IntKind.i64 d.right.level, Value.string d.right.low, Value.string d.right.high, Value.bool d.right.last, Value.int IntKind.i64 d.right.side, Value.slice A1 ni c1, Value.slice A1' nk c1'] 29)) := (Below.refl _ _).alloc (Nat.le_refl _) _
  have hk : Blk (w1.alloc (.cells #[Value.int IntKind.i64 d.kind, Value.string d.item.key, Value.string d.item.value, Value.int IntKind.i64 d.item.no, Value.bool d.item.gone, Value.string d.key, Value.int IntKind.i64 d.page, Value.int IntKind.i64 d.right.level, Value.string d.right.low, Value.string d.right.high, Value.bool d.right.last, Value.int IntKind.i64 d.right.side, Value.slice A1 ni c1, Value.slice A1' nk c1'] 29)) w1.heap.size 29 #[Value.int IntKind.i64 d.kind, Value.string d.item.key, Value.string d.item.value, Value.int IntKind.i64 d.item.no, Value.bool d.item.gone, Value.string d.key, Value.int IntKind.i64 d.page, Value.int IntKind.i64 d.right.level, Value.string d.right.low, Value.string d.right.high, Value.bool d.right.last, Value.int IntKind.i64 d.right.side, Value.slice A1 ni c1, Value.slice A1' nk c1'] := Blk.new _ _ _
  generalize w1.alloc (.cells #[Value.int IntKind.i64 d.kind, Value.string d.item.key, Value.string d.item.value, Value.int IntKind.i64 d.item.no, Value.bool d.item.gone, Value.string d.key, Value.int IntKind.i64 d.page, Value.int IntKind.i64 d.right.level, Value.string d.right.low, Value.string d.right.high, Value.bool d.right.last, Value.int IntKind.i64 d.right.side, Value.slice A1 ni c1, Value.slice A1' nk c1'] 29) = w2 at *
  obtain ⟨g6, hg⟩ : ∃ x, x = w1.heap.size := ⟨_, rfl⟩
  rw [← hg] at hk
  rw [← hg]
  have K62 := Lib.hid hk
  have hz : g6 < w2.heap.size := hk.lt
  have HF2 := Lib.hid (HF1.out.on hb)
  have HG6 := Lib.hid hg
  clear hb hk hg hz
  have hz2 : w.heap.size + 2 ≤ g6 := by rw [HG6.out]; exact HF1.out.sz
  obtain ⟨a0, a1, a2, a3, a4, a5, a6, a7, a8, a9, a10, a11, a12, a13⟩ := Blk.cells14 HF2.out.b0
  go_wp2_with fail
  refine (HCP.out w2 HF2.out.be).mono ?_
  rintro e w3 ⟨g, g', rfl, hgg, hOI, hOK, hb⟩
  have OI3 := Lib.hid hOI
  have OK3 := Lib.hid hOK
  have hgb : w2.heap.size ≤ g ∧ g < w3.heap.size := hOI.block g rfl
  have hgb' : w2.heap.size ≤ g' ∧ g' < w3.heap.size := hOK.block g' rfl
  have h6 : g6 < w2.heap.size := K62.out.lt
  have HF3 := Lib.hid (HF2.out.on hb)
  have K63 := Lib.hid (K62.out.below hb K62.out.lt)
  clear hb hOI hOK a0 a1 a2 a3 a4 a5 a6 a7 a8 a9 a10 a11 a12 a13
  go_upto_region 4 with (refine wpList_store_part rfl 27 _ _ rfl rfl g6 7 rfl 29 [Value.int IntKind.i64 d.right.level, Value.string d.right.low, Value.string d.right.high, Value.bool d.right.last, Value.int IntKind.i64 d.right.side, Value.slice (some ⟨g, 0, none⟩) ni (ni + 1), Value.slice (some ⟨g', 0, none⟩) nk (nk + 1)] #[Value.int IntKind.i64 d.kind, Value.string d.item.key, Value.string d.item.value, Value.int IntKind.i64 d.item.no, Value.bool d.item.gone, Value.string d.key, Value.int IntKind.i64 d.page, Value.int IntKind.i64 d.right.level, Value.string d.right.low, Value.string d.right.high, Value.bool d.right.last, Value.int IntKind.i64 d.right.side, Value.slice A1 ni c1, Value.slice A1' nk c1'] rfl K63.out (show 14 ≤ 14 by omega) (by kernel_rfl) (List.all_eq_true.1 rfl) ?_; rintro w4 hT hB; have K64 : Hid (Blk w4 g6 29 #[Value.int IntKind.i64 d.kind, Value.string d.item.key, Value.string d.item.value, Value.int IntKind.i64 d.item.no, Value.bool d.item.gone, Value.string d.key, Value.int IntKind.i64 d.page, Value.int IntKind.i64 d.right.level, Value.string d.right.low, Value.string d.right.high, Value.bool d.right.last, Value.int IntKind.i64 d.right.side, Value.slice (some ⟨g, 0, none⟩) ni (ni + 1), Value.slice (some ⟨g', 0, none⟩) nk (nk + 1)]) := Lib.hid hB; have HT := Lib.hid hT; clear hT hB)
  have hb4 : Below g6 w3 w4 := HT.out.below (Below.refl g6 w3) (Nat.le_refl _) (by omega)
  have HF4 := Lib.hid (HF3.out.on' (B := g6) hb4 hz2 (by omega))
  have OI4 := Lib.hid (OI3.out.turned HT.out h6)
  have OK4 := Lib.hid (OK3.out.turned HT.out h6)
  have hs4 : w3.heap.size = w4.heap.size := by rw [HT.out.sz]
  clear hb4 HT
  rw [hs4] at hgb hgb'
  have PI4 := Lib.hid (Pg.ofOwn HD.out (by rw [← HNI.out]; exact OI4.out) (by rw [← HNK.out]; exact OK4.out))
  go_wp2_with (refine wpList_load_row rfl 29 _ rfl (g6) rfl 29 _ (0, 0) _ K64.out Tryz.underlying29 rfl (by kernel_rfl) ?_)
  refine (HEN.out _ _ _ _ _ w4 PI4.out).mono ?_
  rintro e w5 ⟨v5, rfl, hO, hb⟩
  obtain ⟨A5, c5, rfl, _, hR, _⟩ := OwnB.form hO HBN.out
  have RA5 := Lib.hid hR
  have OI5 := Lib.hid (OI4.out.on hb)
  have OK5 := Lib.hid (OK4.out.on hb)
  have HF5 := Lib.hid (HF4.out.on hb)
  have K65 := Lib.hid (K64.out.below hb K64.out.lt)
  have hs45 := hb.size
  clear hb hO hR
  go_upto_region 5 with (fail)
  have hb : Below w5.heap.size w5 (w5.alloc (.cells #[Value.bool false, Value.slice A5 bn c5] 34)) := (Below.refl _ _).alloc (Nat.le_refl _) _
  have hk : Blk (w5.alloc (.cells #[Value.bool false, Value.slice A5 bn c5] 34)) w5.heap.size 34 #[Value.bool false, Value.slice A5 bn c5] := Blk.new _ _ _
  generalize w5.alloc (.cells #[Value.bool false, Value.slice A5 bn c5] 34) = w6 at *
  obtain ⟨g7, hg⟩ : ∃ x, x = w5.heap.size := ⟨_, rfl⟩
  rw [← hg] at hk
  rw [← hg]
  have K76 := Lib.hid hk
  have hz : g7 < w6.heap.size := hk.lt
  have HF6 := Lib.hid (HF5.out.on hb)
  have K66 := Lib.hid (K65.out.below hb K65.out.lt)
  have RA6 := Lib.hid ((RA5.out.below hb).mono (Nat.le_refl _) hb.size)
  have HG7 := Lib.hid hg
  have HB56 := Lib.hid hb
  clear hb hk hg hz
  have OI6 := Lib.hid (OI5.out.on (HB56.out))
  have OK6 := Lib.hid (OK5.out.on (HB56.out))
  have PI6 := Lib.hid (Pg.ofOwn HD.out (by rw [← HNI.out]; exact OI6.out) (by rw [← HNK.out]; exact OK6.out))
  have HSA := Lib.hid (HSM.out _ _ _ _ _ _ _ _ _ _ w6 PI6.out ((HD.out.below HF6.out.be).mono (Nat.le_refl _) HF6.out.be.size))
  go_wp2_with (first
    | (refine wpList_load_row rfl 29 _ rfl (g6) rfl 29 _ (0, 0) _ K66.out Tryz.underlying29 rfl (by kernel_rfl) ?_)
    | (refine wpList_load_row rfl 29 _ rfl (w.heap.size) rfl 29 _ (0, 0) _ HF6.out.b0 Tryz.underlying29 rfl (by kernel_rfl) ?_))
  refine HSA.out.mono ?_
  rintro e w7 ⟨rfl, hb⟩
  have OI7 := Lib.hid (OI6.out.on hb)
  have OK7 := Lib.hid (OK6.out.on hb)
  have HF7 := Lib.hid (HF6.out.on hb)
  have K67 := Lib.hid (K66.out.below hb K66.out.lt)
  have K77 := Lib.hid (K76.out.below hb K76.out.lt)
  have RA7 := Lib.hid ((RA6.out.below hb).mono (Nat.le_refl _) hb.size)
  clear hb HSA PI6 PI4
  obtain ⟨a0, a1, a2, a3, a4, a5, a6, a7, a8, a9, a10, a11, a12, a13⟩ := Blk.cells14 K67.out
  have HSQ := Lib.hid (HSP.out g g' _ w7 hgg OI7.out OK7.out)
  go_wp2_with fail
  refine HSQ.out.mono ?_
  rintro e w8 ⟨rfl, hBt⟩
  have h5 : w4.heap.size ≤ g7 := by rw [HG7.out]; omega
  have h7 : g7 < w7.heap.size := K77.out.lt
  have hb8 : Below (w.heap.size + 2) w7 w8 := hBt.below (Below.refl _ _) (by omega) (by omega) (by omega)
  have HF8 := Lib.hid (HF7.out.on' (B := w.heap.size + 2) hb8 (Nat.le_refl _) (by omega))
  have K78 := Lib.hid (hBt.blk K77.out (by omega) (by omega))
  have RA8 := Lib.hid (hBt.rd RA7.out (by omega) (by omega))
  clear hb8 hBt HSQ OI7 OK7 a0 a1 a2 a3 a4 a5 a6 a7 a8 a9 a10 a11 a12 a13
  go_wp2_with (refine wpList_load_row rfl 29 _ rfl (w.heap.size) rfl 29 _ (0, 0) _ HF8.out.b0 Tryz.underlying29 rfl (by kernel_rfl) ?_)
  refine (HER.out _ _ _ _ _ w8 ((HD.out.below HF8.out.be).mono (Nat.le_refl _) HF8.out.be.size)).mono ?_
  rintro e w9 ⟨v9, rfl, hO, hb⟩
  obtain ⟨A9, c9, rfl, _, hR, _⟩ := OwnB.form hO HBN.out
  have RB9 := Lib.hid hR
  have HF9 := Lib.hid (HF8.out.on hb)
  have K79 := Lib.hid (K78.out.below hb K78.out.lt)
  have RA9 := Lib.hid ((RA8.out.below hb).mono (Nat.le_refl _) hb.size)
  clear hb hO hR
  go_upto_region 8 with (fail)
  have hb : Below w9.heap.size w9 (w9.alloc (.cells #[Value.bool false, Value.slice A9 bn c9] 34)) := (Below.refl _ _).alloc (Nat.le_refl _) _
  have hk : Blk (w9.alloc (.cells #[Value.bool false, Value.slice A9 bn c9] 34)) w9.heap.size 34 #[Value.bool false, Value.slice A9 bn c9] := Blk.new _ _ _
  generalize w9.alloc (.cells #[Value.bool false, Value.slice A9 bn c9] 34) = w10 at *
  obtain ⟨g10, hg⟩ : ∃ x, x = w9.heap.size := ⟨_, rfl⟩
  rw [← hg] at hk
  rw [← hg]
  have K1010 := Lib.hid hk
  have hz : g10 < w10.heap.size := hk.lt
  have HF10 := Lib.hid (HF9.out.on hb)
  have K710 := Lib.hid (K79.out.below hb K79.out.lt)
  have RA10 := Lib.hid ((RA9.out.below hb).mono (Nat.le_refl _) hb.size)
  have RB10 := Lib.hid ((RB9.out.below hb).mono (Nat.le_refl _) hb.size)
  have HG10 := Lib.hid hg
  clear hb hk hg hz
  have HSN := Lib.hid (ref_SameN false bs bn HBN.out A5 A9 c5 c9 _ _ _ _ w10 RA10.out (Nat.le_refl _) RB10.out (Nat.le_refl _) HSB.out)
  go_wp2_with (first
    | (refine wpList_load_row rfl 34 _ rfl (g7) rfl 34 _ (0, 0) _ K710.out Tryz.underlying34 rfl (by kernel_rfl) ?_)
    | (refine wpList_load_row rfl 34 _ rfl (g10) rfl 34 _ (0, 0) _ K1010.out Tryz.underlying34 rfl (by kernel_rfl) ?_))
  refine HSN.out.mono ?_
  rintro e w11 ⟨rfl, hb⟩
  have HF11 := Lib.hid (HF10.out.on hb)
  clear hb HSN
  go_wp2_with (refine wpList_load_row rfl 27 _ rfl (w.heap.size + 1) rfl 27 _ (0, 0) _ HF11.out.b1 Tryz.underlying27 rfl (by kernel_rfl) ?_)
  refine (HBA.out w11 HF11.out.be).mono ?_
  rintro e w12 ⟨v12, rfl, hO, hb⟩
  obtain ⟨A12, c12, rfl, _, hR, _⟩ := OwnB.form hO HPN.out
  have RC12 := Lib.hid hR
  have HF12 := Lib.hid (HF11.out.on hb)
  clear hb hO hR
  go_upto_region 10 with (fail)
  have hb : Below w12.heap.size w12 (w12.alloc (.cells #[Value.bool pk, Value.slice A12 pn c12] 34)) := (Below.refl _ _).alloc (Nat.le_refl _) _
  have hk : Blk (w12.alloc (.cells #[Value.bool pk, Value.slice A12 pn c12] 34)) w12.heap.size 34 #[Value.bool pk, Value.slice A12 pn c12] := Blk.new _ _ _
  generalize w12.alloc (.cells #[Value.bool pk, Value.slice A12 pn c12] 34) = w13 at *
  obtain ⟨g13, hg⟩ : ∃ x, x = w12.heap.size := ⟨_, rfl⟩
  rw [← hg] at hk
  rw [← hg]
  have K1313 := Lib.hid hk
  have hz : g13 < w13.heap.size := hk.lt
  have HF13 := Lib.hid (HF12.out.on hb)
  have RC13 := Lib.hid ((RC12.out.below hb).mono (Nat.le_refl _) hb.size)
  have HG13 := Lib.hid hg
  clear hb hk hg hz
  go_wp2_with (refine wpList_load_row rfl 27 _ rfl (w.heap.size + 1) rfl 27 _ (0, 0) _ HF13.out.b1 Tryz.underlying27 rfl (by kernel_rfl) ?_)
  refine (HBR.out w13 HF13.out.be).mono ?_
  rintro e w14 ⟨v14, rfl, hO, hb⟩
  obtain ⟨A14, c14, rfl, _, hR, _⟩ := OwnB.form hO HPN.out
  have RD14 := Lib.hid hR
  have HF14 := Lib.hid (HF13.out.on hb)
  have K1314 := Lib.hid (K1313.out.below hb K1313.out.lt)
  have RC14 := Lib.hid ((RC13.out.below hb).mono (Nat.le_refl _) hb.size)
  clear hb hO hR
  go_upto_region 11 with (fail)
  have hb : Below w14.heap.size w14 (w14.alloc (.cells #[Value.bool pk, Value.slice A14 pn c14] 34)) := (Below.refl _ _).alloc (Nat.le_refl _) _
  have hk : Blk (w14.alloc (.cells #[Value.bool pk, Value.slice A14 pn c14] 34)) w14.heap.size 34 #[Value.bool pk, Value.slice A14 pn c14] := Blk.new _ _ _
  generalize w14.alloc (.cells #[Value.bool pk, Value.slice A14 pn c14] 34) = w15 at *
  obtain ⟨g15, hg⟩ : ∃ x, x = w14.heap.size := ⟨_, rfl⟩
  rw [← hg] at hk
  rw [← hg]
  have K1515 := Lib.hid hk
  have hz : g15 < w15.heap.size := hk.lt
  have HF15 := Lib.hid (HF14.out.on hb)
  have K1315 := Lib.hid (K1314.out.below hb K1314.out.lt)
  have RC15 := Lib.hid ((RC14.out.below hb).mono (Nat.le_refl _) hb.size)
  have RD15 := Lib.hid ((RD14.out.below hb).mono (Nat.le_refl _) hb.size)
  have HG15 := Lib.hid hg
  clear hb hk hg hz
  have HSN := Lib.hid (ref_SameN pk ps pn HPN.out A12 A14 c12 c14 _ _ _ _ w15 RC15.out (Nat.le_refl _) RD15.out (Nat.le_refl _) HSP2.out)
  go_wp2_with (first
    | (refine wpList_load_row rfl 34 _ rfl (g13) rfl 34 _ (0, 0) _ K1315.out Tryz.underlying34 rfl (by kernel_rfl) ?_)
    | (refine wpList_load_row rfl 34 _ rfl (g15) rfl 34 _ (0, 0) _ K1515.out Tryz.underlying34 rfl (by kernel_rfl) ?_))
  refine HSN.out.mono ?_
  rintro e w16 ⟨rfl, hb⟩
  have HF16 := Lib.hid (HF15.out.on hb)
  clear hb HSN
  have hee : (en == en) = true := by simp
  have hcc : (ec == ec) = true := by simp
  go_wp2
  go_ret
  exact ⟨rfl, HF16.out.be⟩
end Go.Proofs.YtjbdmaehomhdeaaGreat
