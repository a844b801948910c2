/- the law DeltaLinks: what it answers. -/
import Derived.Test.YtjbdmaehomhdeaaAw
import Derived.Test.YtjbdmaehomhdeaaH1
import Derived.Test.YtjbdmaehomhdeaaZL
namespace Go.Proofs.Ytjbdmaehomhdeaa
open Go.RowKit

def lk1 (key : ByteArray) (tt : Int) : Delta := ⟨3, Item.zero, key, tt, Page.zero⟩
def lk2 (key : ByteArray) : Delta := ⟨4, Item.zero, key, 0, Page.zero⟩
def oldB (l : List Kid) (key : ByteArray) : Bool := l.any (fun x => same x.key key)
noncomputable def linksB (p : Page) (key : ByteArray) (tt : Int) : Bool :=
  if (lk1 key tt).applyE p = 0 then
    cond (same key p.low) ((((lk1 key tt).applyP p).downV key == tt) && ((((lk1 key tt).applyP p).downE key == 0) && ((lk2 key).applyE ((lk1 key tt).applyP p) == 103)))
      ((((lk1 key tt).applyP p).downV key == tt) && ((((lk1 key tt).applyP p).downE key == 0) && (((lk2 key).applyE ((lk1 key tt).applyP p) == 0) && (oldB p.kids key || ((lk2 key).applyP ((lk1 key tt).applyP p)).same p))))
  else ((lk1 key tt).applyP p).same Page.zero

set_option maxRecDepth 100000 in
set_option maxHeartbeats 20000000 in
theorem law_DeltaLinks (p : Page) (A A' : Option Addr) (c c' lo : Nat) (key : ByteArray) (tt : Int) (w : World) (hp : Pg w lo w.heap.size p A A' c c') :
    Calls Try.prog 7 #[p.val A c A' c', .string key, .int .i64 tt] w fun e w' => e = .returned (.bool (linksB p key tt)) ∧ Below w.heap.size w w' := by
  have HAP := Lib.hid (fun (W : World) (h : Below w.heap.size w W) => delta_Apply p (lk1 key tt) A A' none none c c' 0 0 lo 0 W ((hp.below h).mono (Nat.le_refl _) h.size) (Pg.none _ _ _ _ rfl rfl))
  have H1 := Lib.hid hp
  clear hp
  unfold Page.val Page.raw at HAP
  unfold Page.val Page.raw
  obtain ⟨ni, hni⟩ : ∃ n, n = p.items.length := ⟨_, rfl⟩
  obtain ⟨nk, hnk⟩ : ∃ n, n = p.kids.length := ⟨_, rfl⟩
  obtain ⟨lv, hlv⟩ : ∃ n, n = p.level := ⟨_, rfl⟩
  rw [← hni, ← hnk, ← hlv]
  rw [← hni, ← hnk, ← hlv] at HAP
  have HNI := Lib.hid hni
  have HNK := Lib.hid hnk
  have HLV := Lib.hid hlv
  clear hni hnk hlv
  have hF := Fr.one w 27 #[Value.int IntKind.i64 lv, Value.string p.low, Value.string p.high, Value.bool p.last, Value.int IntKind.i64 p.side, Value.slice A ni c, Value.slice A' nk c']
  go_enter Try.func7, Try.ntmps7
  go_upto_region 1 with (fail)
  generalize w.alloc (.cells #[Value.int IntKind.i64 lv, Value.string p.low, Value.string p.high, Value.bool p.last, Value.int IntKind.i64 p.side, Value.slice A ni c, Value.slice A' nk c'] 27) = w0 at *
  have HF0 := Lib.hid hF
  clear hF
  go_wp2_with fail
  refine (awake11 w0).mono ?_
  rintro e w1 ⟨rfl, hb1⟩
  have HF1 := Lib.hid (HF0.out.on hb1)
  clear hb1
  obtain ⟨z0, z1, z2, z3, z4, z5, z6⟩ := Blk.cells7 HF1.out.b0
  go_wp2_with fail
  refine (HAP.out w1 HF1.out.be).mono ?_
  rintro e w2 ⟨B, B', b, b', rfl, hQ, hb2⟩
  obtain ⟨q, hq⟩ : ∃ q, q = (lk1 key tt).applyP p := ⟨_, rfl⟩
  obtain ⟨ea, hea⟩ : ∃ n, n = (lk1 key tt).applyE p := ⟨_, rfl⟩
  rw [← hq] at hQ
  rw [← hq, ← hea]
  have HLB : Hid (linksB p key tt = if ea = 0 then cond (same key p.low) ((q.downV key == tt) && ((q.downE key == 0) && ((lk2 key).applyE q == 103))) ((q.downV key == tt) && ((q.downE key == 0) && (((lk2 key).applyE q == 0) && (oldB p.kids key || ((lk2 key).applyP q).same p)))) else q.same Page.zero) := Lib.hid (by unfold linksB; rw [← hea, ← hq])
  clear hq hea
  have HF2 := Lib.hid (HF1.out.on hb2)
  have hs1 := HF1.out.sz
  simp only [List.length_cons, List.length_nil] at hs1
  have hs2 : w1.heap.size ≤ w2.heap.size := hb2.size
  have HPQ := Lib.hid hQ
  clear hQ hb2 z0 z1 z2 z3 z4 z5 z6
  have HSM := Lib.hid (fun (W : World) (h : Pg W w1.heap.size W.heap.size q B B' b b') => ref_Same q Page.zero B B' none none b b' 0 0 w1.heap.size 0 W h (Pg.none _ _ _ _ rfl rfl))
  have HDN := Lib.hid (fun (W : World) (h : Pg W w1.heap.size W.heap.size q B B' b b') => ref_Down q B B' b b' w1.heap.size key W h)
  have HA2 := Lib.hid (fun (W : World) (h : Pg W w1.heap.size W.heap.size q B B' b b') => delta_Apply q (lk2 key) B B' none none b b' 0 0 w1.heap.size 0 W h (Pg.none _ _ _ _ rfl rfl))
  unfold Page.val Page.raw at HSM HDN HA2
  unfold Page.val Page.raw
  obtain ⟨qi, hqi⟩ : ∃ n, n = q.items.length := ⟨_, rfl⟩
  obtain ⟨qk, hqk⟩ : ∃ n, n = q.kids.length := ⟨_, rfl⟩
  rw [← hqi, ← hqk]
  rw [← hqi, ← hqk] at HSM HDN HA2
  clear hqi hqk
  have HZ8 : Hid (Blk (w2.alloc (.cells #[Value.int IntKind.i64 0, Value.string { data := #[] }, Value.string { data := #[] }, Value.bool false, Value.int IntKind.i64 0, Value.slice none 0 0, Value.slice none 0 0] 27)) w2.heap.size 27 #[Value.int IntKind.i64 0, Value.string { data := #[] }, Value.string { data := #[] }, Value.bool false, Value.int IntKind.i64 0, Value.slice none 0 0, Value.slice none 0 0]) := Lib.hid (Blk.new _ _ _)
  have HAR : Hid (∀ w3, Turned (w2.alloc (.cells #[Value.int IntKind.i64 0, Value.string { data := #[] }, Value.string { data := #[] }, Value.bool false, Value.int IntKind.i64 0, Value.slice none 0 0, Value.slice none 0 0] 27)) w3 w2.heap.size → Fr w w3 [(27, #[Value.int IntKind.i64 lv, Value.string p.low, Value.string p.high, Value.bool p.last, Value.int IntKind.i64 p.side, Value.slice A ni c, Value.slice A' nk c'])] ∧ Pg w3 w1.heap.size w3.heap.size q B B' b b' ∧ w3.heap.size = w2.heap.size + 1) := Lib.hid fun w3 hT => by
    have hsz : (w2.alloc (.cells #[Value.int IntKind.i64 0, Value.string { data := #[] }, Value.string { data := #[] }, Value.bool false, Value.int IntKind.i64 0, Value.slice none 0 0, Value.slice none 0 0] 27)).heap.size = w2.heap.size + 1 := by simp
    have hB : Below w2.heap.size w2 w3 := hT.below ((Below.refl _ _).alloc (Nat.le_refl _) _) (Nat.le_refl _) (by rw [hsz]; omega)
    exact ⟨HF2.out.on hB, (HPQ.out.below hB).mono (Nat.le_refl _) hB.size, by rw [hT.sz, hsz]⟩
  by_cases he : ea = 0
  · subst he
    go_upto_region 5 with (refine wpList_store_row rfl 27 _ _ rfl rfl (w2.heap.size) rfl _ _ _ rfl HZ8.out rfl (by kernel_rfl) (List.all_eq_true.1 rfl) ?_; rintro w3 hT3 hB3)
    obtain ⟨hF3, hP3, hs3⟩ := HAR.out w3 hT3
    have HF3 := Lib.hid hF3
    have HP3 := Lib.hid hP3
    have HB8 := Lib.hid hB3
    clear hF3 hP3 hT3 hB3 HZ8 HAR
    obtain ⟨g8, hg8⟩ : ∃ g, g = w2.heap.size := ⟨_, rfl⟩
    rw [← hg8] at HB8 hs3
    rw [← hg8]
    have hg81 : w.heap.size + 1 ≤ g8 := by omega
    clear hg8
    obtain ⟨y0, y1, y2, y3, y4, y5, y6⟩ := Blk.cells7 HB8.out
    go_wp2_with fail
    refine (HDN.out w3 HP3.out).mono ?_
    rintro e w4 ⟨rfl, hb4⟩
    have HF4 := Lib.hid (HF3.out.on hb4)
    have HB84 := Lib.hid (HB8.out.below hb4 HB8.out.lt)
    have HP4 := Lib.hid ((HP3.out.below hb4).mono (Nat.le_refl _) hb4.size)
    have hs4 : w3.heap.size ≤ w4.heap.size := hb4.size
    clear hb4 y0 y1 y2 y3 y4 y5 y6
    obtain ⟨y0, y1, y2, y3, y4, y5, y6⟩ := Blk.cells7 HB84.out
    go_wp2_with fail
    refine (HA2.out w4 HP4.out).mono ?_
    rintro e w5 ⟨D, D', d, d', rfl, hR, hb5⟩
    obtain ⟨r, hr⟩ : ∃ r, r = (lk2 key).applyP q := ⟨_, rfl⟩
    obtain ⟨e2, he2⟩ : ∃ n, n = (lk2 key).applyE q := ⟨_, rfl⟩
    obtain ⟨dv, hdv⟩ : ∃ n, n = q.downV key := ⟨_, rfl⟩
    obtain ⟨de, hde⟩ : ∃ n, n = q.downE key := ⟨_, rfl⟩
    rw [← hr] at hR
    rw [← hr, ← he2, ← hdv, ← hde]
    have HLC : Hid (linksB p key tt = cond (same key p.low) ((dv == tt) && ((de == 0) && (e2 == 103))) ((dv == tt) && ((de == 0) && ((e2 == 0) && (oldB p.kids key || r.same p))))) := Lib.hid (by rw [HLB.out, if_pos (by trivial), ← hr, ← he2, ← hdv, ← hde])
    clear he2 hdv hde
    have HF5 := Lib.hid (HF4.out.on hb5)
    have HR5 := Lib.hid hR
    have hs5 : w4.heap.size ≤ w5.heap.size := hb5.size
    clear hr hR hb5 y0 y1 y2 y3 y4 y5 y6
    have HSR := Lib.hid (fun (W : World) (h : Pg W w4.heap.size W.heap.size r D D' d d') (h2 : Below w.heap.size w W) => ref_Same r p D D' A A' d d' c c' w4.heap.size lo W h ((H1.out.below h2).mono (Nat.le_refl _) h2.size))
    unfold Page.val Page.raw at HSR
    unfold Page.val Page.raw
    obtain ⟨qr, hqr⟩ : ∃ n, n = r.items.length := ⟨_, rfl⟩
    obtain ⟨qs, hqs⟩ : ∃ n, n = r.kids.length := ⟨_, rfl⟩
    rw [← hqr, ← hqs]
    rw [← hqr, ← hqs, ← HNI.out, ← HNK.out, ← HLV.out] at HSR
    clear hqr hqs
    have HZ12 : Hid (Blk (w5.alloc (.cells #[Value.int IntKind.i64 0, Value.string { data := #[] }, Value.string { data := #[] }, Value.bool false, Value.int IntKind.i64 0, Value.slice none 0 0, Value.slice none 0 0] 27)) w5.heap.size 27 #[Value.int IntKind.i64 0, Value.string { data := #[] }, Value.string { data := #[] }, Value.bool false, Value.int IntKind.i64 0, Value.slice none 0 0, Value.slice none 0 0]) := Lib.hid (Blk.new _ _ _)
    have hsz6 : (w5.alloc (.cells #[Value.int IntKind.i64 0, Value.string { data := #[] }, Value.string { data := #[] }, Value.bool false, Value.int IntKind.i64 0, Value.slice none 0 0, Value.slice none 0 0] 27)).heap.size = w5.heap.size + 1 := by simp
    go_upto_region 7 with (refine wpList_store_row rfl 27 _ _ rfl rfl (w5.heap.size) rfl _ _ _ rfl HZ12.out rfl (by kernel_rfl) (List.all_eq_true.1 rfl) ?_; rintro w6 hT6 hB6)
    have hbb : Below w5.heap.size w5 w6 := hT6.below ((Below.refl _ _).alloc (Nat.le_refl _) _) (Nat.le_refl _) (by rw [hsz6]; omega)
    have HF6 := Lib.hid (HF5.out.on hbb)
    have HR6 := Lib.hid ((HR5.out.below hbb).mono (Nat.le_refl _) hbb.size)
    have HB12 := Lib.hid hB6
    clear hT6 hB6 hbb HZ12 hsz6
    obtain ⟨g12, hg12⟩ : ∃ g, g = w5.heap.size := ⟨_, rfl⟩
    rw [← hg12] at HB12
    rw [← hg12]
    clear hg12
    obtain ⟨z0, z1, z2, z3, z4, z5, z6⟩ := Blk.cells7 HF6.out.b0
    cases hsk : (key.toList == p.low.toList) with
    | true =>
      have HSK : Hid (same key p.low = true) := Lib.hid hsk
      cases hb1 : (dv == tt) with
      | false =>
        have HX : Hid (linksB p key tt = false) := Lib.hid (by rw [HLC.out, HSK.out, hb1]; rfl)
        go_wp2
        go_ret
        exact ⟨by rw [HX.out]; rfl, HF6.out.be⟩
      | true =>
        cases hb2 : (de == 0) with
        | false =>
          have HX : Hid (linksB p key tt = false) := Lib.hid (by rw [HLC.out, HSK.out, hb1, hb2]; rfl)
          go_wp2
          go_ret
          exact ⟨by rw [HX.out]; rfl, HF6.out.be⟩
        | true =>
          obtain ⟨h3, hb3⟩ : ∃ b, b = (e2 == 103) := ⟨_, rfl⟩
          have HX : Hid (linksB p key tt = h3) := Lib.hid (by rw [HLC.out, HSK.out, hb1, hb2, hb3]; rfl)
          go_wp2
          go_ret
          exact ⟨by rw [HX.out, hb3]; rfl, HF6.out.be⟩
    | false =>
      have HSK : Hid (same key p.low = false) := Lib.hid hsk
      have hlen : (nk : Int) ≤ 140737488351232 := by have := H1.out.bk; rw [← HNK.out] at this; omega
      have HRD : Hid (Rd Kid.cells 2 w6 lo w.heap.size A' p.kids) := Lib.hid (H1.out.kids.below HF6.out.be)
      clear z0 z2 z3 z4 z5
      go_wp2
      go_loopw [14, 15] (fun a i wr => ∃ k : Nat, k ≤ nk ∧ a = .bool (oldB (p.kids.take k) key) ∧ i = .int .i64 k ∧ w6 = wr) (fun _ i _ => nk - (intOf i).toNat)
      case atStart => exact ⟨0, Nat.zero_le _, rfl, rfl, rfl⟩
      case round =>
        obtain ⟨k, hk, rfl, rfl, rfl⟩ := hrel
        by_cases hlt : k < nk
        · obtain ⟨ad, x, rfl, hx, h1, h2, c0, c1'⟩ := HRD.out.kid (i := k) (by rw [← HNK.out]; exact hlt)
          have hlt' : (k : Int) < (nk : Int) := by omega
          have hlt2 : (0 : Int) ≤ (k : Int) := by omega
          have HT : Hid (oldB (p.kids.take (k + 1)) key = (oldB (p.kids.take k) key || (x.key.toList == key.toList))) := Lib.hid (by
            rw [List.take_add_one, hx.out]
            unfold oldB
            rw [List.any_append]
            simp [same])
          obtain ⟨ob, hob⟩ : ∃ v, v = oldB (p.kids.take k) key := ⟨_, rfl⟩
          rw [← hob]
          rw [← hob] at HT
          clear hob
          cases hb : ob with
          | true =>
            rw [hb] at HT
            go_wp2
            go_roundw
            case rel => exact ⟨k + 1, by omega, by rw [HT.out]; rfl, by go_num, trivial⟩
            case measure => simp [intOf]; omega
          | false =>
            rw [hb] at HT
            go_wp2
            go_roundw
            case rel => exact ⟨k + 1, by omega, by rw [HT.out]; simp, by go_num, trivial⟩
            case measure => simp [intOf]; omega
        · obtain rfl : k = nk := by omega
          have HOL : Hid (p.kids.take k = p.kids) := Lib.hid (by rw [HNK.out, List.take_length])
          rw [HOL.out]
          have hno : ¬ ((k : Int) < (k : Int)) := by omega
          obtain ⟨z0, z1', z2, z3, z4, z5, z6'⟩ := Blk.cells7 HF6.out.b0
          obtain ⟨y0, y1, y2, y3, y4, y5, y6⟩ := Blk.cells7 HB12.out
          have HLD : Hid (linksB p key tt = ((dv == tt) && ((de == 0) && ((e2 == 0) && (oldB p.kids key || r.same p))))) := Lib.hid (by rw [HLC.out, HSK.out]; rfl)
          obtain ⟨ob, hob⟩ : ∃ v, v = oldB p.kids key := ⟨_, rfl⟩
          rw [← hob]
          rw [← hob] at HLD
          clear hob
          cases hb1 : (dv == tt) with
          | false =>
            have HX : Hid (linksB p key tt = false) := Lib.hid (by rw [HLD.out, hb1]; rfl)
            go_wp2
            go_ret
            exact ⟨by rw [HX.out]; rfl, HF6.out.be⟩
          | true =>
            cases hb2 : (de == 0) with
            | false =>
              have HX : Hid (linksB p key tt = false) := Lib.hid (by rw [HLD.out, hb1, hb2]; rfl)
              go_wp2
              go_ret
              exact ⟨by rw [HX.out]; rfl, HF6.out.be⟩
            | true =>
              cases hb3 : (e2 == 0) with
              | false =>
                have HX : Hid (linksB p key tt = false) := Lib.hid (by rw [HLD.out, hb1, hb2, hb3]; rfl)
                go_wp2
                go_ret
                exact ⟨by rw [HX.out]; rfl, HF6.out.be⟩
              | true =>
                cases hb4 : ob with
                | true =>
                  have HX : Hid (linksB p key tt = true) := Lib.hid (by rw [HLD.out, hb1, hb2, hb3, hb4]; rfl)
                  go_wp2
                  go_ret
                  exact ⟨by rw [HX.out]; rfl, HF6.out.be⟩
                | false =>
                  have HX : Hid (linksB p key tt = r.same p) := Lib.hid (by rw [HLD.out, hb1, hb2, hb3, hb4]; rfl)
                  go_wp2_with fail
                  refine (HSR.out w6 HR6.out HF6.out.be).mono ?_
                  rintro e w7 ⟨rfl, hb7⟩
                  go_wp2
                  go_ret
                  exact ⟨by rw [HX.out]; rfl, HF6.out.be.trans (hb7.mono HF6.out.be.size)⟩
  · have hne : (ea != 0) = true := by simpa using he
    have HLE : Hid (linksB p key tt = q.same Page.zero) := Lib.hid (by rw [HLB.out, if_neg he])
    go_wp2_with (refine wpList_store_row rfl 27 _ _ rfl rfl (w2.heap.size) rfl _ _ _ rfl HZ8.out rfl (by kernel_rfl) (List.all_eq_true.1 rfl) ?_; rintro w3 hT3 hB3; obtain ⟨hF3, hP3, _⟩ := HAR.out w3 hT3; have HF3 := Lib.hid hF3; have HP3 := Lib.hid hP3; obtain ⟨y0, y1, y2, y3, y4, y5, y6⟩ := Blk.cells7 hB3; clear hF3 hP3 hT3 hB3)
    refine (HSM.out w3 HP3.out).mono ?_
    rintro e w4 ⟨rfl, hb4⟩
    go_wp2
    go_ret
    exact ⟨by rw [HLE.out]; rfl, HF3.out.be.trans (hb4.mono HF3.out.be.size)⟩
end Go.Proofs.Ytjbdmaehomhdeaa

namespace Go.Proofs.Ytjbdmaehomhdeaa
open Go.RowKit

theorem lk1_key {key : ByteArray} {tt : Int} (h : (lk1 key tt).mayB = true) : isKey key = true := by
  unfold Delta.mayB Delta.may at h
  rw [show (lk1 key tt).kind = 3 from rfl] at h
  simp only [Bool.and_eq_true] at h
  have h2 := h.2.2
  rw [if_neg (by decide), if_neg (by decide)] at h2
  simp only [Bool.and_eq_true, Bool.or_eq_true] at h2
  rcases h2.1 with h3 | h3
  · exact absurd h3 (by decide)
  · exact h3
theorem lk2_may {key : ByteArray} (h : isKey key = true) : (lk2 key).mayB = true := by
  have hb : (lk2 key).bareB 4 = true := by
    unfold Delta.bareB Delta.b1 Delta.b2 Delta.b3 Page.bareB lk2
    simp [Page.zero, Item.zero, Item.same, Item.none, ByteArray.toList_eq]
  unfold Delta.mayB Delta.may
  rw [show (lk2 key).kind = 4 from rfl, hb, if_neg (by decide), if_neg (by decide), show (lk2 key).key = key from rfl, h]
  rfl
theorem links_true (p : Page) (key : ByteArray) (tt : Int) : linksB p key tt = true := by
  unfold linksB
  have hE : (lk1 key tt).applyE p = cond p.ok (cond (lk1 key tt).mayB (p.linkE ⟨key, tt⟩) 110) 101 := by
    unfold Delta.applyE
    rw [show (lk1 key tt).opE p = p.linkE ⟨key, tt⟩ by unfold Delta.opE; exact (if_neg (by decide : ¬ (3 : Int) = 1)).trans ((if_neg (by decide : ¬ (3 : Int) = 2)).trans (if_pos rfl))]
  have hP : (lk1 key tt).applyP p = cond (p.ok && (lk1 key tt).mayB) (p.linkP ⟨key, tt⟩) Page.zero := by
    unfold Delta.applyP
    rw [show (lk1 key tt).opP p = p.linkP ⟨key, tt⟩ by unfold Delta.opP; exact (if_neg (by decide : ¬ (3 : Int) = 1)).trans ((if_neg (by decide : ¬ (3 : Int) = 2)).trans (if_pos rfl))]
  cases hok : p.ok with
  | false =>
    rw [hok] at hE hP
    rw [if_neg (by rw [hE]; exact (by decide : ¬ (101 : Int) = 0)), hP]
    exact (Page.same_yes rfl).symm
  | true =>
    cases hm : (lk1 key tt).mayB with
    | false =>
      rw [hok, hm] at hE hP
      rw [if_neg (by rw [hE]; exact (by decide : ¬ (110 : Int) = 0)), hP]
      exact (Page.same_yes rfl).symm
    | true =>
      cases hf : p.linkFits ⟨key, tt⟩ with
      | false =>
        rw [hok, hm, show p.linkE ⟨key, tt⟩ = 103 by unfold Page.linkE; rw [hok, hf]; rfl] at hE
        rw [hok, hm, show p.linkP ⟨key, tt⟩ = Page.zero by unfold Page.linkP; rw [hok, hf]; rfl] at hP
        rw [if_neg (by rw [hE]; exact (by decide : ¬ (103 : Int) = 0)), hP]
        exact (Page.same_yes rfl).symm
      | true =>
        rw [hok, hm, show p.linkE ⟨key, tt⟩ = 0 by unfold Page.linkE; rw [hok, hf]; rfl] at hE
        rw [hok, hm, show p.linkP ⟨key, tt⟩ = { p with kids := linkL p.kids ⟨key, tt⟩ } by unfold Page.linkP; rw [hok, hf]; rfl] at hP
        have hE0 : (lk1 key tt).applyE p = 0 := hE
        have hP0 : (lk1 key tt).applyP p = { p with kids := linkL p.kids ⟨key, tt⟩ } := hP
        rw [if_pos hE0, hP0]
        show cond (same key p.low) _ _ = true
        have hq := linkP_ok hok hf
        have hs := Page.sortedK hok
        obtain ⟨a, m, b, hl, hL, ha, hb, hpos, hmm⟩ := link_cut ⟨key, tt⟩ hs
        have hf2 := hf
        unfold Page.linkFits at hf2
        simp only [Bool.and_eq_true, Bool.not_eq_true', decide_eq_true_eq] at hf2
        obtain ⟨h0, hcov, _, _, _⟩ := hf2
        rw [hL] at hq ⊢
        obtain ⟨hp1, hp2⟩ := pos_cut a b ⟨key, tt⟩ ha
        have hdn := down_cut a b ⟨key, tt⟩ hb
        have hfit : ({ p with kids := a ++ ⟨key, tt⟩ :: b } : Page).downFits key = true := by
          unfold Page.downFits
          show (!(p.level == 0) && p.covers key) = true
          rw [h0, hcov]; rfl
        have hV : ({ p with kids := a ++ ⟨key, tt⟩ :: b } : Page).downV key = tt := by
          unfold Page.downV; rw [hq, hfit]; exact hdn
        have hDE : ({ p with kids := a ++ ⟨key, tt⟩ :: b } : Page).downE key = 0 := by
          unfold Page.downE; rw [hq, hfit]; rfl
        have hAE : (lk2 key).applyE { p with kids := a ++ ⟨key, tt⟩ :: b } = cond (({ p with kids := a ++ ⟨key, tt⟩ :: b } : Page).unlinkFits key) 0 103 := by
          unfold Delta.applyE
          rw [hq, lk2_may (lk1_key hm)]
          rw [show (lk2 key).opE { p with kids := a ++ ⟨key, tt⟩ :: b } = ({ p with kids := a ++ ⟨key, tt⟩ :: b } : Page).unlinkE key by unfold Delta.opE; exact (if_neg (by decide : ¬ (4 : Int) = 1)).trans ((if_neg (by decide : ¬ (4 : Int) = 2)).trans ((if_neg (by decide : ¬ (4 : Int) = 3)).trans (if_pos rfl)))]
          unfold Page.unlinkE
          rw [hq]; rfl
        have hUF : ({ p with kids := a ++ ⟨key, tt⟩ :: b } : Page).unlinkFits key = !((a.length : Int) == 0) := by
          unfold Page.unlinkFits
          show (!(p.level == 0) && (isAt Kid.key (a ++ ⟨key, tt⟩ :: b) key && !((posOf Kid.key (a ++ ⟨key, tt⟩ :: b) key : Int) == 0))) = _
          rw [h0, hp2, hp1]; rfl
        rw [hV, hDE, hAE, hUF]
        have hhd := (inner_of_ok hok h0).2.2
        unfold Page.innerB at hhd
        simp only [Bool.and_eq_true] at hhd
        have hhd := hhd.1.1.2
        have hqh := (inner_of_ok hq h0).2.2
        unfold Page.innerB at hqh
        simp only [Bool.and_eq_true] at hqh
        have hqh := hqh.1.1.2
        cases hsk : same key p.low with
        | true =>
          have hnil : a = [] := by
            cases a with
            | nil => rfl
            | cons y a =>
              rw [hl] at hhd
              have h1 := ha y (List.mem_cons_self ..)
              rw [show y.key = p.low from same_of.1 hhd, ← same_of.1 hsk, lt_irr] at h1
              cases h1
          rw [hnil]
          simp
        | false =>
          have hne : a.length ≠ 0 := by
            cases a with
            | nil =>
              have : same key p.low = true := hqh
              rw [hsk] at this; cases this
            | cons y a => simp
          have hz : (!((a.length : Int) == 0)) = true := by rw [Bool.not_eq_true', beq_eq_false_iff_ne]; omega
          rw [hz]
          have hold : (oldB p.kids key || ((lk2 key).applyP { p with kids := a ++ ⟨key, tt⟩ :: b }).same p) = true := by
            rcases hmm with ⟨_, y, rfl, hy⟩ | ⟨_, rfl⟩
            · have : oldB p.kids key = true := by
                unfold oldB
                rw [hl, List.any_eq_true]
                exact ⟨y, by simp, same_of.2 hy⟩
              rw [this]; rfl
            · have : (lk2 key).applyP { p with kids := a ++ ⟨key, tt⟩ :: b } = p := by
                unfold Delta.applyP
                rw [hq, lk2_may (lk1_key hm)]
                rw [show (lk2 key).opP { p with kids := a ++ ⟨key, tt⟩ :: b } = ({ p with kids := a ++ ⟨key, tt⟩ :: b } : Page).unlinkP key by unfold Delta.opP; exact (if_neg (by decide : ¬ (4 : Int) = 1)).trans ((if_neg (by decide : ¬ (4 : Int) = 2)).trans ((if_neg (by decide : ¬ (4 : Int) = 3)).trans (if_pos rfl)))]
                unfold Page.unlinkP
                rw [hq, hUF, hz]
                show ({ p with kids := List.take (posOf Kid.key (a ++ ⟨key, tt⟩ :: b) key) (a ++ ⟨key, tt⟩ :: b) ++ List.drop (posOf Kid.key (a ++ ⟨key, tt⟩ :: b) key + 1) (a ++ ⟨key, tt⟩ :: b) } : Page) = p
                rw [hp1, List.take_left, List.drop_length_add_append, List.drop_succ_cons, List.drop_zero]
                rw [List.nil_append] at hl
                rw [← hl]
              rw [this, ← Page.same_yes rfl, Bool.or_true]
          rw [hold]
          simp
end Go.Proofs.Ytjbdmaehomhdeaa
