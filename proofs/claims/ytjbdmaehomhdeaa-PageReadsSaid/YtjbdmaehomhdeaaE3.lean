/- The law PageReads. -/
import Derived.Test.YtjbdmaehomhdeaaE2
import Derived.Test.YtjbdmaehomhdeaaR11
namespace Go.Proofs.Ytjbdmaehomhdeaa
open Go.RowKit

theorem appB47 {ops : Array Oper} {rest : List Oper} {o : Oper} {a : Act} {Q : Exit → Act → World → Prop} (w : World) (hgd : o.guard = none) (s x : Operand)
    (ho : o.op = .call { callee := .builtin .append, args := #[s, x], argTypes := #[22, 22] })
    (base : Nat) (v : Value) (l m : List Nat) (A : Option Addr) (c lo hi : Nat) (hs : a.eval s = v) (hown : OwnB w base v l) (hx : a.eval x = .slice A m.length c) (hr : Rd byteCell 1 w lo hi A m) (hlen : l.length + m.length ≤ 140737488355328) (hbase : base ≤ w.heap.size)
    (h : ∀ v' w', OwnB w' base v' (l ++ m) → Grew w w' v v' → wpList Try.prog ops Q rest (a.put o.dst v') w') : wpList Try.prog ops Q (o :: rest) a w := by
  obtain ⟨i0, hi0, hz0, hz1, hz2⟩ := info_parts info_u8
  refine wpList_plain hgd fun K hK => ?_
  have key : ∃ v' w', (Builtin.append_ #[22, 22] o.type #[v, .slice A m.length c]).run Try.prog w = .ok v' w' ∧ OwnB w' base v' (l ++ m) ∧ Grew w w' v v' := by
    rcases A with _ | ad
    · have hm : m = [] := by
        rcases m with _ | ⟨b, r⟩
        · rfl
        · obtain ⟨ad, e, _⟩ := hr (by simp); cases e
      subst hm
      refine ⟨v, w, ?_, by simpa using hown, Grew.refl _ _⟩
      rcases hown.2 with ⟨rfl, hl⟩ | ⟨g, cap, cur, rfl, _, _, hnc, _⟩
      · simp [Builtin.append_, run_underlying Try.underlying22, sizeOf, typeInfo, hi0, Builtin.lenOf, Builtin.firstCells]
      · simp [Builtin.append_, run_underlying Try.underlying22, sizeOf, typeInfo, hi0, Builtin.lenOf, Builtin.firstCells, hnc, storeCells]
    · have hc : ∀ i x, m[i]? = some x → ∀ j u, (byteCell x)[j]? = some u → w.cell? (ad.add (i * 1 + j)) = some u := by
        intro i x hx
        obtain ⟨ad', e, _, _, hc⟩ := hr (by intro e; subst e; simp at hx)
        cases e
        exact hc i x hx
      obtain ⟨v', w', hrun, h2, h3, _, h5⟩ := run_append_own_at (P := Try.prog) w base 22 o.type 5 i0 _ 1 1 Try.underlying22 hi0 hz0 hz1 hz2 rfl (by omega) v l.length (byteVals l) hown ad m.length c (byteVals m) (by rw [byteVals_length]; omega)
        (fun j u hu => by
          unfold byteVals at hu
          rw [List.getElem?_map] at hu
          cases hj : m[j]? with
          | none => rw [hj] at hu; cases hu
          | some b =>
            rw [hj] at hu
            have := hc j b hj 0 u (by simpa [byteCell] using hu)
            simpa using this)
        (by intro u hu; unfold byteVals at hu; simp at hu; obtain ⟨b, _, rfl⟩ := hu; rfl) (by simp only [maxLen]; omega) (by omega) hbase
      refine ⟨v', w', hrun, ?_, h3, ?_⟩
      · unfold OwnB
        rw [byteVals_append, List.length_append]
        exact h2
      · rcases h5 with h5 | h5
        · exact .inl h5
        · exact .inr fun k hk => by rw [h5] at hk; cases hk; exact Nat.le_refl _
  obtain ⟨v', w', hrun, h2, h3⟩ := key
  unfold Oper.wp execOp
  simp only [ho, resolve, invoke, builtin, Sem.run_bind, Sem.run_pure, Result.andThen_ok, List.map_toArray, List.map_cons, List.map_nil, hs, hx, hrun]
  exact hK _ _ (h v' w' h2 h3)


theorem Pg.far {w w' : World} {lo hi g : Nat} {p : Page} {A A' : Option Addr} {c c' : Nat} (h : Pg w lo hi p A A' c c') (hk : ∀ k, k ≠ g → k < hi → w'.heap[k]? = w.heap[k]?) (hg : g < lo) : Pg w' lo hi p A A' c c' := by
  have key : ∀ q : Addr, lo ≤ q.block → q.block < hi → w'.cell? q = w.cell? q := fun q h1 h2 => World.cell?_of_block (hk q.block (by omega) h2)
  exact ⟨h.items.keep key, h.kids.keep key, h.li, h.lk, h.bi, h.bk⟩
theorem own_block {w : World} {base n c : Nat} {A : Option Addr} {l : List Nat} (h : OwnB w base (.slice A n c) l) (hn : l.length = n) (h0 : 0 < n) : ∃ g cur, A = some ⟨g, 0, none⟩ ∧ base ≤ g ∧ n ≤ c ∧ c ≤ maxLen ∧ cur.size = c ∧ Blk w g 5 cur := by
  rcases h.2 with ⟨e, e2⟩ | ⟨g, cap, cur, e, hg, hh, hnc, hm, hs, _⟩
  · omega
  · injection e with e1 e2 e3
    subst e3
    exact ⟨g, cur, e1, hg, by omega, hm, by simpa using hs, hh⟩

set_option maxRecDepth 100000 in
set_option maxHeartbeats 4000000 in
theorem law_PageReads (lo c : Nat) (A : Option Addr) (bs : List Nat) (w : World) (hr : Rd byteCell 1 w lo w.heap.size A bs) (hc : bs.length ≤ c) (hb : ∀ b ∈ bs, b < 256) (hl : bs.length ≤ 140737488351232) :
    Calls Try.prog 3 #[.slice A bs.length c] w fun e w' => e = .returned (.bool true) ∧ Below w.heap.size w w' := by
  have HR := Lib.hid hr
  have HC := Lib.hid hc
  have HS := Lib.hid hb
  have HL := Lib.hid hl
  clear hr hc hb hl
  have HRD := Lib.hid (fun w1 h => ref_Decode lo c A bs w1 h HC.out HS.out HL.out)
  obtain ⟨nb, hnb⟩ : ∃ n, n = bs.length := ⟨_, rfl⟩
  rw [← hnb]
  rw [← hnb] at HRD
  have HNB := Lib.hid hnb
  clear hnb
  have hnl : nb ≤ 140737488351232 := by rw [HNB.out]; exact HL.out
  go_enter Try.func3, Try.ntmps3
  go_wp2_with fail
  refine (awake10 w).mono ?_
  rintro e w1 ⟨rfl, hb1⟩
  have HB1 := Lib.hid hb1
  have HR1 : Hid (Rd byteCell 1 w1 lo w.heap.size A bs) := Lib.hid (HR.out.below hb1)
  clear hb1
  go_wp2_with (at_builtin; (refine appB47 w1 rfl (.tmp 14) (.tmp 15) rfl w1.heap.size (.slice none 0 0) [] bs A c lo w.heap.size rfl (OwnB.nil _ _) (by rw [← HNB.out]; rfl) HR1.out (by simp only [List.length_nil]; have := HL.out; omega) (Nat.le_refl _) ?_); intro v2 w2 hO2 hG2)
  rw [List.nil_append] at hO2
  have hB2 : Below w1.heap.size w1 w2 := hG2.below (Nat.le_refl _) (fun k hk => by simp [Value.ownBlock] at hk)
  obtain ⟨A2, c2, rfl, hc2, hR2, _⟩ := OwnB.form hO2 HNB.out.symm
  have HB2 : Hid (Below w.heap.size w w2) := Lib.hid (HB1.out.trans (hB2.mono HB1.out.size))
  have HD := page_Decode w1.heap.size c2 A2 bs w2 hR2 (by rw [← HNB.out]; exact hc2) HS.out HL.out
  rw [← HNB.out] at HD
  have HO2 := Lib.hid hO2
  have hs12 := hB2.size
  have hs01 := HB1.out.size
  clear hO2 hG2 hB2 hR2 HR1
  refine HD.mono ?_
  rintro e w3 ⟨A3, A3', c3, c3', rfl, hP3, hB3⟩
  clear HD
  obtain ⟨q, hq⟩ : ∃ q, q = decoded bs := ⟨_, rfl⟩
  obtain ⟨en, hen⟩ : ∃ n, n = decodeE bs := ⟨_, rfl⟩
  rw [← hq] at hP3
  rw [← hq, ← hen]
  have HQ := Lib.hid hq
  have HEN := Lib.hid hen
  obtain ⟨ni, hni⟩ : ∃ n, n = q.items.length := ⟨_, rfl⟩
  obtain ⟨nk, hnk⟩ : ∃ n, n = q.kids.length := ⟨_, rfl⟩
  rw [show q.val A3 c3 A3' c3' = .agg #[Value.int IntKind.i64 q.level, Value.string q.low, Value.string q.high, Value.bool q.last, Value.int IntKind.i64 q.side, Value.slice A3 ni c3, Value.slice A3' nk c3'] by unfold Page.val Page.raw; rw [← hni, ← hnk]]
  have HNI := Lib.hid hni
  have HNK := Lib.hid hnk
  have HP3 := Lib.hid hP3
  have HB3 := Lib.hid hB3
  clear hq hen hni hnk hP3 hB3
  go_wp2_with fail
  have hb4 : Below w3.heap.size w3 (w3.alloc (.cells #[Value.int IntKind.i64 q.level, Value.string q.low, Value.string q.high, Value.bool q.last, Value.int IntKind.i64 q.side, Value.slice A3 ni c3, Value.slice A3' nk c3'] 27)) := (Below.refl _ _).alloc (Nat.le_refl _) _
  have hp4 : Blk (w3.alloc (.cells #[Value.int IntKind.i64 q.level, Value.string q.low, Value.string q.high, Value.bool q.last, Value.int IntKind.i64 q.side, Value.slice A3 ni c3, Value.slice A3' nk c3'] 27)) w3.heap.size 27 #[Value.int IntKind.i64 q.level, Value.string q.low, Value.string q.high, Value.bool q.last, Value.int IntKind.i64 q.side, Value.slice A3 ni c3, Value.slice A3' nk c3'] := Blk.new _ _ _
  generalize w3.alloc (.cells #[Value.int IntKind.i64 q.level, Value.string q.low, Value.string q.high, Value.bool q.last, Value.int IntKind.i64 q.side, Value.slice A3 ni c3, Value.slice A3' nk c3'] 27) = w4 at *
  have hs23 := HB3.out.size
  have hs34 := hb4.size
  have HB4 : Hid (Below w2.heap.size w2 w4) := Lib.hid (HB3.out.trans (hb4.mono hs23))
  have HP4 : Hid (Pg w4 w2.heap.size w3.heap.size q A3 A3' c3 c3') := Lib.hid (HP3.out.below hb4)
  have HK4 := Lib.hid hp4
  clear hb4 hp4 HP3 HB3
  -- the owner writes over his bytes
  have HX : Hid (∀ j, j < nb → ∃ g cur, A2 = some ⟨g, 0, none⟩ ∧ w1.heap.size ≤ g ∧ g < w2.heap.size ∧ cur.size = c2 ∧ nb ≤ c2 ∧ Blk w4 g 5 cur) := Lib.hid fun j hj => by
    obtain ⟨g, cur, e, h1, h2, _, h3, h4⟩ := own_block HO2.out HNB.out.symm (by omega)
    exact ⟨g, cur, e, h1, h4.lt, h3, h2, h4.below HB4.out h4.lt⟩
  go_loopw [7] (fun i wr => ∃ j : Nat, j ≤ nb ∧ i = .int .i64 j ∧ Hid (∀ k, A2.map (·.block) ≠ some k → wr.heap[k]? = w4.heap[k]?) ∧ Hid (wr.heap.size = w4.heap.size ∧ wr.os = w4.os ∧ wr.tape = w4.tape ∧ wr.output = w4.output) ∧ Hid (∀ l, l < nb → ∃ g cur, A2 = some ⟨g, 0, none⟩ ∧ w1.heap.size ≤ g ∧ g < w2.heap.size ∧ cur.size = c2 ∧ nb ≤ c2 ∧ Blk wr g 5 cur)) (fun i _ => nb - (intOf i).toNat)
  case atStart => exact ⟨0, Nat.zero_le _, rfl, Lib.hid (fun _ _ => rfl), Lib.hid ⟨rfl, rfl, rfl, rfl⟩, HX⟩
  case round =>
    obtain ⟨j, hj, rfl, HF, HZ, HXr⟩ := hrel
    by_cases hlt : j < nb
    · obtain ⟨g, cur, rfl, hg1, hg2, hcs, hnc, hblk⟩ := HXr.out j hlt
      have HBK := Lib.hid hblk
      have hji : (j : Int) < (nb : Int) := by omega
      have hj0 : (0 : Int) ≤ (j : Int) := by omega
      have cj : wr.cell? ⟨g, j, none⟩ = some cur[j] := (hblk.cell j).trans (Array.getElem?_eq_getElem (by omega))
      have fj := hblk.frozen j
      have HCS := Lib.hid hcs
      generalize cur[j] = oj at cj
      clear hblk hcs
      go_wp2
      go_roundw
      case rel =>
        refine ⟨j + 1, by omega, by go_num, Lib.hid (fun k hk => ?_), Lib.hid ?_, Lib.hid (fun l hl => ?_)⟩
        · rw [Below.heap_setCell wr _ _ k (fun e => hk (by simp [e]))]
          exact HF.out k hk
        · exact ⟨by simpa using HZ.out.1, HZ.out.2.1, HZ.out.2.2.1, HZ.out.2.2.2⟩
        · exact ⟨g, _, rfl, hg1, hg2, by simpa using HCS.out, hnc, HBK.out.set_ j _⟩
      case measure => simp [intOf]; omega
    · obtain rfl : j = nb := by omega
      have hA2 : ∀ k, A2.map (·.block) = some k → w1.heap.size ≤ k ∧ k < w2.heap.size := fun k hk => by
        rcases HO2.out.2 with ⟨e, _⟩ | ⟨g, cap, cur, e, hg, hh, _⟩
        · injection e with e1 e2 e3
          subst e1; simp at hk
        · injection e with e1 e2 e3
          subst e1
          simp at hk
          subst hk
          exact ⟨hg, Blk.lt (cs := cur) (t := 5) hh⟩
      have HBr : Hid (Below w.heap.size w wr) := Lib.hid (by
        have h4 := HB2.out.trans (HB4.out.mono (by omega))
        refine ⟨HZ.out.2.1.trans h4.os, HZ.out.2.2.1.trans h4.tape, HZ.out.2.2.2.trans h4.output, by rw [HZ.out.1]; exact h4.size, fun k hk => ?_⟩
        rw [HF.out k (fun e => by have := (hA2 k e).1; omega)]
        exact h4.block k hk)
      have HPr : Hid (Pg wr w2.heap.size wr.heap.size q A3 A3' c3 c3') := Lib.hid (by
        have key : ∀ q : Addr, w2.heap.size ≤ q.block → q.block < w3.heap.size → wr.cell? q = w4.cell? q := fun q h1 h2 => World.cell?_of_block (HF.out q.block (fun e => by have := (hA2 _ e).2; omega))
        exact Pg.mono ⟨HP4.out.items.keep key, HP4.out.kids.keep key, HP4.out.li, HP4.out.lk, HP4.out.bi, HP4.out.bk⟩ (Nat.le_refl _) (by rw [HZ.out.1]; exact hs34))
      have HKr : Hid (Blk wr w3.heap.size 27 #[Value.int IntKind.i64 q.level, Value.string q.low, Value.string q.high, Value.bool q.last, Value.int IntKind.i64 q.side, Value.slice A3 ni c3, Value.slice A3' nk c3']) := Lib.hid ((HF.out _ (fun e => by have := (hA2 _ e).2; omega)).trans HK4.out)
      clear HF HZ HXr HX HP4 HK4 hA2 hj
      go_wp2_with fail
      have HRW : Hid (Rd byteCell 1 wr lo w.heap.size A bs) := Lib.hid (HR.out.below HBr.out)
      refine (HRD.out wr (HRW.out.mono (Nat.le_refl _) HBr.out.size)).mono ?_
      rintro e w5 ⟨A4, A4', c4, c4', rfl, hP5, hB5⟩
      rw [← HQ.out] at hP5
      rw [← HQ.out, ← HEN.out, show q.val A4 c4 A4' c4' = .agg #[Value.int IntKind.i64 q.level, Value.string q.low, Value.string q.high, Value.bool q.last, Value.int IntKind.i64 q.side, Value.slice A4 ni c4, Value.slice A4' nk c4'] by unfold Page.val Page.raw; rw [← HNI.out, ← HNK.out]]
      have hb6 : Below w5.heap.size w5 (w5.alloc (.cells #[Value.int IntKind.i64 q.level, Value.string q.low, Value.string q.high, Value.bool q.last, Value.int IntKind.i64 q.side, Value.slice A4 ni c4, Value.slice A4' nk c4'] 27)) := (Below.refl _ _).alloc (Nat.le_refl _) _
      have hk6 : Blk (w5.alloc (.cells #[Value.int IntKind.i64 q.level, Value.string q.low, Value.string q.high, Value.bool q.last, Value.int IntKind.i64 q.side, Value.slice A4 ni c4, Value.slice A4' nk c4'] 27)) w5.heap.size 27 #[Value.int IntKind.i64 q.level, Value.string q.low, Value.string q.high, Value.bool q.last, Value.int IntKind.i64 q.side, Value.slice A4 ni c4, Value.slice A4' nk c4'] := Blk.new _ _ _
      obtain ⟨p0, p1, p2, p3, p4, p5, p6⟩ := Blk.cells7 ((HKr.out.below hB5 HKr.out.lt).alloc (.cells #[Value.int IntKind.i64 q.level, Value.string q.low, Value.string q.high, Value.bool q.last, Value.int IntKind.i64 q.side, Value.slice A4 ni c4, Value.slice A4' nk c4'] 27))
      have hs5 := hB5.size
      have HB5 := Lib.hid hB5
      have HP5 := Lib.hid hP5
      clear hP5 hB5
      go_wp2_with fail
      generalize w5.alloc (.cells #[Value.int IntKind.i64 q.level, Value.string q.low, Value.string q.high, Value.bool q.last, Value.int IntKind.i64 q.side, Value.slice A4 ni c4, Value.slice A4' nk c4'] 27) = w6 at *
      have hs6 := hb6.size
      have HB6 : Hid (Below wr.heap.size wr w6) := Lib.hid (HB5.out.trans (hb6.mono hs5))
      have HSA : Hid (Calls Try.prog 11 #[.agg #[Value.int IntKind.i64 q.level, Value.string q.low, Value.string q.high, Value.bool q.last, Value.int IntKind.i64 q.side, Value.slice A3 ni c3, Value.slice A3' nk c3'], .agg #[Value.int IntKind.i64 q.level, Value.string q.low, Value.string q.high, Value.bool q.last, Value.int IntKind.i64 q.side, Value.slice A4 ni c4, Value.slice A4' nk c4']] w6 fun e w' => e = .returned (.bool true) ∧ Below w6.heap.size w6 w') := Lib.hid (by
        have h := ref_Same q q A3 A3' A4 A4' c3 c3' c4 c4' w2.heap.size wr.heap.size w6 ((HPr.out.below HB6.out).mono (Nat.le_refl _) (by omega)) ((HP5.out.below hb6).mono (Nat.le_refl _) hs6)
        rw [← Page.same_yes rfl] at h
        unfold Page.val Page.raw at h
        rw [← HNI.out, ← HNK.out] at h
        exact h)
      refine HSA.out.mono ?_
      rintro e w7 ⟨rfl, hb7⟩
      have HB7 : Hid (Below wr.heap.size wr w7) := Lib.hid (HB6.out.trans (hb7.mono (by omega)))
      have hs7 := hb7.size
      have HBE : Hid (Below w.heap.size w w7) := Lib.hid (HBr.out.trans (HB7.out.mono HBr.out.size))
      clear hb6 hb7 hk6 p0 p1 p2 p3 p4 p5 p6 HSA HP5 HB5
      cases hfm : Page.form bs with
      | false =>
        have he : en = 102 := by rw [HEN.out]; unfold decodeE; rw [hfm]; rfl
        have HF := Lib.hid hfm
        clear hfm HEN
        subst he
        go_wp2
        go_ret
        exact ⟨rfl, HBE.out⟩
      | true =>
        have he : en = 0 := by rw [HEN.out]; unfold decodeE; rw [hfm]; rfl
        have hqt : q = told bs := by rw [HQ.out]; unfold decoded; rw [hfm]; rfl
        have hfm2 := hfm
        unfold Page.form at hfm2
        rw [Bool.and_eq_true, decide_eq_true_eq, ← hqt] at hfm2
        have HOK := Lib.hid hfm2.1
        have HBY := Lib.hid hfm2.2
        have HC0 : Hid (q.check = 0) := Lib.hid (by unfold Page.check; rw [hfm2.1]; rfl)
        clear hfm hqt hfm2 HEN
        subst he
        obtain ⟨p0, p1, p2, p3, p4, p5, p6⟩ := Blk.cells7 (HKr.out.below HB7.out HKr.out.lt)
        have HE : Hid (Calls Try.prog 12 #[.agg #[Value.int IntKind.i64 q.level, Value.string q.low, Value.string q.high, Value.bool q.last, Value.int IntKind.i64 q.side, Value.slice A3 ni c3, Value.slice A3' nk c3']] w7 (PostE w7 q)) := Lib.hid (by
          have h := page_Encode q A3 A3' c3 c3' w2.heap.size w7 ((HPr.out.below HB7.out).mono (Nat.le_refl _) (by omega))
          unfold Page.val Page.raw at h
          rw [← HNI.out, ← HNK.out] at h
          exact h)
        go_wp2_with fail
        refine HE.out.mono ?_
        rintro e w8 ⟨v8, rfl, hO8, hb8⟩
        rw [HC0.out]
        rw [HOK.out, cond_true, HBY.out] at hO8
        obtain ⟨A8, c8, rfl, _, hR8, _⟩ := OwnB.form hO8 HNB.out.symm
        have hcv1 : (convert 22 9 (.slice A8 j c8)).run Try.prog w8 = .ok (.string (strOf bs)) w8 := conv_str hR8 HNB.out.symm HS.out
        have hcv2 : (convert 22 9 (.slice A j c)).run Try.prog w8 = .ok (.string (strOf bs)) w8 := conv_str ((HRW.out.below (HB7.out.mono HBr.out.size)).below (hb8.mono HBE.out.size)) HNB.out.symm HS.out
        have HB8 : Hid (Below w.heap.size w w8) := Lib.hid (HBE.out.trans (hb8.mono HBE.out.size))
        generalize strOf bs = s8 at hcv1 hcv2
        clear hO8 hR8 hb8 p0 p1 p2 p3 p4 p5 p6
        go_wp2
        go_ret
        exact ⟨rfl, HB8.out⟩
end Go.Proofs.Ytjbdmaehomhdeaa
