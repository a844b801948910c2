import Derived.Test.YtjbdmaehomhdeaaB3
namespace Go.Proofs.Ytjbdmaehomhdeaa
open Go.RowKit

theorem Rd.pieces {w : World} {g : Nat} {t : TypeId} {ps : List Piece} {lo : Nat} (h : Blk w g t (ps.map Piece.val).toArray) (hlo : lo ≤ g) : Rd Piece.cells 1 w lo w.heap.size (some ⟨g, 0, none⟩) ps := by
  intro _
  refine ⟨_, rfl, hlo, h.lt, fun i x hx j u hu => ?_⟩
  have hj : j = 0 := by
    rcases Nat.eq_zero_or_pos j with e | e
    · exact e
    · unfold Piece.cells at hu; rw [List.getElem?_eq_none (by simp; omega)] at hu; cases hu
  subst hj
  simp [Piece.cells] at hu
  subst hu
  have ha : (⟨g, 0, none⟩ : Addr).add (i * 1 + 0) = ⟨g, i, none⟩ := by
    unfold Addr.add; split
    · simp_all
    · simp
  rw [ha, h.cell]
  rw [List.getElem?_toArray, List.getElem?_map, hx]; rfl

theorem lay_head (bl : Bool) (low high : ByteArray) (l1 l2 l3 : List Nat) (v1 : Value) (A2 A3 : Option Addr) (c2 c3 : Nat) (w0 w1 w2 w3 : World) (hO1 : OwnB w1 w0.heap.size v1 l1) (hb1 : Below w0.heap.size w0 w1)
    (hB2 : Below w1.heap.size w1 w2) (hR2 : Rd byteCell 1 w2 w1.heap.size w2.heap.size A2 l2) (hB3 : Below w2.heap.size w2 w3) (hR3 : Rd byteCell 1 w3 w2.heap.size w3.heap.size A3 l3) (h1 : l1.length = 1) (h2 : l2.length = 2) (h3 : l3.length = 1)
    (hlow : low.size ≤ 16) (hhigh : high.size ≤ 16) :
    Calls Try.prog 57 #[v1, .slice (some ⟨w3.heap.size, 0, none⟩) 5 5] (w3.alloc (.cells #[.iface 4 (.bool bl), .iface 9 (.string low), .iface 9 (.string high), .iface 22 (.slice A2 2 c2), .iface 22 (.slice A3 1 c3)] 20))
      (PostG (w3.alloc (.cells #[.iface 4 (.bool bl), .iface 9 (.string low), .iface 9 (.string high), .iface 22 (.slice A2 2 c2), .iface 22 (.slice A3 1 c3)] 20)) w0.heap.size v1 (l1 ++ (flagB bl ++ (textB low ++ (textB high ++ (l2 ++ l3)))))) := by
  have hs1 := hb1.size
  have hs2 := hB2.size
  have hs3 := hB3.size
  obtain ⟨W, hW⟩ : ∃ W, W = w3.alloc (.cells #[.iface 4 (.bool bl), .iface 9 (.string low), .iface 9 (.string high), .iface 22 (.slice A2 2 c2), .iface 22 (.slice A3 1 c3)] 20) := ⟨_, rfl⟩
  have hW3 : Below w3.heap.size w3 W := by rw [hW]; exact (Below.refl _ _).alloc (Nat.le_refl _) _
  have hWs := hW3.size
  have hblk : Blk W w3.heap.size 20 ([Piece.flag bl, .text low, .text high, .raw A2 c2 l2, .raw A3 c3 l3].map Piece.val).toArray := by
    rw [hW]
    simp only [List.map_cons, List.map_nil, Piece.val, h2, h3]
    exact Blk.new _ _ _
  rw [← hW]
  have hl := page_lay w0.heap.size w1.heap.size 5 v1 l1 (some ⟨w3.heap.size, 0, none⟩) [Piece.flag bl, .text low, .text high, .raw A2 c2 l2, .raw A3 c3 l3] W (hO1.later (hB2.trans ((hB3.trans (hW3.mono hs3)).mono hs2))) (by omega) (Rd.pieces hblk (by omega))
    (by
      intro x hx
      simp only [List.mem_cons, List.not_mem_nil, or_false] at hx
      rcases hx with rfl | rfl | rfl | rfl | rfl
      · trivial
      · trivial
      · trivial
      · exact (hR2.below (hB3.trans (hW3.mono hs3))).mono (Nat.le_refl _) (by omega)
      · exact (hR3.below hW3).mono hs2 (by omega))
    hO1.lt (by simp only [List.flatMap_cons, List.flatMap_nil, Piece.bytes, List.length_append, textB_length, h1, h2, h3, flagB, List.length_cons, List.length_nil]; omega) (by simp)
  simpa [Piece.bytes] using hl

theorem Blk.grew {w w' : World} {g : Nat} {t : TypeId} {cs : Array Value} {v v' : Value} (h : Blk w g t cs) (hg : Grew w w' v v') (hne : ∀ k, v.ownBlock = some k → k < g) : Blk w' g t cs :=
  (hg.grown.block g h.lt (fun e => by have := hne g e.symm; omega)).trans h
theorem Blk.cells4 {w : World} {g : Nat} {t : TypeId} {a b c d : Value} (k : Blk w g t #[a, b, c, d]) :
    w.cell? ⟨g, 0, none⟩ = some a ∧ w.cell? ⟨g, 1, none⟩ = some b ∧ w.cell? ⟨g, 2, none⟩ = some c ∧ w.cell? ⟨g, 3, none⟩ = some d := ⟨k.cell 0, k.cell 1, k.cell 2, k.cell 3⟩
theorem Blk.cells2 {w : World} {g : Nat} {t : TypeId} {a b : Value} (k : Blk w g t #[a, b]) : w.cell? ⟨g, 0, none⟩ = some a ∧ w.cell? ⟨g, 1, none⟩ = some b := ⟨k.cell 0, k.cell 1⟩
theorem lay_at (base n : Nat) (v0 : Value) (bs : List Nat) (ps : List Piece) (arr : Array Value) (w5 w6 : World) (hO : OwnB w5 base v0 bs) (hb : base ≤ w5.heap.size) (h56 : Below w5.heap.size w5 w6)
    (hin : ∀ x ∈ ps, x.In w6 w5.heap.size w6.heap.size) (hn : ps.length = n) (harr : (ps.map Piece.val).toArray = arr) (hlen : bs.length + (ps.flatMap Piece.bytes).length ≤ 1099511627776) (hps : n ≤ 100) :
    Calls Try.prog 57 #[v0, .slice (some ⟨w6.heap.size, 0, none⟩) n n] (w6.alloc (.cells arr 20)) (fun e w' => ∃ v', e = .returned v' ∧ OwnB w' base v' (bs ++ ps.flatMap Piece.bytes) ∧ Below base w5 w' ∧ Grew w5 w' v0 v') := by
  subst hn harr
  have hs := h56.size
  obtain ⟨W, hW⟩ : ∃ W, W = w6.alloc (.cells (ps.map Piece.val).toArray 20) := ⟨_, rfl⟩
  have hW6 : Below w6.heap.size w6 W := by rw [hW]; exact (Below.refl _ _).alloc (Nat.le_refl _) _
  have hWs := hW6.size
  have hblk : Blk W w6.heap.size 20 (ps.map Piece.val).toArray := by rw [hW]; exact Blk.new _ _ _
  rw [← hW]
  refine (page_lay base w5.heap.size ps.length v0 bs (some ⟨w6.heap.size, 0, none⟩) ps W (hO.later (h56.trans (hW6.mono hs))) (by omega) (Rd.pieces hblk hs) (fun x hx => ?_) hO.lt hlen (by omega)).mono ?_
  · have := hin x hx
    cases x with
    | text s => trivial
    | flag b => trivial
    | raw A c l => exact (Rd.below this hW6).mono (Nat.le_refl _) hWs
  · rintro e w' ⟨v', rfl, h1, h2⟩
    exact ⟨v', rfl, h1, (h56.trans (hW6.mono hs)).mono hb |>.trans (h2.below (by omega) hO.block), (Grew.of_below (h56.trans (hW6.mono hs)) v0).trans h2⟩
theorem flat_bound {α : Type} (f : α → List Nat) (B : Nat) (l : List α) (h : ∀ x ∈ l, (f x).length ≤ B) : (l.flatMap f).length ≤ B * l.length := by
  induction l with
  | nil => simp
  | cons x r ih =>
    have h1 := h x (by simp)
    have h2 := ih (fun y hy => h y (by simp [hy]))
    simp only [List.flatMap_cons, List.length_append, List.length_cons, Nat.mul_add]
    omega
theorem Page.Fine.item_len {p : Page} (h : p.Fine) {x : Item} (hx : x ∈ p.items) : x.bytes.length ≤ 73 := by
  have := h.its x hx
  simp only [Item.bytes, List.length_append, textB_length, numB_length, flagB, List.length_cons, List.length_nil]
  omega
theorem Page.Fine.kid_len {p : Page} (h : p.Fine) {x : Kid} (hx : x ∈ p.kids) : x.bytes.length ≤ 73 := by
  have := h.kds x hx
  simp only [Kid.bytes, List.length_append, textB_length, numB_length]
  omega
theorem Page.Fine.head_len {p : Page} (h : p.Fine) : p.head.length ≤ 73 := by
  have := h.low
  have := h.high
  simp only [Page.head, List.length_append, textB_length, numB_length, flagB, List.length_cons, List.length_nil]
  omega
theorem Page.Fine.items_len {p : Page} (h : p.Fine) (k : Nat) : ((p.items.take k).flatMap Item.bytes).length ≤ 8760 := by
  have h1 := flat_bound Item.bytes 73 (p.items.take k) (fun x hx => h.item_len (List.mem_of_mem_take hx))
  have h2 : (p.items.take k).length ≤ 120 := by have := h.ni; rw [List.length_take]; omega
  omega
theorem Page.Fine.kids_len {p : Page} (h : p.Fine) (k : Nat) : ((p.kids.take k).flatMap Kid.bytes).length ≤ 8760 := by
  have h1 := flat_bound Kid.bytes 73 (p.kids.take k) (fun x hx => h.kid_len (List.mem_of_mem_take hx))
  have h2 : (p.kids.take k).length ≤ 120 := by have := h.nk; rw [List.length_take]; omega
  omega
theorem take_flat' {α : Type} (f : α → List Nat) {l : List α} {k : Nat} {x : α} (hx : l[k]? = some x) : (l.take (k + 1)).flatMap f = (l.take k).flatMap f ++ f x := by
  rw [List.take_add_one, hx]; simp

set_option maxRecDepth 100000 in
set_option maxHeartbeats 4000000 in
theorem page_bytes (p : Page) (A A' : Option Addr) (c c' lo : Nat) (w : World) (hp : Pg w lo w.heap.size p A A' c c') (hf : p.Fine) :
    Calls Try.prog 29 #[p.val A c A' c'] w (PostB w p.bytes) := by
  have H1 := Lib.hid hp
  have HF := Lib.hid hf
  unfold Page.val Page.raw
  obtain ⟨ni, hni⟩ : ∃ n, n = p.items.length := ⟨_, rfl⟩
  obtain ⟨nk, hnk⟩ : ∃ n, n = p.kids.length := ⟨_, rfl⟩
  obtain ⟨lv, hlv⟩ : ∃ n, n = p.level.toNat := ⟨_, rfl⟩
  obtain ⟨sd, hsd⟩ : ∃ n, n = p.side.toNat := ⟨_, rfl⟩
  have hlv' : p.level = (lv : Int) := by have := hf.lv; omega
  have hsd' : p.side = (sd : Int) := by have := hf.sd; omega
  have hni' : ni ≤ 120 := by have := hf.ni; omega
  have hnk' : nk ≤ 120 := by have := hf.nk; omega
  rw [← hni, ← hnk, hlv', hsd']
  have HNI := Lib.hid hni
  have HNK := Lib.hid hnk
  have HLV := Lib.hid hlv
  have HSD := Lib.hid hsd
  have HLO : Hid (p.low.size ≤ 16 ∧ p.high.size ≤ 16) := Lib.hid ⟨hf.low, hf.high⟩
  clear hni hnk hp hf hlv hsd hlv' hsd'
  go_enter Try.func29, Try.ntmps29
  go_upto_region 1 with (fail)
  have hP : Blk (w.alloc (Obj.cells #[Value.int IntKind.i64 lv, Value.string p.low, Value.string p.high, Value.bool p.last, Value.int IntKind.i64 sd, Value.slice A ni c, Value.slice A' nk c'] 27)) w.heap.size 27 #[Value.int IntKind.i64 lv, Value.string p.low, Value.string p.high, Value.bool p.last, Value.int IntKind.i64 sd, Value.slice A ni c, Value.slice A' nk c'] := Blk.new _ _ _
  have hB : Below w.heap.size w (w.alloc (Obj.cells #[Value.int IntKind.i64 lv, Value.string p.low, Value.string p.high, Value.bool p.last, Value.int IntKind.i64 sd, Value.slice A ni c, Value.slice A' nk c'] 27)) := (Below.refl _ _).alloc (Nat.le_refl _) _
  generalize (w.alloc (Obj.cells #[Value.int IntKind.i64 lv, Value.string p.low, Value.string p.high, Value.bool p.last, Value.int IntKind.i64 sd, Value.slice A ni c, Value.slice A' nk c'] 27)) = w0 at *
  have HP := Lib.hid hP
  have HB := Lib.hid hB
  clear hP hB
  have hwrap : IntKind.i64.wrap ((ni : Int) + (nk : Int)) = ((ni + nk : Nat) : Int) := by
    rw [IntWalk.i64_in _ (by omega)]; omega
  have HN3 : Hid (∀ W, Calls Try.prog 58 #[.int .i64 ((ni : Int) + (nk : Int)), .int .i64 1] W (PostB W (numB (ni + nk) 1))) := Lib.hid fun W => by
    have := page_number (ni + nk) 1 (by omega) W
    rw [Int.natCast_add] at this
    exact this
  go_cut [3] (fun v wc => Hid (OwnB wc w0.heap.size v p.head) ∧ Hid (Below w0.heap.size w0 wc))
  case first =>
    obtain ⟨q0, q1, q2, q3, q4, q5, q6⟩ := Blk.cells7 HP.out
    go_region_held3 (fun w' => w'.cell? ⟨w.heap.size, 0, none⟩ = some (.int .i64 lv) ∧ w'.cell? ⟨w.heap.size, 1, none⟩ = some (.string p.low) ∧ w'.cell? ⟨w.heap.size, 2, none⟩ = some (.string p.high) ∧ w'.cell? ⟨w.heap.size, 3, none⟩ = some (.bool p.last) ∧
        w'.cell? ⟨w.heap.size, 4, none⟩ = some (.int .i64 sd) ∧ w'.cell? ⟨w.heap.size, 5, none⟩ = some (.slice A ni c) ∧ w'.cell? ⟨w.heap.size, 6, none⟩ = some (.slice A' nk c'))
      (first | go_keep | exact Blk.cells7 (HP.out.below (by assumption) HP.out.lt))
      (first
        | (go_at_call_of 58 (Value.int IntKind.i64 (lv : Int)); refine (page_number lv 1 (by omega) _).mono ?_; rintro e w1 ⟨v1, rfl, hO1, hB1⟩; have hb1 : Below w0.heap.size w0 w1 := ((Below.refl _ _).drew).trans hB1)
        | (go_at_call_of 58 (Value.int IntKind.i64 (sd : Int)); refine (page_number sd 2 (by omega) _).mono ?_; rintro e w2 ⟨v2, rfl, hO2, hB2⟩; obtain ⟨A2, c2, rfl, _, hR2, _⟩ := OwnB.form hO2 (numB_length _ _); have hb2 : Below w0.heap.size w0 w2 := hb1.trans (hB2.mono hb1.size))
        | (go_at_call 58; refine (HN3.out _).mono ?_; rintro e w3 ⟨v3, rfl, hO3, hB3⟩; obtain ⟨A3, c3, rfl, _, hR3, _⟩ := OwnB.form hO3 (numB_length _ _); have hb3 : Below w0.heap.size w0 w3 := hb2.trans (hB3.mono hb2.size))
        | (go_at_call 57; refine (lay_head p.last p.low p.high (numB lv 1) (numB sd 2) (numB (ni + nk) 1) v1 A2 A3 c2 c3 w0 w1 w2 w3 hO1 hb1 hB2 hR2 hB3 hR3 (numB_length _ _) (numB_length _ _) (numB_length _ _) HLO.out.1 HLO.out.2).mono ?_; rintro e w4 ⟨v4, rfl, hO4, hG4⟩; have hb4 : Below w0.heap.size w0 w4 := (hb3.alloc hb3.size _).trans (hG4.below (by have := hb3.size; simp; omega) hO1.block)))
    go_wp2
    go_meet
    exact ⟨Lib.hid (by unfold Page.head; rw [← HLV.out, ← HSD.out, ← HNI.out, ← HNK.out]; exact hO4), Lib.hid hb4⟩
  case rest =>
    obtain ⟨hOh, hBh⟩ := hcut
    clear HN3 hwrap
    have HPc : Hid (Blk wc w.heap.size 27 #[Value.int IntKind.i64 lv, Value.string p.low, Value.string p.high, Value.bool p.last, Value.int IntKind.i64 sd, Value.slice A ni c, Value.slice A' nk c']) := Lib.hid (HP.out.below hBh.out HP.out.lt)
    obtain ⟨q0, q1, q2, q3, q4, q5, q6⟩ := Blk.cells7 HPc.out
    go_wp2
    have HGW : Hid (w.heap.size < w0.heap.size) := Lib.hid HP.out.lt
    go_loopw [3, 38] (fun v i wr => ∃ k : Nat, k ≤ ni ∧ i = .int .i64 k ∧ Hid (OwnB wr w0.heap.size v (p.head ++ (p.items.take k).flatMap Item.bytes)) ∧ Hid (Below w0.heap.size w0 wr)) (fun _ i _ => ni - (intOf i).toNat)
    case atStart => exact ⟨0, Nat.zero_le _, rfl, Lib.hid (by simpa using hOh.out), hBh⟩
    case round =>
      obtain ⟨k, hk, rfl, HOr, HBr⟩ := hrel
      by_cases hlt : k < ni
      · obtain ⟨ad, x, rfl, hx, h1, h2, c0, c1, c2, c3⟩ := ((H1.out.items.below HB.out).below (HBr.out.mono HB.out.size)).item (i := k) (by rw [← HNI.out]; exact hlt)
        have hxm : x ∈ p.items := List.mem_of_getElem? hx.out
        obtain ⟨hx0, hx1, hx2⟩ := HF.out.its x hxm
        obtain ⟨xn, hxn⟩ : ∃ n, n = x.no.toNat := ⟨_, rfl⟩
        have hxn' : x.no = (xn : Int) := by omega
        rw [hxn'] at c2
        have HXN := Lib.hid hxn
        clear hxn hxn' hx0 hxm
        go_upto_region 5 with (fail)
        have hX := Blk.new wr 39 #[Value.string x.key, Value.string x.value, Value.int IntKind.i64 xn, Value.bool x.gone]
        have hO5 := HOr.out.later ((Below.refl wr.heap.size wr).alloc (Nat.le_refl _) (Obj.cells #[Value.string x.key, Value.string x.value, Value.int IntKind.i64 xn, Value.bool x.gone] 39))
        have hB5 := HBr.out.alloc HBr.out.size (Obj.cells #[Value.string x.key, Value.string x.value, Value.int IntKind.i64 xn, Value.bool x.gone] 39)
        generalize (wr.alloc (Obj.cells #[Value.string x.key, Value.string x.value, Value.int IntKind.i64 xn, Value.bool x.gone] 39)) = w5 at *
        have HX5 := Lib.hid hX
        have HO5 := Lib.hid hO5
        have HB5 := Lib.hid hB5
        clear hX hO5 hB5 c0 c1 c2 c3
        have y0 : w5.cell? ⟨wr.heap.size, 0, none⟩ = some (.string x.key) := HX5.out.cell 0
        have y1 : w5.cell? ⟨wr.heap.size, 1, none⟩ = some (.string x.value) := HX5.out.cell 1
        have y2 : w5.cell? ⟨wr.heap.size, 2, none⟩ = some (.int .i64 xn) := HX5.out.cell 2
        have y3 : w5.cell? ⟨wr.heap.size, 3, none⟩ = some (.bool x.gone) := HX5.out.cell 3
        have HLEN : Hid ((p.head ++ (p.items.take k).flatMap Item.bytes).length ≤ 10000) := Lib.hid (by
          have := HF.out.head_len
          have := HF.out.items_len k
          rw [List.length_append]; omega)
        have HSX : Hid (x.key.size ≤ 16 ∧ x.value.size ≤ 48) := Lib.hid ⟨hx1, hx2⟩
        clear hx1 hx2
        go_region_held3 (fun w' => w'.cell? ⟨wr.heap.size, 0, none⟩ = some (.string x.key) ∧ w'.cell? ⟨wr.heap.size, 1, none⟩ = some (.string x.value) ∧ w'.cell? ⟨wr.heap.size, 2, none⟩ = some (.int .i64 xn) ∧ w'.cell? ⟨wr.heap.size, 3, none⟩ = some (.bool x.gone))
          (first | go_keep | exact Blk.cells4 (by assumption))
          (first
            | (go_at_call 58; refine (page_number xn 6 (by omega) _).mono ?_; rintro e w6 ⟨v6, rfl, hO6, hB6⟩; have hb6 : Below w5.heap.size w5 w6 := ((Below.refl _ _).drew).trans hB6; obtain ⟨A6, c6, rfl, _, hR6, _⟩ := OwnB.form hO6 (numB_length _ _); have hX6 := HX5.out.below hb6 HX5.out.lt)
            | (go_at_call 57; refine (lay_at w0.heap.size 4 u3 _ [.text x.key, .raw A6 c6 (numB xn 6), .flag x.gone, .text x.value] _ w5 _ HO5.out HB5.out.size hb6 (by
                intro z hz
                simp only [List.mem_cons, List.not_mem_nil, or_false] at hz
                rcases hz with rfl | rfl | rfl | rfl
                · trivial
                · exact hR6
                · trivial
                · trivial) rfl rfl (by
                have := HLEN.out
                have := HSX.out
                simp only [List.flatMap_cons, List.flatMap_nil, Piece.bytes, List.length_append, textB_length, numB_length, flagB, List.length_cons, List.length_nil] at *
                omega) (by omega)).mono ?_; rintro e w7 ⟨v7, rfl, hO7, hB7, hG7⟩; have hb7 : Below w0.heap.size w0 w7 := HB5.out.trans hB7; have hX7 := HX5.out.grew hG7 HOr.out.lt))
        go_wp2
        go_roundw
        case rel => exact ⟨k + 1, by omega, by go_num, Lib.hid (by
          rw [take_flat' Item.bytes hx.out]
          have := hO7
          simp only [List.flatMap_cons, List.flatMap_nil, Piece.bytes, List.append_nil] at this
          rw [List.append_assoc] at this
          unfold Item.bytes
          rw [← HXN.out]
          exact this), Lib.hid hb7⟩
        case measure => simp [intOf]; omega
      · obtain rfl : k = ni := by omega
        have HOi : Hid (OwnB wr w0.heap.size u3 (p.head ++ p.items.flatMap Item.bytes)) := Lib.hid (by
          have := HOr.out
          rw [HNI.out, List.take_length] at this
          exact this)
        have HPr : Hid (Blk wr w.heap.size 27 #[Value.int IntKind.i64 lv, Value.string p.low, Value.string p.high, Value.bool p.last, Value.int IntKind.i64 sd, Value.slice A k c, Value.slice A' nk c']) := Lib.hid (HP.out.below HBr.out HP.out.lt)
        clear q0 q1 q2 q3 q4 q5 q6
        obtain ⟨q0, q1, q2, q3, q4, q5, q6⟩ := Blk.cells7 HPr.out
        go_wp2
        go_loopw [3, 62] (fun v i wr => ∃ j : Nat, j ≤ nk ∧ i = .int .i64 j ∧ Hid (OwnB wr w0.heap.size v ((p.head ++ p.items.flatMap Item.bytes) ++ (p.kids.take j).flatMap Kid.bytes)) ∧ Hid (Below w0.heap.size w0 wr)) (fun _ i _ => nk - (intOf i).toNat)
        case atStart => exact ⟨0, Nat.zero_le _, rfl, Lib.hid (by simpa using HOi.out), HBr⟩
        case round =>
          obtain ⟨j, hj, rfl, HOs, HBs⟩ := hrel
          by_cases hlt2 : j < nk
          · obtain ⟨ad, x, rfl, hx, h1, h2, c0, c1⟩ := ((H1.out.kids.below HB.out).below (HBs.out.mono HB.out.size)).kid (i := j) (by rw [← HNK.out]; exact hlt2)
            have hxm : x ∈ p.kids := List.mem_of_getElem? hx.out
            obtain ⟨hx0, hx1⟩ := HF.out.kds x hxm
            obtain ⟨xn, hxn⟩ : ∃ n, n = x.page.toNat := ⟨_, rfl⟩
            have hxn' : x.page = (xn : Int) := by omega
            rw [hxn'] at c1
            have HXN := Lib.hid hxn
            clear hxn hxn' hx0 hxm
            go_upto_region 10 with (fail)
            have hX := Blk.new wr 60 #[Value.string x.key, Value.int IntKind.i64 xn]
            have hO5 := HOs.out.later ((Below.refl wr.heap.size wr).alloc (Nat.le_refl _) (Obj.cells #[Value.string x.key, Value.int IntKind.i64 xn] 60))
            have hB5 := HBs.out.alloc HBs.out.size (Obj.cells #[Value.string x.key, Value.int IntKind.i64 xn] 60)
            generalize (wr.alloc (Obj.cells #[Value.string x.key, Value.int IntKind.i64 xn] 60)) = w5 at *
            have HX5 := Lib.hid hX
            have HO5 := Lib.hid hO5
            have HB5 := Lib.hid hB5
            clear hX hO5 hB5 c0 c1
            have y0 : w5.cell? ⟨wr.heap.size, 0, none⟩ = some (.string x.key) := HX5.out.cell 0
            have y1 : w5.cell? ⟨wr.heap.size, 1, none⟩ = some (.int .i64 xn) := HX5.out.cell 1
            have HLEN : Hid (((p.head ++ p.items.flatMap Item.bytes) ++ (p.kids.take j).flatMap Kid.bytes).length ≤ 20000) := Lib.hid (by
              have := HF.out.head_len
              have := HF.out.kids_len j
              have := HF.out.items_len p.items.length
              rw [List.take_length] at this
              rw [List.length_append, List.length_append]; omega)
            have HSX : Hid (x.key.size ≤ 16) := Lib.hid hx1
            clear hx1
            go_region_held3 (fun w' => w'.cell? ⟨wr.heap.size, 0, none⟩ = some (.string x.key) ∧ w'.cell? ⟨wr.heap.size, 1, none⟩ = some (.int .i64 xn))
              (first | go_keep | exact Blk.cells2 (by assumption))
              (first
                | (go_at_call 58; refine (page_number xn 2 (by omega) _).mono ?_; rintro e w6 ⟨v6, rfl, hO6, hB6⟩; have hb6 : Below w5.heap.size w5 w6 := ((Below.refl _ _).drew).trans hB6; obtain ⟨A6, c6, rfl, _, hR6, _⟩ := OwnB.form hO6 (numB_length _ _); have hX6 := HX5.out.below hb6 HX5.out.lt)
                | (go_at_call 57; refine (lay_at w0.heap.size 2 u3 _ [.text x.key, .raw A6 c6 (numB xn 2)] _ w5 _ HO5.out HB5.out.size hb6 (by
                    intro z hz
                    simp only [List.mem_cons, List.not_mem_nil, or_false] at hz
                    rcases hz with rfl | rfl
                    · trivial
                    · exact hR6) rfl rfl (by
                    have := HLEN.out
                    have := HSX.out
                    simp only [List.flatMap_cons, List.flatMap_nil, Piece.bytes, List.length_append, textB_length, numB_length, List.length_cons, List.length_nil] at *
                    omega) (by omega)).mono ?_; rintro e w7 ⟨v7, rfl, hO7, hB7, hG7⟩; have hb7 : Below w0.heap.size w0 w7 := HB5.out.trans hB7; have hX7 := HX5.out.grew hG7 HOs.out.lt))
            go_wp2
            go_roundw
            case rel => exact ⟨j + 1, by omega, by go_num, Lib.hid (by
              rw [take_flat' Kid.bytes hx.out]
              have := hO7
              simp only [List.flatMap_cons, List.flatMap_nil, Piece.bytes, List.append_nil] at this
              rw [List.append_assoc _ _ (textB x.key ++ _)] at this
              unfold Kid.bytes
              rw [← HXN.out]
              exact this), Lib.hid hb7⟩
            case measure => simp [intOf]; omega
          · obtain rfl : j = nk := by omega
            go_wp2
            go_ret
            exact ⟨_, rfl, by
              have := HOs.out
              rw [HNK.out, List.take_length, List.append_assoc] at this
              exact (OwnB.mono this HB.out.size), HB.out.trans (HBs.out.mono HB.out.size)⟩
end Go.Proofs.Ytjbdmaehomhdeaa
