/- The reference's Split: its walk. -/
import Derived.Test.YtjbdmaehomhdeaaZT
import Derived.Test.YtjbdmaehomhdeaaRj
namespace Go.Proofs.Ytjbdmaehomhdeaa
open Go.RowKit

theorem splitFits_ref {p : Page} (hok : p.ok = true) (s : ByteArray) (n : Int) : p.splitFits s n = ((isKey s && isPage n) && (p.covers s && (!same s p.low && !(decide (0 < p.level) && decide (hasN p.kids s < 0))))) := by
  have h := hasN_eq (Page.sortedK hok) s
  have h2 : decide (hasN p.kids s < 0) = !isAt Kid.key p.kids s := by
    rw [h]
    cases isAt Kid.key p.kids s with
    | true => rw [if_pos rfl]; simp
    | false => rw [if_neg (by decide)]; rfl
  unfold Page.splitFits
  rw [h2]
  cases isKey s <;> cases isPage n <;> cases p.covers s <;> cases same s p.low <;> simp

/-- two copies of the page into new blocks -/
structure SaJ (w w0 : World) (bs : List (TypeId × Array Value)) (T : TypeId) (V : Array Value) (D : Nat → Bool) (X : Nat → Value) (W : World) : Prop where
  fr : Fr w W bs
  gt : w0.heap.size ≤ W.heap.size
  l0 : D 0 = true → X 59 = .agg V
  l1 : D 1 = true → X 60 = .agg V
  a2 : D 2 = true → ∃ g cs, X 13 = .pointer (some ⟨g, 0, none⟩) ∧ w0.heap.size ≤ g ∧ cs.size = 7 ∧ Blk W g T cs ∧ (D 4 = true → cs = V)
  a3 : D 3 = true → ∃ g cs, X 14 = .pointer (some ⟨g, 0, none⟩) ∧ w0.heap.size ≤ g ∧ cs.size = 7 ∧ Blk W g T cs ∧ (D 5 = true → cs = V)
  ne : D 2 = true → D 3 = true → X 13 ≠ X 14
  d4 : D 4 = true → D 2 = true
  d5 : D 5 = true → D 3 = true
section
variable {w w0 : World} {bs : List (TypeId × Array Value)} {T : TypeId} {V : Array Value} {D : Nat → Bool} {X : Nat → Value} {W : World}
theorem SaJ.no4 (h : SaJ w w0 bs T V D X W) (h1 : D 2 = false) : D 4 = false := by
  cases hq : D 4 with
  | false => rfl
  | true => have := h.d4 hq; rw [h1] at this; cases this
theorem SaJ.no5 (h : SaJ w w0 bs T V D X W) (h1 : D 3 = false) : D 5 = false := by
  cases hq : D 5 with
  | false => rfl
  | true => have := h.d5 hq; rw [h1] at this; cases this
theorem SaJ.load0 (h : SaJ w w0 bs T V D X W) : SaJ w w0 bs T V (on1 D 0) (put1 X 59 (.agg V)) W := by
  refine ⟨?_, ?_, ?_, ?_, ?_, ?_, ?_, ?_, ?_⟩ <;> try simp only [on1_ne (show 1 ≠ 0 by decide), on1_ne (show 2 ≠ 0 by decide), on1_ne (show 3 ≠ 0 by decide), on1_ne (show 4 ≠ 0 by decide), on1_ne (show 5 ≠ 0 by decide), put1_ne (show 60 ≠ 59 by decide), put1_ne (show 13 ≠ 59 by decide), put1_ne (show 14 ≠ 59 by decide), on1_eq, put1_eq]
  · exact h.fr
  · exact h.gt
  · exact fun _ => trivial
  · exact h.l1
  · exact h.a2
  · exact h.a3
  · exact h.ne
  · exact h.d4
  · exact h.d5
theorem SaJ.load1 (h : SaJ w w0 bs T V D X W) : SaJ w w0 bs T V (on1 D 1) (put1 X 60 (.agg V)) W := by
  refine ⟨?_, ?_, ?_, ?_, ?_, ?_, ?_, ?_, ?_⟩ <;> try simp only [on1_ne (show 0 ≠ 1 by decide), on1_ne (show 2 ≠ 1 by decide), on1_ne (show 3 ≠ 1 by decide), on1_ne (show 4 ≠ 1 by decide), on1_ne (show 5 ≠ 1 by decide), put1_ne (show 59 ≠ 60 by decide), put1_ne (show 13 ≠ 60 by decide), put1_ne (show 14 ≠ 60 by decide), on1_eq, put1_eq]
  · exact h.fr
  · exact h.gt
  · exact h.l0
  · exact fun _ => trivial
  · exact h.a2
  · exact h.a3
  · exact h.ne
  · exact h.d4
  · exact h.d5
theorem SaJ.alloc2 (h : SaJ w w0 bs T V D X W) (hD : D 2 = false) {cs : Array Value} (hs : cs.size = 7) : SaJ w w0 bs T V (on1 D 2) (put1 X 13 (.pointer (some ⟨W.heap.size, 0, none⟩))) (W.alloc (.cells cs T)) := by
  have hb : Below W.heap.size W (W.alloc (.cells cs T)) := (Below.refl _ _).alloc (Nat.le_refl _) _
  refine ⟨?_, ?_, ?_, ?_, ?_, ?_, ?_, ?_, ?_⟩ <;> try simp only [on1_ne (show 0 ≠ 2 by decide), on1_ne (show 1 ≠ 2 by decide), on1_ne (show 3 ≠ 2 by decide), on1_ne (show 4 ≠ 2 by decide), on1_ne (show 5 ≠ 2 by decide), put1_ne (show 59 ≠ 13 by decide), put1_ne (show 60 ≠ 13 by decide), put1_ne (show 14 ≠ 13 by decide), on1_eq, put1_eq]
  · exact h.fr.on hb
  · exact Nat.le_trans h.gt hb.size
  · exact h.l0
  · exact h.l1
  · exact fun _ => ⟨W.heap.size, cs, rfl, h.gt, hs, Blk.new _ _ _, fun h4 => by rw [h.no4 hD] at h4; cases h4⟩
  · exact fun h3 => (h.a3 h3).elim fun g ⟨cs, a, b, c, d, e⟩ => ⟨g, cs, a, b, c, d.below hb d.lt, e⟩
  · intro _ h3 e
    obtain ⟨g, cs, a, b, c, d, _⟩ := h.a3 h3
    rw [a] at e
    cases e
    exact Nat.lt_irrefl _ d.lt
  · exact fun _ => trivial
  · exact h.d5
theorem SaJ.alloc3 (h : SaJ w w0 bs T V D X W) (hD : D 3 = false) {cs : Array Value} (hs : cs.size = 7) : SaJ w w0 bs T V (on1 D 3) (put1 X 14 (.pointer (some ⟨W.heap.size, 0, none⟩))) (W.alloc (.cells cs T)) := by
  have hb : Below W.heap.size W (W.alloc (.cells cs T)) := (Below.refl _ _).alloc (Nat.le_refl _) _
  refine ⟨?_, ?_, ?_, ?_, ?_, ?_, ?_, ?_, ?_⟩ <;> try simp only [on1_ne (show 0 ≠ 3 by decide), on1_ne (show 1 ≠ 3 by decide), on1_ne (show 2 ≠ 3 by decide), on1_ne (show 4 ≠ 3 by decide), on1_ne (show 5 ≠ 3 by decide), put1_ne (show 59 ≠ 14 by decide), put1_ne (show 60 ≠ 14 by decide), put1_ne (show 13 ≠ 14 by decide), on1_eq, put1_eq]
  · exact h.fr.on hb
  · exact Nat.le_trans h.gt hb.size
  · exact h.l0
  · exact h.l1
  · exact fun h3 => (h.a2 h3).elim fun g ⟨cs, a, b, c, d, e⟩ => ⟨g, cs, a, b, c, d.below hb d.lt, e⟩
  · exact fun _ => ⟨W.heap.size, cs, rfl, h.gt, hs, Blk.new _ _ _, fun h4 => by rw [h.no5 hD] at h4; cases h4⟩
  · intro h3 _ e
    obtain ⟨g, cs, a, b, c, d, _⟩ := h.a2 h3
    rw [a] at e
    cases e
    exact Nat.lt_irrefl _ d.lt
  · exact h.d4
  · exact fun _ => trivial
theorem SaJ.store4 (h : SaJ w w0 bs T V D X W) (h2 : D 2 = true) {W' : World} {g : Nat} (hg : X 13 = .pointer (some ⟨g, 0, none⟩)) (hge : w0.heap.size ≤ g) (h0 : w.heap.size + bs.length ≤ w0.heap.size) (hV : V.size = 7) (hT : Turned W W' g) (hB : Blk W' g T V) : SaJ w w0 bs T V (on1 D 4) X W' := by
  refine ⟨?_, ?_, ?_, ?_, ?_, ?_, ?_, ?_, ?_⟩ <;> try simp only [on1_ne (show 0 ≠ 4 by decide), on1_ne (show 1 ≠ 4 by decide), on1_ne (show 2 ≠ 4 by decide), on1_ne (show 3 ≠ 4 by decide), on1_ne (show 5 ≠ 4 by decide), on1_eq]
  · exact h.fr.on' (hT.below (Below.refl (w.heap.size + bs.length) W) (by omega) h.fr.sz) (Nat.le_refl _) h.fr.sz
  · rw [hT.sz]; exact h.gt
  · exact h.l0
  · exact h.l1
  · exact fun _ => ⟨g, V, hg, hge, hV, hB, fun _ => rfl⟩
  · intro h3
    obtain ⟨g', cs, a, b, c, d, e⟩ := h.a3 h3
    refine ⟨g', cs, a, b, c, hT.blk d (fun e2 => ?_), e⟩
    subst e2
    exact h.ne h2 h3 (hg.trans a.symm)
  · exact h.ne
  · exact fun _ => h2
  · exact h.d5
theorem SaJ.store5 (h : SaJ w w0 bs T V D X W) (h2 : D 3 = true) {W' : World} {g : Nat} (hg : X 14 = .pointer (some ⟨g, 0, none⟩)) (hge : w0.heap.size ≤ g) (h0 : w.heap.size + bs.length ≤ w0.heap.size) (hV : V.size = 7) (hT : Turned W W' g) (hB : Blk W' g T V) : SaJ w w0 bs T V (on1 D 5) X W' := by
  refine ⟨?_, ?_, ?_, ?_, ?_, ?_, ?_, ?_, ?_⟩ <;> try simp only [on1_ne (show 0 ≠ 5 by decide), on1_ne (show 1 ≠ 5 by decide), on1_ne (show 2 ≠ 5 by decide), on1_ne (show 3 ≠ 5 by decide), on1_ne (show 4 ≠ 5 by decide), on1_eq]
  · exact h.fr.on' (hT.below (Below.refl (w.heap.size + bs.length) W) (by omega) h.fr.sz) (Nat.le_refl _) h.fr.sz
  · rw [hT.sz]; exact h.gt
  · exact h.l0
  · exact h.l1
  · intro h3
    obtain ⟨g', cs, a, b, c, d, e⟩ := h.a2 h3
    refine ⟨g', cs, a, b, c, hT.blk d (fun e2 => ?_), e⟩
    subst e2
    exact h.ne h3 h2 (hg.trans a.symm).symm
  · exact fun _ => ⟨g, V, hg, hge, hV, hB, fun _ => rfl⟩
  · exact h.ne
  · exact h.d4
  · exact fun _ => h2
end

/-- the two results -/
structure SfJ (w w0 : World) (T : TypeId) (g1 g2 : Nat) (A1 A2 : Array Value) (D : Nat → Bool) (X : Nat → Value) (W : World) : Prop where
  be : Below w.heap.size w W
  sz : W.heap.size = w0.heap.size
  oth : ∀ k, w.heap.size + 3 ≤ k → W.heap[k]? = w0.heap[k]?
  b1 : Blk w0 g1 T A1
  b2 : Blk w0 g2 T A2
  ge : w.heap.size + 3 ≤ g1 ∧ w.heap.size + 3 ≤ g2 ∧ w.heap.size + 3 ≤ w0.heap.size
  l0 : D 0 = true → X 142 = .agg A1
  l1 : D 1 = true → X 143 = .agg A2
  s2 : ∃ a, a.size = 7 ∧ Blk W (w.heap.size + 1) T a ∧ (D 2 = true → a = A1)
  s3 : ∃ a, a.size = 7 ∧ Blk W (w.heap.size + 2) T a ∧ (D 3 = true → a = A2)
  e4 : D 4 = true → X 8 = .int .i64 0
section
variable {w w0 : World} {T : TypeId} {g1 g2 : Nat} {A1 A2 : Array Value} {D : Nat → Bool} {X : Nat → Value} {W : World}
theorem SfJ.load0 (h : SfJ w w0 T g1 g2 A1 A2 D X W) : SfJ w w0 T g1 g2 A1 A2 (on1 D 0) (put1 X 142 (.agg A1)) W := by
  refine ⟨?_, ?_, ?_, ?_, ?_, ?_, ?_, ?_, ?_, ?_, ?_⟩ <;> try simp only [on1_ne (show 1 ≠ 0 by decide), on1_ne (show 2 ≠ 0 by decide), on1_ne (show 3 ≠ 0 by decide), on1_ne (show 4 ≠ 0 by decide), put1_ne (show 143 ≠ 142 by decide), put1_ne (show 8 ≠ 142 by decide), on1_eq, put1_eq]
  · exact h.be
  · exact h.sz
  · exact h.oth
  · exact h.b1
  · exact h.b2
  · exact h.ge
  · exact fun _ => trivial
  · exact h.l1
  · exact h.s2
  · exact h.s3
  · exact h.e4
theorem SfJ.load1 (h : SfJ w w0 T g1 g2 A1 A2 D X W) : SfJ w w0 T g1 g2 A1 A2 (on1 D 1) (put1 X 143 (.agg A2)) W := by
  refine ⟨?_, ?_, ?_, ?_, ?_, ?_, ?_, ?_, ?_, ?_, ?_⟩ <;> try simp only [on1_ne (show 0 ≠ 1 by decide), on1_ne (show 2 ≠ 1 by decide), on1_ne (show 3 ≠ 1 by decide), on1_ne (show 4 ≠ 1 by decide), put1_ne (show 142 ≠ 143 by decide), put1_ne (show 8 ≠ 143 by decide), on1_eq, put1_eq]
  · exact h.be
  · exact h.sz
  · exact h.oth
  · exact h.b1
  · exact h.b2
  · exact h.ge
  · exact h.l0
  · exact fun _ => trivial
  · exact h.s2
  · exact h.s3
  · exact h.e4
theorem SfJ.store2 (h : SfJ w w0 T g1 g2 A1 A2 D X W) {W' : World} (hV : A1.size = 7) (hT : Turned W W' (w.heap.size + 1)) (hB : Blk W' (w.heap.size + 1) T A1) : SfJ w w0 T g1 g2 A1 A2 (on1 D 2) X W' := by
  refine ⟨?_, ?_, ?_, ?_, ?_, ?_, ?_, ?_, ?_, ?_, ?_⟩ <;> try simp only [on1_ne (show 0 ≠ 2 by decide), on1_ne (show 1 ≠ 2 by decide), on1_ne (show 3 ≠ 2 by decide), on1_ne (show 4 ≠ 2 by decide), on1_eq]
  · exact hT.below h.be (by omega) (by have := h.sz; have := h.ge; omega)
  · rw [hT.sz]; exact h.sz
  · exact fun k hk => (hT.other (by omega)).trans (h.oth k hk)
  · exact h.b1
  · exact h.b2
  · exact h.ge
  · exact h.l0
  · exact h.l1
  · exact ⟨A1, hV, hB, fun _ => rfl⟩
  · exact h.s3.elim fun a ha => ⟨a, ha.1, hT.blk ha.2.1 (by omega), ha.2.2⟩
  · exact h.e4
theorem SfJ.store3 (h : SfJ w w0 T g1 g2 A1 A2 D X W) {W' : World} (hV : A2.size = 7) (hT : Turned W W' (w.heap.size + 2)) (hB : Blk W' (w.heap.size + 2) T A2) : SfJ w w0 T g1 g2 A1 A2 (on1 D 3) X W' := by
  refine ⟨?_, ?_, ?_, ?_, ?_, ?_, ?_, ?_, ?_, ?_, ?_⟩ <;> try simp only [on1_ne (show 0 ≠ 3 by decide), on1_ne (show 1 ≠ 3 by decide), on1_ne (show 2 ≠ 3 by decide), on1_ne (show 4 ≠ 3 by decide), on1_eq]
  · exact hT.below h.be (by omega) (by have := h.sz; have := h.ge; omega)
  · rw [hT.sz]; exact h.sz
  · exact fun k hk => (hT.other (by omega)).trans (h.oth k hk)
  · exact h.b1
  · exact h.b2
  · exact h.ge
  · exact h.l0
  · exact h.l1
  · exact h.s2.elim fun a ha => ⟨a, ha.1, hT.blk ha.2.1 (by omega), ha.2.2⟩
  · exact ⟨A2, hV, hB, fun _ => rfl⟩
  · exact h.e4
theorem SfJ.assign4 (h : SfJ w w0 T g1 g2 A1 A2 D X W) : SfJ w w0 T g1 g2 A1 A2 (on1 D 4) (put1 X 8 (.int .i64 0)) W := by
  refine ⟨?_, ?_, ?_, ?_, ?_, ?_, ?_, ?_, ?_, ?_, ?_⟩ <;> try simp only [on1_ne (show 0 ≠ 4 by decide), on1_ne (show 1 ≠ 4 by decide), on1_ne (show 2 ≠ 4 by decide), on1_ne (show 3 ≠ 4 by decide), put1_ne (show 142 ≠ 8 by decide), put1_ne (show 143 ≠ 8 by decide), on1_eq, put1_eq]
  · exact h.be
  · exact h.sz
  · exact h.oth
  · exact h.b1
  · exact h.b2
  · exact h.ge
  · exact h.l0
  · exact h.l1
  · exact h.s2
  · exact h.s3
  · exact fun _ => trivial
end

theorem PostS2.nothing {w w' : World} {n : Int} (hb : Below w.heap.size w w') : PostS2 w Page.zero Page.zero n (.returned (.tuple #[.agg #[Value.int IntKind.i64 0, Value.string { data := #[] }, Value.string { data := #[] }, Value.bool false, Value.int IntKind.i64 0, Value.slice none 0 0, Value.slice none 0 0], .agg #[Value.int IntKind.i64 0, Value.string { data := #[] }, Value.string { data := #[] }, Value.bool false, Value.int IntKind.i64 0, Value.slice none 0 0, Value.slice none 0 0], .int .i64 n])) w' :=
  ⟨none, none, 0, 0, none, none, 0, 0, rfl, ⟨Rd.nil, Rd.nil, Nat.le_refl _, Nat.le_refl _, Nat.zero_le _, Nat.zero_le _⟩, ⟨Rd.nil, Rd.nil, Nat.le_refl _, Nat.le_refl _, Nat.zero_le _, Nat.zero_le _⟩, hb⟩

set_option maxRecDepth 100000 in
set_option maxHeartbeats 20000000 in
theorem ref_Split (p : Page) (A A' : Option Addr) (c c' lo : Nat) (s : ByteArray) (n : Int) (w : World) (hp : Pg w lo w.heap.size p A A' c c') :
    Calls Try.prog 17 #[p.val A c A' c', .string s, .int .i64 n] w (PostS2 w (p.splitP s n) (p.splitR s n) (p.splitE s n)) := by
  have HCH := Lib.hid (fun w1 h => ref_Check p A A' c c' lo w1 h)
  have HHS := Lib.hid (fun w1 h => ref_has p A A' c c' lo s w1 h)
  have HCV := Lib.hid (fun n1 n2 w1 => ref_Covers p A A' n1 c n2 c' s w1)
  have H1 := Lib.hid hp
  clear hp
  unfold Page.val Page.raw at HCH HHS
  unfold Page.raw at HCV
  unfold Page.val Page.raw
  obtain ⟨ni, hni⟩ : ∃ n, n = p.items.length := ⟨_, rfl⟩
  obtain ⟨nk, hnk⟩ : ∃ n, n = p.kids.length := ⟨_, rfl⟩
  obtain ⟨lv, hlv⟩ : ∃ n, n = p.level := ⟨_, rfl⟩
  rw [← hni, ← hnk, ← hlv]
  rw [← hni, ← hnk, ← hlv] at HCH HHS
  rw [← hlv] at HCV
  have HNI := Lib.hid hni
  have HNK := Lib.hid hnk
  have HLV := Lib.hid hlv
  clear hni hnk hlv
  have hF := Fr.three w 27 27 27 #[Value.int IntKind.i64 lv, Value.string p.low, Value.string p.high, Value.bool p.last, Value.int IntKind.i64 p.side, Value.slice A ni c, Value.slice A' nk c'] #[Value.int IntKind.i64 0, Value.string { data := #[] }, Value.string { data := #[] }, Value.bool false, Value.int IntKind.i64 0, Value.slice none 0 0, Value.slice none 0 0] #[Value.int IntKind.i64 0, Value.string { data := #[] }, Value.string { data := #[] }, Value.bool false, Value.int IntKind.i64 0, Value.slice none 0 0, Value.slice none 0 0]
  go_enter Try.func17, Try.ntmps17
  go_upto_region 1 with (fail)
  generalize ((w.alloc (.cells #[Value.int IntKind.i64 lv, Value.string p.low, Value.string p.high, Value.bool p.last, Value.int IntKind.i64 p.side, Value.slice A ni c, Value.slice A' nk c'] 27)).alloc (.cells #[Value.int IntKind.i64 0, Value.string { data := #[] }, Value.string { data := #[] }, Value.bool false, Value.int IntKind.i64 0, Value.slice none 0 0, Value.slice none 0 0] 27)).alloc (.cells #[Value.int IntKind.i64 0, Value.string { data := #[] }, Value.string { data := #[] }, Value.bool false, Value.int IntKind.i64 0, Value.slice none 0 0, Value.slice none 0 0] 27) = w0 at *
  have HF0 := Lib.hid hF
  clear hF
  obtain ⟨z0, z1, z2, z3, z4, z5, z6⟩ := Blk.cells7 HF0.out.b0
  go_wp2_with fail
  refine (HCH.out w0 ((H1.out.below HF0.out.be).mono (Nat.le_refl _) HF0.out.be.size)).mono ?_
  rintro e w1 ⟨rfl, hb1⟩
  have HF1 := Lib.hid (HF0.out.on hb1)
  clear hb1 z0 z1 z2 z3 z4 z5 z6
  cases hok : p.ok with
  | false =>
    have HC : Hid (p.check = 101) := Lib.hid (by unfold Page.check; rw [hok]; rfl)
    have HOK := Lib.hid hok
    clear hok
    rw [HC.out]
    go_wp2_with (first
    | (refine wpList_store_row rfl 27 _ _ rfl rfl (w.heap.size + 2) rfl _ _ _ rfl HFA.out.b2 rfl (by kernel_rfl) (List.all_eq_true.1 rfl) ?_; rintro wB hTB hBB; have HFB := Lib.hid (HFA.out.t2 hTB hBB); clear hTB hBB)
    | (refine wpList_store_row rfl 27 _ _ rfl rfl (w.heap.size + 1) rfl _ _ _ rfl HF1.out.b1 rfl (by kernel_rfl) (List.all_eq_true.1 rfl) ?_; rintro wA hTA hBA; have HFA := Lib.hid (HF1.out.t1 hTA hBA); clear hTA hBA))
    exact bodyPost_ret (v := .tuple #[.agg #[Value.int IntKind.i64 0, Value.string { data := #[] }, Value.string { data := #[] }, Value.bool false, Value.int IntKind.i64 0, Value.slice none 0 0, Value.slice none 0 0], .agg #[Value.int IntKind.i64 0, Value.string { data := #[] }, Value.string { data := #[] }, Value.bool false, Value.int IntKind.i64 0, Value.slice none 0 0, Value.slice none 0 0], .int .i64 101]) (results_row3 rfl _ _ (w.heap.size + 1) (w.heap.size + 2) _ _ _ _ _ _ _ _ rfl HFB.out.b1 Try.underlying27 rfl (by kernel_rfl) rfl HFB.out.b2 Try.underlying27 rfl (by kernel_rfl) rfl) rfl (by rw [show p.splitE s n = 101 by unfold Page.splitE; rw [HOK.out]; rfl, show p.splitP s n = Page.zero by unfold Page.splitP; rw [HOK.out]; rfl, show p.splitR s n = Page.zero by unfold Page.splitR; rw [HOK.out]; rfl]; exact PostS2.nothing HFB.out.be)
  | true =>
    have HC : Hid (p.check = 0) := Lib.hid (by unfold Page.check; rw [hok]; rfl)
    have HOK := Lib.hid hok
    have HSF := Lib.hid (splitFits_ref hok s n)
    clear hok
    rw [HC.out]
    obtain ⟨z0, z1, z2, z3, z4, z5, z6⟩ := Blk.cells7 HF1.out.b0
    obtain ⟨ik, hik⟩ : ∃ b, b = isKey s := ⟨_, rfl⟩
    obtain ⟨ip, hip⟩ : ∃ b, b = isPage n := ⟨_, rfl⟩
    rw [← hik, ← hip] at HSF
    have HKY := Lib.hid (fun w1 => ref_key s w1)
    have HNU := Lib.hid (fun w1 => ref_number n w1)
    rw [← hik] at HKY
    rw [← hip] at HNU
    clear hik hip
    go_upto_region 4 with (fail)
    go_cut [10] (fun v wc => v = .bool (ik && ip) ∧ w1 = wc)
    case first =>
      cases ik with
      | false =>
        go_wp2_with (go_at_call 40; refine (HKY.out _).mono ?_; rintro e w2 ⟨rfl, rfl⟩)
        go_meet
        exact ⟨rfl, rfl⟩
      | true =>
        go_wp2_with (first
          | (go_at_call 40; refine (HKY.out _).mono ?_; rintro e w2 ⟨rfl, rfl⟩)
          | (go_at_call 41; refine (HNU.out _).mono ?_; rintro e w2 ⟨rfl, rfl⟩))
        go_meet
        exact ⟨rfl, rfl⟩
    case rest =>
      obtain ⟨rfl, rfl⟩ := hcut
      obtain ⟨kp, hkp⟩ : ∃ b, b = (ik && ip) := ⟨_, rfl⟩
      rw [← hkp]
      rw [← hkp] at HSF
      clear hkp
      go_wp2_with fail
      refine (HCV.out ni nk w1).mono ?_
      rintro e w2 ⟨rfl, hb2⟩
      obtain ⟨cv, hcv⟩ : ∃ b, b = p.covers s := ⟨_, rfl⟩
      rw [← hcv]
      rw [← hcv] at HSF
      have HF2 := Lib.hid (HF1.out.on hb2)
      clear hcv hb2 z0 z1 z2 z3 z4 z5 z6
      obtain ⟨z0, z1, z2, z3, z4, z5, z6⟩ := Blk.cells7 HF2.out.b0
      go_wp2_with fail
      refine (HHS.out w2 ((H1.out.below HF2.out.be).mono (Nat.le_refl _) HF2.out.be.size)).mono ?_
      rintro e w3 ⟨rfl, hb3⟩
      obtain ⟨hn, hhn⟩ : ∃ b, b = hasN p.kids s := ⟨_, rfl⟩
      rw [← hhn]
      rw [← hhn, ← HLV.out] at HSF
      have HF3 := Lib.hid (HF2.out.on hb3)
      clear hhn hb3 z0 z1 z2 z3 z4 z5 z6
      obtain ⟨z0, z1, z2, z3, z4, z5, z6⟩ := Blk.cells7 HF3.out.b0
      go_upto_region 7 with (fail)
      go_cut [56] (fun v wx => v = .bool (!p.splitFits s n) ∧ w3 = wx)
      case first =>
        cases kp with
        | false => go_wp2; go_meet; exact ⟨by rw [HSF.out]; rfl, rfl⟩
        | true =>
          cases cv with
          | false => go_wp2; go_meet; exact ⟨by rw [HSF.out]; rfl, rfl⟩
          | true =>
            cases hsl : (s.toList == p.low.toList) with
            | true =>
              have HSL : Hid (same s p.low = true) := Lib.hid hsl
              go_wp2
              go_meet
              exact ⟨by rw [HSF.out, HSL.out]; rfl, rfl⟩
            | false =>
              have HSL : Hid (same s p.low = false) := Lib.hid hsl
              by_cases hl0 : 0 < lv
              · by_cases hn0 : hn < 0
                · have HQ : Hid ((decide (0 < lv) && decide (hn < 0)) = true) := Lib.hid (by rw [decide_eq_true hl0, decide_eq_true hn0]; rfl)
                  go_wp2
                  go_meet
                  exact ⟨by rw [HSF.out, HSL.out, HQ.out]; rfl, rfl⟩
                · have HQ : Hid ((decide (0 < lv) && decide (hn < 0)) = false) := Lib.hid (by rw [decide_eq_true hl0, decide_eq_false hn0]; rfl)
                  go_wp2
                  go_meet
                  exact ⟨by rw [HSF.out, HSL.out, HQ.out]; rfl, rfl⟩
              · have HQ : Hid ((decide (0 < lv) && decide (hn < 0)) = false) := Lib.hid (by rw [decide_eq_false hl0]; rfl)
                go_wp2
                go_meet
                exact ⟨by rw [HSF.out, HSL.out, HQ.out]; rfl, rfl⟩
      case rest =>
        obtain ⟨rfl, rfl⟩ := hcut
        clear HSF z0 z1 z2 z3 z4 z5 z6
        cases hf : p.splitFits s n with
        | false =>
          have HFI := Lib.hid hf
          clear hf
          go_wp2_with (first
    | (refine wpList_store_row rfl 27 _ _ rfl rfl (w.heap.size + 2) rfl _ _ _ rfl HFA.out.b2 rfl (by kernel_rfl) (List.all_eq_true.1 rfl) ?_; rintro wB hTB hBB; have HFB := Lib.hid (HFA.out.t2 hTB hBB); clear hTB hBB)
    | (refine wpList_store_row rfl 27 _ _ rfl rfl (w.heap.size + 1) rfl _ _ _ rfl HF3.out.b1 rfl (by kernel_rfl) (List.all_eq_true.1 rfl) ?_; rintro wA hTA hBA; have HFA := Lib.hid (HF3.out.t1 hTA hBA); clear hTA hBA))
          exact bodyPost_ret (v := .tuple #[.agg #[Value.int IntKind.i64 0, Value.string { data := #[] }, Value.string { data := #[] }, Value.bool false, Value.int IntKind.i64 0, Value.slice none 0 0, Value.slice none 0 0], .agg #[Value.int IntKind.i64 0, Value.string { data := #[] }, Value.string { data := #[] }, Value.bool false, Value.int IntKind.i64 0, Value.slice none 0 0, Value.slice none 0 0], .int .i64 103]) (results_row3 rfl _ _ (w.heap.size + 1) (w.heap.size + 2) _ _ _ _ _ _ _ _ rfl HFB.out.b1 Try.underlying27 rfl (by kernel_rfl) rfl HFB.out.b2 Try.underlying27 rfl (by kernel_rfl) rfl) rfl (by rw [show p.splitE s n = 103 by unfold Page.splitE; rw [HOK.out, HFI.out]; rfl, show p.splitP s n = Page.zero by unfold Page.splitP; rw [HOK.out, HFI.out]; rfl, show p.splitR s n = Page.zero by unfold Page.splitR; rw [HOK.out, HFI.out]; rfl]; exact PostS2.nothing HFB.out.be)
        | true =>
          have HFI := Lib.hid hf
          clear hf
          have HSO := Lib.hid (Page.sortedI HOK.out)
          have HSK := Lib.hid (Page.sortedK HOK.out)
          have HFEW := Lib.hid (Page.Fine.of_ok HOK.out)
          go_upto_region 9 with (fail)
          have hs3 := HF3.out.sz
          simp only [List.length_cons, List.length_nil] at hs3
          go_cut [13, 14] (fun a b wx => ∃ g1 g2, a = .pointer (some ⟨g1, 0, none⟩) ∧ b = .pointer (some ⟨g2, 0, none⟩) ∧ Hid (Fr w wx [(27, #[Value.int IntKind.i64 lv, Value.string p.low, Value.string p.high, Value.bool p.last, Value.int IntKind.i64 p.side, Value.slice A ni c, Value.slice A' nk c']), (27, #[Value.int IntKind.i64 0, Value.string { data := #[] }, Value.string { data := #[] }, Value.bool false, Value.int IntKind.i64 0, Value.slice none 0 0, Value.slice none 0 0]), (27, #[Value.int IntKind.i64 0, Value.string { data := #[] }, Value.string { data := #[] }, Value.bool false, Value.int IntKind.i64 0, Value.slice none 0 0, Value.slice none 0 0])] ∧ g1 ≠ g2 ∧ w.heap.size + 3 ≤ g1 ∧ w.heap.size + 3 ≤ g2 ∧ Blk wx g1 27 #[Value.int IntKind.i64 lv, Value.string p.low, Value.string p.high, Value.bool p.last, Value.int IntKind.i64 p.side, Value.slice A ni c, Value.slice A' nk c'] ∧ Blk wx g2 27 #[Value.int IntKind.i64 lv, Value.string p.low, Value.string p.high, Value.bool p.last, Value.int IntKind.i64 p.side, Value.slice A ni c, Value.slice A' nk c']))
          case first =>
            refine wp_region_inv (by kernel_rfl) [59, 60, 13, 14] (SaJ w w3.drew [(27, #[Value.int IntKind.i64 lv, Value.string p.low, Value.string p.high, Value.bool p.last, Value.int IntKind.i64 p.side, Value.slice A ni c, Value.slice A' nk c']), (27, #[Value.int IntKind.i64 0, Value.string { data := #[] }, Value.string { data := #[] }, Value.bool false, Value.int IntKind.i64 0, Value.slice none 0 0, Value.slice none 0 0]), (27, #[Value.int IntKind.i64 0, Value.string { data := #[] }, Value.string { data := #[] }, Value.bool false, Value.int IntKind.i64 0, Value.slice none 0 0, Value.slice none 0 0])] 27 #[Value.int IntKind.i64 lv, Value.string p.low, Value.string p.high, Value.bool p.last, Value.int IntKind.i64 p.side, Value.slice A ni c, Value.slice A' nk c']) (gOrd_ok (by kernel_rfl)) ⟨HF3.out.drew1, Nat.le_refl _, by simp, by simp, by simp, by simp, by simp, by simp, by simp⟩ ?_ ?_
            · intro i o ho D X W hJ hDi hdep
              rcases i with _ | _ | _ | _ | _ | _ | i
              all_goals simp only [List.getElem?_toArray, List.getElem?_cons_zero, List.getElem?_cons_succ, List.getElem?_nil, Option.some.injEq, reduceCtorEq] at ho
              · exact wp1_load_row ho 27 (.tmp 3) rfl rfl (w.heap.size) (by rw [over_out (by decide)]; rfl) 27 _ _ hJ.fr.b0 Try.underlying27 rfl (by kernel_rfl) ⟨_, over_put (by decide) _, hJ.load0⟩
              · exact wp1_load_row ho 27 (.tmp 3) rfl rfl (w.heap.size) (by rw [over_out (by decide)]; rfl) 27 _ _ hJ.fr.b0 Try.underlying27 rfl (by kernel_rfl) ⟨_, over_put (by decide) _, hJ.load1⟩
              · exact wp1_alloc ho 27 rfl rfl (w' := W.alloc (.cells #[Value.int IntKind.i64 0, Value.string { data := #[] }, Value.string { data := #[] }, Value.bool false, Value.int IntKind.i64 0, Value.slice none 0 0, Value.slice none 0 0] 27)) (v := .pointer (some ⟨W.heap.size, 0, none⟩)) (by kernel_rfl) ⟨_, over_put (by decide) _, hJ.alloc2 hDi rfl⟩
              · exact wp1_alloc ho 27 rfl rfl (w' := W.alloc (.cells #[Value.int IntKind.i64 0, Value.string { data := #[] }, Value.string { data := #[] }, Value.bool false, Value.int IntKind.i64 0, Value.slice none 0 0, Value.slice none 0 0] 27)) (v := .pointer (some ⟨W.heap.size, 0, none⟩)) (by kernel_rfl) ⟨_, over_put (by decide) _, hJ.alloc3 hDi rfl⟩
              · have d0 : D 0 = true := hdep ⟨0, .data⟩ (by rw [← ho]; simp) rfl
                have d2 : D 2 = true := hdep ⟨2, .data⟩ (by rw [← ho]; simp) rfl
                obtain ⟨g, cs, hg, hge, hcs, hB, _⟩ := hJ.a2 d2
                exact wp1_store_row ho 27 (.tmp 13) (.tmp 59) rfl rfl g (by rw [over_in (by decide) (Nat.le_of_ble_eq_true rfl), hg]) 27 _ cs (by rw [over_in (by decide) (Nat.le_of_ble_eq_true rfl), hJ.l0 d0]) hB (by rw [hcs]; rfl) (by kernel_rfl) (List.all_eq_true.1 rfl) (fun w' hT hB' => ⟨X, rfl, hJ.store4 d2 hg hge HF3.out.sz rfl hT hB'⟩)
              · have d1 : D 1 = true := hdep ⟨1, .data⟩ (by rw [← ho]; simp) rfl
                have d3 : D 3 = true := hdep ⟨3, .data⟩ (by rw [← ho]; simp) rfl
                obtain ⟨g, cs, hg, hge, hcs, hB, _⟩ := hJ.a3 d3
                exact wp1_store_row ho 27 (.tmp 14) (.tmp 60) rfl rfl g (by rw [over_in (by decide) (Nat.le_of_ble_eq_true rfl), hg]) 27 _ cs (by rw [over_in (by decide) (Nat.le_of_ble_eq_true rfl), hJ.l1 d1]) hB (by rw [hcs]; rfl) (by kernel_rfl) (List.all_eq_true.1 rfl) (fun w' hT hB' => ⟨X, rfl, hJ.store5 d3 hg hge HF3.out.sz rfl hT hB'⟩)
            · intro D X W hJ hall
              obtain ⟨g1, c1, h1, hge1, _, hB1, e1⟩ := hJ.a2 (hall 2 (by decide))
              obtain ⟨g2, c2, h2, hge2, _, hB2, e2⟩ := hJ.a3 (hall 3 (by decide))
              have hne := hJ.ne (hall 2 (by decide)) (hall 3 (by decide))
              rw [e1 (hall 4 (by decide))] at hB1
              rw [e2 (hall 5 (by decide))] at hB2
              rw [h1, h2] at hne
              have HALL := Lib.hid (show Fr w W [(27, #[Value.int IntKind.i64 lv, Value.string p.low, Value.string p.high, Value.bool p.last, Value.int IntKind.i64 p.side, Value.slice A ni c, Value.slice A' nk c']), (27, #[Value.int IntKind.i64 0, Value.string { data := #[] }, Value.string { data := #[] }, Value.bool false, Value.int IntKind.i64 0, Value.slice none 0 0, Value.slice none 0 0]), (27, #[Value.int IntKind.i64 0, Value.string { data := #[] }, Value.string { data := #[] }, Value.bool false, Value.int IntKind.i64 0, Value.slice none 0 0, Value.slice none 0 0])] ∧ g1 ≠ g2 ∧ w.heap.size + 3 ≤ g1 ∧ w.heap.size + 3 ≤ g2 ∧ Blk W g1 27 #[Value.int IntKind.i64 lv, Value.string p.low, Value.string p.high, Value.bool p.last, Value.int IntKind.i64 p.side, Value.slice A ni c, Value.slice A' nk c'] ∧ Blk W g2 27 #[Value.int IntKind.i64 lv, Value.string p.low, Value.string p.high, Value.bool p.last, Value.int IntKind.i64 p.side, Value.slice A ni c, Value.slice A' nk c'] from ⟨hJ.fr, fun e => hne (by rw [e]), Nat.le_trans hs3 hge1, Nat.le_trans hs3 hge2, hB1, hB2⟩)
              clear hB1 hB2 e1 e2 hall hJ hge1 hge2 hne
              simp only [over, List.foldl_cons, List.foldl_nil, Act.put, List.setIfInBounds_toArray, List.set_cons_succ, List.set_cons_zero, h1, h2]
              go_wp2
              go_meet
              exact ⟨g1, g2, rfl, rfl, HALL⟩
          case rest =>
            obtain ⟨g1, g2, rfl, rfl, hcut⟩ := hcut
            obtain ⟨hf4, hne, hge1, hge2, hb1, hb2⟩ := hcut.out
            have HF4 := Lib.hid hf4
            have HB1 := Lib.hid hb1
            have HB2 := Lib.hid hb2
            clear hcut hf4 hb1 hb2
            have hne' : g2 ≠ g1 := Ne.symm hne
            obtain ⟨a0, a1, a2, a3, a4, a5, a6⟩ := Blk.cells7 HB1.out
            obtain ⟨b0, b1, b2, b3, b4, b5, b6⟩ := Blk.cells7 HB2.out
            have hz1 := HB1.out.frozen
            have hz2 := HB2.out.frozen
            obtain ⟨B, hB⟩ : ∃ B, B = wc.heap.size := ⟨_, rfl⟩
            have HSP : Hid (SpItem w ((((((((wc.setCell ⟨g1, 2, none⟩ (.string s)).setCell ⟨g1, 4, none⟩ (.int .i64 n)).setCell ⟨g1, 3, none⟩ (.bool false)).setCell ⟨g2, 1, none⟩ (.string s)).setCell ⟨g1, 5, none⟩ (.slice none 0 0)).setCell ⟨g2, 5, none⟩ (.slice none 0 0)).setCell ⟨g1, 6, none⟩ (.slice none 0 0)).setCell ⟨g2, 6, none⟩ (.slice none 0 0)) [(27, #[Value.int IntKind.i64 lv, Value.string p.low, Value.string p.high, Value.bool p.last, Value.int IntKind.i64 p.side, Value.slice A ni c, Value.slice A' nk c']), (27, #[Value.int IntKind.i64 0, Value.string { data := #[] }, Value.string { data := #[] }, Value.bool false, Value.int IntKind.i64 0, Value.slice none 0 0, Value.slice none 0 0]), (27, #[Value.int IntKind.i64 0, Value.string { data := #[] }, Value.string { data := #[] }, Value.bool false, Value.int IntKind.i64 0, Value.slice none 0 0, Value.slice none 0 0])] g1 g2 B (fun v => #[Value.int IntKind.i64 lv, Value.string p.low, Value.string s, Value.bool false, Value.int IntKind.i64 n, v, Value.slice none 0 0]) (fun v => #[Value.int IntKind.i64 lv, Value.string s, Value.string p.high, Value.bool p.last, Value.int IntKind.i64 p.side, v, Value.slice none 0 0]) (.slice none 0 0) (.slice none 0 0) [] []) := Lib.hid (by
              have q1 := HB1.out.lt
              have q2 := HB2.out.lt
              refine ⟨?_, ((((((((HB1.out.set_ 2 (.string s)).set_ 4 (.int .i64 n)).set_ 3 (.bool false)).far (p := ⟨g2, 1, none⟩) hne _).set_ 5 (.slice none 0 0)).far (p := ⟨g2, 5, none⟩) hne _).set_ 6 (.slice none 0 0)).far (p := ⟨g2, 6, none⟩) hne _), ((((((((HB2.out.far (p := ⟨g1, 2, none⟩) hne' _).far (p := ⟨g1, 4, none⟩) hne' _).far (p := ⟨g1, 3, none⟩) hne' _).set_ 1 (.string s)).far (p := ⟨g1, 5, none⟩) hne' _).set_ 5 (.slice none 0 0)).far (p := ⟨g1, 6, none⟩) hne' _).set_ 6 (.slice none 0 0)), OwnItem.nil _ _, OwnItem.nil _ _, fun k hk => by simp [Value.ownBlock] at hk, by omega, by omega, hne, hge1, hge2, by simp; omega⟩
              exact (((((((HF4.out.far _ hge1).far _ hge1).far _ hge1).far _ hge2).far _ hge1).far _ hge2).far _ hge1).far _ hge2)
            clear hB
            go_wp2
            go_loopw [15] (fun i wq => ∃ (k : Nat) (v1 v2 : Value), k ≤ ni ∧ i = .int .i64 k ∧ Hid (SpItem w wq [(27, #[Value.int IntKind.i64 lv, Value.string p.low, Value.string p.high, Value.bool p.last, Value.int IntKind.i64 p.side, Value.slice A ni c, Value.slice A' nk c']), (27, #[Value.int IntKind.i64 0, Value.string { data := #[] }, Value.string { data := #[] }, Value.bool false, Value.int IntKind.i64 0, Value.slice none 0 0, Value.slice none 0 0]), (27, #[Value.int IntKind.i64 0, Value.string { data := #[] }, Value.string { data := #[] }, Value.bool false, Value.int IntKind.i64 0, Value.slice none 0 0, Value.slice none 0 0])] g1 g2 B (fun v => #[Value.int IntKind.i64 lv, Value.string p.low, Value.string s, Value.bool false, Value.int IntKind.i64 n, v, Value.slice none 0 0]) (fun v => #[Value.int IntKind.i64 lv, Value.string s, Value.string p.high, Value.bool p.last, Value.int IntKind.i64 p.side, v, Value.slice none 0 0]) v1 v2 ((p.items.take k).filter (fun x => lt x.key s)) ((p.items.take k).filter (fun x => !lt x.key s)))) (fun i _ => ni - (intOf i).toNat)
            case atStart => exact ⟨0, _, _, Nat.zero_le _, rfl, HSP⟩
            case round =>
              clear a0 a1 a2 a3 a4 a5 a6 b0 b1 b2 b3 b4 b5 b6 hz1 hz2 HSP
              obtain ⟨k, v1, v2, hk, rfl, HS⟩ := hrel
              obtain ⟨z0, z1, z2, z3, z4, z5, z6⟩ := Blk.cells7 HS.out.fr.b0
              by_cases hlt : k < ni
              · have hir : Rd Item.cells 4 wr lo w.heap.size A p.items := H1.out.items.below HS.out.fr.be
                obtain ⟨ad, x, rfl, hx, e1, e2, c0, c1', c2, c3⟩ := hir.item (i := k) (by rw [← HNI.out]; exact hlt)
                have hlt' : (k : Int) < (ni : Int) := by omega
                have hlt2 : (0 : Int) ≤ (k : Int) := by omega
                have p1 : wr.cell? ⟨g1, 5, none⟩ = some v1 := HS.out.b1.cell 5
                have p2 : wr.cell? ⟨g2, 5, none⟩ = some v2 := HS.out.b2.cell 5
                have p1a : ∀ o, (wr.drew.alloc o).cell? ⟨g1, 5, none⟩ = some v1 := fun o => (HS.out.b1.drew.alloc o).cell 5
                have p2a : ∀ o, (wr.drew.alloc o).cell? ⟨g2, 5, none⟩ = some v2 := fun o => (HS.out.b2.drew.alloc o).cell 5
                have p1b : ∀ o, (wr.alloc o).cell? ⟨g1, 5, none⟩ = some v1 := fun o => (HS.out.b1.alloc o).cell 5
                have p2b : ∀ o, (wr.alloc o).cell? ⟨g2, 5, none⟩ = some v2 := fun o => (HS.out.b2.alloc o).cell 5
                have hbi' : (ni : Int) ≤ 140737488351232 := by have := H1.out.bi; rw [← HNI.out] at this; omega
                have hl120 : p.items.length ≤ 120 := HFEW.out.ni
                have hla : ((p.items.take k).filter (fun x => lt x.key s)).length ≤ 120 := Nat.le_trans (List.length_filter_le _ _) (by rw [List.length_take]; omega)
                have hlb : ((p.items.take k).filter (fun x => !lt x.key s)).length ≤ 120 := Nat.le_trans (List.length_filter_le _ _) (by rw [List.length_take]; omega)
                have htk : p.items.take (k + 1) = p.items.take k ++ [x] := by rw [List.take_add_one, hx.out]; rfl
                have hta : (p.items.take (k + 1)).filter (fun x => lt x.key s) = (p.items.take k).filter (fun x => lt x.key s) ++ (bif lt x.key s then [x] else []) := by
                  rw [htk, List.filter_append]
                  cases hq : lt x.key s <;> simp [hq]
                have htb : (p.items.take (k + 1)).filter (fun x => !lt x.key s) = (p.items.take k).filter (fun x => !lt x.key s) ++ (bif lt x.key s then [] else [x]) := by
                  rw [htk, List.filter_append]
                  cases hq : lt x.key s <;> simp [hq]
                obtain ⟨l1, hl1⟩ : ∃ l, l = (p.items.take k).filter (fun x => lt x.key s) := ⟨_, rfl⟩
                obtain ⟨l2, hl2⟩ : ∃ l, l = (p.items.take k).filter (fun x => !lt x.key s) := ⟨_, rfl⟩
                rw [← hl1] at hla hta HS
                rw [← hl2] at hlb htb HS
                have HTA := Lib.hid hta
                have HTB := Lib.hid htb
                have HLJ : Hid (l1.length ≤ 1000000 ∧ l2.length ≤ 1000000) := Lib.hid ⟨by omega, by omega⟩
                clear hla hlb hta htb htk hl1 hl2 hl120 hir
                cases hl : lt x.key s with
                | true =>
                  rw [hl] at HTA HTB
                  simp only [cond_true, List.append_nil] at HTA HTB
                  unfold lt at hl
                  go_upto_region 19 with (fail)
                  have HOW : Hid (∀ o, OwnItem (wr.drew.alloc o) B v1 l1 ∧ B ≤ (wr.drew.alloc o).heap.size) := Lib.hid fun o => ⟨(HS.out.o1).later o, by have := HS.out.lt.2.2.2.2.2; simp; omega⟩
                  have HP7 : Hid (∀ o w7, (wr.drew.alloc o).grownBy w7 v1.ownBlock → Blk w7 g1 27 ((fun v => #[Value.int IntKind.i64 lv, Value.string p.low, Value.string s, Value.bool false, Value.int IntKind.i64 n, v, Value.slice none 0 0]) v1)) := Lib.hid fun o w7 hg => (hg.block g1 (by have := (HS.out.b1).lt; simp; omega) (fun e => by have := ((HS.out.o1).block g1 e.symm).1; have := (HS.out.lt).1; omega)).trans ((Below.heap_alloc wr.drew o g1 (HS.out.b1).lt).trans (HS.out.b1))
                  go_region_law (refine stepItem _ rfl (.tmp 88) (.tmp 94) rfl B _ v1 l1 x rfl (HOW.out _).1 rfl (Blk.new _ _ _) HLJ.out.1 (HOW.out _).2 ?_; intro g7 cap7 w7 hO7 hg7 hn7 hl7; have p7 : w7.cell? ⟨g1, 5, none⟩ = some v1 := (HP7.out _ _ hg7).cell 5; have f7 : w7.frozen? ⟨g1, 5, none⟩ = false := (HP7.out _ _ hg7).frozen 5; have HS7 := Lib.hid (SpItem.put (V1 := (fun v => #[Value.int IntKind.i64 lv, Value.string p.low, Value.string s, Value.bool false, Value.int IntKind.i64 n, v, Value.slice none 0 0])) (V2 := (fun v => #[Value.int IntKind.i64 lv, Value.string s, Value.string p.high, Value.bool p.last, Value.int IntKind.i64 p.side, v, Value.slice none 0 0])) (j := 5) HS.out (fun _ _ => rfl) hg7 hO7 hn7); clear hO7 hg7 hn7 hl7)
                  all_goals
                    go_wp2
                    go_roundw
                    case rel => exact ⟨k + 1, .slice (some ⟨g7, 0, none⟩) (l1.length + 1) cap7, v2, by omega, by go_num, Lib.hid (by rw [HTA.out, HTB.out]; exact HS7.out)⟩
                    case measure => simp [intOf]; omega
                | false =>
                  rw [hl] at HTA HTB
                  simp only [cond_false, List.append_nil] at HTA HTB
                  unfold lt at hl
                  go_upto_region 20 with (fail)
                  have HOW : Hid (∀ o, OwnItem (wr.drew.alloc o) B v2 l2 ∧ B ≤ (wr.drew.alloc o).heap.size) := Lib.hid fun o => ⟨(HS.out.swap.o1).later o, by have := HS.out.lt.2.2.2.2.2; simp; omega⟩
                  have HP7 : Hid (∀ o w7, (wr.drew.alloc o).grownBy w7 v2.ownBlock → Blk w7 g2 27 ((fun v => #[Value.int IntKind.i64 lv, Value.string s, Value.string p.high, Value.bool p.last, Value.int IntKind.i64 p.side, v, Value.slice none 0 0]) v2)) := Lib.hid fun o w7 hg => (hg.block g2 (by have := (HS.out.swap.b1).lt; simp; omega) (fun e => by have := ((HS.out.swap.o1).block g2 e.symm).1; have := (HS.out.swap.lt).1; omega)).trans ((Below.heap_alloc wr.drew o g2 (HS.out.swap.b1).lt).trans (HS.out.swap.b1))
                  go_region_law (refine stepItem _ rfl (.tmp 98) (.tmp 104) rfl B _ v2 l2 x rfl (HOW.out _).1 rfl (Blk.new _ _ _) HLJ.out.2 (HOW.out _).2 ?_; intro g7 cap7 w7 hO7 hg7 hn7 hl7; have p7 : w7.cell? ⟨g2, 5, none⟩ = some v2 := (HP7.out _ _ hg7).cell 5; have f7 : w7.frozen? ⟨g2, 5, none⟩ = false := (HP7.out _ _ hg7).frozen 5; have HS7 := Lib.hid (SpItem.put (V1 := (fun v => #[Value.int IntKind.i64 lv, Value.string s, Value.string p.high, Value.bool p.last, Value.int IntKind.i64 p.side, v, Value.slice none 0 0])) (V2 := (fun v => #[Value.int IntKind.i64 lv, Value.string p.low, Value.string s, Value.bool false, Value.int IntKind.i64 n, v, Value.slice none 0 0])) (j := 5) HS.out.swap (fun _ _ => rfl) hg7 hO7 hn7); clear hO7 hg7 hn7 hl7)
                  all_goals
                    go_wp2
                    go_roundw
                    case rel => exact ⟨k + 1, v1, .slice (some ⟨g7, 0, none⟩) (l2.length + 1) cap7, by omega, by go_num, Lib.hid (by rw [HTA.out, HTB.out]; exact HS7.out.swap)⟩
                    case measure => simp [intOf]; omega
              · obtain rfl : ni = k := by omega
                have hno2 : ¬ ((ni : Int) < (ni : Int)) := by omega
                have hall : p.items.take ni = p.items := by rw [HNI.out, List.take_length]
                rw [hall, (cut_filter HSO.out s).1, (cut_filter HSO.out s).2] at HS
                clear hall
                obtain ⟨wr0, rfl⟩ : ∃ W, W = wr := ⟨_, rfl⟩
                obtain ⟨E1, d1, rfl, hd1, hR1⟩ := HS.out.o1.form
                obtain ⟨E2, d2, rfl, hd2, hR2⟩ := HS.out.o2.form
                have HR1 := Lib.hid hR1
                have HR2 := Lib.hid hR2
                obtain ⟨m1, hm1⟩ : ∃ n, n = (p.items.take (posOf Item.key p.items s)).length := ⟨_, rfl⟩
                obtain ⟨m2, hm2⟩ : ∃ n, n = (p.items.drop (posOf Item.key p.items s)).length := ⟨_, rfl⟩
                rw [← hm1] at HS hd1
                rw [← hm2] at HS hd2
                have HD1 := Lib.hid hd1
                have HD2 := Lib.hid hd2
                have HM1 := Lib.hid hm1
                have HM2 := Lib.hid hm2
                clear hR1 hR2 hd1 hd2 hm1 hm2
                obtain ⟨B2, hB2⟩ : ∃ B, B = wr0.heap.size := ⟨_, rfl⟩
                have HBB : Hid (B ≤ B2) := Lib.hid (by rw [hB2]; exact HS.out.lt.2.2.2.2.2)
                have HLG : Hid (g1 < B ∧ g2 < B) := Lib.hid ⟨HS.out.lt.1, HS.out.lt.2.1⟩
                have HSK0 : Hid (SpKid w wr0 [(27, #[Value.int IntKind.i64 lv, Value.string p.low, Value.string p.high, Value.bool p.last, Value.int IntKind.i64 p.side, Value.slice A ni c, Value.slice A' nk c']), (27, #[Value.int IntKind.i64 0, Value.string { data := #[] }, Value.string { data := #[] }, Value.bool false, Value.int IntKind.i64 0, Value.slice none 0 0, Value.slice none 0 0]), (27, #[Value.int IntKind.i64 0, Value.string { data := #[] }, Value.string { data := #[] }, Value.bool false, Value.int IntKind.i64 0, Value.slice none 0 0, Value.slice none 0 0])] g1 g2 B2 (fun v => #[Value.int IntKind.i64 lv, Value.string p.low, Value.string s, Value.bool false, Value.int IntKind.i64 n, Value.slice E1 m1 d1, v]) (fun v => #[Value.int IntKind.i64 lv, Value.string s, Value.string p.high, Value.bool p.last, Value.int IntKind.i64 p.side, Value.slice E2 m2 d2, v]) (.slice none 0 0) (.slice none 0 0) [] []) := Lib.hid ⟨HS.out.fr, HS.out.b1, HS.out.b2, OwnKid.nil _ _, OwnKid.nil _ _, (fun k hk => by simp [Value.ownBlock] at hk), by have := HBB.out; have := HLG.out; omega, by have := HBB.out; have := HLG.out; omega, hne, hge1, hge2, by rw [hB2]; exact Nat.le_refl _⟩
                have HW0 := Lib.hid hB2
                clear hB2 hlt
                go_wp2
                go_loopw [16] (fun i wq => ∃ (k : Nat) (v1 v2 : Value), k ≤ nk ∧ i = .int .i64 k ∧ Hid (SpKid w wq [(27, #[Value.int IntKind.i64 lv, Value.string p.low, Value.string p.high, Value.bool p.last, Value.int IntKind.i64 p.side, Value.slice A ni c, Value.slice A' nk c']), (27, #[Value.int IntKind.i64 0, Value.string { data := #[] }, Value.string { data := #[] }, Value.bool false, Value.int IntKind.i64 0, Value.slice none 0 0, Value.slice none 0 0]), (27, #[Value.int IntKind.i64 0, Value.string { data := #[] }, Value.string { data := #[] }, Value.bool false, Value.int IntKind.i64 0, Value.slice none 0 0, Value.slice none 0 0])] g1 g2 B2 (fun v => #[Value.int IntKind.i64 lv, Value.string p.low, Value.string s, Value.bool false, Value.int IntKind.i64 n, Value.slice E1 m1 d1, v]) (fun v => #[Value.int IntKind.i64 lv, Value.string s, Value.string p.high, Value.bool p.last, Value.int IntKind.i64 p.side, Value.slice E2 m2 d2, v]) v1 v2 ((p.kids.take k).filter (fun x => lt x.key s)) ((p.kids.take k).filter (fun x => !lt x.key s))) ∧ Hid (∀ b, B ≤ b → b < B2 → wq.heap[b]? = wr0.heap[b]?)) (fun i _ => nk - (intOf i).toNat)
                case atStart => exact ⟨0, _, _, Nat.zero_le _, rfl, HSK0, Lib.hid (fun _ _ _ => rfl)⟩
                case round =>
                  clear HS HSK0 z0 z1 z2 z3 z4 z5 z6
                  obtain ⟨k, v1, v2, hk, rfl, HS, HKP⟩ := hrel
                  have hlg := HLG.out
                  have hbb := HBB.out
                  obtain ⟨z0, z1, z2, z3, z4, z5, z6⟩ := Blk.cells7 HS.out.fr.b0
                  by_cases hlt : k < nk
                  · have hir : Rd Kid.cells 2 wr lo w.heap.size A' p.kids := H1.out.kids.below HS.out.fr.be
                    obtain ⟨ad, x, rfl, hx, e1, e2, c0, c1'⟩ := hir.kid (i := k) (by rw [← HNK.out]; exact hlt)
                    have hlt' : (k : Int) < (nk : Int) := by omega
                    have hlt2 : (0 : Int) ≤ (k : Int) := by omega
                    have p1 : wr.cell? ⟨g1, 6, none⟩ = some v1 := HS.out.b1.cell 6
                    have p2 : wr.cell? ⟨g2, 6, none⟩ = some v2 := HS.out.b2.cell 6
                    have p1a : ∀ o, (wr.drew.alloc o).cell? ⟨g1, 6, none⟩ = some v1 := fun o => (HS.out.b1.drew.alloc o).cell 6
                    have p2a : ∀ o, (wr.drew.alloc o).cell? ⟨g2, 6, none⟩ = some v2 := fun o => (HS.out.b2.drew.alloc o).cell 6
                    have p1b : ∀ o, (wr.alloc o).cell? ⟨g1, 6, none⟩ = some v1 := fun o => (HS.out.b1.alloc o).cell 6
                    have p2b : ∀ o, (wr.alloc o).cell? ⟨g2, 6, none⟩ = some v2 := fun o => (HS.out.b2.alloc o).cell 6
                    have hbi' : (nk : Int) ≤ 140737488351232 := by have := H1.out.bk; rw [← HNK.out] at this; omega
                    have hl120 : p.kids.length ≤ 120 := HFEW.out.nk
                    have hla : ((p.kids.take k).filter (fun x => lt x.key s)).length ≤ 120 := Nat.le_trans (List.length_filter_le _ _) (by rw [List.length_take]; omega)
                    have hlb : ((p.kids.take k).filter (fun x => !lt x.key s)).length ≤ 120 := Nat.le_trans (List.length_filter_le _ _) (by rw [List.length_take]; omega)
                    have htk : p.kids.take (k + 1) = p.kids.take k ++ [x] := by rw [List.take_add_one, hx.out]; rfl
                    have hta : (p.kids.take (k + 1)).filter (fun x => lt x.key s) = (p.kids.take k).filter (fun x => lt x.key s) ++ (bif lt x.key s then [x] else []) := by
                      rw [htk, List.filter_append]
                      cases hq : lt x.key s <;> simp [hq]
                    have htb : (p.kids.take (k + 1)).filter (fun x => !lt x.key s) = (p.kids.take k).filter (fun x => !lt x.key s) ++ (bif lt x.key s then [] else [x]) := by
                      rw [htk, List.filter_append]
                      cases hq : lt x.key s <;> simp [hq]
                    obtain ⟨l1, hl1⟩ : ∃ l, l = (p.kids.take k).filter (fun x => lt x.key s) := ⟨_, rfl⟩
                    obtain ⟨l2, hl2⟩ : ∃ l, l = (p.kids.take k).filter (fun x => !lt x.key s) := ⟨_, rfl⟩
                    rw [← hl1] at hla hta HS
                    rw [← hl2] at hlb htb HS
                    have HTA := Lib.hid hta
                    have HTB := Lib.hid htb
                    have HLJ : Hid (l1.length ≤ 1000000 ∧ l2.length ≤ 1000000) := Lib.hid ⟨by omega, by omega⟩
                    clear hla hlb hta htb htk hl1 hl2 hl120 hir
                    cases hl : lt x.key s with
                    | true =>
                      rw [hl] at HTA HTB
                      simp only [cond_true, List.append_nil] at HTA HTB
                      unfold lt at hl
                      go_upto_region 25 with (fail)
                      have HOW : Hid (∀ o, OwnKid (wr.drew.alloc o) B2 v1 l1 ∧ B2 ≤ (wr.drew.alloc o).heap.size) := Lib.hid fun o => ⟨(HS.out.o1).later o, by have := HS.out.lt.2.2.2.2.2; simp; omega⟩
                      have HP7 : Hid (∀ o w7, (wr.drew.alloc o).grownBy w7 v1.ownBlock → Blk w7 g1 27 ((fun v => #[Value.int IntKind.i64 lv, Value.string p.low, Value.string s, Value.bool false, Value.int IntKind.i64 n, Value.slice E1 m1 d1, v]) v1)) := Lib.hid fun o w7 hg => (hg.block g1 (by have := (HS.out.b1).lt; simp; omega) (fun e => by have := ((HS.out.o1).block g1 e.symm).1; have := (HS.out.lt).1; omega)).trans ((Below.heap_alloc wr.drew o g1 (HS.out.b1).lt).trans (HS.out.b1))
                      go_region_law (refine stepKid _ rfl (.tmp 123) (.tmp 129) rfl B2 _ v1 l1 x rfl (HOW.out _).1 rfl (Blk.new _ _ _) HLJ.out.1 (HOW.out _).2 ?_; intro g7 cap7 w7 hO7 hg7 hn7 hl7; have p7 : w7.cell? ⟨g1, 6, none⟩ = some v1 := (HP7.out _ _ hg7).cell 6; have f7 : w7.frozen? ⟨g1, 6, none⟩ = false := (HP7.out _ _ hg7).frozen 6; have HS7 := Lib.hid (SpKid.put (V1 := (fun v => #[Value.int IntKind.i64 lv, Value.string p.low, Value.string s, Value.bool false, Value.int IntKind.i64 n, Value.slice E1 m1 d1, v])) (V2 := (fun v => #[Value.int IntKind.i64 lv, Value.string s, Value.string p.high, Value.bool p.last, Value.int IntKind.i64 p.side, Value.slice E2 m2 d2, v])) (j := 6) HS.out (fun _ _ => rfl) hg7 hO7 hn7); have HKB := Lib.hid (SpKid.keepB (j := 6) (u := .slice (some ⟨g7, 0, none⟩) (l1.length + 1) cap7) HS.out hg7); clear hO7 hg7 hn7 hl7)
                      all_goals
                        go_wp2
                        go_roundw
                        case rel => exact ⟨k + 1, .slice (some ⟨g7, 0, none⟩) (l1.length + 1) cap7, v2, by omega, by go_num, Lib.hid (by rw [HTA.out, HTB.out]; exact HS7.out), Lib.hid (fun b h1 h2 => (HKB.out b h2 (by omega)).trans (HKP.out b h1 h2))⟩
                        case measure => simp [intOf]; omega
                    | false =>
                      rw [hl] at HTA HTB
                      simp only [cond_false, List.append_nil] at HTA HTB
                      unfold lt at hl
                      go_upto_region 26 with (fail)
                      have HOW : Hid (∀ o, OwnKid (wr.drew.alloc o) B2 v2 l2 ∧ B2 ≤ (wr.drew.alloc o).heap.size) := Lib.hid fun o => ⟨(HS.out.swap.o1).later o, by have := HS.out.lt.2.2.2.2.2; simp; omega⟩
                      have HP7 : Hid (∀ o w7, (wr.drew.alloc o).grownBy w7 v2.ownBlock → Blk w7 g2 27 ((fun v => #[Value.int IntKind.i64 lv, Value.string s, Value.string p.high, Value.bool p.last, Value.int IntKind.i64 p.side, Value.slice E2 m2 d2, v]) v2)) := Lib.hid fun o w7 hg => (hg.block g2 (by have := (HS.out.swap.b1).lt; simp; omega) (fun e => by have := ((HS.out.swap.o1).block g2 e.symm).1; have := (HS.out.swap.lt).1; omega)).trans ((Below.heap_alloc wr.drew o g2 (HS.out.swap.b1).lt).trans (HS.out.swap.b1))
                      go_region_law (refine stepKid _ rfl (.tmp 133) (.tmp 139) rfl B2 _ v2 l2 x rfl (HOW.out _).1 rfl (Blk.new _ _ _) HLJ.out.2 (HOW.out _).2 ?_; intro g7 cap7 w7 hO7 hg7 hn7 hl7; have p7 : w7.cell? ⟨g2, 6, none⟩ = some v2 := (HP7.out _ _ hg7).cell 6; have f7 : w7.frozen? ⟨g2, 6, none⟩ = false := (HP7.out _ _ hg7).frozen 6; have HS7 := Lib.hid (SpKid.put (V1 := (fun v => #[Value.int IntKind.i64 lv, Value.string s, Value.string p.high, Value.bool p.last, Value.int IntKind.i64 p.side, Value.slice E2 m2 d2, v])) (V2 := (fun v => #[Value.int IntKind.i64 lv, Value.string p.low, Value.string s, Value.bool false, Value.int IntKind.i64 n, Value.slice E1 m1 d1, v])) (j := 6) HS.out.swap (fun _ _ => rfl) hg7 hO7 hn7); have HKB := Lib.hid (SpKid.keepB (j := 6) (u := .slice (some ⟨g7, 0, none⟩) (l2.length + 1) cap7) HS.out.swap hg7); clear hO7 hg7 hn7 hl7)
                      all_goals
                        go_wp2
                        go_roundw
                        case rel => exact ⟨k + 1, v1, .slice (some ⟨g7, 0, none⟩) (l2.length + 1) cap7, by omega, by go_num, Lib.hid (by rw [HTA.out, HTB.out]; exact HS7.out.swap), Lib.hid (fun b h1 h2 => (HKB.out b h2 (by omega)).trans (HKP.out b h1 h2))⟩
                        case measure => simp [intOf]; omega
                  · obtain rfl : nk = k := by omega
                    have hno3 : ¬ ((nk : Int) < (nk : Int)) := by omega
                    have hall : p.kids.take nk = p.kids := by rw [HNK.out, List.take_length]
                    rw [hall, (cut_filter HSK.out s).1, (cut_filter HSK.out s).2] at HS
                    clear hall
                    obtain ⟨F1, f1, rfl, hf1, hQ1⟩ := HS.out.o1.form
                    obtain ⟨F2, f2, rfl, hf2, hQ2⟩ := HS.out.o2.form
                    obtain ⟨j1, hj1⟩ : ∃ n, n = (p.kids.take (posOf Kid.key p.kids s)).length := ⟨_, rfl⟩
                    obtain ⟨j2, hj2⟩ : ∃ n, n = (p.kids.drop (posOf Kid.key p.kids s)).length := ⟨_, rfl⟩
                    rw [← hj1] at HS hf1
                    rw [← hj2] at HS hf2
                    have HQ1 := Lib.hid hQ1
                    have HQ2 := Lib.hid hQ2
                    have HG1 := Lib.hid hf1
                    have HG2 := Lib.hid hf2
                    have HJ1 := Lib.hid hj1
                    have HJ2 := Lib.hid hj2
                    clear hQ1 hQ2 hf1 hf2 hj1 hj2 hlt
                    go_upto_region 27 with (fail)
                    go_cut [8] (fun v wx => v = .int .i64 0 ∧ Hid (Below w.heap.size w wx ∧ wx.heap.size = wr.heap.size ∧ (∀ k, w.heap.size + 3 ≤ k → wx.heap[k]? = wr.heap[k]?) ∧ Blk wx (w.heap.size + 1) 27 #[Value.int IntKind.i64 lv, Value.string p.low, Value.string s, Value.bool false, Value.int IntKind.i64 n, Value.slice E1 m1 d1, Value.slice F1 j1 f1] ∧ Blk wx (w.heap.size + 2) 27 #[Value.int IntKind.i64 lv, Value.string s, Value.string p.high, Value.bool p.last, Value.int IntKind.i64 p.side, Value.slice E2 m2 d2, Value.slice F2 j2 f2]))
                    case first =>
                      refine wp_region_inv (by kernel_rfl) [142, 143, 8] (SfJ w wr.drew 27 g1 g2 #[Value.int IntKind.i64 lv, Value.string p.low, Value.string s, Value.bool false, Value.int IntKind.i64 n, Value.slice E1 m1 d1, Value.slice F1 j1 f1] #[Value.int IntKind.i64 lv, Value.string s, Value.string p.high, Value.bool p.last, Value.int IntKind.i64 p.side, Value.slice E2 m2 d2, Value.slice F2 j2 f2]) (gOrd_ok (by kernel_rfl)) ⟨HS.out.fr.drew1.be, rfl, fun _ _ => rfl, HS.out.b1, HS.out.b2, ⟨hge1, hge2, by have := HS.out.lt.2.2.2.2.2; show _ ≤ wr.heap.size; omega⟩, by simp, by simp, ⟨_, rfl, HS.out.fr.drew1.b1, by simp⟩, ⟨_, rfl, HS.out.fr.drew1.b2, by simp⟩, by simp⟩ ?_ ?_
                      · intro i o ho D X W hJ hDi hdep
                        rcases i with _ | _ | _ | _ | _ | i
                        all_goals simp only [List.getElem?_toArray, List.getElem?_cons_zero, List.getElem?_cons_succ, List.getElem?_nil, Option.some.injEq, reduceCtorEq] at ho
                        · exact wp1_load_row ho 27 (.tmp 13) rfl rfl g1 (by rw [over_out (by decide)]; rfl) 27 _ _ ((hJ.oth g1 hge1).trans hJ.b1) Try.underlying27 rfl (by kernel_rfl) ⟨_, over_put (by decide) _, hJ.load0⟩
                        · exact wp1_load_row ho 27 (.tmp 14) rfl rfl g2 (by rw [over_out (by decide)]; rfl) 27 _ _ ((hJ.oth g2 hge2).trans hJ.b2) Try.underlying27 rfl (by kernel_rfl) ⟨_, over_put (by decide) _, hJ.load1⟩
                        · have d0 : D 0 = true := hdep ⟨0, .data⟩ (by rw [← ho]; simp) rfl
                          obtain ⟨cs, hcs, hB, _⟩ := hJ.s2
                          exact wp1_store_row ho 27 (.tmp 6) (.tmp 142) rfl rfl (w.heap.size + 1) (by rw [over_out (by decide)]; rfl) 27 _ cs (by rw [over_in (by decide) (Nat.le_of_ble_eq_true rfl), hJ.l0 d0]) hB (by rw [hcs]; rfl) (by kernel_rfl) (List.all_eq_true.1 rfl) (fun w' hT hB' => ⟨X, rfl, hJ.store2 rfl hT hB'⟩)
                        · have d1 : D 1 = true := hdep ⟨1, .data⟩ (by rw [← ho]; simp) rfl
                          obtain ⟨cs, hcs, hB, _⟩ := hJ.s3
                          exact wp1_store_row ho 27 (.tmp 7) (.tmp 143) rfl rfl (w.heap.size + 2) (by rw [over_out (by decide)]; rfl) 27 _ cs (by rw [over_in (by decide) (Nat.le_of_ble_eq_true rfl), hJ.l1 d1]) hB (by rw [hcs]; rfl) (by kernel_rfl) (List.all_eq_true.1 rfl) (fun w' hT hB' => ⟨X, rfl, hJ.store3 rfl hT hB'⟩)
                        · exact wp1_assign ho (.const (.int .i64 0)) rfl rfl rfl ⟨_, over_put (by decide) _, hJ.assign4⟩
                      · intro D X W hJ hall
                        obtain ⟨c1, _, hB1, e1⟩ := hJ.s2
                        obtain ⟨c2, _, hB2, e2⟩ := hJ.s3
                        rw [e1 (hall 2 (by decide))] at hB1
                        rw [e2 (hall 3 (by decide))] at hB2
                        have h8 := hJ.e4 (hall 4 (by decide))
                        have HALL := Lib.hid (show Below w.heap.size w W ∧ W.heap.size = wr.heap.size ∧ (∀ k, w.heap.size + 3 ≤ k → W.heap[k]? = wr.heap[k]?) ∧ Blk W (w.heap.size + 1) 27 #[Value.int IntKind.i64 lv, Value.string p.low, Value.string s, Value.bool false, Value.int IntKind.i64 n, Value.slice E1 m1 d1, Value.slice F1 j1 f1] ∧ Blk W (w.heap.size + 2) 27 #[Value.int IntKind.i64 lv, Value.string s, Value.string p.high, Value.bool p.last, Value.int IntKind.i64 p.side, Value.slice E2 m2 d2, Value.slice F2 j2 f2] from ⟨hJ.be, hJ.sz, hJ.oth, hB1, hB2⟩)
                        clear hB1 hB2 e1 e2 hall hJ
                        simp only [over, List.foldl_cons, List.foldl_nil, Act.put, List.setIfInBounds_toArray, List.set_cons_succ, List.set_cons_zero, h8]
                        go_wp2
                        go_meet
                        exact ⟨rfl, HALL⟩
                    case rest =>
                      obtain ⟨rfl, hcut⟩ := hcut
                      obtain ⟨hbe, hsz, hoth, hq1, hq2⟩ := hcut.out
                      have hsw := HS.out.lt.2.2.2.2.2
                      have hPI : ∀ {E : Option Addr} {l : List Item}, Rd Item.cells 4 wr0 B wr0.heap.size E l → Rd Item.cells 4 wc w.heap.size wc.heap.size E l := fun {E l} h => (h.keep fun q h1 h2 => World.cell?_of_block ((hoth q.block (by omega)).trans (HKP.out q.block h1 (by rw [HW0.out]; exact h2)))).mono (by omega) (by rw [hsz]; have := HW0.out; omega)
                      have hPK : ∀ {E : Option Addr} {l : List Kid}, Rd Kid.cells 2 wr B2 wr.heap.size E l → Rd Kid.cells 2 wc w.heap.size wc.heap.size E l := fun {E l} h => (h.keep fun q h1 h2 => World.cell?_of_block (hoth q.block (by omega))).mono (by omega) (by rw [hsz]; exact Nat.le_refl _)
                      have hi120 : p.items.length ≤ 120 := HFEW.out.ni
                      have hk120 : p.kids.length ≤ 120 := HFEW.out.nk
                      have b1 : (p.items.take (posOf Item.key p.items s)).length ≤ 120 := by rw [List.length_take]; omega
                      have b2 : (p.items.drop (posOf Item.key p.items s)).length ≤ 120 := by rw [List.length_drop]; omega
                      have b3 : (p.kids.take (posOf Kid.key p.kids s)).length ≤ 120 := by rw [List.length_take]; omega
                      have b4 : (p.kids.drop (posOf Kid.key p.kids s)).length ≤ 120 := by rw [List.length_drop]; omega
                      have HEND : Hid (PostS2 w (p.splitP s n) (p.splitR s n) (p.splitE s n) (.returned (.tuple #[.agg #[Value.int IntKind.i64 lv, Value.string p.low, Value.string s, Value.bool false, Value.int IntKind.i64 n, Value.slice E1 m1 d1, Value.slice F1 j1 f1], .agg #[Value.int IntKind.i64 lv, Value.string s, Value.string p.high, Value.bool p.last, Value.int IntKind.i64 p.side, Value.slice E2 m2 d2, Value.slice F2 j2 f2], .int .i64 0])) wc) := Lib.hid (by
                        have hE0 : p.splitE s n = 0 := by unfold Page.splitE; rw [HOK.out, HFI.out]; rfl
                        have hP0 : p.splitP s n = ⟨p.level, p.low, s, false, n, p.items.take (posOf Item.key p.items s), p.kids.take (posOf Kid.key p.kids s)⟩ := by unfold Page.splitP; rw [HOK.out, HFI.out]; rfl
                        have hR0 : p.splitR s n = ⟨p.level, s, p.high, p.last, p.side, p.items.drop (posOf Item.key p.items s), p.kids.drop (posOf Kid.key p.kids s)⟩ := by unfold Page.splitR; rw [HOK.out, HFI.out]; rfl
                        rw [hE0, hP0, hR0]
                        refine ⟨E1, F1, d1, f1, E2, F2, d2, f2, ?_, ⟨hPI HR1.out, hPK HQ1.out, ?_, ?_, ?_, ?_⟩, ⟨hPI HR2.out, hPK HQ2.out, ?_, ?_, ?_, ?_⟩, hbe⟩
                        · unfold Page.val Page.raw
                          dsimp only
                          rw [← HM1.out, ← HM2.out, ← HJ1.out, ← HJ2.out, ← HLV.out]
                        · show (p.items.take (posOf Item.key p.items s)).length ≤ d1
                          rw [← HM1.out]; exact HD1.out
                        · show (p.kids.take (posOf Kid.key p.kids s)).length ≤ f1
                          rw [← HJ1.out]; exact HG1.out
                        · exact Nat.le_trans b1 (by omega)
                        · exact Nat.le_trans b3 (by omega)
                        · show (p.items.drop (posOf Item.key p.items s)).length ≤ d2
                          rw [← HM2.out]; exact HD2.out
                        · show (p.kids.drop (posOf Kid.key p.kids s)).length ≤ f2
                          rw [← HJ2.out]; exact HG2.out
                        · exact Nat.le_trans b2 (by omega)
                        · exact Nat.le_trans b4 (by omega))
                      have HQ3 := Lib.hid hq1
                      have HQ4 := Lib.hid hq2
                      clear hcut hbe hsz hoth hq1 hq2 hPI hPK
                      go_wp2
                      exact bodyPost_ret (v := .tuple #[.agg #[Value.int IntKind.i64 lv, Value.string p.low, Value.string s, Value.bool false, Value.int IntKind.i64 n, Value.slice E1 m1 d1, Value.slice F1 j1 f1], .agg #[Value.int IntKind.i64 lv, Value.string s, Value.string p.high, Value.bool p.last, Value.int IntKind.i64 p.side, Value.slice E2 m2 d2, Value.slice F2 j2 f2], .int .i64 0]) (results_row3 rfl _ _ (w.heap.size + 1) (w.heap.size + 2) _ _ _ _ _ _ _ _ rfl HQ3.out Try.underlying27 rfl (by kernel_rfl) rfl HQ4.out Try.underlying27 rfl (by kernel_rfl) rfl) rfl (HEND.out)
end Go.Proofs.Ytjbdmaehomhdeaa
