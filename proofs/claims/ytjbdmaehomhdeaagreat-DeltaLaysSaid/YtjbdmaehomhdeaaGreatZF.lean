/- delta: text, number. -/
import Derived.Test.YtjbdmaehomhdeaaGreatZR
import Derived.Test.YtjbdmaehomhdeaaGreatF2
import Derived.Test.YtjbdmaehomhdeaaGreatZB
set_option linter.unusedSimpArgs false
set_option linter.unusedVariables false
namespace Go.Proofs.YtjbdmaehomhdeaaGreat
open Go.RowKit

set_option maxRecDepth 100000 in
set_option maxHeartbeats 1000000 in
theorem delta_text (base : Nat) (v : Value) (bs : List Nat) (s : ByteArray) (w : World) (hown : OwnB w base v bs) (hbase : base ≤ w.heap.size) (hlen : bs.length + 1 + s.size ≤ 1099511627776) :
    Calls Tryz.prog 31 #[v, .string s] w (PostG w base v (bs ++ textB s)) := by
  have HL := Lib.hid hlen
  clear hlen
  go_enter Tryz.func31, Tryz.ntmps31
  go_wp2_with (first
    | (at_builtin; refine app1 w rfl (.tmp 5) (.tmp 9) rfl base v bs (s.size % 256) _ (Int.natCast_emod _ _).symm rfl hown rfl (by have := HL.out; omega) hbase ?_; intro v1 w1 hO1 hG1)
    | (at_builtin; refine appS w1 rfl (.tmp 10) (.tmp 11) rfl base v1 _ s rfl hO1 rfl (by have := HL.out; rw [List.length_append, List.length_singleton]; omega) (Nat.le_trans hbase hG1.grown.size) ?_; intro v2 w2 hO2 hG2))
  go_ret
  exact ⟨_, rfl, by simpa [textB, List.append_assoc] using hO2, hG1.trans hG2⟩

set_option maxRecDepth 100000 in
set_option maxHeartbeats 1000000 in
theorem delta_number (base : Nat) (v : Value) (bs : List Nat) (n k : Nat) (hk : k ≤ 7) (w : World) (hown : OwnB w base v bs) (hbase : base ≤ w.heap.size) (hlen : bs.length + 7 ≤ 1099511627776) :
    Calls Tryz.prog 32 #[v, .int .i64 n, .int .i64 k] w (PostG w base v (bs ++ numB n k)) := by
  have HL := Lib.hid hlen
  clear hlen
  go_enter Tryz.func32, Tryz.ntmps32
  go_wp2
  go_loopw [0, 9] (fun u i wr => ∃ j : Nat, j ≤ k ∧ i = .int .i64 j ∧ Hid (OwnB wr base u (bs ++ numB n j)) ∧ Hid (Grew w wr v u)) (fun _ i _ => k - (intOf i).toNat)
  case atStart => exact ⟨0, Nat.zero_le _, rfl, Lib.hid (by simpa [numB] using hown), Lib.hid (Grew.refl _ _)⟩
  case round =>
    obtain ⟨j, hj, rfl, HO, HG⟩ := hrel
    by_cases hlt : j < k
    · have hlj : (bs ++ numB n j).length ≤ 1099511627776 := by have := HL.out; rw [List.length_append, numB_length]; omega
      go_wp2_with (at_builtin; refine app1 wr rfl (.tmp 12) (.tmp 18) rfl base u0 (bs ++ numB n j) (n / 256 ^ j % 256) _ (shr_byte n j) rfl HO.out rfl hlj (Nat.le_trans hbase HG.out.grown.size) ?_; intro v1 w1 hO1 hG1)
      go_roundw
      case rel =>
        refine ⟨j + 1, by omega, by go_num, Lib.hid ?_, Lib.hid (HG.out.trans hG1)⟩
        have h := hO1
        rw [List.append_assoc] at h
        exact h
      case measure => simp [intOf]; omega
    · obtain rfl : j = k := by omega
      go_wp2
      go_ret
      exact ⟨_, rfl, HO.out, HG.out⟩
end Go.Proofs.YtjbdmaehomhdeaaGreat

namespace Go.Proofs.YtjbdmaehomhdeaaGreat
open Go.RowKit

/-- what a call answers with a node of its own and an errno -/
def PostN (w : World) (b : Bool) (l : List Nat) (n : Int) (e : Ending) (w' : World) : Prop := ∃ v, e = .returned (.tuple #[.agg #[.bool b, v], .int .i64 n]) ∧ OwnB w' w.heap.size v l ∧ Below w.heap.size w w'
theorem OwnB.keepH {w w' : World} {base : Nat} {v : Value} {l : List Nat} (h : OwnB w base v l) (hb : ∀ k, v.ownBlock = some k → w'.heap[k]? = w.heap[k]?) : OwnB w' base v l := by
  refine ⟨h.1, ?_⟩
  rcases h.2 with hn | ⟨g, cap, cur, rfl, hg, hh, rest⟩
  · exact .inl hn
  · exact .inr ⟨g, cap, cur, rfl, hg, (hb g (by simp [Value.ownBlock])).trans hh, rest⟩
theorem Grew.ne {w w' : World} {v v' : Value} {g : Nat} (h : Grew w w' v v') (hg : g < w.heap.size) (hv : v.ownBlock ≠ some g) : v'.ownBlock ≠ some g := by
  intro e
  rcases h.near with h1 | h1
  · exact hv (h1 ▸ e)
  · have := h1 g e; omega
theorem Blk.grewN {w w' : World} {g : Nat} {t : TypeId} {cs : Array Value} {v v' : Value} (h : Blk w g t cs) (hg : Grew w w' v v') (hne : v.ownBlock ≠ some g) : Blk w' g t cs :=
  (hg.grown.block g h.lt (Ne.symm hne)).trans h
theorem Blk.cells2' {w : World} {g : Nat} {t : TypeId} {a b : Value} (k : Blk w g t #[a, b]) : w.cell? ⟨g, 0, none⟩ = some a ∧ w.cell? ⟨g, 1, none⟩ = some b := ⟨k.cell 0, k.cell 1⟩

set_option maxRecDepth 100000 in
set_option maxHeartbeats 2000000 in
theorem delta_Base (p : Page) (A A' : Option Addr) (c c' lo : Nat) (w : World) (hp : Pg w lo w.heap.size p A A' c c') :
    Calls Tryz.prog 14 #[p.val A c A' c'] w (PostN w p.ok (cond p.ok p.bytes []) p.check) := by
  have H1 := Lib.hid hp
  clear hp
  have HEN := Lib.hid (fun w1 h => page_Encode p A A' c c' lo w1 h)
  unfold Page.val Page.raw at HEN
  unfold Page.val Page.raw
  obtain ⟨ni, hni⟩ : ∃ n, n = p.items.length := ⟨_, rfl⟩
  obtain ⟨nk, hnk⟩ : ∃ n, n = p.kids.length := ⟨_, rfl⟩
  rw [← hni, ← hnk]
  rw [← hni, ← hnk] at HEN
  clear hni hnk
  have hB : Below w.heap.size w ((w.alloc (.cells #[Value.int IntKind.i64 p.level, Value.string p.low, Value.string p.high, Value.bool p.last, Value.int IntKind.i64 p.side, Value.slice A ni c, Value.slice A' nk c'] 27)).alloc (.cells #[Value.bool false, Value.slice none 0 0] 34)) := ((Below.refl _ _).alloc (Nat.le_refl _) _).alloc (by simp) _
  have hN : Blk ((w.alloc (.cells #[Value.int IntKind.i64 p.level, Value.string p.low, Value.string p.high, Value.bool p.last, Value.int IntKind.i64 p.side, Value.slice A ni c, Value.slice A' nk c'] 27)).alloc (.cells #[Value.bool false, Value.slice none 0 0] 34)) (w.heap.size + 1) 34 #[Value.bool false, Value.slice none 0 0] := by
    have := Blk.new (w.alloc (.cells #[Value.int IntKind.i64 p.level, Value.string p.low, Value.string p.high, Value.bool p.last, Value.int IntKind.i64 p.side, Value.slice A ni c, Value.slice A' nk c'] 27)) 34 #[Value.bool false, Value.slice none 0 0]
    simpa using this
  go_enter Tryz.func14, Tryz.ntmps14
  go_wp2_with fail
  generalize (w.alloc (.cells #[Value.int IntKind.i64 p.level, Value.string p.low, Value.string p.high, Value.bool p.last, Value.int IntKind.i64 p.side, Value.slice A ni c, Value.slice A' nk c'] 27)).alloc (.cells #[Value.bool false, Value.slice none 0 0] 34) = w0 at *
  have HB := Lib.hid hB
  have HN := Lib.hid hN
  refine (HEN.out w0 ((H1.out.below hB).mono (Nat.le_refl _) hB.size)).mono ?_
  clear hB hN
  rintro e w1 ⟨v1, rfl, hO1, hb1⟩
  have HB1 : Hid (Below w.heap.size w w1) := Lib.hid (HB.out.trans (hb1.mono HB.out.size))
  have HN1 := Lib.hid (HN.out.below hb1 HN.out.lt)
  have hs := HN.out.lt
  cases hok : p.ok with
  | false =>
    have HC0 : Hid (p.check = 101) := Lib.hid (by unfold Page.check; rw [hok]; rfl)
    rw [hok] at hO1
    have HOK := Lib.hid hok
    clear hok hb1
    rw [HC0.out]
    obtain ⟨n0, n1⟩ := Blk.cells2' HN1.out
    have nf : ∀ i, w1.frozen? ⟨w.heap.size + 1, i, none⟩ = false := HN1.out.frozen
    have HE : Hid (Blk ((w1.setCell ⟨w.heap.size + 1, 0, none⟩ (.bool false)).setCell ⟨w.heap.size + 1, 1, none⟩ (.slice none 0 0)) (w.heap.size + 1) 34 #[.bool false, .slice none 0 0]) := Lib.hid ((HN1.out.set_ 0 _).set_ 1 _)
    have HBE : Hid (Below w.heap.size w ((w1.setCell ⟨w.heap.size + 1, 0, none⟩ (.bool false)).setCell ⟨w.heap.size + 1, 1, none⟩ (.slice none 0 0))) := Lib.hid ((HB1.out.setCell (p := ⟨w.heap.size + 1, 0, none⟩) (by simp) _).setCell (p := ⟨w.heap.size + 1, 1, none⟩) (by simp) _)
    clear hO1
    go_wp2
    generalize ((w1.setCell ⟨w.heap.size + 1, 0, none⟩ (.bool false)).setCell ⟨w.heap.size + 1, 1, none⟩ (.slice none 0 0)) = wE at *
    obtain ⟨e0, e1⟩ := Blk.cells2' HE.out
    exact bodyPost_ret (v := .tuple #[.agg #[.bool false, .slice none 0 0], .int .i64 101]) (by simp [results, Tryz.results14, go_sem, e0, e1]) rfl (by rw [HOK.out, HC0.out]; exact ⟨.slice none 0 0, rfl, OwnB.nil _ _, HBE.out⟩)
  | true =>
    have HC0 : Hid (p.check = 0) := Lib.hid (by unfold Page.check; rw [hok]; rfl)
    rw [hok, cond_true] at hO1
    have HOK := Lib.hid hok
    clear hok hb1
    rw [HC0.out]
    have hO1' := hO1.mono (Nat.le_trans (Nat.le_of_lt (by omega : w.heap.size < w0.heap.size)) (Nat.le_refl _))
    obtain ⟨A1, c1, rfl, _, _, hob⟩ := OwnB.form hO1 rfl
    obtain ⟨n1l, hn1l⟩ : ∃ n, n = p.bytes.length := ⟨_, rfl⟩
    rw [← hn1l]
    rw [← hn1l] at hO1' hob
    have HO1 := Lib.hid hO1'
    have HOB := Lib.hid hob
    clear hO1 hO1' hob hn1l
    obtain ⟨n0, n1⟩ := Blk.cells2' HN1.out
    have nf : ∀ i, w1.frozen? ⟨w.heap.size + 1, i, none⟩ = false := HN1.out.frozen
    have HE : Hid (Blk ((w1.setCell ⟨w.heap.size + 1, 0, none⟩ (.bool true)).setCell ⟨w.heap.size + 1, 1, none⟩ (.slice A1 n1l c1)) (w.heap.size + 1) 34 #[.bool true, .slice A1 n1l c1]) := Lib.hid ((HN1.out.set_ 0 _).set_ 1 _)
    have HBE : Hid (Below w.heap.size w ((w1.setCell ⟨w.heap.size + 1, 0, none⟩ (.bool true)).setCell ⟨w.heap.size + 1, 1, none⟩ (.slice A1 n1l c1))) := Lib.hid ((HB1.out.setCell (p := ⟨w.heap.size + 1, 0, none⟩) (by simp) _).setCell (p := ⟨w.heap.size + 1, 1, none⟩) (by simp) _)
    have HOE : Hid (OwnB ((w1.setCell ⟨w.heap.size + 1, 0, none⟩ (.bool true)).setCell ⟨w.heap.size + 1, 1, none⟩ (.slice A1 n1l c1)) w.heap.size (.slice A1 n1l c1) p.bytes) := Lib.hid (OwnB.keepH HO1.out fun k hk => by
      have := (HOB.out k hk).1
      rw [Below.heap_setCell _ _ _ k (by simp; omega), Below.heap_setCell _ _ _ k (by simp; omega)])
    go_wp2
    generalize ((w1.setCell ⟨w.heap.size + 1, 0, none⟩ (.bool true)).setCell ⟨w.heap.size + 1, 1, none⟩ (.slice A1 n1l c1)) = wE at *
    obtain ⟨e0, e1⟩ := Blk.cells2' HE.out
    exact bodyPost_ret (v := .tuple #[.agg #[.bool true, .slice A1 n1l c1], .int .i64 0]) (by simp [results, Tryz.results14, go_sem, e0, e1]) rfl (by rw [HOK.out, HC0.out]; exact ⟨.slice A1 n1l c1, rfl, HOE.out, HBE.out⟩)
end Go.Proofs.YtjbdmaehomhdeaaGreat
