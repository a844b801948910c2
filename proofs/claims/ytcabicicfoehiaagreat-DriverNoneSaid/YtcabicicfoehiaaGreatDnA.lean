/- The driver of no engine: what New, Call, Mix, Keep, Rest and Steps do at a nil engine. -/
import Derived.Test.YtcabicicfoehiaaGreatProg
import Derived.Test.YtcabicicfoehiaaGreatRdB
namespace Go.Proofs.YtcabicicfoehiaaGreat
open Go.RowKit

structure CallD where
  client : Int
  kind : Int
  key : ByteArray
  value : ByteArray
  end_ : ByteArray
  most : Int
def CallD.cells (x : CallD) : List Value := [.int .i64 x.client, .int .i64 x.kind, .string x.key, .string x.value, .string x.end_, .int .i64 x.most]
theorem Rd.call {w : World} {lo hi : Nat} {A : Option Addr} {l : List CallD} (h : Rd CallD.cells 6 w lo hi A l) {i : Nat} (hi' : i < l.length) :
    ∃ ad x, A = some ad ∧ Hid (l[i]? = some x) ∧ lo ≤ ad.block ∧ ad.block < hi ∧ w.cell? (ad.add (i * 6)) = some (.int .i64 x.client) ∧ w.cell? ⟨(ad.add (i * 6)).block, (ad.add (i * 6)).off + 1, none⟩ = some (.int .i64 x.kind) ∧
      w.cell? ⟨(ad.add (i * 6)).block, (ad.add (i * 6)).off + 2, none⟩ = some (.string x.key) ∧ w.cell? ⟨(ad.add (i * 6)).block, (ad.add (i * 6)).off + 3, none⟩ = some (.string x.value) ∧
      w.cell? ⟨(ad.add (i * 6)).block, (ad.add (i * 6)).off + 4, none⟩ = some (.string x.end_) ∧ w.cell? ⟨(ad.add (i * 6)).block, (ad.add (i * 6)).off + 5, none⟩ = some (.int .i64 x.most) := by
  obtain ⟨ad, e, h1, h2, hc⟩ := h.at_ hi'
  refine ⟨ad, l[i], e, Lib.hid (List.getElem?_eq_getElem hi'), h1, h2, hc 0 _ rfl, ?_, ?_, ?_, ?_, ?_⟩
  · rw [← add_field _ _ 1 (by omega)]; exact hc 1 _ rfl
  · rw [← add_field _ _ 2 (by omega)]; exact hc 2 _ rfl
  · rw [← add_field _ _ 3 (by omega)]; exact hc 3 _ rfl
  · rw [← add_field _ _ 4 (by omega)]; exact hc 4 _ rfl
  · rw [← add_field _ _ 5 (by omega)]; exact hc 5 _ rfl

theorem info_ans : (Tryz.prog.info? 31).map (fun i => (i.zero, i.size, i.bytes)) = some (some (.agg #[.int .i64 0, .bool false, .string ByteArray.empty, .int .i64 0, .slice none 0 0]), 5, 64) := by kernel_rfl
theorem info_err : (Tryz.prog.info? 28).map (fun i => (i.zero, i.size, i.bytes)) = some (some (.int .i64 0), 1, 8) := by kernel_rfl
theorem info_int : (Tryz.prog.info? 3).map (fun i => (i.zero, i.size, i.bytes)) = some (some (.int .i64 0), 1, 8) := by kernel_rfl

/-- the driver at block g has no engine and has done no step -/
abbrev Idle (w : World) (g : Nat) : Prop := Blk w g 44 #[.pointer none, .int .i64 0]

set_option maxHeartbeats 400000 in
theorem new_nil (w : World) :
    Calls Tryz.prog 4 #[.pointer none] w fun e w' => e = .returned (.pointer (some ⟨w.heap.size, 0, none⟩)) ∧ w' = w.alloc (.cells #[.pointer none, .int .i64 0] 44) := by
  go_enter Tryz.func4, Tryz.ntmps4
  go_wp2
  go_ret
  exact ⟨rfl, rfl⟩

set_option maxHeartbeats 400000 in
theorem call_none (g : Nat) (c1 c2 c6 : Int) (c3 c4 c5 : ByteArray) (w : World) (hg : Idle w g) :
    Calls Tryz.prog 5 #[.pointer (some ⟨g, 0, none⟩), .agg #[.int .i64 c1, .int .i64 c2, .string c3, .string c4, .string c5, .int .i64 c6]] w fun e w' =>
      e = .returned (.tuple #[.agg #[.int .i64 0, .bool false, .string ByteArray.empty, .int .i64 0, .slice none 0 0], .int .i64 1]) ∧ Below w.heap.size w w' := by
  have h0 := hg.cell 0
  have hlt := hg.lt
  simp at h0
  clear hg
  go_enter Tryz.func5, Tryz.ntmps5
  go_wp2
  refine bodyPost_ret (v := .tuple #[.agg #[.int .i64 0, .bool false, .string ByteArray.empty, .int .i64 0, .slice none 0 0], .int .i64 1]) (by simp [results, Tryz.results5, go_sem]; rfl) rfl ⟨rfl, ?_⟩
  exact ((Below.refl _ _).alloc (Nat.le_refl _) _).alloc (by simp) _

set_option maxHeartbeats 400000 in
theorem keep_none (g : Nat) (w : World) (hg : Idle w g) :
    Calls Tryz.prog 7 #[.pointer (some ⟨g, 0, none⟩)] w fun e w' => e = .returned (.int .i64 1) ∧ w = w' := by
  have h0 := hg.cell 0
  simp at h0
  clear hg
  go_enter Tryz.func7, Tryz.ntmps7
  go_wp2
  go_ret
  exact ⟨rfl, rfl⟩

set_option maxHeartbeats 400000 in
theorem rest_none (g : Nat) (w : World) (hg : Idle w g) :
    Calls Tryz.prog 8 #[.pointer (some ⟨g, 0, none⟩)] w fun e w' => e = .returned (.bool false) ∧ w = w' := by
  have h0 := hg.cell 0
  simp at h0
  clear hg
  go_enter Tryz.func8, Tryz.ntmps8
  go_wp2
  go_ret
  exact ⟨rfl, rfl⟩

set_option maxHeartbeats 400000 in
theorem steps_none (g : Nat) (w : World) (hg : Idle w g) :
    Calls Tryz.prog 9 #[.pointer (some ⟨g, 0, none⟩)] w fun e w' => e = .returned (.int .i64 0) ∧ w = w' := by
  have h0 := hg.cell 1
  simp at h0
  clear hg
  go_enter Tryz.func9, Tryz.ntmps9
  go_wp2
  go_ret
  exact ⟨rfl, rfl⟩

def ansZ : Array Value := #[.int .i64 0, .bool false, .string ByteArray.empty, .int .i64 0, .slice none 0 0]
def AnsRow (n : Nat) : Array Value := madeCells ansZ (n * 5)
def ErrRow (k n : Nat) : Array Value := (List.replicate k (Value.int .i64 1) ++ List.replicate (n - k) (Value.int .i64 0)).toArray

set_option maxHeartbeats 1000000 in
theorem errRow0 (n : Nat) : madeCells #[Value.int .i64 0] n = ErrRow 0 n := by
  unfold madeCells ErrRow
  apply Array.ext
  · simp
  · intro i h1 h2
    simp [Nat.mod_one]

theorem Blk.second (w : World) (o : Obj) (t : TypeId) (cs : Array Value) : Blk ((w.alloc o).alloc (.cells cs t)) (w.heap.size + 1) t cs := by
  have h := Blk.new (w.alloc o) t cs
  simpa using h
theorem errRow_at {k n : Nat} (h : k < n) : (ErrRow k n)[k]? = some (.int .i64 0) := by
  unfold ErrRow
  rw [List.getElem?_toArray, List.getElem?_append_right (by simp), List.getElem?_replicate]
  simp
  omega
theorem errRow_set {k n : Nat} (h : k < n) : (ErrRow k n).setIfInBounds k (.int .i64 1) = ErrRow (k + 1) n := by
  unfold ErrRow
  obtain ⟨m, rfl⟩ : ∃ m, n = k + 1 + m := ⟨n - k - 1, by omega⟩
  rw [show k + 1 + m - k = m + 1 by omega, show k + 1 + m - (k + 1) = m by omega]
  rw [List.replicate_succ' (n := k)]
  simp [List.replicate_succ]
theorem errRow_full {k n i : Nat} (h : i < k) : (ErrRow k n)[i]? = some (.int .i64 1) := by
  unfold ErrRow
  simp [List.getElem?_append_left, h]

set_option maxRecDepth 100000 in
set_option maxHeartbeats 1000000 in
theorem mix_none (g : Nat) (A A' : Option Addr) (c n' c' : Nat) (l : List CallD) (w : World) (hg : Idle w g) (hr : Rd CallD.cells 6 w 0 w.heap.size A l) (hn : l.length ≤ 1954687600000) :
    Calls Tryz.prog 6 #[.pointer (some ⟨g, 0, none⟩), .slice A l.length c, .slice A' n' c'] w fun e w' =>
      ∃ ga ge, e = .returned (.tuple #[.slice (some ⟨ga, 0, none⟩) l.length l.length, .slice (some ⟨ge, 0, none⟩) l.length l.length]) ∧ Blk w' ga 31 (AnsRow l.length) ∧ Blk w' ge 28 (ErrRow l.length l.length) ∧ Below w.heap.size w w' := by
  obtain ⟨n, hN⟩ : ∃ n, n = l.length := ⟨_, rfl⟩
  rw [← hN] at hn
  rw [← hN]
  have HN := Lib.hid hN
  clear hN
  obtain ⟨i1, a1, b1, s1, y1⟩ := info_parts info_ans
  obtain ⟨i2, a2, b2, s2, y2⟩ := info_parts info_err
  obtain ⟨i3, a3, b3, s3, y3⟩ := info_parts info_int
  have hmA := fun W => run_make_rowN (P := Tryz.prog) 34 31 i1 _ Tryz.underlying34 a1 b1 .i64 .i64 n n (Nat.le_refl _) (by rw [y1]; omega) (by omega) W
  have hmE := fun W => run_make_rowN (P := Tryz.prog) 35 28 i2 _ Tryz.underlying35 a2 b2 .i64 .i64 n n (Nat.le_refl _) (by rw [y2]; omega) (by omega) W
  have hmI := fun W => run_make_rowN (P := Tryz.prog) 25 3 i3 _ Tryz.underlying25 a3 b3 .i64 .i64 n n (Nat.le_refl _) (by rw [y3]; omega) (by omega) W
  simp only [s1, s2, s3, Value.cells] at hmA hmE hmI
  clear s1 s2 s3 y1 y2 y3 a1 a2 a3 b1 b2 b3
  have HG := Lib.hid hg
  have HR := Lib.hid hr
  clear hg hr
  go_enter Tryz.func6, Tryz.ntmps6
  go_upto_region 1 with (fail)
  go_cut [8, 9] (fun a b wc => ∃ ga ge, a = .slice (some ⟨ga, 0, none⟩) n n ∧ b = .slice (some ⟨ge, 0, none⟩) n n ∧ Hid (Blk wc ga 31 (AnsRow n) ∧ Blk wc ge 28 (ErrRow 0 n) ∧ ga ≠ ge ∧ w.heap.size ≤ ga ∧ w.heap.size ≤ ge ∧ Below w.heap.size w wc))
  case first =>
    go_region
    · go_wp2
      go_meet
      case rel => exact ⟨_, _, rfl, rfl, Lib.hid ⟨((Blk.new _ _ _).alloc _).drew, (errRow0 n ▸ Blk.second w _ _ _ : Blk ((w.alloc _).alloc _) _ _ _).drew, by omega, by omega, by omega, (((Below.refl _ _).alloc (Nat.le_refl _) _).alloc (by simp) _).drew⟩⟩
    · go_wp2
      go_meet
      case rel => exact ⟨_, _, rfl, rfl, Lib.hid ⟨(Blk.second w _ _ _).drew, (errRow0 n ▸ (Blk.new _ _ _).alloc _ : Blk ((w.alloc _).alloc _) _ _ _).drew, by omega, by omega, by omega, (((Below.refl _ _).alloc (Nat.le_refl _) _).alloc (by simp) _).drew⟩⟩
  case rest =>
    obtain ⟨ga, ge, rfl, rfl, HC⟩ := hcut
    go_wp2
    go_loopw [11, 32] (fun b i wr => ∃ k : Nat, k ≤ n ∧ b = .slice none 0 0 ∧ i = .int .i64 k ∧ Hid (Idle wr g ∧ Blk wr ga 31 (AnsRow n) ∧ Blk wr ge 28 (ErrRow k n) ∧ ga ≠ ge ∧ w.heap.size ≤ ga ∧ w.heap.size ≤ ge ∧ Below w.heap.size w wr)) (fun _ i _ => n - (intOf i).toNat)
    case atStart => exact ⟨0, Nat.zero_le _, rfl, rfl, Lib.hid ⟨(HG.out.below HC.out.2.2.2.2.2 HG.out.lt).alloc _, HC.out.1.alloc _, HC.out.2.1.alloc _, HC.out.2.2.1, HC.out.2.2.2.1, HC.out.2.2.2.2.1, HC.out.2.2.2.2.2.alloc HC.out.2.2.2.2.2.size _⟩⟩
    case round =>
      obtain ⟨k, hk, rfl, rfl, HI⟩ := hrel
      have d0 := HI.out.1.cell 0
      have hge := HI.out.2.2.1.lt
      have hgl := HI.out.1.lt
      simp at d0
      by_cases hlt : k < n
      · obtain ⟨ad, x, rfl, hx, h1, h2, c0, c1, c2, c3, c4, c5⟩ := (HR.out.below HI.out.2.2.2.2.2.2).call (HN.out ▸ hlt)
        have e0 : wr.cell? ⟨ge, k, none⟩ = some (.int .i64 0) := by rw [HI.out.2.2.1.cell]; exact errRow_at hlt
        have f0 := HI.out.2.2.1.frozen k
        go_wp2
        go_roundw
        case rel =>
          have hne : g ≠ ge := by have := HG.out.lt; have := HI.out.2.2.2.2.2.1; omega
          have hb := (HI.out.2.2.2.2.2.2.setCell (p := ⟨ge, k, none⟩) HI.out.2.2.2.2.2.1 (.int .i64 1))
          exact ⟨k + 1, by omega, rfl, by go_num, Lib.hid ⟨(HI.out.1.far (p := ⟨ge, k, none⟩) hne _).alloc _, (HI.out.2.1.far (p := ⟨ge, k, none⟩) HI.out.2.2.2.1 _).alloc _, errRow_set hlt ▸ (HI.out.2.2.1.set_ k _).alloc _, HI.out.2.2.2.1, HI.out.2.2.2.2.1, HI.out.2.2.2.2.2.1, hb.alloc hb.size _⟩⟩
        case measure => simp [intOf]; omega
      · obtain rfl : k = n := by omega
        go_wp2
        go_ret2
        exact ⟨ga, ge, rfl, HI.out.2.1, HI.out.2.2.1, HI.out.2.2.2.2.2.2⟩
end Go.Proofs.YtcabicicfoehiaaGreat
