import Derived.Test.YtjbdmaehomhdeaaB1
namespace Go.Proofs.Ytjbdmaehomhdeaa
open Go.RowKit

/-- what lay lays down -/
inductive Piece where
  | text (s : ByteArray)
  | raw (A : Option Addr) (c : Nat) (l : List Nat)
  | flag (b : Bool)
def Piece.val : Piece → Value
  | .text s => .iface 9 (.string s)
  | .raw A c l => .iface 22 (.slice A l.length c)
  | .flag b => .iface 4 (.bool b)
def Piece.cells (x : Piece) : List Value := [x.val]
def textB (s : ByteArray) : List Nat := (s.size % 256) :: sB s
theorem sB_length (s : ByteArray) : (sB s).length = s.size := by unfold sB; simp
theorem textB_length (s : ByteArray) : (textB s).length = 1 + s.size := by unfold textB; rw [List.length_cons, sB_length]; omega
def flagB (b : Bool) : List Nat := [cond b 1 0]
def Piece.bytes : Piece → List Nat
  | .text s => textB s
  | .raw _ _ l => l
  | .flag b => flagB b
def Piece.In (w : World) (lo hi : Nat) : Piece → Prop
  | .raw A _ l => Rd byteCell 1 w lo hi A l
  | _ => True
def PostG (w : World) (base : Nat) (v : Value) (l : List Nat) (e : Ending) (w' : World) : Prop := ∃ v', e = .returned v' ∧ OwnB w' base v' l ∧ Grew w w' v v'

theorem Rd.piece {w : World} {lo hi : Nat} {A : Option Addr} {l : List Piece} (h : Rd Piece.cells 1 w lo hi A l) {i : Nat} (hi' : i < l.length) :
    ∃ ad x, A = some ad ∧ l[i]? = some x ∧ lo ≤ ad.block ∧ ad.block < hi ∧ w.cell? (ad.add i) = some x.val := by
  obtain ⟨ad, e, h1, h2, hc⟩ := h.at_ hi'
  exact ⟨ad, l[i], e, List.getElem?_eq_getElem hi', h1, h2, by simpa using hc 0 _ rfl⟩
theorem Rd.grew {α : Type} {f : α → List Value} {k : Nat} {w w' : World} {lo hi : Nat} {A : Option Addr} {l : List α} {v v' : Value} (h : Rd f k w lo hi A l) (hg : Grew w w' v v') (hhi : hi ≤ w.heap.size) (hv : ∀ k, v.ownBlock = some k → k < lo) : Rd f k w' lo hi A l :=
  h.keep fun p h1 h2 => hg.cell (by omega) (fun e => by have := hv _ e; omega)
theorem take_flat {l : List Piece} {k : Nat} {x : Piece} (hx : l[k]? = some x) : (l.take (k + 1)).flatMap Piece.bytes = (l.take k).flatMap Piece.bytes ++ x.bytes := by
  rw [List.take_add_one, hx]; simp
theorem flat_len {l : List Piece} {k : Nat} {x : Piece} (hx : l[k]? = some x) : ((l.take k).flatMap Piece.bytes).length + x.bytes.length ≤ (l.flatMap Piece.bytes).length := by
  have h : l.flatMap Piece.bytes = (l.take (k + 1)).flatMap Piece.bytes ++ (l.drop (k + 1)).flatMap Piece.bytes := by rw [← List.flatMap_append, List.take_append_drop]
  rw [h, take_flat hx]; simp

theorem as_ss (v : Value) (W : World) : (Instr.typeAssert (.iface 9 v) 20 9 true).run Try.prog W = .ok (.tuple #[v, .bool true]) W := by kernel_rfl
theorem as_bs (v : Value) (W : World) : (Instr.typeAssert (.iface 22 v) 20 9 true).run Try.prog W = .ok (.tuple #[.string ByteArray.empty, .bool false]) W := by kernel_rfl
theorem as_bb (v : Value) (W : World) : (Instr.typeAssert (.iface 22 v) 20 22 true).run Try.prog W = .ok (.tuple #[v, .bool true]) W := by kernel_rfl
theorem as_fs (v : Value) (W : World) : (Instr.typeAssert (.iface 4 v) 20 9 true).run Try.prog W = .ok (.tuple #[.string ByteArray.empty, .bool false]) W := by kernel_rfl
theorem as_fb (v : Value) (W : World) : (Instr.typeAssert (.iface 4 v) 20 22 true).run Try.prog W = .ok (.tuple #[.slice none 0 0, .bool false]) W := by kernel_rfl
theorem as_ff (v : Value) (W : World) : (Instr.typeAssert (.iface 4 v) 20 4 true).run Try.prog W = .ok (.tuple #[v, .bool true]) W := by kernel_rfl

set_option maxRecDepth 100000 in
set_option maxHeartbeats 2000000 in
theorem page_lay (base lo c : Nat) (v0 : Value) (bs : List Nat) (A : Option Addr) (ps : List Piece) (w : World) (hown : OwnB w base v0 bs) (hbase : base ≤ w.heap.size)
    (hr : Rd Piece.cells 1 w lo w.heap.size A ps) (hin : ∀ x ∈ ps, x.In w lo w.heap.size) (hv : ∀ k, v0.ownBlock = some k → k < lo) (hlen : bs.length + (ps.flatMap Piece.bytes).length ≤ 1099511627776) (hps : ps.length ≤ 1099511627776) :
    Calls Try.prog 57 #[v0, .slice A ps.length c] w (PostG w base v0 (bs ++ ps.flatMap Piece.bytes)) := by
  have HO := Lib.hid hown
  have HR := Lib.hid hr
  have HI := Lib.hid hin
  have HV := Lib.hid hv
  have HL := Lib.hid hlen
  have HBA := Lib.hid hbase
  clear hown hr hin hv hlen hbase
  go_enter Try.func57, Try.ntmps57
  go_wp2
  go_loopw [0, 12] (fun v i wr => ∃ k : Nat, k ≤ ps.length ∧ i = .int .i64 k ∧ Hid (OwnB wr base v (bs ++ (ps.take k).flatMap Piece.bytes)) ∧ Hid (Grew w wr v0 v)) (fun _ i _ => ps.length - (intOf i).toNat)
  case atStart => exact ⟨0, Nat.zero_le _, rfl, Lib.hid (by simpa using HO.out), Lib.hid (Grew.refl _ _)⟩
  case round =>
    obtain ⟨k, hk, rfl, HOr, HG⟩ := hrel
    by_cases hlt : k < ps.length
    · obtain ⟨ad, x, rfl, hx, h1, h2, c0⟩ := (HR.out.grew HG.out (Nat.le_refl _) HV.out).piece hlt
      have hfl := flat_len hx
      have htf := take_flat hx
      have hxm : x ∈ ps := List.mem_of_getElem? hx
      have HX := Lib.hid hx
      have HTF := Lib.hid htf
      have HFL := Lib.hid hfl
      have HIx := Lib.hid (HI.out x hxm)
      have hbr : base ≤ wr.heap.size := Nat.le_trans HBA.out HG.out.grown.size
      have hll : (bs ++ (ps.take k).flatMap Piece.bytes).length + x.bytes.length ≤ 1099511627776 := by have := HL.out; rw [List.length_append]; omega
      have HLL := Lib.hid hll
      clear hx hfl htf hxm hll
      cases x with
      | text s =>
        unfold Piece.val at c0
        have hsz : (bs ++ (ps.take k).flatMap Piece.bytes).length + 1 + s.size ≤ 1099511627776 := by
          have := HLL.out
          have h2 : (Piece.text s).bytes.length = 1 + s.size := textB_length s
          omega
        have HSZ := Lib.hid hsz
        clear hsz
        have a1 := as_ss
        go_wp2_with (first
          | (at_builtin; refine app1 wr rfl (.tmp 20) (.tmp 24) rfl base u0 (bs ++ (ps.take k).flatMap Piece.bytes) (s.size % 256) _ (Int.natCast_emod _ _).symm rfl HOr.out rfl (by have := HSZ.out; omega) hbr ?_; intro v1 w1 hO1 hG1)
          | (at_builtin; refine appS w1 rfl (.tmp 25) (.tmp 26) rfl base v1 _ s rfl hO1 rfl (by have := HSZ.out; rw [List.length_append, List.length_singleton]; omega) (Nat.le_trans hbr hG1.grown.size) ?_; intro v2 w2 hO2 hG2))
        go_roundw
        case rel => exact ⟨k + 1, by omega, by go_num, Lib.hid (by rw [HTF.out]; simpa [Piece.bytes, textB, List.append_assoc] using hO2), Lib.hid ((HG.out.trans hG1).trans hG2)⟩
        case measure => simp [intOf]; omega
      | raw A1 c1 m =>
        unfold Piece.val at c0
        have a1 := as_bs
        have a2 := as_bb
        go_wp2_with (at_builtin; refine appB wr rfl (.tmp 31) (.tmp 32) rfl base u0 (bs ++ (ps.take k).flatMap Piece.bytes) m A1 c1 lo w.heap.size rfl HOr.out rfl (Rd.grew HIx.out HG.out (Nat.le_refl _) HV.out) HLL.out hbr ?_; intro v1 w1 hO1 hG1)
        go_roundw
        case rel => exact ⟨k + 1, by omega, by go_num, Lib.hid (by rw [HTF.out]; simpa [Piece.bytes, List.append_assoc] using hO1), Lib.hid (HG.out.trans hG1)⟩
        case measure => simp [intOf]; omega
      | flag b =>
        unfold Piece.val at c0
        have a1 := as_fs
        have a2 := as_fb
        have a3 := as_ff
        cases b
        · go_wp2_with (at_builtin; refine app1 wr rfl (.tmp 41) (.tmp 42) rfl base u0 (bs ++ (ps.take k).flatMap Piece.bytes) 0 _ rfl rfl HOr.out rfl (by have := HLL.out; omega) hbr ?_; intro v1 w1 hO1 hG1)
          go_roundw
          case rel => exact ⟨k + 1, by omega, by go_num, Lib.hid (by rw [HTF.out]; simpa [Piece.bytes, flagB, List.append_assoc] using hO1), Lib.hid (HG.out.trans hG1)⟩
          case measure => simp [intOf]; omega
        · go_wp2_with (at_builtin; refine app1 wr rfl (.tmp 38) (.tmp 39) rfl base u0 (bs ++ (ps.take k).flatMap Piece.bytes) 1 _ rfl rfl HOr.out rfl (by have := HLL.out; omega) hbr ?_; intro v1 w1 hO1 hG1)
          go_roundw
          case rel => exact ⟨k + 1, by omega, by go_num, Lib.hid (by rw [HTF.out]; simpa [Piece.bytes, flagB, List.append_assoc] using hO1), Lib.hid (HG.out.trans hG1)⟩
          case measure => simp [intOf]; omega
    · obtain rfl : k = ps.length := by omega
      go_wp2
      go_ret
      exact ⟨_, rfl, by simpa using HOr.out, HG.out⟩
end Go.Proofs.Ytjbdmaehomhdeaa
