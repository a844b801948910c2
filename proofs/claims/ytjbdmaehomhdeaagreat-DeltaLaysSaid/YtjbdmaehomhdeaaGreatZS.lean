/- The reference's Same. -/
import Derived.Test.YtjbdmaehomhdeaaGreatZR
import Derived.Test.YtjbdmaehomhdeaaGreatZA
import Derived.Laws.StructEq
set_option linter.unusedSimpArgs false
set_option linter.unusedVariables false
namespace Go.Proofs.YtjbdmaehomhdeaaGreat
open Go.RowKit

def Item.same (x y : Item) : Bool := (x.key.toList == y.key.toList) && ((x.value.toList == y.value.toList) && ((x.no == y.no) && (x.gone == y.gone)))
def Kid.same (x y : Kid) : Bool := (x.key.toList == y.key.toList) && (x.page == y.page)
theorem bytes_ext {a b : ByteArray} (h : a.toList = b.toList) : a = b := by
  rw [ByteArray.toList_eq, ByteArray.toList_eq] at h
  cases a; cases b
  simp at h
  rw [h]
theorem Item.same_iff (x y : Item) : x.same y = true ↔ x = y := by
  unfold Item.same
  simp only [Bool.and_eq_true, beq_iff_eq]
  constructor
  · rintro ⟨a, b, c, d⟩
    cases x; cases y
    simp only at a b c d
    rw [bytes_ext a, bytes_ext b, c, d]
  · rintro rfl; exact ⟨rfl, rfl, rfl, rfl⟩
theorem Kid.same_iff (x y : Kid) : x.same y = true ↔ x = y := by
  unfold Kid.same
  simp only [Bool.and_eq_true, beq_iff_eq]
  constructor
  · rintro ⟨a, c⟩
    cases x; cases y
    simp only at a c
    rw [bytes_ext a, c]
  · rintro rfl; exact ⟨rfl, rfl⟩
theorem Item.same_self (x : Item) : x.same x = true := (Item.same_iff x x).2 rfl
theorem Kid.same_self (x : Kid) : x.same x = true := (Kid.same_iff x x).2 rfl

section
variable {P : Program} {d : Nat} {xs ys : Array Value} {f : Field} {fs : List Field} {a b : Value} {r s : Bool} {w : World}
theorem fields_one (hn : (f.name == "_") = false) (ha : (part f.type xs f.offset).run P w = .ok a w) (hb : (part f.type ys f.offset).run P w = .ok b w) (he : (Op.equalIn d f.type a b).run P w = .ok r w) (hr : (Op.eqFields d xs ys fs).run P w = .ok s w) : (Op.eqFields d xs ys (f :: fs)).run P w = .ok (r && s) w := by
  have hn' : f.name ≠ "_" := by simpa using hn
  rw [Op.eqFields]
  simp only [if_pos hn', Sem.run_bind, ha, hb, he, Result.andThen_ok]
  cases r
  · simp
  · simpa using hr
theorem fields_none : (Op.eqFields d xs ys []).run P w = .ok true w := by simp [Op.eqFields]
theorem eqIn_fields {t : TypeId} {fs : Array Field} (hu : P.underlying t = some (.struct fs)) (hp : P.stoodInHeld t = false) (h : (Op.eqFields d xs ys fs.toList).run P w = .ok r w) : (Op.equalIn (d + 1) t (.agg xs) (.agg ys)).run P w = .ok r w := by
  have hf : P.fieldsOf t = fs := by simp [Program.fieldsOf, hu]
  rw [run_equalIn_struct (P := P) w d t xs ys (by rw [hf]; exact hu) hp, hf]
  exact h
end
theorem eqIn_item (d : Nat) (x y : Item) (w : World) : (Op.equalIn (d + 2) 23 (.agg #[.string x.key, .string x.value, .int .i64 x.no, .bool x.gone]) (.agg #[.string y.key, .string y.value, .int .i64 y.no, .bool y.gone])).run Tryz.prog w = .ok (x.same y) w := by
  have e : x.same y = ((x.key.toList == y.key.toList) && ((x.value.toList == y.value.toList) && ((x.no == y.no) && ((x.gone == y.gone) && true)))) := by unfold Item.same; simp
  rw [e]
  refine eqIn_fields Tryz.underlying23 (by kernel_rfl) ?_
  refine fields_one (by rfl) (by go_simp; rfl) (by go_simp; rfl) (by go_simp) ?_
  refine fields_one (by rfl) (by go_simp; rfl) (by go_simp; rfl) (by go_simp) ?_
  refine fields_one (by rfl) (by go_simp; rfl) (by go_simp; rfl) (by go_simp) ?_
  exact fields_one (by rfl) (by go_simp; rfl) (by go_simp; rfl) (by go_simp) fields_none
theorem eqIn_kid (d : Nat) (x y : Kid) (w : World) : (Op.equalIn (d + 2) 61 (.agg #[.string x.key, .int .i64 x.page]) (.agg #[.string y.key, .int .i64 y.page])).run Tryz.prog w = .ok (x.same y) w := by
  have e : x.same y = ((x.key.toList == y.key.toList) && ((x.page == y.page) && true)) := by unfold Kid.same; simp
  rw [e]
  refine eqIn_fields Tryz.underlying61 (by kernel_rfl) ?_
  refine fields_one (by rfl) (by go_simp; rfl) (by go_simp; rfl) (by go_simp) ?_
  exact fields_one (by rfl) (by go_simp; rfl) (by go_simp; rfl) (by go_simp) fields_none
theorem neq_item (x y : Item) (w : World) : (binOp .neq 23 (.agg #[.string x.key, .string x.value, .int .i64 x.no, .bool x.gone]) (.agg #[.string y.key, .string y.value, .int .i64 y.no, .bool y.gone])).run Tryz.prog w = .ok (.bool (!(x.same y))) w := by
  rw [run_neq_struct, eqIn_item 9998 x y w]; rfl
theorem neq_kid (x y : Kid) (w : World) : (binOp .neq 61 (.agg #[.string x.key, .int .i64 x.page]) (.agg #[.string y.key, .int .i64 y.page])).run Tryz.prog w = .ok (.bool (!(x.same y))) w := by
  rw [run_neq_struct, eqIn_kid 9998 x y w]; rfl
theorem eql_item (x y : Item) (w : World) : (binOp .eql 23 (.agg #[.string x.key, .string x.value, .int .i64 x.no, .bool x.gone]) (.agg #[.string y.key, .string y.value, .int .i64 y.no, .bool y.gone])).run Tryz.prog w = .ok (.bool (x.same y)) w := by
  rw [run_eql_struct, eqIn_item 9998 x y w]; rfl

noncomputable def Page.same (p q : Page) : Bool := @decide (p = q) (Classical.propDecidable _)

theorem Page.same_no {p q : Page} (h : p ≠ q) : false = p.same q := by
  unfold Page.same; symm; rw [decide_eq_false_iff_not]; exact h
theorem Page.same_yes {p q : Page} (h : p = q) : true = p.same q := by
  unfold Page.same; symm; exact @decide_eq_true _ (Classical.propDecidable _) h
theorem bytes_ne {a b : ByteArray} (h : ¬ a = b) : (a.toList == b.toList) = false := by
  rw [beq_eq_false_iff_ne]; exact fun e => h (bytes_ext e)

set_option maxRecDepth 100000 in
set_option maxHeartbeats 4000000 in
theorem ref_Same (p q : Page) (A1 A2 B1 B2 : Option Addr) (c1 c2 d1 d2 lo lo' : Nat) (w : World) (hp : Pg w lo w.heap.size p A1 A2 c1 c2) (hq : Pg w lo' w.heap.size q B1 B2 d1 d2) :
    Calls Tryz.prog 20 #[p.val A1 c1 A2 c2, q.val B1 d1 B2 d2] w fun e w' => e = .returned (.bool (p.same q)) ∧ Below w.heap.size w w' := by
  obtain ⟨hpi, hpk, _, _, hpn, hpm⟩ := hp
  obtain ⟨hqi, hqk, _, _, _, _⟩ := hq
  obtain ⟨a1, a2, a3, a4, a5, its, kds⟩ := p
  obtain ⟨b1, b2, b3, b4, b5, its', kds'⟩ := q
  simp only at hpi hpk hqi hqk hpn hpm
  have HPI := Lib.hid hpi
  have HPK := Lib.hid hpk
  have HQI := Lib.hid hqi
  have HQK := Lib.hid hqk
  clear hpi hpk hqi hqk
  unfold Page.val Page.raw
  simp only
  obtain ⟨ni, hni⟩ : ∃ n, n = its.length := ⟨_, rfl⟩
  obtain ⟨nk, hnk⟩ : ∃ n, n = kds.length := ⟨_, rfl⟩
  obtain ⟨mi, hmi⟩ : ∃ n, n = its'.length := ⟨_, rfl⟩
  obtain ⟨mk, hmk⟩ : ∃ n, n = kds'.length := ⟨_, rfl⟩
  rw [← hni, ← hnk, ← hmi, ← hmk]
  rw [← hni] at hpn
  rw [← hnk] at hpm
  have HNI := Lib.hid hni
  have HNK := Lib.hid hnk
  have HMI := Lib.hid hmi
  have HMK := Lib.hid hmk
  clear hni hnk hmi hmk
  by_cases h : a1 = b1
  case neg =>
    have ht : (a1 == b1) = false := by rw [beq_eq_false_iff_ne]; exact h
    have ht2 : (a1 != b1) = true := by rw [bne, ht]; rfl
    have HN : Hid (Page.mk a1 a2 a3 a4 a5 its kds ≠ Page.mk b1 b2 b3 b4 b5 its' kds') := Lib.hid (fun e => by injection e; contradiction)
    clear h
    go_enter Tryz.func20, Tryz.ntmps20
    go_wp2
    go_ret
    exact ⟨ret_bool (Page.same_no HN.out), ((Below.refl _ _).alloc (Nat.le_refl _) _).alloc (by simp) _⟩
  subst h
  by_cases h : a2 = b2
  case neg =>
    have ht : (a2.toList == b2.toList) = false := bytes_ne h
    have ht2 : (a2.toList != b2.toList) = true := by rw [bne, ht]; rfl
    have HN : Hid (Page.mk a1 a2 a3 a4 a5 its kds ≠ Page.mk a1 b2 b3 b4 b5 its' kds') := Lib.hid (fun e => by injection e; contradiction)
    clear h
    go_enter Tryz.func20, Tryz.ntmps20
    go_wp2
    go_ret
    exact ⟨ret_bool (Page.same_no HN.out), ((Below.refl _ _).alloc (Nat.le_refl _) _).alloc (by simp) _⟩
  subst h
  by_cases h : a3 = b3
  case neg =>
    have ht : (a3.toList == b3.toList) = false := bytes_ne h
    have ht2 : (a3.toList != b3.toList) = true := by rw [bne, ht]; rfl
    have HN : Hid (Page.mk a1 a2 a3 a4 a5 its kds ≠ Page.mk a1 a2 b3 b4 b5 its' kds') := Lib.hid (fun e => by injection e; contradiction)
    clear h
    go_enter Tryz.func20, Tryz.ntmps20
    go_wp2
    go_ret
    exact ⟨ret_bool (Page.same_no HN.out), ((Below.refl _ _).alloc (Nat.le_refl _) _).alloc (by simp) _⟩
  subst h
  by_cases h : a4 = b4
  case neg =>
    have ht : (a4 == b4) = false := by rw [beq_eq_false_iff_ne]; exact h
    have ht2 : (a4 != b4) = true := by rw [bne, ht]; rfl
    have HN : Hid (Page.mk a1 a2 a3 a4 a5 its kds ≠ Page.mk a1 a2 a3 b4 b5 its' kds') := Lib.hid (fun e => by injection e; contradiction)
    clear h
    go_enter Tryz.func20, Tryz.ntmps20
    go_wp2
    go_ret
    exact ⟨ret_bool (Page.same_no HN.out), ((Below.refl _ _).alloc (Nat.le_refl _) _).alloc (by simp) _⟩
  subst h
  by_cases h : a5 = b5
  case neg =>
    have ht : (a5 == b5) = false := by rw [beq_eq_false_iff_ne]; exact h
    have ht2 : (a5 != b5) = true := by rw [bne, ht]; rfl
    have HN : Hid (Page.mk a1 a2 a3 a4 a5 its kds ≠ Page.mk a1 a2 a3 a4 b5 its' kds') := Lib.hid (fun e => by injection e; contradiction)
    clear h
    go_enter Tryz.func20, Tryz.ntmps20
    go_wp2
    go_ret
    exact ⟨ret_bool (Page.same_no HN.out), ((Below.refl _ _).alloc (Nat.le_refl _) _).alloc (by simp) _⟩
  subst h
  by_cases h : ni = mi
  case neg =>
    have ht : ((ni : Int) == (mi : Int)) = false := by rw [beq_eq_false_iff_ne]; omega
    have ht2 : ((ni : Int) != (mi : Int)) = true := by rw [bne, ht]; rfl
    have HN : Hid (Page.mk a1 a2 a3 a4 a5 its kds ≠ Page.mk a1 a2 a3 a4 a5 its' kds') := Lib.hid (fun e => by have e2 := congrArg Page.items e; exact h (by rw [HNI.out, HMI.out]; exact congrArg List.length e2))
    clear h
    go_enter Tryz.func20, Tryz.ntmps20
    go_wp2
    go_ret
    exact ⟨ret_bool (Page.same_no HN.out), ((Below.refl _ _).alloc (Nat.le_refl _) _).alloc (by simp) _⟩
  subst h
  by_cases h : nk = mk
  case neg =>
    have ht : ((nk : Int) == (mk : Int)) = false := by rw [beq_eq_false_iff_ne]; omega
    have ht2 : ((nk : Int) != (mk : Int)) = true := by rw [bne, ht]; rfl
    have HN : Hid (Page.mk a1 a2 a3 a4 a5 its kds ≠ Page.mk a1 a2 a3 a4 a5 its' kds') := Lib.hid (fun e => by have e2 := congrArg Page.kids e; exact h (by rw [HNK.out, HMK.out]; exact congrArg List.length e2))
    clear h
    go_enter Tryz.func20, Tryz.ntmps20
    go_wp2
    go_ret
    exact ⟨ret_bool (Page.same_no HN.out), ((Below.refl _ _).alloc (Nat.le_refl _) _).alloc (by simp) _⟩
  subst h
  have hP : Blk ((w.alloc (.cells #[Value.int IntKind.i64 a1, Value.string a2, Value.string a3, Value.bool a4, Value.int IntKind.i64 a5, Value.slice A1 ni c1, Value.slice A2 nk c2] 27)).alloc (.cells #[Value.int IntKind.i64 a1, Value.string a2, Value.string a3, Value.bool a4, Value.int IntKind.i64 a5, Value.slice B1 ni d1, Value.slice B2 nk d2] 27)) w.heap.size 27 #[Value.int IntKind.i64 a1, Value.string a2, Value.string a3, Value.bool a4, Value.int IntKind.i64 a5, Value.slice A1 ni c1, Value.slice A2 nk c2] := (Blk.new _ _ _).alloc _
  have hQ : Blk ((w.alloc (.cells #[Value.int IntKind.i64 a1, Value.string a2, Value.string a3, Value.bool a4, Value.int IntKind.i64 a5, Value.slice A1 ni c1, Value.slice A2 nk c2] 27)).alloc (.cells #[Value.int IntKind.i64 a1, Value.string a2, Value.string a3, Value.bool a4, Value.int IntKind.i64 a5, Value.slice B1 ni d1, Value.slice B2 nk d2] 27)) (w.heap.size + 1) 27 #[Value.int IntKind.i64 a1, Value.string a2, Value.string a3, Value.bool a4, Value.int IntKind.i64 a5, Value.slice B1 ni d1, Value.slice B2 nk d2] := by
    have := Blk.new (w.alloc (.cells #[Value.int IntKind.i64 a1, Value.string a2, Value.string a3, Value.bool a4, Value.int IntKind.i64 a5, Value.slice A1 ni c1, Value.slice A2 nk c2] 27)) 27 #[Value.int IntKind.i64 a1, Value.string a2, Value.string a3, Value.bool a4, Value.int IntKind.i64 a5, Value.slice B1 ni d1, Value.slice B2 nk d2]
    simpa using this
  have hB : Below w.heap.size w ((w.alloc (.cells #[Value.int IntKind.i64 a1, Value.string a2, Value.string a3, Value.bool a4, Value.int IntKind.i64 a5, Value.slice A1 ni c1, Value.slice A2 nk c2] 27)).alloc (.cells #[Value.int IntKind.i64 a1, Value.string a2, Value.string a3, Value.bool a4, Value.int IntKind.i64 a5, Value.slice B1 ni d1, Value.slice B2 nk d2] 27)) := ((Below.refl _ _).alloc (Nat.le_refl _) _).alloc (by simp) _
  have HP := Lib.hid hP
  have HQ := Lib.hid hQ
  have HB := Lib.hid hB
  clear hP hQ hB
  go_enter Tryz.func20, Tryz.ntmps20
  go_wp2
  generalize (w.alloc (.cells #[Value.int IntKind.i64 a1, Value.string a2, Value.string a3, Value.bool a4, Value.int IntKind.i64 a5, Value.slice A1 ni c1, Value.slice A2 nk c2] 27)).alloc (.cells #[Value.int IntKind.i64 a1, Value.string a2, Value.string a3, Value.bool a4, Value.int IntKind.i64 a5, Value.slice B1 ni d1, Value.slice B2 nk d2] 27) = w0 at *
  obtain ⟨p0, p1, p2, p3, p4, p5, p6⟩ := Blk.cells7 HP.out
  obtain ⟨q0, q1, q2, q3, q4, q5, q6⟩ := Blk.cells7 HQ.out
  have P1 : Hid (Rd Item.cells 4 w0 lo w.heap.size A1 its) := Lib.hid (HPI.out.below HB.out)
  have P2 : Hid (Rd Kid.cells 2 w0 lo w.heap.size A2 kds) := Lib.hid (HPK.out.below HB.out)
  have Q1 : Hid (Rd Item.cells 4 w0 lo' w.heap.size B1 its') := Lib.hid (HQI.out.below HB.out)
  have Q2 : Hid (Rd Kid.cells 2 w0 lo' w.heap.size B2 kds') := Lib.hid (HQK.out.below HB.out)
  clear HPI HPK HQI HQK
  go_loopw [5] (fun i wr => ∃ k : Nat, k ≤ ni ∧ i = .int .i64 k ∧ (∃ q, wr = w0.drewN q) ∧ Hid (∀ q, q < k → its[q]? = its'[q]?)) (fun i _ => ni - (intOf i).toNat)
  case atStart => exact ⟨0, Nat.zero_le _, rfl, ⟨0, rfl⟩, Lib.hid (fun q h => by omega)⟩
  case round =>
    obtain ⟨k, hk, rfl, ⟨q, rfl⟩, HS⟩ := hrel
    by_cases hlt : k < ni
    · obtain ⟨ad, x, rfl, hx, h1, h2, c0, c1', c2', c3'⟩ := P1.out.item (i := k) (by rw [← HNI.out]; exact hlt)
      obtain ⟨be, y, rfl, hy, h1', h2', e0, e1, e2, e3⟩ := Q1.out.item (i := k) (by rw [← HMI.out]; exact hlt)
      have hlt' : (k : Int) < (ni : Int) := by omega
      have hlt2 : (0 : Int) ≤ (k : Int) := by omega
      cases hxy : x.same y with
      | true =>
        have hn : ∀ W, (binOp .neq 23 (.agg #[.string x.key, .string x.value, .int .i64 x.no, .bool x.gone]) (.agg #[.string y.key, .string y.value, .int .i64 y.no, .bool y.gone])).run Tryz.prog W = .ok (.bool false) W := fun W => by rw [neq_item, hxy]; rfl
        have HXY := Lib.hid hxy
        clear hxy
        go_wp2
        go_quiet (fail)
        go_wp2
        go_roundw
        case rel => exact ⟨k + 1, by omega, by go_num, ⟨_, rfl⟩, Lib.hid (fun j hj => by
          rcases Nat.lt_or_ge j k with h | h
          · exact HS.out j h
          · obtain rfl : j = k := by omega
            rw [hx.out, hy.out, (Item.same_iff x y).1 HXY.out])⟩
        case measure => simp [intOf]; omega
      | false =>
        have hn : ∀ W, (binOp .neq 23 (.agg #[.string x.key, .string x.value, .int .i64 x.no, .bool x.gone]) (.agg #[.string y.key, .string y.value, .int .i64 y.no, .bool y.gone])).run Tryz.prog W = .ok (.bool true) W := fun W => by rw [neq_item, hxy]; rfl
        have HXY := Lib.hid hxy
        clear hxy
        go_wp2
        go_quiet (fail)
        go_wp2
        go_ret
        refine ⟨ret_bool (Page.same_no fun e => ?_), HB.out.trans (below_drewN (below_drewN (Below.refl _ _) _) _)⟩
        have e2 : its = its' := congrArg Page.items e
        have e3 : x = y := by
          have h1 := hx.out
          rw [e2, hy.out] at h1
          exact (Option.some.inj h1).symm
        have e4 := HXY.out
        rw [(Item.same_iff x y).2 e3] at e4
        cases e4
    · obtain rfl : k = ni := by omega
      have HIE : Hid (its = its') := Lib.hid (List.ext_getElem? fun j => by
        rcases Nat.lt_or_ge j k with h | h
        · exact HS.out j h
        · rw [List.getElem?_eq_none (by rw [← HNI.out]; exact h), List.getElem?_eq_none (by rw [← HMI.out]; exact h)])
      go_wp2
      go_loopw [6] (fun i wr => ∃ j : Nat, j ≤ nk ∧ i = .int .i64 j ∧ (∃ q, wr = w0.drewN q) ∧ Hid (∀ q, q < j → kds[q]? = kds'[q]?)) (fun i _ => nk - (intOf i).toNat)
      case atStart => exact ⟨0, Nat.zero_le _, rfl, ⟨q, rfl⟩, Lib.hid (fun q h => by omega)⟩
      case round =>
        obtain ⟨j, hj, rfl, ⟨m, rfl⟩, HS2⟩ := hrel
        by_cases hlt : j < nk
        · obtain ⟨ad, x, rfl, hx, h1, h2, c0, c1'⟩ := P2.out.kid (i := j) (by rw [← HNK.out]; exact hlt)
          obtain ⟨be, y, rfl, hy, h1', h2', e0, e1⟩ := Q2.out.kid (i := j) (by rw [← HMK.out]; exact hlt)
          have hlt' : (j : Int) < (nk : Int) := by omega
          have hlt2 : (0 : Int) ≤ (j : Int) := by omega
          cases hxy : x.same y with
          | true =>
            have hn : ∀ W, (binOp .neq 61 (.agg #[.string x.key, .int .i64 x.page]) (.agg #[.string y.key, .int .i64 y.page])).run Tryz.prog W = .ok (.bool false) W := fun W => by rw [neq_kid, hxy]; rfl
            have HXY := Lib.hid hxy
            clear hxy
            go_wp2
            go_quiet (fail)
            go_wp2
            go_roundw
            case rel => exact ⟨j + 1, by omega, by go_num, ⟨_, rfl⟩, Lib.hid (fun l hl => by
              rcases Nat.lt_or_ge l j with h | h
              · exact HS2.out l h
              · obtain rfl : l = j := by omega
                rw [hx.out, hy.out, (Kid.same_iff x y).1 HXY.out])⟩
            case measure => simp [intOf]; omega
          | false =>
            have hn : ∀ W, (binOp .neq 61 (.agg #[.string x.key, .int .i64 x.page]) (.agg #[.string y.key, .int .i64 y.page])).run Tryz.prog W = .ok (.bool true) W := fun W => by rw [neq_kid, hxy]; rfl
            have HXY := Lib.hid hxy
            clear hxy
            go_wp2
            go_quiet (fail)
            go_wp2
            go_ret
            refine ⟨ret_bool (Page.same_no fun e => ?_), HB.out.trans (below_drewN (below_drewN (Below.refl _ _) _) _)⟩
            have e2 : kds = kds' := congrArg Page.kids e
            have e3 : x = y := by
              have h1 := hx.out
              rw [e2, hy.out] at h1
              exact (Option.some.inj h1).symm
            have e4 := HXY.out
            rw [(Kid.same_iff x y).2 e3] at e4
            cases e4
        · obtain rfl : j = nk := by omega
          have HKE : Hid (kds = kds') := Lib.hid (List.ext_getElem? fun l => by
            rcases Nat.lt_or_ge l j with h | h
            · exact HS2.out l h
            · rw [List.getElem?_eq_none (by rw [← HNK.out]; exact h), List.getElem?_eq_none (by rw [← HMK.out]; exact h)])
          go_wp2
          go_ret
          exact ⟨ret_bool (Page.same_yes (by rw [HIE.out, HKE.out])), HB.out.trans (below_drewN (Below.refl _ _) _)⟩
end Go.Proofs.YtjbdmaehomhdeaaGreat

namespace Go.Proofs.YtjbdmaehomhdeaaGreat
open Go.RowKit

theorem Page.Fine2.of_ok {p : Page} (h : p.ok = true) : p.Fine2 := by
  unfold Page.ok at h
  simp only [Bool.and_eq_true, Bool.or_eq_true, Bool.not_eq_true'] at h
  obtain ⟨⟨hb, hl⟩, hi⟩ := h
  have hlv := bounds_level hb
  unfold Page.boundsB Page.bounds1 Page.bounds2 at hb
  simp only [Bool.and_eq_true, decide_eq_true_eq] at hb
  obtain ⟨⟨⟨h1, h2⟩, h3⟩, h4⟩ := hb
  have h5 : p.side ≤ 512 := by
    cases hl : p.last <;> rw [hl] at h4
    · simp only [cond_false, Bool.and_eq_true, isKey, isPage, decide_eq_true_eq] at h4
      omega
    · simp only [cond_true, Bool.and_eq_true, List.isEmpty_iff, beq_iff_eq] at h4
      omega
  by_cases h0 : p.level = 0
  · have hlf : p.leafB = true := by
      rcases hl with h | h
      · simp [h0] at h
      · exact h
    unfold Page.leafB at hlf
    simp only [Bool.and_eq_true, decide_eq_true_eq, Bool.not_eq_true', List.any_eq_false] at hlf
    obtain ⟨⟨⟨k1, k2⟩, k3⟩, _⟩ := hlf
    have hk : p.kids = [] := List.eq_nil_of_length_eq_zero k1
    refine ⟨h3, h5, fun x hx => ?_, (fun x hx => by rw [hk] at hx; cases hx)⟩
    have hm := Item.of_check (x := x) (by simpa using k3 x hx)
    exact hm.2.2.2.1
  · have hin : p.innerB = true := by
      rcases hi with h | h
      · simp at h; omega
      · exact h
    unfold Page.innerB at hin
    simp only [Bool.and_eq_true, decide_eq_true_eq, Bool.not_eq_true', List.any_eq_false] at hin
    obtain ⟨⟨⟨⟨⟨k1, _⟩, k2⟩, _⟩, k3⟩, _⟩ := hin
    have hk : p.items = [] := List.eq_nil_of_length_eq_zero k1
    refine ⟨h3, h5, (fun x hx => by rw [hk] at hx; cases hx), fun x hx => ?_⟩
    have := k3 x hx
    simp [Kid.bad, isPage] at this
    omega

set_option maxHeartbeats 400000 in
theorem ref_Check (p : Page) (A A' : Option Addr) (c c' lo : Nat) (w : World) (hp : Pg w lo w.heap.size p A A' c c') :
    Calls Tryz.prog 43 #[p.val A c A' c'] w fun e w' => e = .returned (.int .i64 p.check) ∧ Below w.heap.size w w' := by
  have H1 := Lib.hid hp
  clear hp
  have HMAY := Lib.hid (fun w1 h => ref_may p A A' c c' lo w1 h)
  unfold Page.val Page.raw at HMAY
  unfold Page.val Page.raw
  obtain ⟨ni, hni⟩ : ∃ n, n = p.items.length := ⟨_, rfl⟩
  obtain ⟨nk, hnk⟩ : ∃ n, n = p.kids.length := ⟨_, rfl⟩
  rw [← hni, ← hnk]
  rw [← hni, ← hnk] at HMAY
  clear hni hnk
  go_enter Tryz.func43, Tryz.ntmps43
  go_upto_region 1 with (fail)
  have hP : PBlk (w.alloc (Obj.cells #[Value.int IntKind.i64 p.level, Value.string p.low, Value.string p.high, Value.bool p.last, Value.int IntKind.i64 p.side, Value.slice A ni c, Value.slice A' nk c'] 27)) w.heap.size p A ni c A' nk c' := Blk.new _ _ _
  have hB : Below w.heap.size w (w.alloc (Obj.cells #[Value.int IntKind.i64 p.level, Value.string p.low, Value.string p.high, Value.bool p.last, Value.int IntKind.i64 p.side, Value.slice A ni c, Value.slice A' nk c'] 27)) := (Below.refl _ _).alloc (Nat.le_refl _) _
  generalize (w.alloc (Obj.cells #[Value.int IntKind.i64 p.level, Value.string p.low, Value.string p.high, Value.bool p.last, Value.int IntKind.i64 p.side, Value.slice A ni c, Value.slice A' nk c'] 27)) = w0 at *
  have HB := Lib.hid hB
  obtain ⟨q0, q1, q2, q3, q4, q5, q6⟩ := hP.cells
  have HR0 : Hid (Pg w0 lo w0.heap.size p A A' c c') := Lib.hid ((H1.out.below hB).mono (Nat.le_refl _) hB.size)
  clear hP hB
  cases hok : p.ok
  all_goals
    have HC0 : Hid (p.check = cond p.ok 0 101) := Lib.hid rfl
    rw [hok] at HC0
    have HOK := Lib.hid hok
    clear hok
    go_wp2_with (go_at_call 76; refine (HMAY.out w0 HR0.out).mono ?_; rw [HOK.out]; rintro e w1 ⟨rfl, hb1⟩)
    go_ret
    exact ⟨ret_i64 (by rw [HC0.out]; rfl), HB.out.trans (hb1.mono HB.out.size)⟩

set_option maxRecDepth 100000 in
set_option maxHeartbeats 1000000 in
theorem ref_Encode (p : Page) (A A' : Option Addr) (c c' lo : Nat) (w : World) (hp : Pg w lo w.heap.size p A A' c c') :
    Calls Tryz.prog 36 #[p.val A c A' c'] w (PostE w p) := by
  have H1 := Lib.hid hp
  clear hp
  have HCH := Lib.hid (fun w1 h => ref_Check p A A' c c' lo w1 h)
  have HBY := Lib.hid (fun w1 h hf hf2 => ref_bytes p A A' c c' lo w1 h hf hf2)
  unfold Page.val Page.raw at HCH HBY
  unfold Page.val Page.raw
  obtain ⟨ni, hni⟩ : ∃ n, n = p.items.length := ⟨_, rfl⟩
  obtain ⟨nk, hnk⟩ : ∃ n, n = p.kids.length := ⟨_, rfl⟩
  rw [← hni, ← hnk]
  rw [← hni, ← hnk] at HCH HBY
  clear hni hnk
  go_enter Tryz.func36, Tryz.ntmps36
  go_upto_region 1 with (fail)
  have hP : PBlk (w.alloc (Obj.cells #[Value.int IntKind.i64 p.level, Value.string p.low, Value.string p.high, Value.bool p.last, Value.int IntKind.i64 p.side, Value.slice A ni c, Value.slice A' nk c'] 27)) w.heap.size p A ni c A' nk c' := Blk.new _ _ _
  have hB : Below w.heap.size w (w.alloc (Obj.cells #[Value.int IntKind.i64 p.level, Value.string p.low, Value.string p.high, Value.bool p.last, Value.int IntKind.i64 p.side, Value.slice A ni c, Value.slice A' nk c'] 27)) := (Below.refl _ _).alloc (Nat.le_refl _) _
  generalize (w.alloc (Obj.cells #[Value.int IntKind.i64 p.level, Value.string p.low, Value.string p.high, Value.bool p.last, Value.int IntKind.i64 p.side, Value.slice A ni c, Value.slice A' nk c'] 27)) = w0 at *
  have HP := Lib.hid hP
  have HB := Lib.hid hB
  clear hP hB
  obtain ⟨q0, q1, q2, q3, q4, q5, q6⟩ := HP.out.cells
  have HR0 : Hid (Pg w0 lo w0.heap.size p A A' c c') := Lib.hid ((H1.out.below HB.out).mono (Nat.le_refl _) HB.out.size)
  cases hok : p.ok with
  | true =>
    have HOK := Lib.hid hok
    have HC0 : Hid (p.check = 0) := Lib.hid (by unfold Page.check; rw [hok]; rfl)
    clear hok
    go_wp2_with (first
      | (go_at_call 43; refine (HCH.out w0 HR0.out).mono ?_; rw [HC0.out]; rintro e w1 ⟨rfl, hb1⟩; obtain ⟨r0, r1, r2, r3, r4, r5, r6⟩ := PBlk.cells (HP.out.below hb1 HP.out.lt))
      | (go_at_call 66; refine (HBY.out w1 ((HR0.out.below hb1).mono (Nat.le_refl _) hb1.size) (Page.Fine.of_ok HOK.out) (Page.Fine2.of_ok HOK.out)).mono ?_; rintro e w2 ⟨v2, rfl, hO2, hb2⟩))
    go_ret2
    exact ⟨v2, by rw [HC0.out]; rfl, by rw [HOK.out]; exact hO2.mono (Nat.le_trans HB.out.size hb1.size), (HB.out.trans (hb1.mono HB.out.size)).trans (hb2.mono (Nat.le_trans HB.out.size hb1.size))⟩
  | false =>
    have HOK := Lib.hid hok
    have HC0 : Hid (p.check = 101) := Lib.hid (by unfold Page.check; rw [hok]; rfl)
    clear hok
    go_wp2_with (go_at_call 43; refine (HCH.out w0 HR0.out).mono ?_; rw [HC0.out]; rintro e w1 ⟨rfl, hb1⟩)
    go_ret2
    exact ⟨.slice none 0 0, by rw [HC0.out]; rfl, by rw [HOK.out]; exact OwnB.nil _ _, HB.out.trans (hb1.mono HB.out.size)⟩
end Go.Proofs.YtjbdmaehomhdeaaGreat
