/- awake of layer 11. -/
import Derived.Test.YtjbdmaehomhdeaaGreatAwP
set_option linter.unusedSimpArgs false
set_option linter.unusedVariables false
namespace Go.Proofs.YtjbdmaehomhdeaaGreat
open Go.RowKit

theorem Rd.nodes3 {W : World} {g lo hi : Nat} {t : TypeId} (x y z : NV) (hb : Blk W g t #[.bool x.base, .slice x.A x.bs.length x.c, .bool y.base, .slice y.A y.bs.length y.c, .bool z.base, .slice z.A z.bs.length z.c]) (h1 : lo ≤ g) (h2 : g < hi) : Rd NV.cells 2 W lo hi (some ⟨g, 0, none⟩) [x, y, z] := fun _ => by
  refine ⟨_, rfl, h1, h2, fun i u hu j v hv => ?_⟩
  have key : ∀ k, W.cell? ((⟨g, 0, none⟩ : Addr).add k) = #[Value.bool x.base, .slice x.A x.bs.length x.c, .bool y.base, .slice y.A y.bs.length y.c, .bool z.base, .slice z.A z.bs.length z.c][k]? := fun k => by
    rw [show (⟨g, 0, none⟩ : Addr).add k = ⟨g, k, none⟩ by unfold Addr.add; split <;> simp_all]
    exact hb.cell k
  rw [key]
  rcases i with _ | _ | _ | i
  · cases hu; rcases j with _ | _ | j
    · cases hv; rfl
    · cases hv; rfl
    · simp [NV.cells] at hv
  · cases hu; rcases j with _ | _ | j
    · cases hv; rfl
    · cases hv; rfl
    · simp [NV.cells] at hv
  · cases hu; rcases j with _ | _ | j
    · cases hv; rfl
    · cases hv; rfl
    · simp [NV.cells] at hv
  · simp at hu
theorem Rd.nodes2 {W : World} {g lo hi : Nat} {t : TypeId} (x y : NV) (hb : Blk W g t #[.bool x.base, .slice x.A x.bs.length x.c, .bool y.base, .slice y.A y.bs.length y.c]) (h1 : lo ≤ g) (h2 : g < hi) : Rd NV.cells 2 W lo hi (some ⟨g, 0, none⟩) [x, y] := fun _ => by
  refine ⟨_, rfl, h1, h2, fun i u hu j v hv => ?_⟩
  have key : ∀ k, W.cell? ((⟨g, 0, none⟩ : Addr).add k) = #[Value.bool x.base, .slice x.A x.bs.length x.c, .bool y.base, .slice y.A y.bs.length y.c][k]? := fun k => by
    rw [show (⟨g, 0, none⟩ : Addr).add k = ⟨g, k, none⟩ by unfold Addr.add; split <;> simp_all]
    exact hb.cell k
  rw [key]
  rcases i with _ | _ | i
  · cases hu; rcases j with _ | _ | j
    · cases hv; rfl
    · cases hv; rfl
    · simp [NV.cells] at hv
  · cases hu; rcases j with _ | _ | j
    · cases hv; rfl
    · cases hv; rfl
    · simp [NV.cells] at hv
  · simp at hu
theorem small_P : ∀ b ∈ bsP, b < 256 := by decide
theorem small_I : ∀ b ∈ bsI, b < 256 := by decide
theorem small_S : ∀ b ∈ bsS, b < 256 := by decide

set_option maxRecDepth 100000 in
set_option maxHeartbeats 20000000 in
theorem awake11 (w : World) : Calls Tryz.prog 7 #[] w fun e w' => e = .returned (.bool true) ∧ Below w.heap.size w w' := by
  go_enter Tryz.func7, Tryz.ntmps7
  go_wp2_with fail
  refine (delta_Base pgA none none 0 0 0 w (Pg.none _ _ _ _ rfl rfl)).mono ?_
  rintro e w1 ⟨v1, rfl, hO1, hb1⟩
  rw [pgA_check, pgA_ok]
  rw [pgA_ok, cond_true, show pgA.bytes = bsP from pgA_bytes] at hO1
  obtain ⟨A1, c1, rfl, hc1, hR1, _⟩ := OwnB.form (n := 7) hO1 rfl
  have HC1 : Hid ((7 : Nat) ≤ c1) := Lib.hid hc1
  have hB : Below w1.heap.size w1 (w1.alloc (.cells #[Value.bool true, Value.slice A1 7 c1] 34)) := (Below.refl _ _).alloc (Nat.le_refl _) _
  have HN1 : Hid (Blk (w1.alloc (.cells #[Value.bool true, Value.slice A1 7 c1] 34)) w1.heap.size 34 #[Value.bool true, Value.slice A1 7 c1]) := Lib.hid (Blk.new _ _ _)
  have HW1 : Hid (Below w.heap.size w (w1.alloc (.cells #[Value.bool true, Value.slice A1 7 c1] 34))) := Lib.hid (hb1.alloc hb1.size _)
  have HR1 : Hid (Rd byteCell 1 (w1.alloc (.cells #[Value.bool true, Value.slice A1 7 c1] 34)) w.heap.size (w1.alloc (.cells #[Value.bool true, Value.slice A1 7 c1] 34)).heap.size A1 bsP) := Lib.hid ((hR1.below hB).mono (Nat.le_refl _) hB.size)
  have hge1 : w.heap.size ≤ w1.heap.size := hb1.size
  clear hO1 hb1 hR1 hc1 hB
  go_wp2_with fail
  generalize w1.alloc (.cells #[Value.bool true, Value.slice A1 7 c1] 34) = u1 at *
  generalize w1.heap.size = g1 at *
  refine (delta_Encode dI none none 0 0 0 u1 (Pg.none _ _ _ _ rfl rfl)).mono ?_
  rw [may_I, cond_true, cond_true, show dI.bytes dI.kind = bsI from bytes_I]
  rintro e w2 ⟨v2, rfl, hO, hb⟩
  obtain ⟨A2, c2, rfl, hc, hR, _⟩ := OwnB.form (n := 12) hO rfl
  have HC2 : Hid ((12 : Nat) ≤ c2) := Lib.hid hc
  have hB : Below w2.heap.size w2 (w2.alloc (.cells #[Value.bool false, Value.slice A2 12 c2] 34)) := (Below.refl _ _).alloc (Nat.le_refl _) _
  have hBB : Below u1.heap.size u1 (w2.alloc (.cells #[Value.bool false, Value.slice A2 12 c2] 34)) := hb.trans (hB.mono hb.size)
  have HN2 : Hid (Blk (w2.alloc (.cells #[Value.bool false, Value.slice A2 12 c2] 34)) w2.heap.size 34 #[Value.bool false, Value.slice A2 12 c2]) := Lib.hid (Blk.new _ _ _)
  have HW2 : Hid (Below w.heap.size w (w2.alloc (.cells #[Value.bool false, Value.slice A2 12 c2] 34))) := Lib.hid (HW1.out.trans (hBB.mono HW1.out.size))
  have HR2 : Hid (Rd byteCell 1 (w2.alloc (.cells #[Value.bool false, Value.slice A2 12 c2] 34)) w.heap.size (w2.alloc (.cells #[Value.bool false, Value.slice A2 12 c2] 34)).heap.size A2 bsI) := Lib.hid ((hR.below hB).mono HW1.out.size hB.size)
  have HM1 := Lib.hid (HN1.out.below hBB HN1.out.lt)
  have HS1 := Lib.hid ((HR1.out.below hBB).mono (Nat.le_refl _) hBB.size)
  clear HN1 HR1
  have HN1 := HM1
  have HR1 := HS1
  clear HM1 HS1
  clear hO hb hR hc hB hBB
  go_wp2_with fail
  generalize w2.alloc (.cells #[Value.bool false, Value.slice A2 12 c2] 34) = u2 at *
  generalize w2.heap.size = g2 at *
  refine (delta_Encode dS none none 0 0 0 u2 (Pg.none _ _ _ _ rfl rfl)).mono ?_
  rw [may_S, cond_true, cond_true, show dS.bytes dS.kind = bsS from bytes_S]
  rintro e w3 ⟨v3, rfl, hO, hb⟩
  obtain ⟨A3, c3, rfl, hc, hR, _⟩ := OwnB.form (n := 5) hO rfl
  have HC3 : Hid ((5 : Nat) ≤ c3) := Lib.hid hc
  have hB : Below w3.heap.size w3 (w3.alloc (.cells #[Value.bool false, Value.slice A3 5 c3] 34)) := (Below.refl _ _).alloc (Nat.le_refl _) _
  have hBB : Below u2.heap.size u2 (w3.alloc (.cells #[Value.bool false, Value.slice A3 5 c3] 34)) := hb.trans (hB.mono hb.size)
  have HN3 : Hid (Blk (w3.alloc (.cells #[Value.bool false, Value.slice A3 5 c3] 34)) w3.heap.size 34 #[Value.bool false, Value.slice A3 5 c3]) := Lib.hid (Blk.new _ _ _)
  have HW3 : Hid (Below w.heap.size w (w3.alloc (.cells #[Value.bool false, Value.slice A3 5 c3] 34))) := Lib.hid (HW2.out.trans (hBB.mono HW2.out.size))
  have HR3 : Hid (Rd byteCell 1 (w3.alloc (.cells #[Value.bool false, Value.slice A3 5 c3] 34)) w.heap.size (w3.alloc (.cells #[Value.bool false, Value.slice A3 5 c3] 34)).heap.size A3 bsS) := Lib.hid ((hR.below hB).mono HW2.out.size hB.size)
  have HM1 := Lib.hid (HN1.out.below hBB HN1.out.lt)
  have HS1 := Lib.hid ((HR1.out.below hBB).mono (Nat.le_refl _) hBB.size)
  clear HN1 HR1
  have HN1 := HM1
  have HR1 := HS1
  clear HM1 HS1
  have HM2 := Lib.hid (HN2.out.below hBB HN2.out.lt)
  have HS2 := Lib.hid ((HR2.out.below hBB).mono (Nat.le_refl _) hBB.size)
  clear HN2 HR2
  have HN2 := HM2
  have HR2 := HS2
  clear HM2 HS2
  clear hO hb hR hc hB hBB
  obtain ⟨a0, a1⟩ := HN1.out.cells2'
  obtain ⟨b0, b1⟩ := HN2.out.cells2'
  obtain ⟨d0, d1⟩ := HN3.out.cells2'
  have hzu3 : (w3.alloc (.cells #[Value.bool false, Value.slice A3 5 c3] 34)).heap.size = w3.heap.size + 1 := by simp
  go_wp2_with fail
  generalize w3.alloc (.cells #[Value.bool false, Value.slice A3 5 c3] 34) = u3 at *
  generalize w3.heap.size = g3 at *
  have HW := HW3
  clear HW1 HW2 HW3
  have hbe : Below u3.heap.size u3 (u3.alloc (.cells #[Value.bool false, Value.slice A3 5 c3, Value.bool false, Value.slice A2 12 c2, Value.bool true, Value.slice A1 7 c1] 34)) := (Below.refl _ _).alloc (Nat.le_refl _) _
  have hnb : Blk (u3.alloc (.cells #[Value.bool false, Value.slice A3 5 c3, Value.bool false, Value.slice A2 12 c2, Value.bool true, Value.slice A1 7 c1] 34)) (g3 + 1) 34 #[Value.bool false, Value.slice A3 5 c3, Value.bool false, Value.slice A2 12 c2, Value.bool true, Value.slice A1 7 c1] := Blk.newAt (by rw [hzu3])
  have hlo : w.heap.size ≤ g3 + 1 := by rw [← hzu3]; exact HW.out.size
  have hnodes : Nodes (u3.alloc (.cells #[Value.bool false, Value.slice A3 5 c3, Value.bool false, Value.slice A2 12 c2, Value.bool true, Value.slice A1 7 c1] 34)) w.heap.size (u3.alloc (.cells #[Value.bool false, Value.slice A3 5 c3, Value.bool false, Value.slice A2 12 c2, Value.bool true, Value.slice A1 7 c1] 34)).heap.size (some ⟨g3 + 1, 0, none⟩) [⟨false, A3, c3, bsS⟩, ⟨false, A2, c2, bsI⟩, ⟨true, A1, c1, bsP⟩] := ⟨Rd.nodes3 ⟨false, A3, c3, bsS⟩ ⟨false, A2, c2, bsI⟩ ⟨true, A1, c1, bsP⟩ hnb hlo hnb.lt, fun x hx => by
    simp only [List.mem_cons, List.not_mem_nil, or_false] at hx
    rcases hx with rfl | rfl | rfl
    · exact ⟨(HR3.out.below hbe).mono (Nat.le_refl _) hbe.size, HC3.out, small_S, Nat.le_of_ble_eq_true rfl⟩
    · exact ⟨(HR2.out.below hbe).mono (Nat.le_refl _) hbe.size, HC2.out, small_I, Nat.le_of_ble_eq_true rfl⟩
    · exact ⟨(HR1.out.below hbe).mono (Nat.le_refl _) hbe.size, HC1.out, small_P, Nat.le_of_ble_eq_true rfl⟩
  ⟩
  refine (delta_Find [⟨false, A3, c3, bsS⟩, ⟨false, A2, c2, bsI⟩, ⟨true, A1, c1, bsP⟩] (some ⟨g3 + 1, 0, none⟩) 3 w.heap.size keyA _ hnodes (Nat.le_of_ble_eq_true rfl) (Nat.le_of_ble_eq_true rfl)).mono ?_
  rintro e w4 ⟨he, hb⟩
  rw [(find_1 A3 A2 A1 c3 c2 c1).1, (find_1 A3 A2 A1 c3 c2 c1).2] at he
  have he2 : e = .returned (.tuple #[.agg #[Value.string { data := #[97] }, Value.string { data := #[120] }, Value.int IntKind.i64 3, Value.bool false], .bool true, .int .i64 0]) := he
  subst he2
  clear he hnodes hnb hlo
  have hB : Below w4.heap.size w4 (w4.alloc (.cells #[Value.string { data := #[97] }, Value.string { data := #[120] }, Value.int IntKind.i64 3, Value.bool false] 23)) := (Below.refl _ _).alloc (Nat.le_refl _) _
  have hBB : Below u3.heap.size u3 (w4.alloc (.cells #[Value.string { data := #[97] }, Value.string { data := #[120] }, Value.int IntKind.i64 3, Value.bool false] 23)) := hbe.trans ((hb.mono hbe.size).trans (hB.mono (Nat.le_trans hbe.size hb.size)))
  have hzu4 : (w4.alloc (.cells #[Value.string { data := #[97] }, Value.string { data := #[120] }, Value.int IntKind.i64 3, Value.bool false] 23)).heap.size = w4.heap.size + 1 := by simp
  have HV := Lib.hid (HW.out.trans (hBB.mono HW.out.size))
  clear HW
  have HW := HV
  clear HV
  have HM1 := Lib.hid (HN1.out.below hBB HN1.out.lt)
  have HS1 := Lib.hid ((HR1.out.below hBB).mono (Nat.le_refl _) hBB.size)
  clear HN1 HR1
  have HN1 := HM1
  have HR1 := HS1
  clear HM1 HS1
  have HM2 := Lib.hid (HN2.out.below hBB HN2.out.lt)
  have HS2 := Lib.hid ((HR2.out.below hBB).mono (Nat.le_refl _) hBB.size)
  clear HN2 HR2
  have HN2 := HM2
  have HR2 := HS2
  clear HM2 HS2
  have HM3 := Lib.hid (HN3.out.below hBB HN3.out.lt)
  have HS3 := Lib.hid ((HR3.out.below hBB).mono (Nat.le_refl _) hBB.size)
  clear HN3 HR3
  have HN3 := HM3
  have HR3 := HS3
  clear HM3 HS3
  have HI : Hid (Blk (w4.alloc (.cells #[Value.string { data := #[97] }, Value.string { data := #[120] }, Value.int IntKind.i64 3, Value.bool false] 23)) w4.heap.size 23 #[Value.string { data := #[97] }, Value.string { data := #[120] }, Value.int IntKind.i64 3, Value.bool false]) := Lib.hid (Blk.new _ _ _)
  clear hbe hb hB hBB
  clear a0 a1 b0 b1 d0 d1
  obtain ⟨a0, a1⟩ := HN1.out.cells2'
  obtain ⟨b0, b1⟩ := HN2.out.cells2'
  obtain ⟨d0, d1⟩ := HN3.out.cells2'
  go_wp2_with fail
  generalize w4.alloc (.cells #[Value.string { data := #[97] }, Value.string { data := #[120] }, Value.int IntKind.i64 3, Value.bool false] 23) = u4 at *
  generalize w4.heap.size = g4 at *
  have hbe : Below u4.heap.size u4 (u4.alloc (.cells #[Value.bool false, Value.slice A3 5 c3, Value.bool false, Value.slice A2 12 c2, Value.bool true, Value.slice A1 7 c1] 34)) := (Below.refl _ _).alloc (Nat.le_refl _) _
  have hnb : Blk (u4.alloc (.cells #[Value.bool false, Value.slice A3 5 c3, Value.bool false, Value.slice A2 12 c2, Value.bool true, Value.slice A1 7 c1] 34)) (g4 + 1) 34 #[Value.bool false, Value.slice A3 5 c3, Value.bool false, Value.slice A2 12 c2, Value.bool true, Value.slice A1 7 c1] := Blk.newAt (by rw [hzu4])
  have hlo : w.heap.size ≤ g4 + 1 := by rw [← hzu4]; exact HW.out.size
  have hnodes : Nodes (u4.alloc (.cells #[Value.bool false, Value.slice A3 5 c3, Value.bool false, Value.slice A2 12 c2, Value.bool true, Value.slice A1 7 c1] 34)) w.heap.size (u4.alloc (.cells #[Value.bool false, Value.slice A3 5 c3, Value.bool false, Value.slice A2 12 c2, Value.bool true, Value.slice A1 7 c1] 34)).heap.size (some ⟨g4 + 1, 0, none⟩) [⟨false, A3, c3, bsS⟩, ⟨false, A2, c2, bsI⟩, ⟨true, A1, c1, bsP⟩] := ⟨Rd.nodes3 ⟨false, A3, c3, bsS⟩ ⟨false, A2, c2, bsI⟩ ⟨true, A1, c1, bsP⟩ hnb hlo hnb.lt, fun x hx => by
    simp only [List.mem_cons, List.not_mem_nil, or_false] at hx
    rcases hx with rfl | rfl | rfl
    · exact ⟨(HR3.out.below hbe).mono (Nat.le_refl _) hbe.size, HC3.out, small_S, Nat.le_of_ble_eq_true rfl⟩
    · exact ⟨(HR2.out.below hbe).mono (Nat.le_refl _) hbe.size, HC2.out, small_I, Nat.le_of_ble_eq_true rfl⟩
    · exact ⟨(HR1.out.below hbe).mono (Nat.le_refl _) hbe.size, HC1.out, small_P, Nat.le_of_ble_eq_true rfl⟩
  ⟩
  refine (delta_Find [⟨false, A3, c3, bsS⟩, ⟨false, A2, c2, bsI⟩, ⟨true, A1, c1, bsP⟩] (some ⟨g4 + 1, 0, none⟩) 3 w.heap.size keyB _ hnodes (Nat.le_of_ble_eq_true rfl) (Nat.le_of_ble_eq_true rfl)).mono ?_
  rintro e w5 ⟨he, hb⟩
  rw [(find_2 A3 A2 A1 c3 c2 c1).1, (find_2 A3 A2 A1 c3 c2 c1).2] at he
  have he2 : e = .returned (.tuple #[.agg #[Value.string { data := #[] }, Value.string { data := #[] }, Value.int IntKind.i64 0, Value.bool false], .bool false, .int .i64 103]) := he
  subst he2
  clear he hnodes hnb hlo
  have hB : Below w5.heap.size w5 (w5.alloc (.cells #[Value.string { data := #[] }, Value.string { data := #[] }, Value.int IntKind.i64 0, Value.bool false] 23)) := (Below.refl _ _).alloc (Nat.le_refl _) _
  have hBB : Below u4.heap.size u4 (w5.alloc (.cells #[Value.string { data := #[] }, Value.string { data := #[] }, Value.int IntKind.i64 0, Value.bool false] 23)) := hbe.trans ((hb.mono hbe.size).trans (hB.mono (Nat.le_trans hbe.size hb.size)))
  have hzu5 : (w5.alloc (.cells #[Value.string { data := #[] }, Value.string { data := #[] }, Value.int IntKind.i64 0, Value.bool false] 23)).heap.size = w5.heap.size + 1 := by simp
  have HV := Lib.hid (HW.out.trans (hBB.mono HW.out.size))
  clear HW
  have HW := HV
  clear HV
  have HM1 := Lib.hid (HN1.out.below hBB HN1.out.lt)
  have HS1 := Lib.hid ((HR1.out.below hBB).mono (Nat.le_refl _) hBB.size)
  clear HN1 HR1
  have HN1 := HM1
  have HR1 := HS1
  clear HM1 HS1
  have HM2 := Lib.hid (HN2.out.below hBB HN2.out.lt)
  have HS2 := Lib.hid ((HR2.out.below hBB).mono (Nat.le_refl _) hBB.size)
  clear HN2 HR2
  have HN2 := HM2
  have HR2 := HS2
  clear HM2 HS2
  have HM3 := Lib.hid (HN3.out.below hBB HN3.out.lt)
  have HS3 := Lib.hid ((HR3.out.below hBB).mono (Nat.le_refl _) hBB.size)
  clear HN3 HR3
  have HN3 := HM3
  have HR3 := HS3
  clear HM3 HS3
  have HJ := Lib.hid (HI.out.below hBB HI.out.lt)
  clear HI
  have HI := HJ
  clear HJ
  clear hbe hb hB hBB
  clear a0 a1 b0 b1 d0 d1
  obtain ⟨a0, a1⟩ := HN1.out.cells2'
  obtain ⟨b0, b1⟩ := HN2.out.cells2'
  obtain ⟨d0, d1⟩ := HN3.out.cells2'
  go_wp2_with fail
  generalize w5.alloc (.cells #[Value.string { data := #[] }, Value.string { data := #[] }, Value.int IntKind.i64 0, Value.bool false] 23) = u5 at *
  generalize w5.heap.size = g5 at *
  have hbe : Below u5.heap.size u5 (u5.alloc (.cells #[Value.bool true, Value.slice A1 7 c1, Value.bool true, Value.slice A1 7 c1] 34)) := (Below.refl _ _).alloc (Nat.le_refl _) _
  have hnb : Blk (u5.alloc (.cells #[Value.bool true, Value.slice A1 7 c1, Value.bool true, Value.slice A1 7 c1] 34)) (g5 + 1) 34 #[Value.bool true, Value.slice A1 7 c1, Value.bool true, Value.slice A1 7 c1] := Blk.newAt (by rw [hzu5])
  have hlo : w.heap.size ≤ g5 + 1 := by rw [← hzu5]; exact HW.out.size
  have hnodes : Nodes (u5.alloc (.cells #[Value.bool true, Value.slice A1 7 c1, Value.bool true, Value.slice A1 7 c1] 34)) w.heap.size (u5.alloc (.cells #[Value.bool true, Value.slice A1 7 c1, Value.bool true, Value.slice A1 7 c1] 34)).heap.size (some ⟨g5 + 1, 0, none⟩) [⟨true, A1, c1, bsP⟩, ⟨true, A1, c1, bsP⟩] := ⟨Rd.nodes2 ⟨true, A1, c1, bsP⟩ ⟨true, A1, c1, bsP⟩ hnb hlo hnb.lt, fun x hx => by
    simp only [List.mem_cons, List.not_mem_nil, or_false] at hx
    rcases hx with rfl | rfl
    · exact ⟨(HR1.out.below hbe).mono (Nat.le_refl _) hbe.size, HC1.out, small_P, Nat.le_of_ble_eq_true rfl⟩
    · exact ⟨(HR1.out.below hbe).mono (Nat.le_refl _) hbe.size, HC1.out, small_P, Nat.le_of_ble_eq_true rfl⟩
  ⟩
  refine (delta_Flat [⟨true, A1, c1, bsP⟩, ⟨true, A1, c1, bsP⟩] (some ⟨g5 + 1, 0, none⟩) 2 w.heap.size _ hnodes (Nat.le_of_ble_eq_true rfl) (Nat.le_of_ble_eq_true rfl)).mono ?_
  rw [flat_2]
  rintro e w6 ⟨B, B', b, b', he, _, hb⟩
  have he2 : e = .returned (.tuple #[.agg #[Value.int IntKind.i64 0, Value.string { data := #[] }, Value.string { data := #[] }, Value.bool false, Value.int IntKind.i64 0, Value.slice B 0 b, Value.slice B' 0 b'], .int .i64 0, .int .i64 112]) := he
  subst he2
  clear he hnodes hnb hlo
  have hB : Below w6.heap.size w6 (w6.alloc (.cells #[Value.int IntKind.i64 0, Value.string { data := #[] }, Value.string { data := #[] }, Value.bool false, Value.int IntKind.i64 0, Value.slice B 0 b, Value.slice B' 0 b'] 27)) := (Below.refl _ _).alloc (Nat.le_refl _) _
  have hBB : Below u5.heap.size u5 (w6.alloc (.cells #[Value.int IntKind.i64 0, Value.string { data := #[] }, Value.string { data := #[] }, Value.bool false, Value.int IntKind.i64 0, Value.slice B 0 b, Value.slice B' 0 b'] 27)) := hbe.trans ((hb.mono hbe.size).trans (hB.mono (Nat.le_trans hbe.size hb.size)))
  have hzu6 : (w6.alloc (.cells #[Value.int IntKind.i64 0, Value.string { data := #[] }, Value.string { data := #[] }, Value.bool false, Value.int IntKind.i64 0, Value.slice B 0 b, Value.slice B' 0 b'] 27)).heap.size = w6.heap.size + 1 := by simp
  have HV := Lib.hid (HW.out.trans (hBB.mono HW.out.size))
  clear HW
  have HW := HV
  clear HV
  have HM1 := Lib.hid (HN1.out.below hBB HN1.out.lt)
  have HS1 := Lib.hid ((HR1.out.below hBB).mono (Nat.le_refl _) hBB.size)
  clear HN1 HR1
  have HN1 := HM1
  have HR1 := HS1
  clear HM1 HS1
  have HM2 := Lib.hid (HN2.out.below hBB HN2.out.lt)
  have HS2 := Lib.hid ((HR2.out.below hBB).mono (Nat.le_refl _) hBB.size)
  clear HN2 HR2
  have HN2 := HM2
  have HR2 := HS2
  clear HM2 HS2
  have HM3 := Lib.hid (HN3.out.below hBB HN3.out.lt)
  have HS3 := Lib.hid ((HR3.out.below hBB).mono (Nat.le_refl _) hBB.size)
  clear HN3 HR3
  have HN3 := HM3
  have HR3 := HS3
  clear HM3 HS3
  have HJ := Lib.hid (HI.out.below hBB HI.out.lt)
  clear HI
  have HI := HJ
  clear HJ
  clear hbe hb hB hBB
  clear a0 a1 b0 b1 d0 d1
  obtain ⟨a0, a1⟩ := HN1.out.cells2'
  obtain ⟨b0, b1⟩ := HN2.out.cells2'
  obtain ⟨d0, d1⟩ := HN3.out.cells2'
  obtain ⟨i0, i1, i2, i3⟩ := HI.out.cells4
  have hcv : (convert 32 9 (.slice A2 12 c2)).run Tryz.prog (w6.alloc (.cells #[Value.int IntKind.i64 0, Value.string { data := #[] }, Value.string { data := #[] }, Value.bool false, Value.int IntKind.i64 0, Value.slice B 0 b, Value.slice B' 0 b'] 27)) = .ok (.string { data := #[1, 1, 97, 3, 0, 0, 0, 0, 0, 0, 1, 120] }) (w6.alloc (.cells #[Value.int IntKind.i64 0, Value.string { data := #[] }, Value.string { data := #[] }, Value.bool false, Value.int IntKind.i64 0, Value.slice B 0 b, Value.slice B' 0 b'] 27)) := conv_str (l := bsI) HR2.out rfl small_I
  go_wp2
  go_ret
  exact ⟨rfl, HW.out⟩
end Go.Proofs.YtjbdmaehomhdeaaGreat
