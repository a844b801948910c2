/- The reference's May. -/
import Derived.Test.YtjbdmaehomhdeaaGreatF2
import Derived.Test.YtjbdmaehomhdeaaGreatZG
import Derived.Test.YtjbdmaehomhdeaaGreatZS
import Derived.Test.YtjbdmaehomhdeaaGreatZE
import Derived.Test.YtjbdmaehomhdeaaGreatF5
set_option linter.unusedSimpArgs false
set_option linter.unusedVariables false
namespace Go.Proofs.YtjbdmaehomhdeaaGreat
open Go.RowKit

theorem bareB_same (p : Page) : p.bareB = p.same Page.zero := by
  by_cases h : p = Page.zero
  · rw [← Page.same_yes h, h]; unfold Page.bareB; simp [Page.zero, ByteArray.toList_eq]
  · rw [← Page.same_no h]
    cases hb : p.bareB with
    | false => rfl
    | true =>
      exfalso
      apply h
      unfold Page.bareB at hb
      simp only [Bool.and_eq_true, beq_iff_eq, Bool.not_eq_true', List.isEmpty_iff] at hb
      obtain ⟨h1, h2, h3, h4, h5, h6⟩ := hb
      obtain ⟨lv, lo, hi, la, sd, its, kds⟩ := p
      dsimp only at h1 h2 h3 h4 h5 h6
      have e1 : its = [] := List.eq_nil_of_length_eq_zero (by omega)
      have e2 : kds = [] := List.eq_nil_of_length_eq_zero (by omega)
      have e3 : lo = ByteArray.empty := bytes_ext (by rw [h2]; simp [ByteArray.toList_eq])
      have e4 : hi = ByteArray.empty := bytes_ext (by rw [h3]; simp [ByteArray.toList_eq])
      rw [h1, h4, h5, e1, e2, e3, e4]; rfl
/-- whether a change may be, as the reference asks -/
noncomputable def Delta.mayR (d : Delta) (ky pg it rt : Bool) : Bool :=
  if d.kind = 1 then (d.item.check == 0) && (d.key.toList.isEmpty && ((d.page == 0) && rt))
  else if d.kind = 2 ∨ d.kind = 3 then it && (ky && (pg && rt))
  else if d.kind = 4 then it && (ky && ((d.page == 0) && rt))
  else if d.kind = 5 then it && (d.key.toList.isEmpty && (pg && rt))
  else if d.kind = 6 then it && (d.key.toList.isEmpty && ((d.page == 0) && (d.right.check == 0)))
  else false
theorem may_ref (d : Delta) : d.mayB = d.mayR (isKey d.key) (isPage d.page) (d.item.same Item.none) (d.right.same Page.zero) := by
  have hk : (d.right.check == 0) = d.right.ok := by unfold Page.check; cases d.right.ok <;> rfl
  unfold Delta.mayB Delta.may Delta.mayR Delta.bareB Delta.b1 Delta.b2 Delta.b3
  rw [bareB_same, hk]
  by_cases h1 : d.kind = 1
  · rw [h1]; simp [Bool.and_assoc, Bool.and_comm, Bool.and_left_comm]
  · by_cases h2 : d.kind = 2
    · rw [h2]; simp [Bool.and_assoc, Bool.and_comm, Bool.and_left_comm]
    · by_cases h3 : d.kind = 3
      · rw [h3]; simp [Bool.and_assoc, Bool.and_comm, Bool.and_left_comm]
      · by_cases h4 : d.kind = 4
        · rw [h4]; simp [Bool.and_assoc, Bool.and_comm, Bool.and_left_comm]
        · by_cases h5 : d.kind = 5
          · rw [h5]; simp [Bool.and_assoc, Bool.and_comm, Bool.and_left_comm]
          · by_cases h6 : d.kind = 6
            · rw [h6]; simp [Bool.and_assoc, Bool.and_comm, Bool.and_left_comm]
            · rw [decide_eq_false (by omega : ¬ (1 ≤ d.kind ∧ d.kind ≤ 6)), Bool.false_and]
              exact ((if_neg h1).trans ((if_neg (by omega : ¬ (d.kind = 2 ∨ d.kind = 3))).trans ((if_neg h4).trans ((if_neg h5).trans (if_neg h6))))).symm

set_option maxRecDepth 100000 in
set_option maxHeartbeats 20000000 in
theorem ref_May (d : Delta) (A A' : Option Addr) (c c' lo : Nat) (w : World) (hp : Pg w lo w.heap.size d.right A A' c c') :
    Calls Tryz.prog 34 #[d.val A c A' c'] w fun e w' => e = .returned (.bool d.mayB) ∧ Below w.heap.size w w' := by
  have HSM := Lib.hid (fun (W : World) (h : Below w.heap.size w W) => ref_Same d.right Page.zero A A' none none c c' 0 0 lo 0 W ((hp.below h).mono (Nat.le_refl _) h.size) (Pg.none _ _ _ _ rfl rfl))
  have HCK := Lib.hid (fun (W : World) (h : Below w.heap.size w W) => ref_Check d.right A A' c c' lo W ((hp.below h).mono (Nat.le_refl _) h.size))
  have HCI := Lib.hid (fun (W : World) => ref_CheckItem d.item W)
  clear hp
  unfold Page.val Page.raw at HSM HCK
  unfold Delta.val
  obtain ⟨ri, hri⟩ : ∃ n, n = d.right.items.length := ⟨_, rfl⟩
  obtain ⟨rk, hrk⟩ : ∃ n, n = d.right.kids.length := ⟨_, rfl⟩
  obtain ⟨kd, hkd⟩ : ∃ n, n = d.kind := ⟨_, rfl⟩
  rw [← hri, ← hrk, ← hkd]
  rw [← hri, ← hrk] at HSM HCK
  have HM := may_ref d
  obtain ⟨ky, hky⟩ : ∃ b, b = isKey d.key := ⟨_, rfl⟩
  obtain ⟨pg, hpg⟩ : ∃ b, b = isPage d.page := ⟨_, rfl⟩
  obtain ⟨it, hit⟩ : ∃ b, b = d.item.same Item.none := ⟨_, rfl⟩
  obtain ⟨rt, hrt⟩ : ∃ b, b = d.right.same Page.zero := ⟨_, rfl⟩
  obtain ⟨ck, hck⟩ : ∃ n, n = d.item.check := ⟨_, rfl⟩
  obtain ⟨cr, hcr⟩ : ∃ n, n = d.right.check := ⟨_, rfl⟩
  rw [← hky, ← hpg, ← hit, ← hrt] at HM
  unfold Delta.mayR at HM
  rw [← hkd, ← hck, ← hcr] at HM
  rw [← hrt] at HSM
  rw [← hcr] at HCK
  rw [← hck] at HCI
  have heq : ∀ W, (binOp .eql 23 (.agg #[.string d.item.key, .string d.item.value, .int .i64 d.item.no, .bool d.item.gone]) (.agg #[Value.string { data := #[] }, Value.string { data := #[] }, Value.int IntKind.i64 0, Value.bool false])).run Tryz.prog W = .ok (.bool it) W := fun W => by
    rw [hit]
    exact eql_item d.item Item.none W
  have HKY := Lib.hid hky
  have HPG := Lib.hid hpg
  obtain ⟨mb, hmb⟩ : ∃ b, b = d.mayB := ⟨_, rfl⟩
  rw [← hmb] at HM
  rw [← hmb]
  clear hri hrk hkd hky hpg hit hrt hck hcr hmb
  have HMM := Lib.hid HM
  clear HM
  have hF := Fr.one w 29 #[Value.int IntKind.i64 kd, Value.string d.item.key, Value.string d.item.value, Value.int IntKind.i64 d.item.no, Value.bool d.item.gone, Value.string d.key, Value.int IntKind.i64 d.page, Value.int IntKind.i64 d.right.level, Value.string d.right.low, Value.string d.right.high, Value.bool d.right.last, Value.int IntKind.i64 d.right.side, Value.slice A ri c, Value.slice A' rk c']
  go_enter Tryz.func34, Tryz.ntmps34
  go_upto_region 1 with (fail)
  generalize w.alloc (.cells #[Value.int IntKind.i64 kd, Value.string d.item.key, Value.string d.item.value, Value.int IntKind.i64 d.item.no, Value.bool d.item.gone, Value.string d.key, Value.int IntKind.i64 d.page, Value.int IntKind.i64 d.right.level, Value.string d.right.low, Value.string d.right.high, Value.bool d.right.last, Value.int IntKind.i64 d.right.side, Value.slice A ri c, Value.slice A' rk c'] 29) = w0 at *
  have HF0 := Lib.hid hF
  clear hF
  obtain ⟨y0, y1, y2, y3, y4, y5, y6, y7, y8, y9, y10, y11, y12, y13⟩ := Blk.cells14 HF0.out.b0
  go_cut [3] (fun v wc => v = .bool ky ∧ w0 = wc)
  case first =>
    by_cases h1 : 1 ≤ d.key.size
    · by_cases h2 : d.key.size ≤ 16
      · have hk : ky = true := by rw [HKY.out]; unfold isKey; exact decide_eq_true ⟨h1, h2⟩
        have g1 : (1 : Int) ≤ (d.key.size : Int) := by omega
        have g2 : (d.key.size : Int) ≤ 16 := by omega
        go_wp2
        go_meet
        exact ⟨by rw [hk], rfl⟩
      · have hk : ky = false := by rw [HKY.out]; unfold isKey; exact decide_eq_false (fun h => h2 h.2)
        have g1 : (1 : Int) ≤ (d.key.size : Int) := by omega
        have g2 : ¬ ((d.key.size : Int) ≤ 16) := by omega
        go_wp2
        go_meet
        exact ⟨by rw [hk], rfl⟩
    · have hk : ky = false := by rw [HKY.out]; unfold isKey; exact decide_eq_false (fun h => h1 h.1)
      have g1 : ¬ ((1 : Int) ≤ (d.key.size : Int)) := by omega
      go_wp2
      go_meet
      exact ⟨by rw [hk], rfl⟩
  case rest =>
    obtain ⟨rfl, rfl⟩ := hcut
    go_upto_region 2 with (fail)
    go_cut [4] (fun v wc => v = .bool pg ∧ w0 = wc)
    case first =>
      by_cases h1 : 1 ≤ d.page
      · by_cases h2 : d.page ≤ 512
        · have hk : pg = true := by rw [HPG.out]; unfold isPage; exact decide_eq_true ⟨h1, h2⟩
          go_wp2
          go_meet
          exact ⟨by rw [hk], rfl⟩
        · have hk : pg = false := by rw [HPG.out]; unfold isPage; exact decide_eq_false (fun h => h2 h.2)
          go_wp2
          go_meet
          exact ⟨by rw [hk], rfl⟩
      · have hk : pg = false := by rw [HPG.out]; unfold isPage; exact decide_eq_false (fun h => h1 h.1)
        go_wp2
        go_meet
        exact ⟨by rw [hk], rfl⟩
    case rest =>
      obtain ⟨rfl, rfl⟩ := hcut
      go_wp2_with fail
      refine (HSM.out w0 HF0.out.be).mono ?_
      rintro e w1 ⟨rfl, hb1⟩
      have HF1 := Lib.hid (HF0.out.on hb1)
      clear hb1 y0 y1 y2 y3 y4 y5 y6 y7 y8 y9 y10 y11 y12 y13 heq
      obtain ⟨y0, y1, y2, y3, y4, y5, y6, y7, y8, y9, y10, y11, y12, y13⟩ := Blk.cells14 HF1.out.b0
      have h6 : kd = 1 ∨ kd = 2 ∨ kd = 3 ∨ kd = 4 ∨ kd = 5 ∨ kd = 6 ∨ ¬ (kd = 1 ∨ kd = 2 ∨ kd = 3 ∨ kd = 4 ∨ kd = 5 ∨ kd = 6) := by omega
      rcases h6 with rfl | rfl | rfl | rfl | rfl | rfl | h7
      · rw [if_pos rfl] at HMM
        go_wp2_with fail
        refine (HCI.out w1).mono ?_
        rintro e w2 ⟨rfl, hb2⟩
        have HF2 := Lib.hid (HF1.out.on hb2)
        clear hb2 y0 y1 y2 y3 y4 y5 y6 y7 y8 y9 y10 y11 y12 y13
        obtain ⟨y0, y1, y2, y3, y4, y5, y6, y7, y8, y9, y10, y11, y12, y13⟩ := Blk.cells14 HF2.out.b0
        cases ha : (ck == 0) <;> cases hb : d.key.toList.isEmpty <;> cases hc : (d.page == 0) <;> cases rt
        all_goals
          have HX : mb = _ := HMM.out
          rw [ha, hb, hc] at HX
          have HY := Lib.hid HX
          clear HX
          go_wp2
          go_ret
          exact ⟨by rw [HY.out]; rfl, HF2.out.be⟩
      · rw [if_neg (by decide), if_pos (by decide)] at HMM
        cases it <;> cases ky <;> cases pg <;> cases rt
        all_goals
          go_wp2
          go_ret
          exact ⟨by rw [HMM.out]; rfl, HF1.out.be⟩
      · rw [if_neg (by decide), if_pos (by decide)] at HMM
        cases it <;> cases ky <;> cases pg <;> cases rt
        all_goals
          go_wp2
          go_ret
          exact ⟨by rw [HMM.out]; rfl, HF1.out.be⟩
      · rw [if_neg (by decide), if_neg (by decide), if_pos rfl] at HMM
        cases it <;> cases ky <;> cases hc : (d.page == 0) <;> cases rt
        all_goals
          have HX : mb = _ := HMM.out
          rw [hc] at HX
          have HY := Lib.hid HX
          clear HX
          go_wp2
          go_ret
          exact ⟨by rw [HY.out]; rfl, HF1.out.be⟩
      · rw [if_neg (by decide), if_neg (by decide), if_neg (by decide), if_pos rfl] at HMM
        cases it <;> cases hb : d.key.toList.isEmpty <;> cases pg <;> cases rt
        all_goals
          have HX : mb = _ := HMM.out
          rw [hb] at HX
          have HY := Lib.hid HX
          clear HX
          go_wp2
          go_ret
          exact ⟨by rw [HY.out]; rfl, HF1.out.be⟩
      · rw [if_neg (by decide), if_neg (by decide), if_neg (by decide), if_neg (by decide), if_pos rfl] at HMM
        go_wp2_with fail
        refine (HCK.out w1 HF1.out.be).mono ?_
        rintro e w2 ⟨rfl, hb2⟩
        have HF2 := Lib.hid (HF1.out.on hb2)
        clear hb2 y0 y1 y2 y3 y4 y5 y6 y7 y8 y9 y10 y11 y12 y13
        obtain ⟨y0, y1, y2, y3, y4, y5, y6, y7, y8, y9, y10, y11, y12, y13⟩ := Blk.cells14 HF2.out.b0
        cases it <;> cases hb : d.key.toList.isEmpty <;> cases hc : (d.page == 0) <;> cases ha : (cr == 0)
        all_goals
          have HX : mb = _ := HMM.out
          rw [ha, hb, hc] at HX
          have HY := Lib.hid HX
          clear HX
          go_wp2
          go_ret
          exact ⟨by rw [HY.out]; rfl, HF2.out.be⟩
      · have k1 : (kd == 1) = false := by simp; omega
        have k2 : (kd == 2) = false := by simp; omega
        have k3 : (kd == 3) = false := by simp; omega
        have k4 : (kd == 4) = false := by simp; omega
        have k5 : (kd == 5) = false := by simp; omega
        have k6 : (kd == 6) = false := by simp; omega
        rw [if_neg (by omega), if_neg (by omega), if_neg (by omega), if_neg (by omega), if_neg (by omega)] at HMM
        go_wp2
        go_ret
        exact ⟨by rw [HMM.out]; rfl, HF1.out.be⟩
end Go.Proofs.YtjbdmaehomhdeaaGreat

namespace Go.Proofs.YtjbdmaehomhdeaaGreat
open Go.RowKit

theorem Rd.two {W : World} {g : Nat} {t : TypeId} {a b : Nat} {x y : Int} (h : Blk W g t #[.int .u8 x, .int .u8 y]) (hx : x = (a : Int)) (hy : y = (b : Int)) : Rd byteCell 1 W g (g + 1) (some ⟨g, 0, none⟩) [a, b] := fun _ => by
  subst hx hy
  refine ⟨_, rfl, Nat.le_refl _, Nat.lt_succ_self _, fun i u hu j v hv => ?_⟩
  have key : ∀ k, W.cell? ((⟨g, 0, none⟩ : Addr).add k) = #[Value.int .u8 (a : Int), Value.int .u8 (b : Int)][k]? := fun k => by
    rw [show (⟨g, 0, none⟩ : Addr).add k = ⟨g, k, none⟩ by unfold Addr.add; split <;> simp_all]
    exact h.cell k
  rw [key]
  rcases i with _ | _ | i
  · cases hu; rcases j with _ | j
    · cases hv; rfl
    · simp [byteCell] at hv
  · cases hu; rcases j with _ | j
    · cases hv; rfl
    · simp [byteCell] at hv
  · simp at hu
set_option maxRecDepth 100000 in
set_option maxHeartbeats 20000000 in
theorem ref_EncodeD (d : Delta) (A A' : Option Addr) (c c' lo : Nat) (w : World) (hp : Pg w lo w.heap.size d.right A A' c c') :
    Calls Tryz.prog 12 #[d.val A c A' c'] w (PostN w false (cond d.mayB (d.bytes d.kind) []) (cond d.mayB 0 110)) := by
  have HMY := Lib.hid (fun (W : World) (h : Below w.heap.size w W) => ref_May d A A' c c' lo W ((hp.below h).mono (Nat.le_refl _) h.size))
  have HEN := Lib.hid (fun (W : World) (h : Below w.heap.size w W) => ref_Encode d.right A A' c c' lo W ((hp.below h).mono (Nat.le_refl _) h.size))
  clear hp
  unfold Page.val Page.raw at HEN
  unfold Delta.val at HMY
  unfold Delta.val
  obtain ⟨ri, hri⟩ : ∃ n, n = d.right.items.length := ⟨_, rfl⟩
  obtain ⟨rk, hrk⟩ : ∃ n, n = d.right.kids.length := ⟨_, rfl⟩
  obtain ⟨kd, hkd⟩ : ∃ n, n = d.kind := ⟨_, rfl⟩
  rw [← hri, ← hrk, ← hkd]
  rw [← hri, ← hrk] at HEN
  rw [← hri, ← hrk, ← hkd] at HMY
  have HKD := Lib.hid hkd
  clear hri hrk hkd
  have hF := Fr.two w 29 34 #[Value.int IntKind.i64 kd, Value.string d.item.key, Value.string d.item.value, Value.int IntKind.i64 d.item.no, Value.bool d.item.gone, Value.string d.key, Value.int IntKind.i64 d.page, Value.int IntKind.i64 d.right.level, Value.string d.right.low, Value.string d.right.high, Value.bool d.right.last, Value.int IntKind.i64 d.right.side, Value.slice A ri c, Value.slice A' rk c'] #[.bool false, .slice none 0 0]
  go_enter Tryz.func12, Tryz.ntmps12
  go_upto_region 1 with (fail)
  generalize (w.alloc (.cells #[Value.int IntKind.i64 kd, Value.string d.item.key, Value.string d.item.value, Value.int IntKind.i64 d.item.no, Value.bool d.item.gone, Value.string d.key, Value.int IntKind.i64 d.page, Value.int IntKind.i64 d.right.level, Value.string d.right.low, Value.string d.right.high, Value.bool d.right.last, Value.int IntKind.i64 d.right.side, Value.slice A ri c, Value.slice A' rk c'] 29)).alloc (.cells #[Value.bool false, Value.slice none 0 0] 34) = w0 at *
  have HF0 := Lib.hid hF
  clear hF
  obtain ⟨q0, q1, q2, q3, q4, q5, q6, q7, q8, q9, q10, q11, q12, q13⟩ := Blk.cells14 HF0.out.b0
  go_wp2_with fail
  refine (HMY.out w0 HF0.out.be).mono ?_
  rintro e w1 ⟨rfl, hb1⟩
  have HF1 := Lib.hid (HF0.out.on hb1)
  clear hb1 q0 q1 q2 q3 q4 q5 q6 q7 q8 q9 q10 q11 q12 q13
  obtain ⟨q0, q1, q2, q3, q4, q5, q6, q7, q8, q9, q10, q11, q12, q13⟩ := Blk.cells14 HF1.out.b0
  cases hm : d.mayB with
  | false =>
    have HMF := Lib.hid hm
    clear hm
    go_wp2_with (refine wpList_store_row rfl 34 _ _ rfl rfl (w.heap.size + 1) rfl _ _ _ rfl HF1.out.b1 rfl (by kernel_rfl) (List.all_eq_true.1 rfl) ?_; rintro w2 hT2 hB2)
    exact bodyPost_ret (v := .tuple #[.agg #[.bool false, .slice none 0 0], .int .i64 110]) (results_row2 rfl _ _ (w.heap.size + 1) _ _ _ _ rfl hB2 Tryz.underlying34 rfl (by kernel_rfl) rfl) rfl (by rw [HMF.out]; exact ⟨.slice none 0 0, rfl, OwnB.nil _ _, hT2.below HF1.out.be (by omega) HF1.out.be.size⟩)
  | true =>
    have HM := Lib.hid hm
    have hmay : d.may kd = true := by rw [HKD.out]; exact hm
    clear hm
    have h6 : kd = 1 ∨ kd = 2 ∨ kd = 3 ∨ kd = 4 ∨ kd = 5 ∨ kd = 6 := by
      unfold Delta.may at hmay
      simp only [Bool.and_eq_true, decide_eq_true_eq] at hmay
      omega
    have HMK := Lib.hid hmay
    clear hmay
    have hEA : ∀ b : Nat, EnW w (w1.alloc (.cells #[.int .u8 (b : Int)] 5)) #[Value.int IntKind.i64 kd, Value.string d.item.key, Value.string d.item.value, Value.int IntKind.i64 d.item.no, Value.bool d.item.gone, Value.string d.key, Value.int IntKind.i64 d.page, Value.int IntKind.i64 d.right.level, Value.string d.right.low, Value.string d.right.high, Value.bool d.right.last, Value.int IntKind.i64 d.right.side, Value.slice A ri c, Value.slice A' rk c'] (.slice (some ⟨w1.heap.size, 0, none⟩) 1 1) [b] := fun b => by
      have hs1 := HF1.out.sz
      simp only [List.length_cons, List.length_nil] at hs1
      exact ⟨HF1.out.be.alloc HF1.out.be.size _, HF1.out.b0.alloc _, HF1.out.b1.alloc _, (own_kind w1 b).mono (by omega), fun k hk => by cases hk; show _ ≤ w1.heap.size; omega⟩
    rcases h6 with rfl | rfl | rfl | rfl | rfl | rfl
    · have hE := hEA 1
      clear hEA
      go_upto_region 5 with (fail)
      generalize w1.alloc (.cells #[.int .u8 1] 5) = wA at *
      have EA : Hid (EnW w wA #[Value.int IntKind.i64 1, Value.string d.item.key, Value.string d.item.value, Value.int IntKind.i64 d.item.no, Value.bool d.item.gone, Value.string d.key, Value.int IntKind.i64 d.page, Value.int IntKind.i64 d.right.level, Value.string d.right.low, Value.string d.right.high, Value.bool d.right.last, Value.int IntKind.i64 d.right.side, Value.slice A ri c, Value.slice A' rk c'] _ _) := Lib.hid hE
      clear hE q0 q1 q2 q3 q4 q5 q6 q7 q8 q9 q10 q11 q12 q13
      obtain ⟨q0, q1, q2, q3, q4, q5, q6, q7, q8, q9, q10, q11, q12, q13⟩ := Blk.cells14 EA.out.db
      have hci : d.item.check = 0 := by have h := HMK.out; unfold Delta.may at h; simp at h; exact h.2
      obtain ⟨hi1, hi2, hi3, hi4, _⟩ := Item.of_check hci
      simp only [isKey, decide_eq_true_eq] at hi1
      go_upto_region 16 with (go_at_call 35; refine (ref_Item (w.heap.size + 2) _ [1] d.item (by omega) hi4 _ EA.out.ow (by have := EA.out.nb.lt; omega) (by simp; omega)).mono ?_; rintro e w3 ⟨v3, rfl, hO, hG⟩; have E3 := Lib.hid (EA.out.grow hO hG); clear hO hG)
      obtain ⟨n0, n1⟩ := Blk.cells2' E3.out.nb
      have nf : ∀ i, w3.frozen? ⟨w.heap.size + 1, i, none⟩ = false := E3.out.nb.frozen
      have hEO := E3.out.ow
      rw [show [1] ++ d.item.bytes = d.bytes 1 from rfl] at hEO
      obtain ⟨AE, cE, rfl, _, _, hob⟩ := OwnB.form hEO rfl
      obtain ⟨nE, hnE⟩ : ∃ n, n = (d.bytes 1).length := ⟨_, rfl⟩
      rw [← hnE]
      rw [← hnE] at hEO hob
      have HEO := Lib.hid hEO
      have HOB := Lib.hid hob
      clear hEO hob hnE
      have HE : Hid (Blk ((w3.setCell ⟨w.heap.size + 1, 0, none⟩ (.bool false)).setCell ⟨w.heap.size + 1, 1, none⟩ (.slice AE nE cE)) (w.heap.size + 1) 34 #[.bool false, .slice AE nE cE]) := Lib.hid ((E3.out.nb.set_ 0 _).set_ 1 _)
      have HBE : Hid (Below w.heap.size w ((w3.setCell ⟨w.heap.size + 1, 0, none⟩ (.bool false)).setCell ⟨w.heap.size + 1, 1, none⟩ (.slice AE nE cE))) := Lib.hid ((E3.out.be.setCell (p := ⟨w.heap.size + 1, 0, none⟩) (by simp) _).setCell (p := ⟨w.heap.size + 1, 1, none⟩) (by simp) _)
      have HOE : Hid (OwnB ((w3.setCell ⟨w.heap.size + 1, 0, none⟩ (.bool false)).setCell ⟨w.heap.size + 1, 1, none⟩ (.slice AE nE cE)) w.heap.size (.slice AE nE cE) (d.bytes 1)) := Lib.hid (OwnB.mono (OwnB.keepH HEO.out fun k hk => by
        have := (HOB.out k hk).1
        rw [Below.heap_setCell _ _ _ k (by simp; omega), Below.heap_setCell _ _ _ k (by simp; omega)]) (by omega))
      go_wp2
      generalize ((w3.setCell ⟨w.heap.size + 1, 0, none⟩ (.bool false)).setCell ⟨w.heap.size + 1, 1, none⟩ (.slice AE nE cE)) = wE at *
      obtain ⟨e0, e1⟩ := Blk.cells2' HE.out
      exact bodyPost_ret (v := .tuple #[.agg #[.bool false, .slice AE nE cE], .int .i64 0]) (by simp [results, Tryz.results12, go_sem, e0, e1]) rfl (by rw [HM.out]; exact ⟨.slice AE nE cE, rfl, HOE.out, HBE.out⟩)
    · have hE := hEA 2
      clear hEA
      go_upto_region 5 with (fail)
      generalize w1.alloc (.cells #[.int .u8 2] 5) = wA at *
      have EA : Hid (EnW w wA #[Value.int IntKind.i64 2, Value.string d.item.key, Value.string d.item.value, Value.int IntKind.i64 d.item.no, Value.bool d.item.gone, Value.string d.key, Value.int IntKind.i64 d.page, Value.int IntKind.i64 d.right.level, Value.string d.right.low, Value.string d.right.high, Value.bool d.right.last, Value.int IntKind.i64 d.right.side, Value.slice A ri c, Value.slice A' rk c'] _ _) := Lib.hid hE
      clear hE q0 q1 q2 q3 q4 q5 q6 q7 q8 q9 q10 q11 q12 q13
      obtain ⟨q0, q1, q2, q3, q4, q5, q6, q7, q8, q9, q10, q11, q12, q13⟩ := Blk.cells14 EA.out.db
      have hmk := HMK.out
      have hks : 1 ≤ d.page ∧ d.page ≤ 512 := by unfold Delta.may at hmk; simp [isPage] at hmk; omega
      obtain ⟨pn, hpn⟩ := Int.eq_ofNat_of_zero_le (show (0 : Int) ≤ d.page by omega)
      have HPN := Lib.hid hpn
      have hp512 : pn ≤ 512 := by omega
      rw [hpn] at q6
      clear hks hpn hmk
      have HKS : Hid (d.key.size ≤ 16) := Lib.hid (by have h := HMK.out; unfold Delta.may at h; simp [isKey] at h; omega)
      go_upto_region 16 with (first
        | (at_builtin; refine appB _ rfl (.tmp 36) (.tmp 45) rfl (w.heap.size + 2) v4 _ [pn % 256, pn / 256 % 256] (some ⟨w4.heap.size, 0, none⟩) 2 w4.heap.size (w4.heap.size + 1) rfl (E4.out.ow.later ((Below.refl _ _).alloc (Nat.le_refl _) _)) rfl (Rd.two (Blk.new w4 _ _) (by omega) (by omega)) (by have := HKS.out; simp [sB_length]; omega) (by have := E4.out.nb.lt; simp; omega) ?_; intro v5 w5 hO hG; have E5 := Lib.hid ((E4.out.on ((Below.refl _ _).alloc (Nat.le_refl _) _)).grow hO hG); clear hO hG)
        | (at_builtin; refine appS w3 rfl (.tmp 29) (.tmp 31) rfl (w.heap.size + 2) v3 _ d.key rfl E3.out.ow rfl (by have := HKS.out; simp; omega) (by have := E3.out.nb.lt; omega) ?_; intro v4 w4 hO hG; have E4 := Lib.hid (E3.out.grow hO hG); clear hO hG; have l5 : w4.cell? ⟨w.heap.size, 5, none⟩ = some (.string d.key) := E4.out.db.cell 5; have l6 : w4.cell? ⟨w.heap.size, 6, none⟩ = some (.int .i64 (pn : Int)) := by { rw [← HPN.out]; exact E4.out.db.cell 6 }; have l0 : w4.cell? ⟨w.heap.size, 0, none⟩ = some (.int .i64 2) := E4.out.db.cell 0)
        | (at_builtin; refine app1 wA rfl (.tmp 22) (.tmp 27) rfl (w.heap.size + 2) _ [2] (d.key.size % 256) _ (Int.natCast_emod _ _).symm rfl EA.out.ow rfl (by simp) (by have := EA.out.nb.lt; omega) ?_; intro v3 w3 hO hG; have E3 := Lib.hid (EA.out.grow hO hG); clear hO hG; have k5 : w3.cell? ⟨w.heap.size, 5, none⟩ = some (.string d.key) := E3.out.db.cell 5; have k6 : w3.cell? ⟨w.heap.size, 6, none⟩ = some (.int .i64 (pn : Int)) := by { rw [← HPN.out]; exact E3.out.db.cell 6 }; have k0 : w3.cell? ⟨w.heap.size, 0, none⟩ = some (.int .i64 2) := E3.out.db.cell 0))
      obtain ⟨n0, n1⟩ := Blk.cells2' E5.out.nb
      have nf : ∀ i, w5.frozen? ⟨w.heap.size + 1, i, none⟩ = false := E5.out.nb.frozen
      have hEO := E5.out.ow
      rw [show (([2] ++ [d.key.size % 256]) ++ sB d.key) ++ [pn % 256, pn / 256 % 256] = d.bytes 2 from by unfold Delta.bytes textB; rw [HPN.out]; simp [numB]] at hEO
      obtain ⟨AE, cE, rfl, _, _, hob⟩ := OwnB.form hEO rfl
      obtain ⟨nE, hnE⟩ : ∃ n, n = (d.bytes 2).length := ⟨_, rfl⟩
      rw [← hnE]
      rw [← hnE] at hEO hob
      have HEO := Lib.hid hEO
      have HOB := Lib.hid hob
      clear hEO hob hnE
      have HE : Hid (Blk ((w5.setCell ⟨w.heap.size + 1, 0, none⟩ (.bool false)).setCell ⟨w.heap.size + 1, 1, none⟩ (.slice AE nE cE)) (w.heap.size + 1) 34 #[.bool false, .slice AE nE cE]) := Lib.hid ((E5.out.nb.set_ 0 _).set_ 1 _)
      have HBE : Hid (Below w.heap.size w ((w5.setCell ⟨w.heap.size + 1, 0, none⟩ (.bool false)).setCell ⟨w.heap.size + 1, 1, none⟩ (.slice AE nE cE))) := Lib.hid ((E5.out.be.setCell (p := ⟨w.heap.size + 1, 0, none⟩) (by simp) _).setCell (p := ⟨w.heap.size + 1, 1, none⟩) (by simp) _)
      have HOE : Hid (OwnB ((w5.setCell ⟨w.heap.size + 1, 0, none⟩ (.bool false)).setCell ⟨w.heap.size + 1, 1, none⟩ (.slice AE nE cE)) w.heap.size (.slice AE nE cE) (d.bytes 2)) := Lib.hid (OwnB.mono (OwnB.keepH HEO.out fun k hk => by
        have := (HOB.out k hk).1
        rw [Below.heap_setCell _ _ _ k (by simp; omega), Below.heap_setCell _ _ _ k (by simp; omega)]) (by omega))
      go_wp2
      generalize ((w5.setCell ⟨w.heap.size + 1, 0, none⟩ (.bool false)).setCell ⟨w.heap.size + 1, 1, none⟩ (.slice AE nE cE)) = wE at *
      obtain ⟨e0, e1⟩ := Blk.cells2' HE.out
      exact bodyPost_ret (v := .tuple #[.agg #[.bool false, .slice AE nE cE], .int .i64 0]) (by simp [results, Tryz.results12, go_sem, e0, e1]) rfl (by rw [HM.out]; exact ⟨.slice AE nE cE, rfl, HOE.out, HBE.out⟩)
    · have hE := hEA 3
      clear hEA
      go_upto_region 5 with (fail)
      generalize w1.alloc (.cells #[.int .u8 3] 5) = wA at *
      have EA : Hid (EnW w wA #[Value.int IntKind.i64 3, Value.string d.item.key, Value.string d.item.value, Value.int IntKind.i64 d.item.no, Value.bool d.item.gone, Value.string d.key, Value.int IntKind.i64 d.page, Value.int IntKind.i64 d.right.level, Value.string d.right.low, Value.string d.right.high, Value.bool d.right.last, Value.int IntKind.i64 d.right.side, Value.slice A ri c, Value.slice A' rk c'] _ _) := Lib.hid hE
      clear hE q0 q1 q2 q3 q4 q5 q6 q7 q8 q9 q10 q11 q12 q13
      obtain ⟨q0, q1, q2, q3, q4, q5, q6, q7, q8, q9, q10, q11, q12, q13⟩ := Blk.cells14 EA.out.db
      have hmk := HMK.out
      have hks : 1 ≤ d.page ∧ d.page ≤ 512 := by unfold Delta.may at hmk; simp [isPage] at hmk; omega
      obtain ⟨pn, hpn⟩ := Int.eq_ofNat_of_zero_le (show (0 : Int) ≤ d.page by omega)
      have HPN := Lib.hid hpn
      have hp512 : pn ≤ 512 := by omega
      rw [hpn] at q6
      clear hks hpn hmk
      have HKS : Hid (d.key.size ≤ 16) := Lib.hid (by have h := HMK.out; unfold Delta.may at h; simp [isKey] at h; omega)
      go_upto_region 16 with (first
        | (at_builtin; refine appB _ rfl (.tmp 36) (.tmp 45) rfl (w.heap.size + 2) v4 _ [pn % 256, pn / 256 % 256] (some ⟨w4.heap.size, 0, none⟩) 2 w4.heap.size (w4.heap.size + 1) rfl (E4.out.ow.later ((Below.refl _ _).alloc (Nat.le_refl _) _)) rfl (Rd.two (Blk.new w4 _ _) (by omega) (by omega)) (by have := HKS.out; simp [sB_length]; omega) (by have := E4.out.nb.lt; simp; omega) ?_; intro v5 w5 hO hG; have E5 := Lib.hid ((E4.out.on ((Below.refl _ _).alloc (Nat.le_refl _) _)).grow hO hG); clear hO hG)
        | (at_builtin; refine appS w3 rfl (.tmp 29) (.tmp 31) rfl (w.heap.size + 2) v3 _ d.key rfl E3.out.ow rfl (by have := HKS.out; simp; omega) (by have := E3.out.nb.lt; omega) ?_; intro v4 w4 hO hG; have E4 := Lib.hid (E3.out.grow hO hG); clear hO hG; have l5 : w4.cell? ⟨w.heap.size, 5, none⟩ = some (.string d.key) := E4.out.db.cell 5; have l6 : w4.cell? ⟨w.heap.size, 6, none⟩ = some (.int .i64 (pn : Int)) := by { rw [← HPN.out]; exact E4.out.db.cell 6 }; have l0 : w4.cell? ⟨w.heap.size, 0, none⟩ = some (.int .i64 3) := E4.out.db.cell 0)
        | (at_builtin; refine app1 wA rfl (.tmp 22) (.tmp 27) rfl (w.heap.size + 2) _ [3] (d.key.size % 256) _ (Int.natCast_emod _ _).symm rfl EA.out.ow rfl (by simp) (by have := EA.out.nb.lt; omega) ?_; intro v3 w3 hO hG; have E3 := Lib.hid (EA.out.grow hO hG); clear hO hG; have k5 : w3.cell? ⟨w.heap.size, 5, none⟩ = some (.string d.key) := E3.out.db.cell 5; have k6 : w3.cell? ⟨w.heap.size, 6, none⟩ = some (.int .i64 (pn : Int)) := by { rw [← HPN.out]; exact E3.out.db.cell 6 }; have k0 : w3.cell? ⟨w.heap.size, 0, none⟩ = some (.int .i64 3) := E3.out.db.cell 0))
      obtain ⟨n0, n1⟩ := Blk.cells2' E5.out.nb
      have nf : ∀ i, w5.frozen? ⟨w.heap.size + 1, i, none⟩ = false := E5.out.nb.frozen
      have hEO := E5.out.ow
      rw [show (([3] ++ [d.key.size % 256]) ++ sB d.key) ++ [pn % 256, pn / 256 % 256] = d.bytes 3 from by unfold Delta.bytes textB; rw [HPN.out]; simp [numB]] at hEO
      obtain ⟨AE, cE, rfl, _, _, hob⟩ := OwnB.form hEO rfl
      obtain ⟨nE, hnE⟩ : ∃ n, n = (d.bytes 3).length := ⟨_, rfl⟩
      rw [← hnE]
      rw [← hnE] at hEO hob
      have HEO := Lib.hid hEO
      have HOB := Lib.hid hob
      clear hEO hob hnE
      have HE : Hid (Blk ((w5.setCell ⟨w.heap.size + 1, 0, none⟩ (.bool false)).setCell ⟨w.heap.size + 1, 1, none⟩ (.slice AE nE cE)) (w.heap.size + 1) 34 #[.bool false, .slice AE nE cE]) := Lib.hid ((E5.out.nb.set_ 0 _).set_ 1 _)
      have HBE : Hid (Below w.heap.size w ((w5.setCell ⟨w.heap.size + 1, 0, none⟩ (.bool false)).setCell ⟨w.heap.size + 1, 1, none⟩ (.slice AE nE cE))) := Lib.hid ((E5.out.be.setCell (p := ⟨w.heap.size + 1, 0, none⟩) (by simp) _).setCell (p := ⟨w.heap.size + 1, 1, none⟩) (by simp) _)
      have HOE : Hid (OwnB ((w5.setCell ⟨w.heap.size + 1, 0, none⟩ (.bool false)).setCell ⟨w.heap.size + 1, 1, none⟩ (.slice AE nE cE)) w.heap.size (.slice AE nE cE) (d.bytes 3)) := Lib.hid (OwnB.mono (OwnB.keepH HEO.out fun k hk => by
        have := (HOB.out k hk).1
        rw [Below.heap_setCell _ _ _ k (by simp; omega), Below.heap_setCell _ _ _ k (by simp; omega)]) (by omega))
      go_wp2
      generalize ((w5.setCell ⟨w.heap.size + 1, 0, none⟩ (.bool false)).setCell ⟨w.heap.size + 1, 1, none⟩ (.slice AE nE cE)) = wE at *
      obtain ⟨e0, e1⟩ := Blk.cells2' HE.out
      exact bodyPost_ret (v := .tuple #[.agg #[.bool false, .slice AE nE cE], .int .i64 0]) (by simp [results, Tryz.results12, go_sem, e0, e1]) rfl (by rw [HM.out]; exact ⟨.slice AE nE cE, rfl, HOE.out, HBE.out⟩)
    · have hE := hEA 4
      clear hEA
      go_upto_region 5 with (fail)
      generalize w1.alloc (.cells #[.int .u8 4] 5) = wA at *
      have EA : Hid (EnW w wA #[Value.int IntKind.i64 4, Value.string d.item.key, Value.string d.item.value, Value.int IntKind.i64 d.item.no, Value.bool d.item.gone, Value.string d.key, Value.int IntKind.i64 d.page, Value.int IntKind.i64 d.right.level, Value.string d.right.low, Value.string d.right.high, Value.bool d.right.last, Value.int IntKind.i64 d.right.side, Value.slice A ri c, Value.slice A' rk c'] _ _) := Lib.hid hE
      clear hE q0 q1 q2 q3 q4 q5 q6 q7 q8 q9 q10 q11 q12 q13
      obtain ⟨q0, q1, q2, q3, q4, q5, q6, q7, q8, q9, q10, q11, q12, q13⟩ := Blk.cells14 EA.out.db
      have hmk := HMK.out
      have hks : d.page = 0 := by unfold Delta.may Delta.bareB Delta.b3 at hmk; simp at hmk; exact hmk.1.2.2.1
      obtain ⟨pn, hpn⟩ := Int.eq_ofNat_of_zero_le (show (0 : Int) ≤ d.page by omega)
      have HPN := Lib.hid hpn
      rw [hpn] at q6
      clear hks hpn hmk
      have HKS : Hid (d.key.size ≤ 16) := Lib.hid (by have h := HMK.out; unfold Delta.may at h; simp [isKey] at h; omega)
      go_upto_region 16 with (first
        | (at_builtin; refine appS w3 rfl (.tmp 29) (.tmp 31) rfl (w.heap.size + 2) v3 _ d.key rfl E3.out.ow rfl (by have := HKS.out; simp; omega) (by have := E3.out.nb.lt; omega) ?_; intro v4 w4 hO hG; have E4 := Lib.hid (E3.out.grow hO hG); clear hO hG; have l5 : w4.cell? ⟨w.heap.size, 5, none⟩ = some (.string d.key) := E4.out.db.cell 5; have l6 : w4.cell? ⟨w.heap.size, 6, none⟩ = some (.int .i64 (pn : Int)) := by { rw [← HPN.out]; exact E4.out.db.cell 6 }; have l0 : w4.cell? ⟨w.heap.size, 0, none⟩ = some (.int .i64 4) := E4.out.db.cell 0)
        | (at_builtin; refine app1 wA rfl (.tmp 22) (.tmp 27) rfl (w.heap.size + 2) _ [4] (d.key.size % 256) _ (Int.natCast_emod _ _).symm rfl EA.out.ow rfl (by simp) (by have := EA.out.nb.lt; omega) ?_; intro v3 w3 hO hG; have E3 := Lib.hid (EA.out.grow hO hG); clear hO hG; have k5 : w3.cell? ⟨w.heap.size, 5, none⟩ = some (.string d.key) := E3.out.db.cell 5; have k6 : w3.cell? ⟨w.heap.size, 6, none⟩ = some (.int .i64 (pn : Int)) := by { rw [← HPN.out]; exact E3.out.db.cell 6 }; have k0 : w3.cell? ⟨w.heap.size, 0, none⟩ = some (.int .i64 4) := E3.out.db.cell 0))
      obtain ⟨n0, n1⟩ := Blk.cells2' E4.out.nb
      have nf : ∀ i, w4.frozen? ⟨w.heap.size + 1, i, none⟩ = false := E4.out.nb.frozen
      have hEO := E4.out.ow
      rw [show ([4] ++ [d.key.size % 256]) ++ sB d.key = d.bytes 4 from by unfold Delta.bytes textB; simp] at hEO
      obtain ⟨AE, cE, rfl, _, _, hob⟩ := OwnB.form hEO rfl
      obtain ⟨nE, hnE⟩ : ∃ n, n = (d.bytes 4).length := ⟨_, rfl⟩
      rw [← hnE]
      rw [← hnE] at hEO hob
      have HEO := Lib.hid hEO
      have HOB := Lib.hid hob
      clear hEO hob hnE
      have HE : Hid (Blk ((w4.setCell ⟨w.heap.size + 1, 0, none⟩ (.bool false)).setCell ⟨w.heap.size + 1, 1, none⟩ (.slice AE nE cE)) (w.heap.size + 1) 34 #[.bool false, .slice AE nE cE]) := Lib.hid ((E4.out.nb.set_ 0 _).set_ 1 _)
      have HBE : Hid (Below w.heap.size w ((w4.setCell ⟨w.heap.size + 1, 0, none⟩ (.bool false)).setCell ⟨w.heap.size + 1, 1, none⟩ (.slice AE nE cE))) := Lib.hid ((E4.out.be.setCell (p := ⟨w.heap.size + 1, 0, none⟩) (by simp) _).setCell (p := ⟨w.heap.size + 1, 1, none⟩) (by simp) _)
      have HOE : Hid (OwnB ((w4.setCell ⟨w.heap.size + 1, 0, none⟩ (.bool false)).setCell ⟨w.heap.size + 1, 1, none⟩ (.slice AE nE cE)) w.heap.size (.slice AE nE cE) (d.bytes 4)) := Lib.hid (OwnB.mono (OwnB.keepH HEO.out fun k hk => by
        have := (HOB.out k hk).1
        rw [Below.heap_setCell _ _ _ k (by simp; omega), Below.heap_setCell _ _ _ k (by simp; omega)]) (by omega))
      go_wp2
      generalize ((w4.setCell ⟨w.heap.size + 1, 0, none⟩ (.bool false)).setCell ⟨w.heap.size + 1, 1, none⟩ (.slice AE nE cE)) = wE at *
      obtain ⟨e0, e1⟩ := Blk.cells2' HE.out
      exact bodyPost_ret (v := .tuple #[.agg #[.bool false, .slice AE nE cE], .int .i64 0]) (by simp [results, Tryz.results12, go_sem, e0, e1]) rfl (by rw [HM.out]; exact ⟨.slice AE nE cE, rfl, HOE.out, HBE.out⟩)
    · have hE := hEA 5
      clear hEA
      go_upto_region 5 with (fail)
      generalize w1.alloc (.cells #[.int .u8 5] 5) = wA at *
      have EA : Hid (EnW w wA #[Value.int IntKind.i64 5, Value.string d.item.key, Value.string d.item.value, Value.int IntKind.i64 d.item.no, Value.bool d.item.gone, Value.string d.key, Value.int IntKind.i64 d.page, Value.int IntKind.i64 d.right.level, Value.string d.right.low, Value.string d.right.high, Value.bool d.right.last, Value.int IntKind.i64 d.right.side, Value.slice A ri c, Value.slice A' rk c'] _ _) := Lib.hid hE
      clear hE q0 q1 q2 q3 q4 q5 q6 q7 q8 q9 q10 q11 q12 q13
      obtain ⟨q0, q1, q2, q3, q4, q5, q6, q7, q8, q9, q10, q11, q12, q13⟩ := Blk.cells14 EA.out.db
      have hmk := HMK.out
      have hks : 1 ≤ d.page ∧ d.page ≤ 512 := by unfold Delta.may at hmk; simp [isPage] at hmk; omega
      obtain ⟨pn, hpn⟩ := Int.eq_ofNat_of_zero_le (show (0 : Int) ≤ d.page by omega)
      have HPN := Lib.hid hpn
      have hp512 : pn ≤ 512 := by omega
      rw [hpn] at q6
      clear hks hpn hmk
      have HKS : Hid (True) := Lib.hid trivial
      go_upto_region 16 with (first
        | (at_builtin; refine appB _ rfl (.tmp 36) (.tmp 45) rfl (w.heap.size + 2) _ _ [pn % 256, pn / 256 % 256] (some ⟨wA.heap.size, 0, none⟩) 2 wA.heap.size (wA.heap.size + 1) rfl (EA.out.ow.later ((Below.refl _ _).alloc (Nat.le_refl _) _)) rfl (Rd.two (Blk.new wA _ _) (by omega) (by omega)) (by have := HKS.out; simp) (by have := EA.out.nb.lt; simp; omega) ?_; intro v5 w5 hO hG; have E5 := Lib.hid ((EA.out.on ((Below.refl _ _).alloc (Nat.le_refl _) _)).grow hO hG); clear hO hG))
      obtain ⟨n0, n1⟩ := Blk.cells2' E5.out.nb
      have nf : ∀ i, w5.frozen? ⟨w.heap.size + 1, i, none⟩ = false := E5.out.nb.frozen
      have hEO := E5.out.ow
      rw [show [5] ++ [pn % 256, pn / 256 % 256] = d.bytes 5 from by unfold Delta.bytes; rw [HPN.out]; simp [numB]] at hEO
      obtain ⟨AE, cE, rfl, _, _, hob⟩ := OwnB.form hEO rfl
      obtain ⟨nE, hnE⟩ : ∃ n, n = (d.bytes 5).length := ⟨_, rfl⟩
      rw [← hnE]
      rw [← hnE] at hEO hob
      have HEO := Lib.hid hEO
      have HOB := Lib.hid hob
      clear hEO hob hnE
      have HE : Hid (Blk ((w5.setCell ⟨w.heap.size + 1, 0, none⟩ (.bool false)).setCell ⟨w.heap.size + 1, 1, none⟩ (.slice AE nE cE)) (w.heap.size + 1) 34 #[.bool false, .slice AE nE cE]) := Lib.hid ((E5.out.nb.set_ 0 _).set_ 1 _)
      have HBE : Hid (Below w.heap.size w ((w5.setCell ⟨w.heap.size + 1, 0, none⟩ (.bool false)).setCell ⟨w.heap.size + 1, 1, none⟩ (.slice AE nE cE))) := Lib.hid ((E5.out.be.setCell (p := ⟨w.heap.size + 1, 0, none⟩) (by simp) _).setCell (p := ⟨w.heap.size + 1, 1, none⟩) (by simp) _)
      have HOE : Hid (OwnB ((w5.setCell ⟨w.heap.size + 1, 0, none⟩ (.bool false)).setCell ⟨w.heap.size + 1, 1, none⟩ (.slice AE nE cE)) w.heap.size (.slice AE nE cE) (d.bytes 5)) := Lib.hid (OwnB.mono (OwnB.keepH HEO.out fun k hk => by
        have := (HOB.out k hk).1
        rw [Below.heap_setCell _ _ _ k (by simp; omega), Below.heap_setCell _ _ _ k (by simp; omega)]) (by omega))
      go_wp2
      generalize ((w5.setCell ⟨w.heap.size + 1, 0, none⟩ (.bool false)).setCell ⟨w.heap.size + 1, 1, none⟩ (.slice AE nE cE)) = wE at *
      obtain ⟨e0, e1⟩ := Blk.cells2' HE.out
      exact bodyPost_ret (v := .tuple #[.agg #[.bool false, .slice AE nE cE], .int .i64 0]) (by simp [results, Tryz.results12, go_sem, e0, e1]) rfl (by rw [HM.out]; exact ⟨.slice AE nE cE, rfl, HOE.out, HBE.out⟩)
    · have hE := hEA 6
      clear hEA
      go_upto_region 5 with (fail)
      generalize w1.alloc (.cells #[.int .u8 6] 5) = wA at *
      have EA : Hid (EnW w wA #[Value.int IntKind.i64 6, Value.string d.item.key, Value.string d.item.value, Value.int IntKind.i64 d.item.no, Value.bool d.item.gone, Value.string d.key, Value.int IntKind.i64 d.page, Value.int IntKind.i64 d.right.level, Value.string d.right.low, Value.string d.right.high, Value.bool d.right.last, Value.int IntKind.i64 d.right.side, Value.slice A ri c, Value.slice A' rk c'] _ _) := Lib.hid hE
      clear hE q0 q1 q2 q3 q4 q5 q6 q7 q8 q9 q10 q11 q12 q13
      obtain ⟨q0, q1, q2, q3, q4, q5, q6, q7, q8, q9, q10, q11, q12, q13⟩ := Blk.cells14 EA.out.db
      have hok : d.right.ok = true := by have h := HMK.out; unfold Delta.may at h; simp at h; exact h.2
      have HFS := Lib.hid (Page.Fine.of_ok hok).bytes_small
      have hck : d.right.check = 0 := by unfold Page.check; rw [hok]; rfl
      go_upto_region 16 with (first
        | (at_builtin; refine appB w2 rfl (.tmp 61) (.tmp 62) rfl (w.heap.size + 2) _ [6] d.right.bytes AR cR 0 w2.heap.size rfl E2.out.ow (by rw [HBN.out]; rfl) HRR.out (by have := HFS.out; simp; omega) (by have := E2.out.nb.lt; omega) ?_; intro v3 w3 hO hG; have E3 := Lib.hid (E2.out.grow hO hG); clear hO hG)
        | (go_at_call 36; refine (HEN.out wA EA.out.be).mono ?_; rintro e w2 ⟨v2, rfl, hO2, hb2⟩; rw [hck]; rw [hok, cond_true] at hO2; obtain ⟨bn, hbn⟩ : ∃ n, d.right.bytes.length = n := ⟨_, rfl⟩; obtain ⟨AR, cR, rfl, _, hRR, _⟩ := OwnB.form (n := bn) hO2 hbn; have HBN := Lib.hid hbn; have HRR := Lib.hid (hRR.mono (lo' := 0) (Nat.zero_le _) (Nat.le_refl _)); have E2 := Lib.hid (EA.out.on hb2); clear hO2 hRR hbn hb2))
      obtain ⟨n0, n1⟩ := Blk.cells2' E3.out.nb
      have nf : ∀ i, w3.frozen? ⟨w.heap.size + 1, i, none⟩ = false := E3.out.nb.frozen
      have hEO := E3.out.ow
      rw [show [6] ++ d.right.bytes = d.bytes 6 from rfl] at hEO
      obtain ⟨AE, cE, rfl, _, _, hob⟩ := OwnB.form hEO rfl
      obtain ⟨nE, hnE⟩ : ∃ n, n = (d.bytes 6).length := ⟨_, rfl⟩
      rw [← hnE]
      rw [← hnE] at hEO hob
      have HEO := Lib.hid hEO
      have HOB := Lib.hid hob
      clear hEO hob hnE
      have HE : Hid (Blk ((w3.setCell ⟨w.heap.size + 1, 0, none⟩ (.bool false)).setCell ⟨w.heap.size + 1, 1, none⟩ (.slice AE nE cE)) (w.heap.size + 1) 34 #[.bool false, .slice AE nE cE]) := Lib.hid ((E3.out.nb.set_ 0 _).set_ 1 _)
      have HBE : Hid (Below w.heap.size w ((w3.setCell ⟨w.heap.size + 1, 0, none⟩ (.bool false)).setCell ⟨w.heap.size + 1, 1, none⟩ (.slice AE nE cE))) := Lib.hid ((E3.out.be.setCell (p := ⟨w.heap.size + 1, 0, none⟩) (by simp) _).setCell (p := ⟨w.heap.size + 1, 1, none⟩) (by simp) _)
      have HOE : Hid (OwnB ((w3.setCell ⟨w.heap.size + 1, 0, none⟩ (.bool false)).setCell ⟨w.heap.size + 1, 1, none⟩ (.slice AE nE cE)) w.heap.size (.slice AE nE cE) (d.bytes 6)) := Lib.hid (OwnB.mono (OwnB.keepH HEO.out fun k hk => by
        have := (HOB.out k hk).1
        rw [Below.heap_setCell _ _ _ k (by simp; omega), Below.heap_setCell _ _ _ k (by simp; omega)]) (by omega))
      go_wp2
      generalize ((w3.setCell ⟨w.heap.size + 1, 0, none⟩ (.bool false)).setCell ⟨w.heap.size + 1, 1, none⟩ (.slice AE nE cE)) = wE at *
      obtain ⟨e0, e1⟩ := Blk.cells2' HE.out
      exact bodyPost_ret (v := .tuple #[.agg #[.bool false, .slice AE nE cE], .int .i64 0]) (by simp [results, Tryz.results12, go_sem, e0, e1]) rfl (by rw [HM.out]; exact ⟨.slice AE nE cE, rfl, HOE.out, HBE.out⟩)
end Go.Proofs.YtjbdmaehomhdeaaGreat
