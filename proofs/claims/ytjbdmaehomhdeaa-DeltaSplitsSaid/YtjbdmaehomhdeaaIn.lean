/- In a round of a range over a function: what serves outside a round serves there (no defer). -/
import Derived.Test.YtjbdmaehomhdeaaBk
import Derived.Test.YtjbdmaehomhdeaaG14
namespace Go.Proofs.Ytjbdmaehomhdeaa
open Go.RowKit

theorem Oper.in_round {P : Program} {o : Oper} {a : Act} {w : World} {K : Act → World → Prop} {Q : Exit → Act → World → Prop} (l n : Nat) (hd : ∀ c, o.op ≠ .defer c) (h : o.wp P a w K Q) : o.wpIn (Fence.wide.inRound l) n P a w K Q := by
  refine ⟨fun _ _ => trivial, ?_⟩
  rw [Oper.semAt_plain (Fence.wide.inRound l) _ _ hd]
  unfold Oper.wp at h
  generalize (execOp a.eval o).run P w = r at h ⊢
  cases r with
  | ok x w' =>
    cases x with
    | value v => exact h
    | skip => exact h
    | defer d => exact h
    | enter f args => exact ⟨fun hh => by simp [Fence.wide] at hh, CallsIn.inRound l (callsIn_wide.2 h)⟩
    | row r args =>
      refine ⟨fun hh => by simp [Fence.wide] at hh, fun c cs _ => ?_⟩
      obtain ⟨v, w2, h1, h2⟩ := h c cs
      exact ⟨v, w2, h1, stepsIn_wide.2 h2⟩
    | _ => exact h.elim
  | halt x w' =>
    cases x with
    | panic v => exact h
    | _ => exact h.elim
def noDefer (ops : Array Oper) : Bool := ops.toList.all fun o => match o.op with | .defer _ => false | _ => true
theorem noDefer_ok {ops : Array Oper} (h : noDefer ops = true) : ∀ (i : Nat) (o : Oper), ops[i]? = some o → ∀ c, o.op ≠ .defer c := by
  intro i o ho c hc
  unfold noDefer at h
  rw [List.all_eq_true] at h
  have h1 := h o (by rw [← Array.getElem?_toList] at ho; exact List.mem_of_getElem? ho)
  rw [hc] at h1
  cases h1
theorem wpAny_in {P : Program} {ops : Array Oper} {Q : Exit → Act → World → Prop} (l n : Nat) (hd : ∀ (i : Nat) (o : Oper), ops[i]? = some o → ∀ c, o.op ≠ .defer c) (hg : ∀ (i : Nat) (o : Oper), ops[i]? = some o → o.guard = none ∧ ∀ e ∈ o.after.toList, Region.binds .any e = true → e.on < i)
    {a : Act} {S : List Nat} (J : (Nat → Bool) → (Nat → Value) → World → Prop)
    (hstep : ∀ (i : Nat) (o : Oper), ops[i]? = some o → ∀ D X w, J D X w → D i = false → (∀ e ∈ o.after.toList, Region.binds .any e = true → D e.on = true) → o.wp P (over a S X) w (fun a2 w2 => ∃ X2, a2 = over a S X2 ∧ J (fun j => D j || j == i) X2 w2) Q)
    (hend : ∀ D X w, J D X w → (∀ i, i < ops.size → D i = true) → Q .normal (over a S X) w) :
    ∀ (fuel : Nat) (listed : Array Bool) (X : Nat → Value) (w : World), listed.size = ops.size → (List.range ops.size).countP (fun i => !listed.getD i false) ≤ fuel → J (fun j => listed.getD j false) X w → wpAnyIn (Fence.wide.inRound l) n P .any ops Q fuel listed (over a S X) w := by
  have hfin : ∀ (listed : Array Bool), listed.size = ops.size → Region.ready .any ops listed = [] → ∀ i, i < ops.size → listed.getD i false = true := by
    intro listed hsz hr i
    induction i using Nat.strongRecOn with
    | ind i ih =>
      intro hi
      rw [Region.ready, List.filter_eq_nil_iff] at hr
      have h1 := hr i (List.mem_range.2 hi)
      cases hD : listed.getD i false with
      | true => rfl
      | false =>
        exfalso
        apply h1
        have hlt : i < listed.size := by omega
        have hT : listed.getD i true = false := by
          simp only [Array.getD_eq_getD_getElem?, Array.getElem?_eq_getElem hlt, Option.getD_some] at hD ⊢; exact hD
        obtain ⟨o, ho⟩ : ∃ o, ops[i]? = some o := ⟨_, Array.getElem?_eq_getElem hi⟩
        rw [hT, ho]
        simp only [Bool.not_false, Bool.true_and, Option.map_some, Option.getD_some]
        rw [← Array.all_toList, List.all_eq_true]
        intro e he
        cases hb : Region.binds .any e with
        | false => rfl
        | true =>
          have hlt2 := (hg i o ho).2 e he hb
          rw [ih e.on hlt2 (by omega), Bool.or_true]
  intro fuel
  induction fuel with
  | zero =>
    intro listed X w hsz hc hJ
    have hall : ∀ i, i < ops.size → listed.getD i false = true := by
      intro i hi
      have h0 := Nat.le_zero.1 hc
      rw [List.countP_eq_zero] at h0
      simpa using h0 i (List.mem_range.2 hi)
    refine ⟨?_, hend _ X w hJ hall⟩
    rw [Region.ready, List.filter_eq_nil_iff]
    intro i hi
    have h2 := hall i (List.mem_range.1 hi)
    have hlt : i < listed.size := by have := List.mem_range.1 hi; omega
    simp only [Array.getD_eq_getD_getElem?, Array.getElem?_eq_getElem hlt, Option.getD_some] at h2 ⊢
    simp [h2]
  | succ fuel ih =>
    intro listed X w hsz hc hJ
    refine ⟨fun hr => hend _ X w hJ (hfin listed hsz hr), fun i hi => ?_⟩
    rw [Region.ready, List.mem_filter] at hi
    obtain ⟨hi1, hi2⟩ := hi
    have hlt : i < ops.size := List.mem_range.1 hi1
    have hlt2 : i < listed.size := by omega
    obtain ⟨o, ho⟩ : ∃ o, ops[i]? = some o := ⟨_, Array.getElem?_eq_getElem hlt⟩
    rw [ho] at hi2
    simp only [Option.map_some, Option.getD_some, Bool.and_eq_true] at hi2
    have hDi : listed.getD i false = false := by
      have := hi2.1
      simp only [Array.getD_eq_getD_getElem?, Array.getElem?_eq_getElem hlt2, Option.getD_some] at this ⊢
      simpa using this
    have hdep : ∀ e ∈ o.after.toList, Region.binds .any e = true → listed.getD e.on false = true := by
      intro e he hb
      have h2 := hi2.2
      rw [← Array.all_toList, List.all_eq_true] at h2
      have := h2 e he
      rw [hb] at this
      simpa using this
    unfold wpOpIn
    rw [ho]
    simp only []
    rw [if_pos (by simp [Region.wanted, (hg i o ho).1])]
    refine Oper.in_round l n (hd i o ho) (Oper.wp_mono ?_ (hstep i o ho _ X w hJ hDi hdep))
    rintro a2 w2 ⟨X2, rfl, hJ2⟩
    refine ih _ X2 w2 (by simpa using hsz) ?_ ?_
    · have hpt : ∀ j, j < ops.size → (listed.setIfInBounds i true).getD j false = (listed.getD j false || j == i) := by
        intro j hj
        by_cases hji : j = i
        · subst hji; simp [Array.getD_eq_getD_getElem?, hlt2]
        · have : (j == i) = false := by simpa using hji
          rw [this, Bool.or_false]
          simp [Array.getD_eq_getD_getElem?, Array.getElem?_setIfInBounds_ne (Ne.symm hji)]
      have hlt3 : (List.range ops.size).countP (fun j => !(listed.setIfInBounds i true).getD j false) + 1 ≤ (List.range ops.size).countP (fun j => !listed.getD j false) := by
        obtain ⟨l1, l2, hl⟩ := List.append_of_mem (List.mem_range.2 hlt)
        have hm1 : ∀ j ∈ List.range ops.size, j < ops.size := fun j hj => List.mem_range.1 hj
        rw [hl] at hm1 ⊢
        have hle : ∀ l : List Nat, (∀ j ∈ l, j < ops.size) → l.countP (fun j => !(listed.setIfInBounds i true).getD j false) ≤ l.countP (fun j => !listed.getD j false) := by
          intro l hl2
          refine List.countP_mono_left fun j hj h => ?_
          rw [hpt j (hl2 j hj)] at h
          cases hq : listed.getD j false with
          | false => rfl
          | true => rw [hq] at h; simp at h
        rw [List.countP_append, List.countP_append, List.countP_cons, List.countP_cons]
        have h1 := hle l1 (fun j hj => hm1 j (by simp [hj]))
        have h2 := hle l2 (fun j hj => hm1 j (by simp [hj]))
        rw [hpt i hlt, hDi]
        simp only [beq_self_eq_true, Bool.or_true, Bool.not_true, Bool.not_false, if_true, Bool.false_eq_true, if_false]
        omega
      omega
    · have hJe : (fun j => (listed.setIfInBounds i true).getD j false) = (fun j => listed.getD j false || j == i) := by
        funext j
        by_cases hji : j = i
        · subst hji; simp [Array.getD_eq_getD_getElem?, hlt2]
        · have : (j == i) = false := by simpa using hji
          rw [this, Bool.or_false]
          simp [Array.getD_eq_getD_getElem?, Array.getElem?_setIfInBounds_ne (Ne.symm hji)]
      rw [hJe]
      exact hJ2
theorem wpIn_region_inv {P : Program} {ops : Array Oper} {Q : Exit → Act → World → Prop} (l n : Nat) {id : Nat} {a : Act} {w : World} (hm : P.follows .mixedOrders = true) (S : List Nat) (J : (Nat → Bool) → (Nat → Value) → World → Prop) (hd : noDefer ops = true)
    (hg : ∀ (i : Nat) (o : Oper), ops[i]? = some o → o.guard = none ∧ ∀ e ∈ o.after.toList, Region.binds .any e = true → e.on < i)
    (h0 : J (fun _ => false) (fun s => a.eval (.tmp s)) w.drew)
    (hstep : ∀ (i : Nat) (o : Oper), ops[i]? = some o → ∀ D X w, J D X w → D i = false → (∀ e ∈ o.after.toList, Region.binds .any e = true → D e.on = true) → o.wp P (over a S X) w (fun a2 w2 => ∃ X2, a2 = over a S X2 ∧ J (fun j => D j || j == i) X2 w2) Q)
    (hend : ∀ D X w, J D X w → (∀ i, i < ops.size → D i = true) → Q .normal (over a S X) w) : (Code.region id ops true).wpIn (Fence.wide.inRound l) n P Q a w := by
  refine wpIn_region_any hm ?_
  have h := wpAny_in (P := P) (ops := ops) (Q := Q) l n (noDefer_ok hd) hg (a := a) (S := S) J hstep hend ops.size (Array.replicate ops.size false) (fun s => a.eval (.tmp s)) w.drew (by simp) (by
    refine Nat.le_trans List.countP_le_length ?_
    simp) (by
    have e : (fun j => (Array.replicate ops.size false).getD j false) = fun _ => false := by
      funext j
      simp only [Array.getD_eq_getD_getElem?]
      rcases Nat.lt_or_ge j ops.size with hj | hj
      · simp [hj]
      · rw [Array.getElem?_eq_none (by simpa using hj)]; rfl
    rw [e]; exact h0)
  rw [over_id] at h
  exact h
section
variable {P : Program} {ops : Array Oper} {rest : List Oper} {o : Oper} {a : Act} {w : World} {Q : Exit → Act → World → Prop} {l n : Nat}
theorem wpListIn_load_row (hgd : o.guard = none) (ty : TypeId) (p : Operand) (ho : o.op = .load ty p) (g : Nat) (hp : a.eval p = .pointer (some ⟨g, 0, none⟩)) (t : TypeId) (cs : Array Value) (d : TypeDesc) (hg : Blk w g t cs)
    (hu : P.underlying ty = some d) (hd : (match d with | .struct _ | .array _ _ => true | _ => false) = true) (hi : (P.info? ty).map (·.size) = some cs.size) (h : wpListIn (Fence.wide.inRound l) n P ops Q rest (a.put o.dst (.agg cs)) w) : wpListIn (Fence.wide.inRound l) n P ops Q (o :: rest) a w :=
  wpListIn_plain hgd fun K hK => Oper.in_round l n (fun c hc => by rw [ho] at hc; cases hc) (wp1_load_row rfl ty p ho rfl g hp t cs d hg hu hd hi (hK _ _ h))
theorem wpListIn_store_row (hgd : o.guard = none) (ty : TypeId) (p x : Operand) (ho : o.op = .store ty p x) (hd : o.dst = none)
    (g : Nat) (hp : a.eval p = .pointer (some ⟨g, 0, none⟩)) (t : TypeId) (cs cur : Array Value) (hx : a.eval x = .agg cs) (hg : Blk w g t cur) (hs : cs.size = cur.size) (hi : (P.info? ty).map (·.size) = some cs.size) (h1 : ∀ v ∈ cs.toList, v.oneCell' = true)
    (h : ∀ w', Turned w w' g → Blk w' g t cs → wpListIn (Fence.wide.inRound l) n P ops Q rest a w') : wpListIn (Fence.wide.inRound l) n P ops Q (o :: rest) a w :=
  wpListIn_plain hgd fun K hK => Oper.in_round l n (fun c hc => by rw [ho] at hc; cases hc) (wp1_store_row rfl ty p x ho hd g hp t cs cur hx hg hs hi h1 fun w' h2 h3 => hK _ _ (h w' h2 h3))
end
end Go.Proofs.Ytjbdmaehomhdeaa
