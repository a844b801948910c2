/- Comparing strings; where a key is. -/
import Derived.Test.YtjbdmaehomhdeaaA3
import Derived.Lib.Bytealg
import Derived.Laws.Externs
namespace Go.Proofs.Ytjbdmaehomhdeaa
open Go.RowKit

def cmpB (a b : ByteArray) : Int := Go.Lib.compareBytes a.data.toList b.data.toList
theorem cmpL_neg : ∀ x y : List UInt8, decide (Go.Lib.compareBytes x y < 0) = Op.bytesLess x y
  | [], [] => by simp [Go.Lib.compareBytes, Op.bytesLess]
  | [], b :: y => by simp [Go.Lib.compareBytes, Op.bytesLess]
  | a :: x, [] => by simp [Go.Lib.compareBytes, Op.bytesLess]
  | a :: x, b :: y => by
    have ih := cmpL_neg x y
    unfold Go.Lib.compareBytes Op.bytesLess
    by_cases h1 : a < b
    · simp [h1]
    · by_cases h2 : b < a
      · have hne : ¬ a = b := fun e => by subst e; exact h1 h2
        simp [h1, h2, hne]
      · have he : a = b := UInt8.toNat_inj.1 (by
          have g1 : ¬ a.toNat < b.toNat := fun h => h1 (UInt8.lt_iff_toNat_lt.2 h)
          have g2 : ¬ b.toNat < a.toNat := fun h => h2 (UInt8.lt_iff_toNat_lt.2 h)
          omega)
        subst he
        simp [h1, ih]
theorem cmpL_zero : ∀ x y : List UInt8, Go.Lib.compareBytes x y = 0 ↔ x = y
  | [], [] => by simp [Go.Lib.compareBytes]
  | [], b :: y => by simp [Go.Lib.compareBytes]
  | a :: x, [] => by simp [Go.Lib.compareBytes]
  | a :: x, b :: y => by
    have ih := cmpL_zero x y
    unfold Go.Lib.compareBytes
    by_cases h1 : a < b
    · have hne : ¬ a = b := fun e => by subst e; exact absurd h1 (UInt8.lt_irrefl a)
      simp [h1, hne]
    · by_cases h2 : b < a
      · have hne : ¬ a = b := fun e => by subst e; exact h1 h2
        simp [h1, h2, hne]
      · have he : a = b := UInt8.toNat_inj.1 (by
          have g1 : ¬ a.toNat < b.toNat := fun h => h1 (UInt8.lt_iff_toNat_lt.2 h)
          have g2 : ¬ b.toNat < a.toNat := fun h => h2 (UInt8.lt_iff_toNat_lt.2 h)
          omega)
        subst he
        simp [h1, ih]
theorem cmpB_neg (a b : ByteArray) : decide (cmpB a b < 0) = lt a b := by
  unfold cmpB lt
  rw [cmpL_neg, ByteArray.toList_eq, ByteArray.toList_eq]
theorem cmpB_zero (a b : ByteArray) : cmpB a b = 0 ↔ a = b := by
  unfold cmpB
  rw [cmpL_zero]
  constructor
  · intro h; cases a; cases b; simp at h; rw [h]
  · rintro rfl; rfl

set_option maxHeartbeats 1000000 in
set_option maxRecDepth 100000 in
theorem bytealg_CompareString (a b : ByteArray) (w : World) :
    Calls Try.prog 89 #[.string a, .string b] w fun e w' => e = .returned (.int .i64 (cmpB a b)) ∧ w = w' := by
  unfold cmpB
  go_enter Try.func89, Try.ntmps89
  go_wp2
  rw [run_callFunc_extern (P := Try.prog) (f := 93) (fn := Try.f93) (by kernel_rfl) (by kernel_rfl) (by kernel_rfl) (by kernel_rfl) (e := Extern.BytealgCompare.compare) (by kernel_rfl), Go.Lib.run_compareString]
  simp only [Result.andThen]
  rw [Oper.upon_value]
  go_wp2
  go_ret
  exact ⟨rfl, rfl⟩

set_option maxHeartbeats 1000000 in
theorem strings_Compare (a b : ByteArray) (w : World) :
    Calls Try.prog 71 #[.string a, .string b] w fun e w' => e = .returned (.int .i64 (cmpB a b)) ∧ w = w' := by
  go_enter Try.func71, Try.ntmps71
  go_wp2_with (go_at_call 89; refine (bytealg_CompareString _ _ _).mono ?_; rintro e w' ⟨rfl, rfl⟩)
  go_ret
  exact ⟨rfl, rfl⟩
end Go.Proofs.Ytjbdmaehomhdeaa
