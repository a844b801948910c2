/- plain facts of layer 11's awake. -/
import Derived.Test.YtjbdmaehomhdeaaGreatZX
import Derived.Test.YtjbdmaehomhdeaaGreatZE
set_option linter.unusedSimpArgs false
set_option linter.unusedVariables false
namespace Go.Proofs.YtjbdmaehomhdeaaGreat
open Go.RowKit

def keyB : ByteArray := ⟨#[98]⟩
def dI : Delta := ⟨1, itA, ⟨#[]⟩, 0, Page.zero⟩
def dS : Delta := ⟨2, Item.zero, keyB, 7, Page.zero⟩
def pgC : Page := ⟨0, ⟨#[]⟩, keyB, false, 7, [itA], []⟩
def bsI : List Nat := [1, 1, 97, 3, 0, 0, 0, 0, 0, 0, 1, 120]
def bsS : List Nat := [2, 1, 98, 7, 0]
def bsP : List Nat := [0, 1, 0, 0, 0, 0, 0]
theorem told_P : told bsP = pgA := by rfl
theorem dec_P : decoded bsP = pgA ∧ decodeE bsP = 0 := by
  have h : Page.form bsP = true := by
    unfold Page.form; rw [told_P, pgA_ok, pgA_bytes]; rfl
  unfold decoded decodeE
  rw [h]
  exact ⟨told_P, rfl⟩
theorem told_I : toldD bsI = dI := by rfl
theorem told_S : toldD bsS = dS := by rfl
theorem bare_I : dI.bareB 1 = true := by
  unfold Delta.bareB Delta.b1 Delta.b2 Delta.b3 Page.bareB dI
  simp [Page.zero, ByteArray.toList_eq]
theorem bare_S : dS.bareB 2 = true := by
  unfold Delta.bareB Delta.b1 Delta.b2 Delta.b3 Page.bareB dS
  simp [Page.zero, Item.zero, Item.same, Item.none, ByteArray.toList_eq]
theorem may_I : dI.mayB = true := by
  unfold Delta.mayB Delta.may
  rw [show dI.kind = 1 from rfl, bare_I, if_pos rfl, show dI.item.check = 0 from itA_check]
  rfl
theorem may_S : dS.mayB = true := by
  unfold Delta.mayB Delta.may
  rw [show dS.kind = 2 from rfl, bare_S, if_neg (by decide), if_neg (by decide)]
  rfl
theorem bytes_I : dI.bytes 1 = bsI := by rfl
theorem bytes_S : dS.bytes 2 = bsS := by rfl
theorem dec_I : decodedD false bsI = dI ∧ decodeDE false bsI = 0 := by
  have h : formD false bsI = true := by
    unfold formD; rw [told_I, may_I, show dI.kind = 1 from rfl, bytes_I]; rfl
  unfold decodedD decodeDE
  rw [h]
  exact ⟨told_I, rfl⟩
theorem dec_S : decodedD false bsS = dS ∧ decodeDE false bsS = 0 := by
  have h : formD false bsS = true := by
    unfold formD; rw [told_S, may_S, show dS.kind = 2 from rfl, bytes_S]; rfl
  unfold decodedD decodeDE
  rw [h]
  exact ⟨told_S, rfl⟩
theorem dec_true (bs : List Nat) : decodeDE true bs = 111 := by
  unfold decodeDE formD; rfl
theorem apply_I : dI.applyE pgA = 0 ∧ dI.applyP pgA = pgB := by
  unfold Delta.applyE Delta.applyP
  rw [pgA_ok, may_I]
  have h1 : dI.opE pgA = pgA.putE itA := by unfold Delta.opE; exact if_pos rfl
  have h2 : dI.opP pgA = pgA.putP itA := by unfold Delta.opP; exact if_pos rfl
  rw [h1, h2]
  exact put_A
theorem posSplit : posOf Item.key pgB.items keyB = 1 := by
  unfold posOf pgB
  simp only [List.takeWhile]
  rw [show lt itA.key keyB = true by rw [lt_data]; decide]
  rfl
theorem split_B : pgB.splitFits keyB 7 = true := by
  unfold Page.splitFits
  rw [show isKey keyB = true by decide, show same keyB pgB.low = false by unfold same; rw [ByteArray.toList_eq, ByteArray.toList_eq]; decide, show isPage 7 = true by decide, show decide (0 < pgB.level) = false by decide]
  rw [show pgB.covers keyB = true by
    unfold Page.covers
    rw [show lt keyB pgB.low = false by rw [lt_data]; decide]; rfl]
  rfl
theorem apply_S : dS.applyE pgB = 0 ∧ dS.applyP pgB = pgC := by
  unfold Delta.applyE Delta.applyP
  rw [pgB_ok, may_S]
  have h1 : dS.opE pgB = pgB.splitE keyB 7 := by unfold Delta.opE; exact (if_neg (by decide)).trans (if_pos rfl)
  have h2 : dS.opP pgB = pgB.splitP keyB 7 := by unfold Delta.opP; exact (if_neg (by decide)).trans (if_pos rfl)
  rw [h1, h2]
  unfold Page.splitE Page.splitP
  rw [pgB_ok, split_B, posSplit]
  exact ⟨rfl, rfl⟩
theorem flat_1 (A B C : Option Addr) (a b c : Nat) : flatL [⟨false, A, a, bsS⟩, ⟨false, B, b, bsI⟩, ⟨true, C, c, bsP⟩] = (pgC, 0, 0) := by
  unfold flatL
  show (cond (flatB [⟨false, A, a, bsS⟩, ⟨false, B, b, bsI⟩, ⟨true, C, c, bsP⟩] && decide (decodeE bsP = 0)) (flatGo (decoded bsP) _) _) = _
  rw [dec_P.1, dec_P.2]
  rw [show flatB [⟨false, A, a, bsS⟩, ⟨false, B, b, bsI⟩, ⟨true, C, c, bsP⟩] = true from rfl]
  show flatGo pgA [(1, ⟨false, B, b, bsI⟩), (0, ⟨false, A, a, bsS⟩)] = _
  rw [flatGo]
  unfold NV.okOn NV.d
  simp only [dec_I.1, dec_I.2, apply_I.1, apply_I.2]
  rw [flatGo]
  unfold NV.okOn NV.d
  simp only [dec_S.1, dec_S.2, apply_S.1, apply_S.2]
  rw [flatGo]
  rfl
theorem flat_2 (C D : Option Addr) (c d : Nat) : flatL [⟨true, C, c, bsP⟩, ⟨true, D, d, bsP⟩] = (Page.zero, 0, 112) := by
  unfold flatL
  show (cond (flatB [⟨true, C, c, bsP⟩, ⟨true, D, d, bsP⟩] && decide (decodeE bsP = 0)) (flatGo (decoded bsP) _) _) = _
  rw [dec_P.1, dec_P.2]
  rw [show flatB [⟨true, C, c, bsP⟩, ⟨true, D, d, bsP⟩] = true from rfl]
  show flatGo pgA [(0, ⟨true, C, c, bsP⟩)] = _
  rw [flatGo]
  unfold NV.okOn
  simp only [dec_true]
  rfl
theorem find_1 (A B C : Option Addr) (a b c : Nat) : findE [⟨false, A, a, bsS⟩, ⟨false, B, b, bsI⟩, ⟨true, C, c, bsP⟩] keyA = 0 ∧ findX [⟨false, A, a, bsS⟩, ⟨false, B, b, bsI⟩, ⟨true, C, c, bsP⟩] keyA = some itA := by
  unfold findE findX findFits
  rw [flat_1]
  have hc : pgC.covers keyA = true := by
    unfold Page.covers
    rw [show lt keyA pgC.low = false by rw [lt_data]; decide, show lt keyA pgC.high = true by rw [lt_data]; decide]; rfl
  simp only [hc]
  exact ⟨rfl, by rw [if_pos trivial]; exact find_A⟩
theorem find_2 (A B C : Option Addr) (a b c : Nat) : findE [⟨false, A, a, bsS⟩, ⟨false, B, b, bsI⟩, ⟨true, C, c, bsP⟩] keyB = 103 ∧ findX [⟨false, A, a, bsS⟩, ⟨false, B, b, bsI⟩, ⟨true, C, c, bsP⟩] keyB = none := by
  unfold findE findX findFits
  rw [flat_1]
  have hc : pgC.covers keyB = false := by
    unfold Page.covers
    rw [show lt keyB pgC.high = false by rw [lt_data]; decide]
    rw [show pgC.last = false from rfl, Bool.or_false, Bool.and_false]
  simp only [hc]
  exact ⟨rfl, rfl⟩
end Go.Proofs.YtjbdmaehomhdeaaGreat
