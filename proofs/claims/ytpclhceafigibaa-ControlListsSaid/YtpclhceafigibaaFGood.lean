/- The contract of control.Good, in the form of the printed contracts: a variable is good just if its name has 1 to 24 bytes, all of them letters, digits, dots or underlines, and its value at most 64, all of them plain. No conditions. -/
import Derived.Test.YtpclhceafigibaaFGood1
import Derived.Test.YtpclhceafigibaaFGood2
namespace Go.Proofs.Ytpclhceafigibaa.PAll
set_option linter.unusedVariables false
set_option linter.unusedSimpArgs false
open Go.RowKit Go.Proofs.YtpclhceafigibaaW.PrintWords Go.Proofs.YtpclhceafigibaaW.PrintLast Go.Proofs.YtpclhceafigibaaW.PrintMore
open Go.Proofs (PredAt FnGives encR)
def control_Good.f (a0 a1 : ByteArray) : Option Bool := some (decide (0 < a0.size) && decide (a0.size ≤ 24) && decide (a1.size ≤ 64) && a0.data.toList.all namedB && a1.data.toList.all plainB)
theorem named_high (r : Nat) (h : 128 ≤ r) : namedN r = false := decide_eq_false (by omega)
theorem plain_high (r : Nat) (h : 128 ≤ r) : plainN r = false := decide_eq_false (by omega)
theorem control_Good.calls (a0_0 a0_1 : ByteArray) (r : Bool) (w : World) (h : control_Good.f a0_0 a0_1 = some r) :
    Calls Try.prog 13 #[.agg #[.string a0_0, .string a0_1]] w fun e w' => e = .returned (.bool r) ∧ Below w.heap.size w w' := by
  have hn := idxFunc_all namedN named_high a0_0
  have hp := idxFunc_all plainN plain_high a0_1
  unfold control_Good.f at h
  cases h
  by_cases h1 : a0_0.size = 0
  · rw [show decide (0 < a0_0.size) = false from decide_eq_false (by omega)]
    exact good_0 a0_0 a0_1 w h1
  rw [show decide (0 < a0_0.size) = true from decide_eq_true (by omega), Bool.true_and]
  by_cases h2 : a0_0.size ≤ 24
  · rw [decide_eq_true h2, Bool.true_and]
    by_cases h3 : a0_1.size ≤ 64
    · rw [decide_eq_true h3, Bool.true_and]
      show Calls Try.prog 13 #[.agg #[.string a0_0, .string a0_1]] w fun e w' => e = .returned (.bool ((a0_0.data.toList.all fun b => namedN b.toNat) && (a0_1.data.toList.all fun b => plainN b.toNat))) ∧ Below w.heap.size w w'
      rw [← hn, ← hp]
      cases hx : decide (Lib.idxFunc (fun r => !namedN r) true a0_0 < 0) with
      | false => exact good_named a0_0 a0_1 w (by omega) h2 h3 _ rfl hx
      | true => exact good_full a0_0 a0_1 w (by omega) h2 h3 _ rfl hx _ rfl
    · rw [decide_eq_false h3]
      exact good_64 a0_0 a0_1 w (by omega) h2 (by omega)
  · rw [decide_eq_false h2]
    exact good_24 a0_0 a0_1 w (by omega) (by omega)
end Go.Proofs.Ytpclhceafigibaa.PAll
