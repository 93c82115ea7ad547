/- The contract of control.Good, in the form of the printed contracts: a variable is good just if its name has 1 to 24 bytes, all of them letters, digits, dots or underlines, and its value at most 64, all of them plain. Told where it is good, and of no other variable. -/
import Derived.Test.YtpclhceafigibaaDoorFGood2
namespace Go.Proofs.YtpclhceafigibaaDoor.PVars
set_option linter.unusedVariables false
set_option linter.unusedSimpArgs false
open Go.RowKit Go.Proofs.YtpclhceafigibaaDoorW.PrintWords Go.Proofs.YtpclhceafigibaaDoorW.PrintLast Go.Proofs.YtpclhceafigibaaDoorW.PrintMore
open Go.Proofs (PredAt FnGives encR)
def goodV (a0 a1 : ByteArray) : Bool := decide (0 < a0.size) && decide (a0.size ≤ 24) && decide (a1.size ≤ 64) && a0.data.toList.all namedB && a1.data.toList.all plainB
def control_Good.f (a0 a1 : ByteArray) : Option Bool := if goodV a0 a1 = true then some true else none
theorem named_high (r : Nat) (h : 128 ≤ r) : namedN r = false := decide_eq_false (by omega)
theorem plain_high (r : Nat) (h : 128 ≤ r) : plainN r = false := decide_eq_false (by omega)
theorem control_Good.calls (a0_0 a0_1 : ByteArray) (r : Bool) (w : World) (h : control_Good.f a0_0 a0_1 = some r) :
    Calls Tryd.prog 24 #[.agg #[.string a0_0, .string a0_1]] w fun e w' => e = .returned (.bool r) ∧ Below w.heap.size w w' := by
  have hn := idxFunc_all namedN named_high a0_0
  have hp := idxFunc_all plainN plain_high a0_1
  unfold control_Good.f at h
  split at h
  · rename_i hg
    cases h
    unfold goodV at hg
    simp only [Bool.and_eq_true, decide_eq_true_eq] at hg
    obtain ⟨⟨⟨⟨h1, h2⟩, h3⟩, h4⟩, h5⟩ := hg
    have hY : decide (Lib.idxFunc (fun r => !plainN r) true a0_1 < 0) = true := by rw [hp]; exact h5
    rw [← hY]
    exact good_full a0_0 a0_1 w h1 h2 h3 _ rfl (by rw [hn]; exact h4) _ rfl
  · cases h
end Go.Proofs.YtpclhceafigibaaDoor.PVars
