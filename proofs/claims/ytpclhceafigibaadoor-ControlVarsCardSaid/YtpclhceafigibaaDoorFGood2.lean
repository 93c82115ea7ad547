/- control.Good where the name is good: the value decides. -/
import Derived.Test.YtpclhceafigibaaDoorFGood0
namespace Go.Proofs.YtpclhceafigibaaDoor.PVars
set_option linter.unusedVariables false
set_option linter.unusedSimpArgs false
open Go.RowKit Go.Proofs.YtpclhceafigibaaDoorW.PrintWords Go.Proofs.YtpclhceafigibaaDoorW.PrintLast Go.Proofs.YtpclhceafigibaaDoorW.PrintMore
open Go.Proofs (PredAt FnGives encR)
set_option maxHeartbeats 4000000 in
theorem good_full (a b : ByteArray) (w : World) (h1 : 0 < a.size) (h2 : a.size ≤ 24) (h3 : b.size ≤ 64) (X : Int) (hX : Lib.idxFunc (fun r => !namedN r) true a = X) (hx : decide (X < 0) = true) (Y : Int) (hY : Lib.idxFunc (fun r => !plainN r) true b = Y) :
    Calls Tryd.prog 24 #[.agg #[.string a, .string b]] w fun e w' => e = .returned (.bool (decide (Y < 0))) ∧ Below w.heap.size w w' := by
  have d1 : decide ((0 : Int) < (a.size : Int)) = true := decide_eq_true (by omega)
  have d2 : decide ((a.size : Int) ≤ 24) = true := decide_eq_true (by omega)
  have d3 : decide ((b.size : Int) ≤ 64) = true := decide_eq_true (by omega)
  have HX := Go.Lib.hid hX
  clear hX
  have HY := Go.Lib.hid hY
  clear hY
  go_enter Tryd.func24, Tryd.ntmps24
  go_wp2
  go_region_with (first | (go_at_call 32; refine (not_calls _ _).mono ?_; rintro e w' ⟨rfl, rfl⟩) | (go_at_call_of 34 a; have hh := idx_named a X HX (w.heap.size + 1) w.heap.size (.string a) (.string b); refine (hh _ ?_ ?_ ?_ ?_ ?_).mono ?_; (focus simp); (focus go_simp); (focus (simp; omega)); (focus go_simp); (focus go_simp); rintro e w1 ⟨rfl, hb, c0, c1, hz⟩) | (go_at_call_of 34 b; have hh := idx_plain b Y HY; refine (hh _ _ ?_ ?_).mono ?_; (focus simp); (focus go_simp); rintro e w2 ⟨rfl, hb2⟩))
  all_goals go_wp2
  all_goals go_ret
  all_goals refine ⟨rfl, ?_⟩
  all_goals
    have k1 : Below w.heap.size w w1 := ((((Below.refl _ w).alloc (Nat.le_refl _) (Obj.cells #[Value.string a, Value.string b] 51)).alloc (by simp) (Obj.cells #[Value.func (Fn.func 31) #[] #[]] 63)).drew).trans (hb.mono (by simp <;> omega))
    exact (k1.alloc (Nat.le_of_lt hz) _).trans (hb2.mono (by simp <;> omega))
end Go.Proofs.YtpclhceafigibaaDoor.PVars
