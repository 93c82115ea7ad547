/- How variables are picked out, plainly. -/
import Derived.Test.YtpclhceafigibaaU6
import Derived.Test.YtpclhceafigibaaFPick
namespace Go.Proofs.Ytpclhceafigibaa.U
set_option linter.unusedVariables false
set_option linter.unusedSimpArgs false
open Go.RowKit Go.Proofs.YtpclhceafigibaaW.PrintWords Go.Proofs.YtpclhceafigibaaW.PrintLast Go.Proofs.YtpclhceafigibaaW.PrintMore Go.Proofs.Ytpclhceafigibaa.PAll

/-- The first one of a name. -/
def findN (l : List S41) (n : List UInt8) : Option S41 := l.find? fun x => x.f0.data.toList == n
def pickR (l : List S41) : List S41 → Option (List S41)
  | [] => some []
  | v :: r => (findN l v.f0.data.toList).bind fun x => (pickR l r).map (x :: ·)
def outPick (out : List S41) : Option (List S41) → List S41 × Bool
  | some r => (out ++ r, true)
  | none => ([], false)
/-- The inner loop, behind the one that was found: it ends. -/
theorem pick_found (l names : List S41) (i : Nat) (hl : l.length ≤ 1048576) (out : List S41) (R : List S41 × Bool) (k0 : Nat) (hk : k0 ≤ l.length)
    (h : Ev (fun k => foliotref19_Pick.l0 k l names out (wrap64 ((i : Int) + 1))) R) : Ev (fun k => foliotref19_Pick.l1 k l names out (i : Int) true (k0 : Int)) R := by
  apply Ev.step
  · intro k; rw [foliotref19_Pick.l1]
  have h2 : Ev (fun k => foliotref19_Pick.j2 k l names out (i : Int) true (k0 : Int) false) R := by
    apply Ev.step
    · intro k; rw [foliotref19_Pick.j2]
    simp only [Bool.false_eq_true, if_false, if_true]
    exact h
  by_cases hc : (k0 : Int) < (l.length : Int)
  · exact Ev.pos hc h2
  · exact Ev.neg hc h2
theorem pick_inner (l names : List S41) (i : Nat) (hi : i < names.length) (hn : names.length ≤ 1048576) (hl : l.length ≤ 1048576) (out : List S41) (ho : out.length ≤ 1048576) (R : List S41 × Bool) : ∀ d k0 : Nat, k0 + d = l.length →
    (∀ x, findN (l.drop k0) names[i].f0.data.toList = some x → Ev (fun k => foliotref19_Pick.l0 k l names (out ++ [x]) (wrap64 ((i : Int) + 1))) R) →
    (findN (l.drop k0) names[i].f0.data.toList = none → R = ([], false)) →
    Ev (fun k => foliotref19_Pick.l1 k l names out (i : Int) false (k0 : Int)) R
  | 0, k0, h, h1, h2 => by
    rw [h2 (by rw [List.drop_of_length_le (by omega)]; rfl)]
    apply Ev.step
    · intro k; rw [foliotref19_Pick.l1]
    refine Ev.neg (by omega) ?_
    apply Ev.step
    · intro k; rw [foliotref19_Pick.j2]
    simp only [Bool.false_eq_true, if_false]
    exact Ev.now _
  | d + 1, k0, h, h1, h2 => by
    have hk : k0 < l.length := by omega
    have hc := drop_cons l k0 hk
    have hx : (⟨l[k0].f0, l[k0].f1⟩ : S41) = l[k0] := rfl
    apply Ev.step
    · intro k; rw [foliotref19_Pick.l1]
    refine Ev.pos (by omega) ?_
    apply Ev.step
    · intro k; rw [foliotref19_Pick.j2]
    simp only [Bool.not_false, if_true, rd41 l k0 hk, rd41 names i hi, Lib.toList_data, hx, w64_succ k0 (by omega)]
    refine Ev.pos (by omega) (Ev.pos (by omega) (Ev.pos (by omega) (Ev.pos (by omega) ?_)))
    by_cases he : l[k0].f0.data.toList = names[i].f0.data.toList
    · refine Ev.pos he (Ev.pos (by omega) ?_)
      have hf : findN (l.drop k0) names[i].f0.data.toList = some l[k0] := by
        rw [hc]; unfold findN; rw [List.find?_cons, he]; simp
      exact pick_found l names i hl _ R (k0 + 1) (by omega) (h1 _ hf)
    · refine Ev.neg he ?_
      have hf : findN (l.drop k0) names[i].f0.data.toList = findN (l.drop (k0 + 1)) names[i].f0.data.toList := by
        rw [hc]; unfold findN; rw [List.find?_cons]; simp only [beq_eq_false_iff_ne.2 he]
      exact pick_inner l names i hi hn hl out ho R d (k0 + 1) (by omega) (fun x hx => h1 x (by rw [hf]; exact hx)) (fun hx => h2 (by rw [hf]; exact hx))
theorem pick_outer (l names : List S41) (hn : names.length ≤ 1048576) (hl : l.length ≤ 1048576) : ∀ (d i : Nat) (out : List S41), i + d = names.length → out.length ≤ i →
    Ev (fun k => foliotref19_Pick.l0 k l names out (i : Int)) (outPick out (pickR l (names.drop i)))
  | 0, i, out, h, ho => by
    refine Ev.ends fun k => ?_
    rw [foliotref19_Pick.l0, if_neg (by omega), List.drop_of_length_le (by omega)]
    simp [pickR, outPick]
  | d + 1, i, out, h, ho => by
    have hi : i < names.length := by omega
    apply Ev.step
    · intro k; rw [foliotref19_Pick.l0]
    refine Ev.pos (by omega) ?_
    rw [drop_cons names i hi, pickR]
    refine pick_inner l names i hi hn hl out (by omega) _ l.length 0 (by omega) (fun x hx => ?_) (fun hx => ?_)
    · rw [List.drop_zero] at hx
      have := pick_outer l names hn hl d (i + 1) (out ++ [x]) (by omega) (by simp; omega)
      rw [w64_succ i (by omega), hx]
      have e : outPick out ((some x).bind fun x => (pickR l (names.drop (i + 1))).map (x :: ·)) = outPick (out ++ [x]) (pickR l (names.drop (i + 1))) := by
        cases pickR l (names.drop (i + 1)) with
        | none => rfl
        | some r => simp [outPick]
      rw [e]; exact this
    · rw [List.drop_zero] at hx
      rw [hx]
      rfl
theorem pick_ref (l names : List S41) (hn : names.length ≤ 1048576) (hl : l.length ≤ 1048576) : Ev (fun k => foliotref19_Pick.f k l names) (if names.length = 0 then (l, true) else outPick [] (pickR l names)) := by
  simp only [foliotref19_Pick.f, Option.bind_some, List.length_nil, Nat.zero_add, List.nil_append]
  by_cases h0 : names.length = 0
  · rw [if_pos h0]
    exact Ev.pos (by omega) (Ev.pos (by omega) (Ev.now _))
  · rw [if_neg h0]
    refine Ev.neg (by omega) ?_
    have := pick_outer l names hn hl names.length 0 [] (by omega) (by simp)
    rw [List.drop_zero] at this
    exact this

/-! ### beside the program's -/
theorem find_41 (l : List S39) (n : List UInt8) : findN (l.map to41) n = (l.find? fun x => x.f0.data.toList == n).map to41 := by
  unfold findN
  induction l with
  | nil => rfl
  | cons x l ih =>
    rw [List.map_cons, List.find?_cons, List.find?_cons]
    show (match (x.f0.data.toList == n) with | true => some (to41 x) | false => _) = _
    cases x.f0.data.toList == n
    · exact ih
    · rfl
theorem pick_41 (l : List S39) : ∀ names : List S39, pickR (l.map to41) (names.map to41) = (pickAll l names).map (List.map to41)
  | [] => rfl
  | v :: r => by
    rw [List.map_cons, pickR, pickAll, pick_41 l r]
    show (findN (l.map to41) v.f0.data.toList).bind _ = _
    rw [find_41]
    cases l.find? fun x => x.f0.data.toList == v.f0.data.toList with
    | none => rfl
    | some x => cases pickAll l r <;> rfl
end Go.Proofs.Ytpclhceafigibaa.U
