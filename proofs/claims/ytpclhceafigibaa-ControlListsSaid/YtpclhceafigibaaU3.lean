/- The program's List, plainly. -/
import Derived.Test.YtpclhceafigibaaU2
namespace Go.Proofs.Ytpclhceafigibaa.U
set_option linter.unusedVariables false
set_option linter.unusedSimpArgs false
open Go.RowKit Go.Proofs.YtpclhceafigibaaW.PrintWords Go.Proofs.YtpclhceafigibaaW.PrintLast Go.Proofs.YtpclhceafigibaaW.PrintMore Go.Proofs.Ytpclhceafigibaa.PAll

theorem good_prog (a b : List UInt8) : control_Good.f (B a) (B b) = some (goodS (a, b)) := by
  unfold control_Good.f goodS
  rw [B_size, B_size, B_data, B_data]
theorem indexAny_pos (s chars : List UInt8) : (0 ≤ Lib.indexAny s chars) ↔ s.any (fun b => chars.contains b) = true := by
  induction s with
  | nil => simp [Lib.indexAny]
  | cons b l ih =>
    rw [List.any_cons]
    have hge := Lib.indexAny_ge chars l
    unfold Lib.indexAny
    cases hb : chars.contains b
    · rw [Bool.false_or, ← ih]
      simp only [Bool.false_eq_true, if_false]
      split
      · rename_i h; have := beq_iff_eq.1 h; omega
      · rename_i h; have : Lib.indexAny l chars ≠ -1 := fun e => h (beq_iff_eq.2 e); omega
    · simp
theorem containsAny_q (v : List UInt8) : Lib.containsAny v [32, 44] = quotedS v := by
  unfold Lib.containsAny quotedS
  have e : (fun b : UInt8 => [(32 : UInt8), 44].contains b) = fun b => b == 32 || b == 44 := by funext b; simp only [List.contains, List.elem]; cases b == 32 <;> cases b == 44 <;> rfl
  rw [← e, Bool.eq_iff_iff, decide_eq_true_eq]
  exact indexAny_pos v [32, 44]
theorem contains_prog (v : List UInt8) (hp : v.all plainB = true) (hl : v.length < 4294967281) : strings_ContainsAny.f (B v) (B [32, 44]) = some (quotedS v) := by
  unfold strings_ContainsAny.f asciiB
  rw [B_size, B_size, B_data, B_data, if_pos, containsAny_q]
  refine ⟨?_, rfl, hl, by decide⟩
  rw [List.all_eq_true] at hp ⊢
  intro b hb
  have := hp b hb
  simp only [plainB, plainN, decide_eq_true_eq] at this
  simp only [decide_eq_true_eq]
  omega
def joinS (l : List (List UInt8)) : List UInt8 := Lib.join l [44, 32]
theorem joinS_nil : joinS [] = [] := rfl
theorem joinS_one (x : List UInt8) : joinS [x] = x := by simp [joinS, Lib.join, List.intercalate]
theorem joinS_cons (x y : List UInt8) (r : List (List UInt8)) : joinS (x :: y :: r) = x ++ ([44, 32] ++ joinS (y :: r)) := by simp [joinS, Lib.join, List.intercalate]
theorem joinS_len (l : List (List UInt8)) (h : ∀ o ∈ l, o.length ≤ 91) : (joinS l).length ≤ 93 * l.length := by
  induction l with
  | nil => simp [joinS_nil]
  | cons x r ih =>
    have hx := h x (by simp)
    have hr := ih fun o ho => h o (by simp [ho])
    cases r with
    | nil => rw [joinS_one]; simp; omega
    | cons y r => rw [joinS_cons]; simp at hr ⊢; omega
theorem join_prog (out : List (List UInt8)) (h : ∀ o ∈ out, o.length ≤ 91) (hl : out.length ≤ 1048576) : strings_Join.f (out.map B) (B [44, 32]) = some (B (joinS out)) := by
  have := joinS_len out h
  unfold strings_Join.f
  have e : (out.map B).map (fun x => x.data.toList) = out := by rw [List.map_map]; exact (List.map_congr_left (fun x _ => B_data x)).trans (List.map_id out)
  rw [e, B_data, if_pos (show (Lib.join out [44, 32]).length ≤ 140737488355328 ∧ (out.map B).length ≤ 140737488355328 by unfold joinS at this; rw [List.length_map]; omega)]
  rfl

def resP (out : List (List UInt8)) (l : List NV) : ByteArray × Int := if l.all goodS = true then (B (joinS (out ++ l.map encS)), 0) else (B [], 21)

theorem list_prog0 (xs : List S39) (hx : xs.length ≤ 1048576) : ∀ (d i : Nat) (out : List (List UInt8)), i + d = xs.length → out.length = i → (∀ o ∈ out, o.length ≤ 91) →
    Ev (fun k => control_List.l0 k (out.map B) xs (xs.length : Int) (i : Int)) (resP out ((xs.drop i).map v39))
  | 0, i, out, h, ho, hb => by
    refine Ev.ends fun k => ?_
    rw [control_List.l0, if_neg (by omega), List.drop_of_length_le (by omega), show ((⟨#[44, 32]⟩ : ByteArray)) = B [44, 32] from rfl, join_prog out hb (by omega)]
    simp [resP]
  | d + 1, i, out, h, ho, hb => by
    have hi : i < xs.length := by omega
    rw [drop_cons xs i hi, List.map_cons]
    obtain ⟨n, hn⟩ : ∃ n, xs[i].f0.data.toList = n := ⟨_, rfl⟩
    obtain ⟨v, hv⟩ : ∃ v, xs[i].f1.data.toList = v := ⟨_, rfl⟩
    have e0 : (rd_T39 xs (i : Int)).f0 = B n := by rw [rd39 xs i hi, ← hn]; exact B_of _
    have e1 : (rd_T39 xs (i : Int)).f1 = B v := by rw [rd39 xs i hi, ← hv]; exact B_of _
    have ev : v39 xs[i] = (n, v) := by unfold v39; rw [hn, hv]
    rw [ev]
    apply Ev.step
    · intro k; rw [control_List.l0]
    simp only [e0, e1, if_pos (show (i : Int) < (xs.length : Int) by omega), if_pos (show (0 : Int) ≤ (i : Int) by omega), good_prog, Option.bind_some]
    cases hg : goodS (n, v)
    · simp only [Bool.false_eq_true, if_false, resP, List.all_cons, hg, Bool.false_and]
      exact Ev.now _
    · have hl := encS_len hg
      have hn24 : n.length ≤ 24 ∧ v.length ≤ 64 := by simp only [goodS, Bool.and_eq_true, decide_eq_true_eq] at hg; omega
      have hpl : v.all plainB = true := by simp only [goodS, Bool.and_eq_true] at hg; exact hg.2
      have fin : ∀ o : List UInt8, o = encS (n, v) → Ev (fun k => control_List.l0 k (out.map B ++ [B o]) xs (xs.length : Int) ((i + 1 : Nat) : Int)) (resP out ((n, v) :: (xs.drop (i + 1)).map v39)) := by
        intro o e
        have := list_prog0 xs hx d (i + 1) (out ++ [o]) (by omega) (by simp; omega) (by
          intro z hz
          rcases List.mem_append.1 hz with hz | hz
          · exact hb z hz
          · simp at hz; rw [hz, e]; exact hl)
        rw [List.map_append] at this
        have e2 : resP (out ++ [o]) ((xs.drop (i + 1)).map v39) = resP out ((n, v) :: (xs.drop (i + 1)).map v39) := by
          unfold resP
          rw [List.all_cons, hg, Bool.true_and, e]
          simp
        rw [← e2]; exact this
      simp only [if_true, show ((⟨#[32, 44]⟩ : ByteArray)) = B [32, 44] from rfl, contains_prog v hpl (by omega), Option.bind_some, show ((⟨#[61]⟩ : ByteArray)) = B [61] from rfl, show ((⟨#[61, 34]⟩ : ByteArray)) = B [61, 34] from rfl, show ((⟨#[34]⟩ : ByteArray)) = B [34] from rfl, B_append, B_size, B_toList, List.length_map,
        if_pos (show out.length < 8796093022208 by omega), w64_succ i (by omega)]
      cases hq : quotedS v
      · simp only [Bool.false_eq_true, if_false]
        by_cases hv0 : v = []
        · refine Ev.pos hv0 (Ev.pos (by omega) ?_)
          exact fin _ (by simp [encS, hv0])
        · refine Ev.neg hv0 (Ev.pos (by omega) (Ev.pos (by simp; omega) ?_))
          exact fin _ (by simp [encS, hv0, hq])
      · have hv0 : v ≠ [] := by rintro rfl; simp [quotedS] at hq
        simp only [if_true]
        refine Ev.pos (by omega) (Ev.pos (by simp; omega) (Ev.pos (by simp; omega) ?_))
        exact fin _ (by simp [encS, hv0, hq])

theorem list_prog (xs : List S39) (hx : xs.length ≤ 1048576) : Ev (fun k => control_List.f k xs) (resP [] (xs.map v39)) := by
  have := list_prog0 xs hx xs.length 0 [] (by omega) rfl (by simp)
  rw [List.drop_zero] at this
  exact this

/-- Both are the same. -/
theorem listS_false (l : List NV) : listS false l = if l.all goodS = true then some ((l.map fun p => [44, 32] ++ encS p).flatten) else none := by
  induction l with
  | nil => rfl
  | cons p r ih =>
    rw [listS, ih, List.all_cons]
    cases goodS p
    · rfl
    · cases r.all goodS <;> simp
theorem joinS_flat (x : List UInt8) (r : List (List UInt8)) : joinS (x :: r) = x ++ (r.map fun o => [44, 32] ++ o).flatten := by
  induction r generalizing x with
  | nil => rw [joinS_one]; simp
  | cons y r ih => rw [joinS_cons, ih]; simp
theorem listS_true (l : List NV) : listS true l = if l.all goodS = true then some (joinS (l.map encS)) else none := by
  cases l with
  | nil => rfl
  | cons p r =>
    rw [listS, listS_false, List.all_cons]
    cases goodS p
    · rfl
    · cases r.all goodS
      · rfl
      · simp only [if_true, Bool.and_self, Option.map_some, List.map_cons, joinS_flat, List.map_map]
        rfl
theorem res_same (l : List NV) : resL [] (listS true l) = resP [] l := by
  rw [listS_true]
  unfold resP
  cases l.all goodS
  · rfl
  · rfl
theorem list_ref_f (xs : List S41) (hx : xs.length ≤ 1048576) (hs : ∀ x ∈ xs, x.f0.size ≤ 140737488351232 ∧ x.f1.size ≤ 140737488351232) : Ev (fun k => foliotref19_List.f k xs) (resP [] (xs.map v41)) := by
  have := list_ref xs hx hs xs.length 0 [] (by omega) (by simp)
  rw [List.drop_zero, show ((0 : Nat) == 0) = true from rfl, res_same] at this
  exact this
end Go.Proofs.Ytpclhceafigibaa.U
