/- Lists of variables, plainly: all good ones are written; lists are turned and held against each other. -/
import Derived.Test.YtpclhceafigibaaDoorU1
import Derived.Test.YtpclhceafigibaaDoorPVarsx7
namespace Go.Proofs.YtpclhceafigibaaDoor.U
set_option linter.unusedVariables false
set_option linter.unusedSimpArgs false
open Go.RowKit Go.Proofs.YtpclhceafigibaaDoorW.PrintWords Go.Proofs.YtpclhceafigibaaDoorW.PrintLast Go.Proofs.YtpclhceafigibaaDoorW.PrintMore Go.Proofs.YtpclhceafigibaaDoor.PVars
abbrev NV := List UInt8 × List UInt8
def v51 (x : S51) : NV := (x.f0.data.toList, x.f1.data.toList)
def v54 (x : S54) : NV := (x.f0.data.toList, x.f1.data.toList)
def goodS (p : NV) : Bool := decide (0 < p.1.length) && decide (p.1.length ≤ 24) && decide (p.2.length ≤ 64) && p.1.all namedB && p.2.all plainB
def quotedS (v : List UInt8) : Bool := v.any fun b => b == 32 || b == 44
def encS (p : NV) : List UInt8 := if p.2 = [] then p.1 else if quotedS p.2 = true then p.1 ++ ([61, 34] ++ p.2 ++ [34]) else p.1 ++ ([61] ++ p.2)
theorem encS_len {p : NV} (h : goodS p = true) : (encS p).length ≤ 91 := by
  simp only [goodS, Bool.and_eq_true, decide_eq_true_eq] at h
  unfold encS
  split
  · omega
  · split <;> simp <;> omega

/-- An element's texts. -/
theorem rd54 (xs : List S54) (i : Nat) (h : i < xs.length) : rd_T54 xs (i : Int) = xs[i] := by
  unfold rd_T54; simp [List.getD_eq_getElem?_getD, List.getElem?_eq_getElem h]
theorem rd51 (xs : List S51) (i : Nat) (h : i < xs.length) : rd_T51 xs (i : Int) = xs[i] := by
  unfold rd_T51; simp [List.getD_eq_getElem?_getD, List.getElem?_eq_getElem h]
theorem good_prog (a b : List UInt8) (h : goodS (a, b) = true) : control_Good.f (B a) (B b) = some true := by
  have : goodV (B a) (B b) = true := by unfold goodV; unfold goodS at h; rw [B_size, B_size, B_data, B_data]; exact h
  unfold control_Good.f
  rw [if_pos this]
theorem indexAny_pos (s chars : List UInt8) : (0 ≤ Lib.indexAny s chars) ↔ s.any (fun b => chars.contains b) = true := by
  induction s with
  | nil => simp [Lib.indexAny]
  | cons b l ih =>
    rw [List.any_cons]
    have hge := Lib.indexAny_ge chars l
    unfold Lib.indexAny
    cases hb : chars.contains b
    · rw [Bool.false_or, ← ih]
      simp only [Bool.false_eq_true, if_false]
      split
      · rename_i h; have := beq_iff_eq.1 h; omega
      · rename_i h; have : Lib.indexAny l chars ≠ -1 := fun e => h (beq_iff_eq.2 e); omega
    · simp
theorem containsAny_q (v : List UInt8) : Lib.containsAny v [32, 44] = quotedS v := by
  unfold Lib.containsAny quotedS
  have e : (fun b : UInt8 => [(32 : UInt8), 44].contains b) = fun b => b == 32 || b == 44 := by funext b; simp only [List.contains, List.elem]; cases b == 32 <;> cases b == 44 <;> rfl
  rw [← e, Bool.eq_iff_iff, decide_eq_true_eq]
  exact indexAny_pos v [32, 44]
theorem contains_prog (v : List UInt8) (hp : v.all plainB = true) (hl : v.length < 4294967281) : strings_ContainsAny.f (B v) (B [32, 44]) = some (quotedS v) := by
  unfold strings_ContainsAny.f asciiB
  rw [B_size, B_size, B_data, B_data, if_pos, containsAny_q]
  refine ⟨?_, rfl, hl, by decide⟩
  rw [List.all_eq_true] at hp ⊢
  intro b hb
  have := hp b hb
  simp only [plainB, plainN, decide_eq_true_eq] at this
  simp only [decide_eq_true_eq]
  omega
def joinS (l : List (List UInt8)) : List UInt8 := Lib.join l [44, 32]
theorem joinS_nil : joinS [] = [] := rfl
theorem joinS_one (x : List UInt8) : joinS [x] = x := by simp [joinS, Lib.join, List.intercalate]
theorem joinS_cons (x y : List UInt8) (r : List (List UInt8)) : joinS (x :: y :: r) = x ++ ([44, 32] ++ joinS (y :: r)) := by simp [joinS, Lib.join, List.intercalate]
theorem joinS_len (l : List (List UInt8)) (h : ∀ o ∈ l, o.length ≤ 91) : (joinS l).length ≤ 93 * l.length := by
  induction l with
  | nil => simp [joinS_nil]
  | cons x r ih =>
    have hx := h x (by simp)
    have hr := ih fun o ho => h o (by simp [ho])
    cases r with
    | nil => rw [joinS_one]; simp; omega
    | cons y r => rw [joinS_cons]; simp at hr ⊢; omega
theorem join_prog (out : List (List UInt8)) (h : ∀ o ∈ out, o.length ≤ 91) (hl : out.length ≤ 1048576) : strings_Join.f (out.map B) (B [44, 32]) = some (B (joinS out)) := by
  have := joinS_len out h
  unfold strings_Join.f
  have e : (out.map B).map (fun x => x.data.toList) = out := by rw [List.map_map]; exact (List.map_congr_left (fun x _ => B_data x)).trans (List.map_id out)
  rw [e, B_data, if_pos (show (Lib.join out [44, 32]).length ≤ 140737488355328 ∧ (out.map B).length ≤ 140737488355328 by unfold joinS at this; rw [List.length_map]; omega)]
  rfl

def resP (out : List (List UInt8)) (l : List NV) : ByteArray × Int := if l.all goodS = true then (B (joinS (out ++ l.map encS)), 0) else (B [], 21)

theorem list_prog0 (xs : List S51) (hx : xs.length ≤ 1048576) (hall : (xs.map v51).all goodS = true) : ∀ (d i : Nat) (out : List (List UInt8)), i + d = xs.length → out.length = i → (∀ o ∈ out, o.length ≤ 91) →
    Ev (fun k => control_List.l0 k (out.map B) xs (xs.length : Int) (i : Int)) (resP out ((xs.drop i).map v51))
  | 0, i, out, h, ho, hb => by
    refine Ev.ends fun k => ?_
    rw [control_List.l0, if_neg (by omega), List.drop_of_length_le (by omega), show ((⟨#[44, 32]⟩ : ByteArray)) = B [44, 32] from rfl, join_prog out hb (by omega)]
    simp [resP]
  | d + 1, i, out, h, ho, hb => by
    have hi : i < xs.length := by omega
    rw [drop_cons xs i hi, List.map_cons]
    obtain ⟨n, hn⟩ : ∃ n, xs[i].f0.data.toList = n := ⟨_, rfl⟩
    obtain ⟨v, hv⟩ : ∃ v, xs[i].f1.data.toList = v := ⟨_, rfl⟩
    have e0 : (rd_T51 xs (i : Int)).f0 = B n := by rw [rd51 xs i hi, ← hn]; exact B_of _
    have e1 : (rd_T51 xs (i : Int)).f1 = B v := by rw [rd51 xs i hi, ← hv]; exact B_of _
    have ev : v51 xs[i] = (n, v) := by unfold v51; rw [hn, hv]
    have hg : goodS (n, v) = true := by rw [← ev]; exact List.all_eq_true.1 hall _ (List.mem_map_of_mem (List.getElem_mem hi))
    rw [ev]
    apply Ev.step
    · intro k; rw [control_List.l0]
    simp only [e0, e1, if_pos (show (i : Int) < (xs.length : Int) by omega), if_pos (show (0 : Int) ≤ (i : Int) by omega), good_prog n v hg, Option.bind_some]
    · have hl := encS_len hg
      have hn24 : n.length ≤ 24 ∧ v.length ≤ 64 := by simp only [goodS, Bool.and_eq_true, decide_eq_true_eq] at hg; omega
      have hpl : v.all plainB = true := by simp only [goodS, Bool.and_eq_true] at hg; exact hg.2
      have fin : ∀ o : List UInt8, o = encS (n, v) → Ev (fun k => control_List.l0 k (out.map B ++ [B o]) xs (xs.length : Int) ((i + 1 : Nat) : Int)) (resP out ((n, v) :: (xs.drop (i + 1)).map v51)) := by
        intro o e
        have := list_prog0 xs hx hall d (i + 1) (out ++ [o]) (by omega) (by simp; omega) (by
          intro z hz
          rcases List.mem_append.1 hz with hz | hz
          · exact hb z hz
          · simp at hz; rw [hz, e]; exact hl)
        rw [List.map_append] at this
        have e2 : resP (out ++ [o]) ((xs.drop (i + 1)).map v51) = resP out ((n, v) :: (xs.drop (i + 1)).map v51) := by
          unfold resP
          rw [List.all_cons, hg, Bool.true_and, e]
          simp
        rw [← e2]; exact this
      simp only [if_true, show ((⟨#[32, 44]⟩ : ByteArray)) = B [32, 44] from rfl, contains_prog v hpl (by omega), Option.bind_some, show ((⟨#[61]⟩ : ByteArray)) = B [61] from rfl, show ((⟨#[61, 34]⟩ : ByteArray)) = B [61, 34] from rfl, show ((⟨#[34]⟩ : ByteArray)) = B [34] from rfl, B_append, B_size, B_toList, List.length_map,
        if_pos (show out.length < 8796093022208 by omega), w64_succ i (by omega)]
      cases hq : quotedS v
      · simp only [Bool.false_eq_true, if_false]
        by_cases hv0 : v = []
        · refine Ev.pos hv0 (Ev.pos (by omega) ?_)
          exact fin _ (by simp [encS, hv0])
        · refine Ev.neg hv0 (Ev.pos (by omega) (Ev.pos (by simp; omega) ?_))
          exact fin _ (by simp [encS, hv0, hq])
      · have hv0 : v ≠ [] := by rintro rfl; simp [quotedS] at hq
        simp only [if_true]
        refine Ev.pos (by omega) (Ev.pos (by simp; omega) (Ev.pos (by simp; omega) ?_))
        exact fin _ (by simp [encS, hv0, hq])

theorem list_prog (xs : List S51) (hx : xs.length ≤ 1048576) (hall : (xs.map v51).all goodS = true) : Ev (fun k => control_List.f k xs) (resP [] (xs.map v51)) := by
  have := list_prog0 xs hx hall xs.length 0 [] (by omega) rfl (by simp)
  rw [List.drop_zero] at this
  exact this
def to54 (x : S51) : S54 := ⟨x.f0, x.f1⟩
def to51 (x : S54) : S51 := ⟨x.f0, x.f1⟩
theorem ours_ev (l : List S54) (hl : l.length ≤ 4398046511103) : ∀ d i : Nat, i + d = l.length → Ev (fun k => foliotlaw19_ours.l0 k l ((l.take i).map to51) (i : Int)) (l.map to51)
  | 0, i, h => by
    refine Ev.ends fun k => ?_
    rw [foliotlaw19_ours.l0, if_neg (by omega), List.take_of_length_le (by omega)]
  | d + 1, i, h => by
    have hi : i < l.length := by omega
    refine Ev.eqs (fun k => ?_) (ours_ev l hl d (i + 1) (by omega))
    rw [foliotlaw19_ours.l0, if_pos (by omega), if_pos (by omega), if_pos (by simp; omega), w64_succ i (by omega), List.take_succ_eq_append_getElem hi, rd54 l i hi, List.map_append]
    rfl
theorem ours_f (l : List S54) (hl : l.length ≤ 4398046511103) : Ev (fun k => foliotlaw19_ours.f k l) (l.map to51) := ours_ev l hl l.length 0 (by omega)
/-- Two lists of the same variables are told to be the same. -/
theorem same_ev (a b : List S51) (ha : a.length ≤ 4398046511103) (hab : a.map v51 = b.map v51) : ∀ d i : Nat, i + d = a.length → Ev (fun k => foliotlaw19_sameVars.l0 k a b (i : Int)) true
  | 0, i, h => by
    refine Ev.ends fun k => ?_
    rw [foliotlaw19_sameVars.l0, if_neg (by omega)]
  | d + 1, i, h => by
    have hi : i < a.length := by omega
    have hl : a.length = b.length := by simpa using congrArg List.length hab
    have he : v51 a[i] = v51 (b[i]'(by omega)) := by
      have h1 : (a.map v51)[i]? = (b.map v51)[i]? := by rw [hab]
      rw [List.getElem?_map, List.getElem?_map, List.getElem?_eq_getElem hi, List.getElem?_eq_getElem (by omega)] at h1
      simpa using h1
    have e0 : a[i].f0.toList = (b[i]'(by omega)).f0.toList := by rw [Lib.toList_data, Lib.toList_data]; exact congrArg Prod.fst he
    have e1 : a[i].f1.toList = (b[i]'(by omega)).f1.toList := by rw [Lib.toList_data, Lib.toList_data]; exact congrArg Prod.snd he
    refine Ev.eqs (fun k => ?_) (same_ev a b ha hab d (i + 1) (by omega))
    rw [foliotlaw19_sameVars.l0, if_pos (by omega), if_pos (by omega), if_pos (by omega), rd51 a i hi, rd51 b i (by omega), e0, e1, if_neg (by simp), w64_succ i (by omega)]
theorem same_f (a b : List S51) (ha : a.length ≤ 4398046511103) (hab : a.map v51 = b.map v51) : Ev (fun k => foliotlaw19_sameVars.f k a b) true := by
  have hl : a.length = b.length := by simpa using congrArg List.length hab
  simp only [foliotlaw19_sameVars.f]
  exact Ev.pos (by omega) (same_ev a b ha hab a.length 0 (by omega))
end Go.Proofs.YtpclhceafigibaaDoor.U
