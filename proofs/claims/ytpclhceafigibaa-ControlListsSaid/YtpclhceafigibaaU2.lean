/- Variables as pairs of texts, when they are good, how they are written; the document's List. -/
import Derived.Test.YtpclhceafigibaaU1
import Derived.Test.YtpclhceafigibaaPAllx3
namespace Go.Proofs.Ytpclhceafigibaa.U
set_option linter.unusedVariables false
set_option linter.unusedSimpArgs false
open Go.RowKit Go.Proofs.YtpclhceafigibaaW.PrintWords Go.Proofs.YtpclhceafigibaaW.PrintLast Go.Proofs.YtpclhceafigibaaW.PrintMore Go.Proofs.Ytpclhceafigibaa.PAll

abbrev NV := List UInt8 × List UInt8
def v39 (x : S39) : NV := (x.f0.data.toList, x.f1.data.toList)
def v41 (x : S41) : NV := (x.f0.data.toList, x.f1.data.toList)
def goodS (p : NV) : Bool := decide (0 < p.1.length) && decide (p.1.length ≤ 24) && decide (p.2.length ≤ 64) && p.1.all namedB && p.2.all plainB
def quotedS (v : List UInt8) : Bool := v.any fun b => b == 32 || b == 44
def encS (p : NV) : List UInt8 := if p.2 = [] then p.1 else if quotedS p.2 = true then p.1 ++ ([61, 34] ++ p.2 ++ [34]) else p.1 ++ ([61] ++ p.2)
def listS : Bool → List NV → Option (List UInt8)
  | _, [] => some []
  | first, p :: r => if goodS p = true then (listS false r).map (fun t => (if first = true then [] else [44, 32]) ++ (encS p ++ t)) else none
def resL (acc : List UInt8) : Option (List UInt8) → ByteArray × Int
  | some t => (B (acc ++ t), 0)
  | none => (B [], 21)

theorem name_ev (l : List UInt8) (hl : l.length < 9223372036854775807) : ∀ d i : Nat, i + d = l.length →
    Ev (fun k => foliotref19_name.l0 k (B l) (i : Int)) ((l.drop i).all namedB && (decide (1 ≤ l.length) && decide (l.length ≤ 24)))
  | 0, i, h => by
    refine Ev.ends fun k => ?_
    rw [foliotref19_name.l0, B_size, if_neg (by omega), List.drop_of_length_le (by omega)]
    simp only [List.all_nil, Bool.true_and]
    by_cases h1 : (l.length : Int) ≥ 1
    · rw [if_pos h1, decide_eq_true (show 1 ≤ l.length by omega), Bool.true_and]
      congr 1
      simp
      omega
    · rw [if_neg h1, decide_eq_false (show ¬ 1 ≤ l.length by omega), Bool.false_and]
  | d + 1, i, h => by
    have hi : i < l.length := by omega
    have hb := bt_B l i hi
    have h256 := bt_lt l i hi
    rw [drop_cons l i hi, List.all_cons]
    cases hn : namedB l[i]
    · refine Ev.ends fun k => ?_
      rw [foliotref19_name.l0, B_size, if_pos (by omega), if_pos (by omega), hb]
      simp only [namedB, namedN, decide_eq_false_iff_not] at hn
      repeat' split
      all_goals first | rfl | (exfalso; omega)
    · rw [Bool.true_and]
      refine Ev.eqs (fun k => ?_) (name_ev l hl d (i + 1) (by omega))
      rw [foliotref19_name.l0, B_size, if_pos (by omega), if_pos (by omega), hb, w64_succ i (by omega)]
      simp only [namedB, namedN, decide_eq_true_eq] at hn
      repeat' split
      all_goals first | rfl | (exfalso; omega)

theorem value_ev (l : List UInt8) (hl : l.length < 9223372036854775807) : ∀ d i : Nat, i + d = l.length →
    Ev (fun k => foliotref19_value.l0 k (B l) (i : Int)) ((l.drop i).all plainB && decide (l.length ≤ 64))
  | 0, i, h => by
    refine Ev.ends fun k => ?_
    rw [foliotref19_value.l0, B_size, if_neg (by omega), List.drop_of_length_le (by omega)]
    simp only [List.all_nil, Bool.true_and]
    congr 1
    simp
    omega
  | d + 1, i, h => by
    have hi : i < l.length := by omega
    have hb := bt_B l i hi
    have h256 := bt_lt l i hi
    rw [drop_cons l i hi, List.all_cons]
    cases hn : plainB l[i]
    · refine Ev.ends fun k => ?_
      rw [foliotref19_value.l0, B_size, if_pos (by omega), if_pos (by omega), hb]
      simp only [plainB, plainN, decide_eq_false_iff_not] at hn
      repeat' split
      all_goals first | rfl | (exfalso; omega)
    · rw [Bool.true_and]
      refine Ev.eqs (fun k => ?_) (value_ev l hl d (i + 1) (by omega))
      rw [foliotref19_value.l0, B_size, if_pos (by omega), if_pos (by omega), hb, w64_succ i (by omega)]
      simp only [plainB, plainN, decide_eq_true_eq] at hn
      repeat' split
      all_goals first | rfl | (exfalso; omega)

theorem good_ref (a b : List UInt8) (ha : a.length < 9223372036854775807) (hb : b.length < 9223372036854775807) : Ev (fun k => foliotref19_Good.f k (B a) (B b)) (goodS (a, b)) := by
  have h1 : Ev (fun k => foliotref19_name.f k (B a)) _ := name_ev a ha a.length 0 (by omega)
  have h2 : Ev (fun k => foliotref19_value.f k (B b)) _ := value_ev b hb b.length 0 (by omega)
  simp only [List.drop_zero] at h1 h2
  have e : goodS (a, b) = ((a.all namedB && (decide (1 ≤ a.length) && decide (a.length ≤ 24))) && (b.all plainB && decide (b.length ≤ 64))) := by
    unfold goodS
    rw [show decide (0 < a.length) = decide (1 ≤ a.length) from rfl]
    generalize decide (1 ≤ a.length) = x; generalize decide (a.length ≤ 24) = y; generalize decide (b.length ≤ 64) = z; generalize a.all namedB = u; generalize b.all plainB = v
    revert x y z u v; decide
  rw [e]
  simp only [foliotref19_Good.f]
  refine Ev.bind h1 ?_
  cases hN : (a.all namedB && (decide (1 ≤ a.length) && decide (a.length ≤ 24)))
  · simp only [Bool.false_eq_true, if_false, Bool.false_and]
    exact Ev.now _
  · simp only [if_true, Bool.true_and]
    exact Ev.bind h2 (Ev.now _)

theorem quoted_ev (l : List UInt8) (hl : l.length < 9223372036854775807) : ∀ d i : Nat, i + d = l.length →
    Ev (fun k => foliotref19_quoted.l0 k (B l) (i : Int)) (quotedS (l.drop i))
  | 0, i, h => by
    refine Ev.ends fun k => ?_
    rw [foliotref19_quoted.l0, B_size, if_neg (by omega), List.drop_of_length_le (by omega)]
    rfl
  | d + 1, i, h => by
    have hi : i < l.length := by omega
    have hb := bt_B l i hi
    have h256 := bt_lt l i hi
    rw [drop_cons l i hi]
    unfold quotedS
    rw [List.any_cons]
    have e32 : (l[i] == 32) = decide (((l[i]).toNat : Int) = 32) := by
      rw [Bool.eq_iff_iff]; simp [← UInt8.toNat_inj]; omega
    have e44 : (l[i] == 44) = decide (((l[i]).toNat : Int) = 44) := by
      rw [Bool.eq_iff_iff]; simp [← UInt8.toNat_inj]; omega
    rw [e32, e44]
    by_cases h32 : ((l[i]).toNat : Int) = 32
    · refine Ev.ends fun k => ?_
      rw [foliotref19_quoted.l0, B_size, if_pos (by omega), if_pos (by omega), hb, if_pos h32]
      simp [h32]
    · by_cases h44 : ((l[i]).toNat : Int) = 44
      · refine Ev.ends fun k => ?_
        rw [foliotref19_quoted.l0, B_size, if_pos (by omega), if_pos (by omega), hb, if_neg h32, if_pos h44]
        simp [h44]
      · rw [decide_eq_false h32, decide_eq_false h44, Bool.or_self, Bool.false_or]
        refine Ev.eqs (fun k => ?_) (quoted_ev l hl d (i + 1) (by omega))
        rw [foliotref19_quoted.l0, B_size, if_pos (by omega), if_pos (by omega), hb, if_neg h32, if_neg h44, w64_succ i (by omega)]

theorem encS_len {p : NV} (h : goodS p = true) : (encS p).length ≤ 91 := by
  simp only [goodS, Bool.and_eq_true, decide_eq_true_eq] at h
  unfold encS
  split
  · omega
  · split <;> simp <;> omega

/-- An element's texts. -/
theorem rd41 (xs : List S41) (i : Nat) (h : i < xs.length) : rd_T41 xs (i : Int) = xs[i] := by
  unfold rd_T41; simp [List.getD_eq_getElem?_getD, List.getElem?_eq_getElem h]
theorem rd39 (xs : List S39) (i : Nat) (h : i < xs.length) : rd_T39 xs (i : Int) = xs[i] := by
  unfold rd_T39; simp [List.getD_eq_getElem?_getD, List.getElem?_eq_getElem h]

theorem list_ref (xs : List S41) (hx : xs.length ≤ 1048576) (hs : ∀ x ∈ xs, x.f0.size ≤ 140737488351232 ∧ x.f1.size ≤ 140737488351232) : ∀ (d i : Nat) (acc : List UInt8), i + d = xs.length → acc.length ≤ 93 * i →
    Ev (fun k => foliotref19_List.l0 k xs (B acc) (i : Int)) (resL acc (listS (i == 0) ((xs.drop i).map v41)))
  | 0, i, acc, h, ha => by
    refine Ev.ends fun k => ?_
    rw [foliotref19_List.l0, if_neg (by omega), List.drop_of_length_le (by omega)]
    simp [listS, resL]
  | d + 1, i, acc, h, ha => by
    have hi : i < xs.length := by omega
    rw [drop_cons xs i hi, List.map_cons]
    obtain ⟨n, hn⟩ : ∃ n, xs[i].f0.data.toList = n := ⟨_, rfl⟩
    obtain ⟨v, hv⟩ : ∃ v, xs[i].f1.data.toList = v := ⟨_, rfl⟩
    have e0 : (rd_T41 xs (i : Int)).f0 = B n := by rw [rd41 xs i hi, ← hn]; exact B_of _
    have e1 : (rd_T41 xs (i : Int)).f1 = B v := by rw [rd41 xs i hi, ← hv]; exact B_of _
    have ev : v41 xs[i] = (n, v) := by unfold v41; rw [hn, hv]
    obtain ⟨s0, s1⟩ := hs xs[i] (List.getElem_mem hi)
    have s0 : n.length ≤ 140737488351232 := by rw [← hn, ← Lib.size_eq]; exact s0
    have s1 : v.length ≤ 140737488351232 := by rw [← hv, ← Lib.size_eq]; exact s1
    rw [ev]
    apply Ev.step
    · intro k; rw [foliotref19_List.l0]
    simp only [e0, e1, if_pos (show (i : Int) < (xs.length : Int) by omega), if_pos (show (0 : Int) ≤ (i : Int) by omega)]
    refine Ev.bind (good_ref n v (by omega) (by omega)) ?_
    cases hg : goodS (n, v)
    · simp only [Bool.false_eq_true, if_false, listS, hg, resL]
      exact Ev.now _
    · have hl := encS_len hg
      have hn24 : n.length ≤ 24 ∧ v.length ≤ 64 := by simp only [goodS, Bool.and_eq_true, decide_eq_true_eq] at hg; omega
      have eR : listS (i == 0) ((n, v) :: (xs.drop (i + 1)).map v41) = (listS false ((xs.drop (i + 1)).map v41)).map fun t => (if (i == 0) = true then [] else [44, 32]) ++ (encS (n, v) ++ t) := by rw [listS, if_pos hg]
      obtain ⟨R, hR⟩ : ∃ R, resL acc (listS (i == 0) ((n, v) :: (xs.drop (i + 1)).map v41)) = R := ⟨_, rfl⟩
      rw [hR]
      rw [eR] at hR
      simp only [if_true]
      -- what stands ahead
      have key : ∀ acc1 : List UInt8, acc1.length ≤ 93 * i + 2 → acc1 = acc ++ (if (i == 0) = true then [] else [44, 32]) →
          Ev (fun k => foliotref19_List.j1 k xs (B acc1) (i : Int) (B n) (B v)) R := by
        intro acc1 h1 he
        have fin : ∀ acc2 : List UInt8, acc2 = acc1 ++ encS (n, v) → Ev (fun k => foliotref19_List.l0 k xs (B acc2) ((i + 1 : Nat) : Int)) R := by
          intro acc2 h2
          have := list_ref xs hx hs d (i + 1) acc2 (by omega) (by rw [h2, List.length_append]; omega)
          have e : resL acc2 (listS (i + 1 == 0) ((xs.drop (i + 1)).map v41)) = R := by
            rw [← hR, show (i + 1 == 0) = false from rfl]
            cases listS false ((xs.drop (i + 1)).map v41) with
            | none => rfl
            | some t => simp only [Option.map_some, resL, h2, he, List.append_assoc]
          rw [← e]; exact this
        clear hR eR
        apply Ev.step
        · intro k; rw [foliotref19_List.j1]
        simp only [B_size, B_toList, B_append]
        refine Ev.pos (by omega) ?_
        by_cases hv0 : v = []
        · refine Ev.pos hv0 ?_
          apply Ev.step
          · intro k; rw [foliotref19_List.j2]
          simp only [Bool.false_eq_true, if_false, B_toList, w64_succ i (by omega)]
          refine Ev.pos hv0 ?_
          exact fin _ (by simp [encS, hv0])
        · refine Ev.neg hv0 ?_
          have hq : Ev (fun k => foliotref19_quoted.f k (B v)) (quotedS v) := quoted_ev v (by omega) v.length 0 (by omega)
          refine Ev.bind hq ?_
          apply Ev.step
          · intro k; rw [foliotref19_List.j2]
          cases hqv : quotedS v
          · simp only [Bool.false_eq_true, if_false, B_toList, B_size, show ((⟨#[61]⟩ : ByteArray)) = B [61] from rfl, B_append, w64_succ i (by omega)]
            refine Ev.neg hv0 (Ev.pos (by simp; omega) (Ev.pos (by simp; omega) ?_))
            exact fin _ (by simp [encS, hv0, hqv])
          · simp only [if_true, B_size, show ((⟨#[61, 34]⟩ : ByteArray)) = B [61, 34] from rfl, show ((⟨#[34]⟩ : ByteArray)) = B [34] from rfl, B_append, w64_succ i (by omega)]
            refine Ev.pos (by simp; omega) (Ev.pos (by simp; omega) (Ev.pos (by simp; omega) ?_))
            exact fin _ (by simp [encS, hv0, hqv])
      by_cases h0 : (i : Int) > 0
      · refine Ev.pos h0 ?_
        simp only [B_size, show ((⟨#[44, 32]⟩ : ByteArray)) = B [44, 32] from rfl, B_append]
        refine Ev.pos (by omega) ?_
        exact key _ (by simp; omega) (by rw [show (i == 0) = false by simp; omega]; rfl)
      · refine Ev.neg h0 ?_
        exact key _ (by omega) (by rw [show (i == 0) = true by simp; omega]; simp)
end Go.Proofs.Ytpclhceafigibaa.U
