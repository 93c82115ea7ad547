/- The document's Read to its end; the statements' own small functions, plainly. -/
import Derived.Test.YtpclhceafigibaaU5
import Derived.Test.YtpclhceafigibaaPAllx6
import Derived.Test.YtpclhceafigibaaPAllx7
namespace Go.Proofs.Ytpclhceafigibaa.U
set_option linter.unusedVariables false
set_option linter.unusedSimpArgs false
open Go.RowKit Go.Proofs.YtpclhceafigibaaW.PrintWords Go.Proofs.YtpclhceafigibaaW.PrintLast Go.Proofs.YtpclhceafigibaaW.PrintMore Go.Proofs.Ytpclhceafigibaa.PAll

theorem takeWhile_le (p : UInt8 → Bool) (l : List UInt8) : (l.takeWhile p).length ≤ l.length := by have := len_tw p l; omega
theorem oneS_parts (s : List UInt8) : (oneS s).1.1.length ≤ s.length ∧ (oneS s).1.2.length ≤ s.length := by
  have h0 := dropWhile_le inName s
  have h9 := takeWhile_le inName s
  unfold oneS
  split
  · simp
  · rename_i c r h
    rw [h] at h0
    simp only [List.length_cons] at h0
    split
    · split
      · simp; exact h9
      · rename_i d q
        simp only [List.length_cons] at h0
        have h1 := takeWhile_le noQuote q
        have h2 := takeWhile_le noComma (d :: q)
        simp only [List.length_cons] at h2
        split
        · exact ⟨h9, by show (q.takeWhile noQuote).length ≤ _; omega⟩
        · exact ⟨h9, by show ((d :: q).takeWhile noComma).length ≤ _; omega⟩
    · exact ⟨h9, by simp⟩
theorem sized_snoc {acc : List S41} (h : sized acc) (p : NV) (h1 : p.1.length ≤ 140737488351232) (h2 : p.2.length ≤ 140737488351232) : sized (acc ++ [mk41 p]) := fun x hx => by
  rcases List.mem_append.1 hx with hx | hx
  · exact h x hx
  · have : x = mk41 p := by simpa using hx
    subst this
    exact ⟨by show (B p.1).size ≤ _; rw [B_size]; exact h1, by show (B p.2).size ≤ _; rw [B_size]; exact h2⟩
theorem l0_end (s : List UInt8) (acc : List S41) (ha : acc.length ≤ 1048576) (hz : sized acc) : Ev (fun k => foliotref19_Read.l0 k (B s) acc (B [])) (outR s acc (some [])) := by
  apply Ev.step
  · intro k; rw [foliotref19_Read.l0]
  simp only [B_toList]
  refine Ev.pos trivial ?_
  exact finR_ev s acc ha hz

theorem tail_ev (s : List UInt8) (f : Nat) (acc : List S41) (x : List UInt8) (ha : acc.length ≤ 1000000) (hx : x.length ≤ 1000000) (hz : sized acc)
    (IH : ∀ (p : NV) (r : List UInt8), r.length ≤ x.length → goOn r = true → sized (acc ++ [mk41 p]) → Ev (fun k => foliotref19_Read.l0 k (B s) (acc ++ [mk41 p]) (B r)) (outR s (acc ++ [mk41 p]) (readS f (r.drop 2)))) :
    Ev (fun k => (foliotref19_one.f k (B x)).bind fun bt => (if acc.length < 4398046511104 then ((some (acc ++ [(⟨bt.1, bt.2.1⟩ : S41)] : List (S41))).bind fun y => (if (bt.2.2.size : Int) > 0 then (if (bt.2.2.size : Int) < 3 then (some (([] : List (S41)), 21)) else (if (0 : Int) ≤ 2 then (if 2 ≤ (bt.2.2.size : Int) then (if (bt.2.2.extract 0 2).toList = ([44, 32] : List UInt8) then (foliotref19_Read.l0 k (B s) y bt.2.2) else (some (([] : List (S41)), 21))) else (none)) else (none))) else (foliotref19_Read.l0 k (B s) y bt.2.2))) else (none)))
      (outR s acc (readS (f + 1) x)) := by
  refine Ev.bind (one_ev x (by omega)) ?_
  have hle := oneS_le x
  have hpa := oneS_parts x
  rw [readS_succ]
  unfold outO
  obtain ⟨p, hp⟩ : ∃ p, (oneS x).1 = p := ⟨_, rfl⟩
  obtain ⟨r, hr⟩ : ∃ r, (oneS x).2 = r := ⟨_, rfl⟩
  rw [hp] at hpa
  rw [hr] at hle
  rw [hp, hr]
  have hz2 := sized_snoc hz p (by omega) (by omega)
  simp only [B_size, B_extract_head, B_toList, Option.bind_some, show (⟨B p.1, B p.2⟩ : S41) = mk41 p from rfl]
  refine Ev.pos (by omega) ?_
  unfold nextS
  by_cases h0 : r = []
  · subst h0
    refine Ev.neg (by simp) ?_
    rw [if_pos rfl]
    have := l0_end s (acc ++ [mk41 p]) (by simp; omega) hz2
    rw [← outR_cons] at this
    exact this
  · have hl : 0 < r.length := List.length_pos_iff.2 h0
    rw [if_neg h0]
    refine Ev.pos (by omega) ?_
    by_cases h3 : r.length < 3
    · have hg : ¬ goOn r = true := by unfold goOn; rw [Bool.and_eq_true, decide_eq_true_eq, decide_eq_true_eq]; omega
      rw [if_neg hg]
      refine Ev.pos (by omega) ?_
      exact Ev.now _
    · refine Ev.neg (by omega) (Ev.pos (by omega) (Ev.pos (by omega) ?_))
      by_cases h2 : r.take 2 = [44, 32]
      · have hg : goOn r = true := by unfold goOn; rw [Bool.and_eq_true, decide_eq_true_eq, decide_eq_true_eq]; exact ⟨h2, by omega⟩
        rw [if_pos hg, outR_cons]
        refine Ev.pos h2 ?_
        exact IH p r hle hg hz2
      · have hg : ¬ goOn r = true := by unfold goOn; rw [Bool.and_eq_true, decide_eq_true_eq, decide_eq_true_eq]; exact fun h => h2 h.1
        rw [if_neg hg]
        refine Ev.neg h2 ?_
        exact Ev.now _

theorem readR_next (s : List UInt8) : ∀ (f : Nat) (r : List UInt8) (acc : List S41), acc ≠ [] → goOn r = true → (r.drop 2).length ≤ f → acc.length + r.length ≤ 1000000 → sized acc →
    Ev (fun k => foliotref19_Read.l0 k (B s) acc (B r)) (outR s acc (readS f (r.drop 2)))
  | 0, r, acc, h0, hg, hf, ha, hz => absurd (List.eq_nil_of_length_eq_zero (by omega)) ((goOn_iff r).1 hg).2
  | f + 1, r, acc, h0, hg, hf, ha, hz => by
    have hl : 0 < acc.length := List.length_pos_iff.2 h0
    have hg1 := ((goOn_iff r).1 hg).1
    have hg3 := take2_len r hg
    have hne : r ≠ [] := by rintro rfl; simp at hg3
    apply Ev.step
    · intro k; rw [foliotref19_Read.l0]
    simp only [B_toList, B_size, B_extract_head, hg1]
    have hr3 : 3 ≤ r.length := by unfold goOn at hg; rw [Bool.and_eq_true, decide_eq_true_eq, decide_eq_true_eq] at hg; exact hg.2
    refine Ev.neg hne (Ev.pos (by omega) (Ev.pos (by omega) (Ev.pos (by omega) (Ev.pos (by omega) ?_))))
    apply Ev.step
    · intro k; rw [foliotref19_Read.j1]
    refine Ev.pos (by simp) ?_
    simp only [B_size, B_extract_end]
    refine Ev.pos (by omega) ?_
    refine tail_ev s f acc (r.drop 2) (by omega) (by omega) hz (fun p r' hr' hg' hz' => ?_)
    have h2 := take2_len r' hg'
    exact readR_next s f r' (acc ++ [mk41 p]) (by simp) hg' (by omega) (by simp only [List.length_append, List.length_singleton]; omega) hz'

theorem readRef (s : List UInt8) (hs : s.length ≤ 900000) : Ev (fun k => foliotref19_Read.f k (B s)) (outR s [] (readAll s)) := by
  unfold readAll
  simp only [foliotref19_Read.f]
  by_cases h0 : s = []
  · subst h0
    rw [if_pos rfl]
    exact l0_end [] [] (by simp) (fun x hx => by simp at hx)
  · rw [if_neg h0]
    have hl : 0 < s.length := List.length_pos_iff.2 h0
    obtain ⟨f, hf⟩ : ∃ f, s.length = f + 1 := ⟨s.length - 1, by omega⟩
    rw [hf]
    apply Ev.step
    · intro k; rw [foliotref19_Read.l0]
    simp only [B_toList, B_size]
    refine Ev.neg h0 (Ev.neg (by simp) ?_)
    apply Ev.step
    · intro k; rw [foliotref19_Read.j1]
    simp only [Bool.false_eq_true, if_false]
    refine tail_ev s f [] s (by simp) (by omega) (fun x hx => by simp at hx) (fun p r' hr' hg' hz' => ?_)
    have h2 := take2_len r' hg'
    exact readR_next s f r' ([] ++ [mk41 p]) (by simp) hg' (by omega) (by simp; omega) hz'

/-! ### the statements' own functions -/
def to41 (x : S39) : S41 := ⟨x.f0, x.f1⟩
def to39 (x : S41) : S39 := ⟨x.f0, x.f1⟩
theorem theirs_ev (l : List S39) (hl : l.length ≤ 4398046511103) : ∀ d i : Nat, i + d = l.length → Ev (fun k => foliotlaw19_theirs.l0 k l ((l.take i).map to41) (i : Int)) (l.map to41)
  | 0, i, h => by
    refine Ev.ends fun k => ?_
    rw [foliotlaw19_theirs.l0, if_neg (by omega), List.take_of_length_le (by omega)]
  | d + 1, i, h => by
    have hi : i < l.length := by omega
    refine Ev.eqs (fun k => ?_) (theirs_ev l hl d (i + 1) (by omega))
    rw [foliotlaw19_theirs.l0, if_pos (by omega), if_pos (by omega), if_pos (by simp; omega), w64_succ i (by omega), List.take_succ_eq_append_getElem hi, rd39 l i hi, List.map_append]
    rfl
theorem theirs_f (l : List S39) (hl : l.length ≤ 4398046511103) : Ev (fun k => foliotlaw19_theirs.f k l) (l.map to41) := theirs_ev l hl l.length 0 (by omega)
theorem ours_ev (l : List S41) (hl : l.length ≤ 4398046511103) : ∀ d i : Nat, i + d = l.length → Ev (fun k => foliotlaw19_ours.l0 k l ((l.take i).map to39) (i : Int)) (l.map to39)
  | 0, i, h => by
    refine Ev.ends fun k => ?_
    rw [foliotlaw19_ours.l0, if_neg (by omega), List.take_of_length_le (by omega)]
  | d + 1, i, h => by
    have hi : i < l.length := by omega
    refine Ev.eqs (fun k => ?_) (ours_ev l hl d (i + 1) (by omega))
    rw [foliotlaw19_ours.l0, if_pos (by omega), if_pos (by omega), if_pos (by simp; omega), w64_succ i (by omega), List.take_succ_eq_append_getElem hi, rd41 l i hi, List.map_append]
    rfl
theorem ours_f (l : List S41) (hl : l.length ≤ 4398046511103) : Ev (fun k => foliotlaw19_ours.f k l) (l.map to39) := ours_ev l hl l.length 0 (by omega)
/-- Two lists of the same variables are told to be the same. -/
theorem same_ev (a b : List S39) (ha : a.length ≤ 4398046511103) (hab : a.map v39 = b.map v39) : ∀ d i : Nat, i + d = a.length → Ev (fun k => foliotlaw19_sameVars.l0 k a b (i : Int)) true
  | 0, i, h => by
    refine Ev.ends fun k => ?_
    rw [foliotlaw19_sameVars.l0, if_neg (by omega)]
  | d + 1, i, h => by
    have hi : i < a.length := by omega
    have hl : a.length = b.length := by simpa using congrArg List.length hab
    have he : v39 a[i] = v39 (b[i]'(by omega)) := by
      have h1 : (a.map v39)[i]? = (b.map v39)[i]? := by rw [hab]
      rw [List.getElem?_map, List.getElem?_map, List.getElem?_eq_getElem hi, List.getElem?_eq_getElem (by omega)] at h1
      simpa using h1
    have e0 : a[i].f0.toList = (b[i]'(by omega)).f0.toList := by rw [Lib.toList_data, Lib.toList_data]; exact congrArg Prod.fst he
    have e1 : a[i].f1.toList = (b[i]'(by omega)).f1.toList := by rw [Lib.toList_data, Lib.toList_data]; exact congrArg Prod.snd he
    refine Ev.eqs (fun k => ?_) (same_ev a b ha hab d (i + 1) (by omega))
    rw [foliotlaw19_sameVars.l0, if_pos (by omega), if_pos (by omega), if_pos (by omega), rd39 a i hi, rd39 b i (by omega), e0, e1, if_neg (by simp), w64_succ i (by omega)]
theorem same_f (a b : List S39) (ha : a.length ≤ 4398046511103) (hab : a.map v39 = b.map v39) : Ev (fun k => foliotlaw19_sameVars.f k a b) true := by
  have hl : a.length = b.length := by simpa using congrArg List.length hab
  simp only [foliotlaw19_sameVars.f]
  exact Ev.pos (by omega) (same_ev a b ha hab a.length 0 (by omega))
/-- What isn't too heavy is small. -/
theorem heavy_ev (l : List S39) (hl : l.length ≤ 4398046511103) : ∀ (d i n : Nat), i + d = l.length → n ≤ 4398046511103 →
    ∃ b, Ev (fun k => foliotlaw19_heavy.l0 k l (n : Int) (i : Int)) b ∧ (b = false → n ≤ 4096 ∧ ∀ x ∈ l.drop i, x.f0.size ≤ 4096 ∧ x.f1.size ≤ 4096)
  | 0, i, n, h, hn => by
    refine ⟨decide ((n : Int) > 4096), Ev.ends fun k => ?_, fun hb => ?_⟩
    · rw [foliotlaw19_heavy.l0, if_neg (by omega)]
    · have := of_decide_eq_false hb
      rw [List.drop_of_length_le (by omega)]
      exact ⟨by omega, by simp⟩
  | d + 1, i, n, h, hn => by
    have hi : i < l.length := by omega
    by_cases hc : n ≤ 4096
    · obtain ⟨x, hx⟩ : ∃ x, l[i] = x := ⟨_, rfl⟩
      have hm : ∃ m : Nat, mn (x.f0.size : Int) 65536 + mn (x.f1.size : Int) 65536 = (m : Int) ∧ m ≤ 131072 ∧ (m ≤ 4096 → x.f0.size ≤ 4096 ∧ x.f1.size ≤ 4096) := by
        unfold mn
        refine ⟨(min x.f0.size 65536) + (min x.f1.size 65536), ?_, by omega, by omega⟩
        split <;> split <;> omega
      obtain ⟨m, hm1, hm2, hm3⟩ := hm
      obtain ⟨b, hb, hs⟩ := heavy_ev l hl d (i + 1) (n + m) (by omega) (by omega)
      refine ⟨b, Ev.eqs (fun k => ?_) hb, fun hf => ?_⟩
      · rw [foliotlaw19_heavy.l0, if_pos (by omega), if_pos (by omega), if_pos (by omega), rd39 l i hi, hx, hm1, w64_succ i (by omega), w64 (by omega) (by omega)]
        rfl
      · obtain ⟨h1, h2⟩ := hs hf
        refine ⟨by omega, fun y hy => ?_⟩
        rw [drop_cons l i hi, hx] at hy
        rcases List.mem_cons.1 hy with rfl | hy
        · exact hm3 (by omega)
        · exact h2 y hy
    · refine ⟨true, Ev.ends fun k => ?_, fun hb => by cases hb⟩
      rw [foliotlaw19_heavy.l0, if_pos (by omega), if_neg (by omega)]
      congr 1
      simp
      omega
theorem heavy_f (l : List S39) (hl : l.length ≤ 4398046511103) : ∃ b, Ev (fun k => foliotlaw19_heavy.f k l) b ∧ (b = false → l.length ≤ 4096 ∧ ∀ x ∈ l, x.f0.size ≤ 4096 ∧ x.f1.size ≤ 4096) := by
  obtain ⟨b, h1, h2⟩ := heavy_ev l hl l.length 0 l.length (by omega) hl
  rw [List.drop_zero] at h2
  exact ⟨b, h1, h2⟩
end Go.Proofs.Ytpclhceafigibaa.U
