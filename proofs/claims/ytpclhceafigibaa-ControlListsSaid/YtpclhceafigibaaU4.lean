/- How a text is read as variables: one function of lists; the program and the document both come to it. -/
import Derived.Test.YtpclhceafigibaaU3
import Derived.Test.YtpclhceafigibaaPAllx4
import Derived.Test.YtpclhceafigibaaPAllx5
namespace Go.Proofs.Ytpclhceafigibaa.U
set_option linter.unusedVariables false
set_option linter.unusedSimpArgs false
open Go.RowKit Go.Proofs.YtpclhceafigibaaW.PrintWords Go.Proofs.YtpclhceafigibaaW.PrintLast Go.Proofs.YtpclhceafigibaaW.PrintMore Go.Proofs.Ytpclhceafigibaa.PAll

/-- neither '=' nor ',' -/
def inName (b : UInt8) : Bool := b != 61 && b != 44
def noComma (b : UInt8) : Bool := b != 44
def noQuote (b : UInt8) : Bool := b != 34
/-- A variable at a text's beginning, and what is left. -/
def oneS (s : List UInt8) : NV × List UInt8 :=
  match s.dropWhile inName with
  | [] => ((s, []), [])
  | c :: r => if c = 61 then (match r with
      | [] => ((s.takeWhile inName, []), [])
      | d :: q => if d = 34 then ((s.takeWhile inName, q.takeWhile noQuote), (q.dropWhile noQuote).drop 1) else ((s.takeWhile inName, (d :: q).takeWhile noComma), (d :: q).dropWhile noComma))
    else ((s.takeWhile inName, []), c :: r)
def goOn (r : List UInt8) : Bool := decide (r.take 2 = [44, 32]) && decide (3 ≤ r.length)
def readS : Nat → List UInt8 → Option (List NV)
  | 0, _ => none
  | f + 1, s => if (oneS s).2 = [] then some [(oneS s).1] else if goOn (oneS s).2 = true then (readS f ((oneS s).2.drop 2)).map ((oneS s).1 :: ·) else none
def readAll (s : List UInt8) : Option (List NV) := if s = [] then some [] else readS s.length s
/-- What Read tells. -/
def readR (s : List UInt8) : Option (List NV) := match readAll s with
  | some l => if resP [] l = (B s, 0) then some l else none
  | none => none

theorem dropWhile_le {α : Type} (p : α → Bool) (l : List α) : (l.dropWhile p).length ≤ l.length := by
  induction l with
  | nil => simp
  | cons a l ih => rw [List.dropWhile_cons]; split <;> simp <;> omega
theorem oneS_le (s : List UInt8) : (oneS s).2.length ≤ s.length := by
  have h0 := dropWhile_le inName s
  unfold oneS
  split
  · simp
  · rename_i c r h
    rw [h] at h0
    simp only [List.length_cons] at h0
    split
    · split
      · simp
      · rename_i d q
        simp only [List.length_cons] at h0
        have h1 := dropWhile_le noQuote q
        have h2 := dropWhile_le noComma (d :: q)
        simp only [List.length_cons] at h2
        split
        · simp only [List.length_drop]; omega
        · show ((d :: q).dropWhile noComma).length ≤ s.length
          omega
    · simp only [List.length_cons]; omega

/-! ### the pieces, by lists -/
theorem takeWhile_append_drop (p : UInt8 → Bool) (l : List UInt8) : l.takeWhile p ++ l.dropWhile p = l := List.takeWhile_append_dropWhile
theorem len_tw (p : UInt8 → Bool) (l : List UInt8) : (l.takeWhile p).length + (l.dropWhile p).length = l.length := by
  rw [← List.length_append, takeWhile_append_drop]
theorem take_tw (p : UInt8 → Bool) (l : List UInt8) : l.take (l.takeWhile p).length = l.takeWhile p := by
  have e : (l.takeWhile p ++ l.dropWhile p).take (l.takeWhile p).length = l.takeWhile p := List.take_left
  rwa [takeWhile_append_drop p l] at e
theorem drop_tw (p : UInt8 → Bool) (l : List UInt8) : l.drop (l.takeWhile p).length = l.dropWhile p := by
  have e : (l.takeWhile p ++ l.dropWhile p).drop (l.takeWhile p).length = l.dropWhile p := List.drop_left
  rwa [takeWhile_append_drop p l] at e
theorem indexAny_at (l : List UInt8) : Lib.indexAny l [61, 44] = if l.dropWhile inName = [] then -1 else ((l.takeWhile inName).length : Int) := by
  induction l with
  | nil => rfl
  | cons b l ih =>
    have hc : [(61 : UInt8), 44].contains b = !inName b := by
      unfold inName
      simp only [List.contains_cons, List.contains_nil, Bool.or_false, bne, Bool.not_and, Bool.not_not]
    unfold Lib.indexAny
    rw [hc, List.dropWhile_cons, List.takeWhile_cons]
    cases hb : inName b
    · simp
    · simp only [Bool.not_true, Bool.false_eq_true, if_false, if_true, ih]
      by_cases he : l.dropWhile inName = []
      · simp [he]
      · simp only [if_neg he]
        rw [if_neg (by rw [beq_iff_eq]; omega)]
        simp
theorem indexAny_f (l : List UInt8) (hl : l.length < 4294967281) : strings_IndexAny.f (B l) (⟨#[61, 44]⟩ : ByteArray) = some (if l.dropWhile inName = [] then -1 else ((l.takeWhile inName).length : Int)) := by
  unfold strings_IndexAny.f
  rw [B_size, if_pos ⟨rfl, hl⟩, ← indexAny_at]
  rfl
theorem indexComma_f (l : List UInt8) : strings_IndexByte.f (B (l ++ [44])) 44 = some ((l.takeWhile noComma).length : Int) := by
  unfold strings_IndexByte.f
  rw [B_data]
  congr 1
  show Lib.indexByte (l ++ [44]) 44 = _
  induction l with
  | nil => rfl
  | cons b l ih =>
    rw [List.cons_append]
    unfold Lib.indexByte
    rw [ih, List.takeWhile_cons]
    unfold noComma
    by_cases hb : b = 44
    · simp [hb]
    · have h1 : (b == 44) = false := beq_eq_false_iff_ne.2 hb
      have h2 : (b != 44) = true := bne_iff_ne.2 hb
      rw [h1, if_pos h2]
      simp only [Bool.false_eq_true, if_false, List.length_cons]
      rw [if_neg (by rw [beq_iff_eq]; omega)]
      rfl
theorem cutprefix_f (s p : List UInt8) (hs : s.length < 9223372036854775807) : strings_CutPrefix.f (B s) (B p) = some (if s.take p.length = p then (B (s.drop p.length), true) else (B s, false)) := by
  unfold strings_CutPrefix.f stringslite_CutPrefix.f stringslite_HasPrefix.f
  simp only [B_size, B_toList]
  by_cases hl : p.length ≤ s.length
  · rw [if_pos (show (s.length : Int) ≥ (p.length : Int) by omega), if_pos (by omega), if_pos (by omega)]
    simp only [Option.bind_some, B_extract, Nat.sub_zero, List.drop_zero, B_toList, Int.toNat_natCast]
    by_cases hp : s.take p.length = p
    · rw [if_pos hp]
      simp only [hp, BEq.rfl, if_true]
      rw [if_pos (by omega), if_pos (by omega)]
      simp only [Option.bind_some]
      rw [List.take_of_length_le (by simp)]
    · rw [if_neg hp, if_neg (by simpa using hp)]
      rfl
  · rw [if_neg (by omega), if_neg (show ¬ s.take p.length = p from fun e => by have := congrArg List.length e; simp at this; omega)]
    rfl
theorem cut_f (q : List UInt8) (hq : q.length < 4294967281) : strings_Cut.f (B q) (⟨#[34]⟩ : ByteArray) = some (B (q.takeWhile noQuote), B ((q.dropWhile noQuote).drop 1), q.contains 34) := by
  unfold strings_Cut.f
  rw [B_size, if_pos ⟨rfl, hq⟩]
  rfl

/-! ### the program's Read -/
def mk39 (p : NV) : S39 := ⟨B p.1, B p.2⟩
def mk41 (p : NV) : S41 := ⟨B p.1, B p.2⟩
theorem v39_mk (p : NV) : v39 (mk39 p) = p := rfl
theorem v41_mk (p : NV) : v41 (mk41 p) = p := rfl
theorem v39_mks (l : List NV) : (l.map mk39).map v39 = l := by rw [List.map_map]; exact (List.map_congr_left (fun _ _ => rfl)).trans (List.map_id l)
theorem v41_mks (l : List NV) : (l.map mk41).map v41 = l := by rw [List.map_map]; exact (List.map_congr_left (fun _ _ => rfl)).trans (List.map_id l)
def outP (s : List UInt8) (acc : List S39) : Option (List NV) → List S39 × Int
  | none => ([], 21)
  | some l => if resP [] ((acc ++ l.map mk39).map v39) = (B s, 0) then (acc ++ l.map mk39, 0) else ([], 21)
theorem outP_cons (s : List UInt8) (acc : List S39) (p : NV) (o : Option (List NV)) : outP s acc (o.map (p :: ·)) = outP s (acc ++ [mk39 p]) o := by
  cases o with
  | none => rfl
  | some l => simp only [Option.map_some, outP, List.map_cons, List.append_assoc, List.singleton_append]
theorem resP_eq (l : List NV) (s : List UInt8) : resP [] l = (B s, 0) ↔ (resP [] l).2 = 0 ∧ (resP [] l).1.toList = s := by
  constructor
  · intro h; rw [h]; exact ⟨rfl, B_toList s⟩
  · intro ⟨h1, h2⟩
    have : resP [] l = ((resP [] l).1, (resP [] l).2) := rfl
    rw [this, h1]
    congr 1
    rw [Lib.toList_data] at h2
    rw [B_of (resP [] l).1, h2]
/-- Behind the last variable: all of it is written, and held against the text. -/
theorem fin_ev (s : List UInt8) (acc : List S39) (ha : acc.length ≤ 1048576) :
    Ev (fun k => (control_List.f k acc).bind fun bt => if bt.2 = 0 then (if bt.1.toList = s then some (acc, 0) else some (([] : List S39), 21)) else some (([] : List S39), 21))
      (outP s acc (some [])) := by
  have e : outP s acc (some []) = if resP [] (acc.map v39) = (B s, 0) then (acc, 0) else ([], 21) := by simp only [outP, List.map_nil, List.append_nil]
  rw [e]
  refine Ev.bind (list_prog acc ha) ?_
  by_cases h1 : (resP [] (acc.map v39)).2 = 0
  · simp only [if_pos h1]
    by_cases h2 : (resP [] (acc.map v39)).1.toList = s
    · rw [if_pos ((resP_eq _ s).2 ⟨h1, h2⟩)]
      simp only [if_pos h2]
      exact Ev.now _
    · rw [if_neg (fun h => h2 ((resP_eq _ s).1 h).2)]
      simp only [if_neg h2]
      exact Ev.now _
  · rw [if_neg (fun h => h1 ((resP_eq _ s).1 h).1)]
    simp only [if_neg h1]
    exact Ev.now _
/-- What becomes of a variable that was read, and of what is left. -/
def nextS (f : Nat) (p : NV) (r : List UInt8) : Option (List NV) := if r = [] then some [p] else if goOn r = true then (readS f (r.drop 2)).map (p :: ·) else none
theorem readS_succ (f : Nat) (s : List UInt8) : readS (f + 1) s = nextS f (oneS s).1 (oneS s).2 := rfl
theorem goOn_iff (r : List UInt8) : goOn r = true ↔ r.take 2 = [44, 32] ∧ r.drop 2 ≠ [] := by
  unfold goOn
  rw [Bool.and_eq_true, decide_eq_true_eq, decide_eq_true_eq]
  constructor
  · intro ⟨h1, h2⟩
    exact ⟨h1, fun e => by have := congrArg List.length e; simp at this; omega⟩
  · intro ⟨h1, h2⟩
    refine ⟨h1, ?_⟩
    have : 0 < (r.drop 2).length := List.length_pos_iff.2 h2
    rw [List.length_drop] at this
    omega

theorem j1_ev (s : List UInt8) (f : Nat) (acc : List S39) (ha : acc.length ≤ 1000000) (x : List UInt8) (hx : x.length < 4294967281) (m : Nat) (hm : m ≤ x.length) (n v r : List UInt8) (hr : x.drop m = r)
    (ih : goOn r = true → Ev (fun k => control_Read.l0 k (B s) (acc ++ [mk39 (n, v)]) (B (r.drop 2))) (outP s (acc ++ [mk39 (n, v)]) (readS f (r.drop 2)))) :
    Ev (fun k => control_Read.j1 k (B s) acc (B x) (m : Int) (B n) (B v)) (outP s acc (nextS f (n, v) r)) := by
  apply Ev.step
  · intro k; rw [control_Read.j1]
  simp only [if_pos (show acc.length < 4398046511104 by omega), Option.bind_some, if_pos (show (0 : Int) ≤ (m : Int) by omega), B_size, if_pos (show (m : Int) ≤ (x.length : Int) by omega), Int.toNat_natCast, B_extract_end, hr, B_toList]
  by_cases h0 : r = []
  · subst h0
    simp only [if_true]
    have := fin_ev s (acc ++ [mk39 (n, v)]) (by simp; omega)
    have e : outP s (acc ++ [mk39 (n, v)]) (some []) = outP s acc (nextS f (n, v) []) := by
      rw [← outP_cons]; rfl
    rw [e] at this
    exact this
  · have hrl : r.length ≤ x.length := by rw [← hr, List.length_drop]; omega
    simp only [if_neg h0, show ((⟨#[44, 32]⟩ : ByteArray)) = B [44, 32] from rfl, cutprefix_f r [44, 32] (by omega), Option.bind_some, List.length_cons, List.length_nil]
    by_cases h1 : r.take 2 = [44, 32]
    · simp only [if_pos h1, if_true, B_toList]
      by_cases h2 : r.drop 2 = []
      · have hg : ¬ goOn r = true := fun h => ((goOn_iff r).1 h).2 h2
        simp only [if_pos h2, nextS, if_neg h0, if_neg hg]
        exact Ev.now _
      · have hg : goOn r = true := (goOn_iff r).2 ⟨h1, h2⟩
        simp only [if_neg h2, nextS, if_neg h0, if_pos hg, outP_cons]
        exact ih hg
    · have hg : ¬ goOn r = true := fun h => h1 ((goOn_iff r).1 h).1
      simp only [if_neg h1, Bool.false_eq_true, if_false, nextS, if_neg h0, if_neg hg]
      exact Ev.now _

theorem take2_len (r : List UInt8) (h : goOn r = true) : (r.drop 2).length + 2 = r.length := by
  unfold goOn at h
  rw [Bool.and_eq_true, decide_eq_true_eq, decide_eq_true_eq] at h
  rw [List.length_drop]; omega
theorem mx_nat (n : Nat) : mx (n : Int) 0 = (n : Int) := by unfold mx; rw [if_neg (by omega)]

theorem read_ev (s : List UInt8) : ∀ (f : Nat) (rest : List UInt8) (acc : List S39), rest ≠ [] → rest.length ≤ f → acc.length + rest.length ≤ 1000000 →
    Ev (fun k => control_Read.l0 k (B s) acc (B rest)) (outP s acc (readS f rest))
  | 0, rest, acc, h0, hf, ha => absurd (List.eq_nil_of_length_eq_zero (by omega)) h0
  | f + 1, rest, acc, h0, hf, ha => by
    rw [readS_succ]
    have IH : ∀ (p : NV) (r : List UInt8), r.length ≤ rest.length → goOn r = true → Ev (fun k => control_Read.l0 k (B s) (acc ++ [mk39 p]) (B (r.drop 2))) (outP s (acc ++ [mk39 p]) (readS f (r.drop 2))) := fun p r hr hg => by
      have h2 := take2_len r hg
      exact read_ev s f (r.drop 2) (acc ++ [mk39 p]) ((goOn_iff r).1 hg).2 (by omega) (by simp only [List.length_append, List.length_singleton]; omega)
    apply Ev.step
    · intro k; rw [control_Read.l0]
    simp only [B_toList, if_neg h0, indexAny_f rest (by omega), Option.bind_some]
    have hle := oneS_le rest
    cases hd : rest.dropWhile inName with
    | nil =>
      have h1 : oneS rest = ((rest, []), []) := by unfold oneS; rw [hd]
      rw [h1]
      simp only [if_true, if_pos (show ((-1 : Int) < 0) by omega), if_pos (show acc.length < 4398046511104 by omega), Option.bind_some]
      have := fin_ev s (acc ++ [mk39 (rest, [])]) (by simp; omega)
      have e : outP s (acc ++ [mk39 (rest, [])]) (some []) = outP s acc (nextS f (rest, []) []) := by
        rw [← outP_cons]; rfl
      rw [e] at this
      exact this
    | cons c r =>
      have hlen := len_tw inName rest
      rw [hd, List.length_cons] at hlen
      obtain ⟨n, hn⟩ : ∃ n, (rest.takeWhile inName).length = n := ⟨_, rfl⟩
      rw [hn] at hlen
      have htake : rest.take n = rest.takeWhile inName := by rw [← hn]; exact take_tw inName rest
      have hdrop : rest.drop n = c :: r := by rw [← hn, drop_tw, hd]
      have hdrop1 : rest.drop (n + 1) = r := by rw [← List.drop_drop, hdrop]; rfl
      have hat : rest[n]'(by omega) = c := by
        have := drop_cons rest n (by omega)
        rw [hdrop] at this
        exact (List.cons.inj this).1.symm
      have hbt : bt (B rest) (n : Int) = (c.toNat : Int) := by rw [bt_B rest n (by omega), hat]
      have hc61 : ((c.toNat : Int) = 61) ↔ c = 61 := by rw [← UInt8.toNat_inj]; simp; omega
      simp only [List.cons_ne_nil, if_false, hn, if_neg (show ¬ ((n : Int) < 0) by omega), if_pos (show (0 : Int) ≤ (n : Int) by omega), B_size, if_pos (show (n : Int) ≤ (rest.length : Int) by omega), if_pos (show (n : Int) < (rest.length : Int) by omega), hbt, w64_succ n (by omega),
        if_pos (show (0 : Int) ≤ ((n + 1 : Nat) : Int) by omega), if_pos (show ((n + 1 : Nat) : Int) ≤ (rest.length : Int) by omega), Int.toNat_natCast, B_extract_end, B_extract_head, hdrop1, htake]
      by_cases hc : c = 61
      · simp only [if_pos (hc61.2 hc), show ((⟨#[34]⟩ : ByteArray)) = B [34] from rfl, cutprefix_f r [34] (by omega), Option.bind_some, List.length_cons, List.length_nil]
        cases r with
        | nil =>
          have h1 : oneS rest = ((rest.takeWhile inName, []), []) := by unfold oneS; rw [hd]; simp [hc]
          rw [h1]
          rw [if_neg (show ¬ (([] : List UInt8).take (0 + 1) = [34]) by simp)]
          simp only [Bool.false_eq_true, if_false, B_size, List.length_nil, show ((⟨#[44]⟩ : ByteArray)) = B [44] from rfl, B_append, indexComma_f, Option.bind_some, List.takeWhile_nil, mx_nat]
          have := j1_ev s f acc (by omega) [] (by simp) 0 (by simp) (rest.takeWhile inName) [] [] (by simp) (fun hg => IH _ _ (by simp) hg)
          simpa [B_extract_head] using this
        | cons d q =>
          simp only [List.length_cons] at hlen
          by_cases hq : d = 34
          · have h1 : oneS rest = ((rest.takeWhile inName, q.takeWhile noQuote), (q.dropWhile noQuote).drop 1) := by unfold oneS; rw [hd]; simp [hc, hq]
            rw [h1] at hle ⊢
            rw [if_pos (show ((d :: q).take (0 + 1) = [34]) by simp [hq])]
            simp only [if_true, List.drop_succ_cons, List.drop_zero, show B [34] = (⟨#[34]⟩ : ByteArray) from rfl, cut_f q (by omega), Option.bind_some]
            exact j1_ev s f acc (by omega) ((q.dropWhile noQuote).drop 1) (by simp only at hle; omega) 0 (by omega) _ _ _ (by simp) (fun hg => IH _ _ hle hg)
          · have h1 : oneS rest = ((rest.takeWhile inName, (d :: q).takeWhile noComma), (d :: q).dropWhile noComma) := by unfold oneS; rw [hd]; simp [hc, hq]
            rw [h1] at hle ⊢
            rw [if_neg (show ¬ ((d :: q).take (0 + 1) = [34]) by simp [hq])]
            have hlc := len_tw noComma (d :: q)
            simp only [Bool.false_eq_true, if_false, B_size, List.length_cons, show ((⟨#[44]⟩ : ByteArray)) = B [44] from rfl, B_append, indexComma_f, Option.bind_some, mx_nat]
            simp only [List.length_cons] at hlc
            refine Ev.pos (by omega) (Ev.pos (by omega) (Ev.pos (by omega) ?_))
            simp only [Int.toNat_natCast, take_tw]
            exact j1_ev s f acc (by omega) (d :: q) (by simp; omega) _ (by simp; omega) _ _ _ (drop_tw noComma (d :: q)) (fun hg => IH _ _ hle hg)
      · have h1 : oneS rest = ((rest.takeWhile inName, []), c :: r) := by unfold oneS; rw [hd]; simp [hc]
        rw [h1] at hle ⊢
        simp only [if_neg (fun h => hc (hc61.1 h))]
        exact j1_ev s f acc (by omega) rest (by omega) n (by omega) _ [] _ hdrop (fun hg => IH _ _ hle hg)

theorem readP (s : List UInt8) (hs : s.length ≤ 900000) : Ev (fun k => control_Read.f k (B s)) (outP s [] (readAll s)) := by
  unfold readAll
  by_cases h0 : s = []
  · subst h0
    rw [if_pos rfl]
    simp only [control_Read.f]
    apply Ev.step
    · intro k; rw [control_Read.l0]
    simp only [B_toList, if_true]
    exact fin_ev [] [] (by simp)
  · rw [if_neg h0]
    exact read_ev s s.length s [] h0 (Nat.le_refl _) (by simp; omega)
end Go.Proofs.Ytpclhceafigibaa.U
