/- What is written is read back; the statement of ControlBack, plainly. -/
import Derived.Test.YtpclhceafigibaaU6
import Derived.Test.YtpclhceafigibaaPAllx6
namespace Go.Proofs.Ytpclhceafigibaa.U
set_option linter.unusedVariables false
set_option linter.unusedSimpArgs false
open Go.RowKit Go.Proofs.YtpclhceafigibaaW.PrintWords Go.Proofs.YtpclhceafigibaaW.PrintLast Go.Proofs.YtpclhceafigibaaW.PrintMore Go.Proofs.Ytpclhceafigibaa.PAll

theorem to39_41 (l : List S39) : (l.map to41).map to39 = l := by rw [List.map_map]; exact (List.map_congr_left (fun _ _ => rfl)).trans (List.map_id l)
theorem tw_app (p : UInt8 → Bool) (a b : List UInt8) (ha : ∀ x ∈ a, p x = true) (hb : b = [] ∨ ∃ c r, b = c :: r ∧ p c = false) : (a ++ b).takeWhile p = a ∧ (a ++ b).dropWhile p = b := by
  induction a with
  | nil =>
    rcases hb with rfl | ⟨c, r, rfl, hc⟩
    · exact ⟨rfl, rfl⟩
    · rw [List.nil_append, List.takeWhile_cons, List.dropWhile_cons, hc]; exact ⟨rfl, rfl⟩
  | cons x a ih =>
    have hx := ha x (by simp)
    obtain ⟨h1, h2⟩ := ih fun y hy => ha y (by simp [hy])
    rw [List.cons_append, List.takeWhile_cons, List.dropWhile_cons, if_pos hx, if_pos hx, h1, h2]
    exact ⟨rfl, rfl⟩
theorem oneS_enc (p : NV) (hg : goodS p = true) (t : List UInt8) (ht : t = [] ∨ ∃ t', t = 44 :: t') : oneS (encS p ++ t) = (p, t) := by
  obtain ⟨n, v⟩ := p
  simp only [goodS, Bool.and_eq_true, decide_eq_true_eq] at hg
  obtain ⟨⟨⟨⟨h1, h2⟩, h3⟩, h4⟩, h5⟩ := hg
  rw [List.all_eq_true] at h4 h5
  have hn : ∀ x ∈ n, inName x = true := fun x hx => by
    have := h4 x hx
    simp only [namedB, namedN, decide_eq_true_eq] at this
    unfold inName
    rw [Bool.and_eq_true, bne_iff_ne, bne_iff_ne]
    constructor
    · rintro rfl; simp at this
    · rintro rfl; simp at this
  have ht2 : t = [] ∨ ∃ c r, t = c :: r ∧ noComma c = false := by
    rcases ht with h | ⟨t', h⟩
    · exact .inl h
    · exact .inr ⟨44, t', h, rfl⟩
  have ht3 : t = [] ∨ ∃ c r, t = c :: r ∧ inName c = false := by
    rcases ht with h | ⟨t', h⟩
    · exact .inl h
    · exact .inr ⟨44, t', h, rfl⟩
  unfold encS
  by_cases hv : v = []
  · subst hv
    simp only [if_true]
    obtain ⟨e1, e2⟩ := tw_app inName n t hn ht3
    unfold oneS
    rw [e1, e2]
    rcases ht with rfl | ⟨t', rfl⟩
    · simp
    · simp
  · simp only [if_neg hv]
    have hq : ∀ x ∈ v, noQuote x = true := fun x hx => by
      have := h5 x hx
      simp only [plainB, plainN, decide_eq_true_eq] at this
      unfold noQuote
      rw [bne_iff_ne]
      rintro rfl
      simp at this
    by_cases hqu : quotedS v = true
    · simp only [if_pos hqu]
      have e : n ++ ([61, 34] ++ v ++ [34]) ++ t = n ++ (61 :: 34 :: (v ++ (34 :: t))) := by simp
      obtain ⟨e1, e2⟩ := tw_app inName n (61 :: 34 :: (v ++ (34 :: t))) hn (.inr ⟨61, _, rfl, rfl⟩)
      obtain ⟨e3, e4⟩ := tw_app noQuote v (34 :: t) hq (.inr ⟨34, t, rfl, rfl⟩)
      unfold oneS
      rw [e, e1, e2]
      simp only [if_true, e3, e4, List.drop_succ_cons, List.drop_zero]
    · simp only [if_neg hqu]
      obtain ⟨d, r, rfl⟩ : ∃ d r, v = d :: r := by cases v with
        | nil => exact absurd rfl hv
        | cons d r => exact ⟨d, r, rfl⟩
      have hd : d ≠ 34 := by
        have := hq d (by simp)
        unfold noQuote at this
        exact bne_iff_ne.1 this
      have hc : ∀ x ∈ d :: r, noComma x = true := fun x hx => by
        unfold noComma
        rw [bne_iff_ne]
        rintro rfl
        refine hqu ?_
        unfold quotedS
        rw [List.any_eq_true]
        exact ⟨44, hx, rfl⟩
      have e : n ++ ([61] ++ (d :: r)) ++ t = n ++ (61 :: (d :: (r ++ t))) := by simp
      obtain ⟨e1, e2⟩ := tw_app inName n (61 :: (d :: (r ++ t))) hn (.inr ⟨61, _, rfl, rfl⟩)
      obtain ⟨e3, e4⟩ := tw_app noComma (d :: r) t hc ht2
      rw [List.cons_append] at e3 e4
      unfold oneS
      rw [e, e1, e2]
      simp only [if_true, if_neg hd, e3, e4]
theorem encS_pos (p : NV) (hg : goodS p = true) : 0 < (encS p).length := by
  simp only [goodS, Bool.and_eq_true, decide_eq_true_eq] at hg
  unfold encS
  split
  · omega
  · split <;> simp <;> omega
theorem read_back : ∀ (l : List NV), l ≠ [] → l.all goodS = true → ∀ f : Nat, (joinS (l.map encS)).length ≤ f → readS f (joinS (l.map encS)) = some l
  | [], h, _ => absurd rfl h
  | p :: l, _, hg => fun f hf => by
    rw [List.all_cons, Bool.and_eq_true] at hg
    have hp := encS_pos p hg.1
    rw [List.map_cons, joinS_flat] at hf ⊢
    obtain ⟨f, rfl⟩ : ∃ g, f = g + 1 := ⟨f - 1, by rw [List.length_append] at hf; omega⟩
    rw [readS_succ]
    cases l with
    | nil =>
      simp only [List.map_nil, List.flatten_nil, List.append_nil] at hf ⊢
      have := oneS_enc p hg.1 [] (.inl rfl)
      rw [List.append_nil] at this
      rw [this]
      simp [nextS]
    | cons q l =>
      have ih := read_back (q :: l) (by simp) hg.2
      rw [List.map_cons, joinS_flat] at ih
      have et : ((((q :: l).map encS).map fun o => [44, 32] ++ o).flatten) = 44 :: (32 :: (encS q ++ ((l.map encS).map fun o => [44, 32] ++ o).flatten)) := by simp
      rw [et] at hf ⊢
      rw [oneS_enc p hg.1 _ (.inr ⟨_, rfl⟩)]
      have hq := encS_pos q (by have := hg.2; rw [List.all_cons, Bool.and_eq_true] at this; exact this.1)
      have hg2 : goOn (44 :: (32 :: (encS q ++ ((l.map encS).map fun o => [44, 32] ++ o).flatten))) = true := by
        unfold goOn
        rw [Bool.and_eq_true, decide_eq_true_eq, decide_eq_true_eq]
        exact ⟨rfl, by simp only [List.length_cons, List.length_append]; omega⟩
      unfold nextS
      rw [if_neg (by simp), if_pos hg2]
      simp only [List.drop_succ_cons, List.drop_zero]
      rw [ih f (by simp only [List.length_cons, List.length_append] at hf ⊢; omega)]
      rfl
theorem readAll_back (l : List NV) (hg : l.all goodS = true) : readAll (joinS (l.map encS)) = some l := by
  unfold readAll
  cases l with
  | nil => rfl
  | cons p l =>
    have hp := encS_pos p (by rw [List.all_cons, Bool.and_eq_true] at hg; exact hg.1)
    rw [if_neg (fun h => by have := congrArg List.length h; rw [List.map_cons, joinS_flat, List.length_append, List.length_nil] at this; omega)]
    exact read_back (p :: l) (by simp) hg _ (Nat.le_refl _)

theorem v41_to (l : List S39) : (l.map to41).map v41 = l.map v39 := by rw [List.map_map]; exact List.map_congr_left (fun _ _ => rfl)
theorem v39_to (l : List S41) : (l.map to39).map v39 = l.map v41 := by rw [List.map_map]; exact List.map_congr_left (fun _ _ => rfl)
/-- What Read tells, in the program and in the document: the same. -/
theorem reads_same (s : List UInt8) (o : Option (List NV)) : (outP s [] o = ([], 21) ∧ outR s [] o = ([], 21)) ∨
    (∃ l : List NV, outP s [] o = (l.map mk39, 0) ∧ outR s [] o = (l.map mk41, 0) ∧ resP [] l = (B s, 0)) := by
  cases o with
  | none => exact .inl ⟨rfl, rfl⟩
  | some l =>
    simp only [outP, outR, List.nil_append, v39_mks, v41_mks]
    by_cases h : resP [] l = (B s, 0)
    · exact .inr ⟨l, by rw [if_pos h], by rw [if_pos h], h⟩
    · exact .inl ⟨by rw [if_neg h], by rw [if_neg h]⟩
theorem readS_len : ∀ (f : Nat) (s : List UInt8) (l : List NV), readS f s = some l → l.length ≤ f
  | 0, s, l, h => by cases h
  | f + 1, s, l, h => by
    rw [readS_succ] at h
    unfold nextS at h
    split at h
    · cases h; simp
    · split at h
      · obtain ⟨l', h1, rfl⟩ := Option.map_eq_some_iff.1 h
        have := readS_len f _ l' h1
        simp; omega
      · cases h
theorem readAll_len (s : List UInt8) (l : List NV) (h : readAll s = some l) : l.length ≤ s.length := by
  unfold readAll at h
  split at h
  · cases h; simp
  · exact readS_len _ _ _ h

theorem back_j1 (s : List UInt8) (hs : s.length ≤ 900000) : Ev (fun k => foliotlaw19_ControlBack.j1 k (B s)) true := by
  apply Ev.step
  · intro k; rw [foliotlaw19_ControlBack.j1]
  refine Ev.bind (readP s hs) (Ev.bind (readRef s hs) ?_)
  cases ho : readAll s with
  | none => exact Ev.pos (by first | rfl | trivial) (Ev.neg (show ¬ ((21 : Int) = 0) by decide) (Ev.now _))
  | some l0 =>
    have hl0 := readAll_len s l0 ho
    simp only [outP, outR, List.nil_append, v39_mks, v41_mks]
    by_cases h : resP [] l0 = (B s, 0)
    · simp only [if_pos h]
      refine Ev.pos (by first | rfl | trivial) (Ev.pos (by first | rfl | trivial) ?_)
      have hb := list_prog (l0.map mk39) (by rw [List.length_map]; omega)
      rw [v39_mks, h] at hb
      refine Ev.bind hb (Ev.pos (by first | rfl | trivial) ?_)
      simp only [BEq.rfl]
      exact Ev.now _
    · simp only [if_neg h]
      exact Ev.pos (by first | rfl | trivial) (Ev.neg (show ¬ ((21 : Int) = 0) by decide) (Ev.now _))
/-- ControlBack, plainly. -/
theorem back (l : List S39) (hl : l.length ≤ 4398046511103) (a : ByteArray) : Ev (fun k => foliotlaw19_ControlBack.f k l a) true := by
  obtain ⟨s, hs⟩ : ∃ s, a = B s := ⟨_, B_of a⟩
  subst hs
  obtain ⟨b, hb, hsm⟩ := heavy_f l hl
  have triv : Ev (fun k => foliotlaw19_ControlBack.j0 k l (B s) true) true := by
    apply Ev.step
    · intro k; rw [foliotlaw19_ControlBack.j0]
    exact Ev.pos (by first | rfl | trivial) (Ev.now _)
  simp only [foliotlaw19_ControlBack.f, B_size]
  refine Ev.bind hb ?_
  cases b
  · simp only [Bool.false_eq_true, if_false]
    obtain ⟨hn, hsz⟩ := hsm rfl
    by_cases h4 : (s.length : Int) > 4096
    · rw [decide_eq_true h4]; exact triv
    · rw [decide_eq_false h4]
      apply Ev.step
      · intro k; rw [foliotlaw19_ControlBack.j0]
      refine Ev.neg (by simp) ?_
      have h41 := list_ref_f (l.map to41) (by rw [List.length_map]; omega) (fun x hx => by
        obtain ⟨y, hy, rfl⟩ := List.mem_map.1 hx
        have := hsz y hy
        exact ⟨by show y.f0.size ≤ _; omega, by show y.f1.size ≤ _; omega⟩)
      rw [v41_to] at h41
      refine Ev.bind (list_prog l (by omega)) (Ev.bind (theirs_f l hl) (Ev.bind h41 (Ev.pos (by first | rfl | trivial) ?_)))
      have j1 := back_j1 s (by omega)
      by_cases hg : (l.map v39).all goodS = true
      · have hR : resP [] (l.map v39) = (B (joinS ((l.map v39).map encS)), 0) := by unfold resP; rw [if_pos hg]; rfl
        rw [hR]
        refine Ev.pos (by first | rfl | trivial) ?_
        have hlen := joinS_len ((l.map v39).map encS) (fun o ho => by
          obtain ⟨p, hp, rfl⟩ := List.mem_map.1 ho
          exact encS_len (List.all_eq_true.1 hg p hp))
        simp only [List.length_map] at hlen
        have hrd := readP (joinS ((l.map v39).map encS)) (by omega)
        rw [readAll_back _ hg] at hrd
        have ho : outP (joinS ((l.map v39).map encS)) [] (some (l.map v39)) = ((l.map v39).map mk39, 0) := by
          simp only [outP, List.nil_append, v39_mks]
          rw [if_pos hR]
        rw [ho] at hrd
        refine Ev.bind hrd (Ev.pos (by first | rfl | trivial) ?_)
        refine Ev.bind (same_f l ((l.map v39).map mk39) hl (by rw [v39_mks])) (Ev.pos (by first | rfl | trivial) ?_)
        exact j1
      · have hR : resP [] (l.map v39) = (B [], 21) := by unfold resP; rw [if_neg hg]
        rw [hR]
        refine Ev.neg (show ¬ ((21 : Int) = 0) by decide) ?_
        exact j1
  · simp only [if_true]
    exact triv
end Go.Proofs.Ytpclhceafigibaa.U
