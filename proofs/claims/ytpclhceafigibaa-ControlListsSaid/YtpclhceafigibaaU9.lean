/- The statement of ControlLists, plainly. -/
import Derived.Test.YtpclhceafigibaaU7
import Derived.Test.YtpclhceafigibaaPAllx8
namespace Go.Proofs.Ytpclhceafigibaa.U
set_option linter.unusedVariables false
set_option linter.unusedSimpArgs false
open Go.RowKit Go.Proofs.YtpclhceafigibaaW.PrintWords Go.Proofs.YtpclhceafigibaaW.PrintLast Go.Proofs.YtpclhceafigibaaW.PrintMore Go.Proofs.Ytpclhceafigibaa.PAll

theorem to39_41 (l : List S39) : (l.map to41).map to39 = l := by rw [List.map_map]; exact (List.map_congr_left (fun _ _ => rfl)).trans (List.map_id l)
theorem v41_to (l : List S39) : (l.map to41).map v41 = l.map v39 := by rw [List.map_map]; exact List.map_congr_left (fun _ _ => rfl)
theorem v39_to (l : List S41) : (l.map to39).map v39 = l.map v41 := by rw [List.map_map]; exact List.map_congr_left (fun _ _ => rfl)
/-- What Read tells, in the program and in the document: the same. -/
theorem readS_len : ∀ (f : Nat) (s : List UInt8) (l : List NV), readS f s = some l → l.length ≤ f
  | 0, s, l, h => by cases h
  | f + 1, s, l, h => by
    rw [readS_succ] at h
    unfold nextS at h
    split at h
    · cases h; simp
    · split at h
      · obtain ⟨l', h1, rfl⟩ := Option.map_eq_some_iff.1 h
        have := readS_len f _ l' h1
        simp; omega
      · cases h
theorem readAll_len (s : List UInt8) (l : List NV) (h : readAll s = some l) : l.length ≤ s.length := by
  unfold readAll at h
  split at h
  · cases h; simp
  · exact readS_len _ _ _ h
theorem good_s (x : S39) : control_Good.f x.f0 x.f1 = some (goodS (v39 x)) := by
  have := good_prog x.f0.data.toList x.f1.data.toList
  rwa [← B_of, ← B_of] at this
theorem good_r (x : S39) (h : x.f0.size ≤ 4096 ∧ x.f1.size ≤ 4096) : Ev (fun k => foliotref19_Good.f k x.f0 x.f1) (goodS (v39 x)) := by
  have := good_ref x.f0.data.toList x.f1.data.toList (by rw [← Lib.size_eq]; omega) (by rw [← Lib.size_eq]; omega)
  rwa [← B_of, ← B_of] at this
theorem lists_l0 (l names : List S39) (hl : l.length ≤ 4096) (hn : names.length ≤ 4096) (hsz : ∀ x ∈ l, x.f0.size ≤ 4096 ∧ x.f1.size ≤ 4096) : ∀ d i : Nat, i + d = l.length →
    Ev (fun k => foliotlaw19_ControlLists.l0 k l names (i : Int)) true
  | 0, i, h => by
    apply Ev.step
    · intro k; rw [foliotlaw19_ControlLists.l0]
    refine Ev.neg (by omega) ?_
    have hp : control_Pick.f l names = some (if names.length = 0 then (l, true) else match pickAll l names with | some r => (r, true) | none => ([], false)) := by
      unfold control_Pick.f; rw [if_pos (by omega)]; rfl
    simp only [hp, Option.bind_some]
    refine Ev.bind (theirs_f l (by omega)) (Ev.bind (theirs_f names (by omega)) (Ev.bind (pick_ref (l.map to41) (names.map to41) (by rw [List.length_map]; omega) (by rw [List.length_map]; omega)) ?_))
    rw [List.length_map, pick_41]
    by_cases h0 : names.length = 0
    · simp only [if_pos h0, BEq.rfl]
      refine Ev.pos (by first | rfl | trivial) (Ev.bind (ours_f (l.map to41) (by rw [List.length_map]; omega)) (Ev.bind (same_f l _ (by omega) (by rw [to39_41])) (Ev.now _)))
    · simp only [if_neg h0]
      cases hpa : pickAll l names with
      | none =>
        simp only [Option.map_none, outPick, BEq.rfl]
        exact Ev.pos (by first | rfl | trivial) (Ev.bind (ours_f [] (by simp)) (Ev.bind (same_f [] _ (by simp) rfl) (Ev.now _)))
      | some r =>
        have hr : r.length = names.length := by
          have : ∀ (ns : List S39) (r : List S39), pickAll l ns = some r → r.length = ns.length := by
            intro ns
            induction ns with
            | nil => intro r hr; cases hr; rfl
            | cons v ns ih =>
              intro r hr
              rw [pickAll] at hr
              obtain ⟨x, _, hr⟩ := Option.bind_eq_some_iff.1 hr
              obtain ⟨r', hr', rfl⟩ := Option.map_eq_some_iff.1 hr
              simp [ih r' hr']
          exact this names r hpa
        simp only [Option.map_some, outPick, List.nil_append, BEq.rfl]
        exact Ev.pos (by first | rfl | trivial) (Ev.bind (ours_f (r.map to41) (by rw [List.length_map]; omega)) (Ev.bind (same_f r _ (by omega) (by rw [to39_41])) (Ev.now _)))
  | d + 1, i, h => by
    have hi : i < l.length := by omega
    apply Ev.step
    · intro k; rw [foliotlaw19_ControlLists.l0]
    simp only [rd39 l i hi, good_s, Option.bind_some, w64_succ i (by omega)]
    refine Ev.pos (by omega) (Ev.pos (by omega) ?_)
    refine Ev.bind (good_r l[i] (hsz _ (List.getElem_mem hi))) ?_
    exact Ev.neg (by simp) (lists_l0 l names hl hn hsz d (i + 1) (by omega))
/-- ControlLists, plainly. -/
theorem lists (l names : List S39) (hl : l.length ≤ 4398046511103) (hnl : names.length ≤ 4398046511103) (a : ByteArray) : Ev (fun k => foliotlaw19_ControlLists.f k l names a) true := by
  obtain ⟨s, hs⟩ : ∃ s, a = B s := ⟨_, B_of a⟩
  subst hs
  obtain ⟨b, hb, hsm⟩ := heavy_f l hl
  obtain ⟨b2, hb2, hsm2⟩ := heavy_f names hnl
  have triv : Ev (fun k => foliotlaw19_ControlLists.j0 k l names (B s) true) true := by
    apply Ev.step
    · intro k; rw [foliotlaw19_ControlLists.j0]
    exact Ev.pos (by first | rfl | trivial) (Ev.now _)
  simp only [foliotlaw19_ControlLists.f, B_size]
  refine Ev.bind hb ?_
  cases b
  · refine Ev.neg (by simp) (Ev.bind hb2 ?_)
    cases b2
    · refine Ev.neg (by simp) ?_
      obtain ⟨hn, hsz⟩ := hsm rfl
      obtain ⟨hn2, hsz2⟩ := hsm2 rfl
      by_cases h4 : (s.length : Int) > 4096
      · rw [decide_eq_true h4]; exact triv
      · rw [decide_eq_false h4]
        apply Ev.step
        · intro k; rw [foliotlaw19_ControlLists.j0]
        refine Ev.neg (by simp) ?_
        have h41 := list_ref_f (l.map to41) (by rw [List.length_map]; omega) (fun x hx => by
          obtain ⟨y, hy, rfl⟩ := List.mem_map.1 hx
          have := hsz y hy
          exact ⟨by show y.f0.size ≤ _; omega, by show y.f1.size ≤ _; omega⟩)
        rw [v41_to] at h41
        refine Ev.bind (list_prog l (by omega)) (Ev.bind (theirs_f l hl) (Ev.bind h41 (Ev.bind (readP s (by omega)) (Ev.bind (readRef s (by omega)) (Ev.pos (by first | rfl | trivial) (Ev.pos (by first | rfl | trivial) ?_))))))
        have go : Ev (fun k => foliotlaw19_ControlLists.j1 k l names false) true := by
          apply Ev.step
          · intro k; rw [foliotlaw19_ControlLists.j1]
          exact Ev.neg (by simp) (lists_l0 l names hn hn2 hsz l.length 0 (by omega))
        have hlen : ∀ l0, readAll s = some l0 → l0.length ≤ 4398046511103 := fun l0 h => by have := readAll_len s l0 h; omega
        cases ho : readAll s with
        | none =>
          exact Ev.pos (by first | rfl | trivial) (Ev.bind (ours_f [] (by simp)) (Ev.bind (same_f [] _ (by simp) rfl) go))
        | some l0 =>
          have h0 := hlen l0 ho
          simp only [outP, outR, List.nil_append, v39_mks, v41_mks]
          by_cases h : resP [] l0 = (B s, 0)
          · simp only [if_pos h]
            exact Ev.pos (by first | rfl | trivial) (Ev.bind (ours_f (l0.map mk41) (by rw [List.length_map]; omega)) (Ev.bind (same_f (l0.map mk39) _ (by rw [List.length_map]; omega) (by rw [v39_to, v39_mks, v41_mks])) go))
          · simp only [if_neg h]
            exact Ev.pos (by first | rfl | trivial) (Ev.bind (ours_f [] (by simp)) (Ev.bind (same_f [] _ (by simp) rfl) go))
    · exact Ev.pos (by first | rfl | trivial) triv
  · exact Ev.pos (by first | rfl | trivial) triv
end Go.Proofs.Ytpclhceafigibaa.U
