/- Functions and contracts, printed by a program over the kit's print (wip/fprint.py): some callees' contracts are typed by hand in texts of their own. -/
import Derived.Test.YtpclhceafigibaaPAllx0
namespace Go.Proofs.Ytpclhceafigibaa.PAll
open Go.RowKit Go.Proofs.YtpclhceafigibaaW.PrintWords Go.Proofs.YtpclhceafigibaaW.PrintLast Go.Proofs.YtpclhceafigibaaW.PrintMore
attribute [local go_sem] max2_int min2_int max_two min_two max_three min_three max_four min_four   -- for this text's walks alone
set_option linter.unusedVariables false
set_option linter.unusedSimpArgs false

/-! ### foliotref19_Pick: function 16 -/
mutual
def foliotref19_Pick.l0 : Nat → List (S41) → List (S41) → List (S41) → Int → Option ((List (S41)) × Bool)
  | 0, _, _, _, _ => none
  | k + 1, x0, x1, x6, x7 => if x7 < (x1.length : Int) then (foliotref19_Pick.l1 k x0 x1 x6 x7 false 0) else (some (x6, true))
def foliotref19_Pick.l1 : Nat → List (S41) → List (S41) → List (S41) → Int → Bool → Int → Option ((List (S41)) × Bool)
  | 0, _, _, _, _, _, _ => none
  | k + 1, x0, x1, x6, x7, x8, x9 => if x9 < (x0.length : Int) then (foliotref19_Pick.j2 k x0 x1 x6 x7 x8 x9 (!x8)) else (foliotref19_Pick.j2 k x0 x1 x6 x7 x8 x9 false)
def foliotref19_Pick.j2 : Nat → List (S41) → List (S41) → List (S41) → Int → Bool → Int → Bool → Option ((List (S41)) × Bool)
  | 0, _, _, _, _, _, _, _ => none
  | k + 1, x0, x1, x6, x7, x8, x9, x30 => if x30 = true then (if 0 ≤ x9 then (if x9 < (x0.length : Int) then (if 0 ≤ x7 then (if x7 < (x1.length : Int) then (if ((rd_T41 x0 x9).f0).toList = ((rd_T41 x1 x7).f0).toList then (if x6.length < 4398046511104 then (foliotref19_Pick.l1 k x0 x1 (x6 ++ [(⟨(rd_T41 x0 x9).f0, (rd_T41 x0 x9).f1⟩ : S41)]) x7 true (wrap64 (x9 + 1))) else (none)) else (foliotref19_Pick.l1 k x0 x1 x6 x7 x8 (wrap64 (x9 + 1)))) else (none)) else (none)) else (none)) else (none)) else (if x8 = true then (foliotref19_Pick.l0 k x0 x1 x6 (wrap64 (x7 + 1))) else (some (([] : List (S41)), false)))
end
def foliotref19_Pick.f (k : Nat) (l0 : List (S41)) (l1 : List (S41)) : Option ((List (S41)) × Bool) := (some (([] : List (S41)) : List (S41))).bind fun y209 => (if (l1.length : Int) = 0 then (if y209.length + l0.length < 4398046511104 then (some ((y209 ++ l0), true)) else (none)) else (foliotref19_Pick.l0 k l0 l1 y209 0))
theorem foliotref19_Pick.mono_l : ∀ k, (∀ y0 y1 y2 y3, LeO (foliotref19_Pick.l0 k y0 y1 y2 y3) (foliotref19_Pick.l0 (k + 1) y0 y1 y2 y3)) ∧ (∀ y0 y1 y2 y3 y4 y5, LeO (foliotref19_Pick.l1 k y0 y1 y2 y3 y4 y5) (foliotref19_Pick.l1 (k + 1) y0 y1 y2 y3 y4 y5)) ∧ (∀ y0 y1 y2 y3 y4 y5 y6, LeO (foliotref19_Pick.j2 k y0 y1 y2 y3 y4 y5 y6) (foliotref19_Pick.j2 (k + 1) y0 y1 y2 y3 y4 y5 y6))
  | 0 => ⟨fun _ _ _ _ r h => by simp [foliotref19_Pick.l0] at h, fun _ _ _ _ _ _ r h => by simp [foliotref19_Pick.l1] at h, fun _ _ _ _ _ _ _ r h => by simp [foliotref19_Pick.j2] at h⟩
  | k + 1 => by
    obtain ⟨ih0, ih1, ih2⟩ := foliotref19_Pick.mono_l k
    refine ⟨?_, ?_, ?_⟩
    · intro y0 y1 y2 y3
      unfold foliotref19_Pick.l0
      repeat' first
      | (with_reducible exact ih0 _ _ _ _)
      | (with_reducible exact ih1 _ _ _ _ _ _)
      | (with_reducible exact ih2 _ _ _ _ _ _ _)
      | (with_reducible exact LeO.refl _)
      | (with_reducible exact LeO.none _)
      | (with_reducible refine LeO.ite ?_ ?_)
      | (with_reducible refine LeO.bind ?_ (fun _ => ?_))
      | exact ih0 _ _ _ _
      | exact ih1 _ _ _ _ _ _
      | exact ih2 _ _ _ _ _ _ _
      | exact LeO.none _
      | refine LeO.ite ?_ ?_
      | refine LeO.bind ?_ (fun _ => ?_)
    · intro y0 y1 y2 y3 y4 y5
      unfold foliotref19_Pick.l1
      repeat' first
      | (with_reducible exact ih0 _ _ _ _)
      | (with_reducible exact ih1 _ _ _ _ _ _)
      | (with_reducible exact ih2 _ _ _ _ _ _ _)
      | (with_reducible exact LeO.refl _)
      | (with_reducible exact LeO.none _)
      | (with_reducible refine LeO.ite ?_ ?_)
      | (with_reducible refine LeO.bind ?_ (fun _ => ?_))
      | exact ih0 _ _ _ _
      | exact ih1 _ _ _ _ _ _
      | exact ih2 _ _ _ _ _ _ _
      | exact LeO.none _
      | refine LeO.ite ?_ ?_
      | refine LeO.bind ?_ (fun _ => ?_)
    · intro y0 y1 y2 y3 y4 y5 y6
      unfold foliotref19_Pick.j2
      repeat' first
      | (with_reducible exact ih0 _ _ _ _)
      | (with_reducible exact ih1 _ _ _ _ _ _)
      | (with_reducible exact ih2 _ _ _ _ _ _ _)
      | (with_reducible exact LeO.refl _)
      | (with_reducible exact LeO.none _)
      | (with_reducible refine LeO.ite ?_ ?_)
      | (with_reducible refine LeO.bind ?_ (fun _ => ?_))
      | exact ih0 _ _ _ _
      | exact ih1 _ _ _ _ _ _
      | exact ih2 _ _ _ _ _ _ _
      | exact LeO.none _
      | refine LeO.ite ?_ ?_
      | refine LeO.bind ?_ (fun _ => ?_)
theorem foliotref19_Pick.mono : ∀ a0 a1 k, LeO (foliotref19_Pick.f k a0 a1) (foliotref19_Pick.f (k + 1) a0 a1) := by
  intro a0 a1 k
  obtain ⟨ih0, ih1, ih2⟩ := foliotref19_Pick.mono_l k
  unfold foliotref19_Pick.f
  repeat' first
      | (with_reducible exact ih0 _ _ _ _)
      | (with_reducible exact ih1 _ _ _ _ _ _)
      | (with_reducible exact ih2 _ _ _ _ _ _ _)
      | (with_reducible exact LeO.refl _)
      | (with_reducible exact LeO.none _)
      | (with_reducible refine LeO.ite ?_ ?_)
      | (with_reducible refine LeO.bind ?_ (fun _ => ?_))
      | exact ih0 _ _ _ _
      | exact ih1 _ _ _ _ _ _
      | exact ih2 _ _ _ _ _ _ _
      | exact LeO.none _
      | refine LeO.ite ?_ ?_
      | refine LeO.bind ?_ (fun _ => ?_)
set_option maxHeartbeats 8000000 in
set_option maxRecDepth 100000 in
theorem foliotref19_Pick.calls (k : Nat) (A0 : Option Addr) (c0 : Nat) (l0 : List (S41)) (A1 : Option Addr) (c1 : Nat) (l1 : List (S41)) (r1 : List (S41)) (r2 : Bool) (w : World) (hr0 : Kd.C k41 w A0 l0.length l0) (hc0 : l0.length ≤ c0) (hr1 : Kd.C k41 w A1 l1.length l1) (hc1 : l1.length ≤ c1) (h : foliotref19_Pick.f k l0 l1 = some (r1, r2)) :
    Calls Try.prog 16 #[.slice A0 l0.length c0, .slice A1 l1.length c1] w fun e w' => ∃ v0_ : Value, e = .returned (.tuple #[v0_, .bool r2]) ∧ Kd.R k41 41 w' w.heap.size (fun _ => True) v0_ r1 ∧ Below w.heap.size w w' := by
  have hu41 := Try.underlying41
  have HR0 := Aside0.mk hr0
  have HC0 := Aside0.mk hc0
  clear hr0 hc0
  have HR1 := Aside0.mk hr1
  have HC1 := Aside0.mk hc1
  clear hr1 hc1
  have HB := Aside0.mk (Below.refl w.heap.size w)
  have H : ((some (([] : List (S41)) : List (S41))).bind fun y209 => (if (l1.length : Int) = 0 then (if y209.length + l0.length < 4398046511104 then (some ((y209 ++ l0), true)) else (none)) else (foliotref19_Pick.l0 k l0 l1 y209 0))) = some (r1, r2) := h
  clear h
  obtain ⟨y209, hy209⟩ : ∃ y_ : List (S41), y_ = (([] : List (S41))) := ⟨_, rfl⟩
  replace H : (if (l1.length : Int) = 0 then (if y209.length + l0.length < 4398046511104 then (some ((y209 ++ l0), true)) else (none)) else (foliotref19_Pick.l0 k l0 l1 y209 0)) = some (r1, r2) := by first | (rw [hy209]; with_reducible exact H) | (have H2_ := (Option.bind_some _ _).symm.trans H; rw [hy209]; with_reducible exact H2_) | (have H2_ := (Option.bind_some _ _).symm.trans H; with_reducible exact H2_) | with_reducible exact H | (rw [hy209]; exact H) | exact H
  have Ny209 := Aside0.mk hy209
  clear hy209
  by_cases c3 : (l1.length : Int) = 0
  · rw [if_pos c3] at H
    have c3b0 : ((l1.length : Int) == 0) = true := beq_iff_eq.mpr c3
    have c3b1 : ((l1.length : Int) != 0) = false := bne_eq_false_iff_eq.mpr c3
    clear c3
    by_cases c4 : y209.length + l0.length < 4398046511104
    · rw [if_pos c4] at H
      have LMc4 := Aside0.mk c4
      clear c4
      obtain ⟨y212, hy212⟩ : ∃ y_ : List (S41), y_ = (y209 ++ l0) := ⟨_, rfl⟩
      replace H : (some (y212, true)) = some (r1, r2) := by first | (rw [hy212]; with_reducible exact H) | (have H2_ := (Option.bind_some _ _).symm.trans H; rw [hy212]; with_reducible exact H2_) | (have H2_ := (Option.bind_some _ _).symm.trans H; with_reducible exact H2_) | with_reducible exact H | (rw [hy212]; exact H) | exact H
      have Ny212 := Aside0.mk hy212
      clear hy212
      simp only [Option.some.injEq, Prod.mk.injEq] at H
      obtain ⟨rfl, rfl⟩ := H
      go_enter Try.func16, Try.ntmps16
      go_wp2_with (first | ((with_reducible refine gate_dst (N := 10) rfl ?_); refine Kd.R_lit k41 _ 41 ?hg (N := 10) ?hd (xs := ([] : List (S41))) (inner := []) (ok := fun _ => True) (okp := fun _ => True) ?hr ?hp (fun _ hk => hk) trivial (Below.refl _ _) (Nat.le_refl _) (by simp) ?_; (case hd => rfl); (case hg => rfl); (case hr => first | (go_simp; done) | (go_simp; rfl)); (case hp => exact (Reps.none _ _)); intro v210 w5 ho6 hb hg_ hnew_; clear hg_ hnew_; (first | rw [← Ny209.out] at ho6 | (simp only [Int.reduceToNat] at ho6; rw [← Ny209.out] at ho6)); have n0_ := Aside0.mk (Kd.R_lower ho6 (below_size (by repeat (first | (with_reducible first | exact HB.out | apply below_alloc | apply pw_below_drewN | apply below_drew1) | exact HB.out)))); have n1_ := Aside0.mk (below_step (by repeat (first | (with_reducible first | exact HB.out | apply below_alloc | apply pw_below_drewN | apply below_drew1) | exact HB.out)) hb); clear HB; have HO211 := n0_; have HB := n1_; clear n0_ n1_; clear hb ho6) | ((with_reducible refine gate_builtin (b := .append) (xs := #[.tmp 14, .tmp 15]) rfl ?_); at_builtin; refine Kd.R_append_rows k41 (w0 := w) w.heap.size rfl (.tmp 14) (.tmp 15) 28 41 (.agg #[(.string ⟨#[]⟩), (.string ⟨#[]⟩)]) 32 rfl Try.underlying28 info41 rfl (by decide) (by omega) v210 y209 l0 _ _ _ (fun _ => True) (fun _ => False) rfl rfl ?aO ?aR (fun _ _ h => h) (fun _ h => h.elim) ?aF ?aB ?aS ?aL ?_; (case aR => repeat (first | exact (Kd.C_below HR0.out HB.out) | (with_reducible refine Kd.C_alloc ?_ _) | (with_reducible refine Kd.C_drewN ?_ _) | (with_reducible refine Kd.C_drew ?_))); (case aB => exact (by repeat (first | (with_reducible first | exact HB.out | apply below_alloc | apply pw_below_drewN | apply below_drew1) | exact HB.out))); (case aF => exact (fun _ _ => trivial)); (case aO => exact (by (with_reducible repeat (first | apply Kd.R_alloc | apply Kd.R_drewN | apply Kd.R_drew)); exact HO211.out)); (case aS => exact (below_size (by repeat (first | (with_reducible first | exact HB.out | apply below_alloc | apply pw_below_drewN | apply below_drew1) | exact HB.out)))); (case aL => have := LMc4.out; omega); intro v213 w7 ho hb hg hat; rw [← Ny212.out] at ho; have n0_ := Aside0.mk (hb); have n1_ := Aside0.mk (ho); clear HB; clear HO211; have HB := n0_; have HO214 := n1_; clear n0_ n1_; clear ho hb hg hat))
      repeat (go_quiet (first | ((with_reducible refine gate_dst (N := 10) rfl ?_); refine Kd.R_lit k41 _ 41 ?hg (N := 10) ?hd (xs := ([] : List (S41))) (inner := []) (ok := fun _ => True) (okp := fun _ => True) ?hr ?hp (fun _ hk => hk) trivial (Below.refl _ _) (Nat.le_refl _) (by simp) ?_; (case hd => rfl); (case hg => rfl); (case hr => first | (go_simp; done) | (go_simp; rfl)); (case hp => exact (Reps.none _ _)); intro v210 w5 ho6 hb hg_ hnew_; clear hg_ hnew_; (first | rw [← Ny209.out] at ho6 | (simp only [Int.reduceToNat] at ho6; rw [← Ny209.out] at ho6)); have n0_ := Aside0.mk (Kd.R_lower ho6 (below_size (by repeat (first | (with_reducible first | exact HB.out | apply below_alloc | apply pw_below_drewN | apply below_drew1) | exact HB.out)))); have n1_ := Aside0.mk (below_step (by repeat (first | (with_reducible first | exact HB.out | apply below_alloc | apply pw_below_drewN | apply below_drew1) | exact HB.out)) hb); clear HB; have HO211 := n0_; have HB := n1_; clear n0_ n1_; clear hb ho6) | ((with_reducible refine gate_builtin (b := .append) (xs := #[.tmp 14, .tmp 15]) rfl ?_); at_builtin; refine Kd.R_append_rows k41 (w0 := w) w.heap.size rfl (.tmp 14) (.tmp 15) 28 41 (.agg #[(.string ⟨#[]⟩), (.string ⟨#[]⟩)]) 32 rfl Try.underlying28 info41 rfl (by decide) (by omega) v210 y209 l0 _ _ _ (fun _ => True) (fun _ => False) rfl rfl ?aO ?aR (fun _ _ h => h) (fun _ h => h.elim) ?aF ?aB ?aS ?aL ?_; (case aR => repeat (first | exact (Kd.C_below HR0.out HB.out) | (with_reducible refine Kd.C_alloc ?_ _) | (with_reducible refine Kd.C_drewN ?_ _) | (with_reducible refine Kd.C_drew ?_))); (case aB => exact (by repeat (first | (with_reducible first | exact HB.out | apply below_alloc | apply pw_below_drewN | apply below_drew1) | exact HB.out))); (case aF => exact (fun _ _ => trivial)); (case aO => exact (by (with_reducible repeat (first | apply Kd.R_alloc | apply Kd.R_drewN | apply Kd.R_drew)); exact HO211.out)); (case aS => exact (below_size (by repeat (first | (with_reducible first | exact HB.out | apply below_alloc | apply pw_below_drewN | apply below_drew1) | exact HB.out)))); (case aL => have := LMc4.out; omega); intro v213 w7 ho hb hg hat; rw [← Ny212.out] at ho; have n0_ := Aside0.mk (hb); have n1_ := Aside0.mk (ho); clear HB; clear HO211; have HB := n0_; have HO214 := n1_; clear n0_ n1_; clear ho hb hg hat)); try go_wp2_with (first | ((with_reducible refine gate_dst (N := 10) rfl ?_); refine Kd.R_lit k41 _ 41 ?hg (N := 10) ?hd (xs := ([] : List (S41))) (inner := []) (ok := fun _ => True) (okp := fun _ => True) ?hr ?hp (fun _ hk => hk) trivial (Below.refl _ _) (Nat.le_refl _) (by simp) ?_; (case hd => rfl); (case hg => rfl); (case hr => first | (go_simp; done) | (go_simp; rfl)); (case hp => exact (Reps.none _ _)); intro v210 w5 ho6 hb hg_ hnew_; clear hg_ hnew_; (first | rw [← Ny209.out] at ho6 | (simp only [Int.reduceToNat] at ho6; rw [← Ny209.out] at ho6)); have n0_ := Aside0.mk (Kd.R_lower ho6 (below_size (by repeat (first | (with_reducible first | exact HB.out | apply below_alloc | apply pw_below_drewN | apply below_drew1) | exact HB.out)))); have n1_ := Aside0.mk (below_step (by repeat (first | (with_reducible first | exact HB.out | apply below_alloc | apply pw_below_drewN | apply below_drew1) | exact HB.out)) hb); clear HB; have HO211 := n0_; have HB := n1_; clear n0_ n1_; clear hb ho6) | ((with_reducible refine gate_builtin (b := .append) (xs := #[.tmp 14, .tmp 15]) rfl ?_); at_builtin; refine Kd.R_append_rows k41 (w0 := w) w.heap.size rfl (.tmp 14) (.tmp 15) 28 41 (.agg #[(.string ⟨#[]⟩), (.string ⟨#[]⟩)]) 32 rfl Try.underlying28 info41 rfl (by decide) (by omega) v210 y209 l0 _ _ _ (fun _ => True) (fun _ => False) rfl rfl ?aO ?aR (fun _ _ h => h) (fun _ h => h.elim) ?aF ?aB ?aS ?aL ?_; (case aR => repeat (first | exact (Kd.C_below HR0.out HB.out) | (with_reducible refine Kd.C_alloc ?_ _) | (with_reducible refine Kd.C_drewN ?_ _) | (with_reducible refine Kd.C_drew ?_))); (case aB => exact (by repeat (first | (with_reducible first | exact HB.out | apply below_alloc | apply pw_below_drewN | apply below_drew1) | exact HB.out))); (case aF => exact (fun _ _ => trivial)); (case aO => exact (by (with_reducible repeat (first | apply Kd.R_alloc | apply Kd.R_drewN | apply Kd.R_drew)); exact HO211.out)); (case aS => exact (below_size (by repeat (first | (with_reducible first | exact HB.out | apply below_alloc | apply pw_below_drewN | apply below_drew1) | exact HB.out)))); (case aL => have := LMc4.out; omega); intro v213 w7 ho hb hg hat; rw [← Ny212.out] at ho; have n0_ := Aside0.mk (hb); have n1_ := Aside0.mk (ho); clear HB; clear HO211; have HB := n0_; have HO214 := n1_; clear n0_ n1_; clear ho hb hg hat)))
      go_ret2
      exact ⟨_, by first | rfl | (simp [errW_none, errW_some] <;> rfl) | (simp [*, errW_none, errW_some] <;> rfl), by (with_reducible repeat (first | apply Kd.R_alloc | apply Kd.R_drewN | apply Kd.R_drew)); exact HO214.out, by repeat (first | (with_reducible first | exact HB.out | apply below_alloc | apply pw_below_drewN | apply below_drew1) | exact HB.out)⟩
    · rw [if_neg c4] at H
      exact absurd H (by simp)
  · rw [if_neg c3] at H
    have c3b0 : ((l1.length : Int) == 0) = false := beq_eq_false_iff_ne.mpr c3
    have c3b1 : ((l1.length : Int) != 0) = true := bne_iff_ne.mpr c3
    have c3b2 : ¬ (l1 = []) := fun h_ => c3 (by rw [h_]; rfl)
    have H' := Aside0.mk H
    clear H
    go_enter Try.func16, Try.ntmps16
    go_wp2_with (first | ((with_reducible refine gate_dst (N := 10) rfl ?_); refine Kd.R_lit k41 _ 41 ?hg (N := 10) ?hd (xs := ([] : List (S41))) (inner := []) (ok := fun _ => True) (okp := fun _ => True) ?hr ?hp (fun _ hk => hk) trivial (Below.refl _ _) (Nat.le_refl _) (by simp) ?_; (case hd => rfl); (case hg => rfl); (case hr => first | (go_simp; done) | (go_simp; rfl)); (case hp => exact (Reps.none _ _)); intro v210 w8 ho9 hb hg_ hnew_; clear hg_ hnew_; (first | rw [← Ny209.out] at ho9 | (simp only [Int.reduceToNat] at ho9; rw [← Ny209.out] at ho9)); have n0_ := Aside0.mk (Kd.R_lower ho9 (below_size (by repeat (first | (with_reducible first | exact HB.out | apply below_alloc | apply pw_below_drewN | apply below_drew1) | exact HB.out)))); have n1_ := Aside0.mk (below_step (by repeat (first | (with_reducible first | exact HB.out | apply below_alloc | apply pw_below_drewN | apply below_drew1) | exact HB.out)) hb); clear HB; have HO211 := n0_; have HB := n1_; clear n0_ n1_; clear hb ho9))
    repeat (go_quiet (first | ((with_reducible refine gate_dst (N := 10) rfl ?_); refine Kd.R_lit k41 _ 41 ?hg (N := 10) ?hd (xs := ([] : List (S41))) (inner := []) (ok := fun _ => True) (okp := fun _ => True) ?hr ?hp (fun _ hk => hk) trivial (Below.refl _ _) (Nat.le_refl _) (by simp) ?_; (case hd => rfl); (case hg => rfl); (case hr => first | (go_simp; done) | (go_simp; rfl)); (case hp => exact (Reps.none _ _)); intro v210 w8 ho9 hb hg_ hnew_; clear hg_ hnew_; (first | rw [← Ny209.out] at ho9 | (simp only [Int.reduceToNat] at ho9; rw [← Ny209.out] at ho9)); have n0_ := Aside0.mk (Kd.R_lower ho9 (below_size (by repeat (first | (with_reducible first | exact HB.out | apply below_alloc | apply pw_below_drewN | apply below_drew1) | exact HB.out)))); have n1_ := Aside0.mk (below_step (by repeat (first | (with_reducible first | exact HB.out | apply below_alloc | apply pw_below_drewN | apply below_drew1) | exact HB.out)) hb); clear HB; have HO211 := n0_; have HB := n1_; clear n0_ n1_; clear hb ho9)); try go_wp2_with (first | ((with_reducible refine gate_dst (N := 10) rfl ?_); refine Kd.R_lit k41 _ 41 ?hg (N := 10) ?hd (xs := ([] : List (S41))) (inner := []) (ok := fun _ => True) (okp := fun _ => True) ?hr ?hp (fun _ hk => hk) trivial (Below.refl _ _) (Nat.le_refl _) (by simp) ?_; (case hd => rfl); (case hg => rfl); (case hr => first | (go_simp; done) | (go_simp; rfl)); (case hp => exact (Reps.none _ _)); intro v210 w8 ho9 hb hg_ hnew_; clear hg_ hnew_; (first | rw [← Ny209.out] at ho9 | (simp only [Int.reduceToNat] at ho9; rw [← Ny209.out] at ho9)); have n0_ := Aside0.mk (Kd.R_lower ho9 (below_size (by repeat (first | (with_reducible first | exact HB.out | apply below_alloc | apply pw_below_drewN | apply below_drew1) | exact HB.out)))); have n1_ := Aside0.mk (below_step (by repeat (first | (with_reducible first | exact HB.out | apply below_alloc | apply pw_below_drewN | apply below_drew1) | exact HB.out)) hb); clear HB; have HO211 := n0_; have HB := n1_; clear n0_ n1_; clear hb ho9)))
    go_loopg [6, 7] k (fun kq v6 v7 w' => ∃ (x6_1 : List (S41)) (x7_1 : Int), v7 = .int .i64 x7_1 ∧ Aside0 (foliotref19_Pick.l0 kq l0 l1 x6_1 x7_1 = some (r1, r2)) ∧ Aside0 (kq ≤ k) ∧ Aside0 (Kd.R k41 41 w' w.heap.size (fun _ => True) v6 x6_1) ∧ Aside0 (Below w.heap.size w w'))
    case atStart => exact ⟨(y209), (0), (by first | rfl | (simp; done) | (simp [*]; done)), H', ⟨Nat.le_refl _⟩, ⟨by (with_reducible repeat (first | apply Kd.R_alloc | apply Kd.R_drewN | apply Kd.R_drew)); exact HO211.out⟩, ⟨by repeat (first | (with_reducible first | exact HB.out | apply below_alloc | apply pw_below_drewN | apply below_drew1) | exact HB.out)⟩⟩
    case round =>
      clear H'
      try clear c1
      try clear p2
      try clear c3
      try clear c3b0
      try clear c3b1
      try clear c3b2
      try clear c4
      obtain ⟨x6_1, x7_1, rfl, HA, HK1, HO_6, HB⟩ := hrel
      cases gk with
      | zero => exact absurd HA.out (by simp [foliotref19_Pick.l0])
      | succ k1 =>
        have H := HA.out
        clear HA
        simp only [foliotref19_Pick.l0] at H
        by_cases c10 : x7_1 < (l1.length : Int)
        · rw [if_pos c10] at H
          have c10b0 : decide (x7_1 < (l1.length : Int)) = true := decide_eq_true c10
          clear c10
          have H' := Aside0.mk H
          clear H
          go_wp2
          repeat (go_quiet (fail); try go_wp2)
          go_loopg [6, 8, 9] k1 (fun kq v6 v8 v9 w' => ∃ (x6_2 : List (S41)) (x8_2 : Bool) (x9_2 : Int), v8 = .bool x8_2 ∧ v9 = .int .i64 x9_2 ∧ Aside0 (foliotref19_Pick.l1 kq l0 l1 x6_2 x7_1 x8_2 x9_2 = some (r1, r2)) ∧ Aside0 (kq ≤ k1) ∧ Aside0 (Kd.R k41 41 w' w.heap.size (fun _ => True) v6 x6_2) ∧ Aside0 (Below w.heap.size w w'))
          case atStart => exact ⟨(x6_1), (false), (0), (by first | rfl | (simp; done) | (simp [*]; done)), (by first | rfl | (simp; done) | (simp [*]; done)), H', ⟨Nat.le_refl _⟩, ⟨by (with_reducible repeat (first | apply Kd.R_alloc | apply Kd.R_drewN | apply Kd.R_drew)); exact HO_6.out⟩, ⟨by repeat (first | (with_reducible first | exact HB.out | apply below_alloc | apply pw_below_drewN | apply below_drew1) | exact HB.out)⟩⟩
          case round =>
            clear H'
            try clear c1
            try clear p2
            try clear c3
            try clear c3b0
            try clear c3b1
            try clear c3b2
            try clear c4
            try clear c10
            try clear c10b0
            try clear p2
            obtain ⟨x6_2, x8_2, x9_2, rfl, rfl, HA, HK2, HO_6, HB⟩ := hrel
            cases gk with
            | zero => exact absurd HA.out (by simp [foliotref19_Pick.l1])
            | succ k2 =>
              have H := HA.out
              clear HA
              simp only [foliotref19_Pick.l1] at H
              have HC11 := Aside0.mk H
              clear H
              go_upto_region 9 with (fail)
              repeat (go_quiet (fail); go_upto_region 9 with (fail))
              go_cut [30] (fun v30 wc => ∃ (kq : Nat) (x30_10 : Bool), v30 = .bool x30_10 ∧ Aside0 (foliotref19_Pick.j2 kq l0 l1 x6_2 x7_1 x8_2 x9_2 x30_10 = some (r1, r2)) ∧ Aside0 (kq ≤ k2) ∧ Aside0 (Kd.R k41 41 wc w.heap.size (fun _ => True) u6 x6_2) ∧ Aside0 (Below w.heap.size w wc))
              case first =>
                have H := HC11.out
                clear HC11
                by_cases c12 : x9_2 < (l0.length : Int)
                · rw [if_pos c12] at H
                  have c12b0 : decide (x9_2 < (l0.length : Int)) = true := decide_eq_true c12
                  clear c12
                  (first | rw [c12b0] | (simp only [i64_w, i32_w]; rw [c12b0]) | skip)
                  have H' := Aside0.mk H
                  clear H
                  go_wp2
                  repeat (go_quiet (fail); try go_wp2)
                  go_meet
                  case rel => exact ⟨_, (!x8_2), (by first | rfl | (simp; done) | (simp [*]; done)), H', ⟨by have := HK1.out; have := HK2.out; first | omega | exact Nat.le_refl _⟩, ⟨by (with_reducible repeat (first | apply Kd.R_alloc | apply Kd.R_drewN | apply Kd.R_drew)); exact HO_6.out⟩, ⟨by repeat (first | (with_reducible first | exact HB.out | apply below_alloc | apply pw_below_drewN | apply below_drew1) | exact HB.out)⟩⟩
                · rw [if_neg c12] at H
                  have c12b0 : decide (x9_2 < (l0.length : Int)) = false := decide_eq_false c12
                  clear c12
                  (first | rw [c12b0] | (simp only [i64_w, i32_w]; rw [c12b0]) | skip)
                  have H' := Aside0.mk H
                  clear H
                  go_wp2
                  repeat (go_quiet (fail); try go_wp2)
                  go_meet
                  case rel => exact ⟨_, (false), (by first | rfl | (simp; done) | (simp [*]; done)), H', ⟨by have := HK1.out; have := HK2.out; first | omega | exact Nat.le_refl _⟩, ⟨by (with_reducible repeat (first | apply Kd.R_alloc | apply Kd.R_drewN | apply Kd.R_drew)); exact HO_6.out⟩, ⟨by repeat (first | (with_reducible first | exact HB.out | apply below_alloc | apply pw_below_drewN | apply below_drew1) | exact HB.out)⟩⟩
              case rest =>
                clear HC11
                try clear c1
                try clear p2
                try clear c3
                try clear c3b0
                try clear c3b1
                try clear c3b2
                try clear c4
                try clear c10
                try clear c10b0
                try clear c12
                try clear c12b0
                try clear p2
                obtain ⟨kq, x30_10, rfl, HA, HJ10, HO_6, HB⟩ := hcut
                cases kq with
                | zero => exact absurd HA.out (by simp [foliotref19_Pick.j2])
                | succ kj10 =>
                  have H := HA.out
                  clear HA
                  simp only [foliotref19_Pick.j2] at H
                  by_cases c13 : x30_10 = true
                  · subst c13
                    have H1 : (if 0 ≤ x9_2 then (if x9_2 < (l0.length : Int) then (if 0 ≤ x7_1 then (if x7_1 < (l1.length : Int) then (if ((rd_T41 l0 x9_2).f0).toList = ((rd_T41 l1 x7_1).f0).toList then (if x6_2.length < 4398046511104 then (foliotref19_Pick.l1 kj10 l0 l1 (x6_2 ++ [(⟨(rd_T41 l0 x9_2).f0, (rd_T41 l0 x9_2).f1⟩ : S41)]) x7_1 true (wrap64 (x9_2 + 1))) else (none)) else (foliotref19_Pick.l1 kj10 l0 l1 x6_2 x7_1 x8_2 (wrap64 (x9_2 + 1)))) else (none)) else (none)) else (none)) else (none)) = some (r1, r2) := by rw [if_pos rfl] at H; exact H
                    clear H
                    have H := H1
                    clear H1
                    by_cases c14 : 0 ≤ x9_2
                    · rw [if_pos c14] at H
                      have c14b0 : decide (0 ≤ x9_2) = true := decide_eq_true c14
                      clear c14
                      by_cases c15 : x9_2 < (l0.length : Int)
                      · rw [if_pos c15] at H
                        have c15b0 : decide (x9_2 < (l0.length : Int)) = true := decide_eq_true c15
                        clear c15
                        by_cases c16 : 0 ≤ x7_1
                        · rw [if_pos c16] at H
                          have c16b0 : decide (0 ≤ x7_1) = true := decide_eq_true c16
                          clear c16
                          by_cases c17 : x7_1 < (l1.length : Int)
                          · rw [if_pos c17] at H
                            have c17b0 : decide (x7_1 < (l1.length : Int)) = true := decide_eq_true c17
                            clear c17
                            by_cases c18 : ((rd_T41 l0 x9_2).f0).toList = ((rd_T41 l1 x7_1).f0).toList
                            · rw [if_pos c18] at H
                              have c18b0 : (((rd_T41 l0 x9_2).f0).toList == ((rd_T41 l1 x7_1).f0).toList) = true := beq_iff_eq.mpr c18
                              have c18b1 : (((rd_T41 l0 x9_2).f0).toList != ((rd_T41 l1 x7_1).f0).toList) = false := bne_eq_false_iff_eq.mpr c18
                              clear c18
                              by_cases c19 : x6_2.length < 4398046511104
                              · rw [if_pos c19] at H
                                have LMc19 := Aside0.mk c19
                                clear c19
                                obtain ⟨y218, hy218⟩ : ∃ y_ : List (S41), y_ = (x6_2 ++ [(⟨(rd_T41 l0 x9_2).f0, (rd_T41 l0 x9_2).f1⟩ : S41)]) := ⟨_, rfl⟩
                                replace H : (foliotref19_Pick.l1 kj10 l0 l1 y218 x7_1 true (wrap64 (x9_2 + 1))) = some (r1, r2) := by first | (rw [hy218]; with_reducible exact H) | (have H2_ := (Option.bind_some _ _).symm.trans H; rw [hy218]; with_reducible exact H2_) | (have H2_ := (Option.bind_some _ _).symm.trans H; with_reducible exact H2_) | with_reducible exact H | (rw [hy218]; exact H) | exact H
                                have Ny218 := Aside0.mk hy218
                                clear hy218
                                have H' := Aside0.mk H
                                clear H
                                have p215 : 0 ≤ (x9_2 : Int) := of_decide_eq_true (by first | (with_reducible assumption) | assumption)
                                have q215 : x9_2 < (l0.length : Int) := of_decide_eq_true (by first | (with_reducible assumption) | assumption)
                                obtain ⟨ad215, e215, hx215_0, hx215_1⟩ := at_T41 HR0.out x9_2 p215 q215
                                cases e215
                                replace hx215_0 := (HB.out.cell (World.block_lt_of_cell? w _ hx215_0)).trans hx215_0
                                replace hx215_1 := (HB.out.cell (World.block_lt_of_cell? w _ hx215_1)).trans hx215_1
                                replace p215 := eq_true p215
                                replace q215 := eq_true q215
                                have p216 : 0 ≤ (x7_1 : Int) := of_decide_eq_true (by first | (with_reducible assumption) | assumption)
                                have q216 : x7_1 < (l1.length : Int) := of_decide_eq_true (by first | (with_reducible assumption) | assumption)
                                obtain ⟨ad216, e216, hx216_0, hx216_1⟩ := at_T41 HR1.out x7_1 p216 q216
                                cases e216
                                replace hx216_0 := (HB.out.cell (World.block_lt_of_cell? w _ hx216_0)).trans hx216_0
                                replace hx216_1 := (HB.out.cell (World.block_lt_of_cell? w _ hx216_1)).trans hx216_1
                                replace p216 := eq_true p216
                                replace q216 := eq_true q216
                                have p217 : 0 ≤ (x9_2 : Int) := of_decide_eq_true (by first | (with_reducible assumption) | assumption)
                                have q217 : x9_2 < (l0.length : Int) := of_decide_eq_true (by first | (with_reducible assumption) | assumption)
                                obtain ⟨ad217, e217, hx217_0, hx217_1⟩ := at_T41 HR0.out x9_2 p217 q217
                                obtain rfl : ad215 = ad217 := (by injection e217)
                                replace hx217_0 := (HB.out.cell (World.block_lt_of_cell? w _ hx217_0)).trans hx217_0
                                replace hx217_1 := (HB.out.cell (World.block_lt_of_cell? w _ hx217_1)).trans hx217_1
                                replace p217 := eq_true p217
                                replace q217 := eq_true q217
                                go_wp2_with (first | ((with_reducible refine gate_builtin (b := .append) (xs := #[.tmp 44, .tmp 49]) rfl ?_); at_builtin; refine Kd.R_append k41 (w0 := w) w.heap.size rfl (.tmp 44) (.tmp 49) 28 41 (.agg #[(.string ⟨#[]⟩), (.string ⟨#[]⟩)]) 32 rfl Try.underlying28 info41 rfl (by decide) (by omega) u6 x6_2 (⟨(rd_T41 l0 x9_2).f0, (rd_T41 l0 x9_2).f1⟩ : S41) [.string ((rd_T41 l0 x9_2).f0), .string ((rd_T41 l0 x9_2).f1)] (fun _ => True) (fun _ => False) rfl rfl ?aP (fun _ hk => hk.elim) ?aF ?aO ?aB ?aS ?aL ?_; (case aP => exact k41_mkM _ _ _ (⟨(rd_T41 l0 x9_2).f0, (rd_T41 l0 x9_2).f1⟩ : S41)); (case aB => exact (by repeat (first | (with_reducible first | exact HB.out | apply below_alloc | apply pw_below_drewN | apply below_drew1) | exact HB.out))); (case aF => exact (fun _ _ => trivial)); (case aO => exact (by (with_reducible repeat (first | apply Kd.R_alloc | apply Kd.R_drewN | apply Kd.R_drew)); exact HO_6.out)); (case aS => exact (below_size (by repeat (first | (with_reducible first | exact HB.out | apply below_alloc | apply pw_below_drewN | apply below_drew1) | exact HB.out)))); (case aL => have := LMc19.out; omega); intro v219 w20 ho hb hg hat; rw [← Ny218.out] at ho; have n0_ := Aside0.mk (hb); have n1_ := Aside0.mk (ho); clear HB; clear HO_6; have HB := n0_; have HO220 := n1_; clear n0_ n1_; clear ho hb hg hat))
                                repeat (go_quiet (first | ((with_reducible refine gate_builtin (b := .append) (xs := #[.tmp 44, .tmp 49]) rfl ?_); at_builtin; refine Kd.R_append k41 (w0 := w) w.heap.size rfl (.tmp 44) (.tmp 49) 28 41 (.agg #[(.string ⟨#[]⟩), (.string ⟨#[]⟩)]) 32 rfl Try.underlying28 info41 rfl (by decide) (by omega) u6 x6_2 (⟨(rd_T41 l0 x9_2).f0, (rd_T41 l0 x9_2).f1⟩ : S41) [.string ((rd_T41 l0 x9_2).f0), .string ((rd_T41 l0 x9_2).f1)] (fun _ => True) (fun _ => False) rfl rfl ?aP (fun _ hk => hk.elim) ?aF ?aO ?aB ?aS ?aL ?_; (case aP => exact k41_mkM _ _ _ (⟨(rd_T41 l0 x9_2).f0, (rd_T41 l0 x9_2).f1⟩ : S41)); (case aB => exact (by repeat (first | (with_reducible first | exact HB.out | apply below_alloc | apply pw_below_drewN | apply below_drew1) | exact HB.out))); (case aF => exact (fun _ _ => trivial)); (case aO => exact (by (with_reducible repeat (first | apply Kd.R_alloc | apply Kd.R_drewN | apply Kd.R_drew)); exact HO_6.out)); (case aS => exact (below_size (by repeat (first | (with_reducible first | exact HB.out | apply below_alloc | apply pw_below_drewN | apply below_drew1) | exact HB.out)))); (case aL => have := LMc19.out; omega); intro v219 w20 ho hb hg hat; rw [← Ny218.out] at ho; have n0_ := Aside0.mk (hb); have n1_ := Aside0.mk (ho); clear HB; clear HO_6; have HB := n0_; have HO220 := n1_; clear n0_ n1_; clear ho hb hg hat)); try go_wp2_with (first | ((with_reducible refine gate_builtin (b := .append) (xs := #[.tmp 44, .tmp 49]) rfl ?_); at_builtin; refine Kd.R_append k41 (w0 := w) w.heap.size rfl (.tmp 44) (.tmp 49) 28 41 (.agg #[(.string ⟨#[]⟩), (.string ⟨#[]⟩)]) 32 rfl Try.underlying28 info41 rfl (by decide) (by omega) u6 x6_2 (⟨(rd_T41 l0 x9_2).f0, (rd_T41 l0 x9_2).f1⟩ : S41) [.string ((rd_T41 l0 x9_2).f0), .string ((rd_T41 l0 x9_2).f1)] (fun _ => True) (fun _ => False) rfl rfl ?aP (fun _ hk => hk.elim) ?aF ?aO ?aB ?aS ?aL ?_; (case aP => exact k41_mkM _ _ _ (⟨(rd_T41 l0 x9_2).f0, (rd_T41 l0 x9_2).f1⟩ : S41)); (case aB => exact (by repeat (first | (with_reducible first | exact HB.out | apply below_alloc | apply pw_below_drewN | apply below_drew1) | exact HB.out))); (case aF => exact (fun _ _ => trivial)); (case aO => exact (by (with_reducible repeat (first | apply Kd.R_alloc | apply Kd.R_drewN | apply Kd.R_drew)); exact HO_6.out)); (case aS => exact (below_size (by repeat (first | (with_reducible first | exact HB.out | apply below_alloc | apply pw_below_drewN | apply below_drew1) | exact HB.out)))); (case aL => have := LMc19.out; omega); intro v219 w20 ho hb hg hat; rw [← Ny218.out] at ho; have n0_ := Aside0.mk (hb); have n1_ := Aside0.mk (ho); clear HB; clear HO_6; have HB := n0_; have HO220 := n1_; clear n0_ n1_; clear ho hb hg hat)))
                                go_roundg kj10
                                case measure => have := HK1.out; have := HK2.out; have := HJ10.out; omega
                                case rel => exact ⟨(y218), (true), (wrap64 (x9_2 + 1)), (by first | rfl | (simp; done) | (simp [*]; done)), (by first | rfl | (simp; done) | (simp [*]; done)), H', ⟨by have := HK1.out; have := HK2.out; have := HJ10.out; omega⟩, ⟨by (with_reducible repeat (first | apply Kd.R_alloc | apply Kd.R_drewN | apply Kd.R_drew)); exact HO220.out⟩, ⟨by repeat (first | (with_reducible first | exact HB.out | apply below_alloc | apply pw_below_drewN | apply below_drew1) | exact HB.out)⟩⟩
                              · rw [if_neg c19] at H
                                exact absurd H (by simp)
                            · rw [if_neg c18] at H
                              have c18b0 : (((rd_T41 l0 x9_2).f0).toList == ((rd_T41 l1 x7_1).f0).toList) = false := beq_eq_false_iff_ne.mpr c18
                              have c18b1 : (((rd_T41 l0 x9_2).f0).toList != ((rd_T41 l1 x7_1).f0).toList) = true := bne_iff_ne.mpr c18
                              have H' := Aside0.mk H
                              clear H
                              have p215 : 0 ≤ (x9_2 : Int) := of_decide_eq_true (by first | (with_reducible assumption) | assumption)
                              have q215 : x9_2 < (l0.length : Int) := of_decide_eq_true (by first | (with_reducible assumption) | assumption)
                              obtain ⟨ad215, e215, hx215_0, hx215_1⟩ := at_T41 HR0.out x9_2 p215 q215
                              cases e215
                              replace hx215_0 := (HB.out.cell (World.block_lt_of_cell? w _ hx215_0)).trans hx215_0
                              replace hx215_1 := (HB.out.cell (World.block_lt_of_cell? w _ hx215_1)).trans hx215_1
                              replace p215 := eq_true p215
                              replace q215 := eq_true q215
                              have p216 : 0 ≤ (x7_1 : Int) := of_decide_eq_true (by first | (with_reducible assumption) | assumption)
                              have q216 : x7_1 < (l1.length : Int) := of_decide_eq_true (by first | (with_reducible assumption) | assumption)
                              obtain ⟨ad216, e216, hx216_0, hx216_1⟩ := at_T41 HR1.out x7_1 p216 q216
                              cases e216
                              replace hx216_0 := (HB.out.cell (World.block_lt_of_cell? w _ hx216_0)).trans hx216_0
                              replace hx216_1 := (HB.out.cell (World.block_lt_of_cell? w _ hx216_1)).trans hx216_1
                              replace p216 := eq_true p216
                              replace q216 := eq_true q216
                              go_wp2
                              repeat (go_quiet (fail); try go_wp2)
                              go_roundg kj10
                              case measure => have := HK1.out; have := HK2.out; have := HJ10.out; omega
                              case rel => exact ⟨(x6_2), (x8_2), (wrap64 (x9_2 + 1)), (by first | rfl | (simp; done) | (simp [*]; done)), (by first | rfl | (simp; done) | (simp [*]; done)), H', ⟨by have := HK1.out; have := HK2.out; have := HJ10.out; omega⟩, ⟨by (with_reducible repeat (first | apply Kd.R_alloc | apply Kd.R_drewN | apply Kd.R_drew)); exact HO_6.out⟩, ⟨by repeat (first | (with_reducible first | exact HB.out | apply below_alloc | apply pw_below_drewN | apply below_drew1) | exact HB.out)⟩⟩
                          · rw [if_neg c17] at H
                            exact absurd H (by simp)
                        · rw [if_neg c16] at H
                          exact absurd H (by simp)
                      · rw [if_neg c15] at H
                        exact absurd H (by simp)
                    · rw [if_neg c14] at H
                      exact absurd H (by simp)
                  · replace c13 := Bool.eq_false_iff.mpr c13
                    subst c13
                    have H1 : (if x8_2 = true then (foliotref19_Pick.l0 kj10 l0 l1 x6_2 (wrap64 (x7_1 + 1))) else (some (([] : List (S41)), false))) = some (r1, r2) := by rw [if_neg (show ¬ (false = true) by decide)] at H; exact H
                    clear H
                    have H := H1
                    clear H1
                    by_cases c21 : x8_2 = true
                    · subst c21
                      have H1 : (foliotref19_Pick.l0 kj10 l0 l1 x6_2 (wrap64 (x7_1 + 1))) = some (r1, r2) := by rw [if_pos rfl] at H; exact H
                      clear H
                      have H := H1
                      clear H1
                      have H' := Aside0.mk H
                      clear H
                      go_wp2
                      repeat (go_quiet (fail); try go_wp2)
                      go_roundg kj10
                      case measure => have := HK1.out; have := HK2.out; have := HJ10.out; omega
                      case rel => exact ⟨(x6_2), (wrap64 (x7_1 + 1)), (by first | rfl | (simp; done) | (simp [*]; done)), H', ⟨by have := HK1.out; have := HK2.out; have := HJ10.out; omega⟩, ⟨by (with_reducible repeat (first | apply Kd.R_alloc | apply Kd.R_drewN | apply Kd.R_drew)); exact HO_6.out⟩, ⟨by repeat (first | (with_reducible first | exact HB.out | apply below_alloc | apply pw_below_drewN | apply below_drew1) | exact HB.out)⟩⟩
                    · replace c21 := Bool.eq_false_iff.mpr c21
                      subst c21
                      have H1 : (some (([] : List (S41)), false)) = some (r1, r2) := by rw [if_neg (show ¬ (false = true) by decide)] at H; exact H
                      clear H
                      have H := H1
                      clear H1
                      simp only [Option.some.injEq, Prod.mk.injEq] at H
                      obtain ⟨rfl, rfl⟩ := H
                      go_wp2
                      repeat (go_quiet (fail); try go_wp2)
                      go_ret2
                      exact ⟨_, by first | rfl | (simp [errW_none, errW_some] <;> rfl) | (simp [*, errW_none, errW_some] <;> rfl), by first | exact Kd.R_nil _ _ _ _ _ | exact Kd.N_nil _ _ _ _ _ | exact Kd.V_nil _ _ _ _ _ | exact Kd.Q_nil _ _ _ _ _ | exact Kd.S_nil _ _ _ _ _, by repeat (first | (with_reducible first | exact HB.out | apply below_alloc | apply pw_below_drewN | apply below_drew1) | exact HB.out)⟩
        · rw [if_neg c10] at H
          have c10b0 : decide (x7_1 < (l1.length : Int)) = false := decide_eq_false c10
          clear c10
          simp only [Option.some.injEq, Prod.mk.injEq] at H
          obtain ⟨rfl, rfl⟩ := H
          go_wp2
          repeat (go_quiet (fail); try go_wp2)
          go_ret2
          exact ⟨_, by first | rfl | (simp [errW_none, errW_some] <;> rfl) | (simp [*, errW_none, errW_some] <;> rfl), by (with_reducible repeat (first | apply Kd.R_alloc | apply Kd.R_drewN | apply Kd.R_drew)); exact HO_6.out, by repeat (first | (with_reducible first | exact HB.out | apply below_alloc | apply pw_below_drewN | apply below_drew1) | exact HB.out)⟩

end Go.Proofs.Ytpclhceafigibaa.PAll
