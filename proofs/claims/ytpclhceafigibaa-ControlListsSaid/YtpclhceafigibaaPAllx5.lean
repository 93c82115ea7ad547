/- Functions and contracts, printed by a program over the kit's print (wip/fprint.py): some callees' contracts are typed by hand in texts of their own. -/
import Derived.Test.YtpclhceafigibaaPAllx0
namespace Go.Proofs.Ytpclhceafigibaa.PAll
open Go.RowKit Go.Proofs.YtpclhceafigibaaW.PrintWords Go.Proofs.YtpclhceafigibaaW.PrintLast Go.Proofs.YtpclhceafigibaaW.PrintMore
attribute [local go_sem] max2_int min2_int max_two min_two max_three min_three max_four min_four   -- for this text's walks alone
set_option linter.unusedVariables false
set_option linter.unusedSimpArgs false

/-! ### foliotref19_one: function 24 -/
mutual
def foliotref19_one.j1 : Nat → ByteArray → Int → ByteArray → ByteArray → Option (ByteArray × ByteArray × ByteArray)
  | 0, _, _, _, _ => none
  | k + 1, x0, x5, x160000, x160001 => if 0 ≤ x5 then (if x5 ≤ (x0.size : Int) then (if x5 = (x0.size : Int) then (foliotref19_one.j2 k x0 x5 true (x0.extract 0 (x5 : Int).toNat) x160001) else (if x5 < (x0.size : Int) then (foliotref19_one.j2 k x0 x5 ((bt x0 x5) == 44) (x0.extract 0 (x5 : Int).toNat) x160001) else (none))) else (none)) else (none)
def foliotref19_one.j2 : Nat → ByteArray → Int → Bool → ByteArray → ByteArray → Option (ByteArray × ByteArray × ByteArray)
  | 0, _, _, _, _, _ => none
  | k + 1, x0, x5, x39, x160000, x160001 => if x39 = true then (if 0 ≤ x5 then (if x5 ≤ (x0.size : Int) then (some (x160000, x160001, x0.extract (x5 : Int).toNat x0.size)) else (none)) else (none)) else (if (wrap64 (x5 + 1)) < (x0.size : Int) then (if 0 ≤ (wrap64 (x5 + 1)) then (foliotref19_one.j3 k x0 (wrap64 (x5 + 1)) (wrap64 (x5 + 1)) ((bt x0 (wrap64 (x5 + 1))) == 34) x160000 x160001) else (none)) else (foliotref19_one.j3 k x0 (wrap64 (x5 + 1)) (wrap64 (x5 + 1)) false x160000 x160001))
def foliotref19_one.j3 : Nat → ByteArray → Int → Int → Bool → ByteArray → ByteArray → Option (ByteArray × ByteArray × ByteArray)
  | 0, _, _, _, _, _, _ => none
  | k + 1, x0, x5, x6, x56, x160000, x160001 => if x56 = true then (foliotref19_one.l1 k x0 x5 (wrap64 (x6 + 1)) x160000 x160001) else (foliotref19_one.l2 k x0 x5 x6 x160000 x160001)
def foliotref19_one.l1 : Nat → ByteArray → Int → Int → ByteArray → ByteArray → Option (ByteArray × ByteArray × ByteArray)
  | 0, _, _, _, _, _ => none
  | k + 1, x0, x5, x6, x160000, x160001 => if x6 < (x0.size : Int) then (if 0 ≤ x6 then (if (bt x0 x6) = 34 then (if 0 ≤ (wrap64 (x5 + 1)) then (if (wrap64 (x5 + 1)) ≤ x6 then (if x6 ≤ (x0.size : Int) then (if 0 ≤ (mn (wrap64 (x6 + 1)) (x0.size : Int)) then (if (mn (wrap64 (x6 + 1)) (x0.size : Int)) ≤ (x0.size : Int) then (some (x160000, x0.extract ((wrap64 (x5 + 1)) : Int).toNat (x6 : Int).toNat, x0.extract ((mn (wrap64 (x6 + 1)) (x0.size : Int)) : Int).toNat x0.size)) else (none)) else (none)) else (none)) else (none)) else (none)) else (foliotref19_one.l1 k x0 x5 (wrap64 (x6 + 1)) x160000 x160001)) else (none)) else (if 0 ≤ (wrap64 (x5 + 1)) then (if (wrap64 (x5 + 1)) ≤ x6 then (if x6 ≤ (x0.size : Int) then (if 0 ≤ (mn (wrap64 (x6 + 1)) (x0.size : Int)) then (if (mn (wrap64 (x6 + 1)) (x0.size : Int)) ≤ (x0.size : Int) then (some (x160000, x0.extract ((wrap64 (x5 + 1)) : Int).toNat (x6 : Int).toNat, x0.extract ((mn (wrap64 (x6 + 1)) (x0.size : Int)) : Int).toNat x0.size)) else (none)) else (none)) else (none)) else (none)) else (none))
def foliotref19_one.l2 : Nat → ByteArray → Int → Int → ByteArray → ByteArray → Option (ByteArray × ByteArray × ByteArray)
  | 0, _, _, _, _, _ => none
  | k + 1, x0, x5, x6, x160000, x160001 => if x6 < (x0.size : Int) then (if 0 ≤ x6 then (if (bt x0 x6) = 44 then (if 0 ≤ x5 then (if x5 ≤ x6 then (if x6 ≤ (x0.size : Int) then (some (x160000, x0.extract (x5 : Int).toNat (x6 : Int).toNat, x0.extract (x6 : Int).toNat x0.size)) else (none)) else (none)) else (none)) else (foliotref19_one.l2 k x0 x5 (wrap64 (x6 + 1)) x160000 x160001)) else (none)) else (if 0 ≤ x5 then (if x5 ≤ x6 then (if x6 ≤ (x0.size : Int) then (if 0 ≤ x6 then (some (x160000, x0.extract (x5 : Int).toNat (x6 : Int).toNat, x0.extract (x6 : Int).toNat x0.size)) else (none)) else (none)) else (none)) else (none))
def foliotref19_one.l0 : Nat → ByteArray → Int → ByteArray → ByteArray → Option (ByteArray × ByteArray × ByteArray)
  | 0, _, _, _, _ => none
  | k + 1, x0, x5, x160000, x160001 => if x5 < (x0.size : Int) then (if 0 ≤ x5 then (if (bt x0 x5) = 61 then (foliotref19_one.j1 k x0 x5 x160000 x160001) else (if (bt x0 x5) = 44 then (foliotref19_one.j1 k x0 x5 x160000 x160001) else (foliotref19_one.l0 k x0 (wrap64 (x5 + 1)) x160000 x160001))) else (none)) else (foliotref19_one.j1 k x0 x5 x160000 x160001)
end
def foliotref19_one.f (k : Nat) (a0 : ByteArray) : Option (ByteArray × ByteArray × ByteArray) := foliotref19_one.l0 k a0 0 (⟨#[]⟩ : ByteArray) (⟨#[]⟩ : ByteArray)
theorem foliotref19_one.mono_l : ∀ k, (∀ y0 y1 y2 y3, LeO (foliotref19_one.j1 k y0 y1 y2 y3) (foliotref19_one.j1 (k + 1) y0 y1 y2 y3)) ∧ (∀ y0 y1 y2 y3 y4, LeO (foliotref19_one.j2 k y0 y1 y2 y3 y4) (foliotref19_one.j2 (k + 1) y0 y1 y2 y3 y4)) ∧ (∀ y0 y1 y2 y3 y4 y5, LeO (foliotref19_one.j3 k y0 y1 y2 y3 y4 y5) (foliotref19_one.j3 (k + 1) y0 y1 y2 y3 y4 y5)) ∧ (∀ y0 y1 y2 y3 y4, LeO (foliotref19_one.l1 k y0 y1 y2 y3 y4) (foliotref19_one.l1 (k + 1) y0 y1 y2 y3 y4)) ∧ (∀ y0 y1 y2 y3 y4, LeO (foliotref19_one.l2 k y0 y1 y2 y3 y4) (foliotref19_one.l2 (k + 1) y0 y1 y2 y3 y4)) ∧ (∀ y0 y1 y2 y3, LeO (foliotref19_one.l0 k y0 y1 y2 y3) (foliotref19_one.l0 (k + 1) y0 y1 y2 y3))
  | 0 => ⟨fun _ _ _ _ r h => by simp [foliotref19_one.j1] at h, fun _ _ _ _ _ r h => by simp [foliotref19_one.j2] at h, fun _ _ _ _ _ _ r h => by simp [foliotref19_one.j3] at h, fun _ _ _ _ _ r h => by simp [foliotref19_one.l1] at h, fun _ _ _ _ _ r h => by simp [foliotref19_one.l2] at h, fun _ _ _ _ r h => by simp [foliotref19_one.l0] at h⟩
  | k + 1 => by
    obtain ⟨ih0, ih1, ih2, ih3, ih4, ih5⟩ := foliotref19_one.mono_l k
    refine ⟨?_, ?_, ?_, ?_, ?_, ?_⟩
    · intro y0 y1 y2 y3
      unfold foliotref19_one.j1
      repeat' first
      | (with_reducible exact ih0 _ _ _ _)
      | (with_reducible exact ih1 _ _ _ _ _)
      | (with_reducible exact ih2 _ _ _ _ _ _)
      | (with_reducible exact ih3 _ _ _ _ _)
      | (with_reducible exact ih4 _ _ _ _ _)
      | (with_reducible exact ih5 _ _ _ _)
      | (with_reducible exact LeO.refl _)
      | (with_reducible exact LeO.none _)
      | (with_reducible refine LeO.ite ?_ ?_)
      | (with_reducible refine LeO.bind ?_ (fun _ => ?_))
      | exact ih0 _ _ _ _
      | exact ih1 _ _ _ _ _
      | exact ih2 _ _ _ _ _ _
      | exact ih3 _ _ _ _ _
      | exact ih4 _ _ _ _ _
      | exact ih5 _ _ _ _
      | exact LeO.none _
      | refine LeO.ite ?_ ?_
      | refine LeO.bind ?_ (fun _ => ?_)
    · intro y0 y1 y2 y3 y4
      unfold foliotref19_one.j2
      repeat' first
      | (with_reducible exact ih0 _ _ _ _)
      | (with_reducible exact ih1 _ _ _ _ _)
      | (with_reducible exact ih2 _ _ _ _ _ _)
      | (with_reducible exact ih3 _ _ _ _ _)
      | (with_reducible exact ih4 _ _ _ _ _)
      | (with_reducible exact ih5 _ _ _ _)
      | (with_reducible exact LeO.refl _)
      | (with_reducible exact LeO.none _)
      | (with_reducible refine LeO.ite ?_ ?_)
      | (with_reducible refine LeO.bind ?_ (fun _ => ?_))
      | exact ih0 _ _ _ _
      | exact ih1 _ _ _ _ _
      | exact ih2 _ _ _ _ _ _
      | exact ih3 _ _ _ _ _
      | exact ih4 _ _ _ _ _
      | exact ih5 _ _ _ _
      | exact LeO.none _
      | refine LeO.ite ?_ ?_
      | refine LeO.bind ?_ (fun _ => ?_)
    · intro y0 y1 y2 y3 y4 y5
      unfold foliotref19_one.j3
      repeat' first
      | (with_reducible exact ih0 _ _ _ _)
      | (with_reducible exact ih1 _ _ _ _ _)
      | (with_reducible exact ih2 _ _ _ _ _ _)
      | (with_reducible exact ih3 _ _ _ _ _)
      | (with_reducible exact ih4 _ _ _ _ _)
      | (with_reducible exact ih5 _ _ _ _)
      | (with_reducible exact LeO.refl _)
      | (with_reducible exact LeO.none _)
      | (with_reducible refine LeO.ite ?_ ?_)
      | (with_reducible refine LeO.bind ?_ (fun _ => ?_))
      | exact ih0 _ _ _ _
      | exact ih1 _ _ _ _ _
      | exact ih2 _ _ _ _ _ _
      | exact ih3 _ _ _ _ _
      | exact ih4 _ _ _ _ _
      | exact ih5 _ _ _ _
      | exact LeO.none _
      | refine LeO.ite ?_ ?_
      | refine LeO.bind ?_ (fun _ => ?_)
    · intro y0 y1 y2 y3 y4
      unfold foliotref19_one.l1
      repeat' first
      | (with_reducible exact ih0 _ _ _ _)
      | (with_reducible exact ih1 _ _ _ _ _)
      | (with_reducible exact ih2 _ _ _ _ _ _)
      | (with_reducible exact ih3 _ _ _ _ _)
      | (with_reducible exact ih4 _ _ _ _ _)
      | (with_reducible exact ih5 _ _ _ _)
      | (with_reducible exact LeO.refl _)
      | (with_reducible exact LeO.none _)
      | (with_reducible refine LeO.ite ?_ ?_)
      | (with_reducible refine LeO.bind ?_ (fun _ => ?_))
      | exact ih0 _ _ _ _
      | exact ih1 _ _ _ _ _
      | exact ih2 _ _ _ _ _ _
      | exact ih3 _ _ _ _ _
      | exact ih4 _ _ _ _ _
      | exact ih5 _ _ _ _
      | exact LeO.none _
      | refine LeO.ite ?_ ?_
      | refine LeO.bind ?_ (fun _ => ?_)
    · intro y0 y1 y2 y3 y4
      unfold foliotref19_one.l2
      repeat' first
      | (with_reducible exact ih0 _ _ _ _)
      | (with_reducible exact ih1 _ _ _ _ _)
      | (with_reducible exact ih2 _ _ _ _ _ _)
      | (with_reducible exact ih3 _ _ _ _ _)
      | (with_reducible exact ih4 _ _ _ _ _)
      | (with_reducible exact ih5 _ _ _ _)
      | (with_reducible exact LeO.refl _)
      | (with_reducible exact LeO.none _)
      | (with_reducible refine LeO.ite ?_ ?_)
      | (with_reducible refine LeO.bind ?_ (fun _ => ?_))
      | exact ih0 _ _ _ _
      | exact ih1 _ _ _ _ _
      | exact ih2 _ _ _ _ _ _
      | exact ih3 _ _ _ _ _
      | exact ih4 _ _ _ _ _
      | exact ih5 _ _ _ _
      | exact LeO.none _
      | refine LeO.ite ?_ ?_
      | refine LeO.bind ?_ (fun _ => ?_)
    · intro y0 y1 y2 y3
      unfold foliotref19_one.l0
      repeat' first
      | (with_reducible exact ih0 _ _ _ _)
      | (with_reducible exact ih1 _ _ _ _ _)
      | (with_reducible exact ih2 _ _ _ _ _ _)
      | (with_reducible exact ih3 _ _ _ _ _)
      | (with_reducible exact ih4 _ _ _ _ _)
      | (with_reducible exact ih5 _ _ _ _)
      | (with_reducible exact LeO.refl _)
      | (with_reducible exact LeO.none _)
      | (with_reducible refine LeO.ite ?_ ?_)
      | (with_reducible refine LeO.bind ?_ (fun _ => ?_))
      | exact ih0 _ _ _ _
      | exact ih1 _ _ _ _ _
      | exact ih2 _ _ _ _ _ _
      | exact ih3 _ _ _ _ _
      | exact ih4 _ _ _ _ _
      | exact ih5 _ _ _ _
      | exact LeO.none _
      | refine LeO.ite ?_ ?_
      | refine LeO.bind ?_ (fun _ => ?_)
theorem foliotref19_one.mono : ∀ a0 k, LeO (foliotref19_one.f k a0) (foliotref19_one.f (k + 1) a0) := by
  intro a0 k
  obtain ⟨ih0, ih1, ih2, ih3, ih4, ih5⟩ := foliotref19_one.mono_l k
  unfold foliotref19_one.f
  repeat' first
      | (with_reducible exact ih0 _ _ _ _)
      | (with_reducible exact ih1 _ _ _ _ _)
      | (with_reducible exact ih2 _ _ _ _ _ _)
      | (with_reducible exact ih3 _ _ _ _ _)
      | (with_reducible exact ih4 _ _ _ _ _)
      | (with_reducible exact ih5 _ _ _ _)
      | (with_reducible exact LeO.refl _)
      | (with_reducible exact LeO.none _)
      | (with_reducible refine LeO.ite ?_ ?_)
      | (with_reducible refine LeO.bind ?_ (fun _ => ?_))
      | exact ih0 _ _ _ _
      | exact ih1 _ _ _ _ _
      | exact ih2 _ _ _ _ _ _
      | exact ih3 _ _ _ _ _
      | exact ih4 _ _ _ _ _
      | exact ih5 _ _ _ _
      | exact LeO.none _
      | refine LeO.ite ?_ ?_
      | refine LeO.bind ?_ (fun _ => ?_)
def foliotref19_one.T15 : Bool × List (List Nat × List Nat) := (true, [([], []), ([], []), ([], []), ([2], [2]), ([], []), ([4], [4]), ([3, 5], [3, 5]), ([1, 6], [1, 6]), ([0, 0], [0]), ([7, 8, 0, 1, 2, 3, 4, 5, 6, 7, 8], [7])])
def foliotref19_one.B15 : List Nat := [0, 0, 0, 4, 0, 16, 60, 126, 1, 511]
theorem foliotref19_one.tab15 : rtab .any (opsOf Try.f24 15) = foliotref19_one.T15 := by kernel_rfl
theorem foliotref19_one.bits15 : waitsOk foliotref19_one.T15.2 foliotref19_one.B15 = true := by kernel_rfl
set_option maxHeartbeats 8000000 in
set_option maxRecDepth 100000 in
theorem foliotref19_one.calls (k : Nat) (a0 : ByteArray) (r1 : ByteArray) (r2 : ByteArray) (r3 : ByteArray) (w : World) (h : foliotref19_one.f k a0 = some (r1, r2, r3)) :
    Calls Try.prog 24 #[.string a0] w fun e w' => e = .returned (.tuple #[.agg #[.string r1, .string r2], .string r3]) ∧ Below w.heap.size w w' := by
  have hu41 := Try.underlying41
  have HB := Aside0.mk (Below.refl w.heap.size w)
  have H : (foliotref19_one.l0 k a0 0 (⟨#[]⟩ : ByteArray) (⟨#[]⟩ : ByteArray)) = some (r1, r2, r3) := h
  clear h
  have HC2 := Aside0.mk H
  clear H
  go_enter Try.func24, Try.ntmps24
  go_upto_block 0 with (first | ((with_reducible refine gate_dst (N := 2) rfl ?_); refine box_event ?hg (N := 2) ?hd (cs := #[.string (⟨#[]⟩ : ByteArray), .string (⟨#[]⟩ : ByteArray)]) (t := 41) ?hr ?_; (case hd => rfl); (case hg => rfl); (case hr => first | (go_simp; done) | (go_simp; rfl)); intro gb158 hg w3 hbox hb; have n0_ := Aside0.mk (below_step (by repeat (first | (with_reducible first | exact HB.out | apply below_alloc | apply pw_below_drewN | apply below_drew1) | exact HB.out)) hb); have n1_ := Aside0.mk (hbox); have n2_ := Aside0.mk ((by rw [hg]; exact (below_size (by repeat (first | (with_reducible first | exact HB.out | apply below_alloc | apply pw_below_drewN | apply below_drew1) | exact HB.out))) : w.heap.size ≤ gb158)); have n3_ := Aside0.mk ((by rw [hg]; exact (below_size (by repeat (first | (with_reducible first | exact HB.out | apply below_alloc | apply pw_below_drewN | apply below_drew1) | exact HB.out))) : w.heap.size ≤ gb158)); clear HB; have HB := n0_; have BK158 := n1_; have GW158 := n2_; have GE158 := n3_; clear n0_ n1_ n2_ n3_; clear hb hbox hg) | ((with_reducible refine gate_dst (N := 4) rfl ?_); refine box_event ?hg (N := 4) ?hd (cs := #[.string (⟨#[]⟩ : ByteArray), .string (⟨#[]⟩ : ByteArray)]) (t := 41) ?hr ?_; (case hd => rfl); (case hg => rfl); (case hr => first | (go_simp; done) | (go_simp; rfl)); intro gb159 hg w4 hbox hb; have n0_ := Aside0.mk (blk_below (g := gb158) (o := .cells #[.string (⟨#[]⟩ : ByteArray), .string (⟨#[]⟩ : ByteArray)] 41 (0, 0)) (by (with_reducible repeat (first | refine blk_drewN ?_ _ | refine blk_drew ?_ | refine blk_alloc ?_ _)); exact BK158.out) hb); have n1_ := Aside0.mk (below_step (by repeat (first | (with_reducible first | exact HB.out | apply below_alloc | apply pw_below_drewN | apply below_drew1 | refine below_set ?_ GE158.out) | exact HB.out)) hb); have n2_ := Aside0.mk (hbox); have n3_ := Aside0.mk ((by rw [hg]; exact (below_size (by repeat (first | (with_reducible first | exact HB.out | apply below_alloc | apply pw_below_drewN | apply below_drew1 | refine below_set ?_ GE158.out) | exact HB.out))) : w.heap.size ≤ gb159)); have n4_ := Aside0.mk ((by rw [hg]; exact (below_size (by repeat (first | (with_reducible first | exact HB.out | apply below_alloc | apply pw_below_drewN | apply below_drew1 | refine below_set ?_ GE158.out) | exact HB.out))) : w.heap.size ≤ gb159)); have n5_ := Aside0.mk ((by rw [hg]; exact Nat.ne_of_lt (blk_lt (g := gb158) (o := .cells #[.string (⟨#[]⟩ : ByteArray), .string (⟨#[]⟩ : ByteArray)] 41 (0, 0)) (by (with_reducible repeat (first | refine blk_drewN ?_ _ | refine blk_drew ?_ | refine blk_alloc ?_ _)); exact BK158.out)) : gb158 ≠ gb159)); have n6_ := Aside0.mk ((by rw [hg]; exact Nat.ne_of_gt (blk_lt (g := gb158) (o := .cells #[.string (⟨#[]⟩ : ByteArray), .string (⟨#[]⟩ : ByteArray)] 41 (0, 0)) (by (with_reducible repeat (first | refine blk_drewN ?_ _ | refine blk_drew ?_ | refine blk_alloc ?_ _)); exact BK158.out)) : gb159 ≠ gb158)); clear BK158; clear HB; have BK158 := n0_; have HB := n1_; have BK159 := n2_; have GW159 := n3_; have GE159 := n4_; have NB158_159 := n5_; have NB159_158 := n6_; clear n0_ n1_ n2_ n3_ n4_ n5_ n6_; clear hb hbox hg; have hnb5 := NB159_158.out; have hnc5 := NB158_159.out; have hcz6_0 : w4.cell? ⟨gb159, 0, none⟩ = some (.string (⟨#[]⟩ : ByteArray)) := (blk_cell BK159.out 0).trans rfl; have hcz6_1 : w4.cell? ⟨gb159, 1, none⟩ = some (.string (⟨#[]⟩ : ByteArray)) := (blk_cell BK159.out 1).trans rfl; have hfz6_0 := blk_frozen BK159.out 0; have hfz6_1 := blk_frozen BK159.out 1))
  (try simp only [Act.put, List.setIfInBounds_toArray, List.set_cons_zero, List.set_cons_succ])
  go_cut [5] (fun v5 wc => ∃ (kq : Nat) (x5_1 : Int), v5 = .int .i64 x5_1 ∧ Aside0 (foliotref19_one.j1 kq a0 x5_1 (⟨#[]⟩ : ByteArray) (⟨#[]⟩ : ByteArray) = some (r1, r2, r3)) ∧ Aside0 (kq ≤ k) ∧ Aside0 (wc.heap[gb158]? = some (.cells #[.string (⟨#[]⟩ : ByteArray), .string (⟨#[]⟩ : ByteArray)] 41 (0, 0))) ∧ Aside0 (wc.heap[gb159]? = some (.cells #[.string (⟨#[]⟩ : ByteArray), .string (⟨#[]⟩ : ByteArray)] 41 (0, 0))) ∧ Aside0 (Below w.heap.size w wc))
  case first =>
    have H := HC2.out
    clear HC2
    have H' := Aside0.mk H
    clear H
    go_wp2
    go_loopg [5] k (fun kq v5 w' => ∃ (x5_1 : Int), v5 = .int .i64 x5_1 ∧ Aside0 (foliotref19_one.l0 kq a0 x5_1 (⟨#[]⟩ : ByteArray) (⟨#[]⟩ : ByteArray) = some (r1, r2, r3)) ∧ Aside0 (kq ≤ k) ∧ Aside0 (w'.heap[gb158]? = some (.cells #[.string (⟨#[]⟩ : ByteArray), .string (⟨#[]⟩ : ByteArray)] 41 (0, 0))) ∧ Aside0 (w'.heap[gb159]? = some (.cells #[.string (⟨#[]⟩ : ByteArray), .string (⟨#[]⟩ : ByteArray)] 41 (0, 0))) ∧ Aside0 (Below w.heap.size w w'))
    case atStart => exact ⟨(0), (by first | rfl | (simp; done) | (simp [*]; done)), H', ⟨Nat.le_refl _⟩, ⟨by (with_reducible repeat (first | refine blk_drewN ?_ _ | refine blk_drew ?_ | refine blk_alloc ?_ _)); refine blk_far ?_ NB158_159.out _; (with_reducible repeat (first | refine blk_drewN ?_ _ | refine blk_drew ?_ | refine blk_alloc ?_ _)); refine blk_far ?_ NB158_159.out _; (with_reducible repeat (first | refine blk_drewN ?_ _ | refine blk_drew ?_ | refine blk_alloc ?_ _)); exact BK158.out⟩, ⟨by (with_reducible repeat (first | refine blk_drewN ?_ _ | refine blk_drew ?_ | refine blk_alloc ?_ _)); refine blk_put (cs := #[.string (⟨#[]⟩ : ByteArray), .string (⟨#[]⟩ : ByteArray)]) ?_ 1 _ rfl; (with_reducible repeat (first | refine blk_drewN ?_ _ | refine blk_drew ?_ | refine blk_alloc ?_ _)); refine blk_put (cs := #[.string (⟨#[]⟩ : ByteArray), .string (⟨#[]⟩ : ByteArray)]) ?_ 0 _ rfl; (with_reducible repeat (first | refine blk_drewN ?_ _ | refine blk_drew ?_ | refine blk_alloc ?_ _)); exact BK159.out⟩, ⟨by repeat (first | (with_reducible first | exact HB.out | apply below_alloc | apply pw_below_drewN | apply below_drew1 | refine below_set ?_ GE158.out | refine below_set ?_ GE159.out) | exact HB.out)⟩⟩
    case round =>
      clear H'
      try clear c2
      try clear p2
      try clear c5
      try clear hcz6_0
      try clear hcz6_1
      try clear hfz6_0
      try clear hfz6_1
      obtain ⟨x5_1, rfl, HA, HK1, BK158, BK159, HB⟩ := hrel
      cases gk with
      | zero => exact absurd HA.out (by simp [foliotref19_one.l0])
      | succ k1 =>
        have H := HA.out
        clear HA
        simp only [foliotref19_one.l0] at H
        by_cases c7 : x5_1 < (a0.size : Int)
        · rw [if_pos c7] at H
          have c7b0 : decide (x5_1 < (a0.size : Int)) = true := decide_eq_true c7
          clear c7
          (first | rw [c7b0] | (simp only [i64_w, i32_w]; rw [c7b0]) | skip)
          by_cases c8 : 0 ≤ x5_1
          · rw [if_pos c8] at H
            have c8b0 : decide (0 ≤ x5_1) = true := decide_eq_true c8
            clear c8
            by_cases c10 : (bt a0 x5_1) = 61
            · rw [if_pos c10] at H
              have c10b0 : ((bt a0 x5_1) == 61) = true := beq_iff_eq.mpr c10
              have c10b1 : ((bt a0 x5_1) != 61) = false := bne_eq_false_iff_eq.mpr c10
              clear c10
              have H' := Aside0.mk H
              clear H
              have p9 : 0 ≤ (x5_1 : Int) := of_decide_eq_true (by first | (with_reducible assumption) | assumption)
              have q9 : x5_1 < (a0.size : Int) := of_decide_eq_true (by first | (with_reducible assumption) | assumption)
              have hx9 := bt_at a0 x5_1
              replace p9 := eq_true p9
              replace q9 := eq_true q9
              go_wp2
              go_meet
              case rel => exact ⟨_, (x5_1), (by first | rfl | (simp; done) | (simp [*]; done)), H', ⟨by have := HK1.out; first | omega | exact Nat.le_refl _⟩, ⟨by (with_reducible repeat (first | refine blk_drewN ?_ _ | refine blk_drew ?_ | refine blk_alloc ?_ _)); exact BK158.out⟩, ⟨by (with_reducible repeat (first | refine blk_drewN ?_ _ | refine blk_drew ?_ | refine blk_alloc ?_ _)); exact BK159.out⟩, ⟨by repeat (first | (with_reducible first | exact HB.out | apply below_alloc | apply pw_below_drewN | apply below_drew1 | refine below_set ?_ GE158.out | refine below_set ?_ GE159.out) | exact HB.out)⟩⟩
            · rw [if_neg c10] at H
              have c10b0 : ((bt a0 x5_1) == 61) = false := beq_eq_false_iff_ne.mpr c10
              have c10b1 : ((bt a0 x5_1) != 61) = true := bne_iff_ne.mpr c10
              by_cases c12 : (bt a0 x5_1) = 44
              · rw [if_pos c12] at H
                have c12b0 : ((bt a0 x5_1) == 44) = true := beq_iff_eq.mpr c12
                have c12b1 : ((bt a0 x5_1) != 44) = false := bne_eq_false_iff_eq.mpr c12
                clear c12
                have H' := Aside0.mk H
                clear H
                have p9 : 0 ≤ (x5_1 : Int) := of_decide_eq_true (by first | (with_reducible assumption) | assumption)
                have q9 : x5_1 < (a0.size : Int) := of_decide_eq_true (by first | (with_reducible assumption) | assumption)
                have hx9 := bt_at a0 x5_1
                replace p9 := eq_true p9
                replace q9 := eq_true q9
                have p11 : 0 ≤ (x5_1 : Int) := of_decide_eq_true (by first | (with_reducible assumption) | assumption)
                have q11 : x5_1 < (a0.size : Int) := of_decide_eq_true (by first | (with_reducible assumption) | assumption)
                have hx11 := bt_at a0 x5_1
                replace p11 := eq_true p11
                replace q11 := eq_true q11
                go_wp2
                go_meet
                case rel => exact ⟨_, (x5_1), (by first | rfl | (simp; done) | (simp [*]; done)), H', ⟨by have := HK1.out; first | omega | exact Nat.le_refl _⟩, ⟨by (with_reducible repeat (first | refine blk_drewN ?_ _ | refine blk_drew ?_ | refine blk_alloc ?_ _)); exact BK158.out⟩, ⟨by (with_reducible repeat (first | refine blk_drewN ?_ _ | refine blk_drew ?_ | refine blk_alloc ?_ _)); exact BK159.out⟩, ⟨by repeat (first | (with_reducible first | exact HB.out | apply below_alloc | apply pw_below_drewN | apply below_drew1 | refine below_set ?_ GE158.out | refine below_set ?_ GE159.out) | exact HB.out)⟩⟩
              · rw [if_neg c12] at H
                have c12b0 : ((bt a0 x5_1) == 44) = false := beq_eq_false_iff_ne.mpr c12
                have c12b1 : ((bt a0 x5_1) != 44) = true := bne_iff_ne.mpr c12
                have H' := Aside0.mk H
                clear H
                have p9 : 0 ≤ (x5_1 : Int) := of_decide_eq_true (by first | (with_reducible assumption) | assumption)
                have q9 : x5_1 < (a0.size : Int) := of_decide_eq_true (by first | (with_reducible assumption) | assumption)
                have hx9 := bt_at a0 x5_1
                replace p9 := eq_true p9
                replace q9 := eq_true q9
                have p11 : 0 ≤ (x5_1 : Int) := of_decide_eq_true (by first | (with_reducible assumption) | assumption)
                have q11 : x5_1 < (a0.size : Int) := of_decide_eq_true (by first | (with_reducible assumption) | assumption)
                have hx11 := bt_at a0 x5_1
                replace p11 := eq_true p11
                replace q11 := eq_true q11
                go_wp2
                go_roundg k1
                case measure => have := HK1.out; omega
                case rel => exact ⟨(wrap64 (x5_1 + 1)), (by first | rfl | (simp; done) | (simp [*]; done)), H', ⟨by have := HK1.out; omega⟩, ⟨by (with_reducible repeat (first | refine blk_drewN ?_ _ | refine blk_drew ?_ | refine blk_alloc ?_ _)); exact BK158.out⟩, ⟨by (with_reducible repeat (first | refine blk_drewN ?_ _ | refine blk_drew ?_ | refine blk_alloc ?_ _)); exact BK159.out⟩, ⟨by repeat (first | (with_reducible first | exact HB.out | apply below_alloc | apply pw_below_drewN | apply below_drew1 | refine below_set ?_ GE158.out | refine below_set ?_ GE159.out) | exact HB.out)⟩⟩
          · rw [if_neg c8] at H
            exact absurd H (by simp)
        · rw [if_neg c7] at H
          have c7b0 : decide (x5_1 < (a0.size : Int)) = false := decide_eq_false c7
          clear c7
          (first | rw [c7b0] | (simp only [i64_w, i32_w]; rw [c7b0]) | skip)
          have H' := Aside0.mk H
          clear H
          go_wp2
          go_meet
          case rel => exact ⟨_, (x5_1), (by first | rfl | (simp; done) | (simp [*]; done)), H', ⟨by have := HK1.out; first | omega | exact Nat.le_refl _⟩, ⟨by (with_reducible repeat (first | refine blk_drewN ?_ _ | refine blk_drew ?_ | refine blk_alloc ?_ _)); exact BK158.out⟩, ⟨by (with_reducible repeat (first | refine blk_drewN ?_ _ | refine blk_drew ?_ | refine blk_alloc ?_ _)); exact BK159.out⟩, ⟨by repeat (first | (with_reducible first | exact HB.out | apply below_alloc | apply pw_below_drewN | apply below_drew1 | refine below_set ?_ GE158.out | refine below_set ?_ GE159.out) | exact HB.out)⟩⟩
  case rest =>
    clear HC2
    try clear c1
    try clear p1
    try clear q1
    try clear hx1
    try clear c2
    try clear p2
    try clear c5
    try clear p6
    try clear c7
    try clear c7b0
    try clear c8
    try clear c8b0
    try clear p9
    try clear q9
    try clear hx9
    try clear c10
    try clear c10b0
    try clear c10b1
    try clear p11
    try clear q11
    try clear hx11
    try clear c12
    try clear c12b0
    try clear c12b1
    try clear hcz6_0
    try clear hcz6_1
    try clear hfz6_0
    try clear hfz6_1
    try clear p11
    try clear p2
    try clear p9
    try clear q11
    try clear q9
    obtain ⟨kq, x5_1, rfl, HA, HJ1, BK158, BK159, HB⟩ := hcut
    cases kq with
    | zero => exact absurd HA.out (by simp [foliotref19_one.j1])
    | succ kj1 =>
      have H := HA.out
      clear HA
      simp only [foliotref19_one.j1] at H
      by_cases c13 : 0 ≤ x5_1
      · rw [if_pos c13] at H
        have c13b0 := eq_true c13
        have c13b1 : decide (0 ≤ x5_1) = true := decide_eq_true c13
        clear c13
        by_cases c14 : x5_1 ≤ (a0.size : Int)
        · rw [if_pos c14] at H
          have c14b0 := eq_true c14
          have c14b1 : decide (x5_1 ≤ (a0.size : Int)) = true := decide_eq_true c14
          clear c14
          have HC15 := Aside0.mk H
          clear H
          have hnb16 := NB159_158.out
          have hnc16 := NB158_159.out
          have hcz17_0 : wc.cell? ⟨gb159, 0, none⟩ = some (.string (⟨#[]⟩ : ByteArray)) := (blk_cell BK159.out 0).trans rfl
          have hcz17_1 : wc.cell? ⟨gb159, 1, none⟩ = some (.string (⟨#[]⟩ : ByteArray)) := (blk_cell BK159.out 1).trans rfl
          have hfz17_0 := blk_frozen BK159.out 0
          have hfz17_1 := blk_frozen BK159.out 1
          go_upto_region 6 with (fail)
          go_cut [39] (fun v39 wc => ∃ (kq : Nat) (x39_14 : Bool), v39 = .bool x39_14 ∧ Aside0 (foliotref19_one.j2 kq a0 x5_1 x39_14 (a0.extract 0 (x5_1 : Int).toNat) (⟨#[]⟩ : ByteArray) = some (r1, r2, r3)) ∧ Aside0 (kq ≤ kj1) ∧ Aside0 (wc.heap[gb158]? = some (.cells #[.string (⟨#[]⟩ : ByteArray), .string (⟨#[]⟩ : ByteArray)] 41 (0, 0))) ∧ Aside0 (wc.heap[gb159]? = some (.cells #[.string (a0.extract 0 (x5_1 : Int).toNat), .string (⟨#[]⟩ : ByteArray)] 41 (0, 0))) ∧ Aside0 (Below w.heap.size w wc))
          case first =>
            have H := HC15.out
            clear HC15
            by_cases c18 : x5_1 = (a0.size : Int)
            · rw [if_pos c18] at H
              have c18b0 : (x5_1 == (a0.size : Int)) = true := beq_iff_eq.mpr c18
              have c18b1 : (x5_1 != (a0.size : Int)) = false := bne_eq_false_iff_eq.mpr c18
              clear c18
              (first | rw [c18b0] | (simp only [i64_w, i32_w]; rw [c18b0]) | skip)
              have H' := Aside0.mk H
              clear H
              go_wp2
              go_meet
              case rel => exact ⟨_, (true), (by first | rfl | (simp; done) | (simp [*]; done)), H', ⟨by have := HJ1.out; first | omega | exact Nat.le_refl _⟩, ⟨by (with_reducible repeat (first | refine blk_drewN ?_ _ | refine blk_drew ?_ | refine blk_alloc ?_ _)); refine blk_far ?_ NB158_159.out _; (with_reducible repeat (first | refine blk_drewN ?_ _ | refine blk_drew ?_ | refine blk_alloc ?_ _)); exact BK158.out⟩, ⟨by (with_reducible repeat (first | refine blk_drewN ?_ _ | refine blk_drew ?_ | refine blk_alloc ?_ _)); refine blk_put (cs := #[.string (⟨#[]⟩ : ByteArray), .string (⟨#[]⟩ : ByteArray)]) ?_ 0 _ rfl; (with_reducible repeat (first | refine blk_drewN ?_ _ | refine blk_drew ?_ | refine blk_alloc ?_ _)); exact BK159.out⟩, ⟨by repeat (first | (with_reducible first | exact HB.out | apply below_alloc | apply pw_below_drewN | apply below_drew1 | refine below_set ?_ GE158.out | refine below_set ?_ GE159.out) | exact HB.out)⟩⟩
            · rw [if_neg c18] at H
              have c18b0 : (x5_1 == (a0.size : Int)) = false := beq_eq_false_iff_ne.mpr c18
              have c18b1 : (x5_1 != (a0.size : Int)) = true := bne_iff_ne.mpr c18
              (first | rw [c18b0] | (simp only [i64_w, i32_w]; rw [c18b0]) | skip)
              by_cases c19 : x5_1 < (a0.size : Int)
              · rw [if_pos c19] at H
                have c19b0 : decide (x5_1 < (a0.size : Int)) = true := decide_eq_true c19
                clear c19
                have H' := Aside0.mk H
                clear H
                have p20 : 0 ≤ (x5_1 : Int) := of_decide_eq_true (by first | (with_reducible assumption) | assumption)
                have q20 : x5_1 < (a0.size : Int) := of_decide_eq_true (by first | (with_reducible assumption) | assumption)
                have hx20 := bt_at a0 x5_1
                replace p20 := eq_true p20
                replace q20 := eq_true q20
                go_wp2
                go_meet
                case rel => exact ⟨_, (((bt a0 x5_1) == 44)), (by first | rfl | (simp; done) | (simp [*]; done)), H', ⟨by have := HJ1.out; first | omega | exact Nat.le_refl _⟩, ⟨by (with_reducible repeat (first | refine blk_drewN ?_ _ | refine blk_drew ?_ | refine blk_alloc ?_ _)); refine blk_far ?_ NB158_159.out _; (with_reducible repeat (first | refine blk_drewN ?_ _ | refine blk_drew ?_ | refine blk_alloc ?_ _)); exact BK158.out⟩, ⟨by (with_reducible repeat (first | refine blk_drewN ?_ _ | refine blk_drew ?_ | refine blk_alloc ?_ _)); refine blk_put (cs := #[.string (⟨#[]⟩ : ByteArray), .string (⟨#[]⟩ : ByteArray)]) ?_ 0 _ rfl; (with_reducible repeat (first | refine blk_drewN ?_ _ | refine blk_drew ?_ | refine blk_alloc ?_ _)); exact BK159.out⟩, ⟨by repeat (first | (with_reducible first | exact HB.out | apply below_alloc | apply pw_below_drewN | apply below_drew1 | refine below_set ?_ GE158.out | refine below_set ?_ GE159.out) | exact HB.out)⟩⟩
              · rw [if_neg c19] at H
                exact absurd H (by simp)
          case rest =>
            clear HC15
            try clear c1
            try clear p1
            try clear q1
            try clear hx1
            try clear c2
            try clear p2
            try clear q2
            try clear hx2
            try clear c5
            try clear p6
            try clear c7
            try clear c7b0
            try clear c8
            try clear c8b0
            try clear p9
            try clear q9
            try clear hx9
            try clear c10
            try clear c10b0
            try clear c10b1
            try clear p11
            try clear q11
            try clear hx11
            try clear c12
            try clear c12b0
            try clear c12b1
            try clear c13
            try clear c13b0
            try clear c13b1
            try clear c14
            try clear c14b0
            try clear c14b1
            try clear c16
            try clear c18
            try clear c18b0
            try clear c18b1
            try clear c19
            try clear c19b0
            try clear p20
            try clear q20
            try clear hx20
            try clear hcz17_0
            try clear hcz17_1
            try clear hcz6_0
            try clear hcz6_1
            try clear hfz17_0
            try clear hfz17_1
            try clear hfz6_0
            try clear hfz6_1
            try clear p1
            try clear p11
            try clear p2
            try clear p20
            try clear p6
            try clear p9
            try clear q1
            try clear q11
            try clear q20
            try clear q9
            obtain ⟨kq, x39_14, rfl, HA, HJ14, BK158, BK159, HB⟩ := hcut
            cases kq with
            | zero => exact absurd HA.out (by simp [foliotref19_one.j2])
            | succ kj14 =>
              have H := HA.out
              clear HA
              simp only [foliotref19_one.j2] at H
              by_cases c21 : x39_14 = true
              · subst c21
                have H1 : (if 0 ≤ x5_1 then (if x5_1 ≤ (a0.size : Int) then (some ((a0.extract 0 (x5_1 : Int).toNat), (⟨#[]⟩ : ByteArray), a0.extract (x5_1 : Int).toNat a0.size)) else (none)) else (none)) = some (r1, r2, r3) := by rw [if_pos rfl] at H; exact H
                clear H
                have H := H1
                clear H1
                by_cases c22 : 0 ≤ x5_1
                · rw [if_pos c22] at H
                  have c22b0 := eq_true c22
                  have c22b1 : decide (0 ≤ x5_1) = true := decide_eq_true c22
                  clear c22
                  by_cases c23 : x5_1 ≤ (a0.size : Int)
                  · rw [if_pos c23] at H
                    have c23b0 := eq_true c23
                    have c23b1 : decide (x5_1 ≤ (a0.size : Int)) = true := decide_eq_true c23
                    clear c23
                    simp only [Option.some.injEq, Prod.mk.injEq] at H
                    obtain ⟨rfl, rfl, rfl⟩ := H
                    try go_wp2
                    have n0_ := Aside0.mk (blk_drew BK158.out)
                    have n1_ := Aside0.mk (blk_drew BK159.out)
                    have n2_ := Aside0.mk (below_drew1 HB.out)
                    clear BK158
                    clear BK159
                    clear HB
                    have BK158 := n0_
                    have BK159 := n1_
                    have HB := n2_
                    clear n0_ n1_ n2_
                    refine start_ (n := 6) (S := fun w' => w'.cell? ⟨gb159, 0, none⟩ = some (.string (a0.extract 0 (x5_1 : Int).toNat)) ∧ w'.cell? ⟨gb159, 1, none⟩ = some (.string (⟨#[]⟩ : ByteArray))) (ds := []) #[false, false, false, false, false, false] (by kernel_rfl) rfl rfl ⟨(blk_cell BK159.out 0).trans rfl, (blk_cell BK159.out 1).trans rfl⟩ (fun hHeld => ?_)
                    generalize wc.drew = w24 at BK158 BK159 HB hHeld ⊢
                    refine pure_ (i := 1) (N := some 41) (v := ?_) (a' := ?_) #[false, true, false, false, false, false] rfl rfl (by kernel_rfl) (fun _ _ _ h => h) (Or.inl ⟨by rfl, ?_⟩) ?_ ?_
                    rotate_left
                    · intro w'
                      go_simp
                      with_reducible rfl
                    rotate_left
                    · simp only [Act.put, List.setIfInBounds_toArray, List.set_cons_zero, List.set_cons_succ, i64_w, i32_w]
                      rfl
                    refine pure_ (i := 2) (N := some 42) (v := ?_) (a' := ?_) #[false, true, true, false, false, false] rfl rfl (by kernel_rfl) (fun _ _ _ h => h) (Or.inl ⟨by rfl, ?_⟩) ?_ ?_
                    rotate_left
                    · intro w'
                      go_simp
                      with_reducible rfl
                    rotate_left
                    · simp only [Act.put, List.setIfInBounds_toArray, List.set_cons_zero, List.set_cons_succ, i64_w, i32_w]
                      rfl
                    refine pure_ (i := 3) (N := some 43) (v := ?_) (a' := ?_) #[false, true, true, true, false, false] rfl rfl (by kernel_rfl) (fun _ _ _ h => h) (Or.inl ⟨by rfl, ?_⟩) ?_ ?_
                    rotate_left
                    · intro w'
                      go_simp
                      with_reducible rfl
                    rotate_left
                    · simp only [Act.put, List.setIfInBounds_toArray, List.set_cons_zero, List.set_cons_succ, i64_w, i32_w]
                      rfl
                    refine take_ (i := 0) (N := some 40) (v := ?_) (a' := ?_) #[true, true, true, true, false, false] rfl rfl (by kernel_rfl) (fun _ _ _ h => h) (Or.inl ⟨by rfl, ?_⟩) hHeld ?_ ?_
                    rotate_left
                    · rintro w' ⟨s0, s1⟩
                      go_simp
                      with_reducible rfl
                    rotate_left
                    · simp only [Act.put, List.setIfInBounds_toArray, List.set_cons_zero, List.set_cons_succ, i64_w, i32_w]
                      rfl
                    refine one_ (i := 4) (N := none) #[true, true, true, true, true, false] rfl rfl (by kernel_rfl) (by decide) (fun K hK => ?_)
                    have hs25 : w24.cell? ⟨gb158, 0, none⟩ = some (.string (⟨#[]⟩ : ByteArray)) := (blk_cell BK158.out 0).trans rfl
                    have hfs25 := blk_frozen BK158.out 0
                    have hns25_1 := NB159_158.out
                    have hms25_1 := NB158_159.out
                    have hs26 : w24.cell? ⟨gb158, 1, none⟩ = some (.string (⟨#[]⟩ : ByteArray)) := (blk_cell BK158.out 1).trans rfl
                    have hfs26 := blk_frozen BK158.out 1
                    have hns26_1 := NB159_158.out
                    have hms26_1 := NB158_159.out
                    refine skip_ (w1 := ?_) (by rfl) rfl ?_ ?_
                    rotate_left
                    · go_simp
                      rfl
                    refine hK.out _ _ ⟨((cell_far (p := ⟨gb158, _, none⟩) NB159_158.out _).trans (((cell_far (p := ⟨gb158, _, none⟩) NB159_158.out _).trans (hHeld.1)))), ((cell_far (p := ⟨gb158, _, none⟩) NB159_158.out _).trans (((cell_far (p := ⟨gb158, _, none⟩) NB159_158.out _).trans (hHeld.2))))⟩ (fun hHeld => ?_)
                    clear hK K
                    refine pure_ (i := 5) (N := some 3) (v := ?_) (a' := ?_) #[true, true, true, true, true, true] rfl rfl (by kernel_rfl) (fun _ _ _ h => h) (Or.inl ⟨by rfl, ?_⟩) ?_ ?_
                    rotate_left
                    · intro w'
                      go_simp
                      with_reducible rfl
                    rotate_left
                    · simp only [Act.put, List.setIfInBounds_toArray, List.set_cons_zero, List.set_cons_succ, i64_w, i32_w]
                      rfl
                    refine done_ (by kernel_rfl) ?_
                    try go_wp2
                    refine bodyPost_ret (results_ct rfl _ _ gb158 41 #[.string (a0.extract 0 (x5_1 : Int).toNat), .string (⟨#[]⟩ : ByteArray)] (0, 0) _ rfl (by (with_reducible repeat (first | refine blk_drewN ?_ _ | refine blk_drew ?_ | refine blk_alloc ?_ _)); refine blk_put (cs := #[.string (a0.extract 0 (x5_1 : Int).toNat), .string (⟨#[]⟩ : ByteArray)]) ?_ 1 _ rfl; (with_reducible repeat (first | refine blk_drewN ?_ _ | refine blk_drew ?_ | refine blk_alloc ?_ _)); refine blk_put (cs := #[.string (⟨#[]⟩ : ByteArray), .string (⟨#[]⟩ : ByteArray)]) ?_ 0 _ rfl; (with_reducible repeat (first | refine blk_drewN ?_ _ | refine blk_drew ?_ | refine blk_alloc ?_ _)); exact BK158.out) Try.underlying41 rfl (by kernel_rfl)) rfl ?_
                    exact ⟨by first | rfl | (simp [errW_none, errW_some] <;> rfl) | (simp [*, errW_none, errW_some] <;> rfl), by repeat (first | (with_reducible first | exact HB.out | apply below_alloc | apply pw_below_drewN | apply below_drew1 | refine below_set ?_ GE158.out | refine below_set ?_ GE159.out) | exact HB.out)⟩
                  · rw [if_neg c23] at H
                    exact absurd H (by simp)
                · rw [if_neg c22] at H
                  exact absurd H (by simp)
              · replace c21 := Bool.eq_false_iff.mpr c21
                subst c21
                have H1 : (if (wrap64 (x5_1 + 1)) < (a0.size : Int) then (if 0 ≤ (wrap64 (x5_1 + 1)) then (foliotref19_one.j3 kj14 a0 (wrap64 (x5_1 + 1)) (wrap64 (x5_1 + 1)) ((bt a0 (wrap64 (x5_1 + 1))) == 34) (a0.extract 0 (x5_1 : Int).toNat) (⟨#[]⟩ : ByteArray)) else (none)) else (foliotref19_one.j3 kj14 a0 (wrap64 (x5_1 + 1)) (wrap64 (x5_1 + 1)) false (a0.extract 0 (x5_1 : Int).toNat) (⟨#[]⟩ : ByteArray))) = some (r1, r2, r3) := by rw [if_neg (show ¬ (false = true) by decide)] at H; exact H
                clear H
                have H := H1
                clear H1
                have HC27 := Aside0.mk H
                clear H
                go_upto_region 10 with (fail)
                go_cut [56] (fun v56 wc => ∃ (kq : Nat) (x56_26 : Bool), v56 = .bool x56_26 ∧ Aside0 (foliotref19_one.j3 kq a0 (wrap64 (x5_1 + 1)) (wrap64 (x5_1 + 1)) x56_26 (a0.extract 0 (x5_1 : Int).toNat) (⟨#[]⟩ : ByteArray) = some (r1, r2, r3)) ∧ Aside0 (kq ≤ kj14) ∧ Aside0 (wc.heap[gb158]? = some (.cells #[.string (⟨#[]⟩ : ByteArray), .string (⟨#[]⟩ : ByteArray)] 41 (0, 0))) ∧ Aside0 (wc.heap[gb159]? = some (.cells #[.string (a0.extract 0 (x5_1 : Int).toNat), .string (⟨#[]⟩ : ByteArray)] 41 (0, 0))) ∧ Aside0 (Below w.heap.size w wc))
                case first =>
                  have H := HC27.out
                  clear HC27
                  by_cases c28 : (wrap64 (x5_1 + 1)) < (a0.size : Int)
                  · rw [if_pos c28] at H
                    have c28b0 : decide ((wrap64 (x5_1 + 1)) < (a0.size : Int)) = true := decide_eq_true c28
                    clear c28
                    (first | rw [c28b0] | (simp only [i64_w, i32_w]; rw [c28b0]) | skip)
                    obtain ⟨ji29, hji29⟩ : ∃ j_ : Int, (wrap64 (x5_1 + 1)) = j_ := ⟨_, rfl⟩
                    replace H : (if 0 ≤ (ji29) then (foliotref19_one.j3 kj14 a0 ji29 ji29 ((bt a0 (ji29)) == 34) (a0.extract 0 (x5_1 : Int).toNat) (⟨#[]⟩ : ByteArray)) else (none)) = some (r1, r2, r3) := by first | (rw [hji29] at H; exact H) | (simp only [hji29] at H ⊢; exact H)
                    (try rw [hji29] at c28b0)
                    have hji29w : (IntKind.i64.wrap (x5_1 + 1)) = ji29 := (i64_w _).trans hji29
                    by_cases c30 : 0 ≤ (ji29)
                    · rw [if_pos c30] at H
                      have c30b0 : decide (0 ≤ (ji29)) = true := decide_eq_true c30
                      clear c30
                      have H' := Aside0.mk H
                      clear H
                      have p31 : 0 ≤ ((ji29) : Int) := of_decide_eq_true (by first | (with_reducible assumption) | assumption)
                      have q31 : (ji29) < (a0.size : Int) := of_decide_eq_true (by first | (with_reducible assumption) | assumption)
                      have hx31 := bt_at a0 (ji29)
                      replace p31 := eq_true p31
                      replace q31 := eq_true q31
                      go_wp2
                      go_meet
                      case rel => exact ⟨_, (((bt a0 (ji29)) == 34)), (by first | rfl | (simp; done) | (simp only [← hji29] <;> (first | rfl | simp)) | (simp [*]; done)), (by first | exact H' | (simp only [hji29]; exact H')), ⟨by have := HJ1.out; have := HJ14.out; first | omega | exact Nat.le_refl _⟩, ⟨by (with_reducible repeat (first | refine blk_drewN ?_ _ | refine blk_drew ?_ | refine blk_alloc ?_ _)); exact BK158.out⟩, ⟨by (with_reducible repeat (first | refine blk_drewN ?_ _ | refine blk_drew ?_ | refine blk_alloc ?_ _)); exact BK159.out⟩, ⟨by repeat (first | (with_reducible first | exact HB.out | apply below_alloc | apply pw_below_drewN | apply below_drew1 | refine below_set ?_ GE158.out | refine below_set ?_ GE159.out) | exact HB.out)⟩⟩
                    · rw [if_neg c30] at H
                      exact absurd H (by simp)
                  · rw [if_neg c28] at H
                    have c28b0 : decide ((wrap64 (x5_1 + 1)) < (a0.size : Int)) = false := decide_eq_false c28
                    clear c28
                    (first | rw [c28b0] | (simp only [i64_w, i32_w]; rw [c28b0]) | skip)
                    have H' := Aside0.mk H
                    clear H
                    go_wp2
                    go_meet
                    case rel => exact ⟨_, (false), (by first | rfl | (simp; done) | (simp [*]; done)), H', ⟨by have := HJ1.out; have := HJ14.out; first | omega | exact Nat.le_refl _⟩, ⟨by (with_reducible repeat (first | refine blk_drewN ?_ _ | refine blk_drew ?_ | refine blk_alloc ?_ _)); exact BK158.out⟩, ⟨by (with_reducible repeat (first | refine blk_drewN ?_ _ | refine blk_drew ?_ | refine blk_alloc ?_ _)); exact BK159.out⟩, ⟨by repeat (first | (with_reducible first | exact HB.out | apply below_alloc | apply pw_below_drewN | apply below_drew1 | refine below_set ?_ GE158.out | refine below_set ?_ GE159.out) | exact HB.out)⟩⟩
                case rest =>
                  clear HC27
                  try clear c1
                  try clear p1
                  try clear q1
                  try clear hx1
                  try clear c2
                  try clear p2
                  try clear q2
                  try clear hx2
                  try clear c3
                  try clear p3
                  try clear q3
                  try clear hx3
                  try clear c5
                  try clear p6
                  try clear c7
                  try clear c7b0
                  try clear c8
                  try clear c8b0
                  try clear p9
                  try clear q9
                  try clear hx9
                  try clear c10
                  try clear c10b0
                  try clear c10b1
                  try clear p11
                  try clear q11
                  try clear hx11
                  try clear c12
                  try clear c12b0
                  try clear c12b1
                  try clear c13
                  try clear c13b0
                  try clear c13b1
                  try clear c14
                  try clear c14b0
                  try clear c14b1
                  try clear c16
                  try clear c18
                  try clear c18b0
                  try clear c18b1
                  try clear c19
                  try clear c19b0
                  try clear p20
                  try clear q20
                  try clear hx20
                  try clear c21
                  try clear c22
                  try clear c22b0
                  try clear c22b1
                  try clear c23
                  try clear c23b0
                  try clear c23b1
                  try clear c24
                  try clear c28
                  try clear c28b0
                  try clear c30
                  try clear c30b0
                  try clear p31
                  try clear q31
                  try clear hx31
                  try clear hcz17_0
                  try clear hcz17_1
                  try clear hcz6_0
                  try clear hcz6_1
                  try clear hfz17_0
                  try clear hfz17_1
                  try clear hfz6_0
                  try clear hfz6_1
                  try clear p1
                  try clear p11
                  try clear p2
                  try clear p20
                  try clear p31
                  try clear p6
                  try clear p9
                  try clear q1
                  try clear q11
                  try clear q2
                  try clear q20
                  try clear q31
                  try clear q9
                  obtain ⟨kq, x56_26, rfl, HA, HJ26, BK158, BK159, HB⟩ := hcut
                  cases kq with
                  | zero => exact absurd HA.out (by simp [foliotref19_one.j3])
                  | succ kj26 =>
                    have H := HA.out
                    clear HA
                    simp only [foliotref19_one.j3] at H
                    by_cases c32 : x56_26 = true
                    · subst c32
                      have H1 : (foliotref19_one.l1 kj26 a0 (wrap64 (x5_1 + 1)) (wrap64 ((wrap64 (x5_1 + 1)) + 1)) (a0.extract 0 (x5_1 : Int).toNat) (⟨#[]⟩ : ByteArray)) = some (r1, r2, r3) := by rw [if_pos rfl] at H; exact H
                      clear H
                      have H := H1
                      clear H1
                      have H' := Aside0.mk H
                      clear H
                      go_wp2
                      go_loopg [6] kj26 (fun kq v6 w' => ∃ (x6_4 : Int), v6 = .int .i64 x6_4 ∧ Aside0 (foliotref19_one.l1 kq a0 (wrap64 (x5_1 + 1)) x6_4 (a0.extract 0 (x5_1 : Int).toNat) (⟨#[]⟩ : ByteArray) = some (r1, r2, r3)) ∧ Aside0 (kq ≤ kj26) ∧ Aside0 (w'.heap[gb158]? = some (.cells #[.string (⟨#[]⟩ : ByteArray), .string (⟨#[]⟩ : ByteArray)] 41 (0, 0))) ∧ Aside0 (w'.heap[gb159]? = some (.cells #[.string (a0.extract 0 (x5_1 : Int).toNat), .string (⟨#[]⟩ : ByteArray)] 41 (0, 0))) ∧ Aside0 (Below w.heap.size w w'))
                      case atStart => exact ⟨(wrap64 ((wrap64 (x5_1 + 1)) + 1)), (by first | rfl | (simp; done) | (simp [*]; done)), H', ⟨Nat.le_refl _⟩, ⟨by (with_reducible repeat (first | refine blk_drewN ?_ _ | refine blk_drew ?_ | refine blk_alloc ?_ _)); exact BK158.out⟩, ⟨by (with_reducible repeat (first | refine blk_drewN ?_ _ | refine blk_drew ?_ | refine blk_alloc ?_ _)); exact BK159.out⟩, ⟨by repeat (first | (with_reducible first | exact HB.out | apply below_alloc | apply pw_below_drewN | apply below_drew1 | refine below_set ?_ GE158.out | refine below_set ?_ GE159.out) | exact HB.out)⟩⟩
                      case round =>
                        clear H'
                        try clear c1
                        try clear p1
                        try clear q1
                        try clear hx1
                        try clear c2
                        try clear p2
                        try clear q2
                        try clear hx2
                        try clear c3
                        try clear p3
                        try clear q3
                        try clear hx3
                        try clear c5
                        try clear p6
                        try clear c7
                        try clear c7b0
                        try clear c8
                        try clear c8b0
                        try clear p9
                        try clear q9
                        try clear hx9
                        try clear c10
                        try clear c10b0
                        try clear c10b1
                        try clear p11
                        try clear q11
                        try clear hx11
                        try clear c12
                        try clear c12b0
                        try clear c12b1
                        try clear c13
                        try clear c13b0
                        try clear c13b1
                        try clear c14
                        try clear c14b0
                        try clear c14b1
                        try clear c16
                        try clear c18
                        try clear c18b0
                        try clear c18b1
                        try clear c19
                        try clear c19b0
                        try clear p20
                        try clear q20
                        try clear hx20
                        try clear c21
                        try clear c22
                        try clear c22b0
                        try clear c22b1
                        try clear c23
                        try clear c23b0
                        try clear c23b1
                        try clear c24
                        try clear c28
                        try clear c28b0
                        try clear c30
                        try clear c30b0
                        try clear p31
                        try clear q31
                        try clear hx31
                        try clear c32
                        try clear hcz17_0
                        try clear hcz17_1
                        try clear hcz6_0
                        try clear hcz6_1
                        try clear hfz17_0
                        try clear hfz17_1
                        try clear hfz6_0
                        try clear hfz6_1
                        try clear p1
                        try clear p11
                        try clear p2
                        try clear p20
                        try clear p3
                        try clear p31
                        try clear p6
                        try clear p9
                        try clear q1
                        try clear q11
                        try clear q2
                        try clear q20
                        try clear q3
                        try clear q31
                        try clear q9
                        obtain ⟨x6_4, rfl, HA, HK4, BK158, BK159, HB⟩ := hrel
                        cases gk with
                        | zero => exact absurd HA.out (by simp [foliotref19_one.l1])
                        | succ k4 =>
                          have H := HA.out
                          clear HA
                          simp only [foliotref19_one.l1] at H
                          by_cases c33 : x6_4 < (a0.size : Int)
                          · rw [if_pos c33] at H
                            have c33b0 : decide (x6_4 < (a0.size : Int)) = true := decide_eq_true c33
                            clear c33
                            by_cases c34 : 0 ≤ x6_4
                            · rw [if_pos c34] at H
                              have c34b0 : decide (0 ≤ x6_4) = true := decide_eq_true c34
                              clear c34
                              by_cases c36 : (bt a0 x6_4) = 34
                              · rw [if_pos c36] at H
                                have c36b0 : ((bt a0 x6_4) == 34) = true := beq_iff_eq.mpr c36
                                have c36b1 : ((bt a0 x6_4) != 34) = false := bne_eq_false_iff_eq.mpr c36
                                clear c36
                                obtain ⟨ji37, hji37⟩ : ∃ j_ : Int, (wrap64 ((wrap64 (x5_1 + 1)) + 1)) = j_ := ⟨_, rfl⟩
                                replace H : (if 0 ≤ (ji37) then (if (ji37) ≤ x6_4 then (if x6_4 ≤ (a0.size : Int) then (if 0 ≤ (mn (wrap64 (x6_4 + 1)) (a0.size : Int)) then (if (mn (wrap64 (x6_4 + 1)) (a0.size : Int)) ≤ (a0.size : Int) then (some ((a0.extract 0 (x5_1 : Int).toNat), a0.extract ((ji37) : Int).toNat (x6_4 : Int).toNat, a0.extract ((mn (wrap64 (x6_4 + 1)) (a0.size : Int)) : Int).toNat a0.size)) else (none)) else (none)) else (none)) else (none)) else (none)) = some (r1, r2, r3) := by first | (rw [hji37] at H; exact H) | (simp only [hji37] at H ⊢; exact H)
                                have hji37w : (IntKind.i64.wrap ((wrap64 (x5_1 + 1)) + 1)) = ji37 := (i64_w _).trans hji37
                                by_cases c38 : 0 ≤ (ji37)
                                · rw [if_pos c38] at H
                                  have c38b0 := eq_true c38
                                  have c38b1 : decide (0 ≤ (ji37)) = true := decide_eq_true c38
                                  clear c38
                                  by_cases c39 : (ji37) ≤ x6_4
                                  · rw [if_pos c39] at H
                                    have c39b0 := eq_true c39
                                    have c39b1 : decide ((ji37) ≤ x6_4) = true := decide_eq_true c39
                                    clear c39
                                    by_cases c40 : x6_4 ≤ (a0.size : Int)
                                    · rw [if_pos c40] at H
                                      have c40b0 := eq_true c40
                                      have c40b1 : decide (x6_4 ≤ (a0.size : Int)) = true := decide_eq_true c40
                                      clear c40
                                      obtain ⟨ji41, hji41⟩ : ∃ j_ : Int, (mn (wrap64 (x6_4 + 1)) (a0.size : Int)) = j_ := ⟨_, rfl⟩
                                      replace H : (if 0 ≤ (ji41) then (if (ji41) ≤ (a0.size : Int) then (some ((a0.extract 0 (x5_1 : Int).toNat), a0.extract ((ji37) : Int).toNat (x6_4 : Int).toNat, a0.extract ((ji41) : Int).toNat a0.size)) else (none)) else (none)) = some (r1, r2, r3) := by first | (rw [hji41] at H; exact H) | (simp only [hji41] at H ⊢; exact H)
                                      have hji41_ : (if (a0.size : Int) < (wrap64 (x6_4 + 1)) then (a0.size : Int) else (wrap64 (x6_4 + 1))) = ji41 := hji41
                                      by_cases c42 : 0 ≤ (ji41)
                                      · rw [if_pos c42] at H
                                        have c42b0 := eq_true c42
                                        have c42b1 : decide (0 ≤ (ji41)) = true := decide_eq_true c42
                                        clear c42
                                        by_cases c43 : (ji41) ≤ (a0.size : Int)
                                        · rw [if_pos c43] at H
                                          have c43b0 := eq_true c43
                                          have c43b1 : decide ((ji41) ≤ (a0.size : Int)) = true := decide_eq_true c43
                                          clear c43
                                          simp only [Option.some.injEq, Prod.mk.injEq] at H
                                          obtain ⟨rfl, rfl, rfl⟩ := H
                                          have p35 : 0 ≤ (x6_4 : Int) := of_decide_eq_true (by first | (with_reducible assumption) | assumption)
                                          have q35 : x6_4 < (a0.size : Int) := of_decide_eq_true (by first | (with_reducible assumption) | assumption)
                                          have hx35 := bt_at a0 x6_4
                                          replace p35 := eq_true p35
                                          replace q35 := eq_true q35
                                          have hnb44 := NB159_158.out
                                          have hnc44 := NB158_159.out
                                          have hcz45_0 : wr.cell? ⟨gb159, 0, none⟩ = some (.string (a0.extract 0 (x5_1 : Int).toNat)) := (blk_cell BK159.out 0).trans rfl
                                          have hcz45_1 : wr.cell? ⟨gb159, 1, none⟩ = some (.string (⟨#[]⟩ : ByteArray)) := (blk_cell BK159.out 1).trans rfl
                                          have hfz45_0 := blk_frozen BK159.out 0
                                          have hfz45_1 := blk_frozen BK159.out 1
                                          try go_wp2
                                          have n0_ : Aside0 ((wr.setCell ⟨gb159, 1, none⟩ (.string (a0.extract ((ji37) : Int).toNat (x6_4 : Int).toNat))).heap[gb158]? = some (.cells #[.string (⟨#[]⟩ : ByteArray), .string (⟨#[]⟩ : ByteArray)] 41 (0, 0))) := ⟨by (with_reducible repeat (first | refine blk_drewN ?_ _ | refine blk_drew ?_ | refine blk_alloc ?_ _)); refine blk_far ?_ NB158_159.out _; (with_reducible repeat (first | refine blk_drewN ?_ _ | refine blk_drew ?_ | refine blk_alloc ?_ _)); exact BK158.out⟩
                                          have n1_ : Aside0 ((wr.setCell ⟨gb159, 1, none⟩ (.string (a0.extract ((ji37) : Int).toNat (x6_4 : Int).toNat))).heap[gb159]? = some (.cells #[.string (a0.extract 0 (x5_1 : Int).toNat), .string (a0.extract ((ji37) : Int).toNat (x6_4 : Int).toNat)] 41 (0, 0))) := ⟨by (with_reducible repeat (first | refine blk_drewN ?_ _ | refine blk_drew ?_ | refine blk_alloc ?_ _)); refine blk_put (cs := #[.string (a0.extract 0 (x5_1 : Int).toNat), .string (⟨#[]⟩ : ByteArray)]) ?_ 1 _ rfl; (with_reducible repeat (first | refine blk_drewN ?_ _ | refine blk_drew ?_ | refine blk_alloc ?_ _)); exact BK159.out⟩
                                          have n2_ : Aside0 (Below w.heap.size w (wr.setCell ⟨gb159, 1, none⟩ (.string (a0.extract ((ji37) : Int).toNat (x6_4 : Int).toNat)))) := ⟨by repeat (first | (with_reducible first | exact HB.out | apply below_alloc | apply pw_below_drewN | apply below_drew1 | refine below_set ?_ GE158.out | refine below_set ?_ GE159.out) | exact HB.out)⟩
                                          (try clear BK158)
                                          (try clear BK159)
                                          (try clear HB)
                                          generalize (wr.setCell ⟨gb159, 1, none⟩ (.string (a0.extract ((ji37) : Int).toNat (x6_4 : Int).toNat))) = w46 at n0_ n1_ n2_ ⊢
                                          have BK158 := n0_
                                          have BK159 := n1_
                                          have HB := n2_
                                          clear n0_ n1_ n2_
                                          have n0_ := Aside0.mk (blk_drew BK158.out)
                                          have n1_ := Aside0.mk (blk_drew BK159.out)
                                          have n2_ := Aside0.mk (below_drew1 HB.out)
                                          clear BK158
                                          clear BK159
                                          clear HB
                                          have BK158 := n0_
                                          have BK159 := n1_
                                          have HB := n2_
                                          clear n0_ n1_ n2_
                                          refine start_ (n := 10) (S := fun w' => w'.cell? ⟨gb159, 0, none⟩ = some (.string (a0.extract 0 (x5_1 : Int).toNat)) ∧ w'.cell? ⟨gb159, 1, none⟩ = some (.string (a0.extract ((ji37) : Int).toNat (x6_4 : Int).toNat))) (ds := []) #[false, false, false, false, false, false, false, false, false, false] (by kernel_rfl) rfl rfl ⟨(blk_cell BK159.out 0).trans rfl, (blk_cell BK159.out 1).trans rfl⟩ (fun hHeld => ?_); refine with_tabW foliotref19_one.tab15 foliotref19_one.bits15 (fun HT_ HW_ => ?_)
                                          generalize w46.drew = w47 at BK158 BK159 HB hHeld ⊢
                                          refine pure_ (i := 1) (N := some 78) (v := ?_) (a' := ?_) #[false, true, false, false, false, false, false, false, false, false] rfl rfl (any_of HT_.out (by kernel_rfl)) (fun _ _ _ h => h) (Or.inl ⟨by rfl, ?_⟩) ?_ ?_
                                          rotate_left
                                          · intro w'
                                            go_simp
                                            with_reducible rfl
                                          rotate_left
                                          · simp only [Act.put, List.setIfInBounds_toArray, List.set_cons_zero, List.set_cons_succ, i64_w, i32_w]
                                            rfl
                                          refine pure_ (i := 2) (N := some 79) (v := ?_) (a' := ?_) #[false, true, true, false, false, false, false, false, false, false] rfl rfl (any_of HT_.out (by kernel_rfl)) (fun _ _ _ h => h) (Or.inl ⟨by rfl, ?_⟩) ?_ ?_
                                          rotate_left
                                          · intro w'
                                            go_simp
                                            with_reducible rfl
                                          rotate_left
                                          · simp only [Act.put, List.setIfInBounds_toArray, List.set_cons_zero, List.set_cons_succ, i64_w, i32_w]
                                            rfl
                                          refine pure_ (i := 3) (N := some 80) (v := ?_) (a' := ?_) #[false, true, true, true, false, false, false, false, false, false] rfl rfl (any_of HT_.out (by kernel_rfl)) (fun _ _ _ h => h) (Or.inl ⟨by rfl, ?_⟩) ?_ ?_
                                          rotate_left
                                          · intro w'
                                            go_simp
                                            with_reducible rfl
                                          rotate_left
                                          · simp only [Act.put, List.setIfInBounds_toArray, List.set_cons_zero, List.set_cons_succ, i64_w, i32_w]
                                            rfl
                                          refine pure_ (i := 4) (N := some 81) (v := ?_) (a' := ?_) #[false, true, true, true, true, false, false, false, false, false] rfl rfl (any_of HT_.out (by kernel_rfl)) (fun _ _ _ h => h) (Or.inl ⟨by rfl, ?_⟩) ?_ ?_
                                          rotate_left
                                          · intro w'
                                            go_simp
                                            with_reducible rfl
                                          rotate_left
                                          · simp only [Act.put, List.setIfInBounds_toArray, List.set_cons_zero, List.set_cons_succ, i64_w, i32_w]
                                            rfl
                                          refine pure_ (i := 5) (N := some 82) (v := ?_) (a' := ?_) #[false, true, true, true, true, true, false, false, false, false] rfl rfl (any_of HT_.out (by kernel_rfl)) (fun _ _ _ h => h) (Or.inl ⟨by rfl, ?_⟩) ?_ ?_
                                          rotate_left
                                          · intro w'
                                            go_simp
                                            with_reducible rfl
                                          rotate_left
                                          · simp only [Act.put, List.setIfInBounds_toArray, List.set_cons_zero, List.set_cons_succ, i64_w, i32_w]
                                            rfl
                                          refine pure_ (i := 6) (N := some 83) (v := ?_) (a' := ?_) #[false, true, true, true, true, true, true, false, false, false] rfl rfl (any_of HT_.out (by kernel_rfl)) (fun _ _ _ h => h) (Or.inl ⟨by rfl, ?_⟩) ?_ ?_
                                          rotate_left
                                          · intro w'
                                            go_simp
                                            with_reducible rfl
                                          rotate_left
                                          · simp only [Act.put, List.setIfInBounds_toArray, List.set_cons_zero, List.set_cons_succ, i64_w, i32_w]
                                            rfl
                                          refine pure_ (i := 7) (N := some 84) (v := ?_) (a' := ?_) #[false, true, true, true, true, true, true, true, false, false] rfl rfl (any_of HT_.out (by kernel_rfl)) (fun _ _ _ h => h) (Or.inl ⟨by rfl, ?_⟩) ?_ ?_
                                          rotate_left
                                          · intro w'
                                            go_simp
                                            with_reducible rfl
                                          rotate_left
                                          · simp only [Act.put, List.setIfInBounds_toArray, List.set_cons_zero, List.set_cons_succ, i64_w, i32_w]
                                            rfl
                                          refine take_ (i := 0) (N := some 77) (v := ?_) (a' := ?_) #[true, true, true, true, true, true, true, true, false, false] rfl rfl (take_ofW HT_.out HW_.out (by kernel_rfl)) (fun _ _ _ h => h) (Or.inl ⟨by rfl, ?_⟩) hHeld ?_ ?_
                                          rotate_left
                                          · rintro w' ⟨s0, s1⟩
                                            go_simp
                                            with_reducible rfl
                                          rotate_left
                                          · simp only [Act.put, List.setIfInBounds_toArray, List.set_cons_zero, List.set_cons_succ, i64_w, i32_w]
                                            rfl
                                          refine one_ (i := 8) (N := none) #[true, true, true, true, true, true, true, true, true, false] rfl rfl (one_of HT_.out (by kernel_rfl)) (by decide) (fun K hK => ?_)
                                          have hs48 : w47.cell? ⟨gb158, 0, none⟩ = some (.string (⟨#[]⟩ : ByteArray)) := (blk_cell BK158.out 0).trans rfl
                                          have hfs48 := blk_frozen BK158.out 0
                                          have hns48_1 := NB159_158.out
                                          have hms48_1 := NB158_159.out
                                          have hs49 : w47.cell? ⟨gb158, 1, none⟩ = some (.string (⟨#[]⟩ : ByteArray)) := (blk_cell BK158.out 1).trans rfl
                                          have hfs49 := blk_frozen BK158.out 1
                                          have hns49_1 := NB159_158.out
                                          have hms49_1 := NB158_159.out
                                          refine skip_ (w1 := ?_) (by rfl) rfl ?_ ?_
                                          rotate_left
                                          · go_simp
                                            rfl
                                          refine hK.out _ _ ⟨((cell_far (p := ⟨gb158, _, none⟩) NB159_158.out _).trans (((cell_far (p := ⟨gb158, _, none⟩) NB159_158.out _).trans (hHeld.1)))), ((cell_far (p := ⟨gb158, _, none⟩) NB159_158.out _).trans (((cell_far (p := ⟨gb158, _, none⟩) NB159_158.out _).trans (hHeld.2))))⟩ (fun hHeld => ?_)
                                          clear hK K
                                          refine pure_ (i := 9) (N := some 3) (v := ?_) (a' := ?_) #[true, true, true, true, true, true, true, true, true, true] rfl rfl (any_of HT_.out (by kernel_rfl)) (fun _ _ _ h => h) (Or.inl ⟨by rfl, ?_⟩) ?_ ?_
                                          rotate_left
                                          · intro w'
                                            go_simp
                                            with_reducible rfl
                                          rotate_left
                                          · simp only [Act.put, List.setIfInBounds_toArray, List.set_cons_zero, List.set_cons_succ, i64_w, i32_w]
                                            rfl
                                          refine done_ (done_of HT_.out (by kernel_rfl)) ?_
                                          try go_wp2
                                          refine bodyPost_ret (results_ct rfl _ _ gb158 41 #[.string (a0.extract 0 (x5_1 : Int).toNat), .string (a0.extract ((ji37) : Int).toNat (x6_4 : Int).toNat)] (0, 0) _ rfl (by (with_reducible repeat (first | refine blk_drewN ?_ _ | refine blk_drew ?_ | refine blk_alloc ?_ _)); refine blk_put (cs := #[.string (a0.extract 0 (x5_1 : Int).toNat), .string (⟨#[]⟩ : ByteArray)]) ?_ 1 _ rfl; (with_reducible repeat (first | refine blk_drewN ?_ _ | refine blk_drew ?_ | refine blk_alloc ?_ _)); refine blk_put (cs := #[.string (⟨#[]⟩ : ByteArray), .string (⟨#[]⟩ : ByteArray)]) ?_ 0 _ rfl; (with_reducible repeat (first | refine blk_drewN ?_ _ | refine blk_drew ?_ | refine blk_alloc ?_ _)); exact BK158.out) Try.underlying41 rfl (by kernel_rfl)) rfl ?_
                                          exact ⟨by first | rfl | (simp [errW_none, errW_some] <;> rfl) | (simp only [← hji37, ← hji41]; first | rfl | (simp [errW_none, errW_some] <;> rfl)) | (simp [*, errW_none, errW_some] <;> rfl), by repeat (first | (with_reducible first | exact HB.out | apply below_alloc | apply pw_below_drewN | apply below_drew1 | refine below_set ?_ GE158.out | refine below_set ?_ GE159.out) | exact HB.out)⟩
                                        · rw [if_neg c43] at H
                                          exact absurd H (by simp)
                                      · rw [if_neg c42] at H
                                        exact absurd H (by simp)
                                    · rw [if_neg c40] at H
                                      exact absurd H (by simp)
                                  · rw [if_neg c39] at H
                                    exact absurd H (by simp)
                                · rw [if_neg c38] at H
                                  exact absurd H (by simp)
                              · rw [if_neg c36] at H
                                have c36b0 : ((bt a0 x6_4) == 34) = false := beq_eq_false_iff_ne.mpr c36
                                have c36b1 : ((bt a0 x6_4) != 34) = true := bne_iff_ne.mpr c36
                                have H' := Aside0.mk H
                                clear H
                                have p35 : 0 ≤ (x6_4 : Int) := of_decide_eq_true (by first | (with_reducible assumption) | assumption)
                                have q35 : x6_4 < (a0.size : Int) := of_decide_eq_true (by first | (with_reducible assumption) | assumption)
                                have hx35 := bt_at a0 x6_4
                                replace p35 := eq_true p35
                                replace q35 := eq_true q35
                                go_wp2
                                go_roundg k4
                                case measure => have := HJ1.out; have := HJ14.out; have := HJ26.out; have := HK4.out; omega
                                case rel => exact ⟨(wrap64 (x6_4 + 1)), (by first | rfl | (simp; done) | (simp [*]; done)), H', ⟨by have := HJ1.out; have := HJ14.out; have := HJ26.out; have := HK4.out; omega⟩, ⟨by (with_reducible repeat (first | refine blk_drewN ?_ _ | refine blk_drew ?_ | refine blk_alloc ?_ _)); exact BK158.out⟩, ⟨by (with_reducible repeat (first | refine blk_drewN ?_ _ | refine blk_drew ?_ | refine blk_alloc ?_ _)); exact BK159.out⟩, ⟨by repeat (first | (with_reducible first | exact HB.out | apply below_alloc | apply pw_below_drewN | apply below_drew1 | refine below_set ?_ GE158.out | refine below_set ?_ GE159.out) | exact HB.out)⟩⟩
                            · rw [if_neg c34] at H
                              exact absurd H (by simp)
                          · rw [if_neg c33] at H
                            have c33b0 : decide (x6_4 < (a0.size : Int)) = false := decide_eq_false c33
                            clear c33
                            obtain ⟨ji50, hji50⟩ : ∃ j_ : Int, (wrap64 ((wrap64 (x5_1 + 1)) + 1)) = j_ := ⟨_, rfl⟩
                            replace H : (if 0 ≤ (ji50) then (if (ji50) ≤ x6_4 then (if x6_4 ≤ (a0.size : Int) then (if 0 ≤ (mn (wrap64 (x6_4 + 1)) (a0.size : Int)) then (if (mn (wrap64 (x6_4 + 1)) (a0.size : Int)) ≤ (a0.size : Int) then (some ((a0.extract 0 (x5_1 : Int).toNat), a0.extract ((ji50) : Int).toNat (x6_4 : Int).toNat, a0.extract ((mn (wrap64 (x6_4 + 1)) (a0.size : Int)) : Int).toNat a0.size)) else (none)) else (none)) else (none)) else (none)) else (none)) = some (r1, r2, r3) := by first | (rw [hji50] at H; exact H) | (simp only [hji50] at H ⊢; exact H)
                            have hji50w : (IntKind.i64.wrap ((wrap64 (x5_1 + 1)) + 1)) = ji50 := (i64_w _).trans hji50
                            by_cases c51 : 0 ≤ (ji50)
                            · rw [if_pos c51] at H
                              have c51b0 := eq_true c51
                              have c51b1 : decide (0 ≤ (ji50)) = true := decide_eq_true c51
                              clear c51
                              by_cases c52 : (ji50) ≤ x6_4
                              · rw [if_pos c52] at H
                                have c52b0 := eq_true c52
                                have c52b1 : decide ((ji50) ≤ x6_4) = true := decide_eq_true c52
                                clear c52
                                by_cases c53 : x6_4 ≤ (a0.size : Int)
                                · rw [if_pos c53] at H
                                  have c53b0 := eq_true c53
                                  have c53b1 : decide (x6_4 ≤ (a0.size : Int)) = true := decide_eq_true c53
                                  clear c53
                                  obtain ⟨ji54, hji54⟩ : ∃ j_ : Int, (mn (wrap64 (x6_4 + 1)) (a0.size : Int)) = j_ := ⟨_, rfl⟩
                                  replace H : (if 0 ≤ (ji54) then (if (ji54) ≤ (a0.size : Int) then (some ((a0.extract 0 (x5_1 : Int).toNat), a0.extract ((ji50) : Int).toNat (x6_4 : Int).toNat, a0.extract ((ji54) : Int).toNat a0.size)) else (none)) else (none)) = some (r1, r2, r3) := by first | (rw [hji54] at H; exact H) | (simp only [hji54] at H ⊢; exact H)
                                  have hji54_ : (if (a0.size : Int) < (wrap64 (x6_4 + 1)) then (a0.size : Int) else (wrap64 (x6_4 + 1))) = ji54 := hji54
                                  by_cases c55 : 0 ≤ (ji54)
                                  · rw [if_pos c55] at H
                                    have c55b0 := eq_true c55
                                    have c55b1 : decide (0 ≤ (ji54)) = true := decide_eq_true c55
                                    clear c55
                                    by_cases c56 : (ji54) ≤ (a0.size : Int)
                                    · rw [if_pos c56] at H
                                      have c56b0 := eq_true c56
                                      have c56b1 : decide ((ji54) ≤ (a0.size : Int)) = true := decide_eq_true c56
                                      clear c56
                                      simp only [Option.some.injEq, Prod.mk.injEq] at H
                                      obtain ⟨rfl, rfl, rfl⟩ := H
                                      have hnb57 := NB159_158.out
                                      have hnc57 := NB158_159.out
                                      have hcz58_0 : wr.cell? ⟨gb159, 0, none⟩ = some (.string (a0.extract 0 (x5_1 : Int).toNat)) := (blk_cell BK159.out 0).trans rfl
                                      have hcz58_1 : wr.cell? ⟨gb159, 1, none⟩ = some (.string (⟨#[]⟩ : ByteArray)) := (blk_cell BK159.out 1).trans rfl
                                      have hfz58_0 := blk_frozen BK159.out 0
                                      have hfz58_1 := blk_frozen BK159.out 1
                                      try go_wp2
                                      have n0_ : Aside0 ((wr.setCell ⟨gb159, 1, none⟩ (.string (a0.extract ((ji50) : Int).toNat (x6_4 : Int).toNat))).heap[gb158]? = some (.cells #[.string (⟨#[]⟩ : ByteArray), .string (⟨#[]⟩ : ByteArray)] 41 (0, 0))) := ⟨by (with_reducible repeat (first | refine blk_drewN ?_ _ | refine blk_drew ?_ | refine blk_alloc ?_ _)); refine blk_far ?_ NB158_159.out _; (with_reducible repeat (first | refine blk_drewN ?_ _ | refine blk_drew ?_ | refine blk_alloc ?_ _)); exact BK158.out⟩
                                      have n1_ : Aside0 ((wr.setCell ⟨gb159, 1, none⟩ (.string (a0.extract ((ji50) : Int).toNat (x6_4 : Int).toNat))).heap[gb159]? = some (.cells #[.string (a0.extract 0 (x5_1 : Int).toNat), .string (a0.extract ((ji50) : Int).toNat (x6_4 : Int).toNat)] 41 (0, 0))) := ⟨by (with_reducible repeat (first | refine blk_drewN ?_ _ | refine blk_drew ?_ | refine blk_alloc ?_ _)); refine blk_put (cs := #[.string (a0.extract 0 (x5_1 : Int).toNat), .string (⟨#[]⟩ : ByteArray)]) ?_ 1 _ rfl; (with_reducible repeat (first | refine blk_drewN ?_ _ | refine blk_drew ?_ | refine blk_alloc ?_ _)); exact BK159.out⟩
                                      have n2_ : Aside0 (Below w.heap.size w (wr.setCell ⟨gb159, 1, none⟩ (.string (a0.extract ((ji50) : Int).toNat (x6_4 : Int).toNat)))) := ⟨by repeat (first | (with_reducible first | exact HB.out | apply below_alloc | apply pw_below_drewN | apply below_drew1 | refine below_set ?_ GE158.out | refine below_set ?_ GE159.out) | exact HB.out)⟩
                                      (try clear BK158)
                                      (try clear BK159)
                                      (try clear HB)
                                      generalize (wr.setCell ⟨gb159, 1, none⟩ (.string (a0.extract ((ji50) : Int).toNat (x6_4 : Int).toNat))) = w59 at n0_ n1_ n2_ ⊢
                                      have BK158 := n0_
                                      have BK159 := n1_
                                      have HB := n2_
                                      clear n0_ n1_ n2_
                                      have n0_ := Aside0.mk (blk_drew BK158.out)
                                      have n1_ := Aside0.mk (blk_drew BK159.out)
                                      have n2_ := Aside0.mk (below_drew1 HB.out)
                                      clear BK158
                                      clear BK159
                                      clear HB
                                      have BK158 := n0_
                                      have BK159 := n1_
                                      have HB := n2_
                                      clear n0_ n1_ n2_
                                      refine start_ (n := 10) (S := fun w' => w'.cell? ⟨gb159, 0, none⟩ = some (.string (a0.extract 0 (x5_1 : Int).toNat)) ∧ w'.cell? ⟨gb159, 1, none⟩ = some (.string (a0.extract ((ji50) : Int).toNat (x6_4 : Int).toNat))) (ds := []) #[false, false, false, false, false, false, false, false, false, false] (by kernel_rfl) rfl rfl ⟨(blk_cell BK159.out 0).trans rfl, (blk_cell BK159.out 1).trans rfl⟩ (fun hHeld => ?_); refine with_tabW foliotref19_one.tab15 foliotref19_one.bits15 (fun HT_ HW_ => ?_)
                                      generalize w59.drew = w60 at BK158 BK159 HB hHeld ⊢
                                      refine pure_ (i := 1) (N := some 78) (v := ?_) (a' := ?_) #[false, true, false, false, false, false, false, false, false, false] rfl rfl (any_of HT_.out (by kernel_rfl)) (fun _ _ _ h => h) (Or.inl ⟨by rfl, ?_⟩) ?_ ?_
                                      rotate_left
                                      · intro w'
                                        go_simp
                                        with_reducible rfl
                                      rotate_left
                                      · simp only [Act.put, List.setIfInBounds_toArray, List.set_cons_zero, List.set_cons_succ, i64_w, i32_w]
                                        rfl
                                      refine pure_ (i := 2) (N := some 79) (v := ?_) (a' := ?_) #[false, true, true, false, false, false, false, false, false, false] rfl rfl (any_of HT_.out (by kernel_rfl)) (fun _ _ _ h => h) (Or.inl ⟨by rfl, ?_⟩) ?_ ?_
                                      rotate_left
                                      · intro w'
                                        go_simp
                                        with_reducible rfl
                                      rotate_left
                                      · simp only [Act.put, List.setIfInBounds_toArray, List.set_cons_zero, List.set_cons_succ, i64_w, i32_w]
                                        rfl
                                      refine pure_ (i := 3) (N := some 80) (v := ?_) (a' := ?_) #[false, true, true, true, false, false, false, false, false, false] rfl rfl (any_of HT_.out (by kernel_rfl)) (fun _ _ _ h => h) (Or.inl ⟨by rfl, ?_⟩) ?_ ?_
                                      rotate_left
                                      · intro w'
                                        go_simp
                                        with_reducible rfl
                                      rotate_left
                                      · simp only [Act.put, List.setIfInBounds_toArray, List.set_cons_zero, List.set_cons_succ, i64_w, i32_w]
                                        rfl
                                      refine pure_ (i := 4) (N := some 81) (v := ?_) (a' := ?_) #[false, true, true, true, true, false, false, false, false, false] rfl rfl (any_of HT_.out (by kernel_rfl)) (fun _ _ _ h => h) (Or.inl ⟨by rfl, ?_⟩) ?_ ?_
                                      rotate_left
                                      · intro w'
                                        go_simp
                                        with_reducible rfl
                                      rotate_left
                                      · simp only [Act.put, List.setIfInBounds_toArray, List.set_cons_zero, List.set_cons_succ, i64_w, i32_w]
                                        rfl
                                      refine pure_ (i := 5) (N := some 82) (v := ?_) (a' := ?_) #[false, true, true, true, true, true, false, false, false, false] rfl rfl (any_of HT_.out (by kernel_rfl)) (fun _ _ _ h => h) (Or.inl ⟨by rfl, ?_⟩) ?_ ?_
                                      rotate_left
                                      · intro w'
                                        go_simp
                                        with_reducible rfl
                                      rotate_left
                                      · simp only [Act.put, List.setIfInBounds_toArray, List.set_cons_zero, List.set_cons_succ, i64_w, i32_w]
                                        rfl
                                      refine pure_ (i := 6) (N := some 83) (v := ?_) (a' := ?_) #[false, true, true, true, true, true, true, false, false, false] rfl rfl (any_of HT_.out (by kernel_rfl)) (fun _ _ _ h => h) (Or.inl ⟨by rfl, ?_⟩) ?_ ?_
                                      rotate_left
                                      · intro w'
                                        go_simp
                                        with_reducible rfl
                                      rotate_left
                                      · simp only [Act.put, List.setIfInBounds_toArray, List.set_cons_zero, List.set_cons_succ, i64_w, i32_w]
                                        rfl
                                      refine pure_ (i := 7) (N := some 84) (v := ?_) (a' := ?_) #[false, true, true, true, true, true, true, true, false, false] rfl rfl (any_of HT_.out (by kernel_rfl)) (fun _ _ _ h => h) (Or.inl ⟨by rfl, ?_⟩) ?_ ?_
                                      rotate_left
                                      · intro w'
                                        go_simp
                                        with_reducible rfl
                                      rotate_left
                                      · simp only [Act.put, List.setIfInBounds_toArray, List.set_cons_zero, List.set_cons_succ, i64_w, i32_w]
                                        rfl
                                      refine take_ (i := 0) (N := some 77) (v := ?_) (a' := ?_) #[true, true, true, true, true, true, true, true, false, false] rfl rfl (take_ofW HT_.out HW_.out (by kernel_rfl)) (fun _ _ _ h => h) (Or.inl ⟨by rfl, ?_⟩) hHeld ?_ ?_
                                      rotate_left
                                      · rintro w' ⟨s0, s1⟩
                                        go_simp
                                        with_reducible rfl
                                      rotate_left
                                      · simp only [Act.put, List.setIfInBounds_toArray, List.set_cons_zero, List.set_cons_succ, i64_w, i32_w]
                                        rfl
                                      refine one_ (i := 8) (N := none) #[true, true, true, true, true, true, true, true, true, false] rfl rfl (one_of HT_.out (by kernel_rfl)) (by decide) (fun K hK => ?_)
                                      have hs61 : w60.cell? ⟨gb158, 0, none⟩ = some (.string (⟨#[]⟩ : ByteArray)) := (blk_cell BK158.out 0).trans rfl
                                      have hfs61 := blk_frozen BK158.out 0
                                      have hns61_1 := NB159_158.out
                                      have hms61_1 := NB158_159.out
                                      have hs62 : w60.cell? ⟨gb158, 1, none⟩ = some (.string (⟨#[]⟩ : ByteArray)) := (blk_cell BK158.out 1).trans rfl
                                      have hfs62 := blk_frozen BK158.out 1
                                      have hns62_1 := NB159_158.out
                                      have hms62_1 := NB158_159.out
                                      refine skip_ (w1 := ?_) (by rfl) rfl ?_ ?_
                                      rotate_left
                                      · go_simp
                                        rfl
                                      refine hK.out _ _ ⟨((cell_far (p := ⟨gb158, _, none⟩) NB159_158.out _).trans (((cell_far (p := ⟨gb158, _, none⟩) NB159_158.out _).trans (hHeld.1)))), ((cell_far (p := ⟨gb158, _, none⟩) NB159_158.out _).trans (((cell_far (p := ⟨gb158, _, none⟩) NB159_158.out _).trans (hHeld.2))))⟩ (fun hHeld => ?_)
                                      clear hK K
                                      refine pure_ (i := 9) (N := some 3) (v := ?_) (a' := ?_) #[true, true, true, true, true, true, true, true, true, true] rfl rfl (any_of HT_.out (by kernel_rfl)) (fun _ _ _ h => h) (Or.inl ⟨by rfl, ?_⟩) ?_ ?_
                                      rotate_left
                                      · intro w'
                                        go_simp
                                        with_reducible rfl
                                      rotate_left
                                      · simp only [Act.put, List.setIfInBounds_toArray, List.set_cons_zero, List.set_cons_succ, i64_w, i32_w]
                                        rfl
                                      refine done_ (done_of HT_.out (by kernel_rfl)) ?_
                                      try go_wp2
                                      refine bodyPost_ret (results_ct rfl _ _ gb158 41 #[.string (a0.extract 0 (x5_1 : Int).toNat), .string (a0.extract ((ji50) : Int).toNat (x6_4 : Int).toNat)] (0, 0) _ rfl (by (with_reducible repeat (first | refine blk_drewN ?_ _ | refine blk_drew ?_ | refine blk_alloc ?_ _)); refine blk_put (cs := #[.string (a0.extract 0 (x5_1 : Int).toNat), .string (⟨#[]⟩ : ByteArray)]) ?_ 1 _ rfl; (with_reducible repeat (first | refine blk_drewN ?_ _ | refine blk_drew ?_ | refine blk_alloc ?_ _)); refine blk_put (cs := #[.string (⟨#[]⟩ : ByteArray), .string (⟨#[]⟩ : ByteArray)]) ?_ 0 _ rfl; (with_reducible repeat (first | refine blk_drewN ?_ _ | refine blk_drew ?_ | refine blk_alloc ?_ _)); exact BK158.out) Try.underlying41 rfl (by kernel_rfl)) rfl ?_
                                      exact ⟨by first | rfl | (simp [errW_none, errW_some] <;> rfl) | (simp only [← hji50, ← hji54]; first | rfl | (simp [errW_none, errW_some] <;> rfl)) | (simp [*, errW_none, errW_some] <;> rfl), by repeat (first | (with_reducible first | exact HB.out | apply below_alloc | apply pw_below_drewN | apply below_drew1 | refine below_set ?_ GE158.out | refine below_set ?_ GE159.out) | exact HB.out)⟩
                                    · rw [if_neg c56] at H
                                      exact absurd H (by simp)
                                  · rw [if_neg c55] at H
                                    exact absurd H (by simp)
                                · rw [if_neg c53] at H
                                  exact absurd H (by simp)
                              · rw [if_neg c52] at H
                                exact absurd H (by simp)
                            · rw [if_neg c51] at H
                              exact absurd H (by simp)
                    · replace c32 := Bool.eq_false_iff.mpr c32
                      subst c32
                      have H1 : (foliotref19_one.l2 kj26 a0 (wrap64 (x5_1 + 1)) (wrap64 (x5_1 + 1)) (a0.extract 0 (x5_1 : Int).toNat) (⟨#[]⟩ : ByteArray)) = some (r1, r2, r3) := by rw [if_neg (show ¬ (false = true) by decide)] at H; exact H
                      clear H
                      have H := H1
                      clear H1
                      have H' := Aside0.mk H
                      clear H
                      go_wp2
                      go_loopg [6] kj26 (fun kq v6 w' => ∃ (x6_4 : Int), v6 = .int .i64 x6_4 ∧ Aside0 (foliotref19_one.l2 kq a0 (wrap64 (x5_1 + 1)) x6_4 (a0.extract 0 (x5_1 : Int).toNat) (⟨#[]⟩ : ByteArray) = some (r1, r2, r3)) ∧ Aside0 (kq ≤ kj26) ∧ Aside0 (w'.heap[gb158]? = some (.cells #[.string (⟨#[]⟩ : ByteArray), .string (⟨#[]⟩ : ByteArray)] 41 (0, 0))) ∧ Aside0 (w'.heap[gb159]? = some (.cells #[.string (a0.extract 0 (x5_1 : Int).toNat), .string (⟨#[]⟩ : ByteArray)] 41 (0, 0))) ∧ Aside0 (Below w.heap.size w w'))
                      case atStart => exact ⟨((wrap64 (x5_1 + 1))), (by first | rfl | (simp; done) | (simp [*]; done)), H', ⟨Nat.le_refl _⟩, ⟨by (with_reducible repeat (first | refine blk_drewN ?_ _ | refine blk_drew ?_ | refine blk_alloc ?_ _)); exact BK158.out⟩, ⟨by (with_reducible repeat (first | refine blk_drewN ?_ _ | refine blk_drew ?_ | refine blk_alloc ?_ _)); exact BK159.out⟩, ⟨by repeat (first | (with_reducible first | exact HB.out | apply below_alloc | apply pw_below_drewN | apply below_drew1 | refine below_set ?_ GE158.out | refine below_set ?_ GE159.out) | exact HB.out)⟩⟩
                      case round =>
                        clear H'
                        try clear c1
                        try clear p1
                        try clear q1
                        try clear hx1
                        try clear c2
                        try clear p2
                        try clear q2
                        try clear hx2
                        try clear c3
                        try clear p3
                        try clear q3
                        try clear hx3
                        try clear c4
                        try clear c5
                        try clear p6
                        try clear c7
                        try clear c7b0
                        try clear c8
                        try clear c8b0
                        try clear p9
                        try clear q9
                        try clear hx9
                        try clear c10
                        try clear c10b0
                        try clear c10b1
                        try clear p11
                        try clear q11
                        try clear hx11
                        try clear c12
                        try clear c12b0
                        try clear c12b1
                        try clear c13
                        try clear c13b0
                        try clear c13b1
                        try clear c14
                        try clear c14b0
                        try clear c14b1
                        try clear c16
                        try clear c18
                        try clear c18b0
                        try clear c18b1
                        try clear c19
                        try clear c19b0
                        try clear p20
                        try clear q20
                        try clear hx20
                        try clear c21
                        try clear c22
                        try clear c22b0
                        try clear c22b1
                        try clear c23
                        try clear c23b0
                        try clear c23b1
                        try clear c24
                        try clear c28
                        try clear c28b0
                        try clear c30
                        try clear c30b0
                        try clear p31
                        try clear q31
                        try clear hx31
                        try clear c32
                        try clear c33
                        try clear c33b0
                        try clear c34
                        try clear c34b0
                        try clear p35
                        try clear q35
                        try clear hx35
                        try clear c36
                        try clear c36b0
                        try clear c36b1
                        try clear c38
                        try clear c38b0
                        try clear c38b1
                        try clear c39
                        try clear c39b0
                        try clear c39b1
                        try clear c40
                        try clear c40b0
                        try clear c40b1
                        try clear c42
                        try clear c42b0
                        try clear c42b1
                        try clear c43
                        try clear c43b0
                        try clear c43b1
                        try clear c44
                        try clear c51
                        try clear c51b0
                        try clear c51b1
                        try clear c52
                        try clear c52b0
                        try clear c52b1
                        try clear c53
                        try clear c53b0
                        try clear c53b1
                        try clear c55
                        try clear c55b0
                        try clear c55b1
                        try clear c56
                        try clear c56b0
                        try clear c56b1
                        try clear c57
                        try clear hcz17_0
                        try clear hcz17_1
                        try clear hcz45_0
                        try clear hcz45_1
                        try clear hcz58_0
                        try clear hcz58_1
                        try clear hcz6_0
                        try clear hcz6_1
                        try clear hfz17_0
                        try clear hfz17_1
                        try clear hfz45_0
                        try clear hfz45_1
                        try clear hfz58_0
                        try clear hfz58_1
                        try clear hfz6_0
                        try clear hfz6_1
                        try clear p1
                        try clear p11
                        try clear p2
                        try clear p20
                        try clear p3
                        try clear p31
                        try clear p35
                        try clear p6
                        try clear p9
                        try clear q1
                        try clear q11
                        try clear q2
                        try clear q20
                        try clear q3
                        try clear q31
                        try clear q35
                        try clear q9
                        obtain ⟨x6_4, rfl, HA, HK4, BK158, BK159, HB⟩ := hrel
                        cases gk with
                        | zero => exact absurd HA.out (by simp [foliotref19_one.l2])
                        | succ k4 =>
                          have H := HA.out
                          clear HA
                          simp only [foliotref19_one.l2] at H
                          by_cases c63 : x6_4 < (a0.size : Int)
                          · rw [if_pos c63] at H
                            have c63b0 : decide (x6_4 < (a0.size : Int)) = true := decide_eq_true c63
                            clear c63
                            by_cases c64 : 0 ≤ x6_4
                            · rw [if_pos c64] at H
                              have c64b0 : decide (0 ≤ x6_4) = true := decide_eq_true c64
                              clear c64
                              by_cases c66 : (bt a0 x6_4) = 44
                              · rw [if_pos c66] at H
                                have c66b0 : ((bt a0 x6_4) == 44) = true := beq_iff_eq.mpr c66
                                have c66b1 : ((bt a0 x6_4) != 44) = false := bne_eq_false_iff_eq.mpr c66
                                clear c66
                                obtain ⟨ji67, hji67⟩ : ∃ j_ : Int, (wrap64 (x5_1 + 1)) = j_ := ⟨_, rfl⟩
                                replace H : (if 0 ≤ (ji67) then (if (ji67) ≤ x6_4 then (if x6_4 ≤ (a0.size : Int) then (some ((a0.extract 0 (x5_1 : Int).toNat), a0.extract ((ji67) : Int).toNat (x6_4 : Int).toNat, a0.extract (x6_4 : Int).toNat a0.size)) else (none)) else (none)) else (none)) = some (r1, r2, r3) := by first | (rw [hji67] at H; exact H) | (simp only [hji67] at H ⊢; exact H)
                                have hji67w : (IntKind.i64.wrap (x5_1 + 1)) = ji67 := (i64_w _).trans hji67
                                by_cases c68 : 0 ≤ (ji67)
                                · rw [if_pos c68] at H
                                  have c68b0 := eq_true c68
                                  have c68b1 : decide (0 ≤ (ji67)) = true := decide_eq_true c68
                                  clear c68
                                  by_cases c69 : (ji67) ≤ x6_4
                                  · rw [if_pos c69] at H
                                    have c69b0 := eq_true c69
                                    have c69b1 : decide ((ji67) ≤ x6_4) = true := decide_eq_true c69
                                    clear c69
                                    by_cases c70 : x6_4 ≤ (a0.size : Int)
                                    · rw [if_pos c70] at H
                                      have c70b0 := eq_true c70
                                      have c70b1 : decide (x6_4 ≤ (a0.size : Int)) = true := decide_eq_true c70
                                      clear c70
                                      have c71b0 := eq_true (of_decide_eq_true (by first | (with_reducible assumption) | assumption) : 0 ≤ x6_4)
                                      have c72b0 := eq_true (of_decide_eq_true (by first | (with_reducible assumption) | assumption) : x6_4 ≤ (a0.size : Int))
                                      simp only [Option.some.injEq, Prod.mk.injEq] at H
                                      obtain ⟨rfl, rfl, rfl⟩ := H
                                      have p65 : 0 ≤ (x6_4 : Int) := of_decide_eq_true (by first | (with_reducible assumption) | assumption)
                                      have q65 : x6_4 < (a0.size : Int) := of_decide_eq_true (by first | (with_reducible assumption) | assumption)
                                      have hx65 := bt_at a0 x6_4
                                      replace p65 := eq_true p65
                                      replace q65 := eq_true q65
                                      have hnb73 := NB159_158.out
                                      have hnc73 := NB158_159.out
                                      have hcz74_0 : wr.cell? ⟨gb159, 0, none⟩ = some (.string (a0.extract 0 (x5_1 : Int).toNat)) := (blk_cell BK159.out 0).trans rfl
                                      have hcz74_1 : wr.cell? ⟨gb159, 1, none⟩ = some (.string (⟨#[]⟩ : ByteArray)) := (blk_cell BK159.out 1).trans rfl
                                      have hfz74_0 := blk_frozen BK159.out 0
                                      have hfz74_1 := blk_frozen BK159.out 1
                                      try go_wp2
                                      have n0_ : Aside0 ((wr.setCell ⟨gb159, 1, none⟩ (.string (a0.extract ((ji67) : Int).toNat (x6_4 : Int).toNat))).heap[gb158]? = some (.cells #[.string (⟨#[]⟩ : ByteArray), .string (⟨#[]⟩ : ByteArray)] 41 (0, 0))) := ⟨by (with_reducible repeat (first | refine blk_drewN ?_ _ | refine blk_drew ?_ | refine blk_alloc ?_ _)); refine blk_far ?_ NB158_159.out _; (with_reducible repeat (first | refine blk_drewN ?_ _ | refine blk_drew ?_ | refine blk_alloc ?_ _)); exact BK158.out⟩
                                      have n1_ : Aside0 ((wr.setCell ⟨gb159, 1, none⟩ (.string (a0.extract ((ji67) : Int).toNat (x6_4 : Int).toNat))).heap[gb159]? = some (.cells #[.string (a0.extract 0 (x5_1 : Int).toNat), .string (a0.extract ((ji67) : Int).toNat (x6_4 : Int).toNat)] 41 (0, 0))) := ⟨by (with_reducible repeat (first | refine blk_drewN ?_ _ | refine blk_drew ?_ | refine blk_alloc ?_ _)); refine blk_put (cs := #[.string (a0.extract 0 (x5_1 : Int).toNat), .string (⟨#[]⟩ : ByteArray)]) ?_ 1 _ rfl; (with_reducible repeat (first | refine blk_drewN ?_ _ | refine blk_drew ?_ | refine blk_alloc ?_ _)); exact BK159.out⟩
                                      have n2_ : Aside0 (Below w.heap.size w (wr.setCell ⟨gb159, 1, none⟩ (.string (a0.extract ((ji67) : Int).toNat (x6_4 : Int).toNat)))) := ⟨by repeat (first | (with_reducible first | exact HB.out | apply below_alloc | apply pw_below_drewN | apply below_drew1 | refine below_set ?_ GE158.out | refine below_set ?_ GE159.out) | exact HB.out)⟩
                                      (try clear BK158)
                                      (try clear BK159)
                                      (try clear HB)
                                      generalize (wr.setCell ⟨gb159, 1, none⟩ (.string (a0.extract ((ji67) : Int).toNat (x6_4 : Int).toNat))) = w75 at n0_ n1_ n2_ ⊢
                                      have BK158 := n0_
                                      have BK159 := n1_
                                      have HB := n2_
                                      clear n0_ n1_ n2_
                                      have n0_ := Aside0.mk (blk_drew BK158.out)
                                      have n1_ := Aside0.mk (blk_drew BK159.out)
                                      have n2_ := Aside0.mk (below_drew1 HB.out)
                                      clear BK158
                                      clear BK159
                                      clear HB
                                      have BK158 := n0_
                                      have BK159 := n1_
                                      have HB := n2_
                                      clear n0_ n1_ n2_
                                      refine start_ (n := 6) (S := fun w' => w'.cell? ⟨gb159, 0, none⟩ = some (.string (a0.extract 0 (x5_1 : Int).toNat)) ∧ w'.cell? ⟨gb159, 1, none⟩ = some (.string (a0.extract ((ji67) : Int).toNat (x6_4 : Int).toNat))) (ds := []) #[false, false, false, false, false, false] (by kernel_rfl) rfl rfl ⟨(blk_cell BK159.out 0).trans rfl, (blk_cell BK159.out 1).trans rfl⟩ (fun hHeld => ?_)
                                      generalize w75.drew = w76 at BK158 BK159 HB hHeld ⊢
                                      refine pure_ (i := 1) (N := some 103) (v := ?_) (a' := ?_) #[false, true, false, false, false, false] rfl rfl (by kernel_rfl) (fun _ _ _ h => h) (Or.inl ⟨by rfl, ?_⟩) ?_ ?_
                                      rotate_left
                                      · intro w'
                                        go_simp
                                        with_reducible rfl
                                      rotate_left
                                      · simp only [Act.put, List.setIfInBounds_toArray, List.set_cons_zero, List.set_cons_succ, i64_w, i32_w]
                                        rfl
                                      refine pure_ (i := 2) (N := some 104) (v := ?_) (a' := ?_) #[false, true, true, false, false, false] rfl rfl (by kernel_rfl) (fun _ _ _ h => h) (Or.inl ⟨by rfl, ?_⟩) ?_ ?_
                                      rotate_left
                                      · intro w'
                                        go_simp
                                        with_reducible rfl
                                      rotate_left
                                      · simp only [Act.put, List.setIfInBounds_toArray, List.set_cons_zero, List.set_cons_succ, i64_w, i32_w]
                                        rfl
                                      refine pure_ (i := 3) (N := some 105) (v := ?_) (a' := ?_) #[false, true, true, true, false, false] rfl rfl (by kernel_rfl) (fun _ _ _ h => h) (Or.inl ⟨by rfl, ?_⟩) ?_ ?_
                                      rotate_left
                                      · intro w'
                                        go_simp
                                        with_reducible rfl
                                      rotate_left
                                      · simp only [Act.put, List.setIfInBounds_toArray, List.set_cons_zero, List.set_cons_succ, i64_w, i32_w]
                                        rfl
                                      refine take_ (i := 0) (N := some 102) (v := ?_) (a' := ?_) #[true, true, true, true, false, false] rfl rfl (by kernel_rfl) (fun _ _ _ h => h) (Or.inl ⟨by rfl, ?_⟩) hHeld ?_ ?_
                                      rotate_left
                                      · rintro w' ⟨s0, s1⟩
                                        go_simp
                                        with_reducible rfl
                                      rotate_left
                                      · simp only [Act.put, List.setIfInBounds_toArray, List.set_cons_zero, List.set_cons_succ, i64_w, i32_w]
                                        rfl
                                      refine one_ (i := 4) (N := none) #[true, true, true, true, true, false] rfl rfl (by kernel_rfl) (by decide) (fun K hK => ?_)
                                      have hs77 : w76.cell? ⟨gb158, 0, none⟩ = some (.string (⟨#[]⟩ : ByteArray)) := (blk_cell BK158.out 0).trans rfl
                                      have hfs77 := blk_frozen BK158.out 0
                                      have hns77_1 := NB159_158.out
                                      have hms77_1 := NB158_159.out
                                      have hs78 : w76.cell? ⟨gb158, 1, none⟩ = some (.string (⟨#[]⟩ : ByteArray)) := (blk_cell BK158.out 1).trans rfl
                                      have hfs78 := blk_frozen BK158.out 1
                                      have hns78_1 := NB159_158.out
                                      have hms78_1 := NB158_159.out
                                      refine skip_ (w1 := ?_) (by rfl) rfl ?_ ?_
                                      rotate_left
                                      · go_simp
                                        rfl
                                      refine hK.out _ _ ⟨((cell_far (p := ⟨gb158, _, none⟩) NB159_158.out _).trans (((cell_far (p := ⟨gb158, _, none⟩) NB159_158.out _).trans (hHeld.1)))), ((cell_far (p := ⟨gb158, _, none⟩) NB159_158.out _).trans (((cell_far (p := ⟨gb158, _, none⟩) NB159_158.out _).trans (hHeld.2))))⟩ (fun hHeld => ?_)
                                      clear hK K
                                      refine pure_ (i := 5) (N := some 3) (v := ?_) (a' := ?_) #[true, true, true, true, true, true] rfl rfl (by kernel_rfl) (fun _ _ _ h => h) (Or.inl ⟨by rfl, ?_⟩) ?_ ?_
                                      rotate_left
                                      · intro w'
                                        go_simp
                                        with_reducible rfl
                                      rotate_left
                                      · simp only [Act.put, List.setIfInBounds_toArray, List.set_cons_zero, List.set_cons_succ, i64_w, i32_w]
                                        rfl
                                      refine done_ (by kernel_rfl) ?_
                                      try go_wp2
                                      refine bodyPost_ret (results_ct rfl _ _ gb158 41 #[.string (a0.extract 0 (x5_1 : Int).toNat), .string (a0.extract ((ji67) : Int).toNat (x6_4 : Int).toNat)] (0, 0) _ rfl (by (with_reducible repeat (first | refine blk_drewN ?_ _ | refine blk_drew ?_ | refine blk_alloc ?_ _)); refine blk_put (cs := #[.string (a0.extract 0 (x5_1 : Int).toNat), .string (⟨#[]⟩ : ByteArray)]) ?_ 1 _ rfl; (with_reducible repeat (first | refine blk_drewN ?_ _ | refine blk_drew ?_ | refine blk_alloc ?_ _)); refine blk_put (cs := #[.string (⟨#[]⟩ : ByteArray), .string (⟨#[]⟩ : ByteArray)]) ?_ 0 _ rfl; (with_reducible repeat (first | refine blk_drewN ?_ _ | refine blk_drew ?_ | refine blk_alloc ?_ _)); exact BK158.out) Try.underlying41 rfl (by kernel_rfl)) rfl ?_
                                      exact ⟨by first | rfl | (simp [errW_none, errW_some] <;> rfl) | (simp only [← hji67]; first | rfl | (simp [errW_none, errW_some] <;> rfl)) | (simp [*, errW_none, errW_some] <;> rfl), by repeat (first | (with_reducible first | exact HB.out | apply below_alloc | apply pw_below_drewN | apply below_drew1 | refine below_set ?_ GE158.out | refine below_set ?_ GE159.out) | exact HB.out)⟩
                                    · rw [if_neg c70] at H
                                      exact absurd H (by simp)
                                  · rw [if_neg c69] at H
                                    exact absurd H (by simp)
                                · rw [if_neg c68] at H
                                  exact absurd H (by simp)
                              · rw [if_neg c66] at H
                                have c66b0 : ((bt a0 x6_4) == 44) = false := beq_eq_false_iff_ne.mpr c66
                                have c66b1 : ((bt a0 x6_4) != 44) = true := bne_iff_ne.mpr c66
                                have H' := Aside0.mk H
                                clear H
                                have p65 : 0 ≤ (x6_4 : Int) := of_decide_eq_true (by first | (with_reducible assumption) | assumption)
                                have q65 : x6_4 < (a0.size : Int) := of_decide_eq_true (by first | (with_reducible assumption) | assumption)
                                have hx65 := bt_at a0 x6_4
                                replace p65 := eq_true p65
                                replace q65 := eq_true q65
                                go_wp2
                                go_roundg k4
                                case measure => have := HJ1.out; have := HJ14.out; have := HJ26.out; have := HK4.out; omega
                                case rel => exact ⟨(wrap64 (x6_4 + 1)), (by first | rfl | (simp; done) | (simp [*]; done)), H', ⟨by have := HJ1.out; have := HJ14.out; have := HJ26.out; have := HK4.out; omega⟩, ⟨by (with_reducible repeat (first | refine blk_drewN ?_ _ | refine blk_drew ?_ | refine blk_alloc ?_ _)); exact BK158.out⟩, ⟨by (with_reducible repeat (first | refine blk_drewN ?_ _ | refine blk_drew ?_ | refine blk_alloc ?_ _)); exact BK159.out⟩, ⟨by repeat (first | (with_reducible first | exact HB.out | apply below_alloc | apply pw_below_drewN | apply below_drew1 | refine below_set ?_ GE158.out | refine below_set ?_ GE159.out) | exact HB.out)⟩⟩
                            · rw [if_neg c64] at H
                              exact absurd H (by simp)
                          · rw [if_neg c63] at H
                            have c63b0 : decide (x6_4 < (a0.size : Int)) = false := decide_eq_false c63
                            clear c63
                            obtain ⟨ji79, hji79⟩ : ∃ j_ : Int, (wrap64 (x5_1 + 1)) = j_ := ⟨_, rfl⟩
                            replace H : (if 0 ≤ (ji79) then (if (ji79) ≤ x6_4 then (if x6_4 ≤ (a0.size : Int) then (if 0 ≤ x6_4 then (some ((a0.extract 0 (x5_1 : Int).toNat), a0.extract ((ji79) : Int).toNat (x6_4 : Int).toNat, a0.extract (x6_4 : Int).toNat a0.size)) else (none)) else (none)) else (none)) else (none)) = some (r1, r2, r3) := by first | (rw [hji79] at H; exact H) | (simp only [hji79] at H ⊢; exact H)
                            have hji79w : (IntKind.i64.wrap (x5_1 + 1)) = ji79 := (i64_w _).trans hji79
                            by_cases c80 : 0 ≤ (ji79)
                            · rw [if_pos c80] at H
                              have c80b0 := eq_true c80
                              have c80b1 : decide (0 ≤ (ji79)) = true := decide_eq_true c80
                              clear c80
                              by_cases c81 : (ji79) ≤ x6_4
                              · rw [if_pos c81] at H
                                have c81b0 := eq_true c81
                                have c81b1 : decide ((ji79) ≤ x6_4) = true := decide_eq_true c81
                                clear c81
                                by_cases c82 : x6_4 ≤ (a0.size : Int)
                                · rw [if_pos c82] at H
                                  have c82b0 := eq_true c82
                                  have c82b1 : decide (x6_4 ≤ (a0.size : Int)) = true := decide_eq_true c82
                                  clear c82
                                  by_cases c83 : 0 ≤ x6_4
                                  · rw [if_pos c83] at H
                                    have c83b0 := eq_true c83
                                    have c83b1 : decide (0 ≤ x6_4) = true := decide_eq_true c83
                                    clear c83
                                    have c84b0 := eq_true (of_decide_eq_true (by first | (with_reducible assumption) | assumption) : x6_4 ≤ (a0.size : Int))
                                    simp only [Option.some.injEq, Prod.mk.injEq] at H
                                    obtain ⟨rfl, rfl, rfl⟩ := H
                                    have hnb85 := NB159_158.out
                                    have hnc85 := NB158_159.out
                                    have hcz86_0 : wr.cell? ⟨gb159, 0, none⟩ = some (.string (a0.extract 0 (x5_1 : Int).toNat)) := (blk_cell BK159.out 0).trans rfl
                                    have hcz86_1 : wr.cell? ⟨gb159, 1, none⟩ = some (.string (⟨#[]⟩ : ByteArray)) := (blk_cell BK159.out 1).trans rfl
                                    have hfz86_0 := blk_frozen BK159.out 0
                                    have hfz86_1 := blk_frozen BK159.out 1
                                    try go_wp2
                                    have n0_ : Aside0 ((wr.setCell ⟨gb159, 1, none⟩ (.string (a0.extract ((ji79) : Int).toNat (x6_4 : Int).toNat))).heap[gb158]? = some (.cells #[.string (⟨#[]⟩ : ByteArray), .string (⟨#[]⟩ : ByteArray)] 41 (0, 0))) := ⟨by (with_reducible repeat (first | refine blk_drewN ?_ _ | refine blk_drew ?_ | refine blk_alloc ?_ _)); refine blk_far ?_ NB158_159.out _; (with_reducible repeat (first | refine blk_drewN ?_ _ | refine blk_drew ?_ | refine blk_alloc ?_ _)); exact BK158.out⟩
                                    have n1_ : Aside0 ((wr.setCell ⟨gb159, 1, none⟩ (.string (a0.extract ((ji79) : Int).toNat (x6_4 : Int).toNat))).heap[gb159]? = some (.cells #[.string (a0.extract 0 (x5_1 : Int).toNat), .string (a0.extract ((ji79) : Int).toNat (x6_4 : Int).toNat)] 41 (0, 0))) := ⟨by (with_reducible repeat (first | refine blk_drewN ?_ _ | refine blk_drew ?_ | refine blk_alloc ?_ _)); refine blk_put (cs := #[.string (a0.extract 0 (x5_1 : Int).toNat), .string (⟨#[]⟩ : ByteArray)]) ?_ 1 _ rfl; (with_reducible repeat (first | refine blk_drewN ?_ _ | refine blk_drew ?_ | refine blk_alloc ?_ _)); exact BK159.out⟩
                                    have n2_ : Aside0 (Below w.heap.size w (wr.setCell ⟨gb159, 1, none⟩ (.string (a0.extract ((ji79) : Int).toNat (x6_4 : Int).toNat)))) := ⟨by repeat (first | (with_reducible first | exact HB.out | apply below_alloc | apply pw_below_drewN | apply below_drew1 | refine below_set ?_ GE158.out | refine below_set ?_ GE159.out) | exact HB.out)⟩
                                    (try clear BK158)
                                    (try clear BK159)
                                    (try clear HB)
                                    generalize (wr.setCell ⟨gb159, 1, none⟩ (.string (a0.extract ((ji79) : Int).toNat (x6_4 : Int).toNat))) = w87 at n0_ n1_ n2_ ⊢
                                    have BK158 := n0_
                                    have BK159 := n1_
                                    have HB := n2_
                                    clear n0_ n1_ n2_
                                    have n0_ := Aside0.mk (blk_drew BK158.out)
                                    have n1_ := Aside0.mk (blk_drew BK159.out)
                                    have n2_ := Aside0.mk (below_drew1 HB.out)
                                    clear BK158
                                    clear BK159
                                    clear HB
                                    have BK158 := n0_
                                    have BK159 := n1_
                                    have HB := n2_
                                    clear n0_ n1_ n2_
                                    refine start_ (n := 6) (S := fun w' => w'.cell? ⟨gb159, 0, none⟩ = some (.string (a0.extract 0 (x5_1 : Int).toNat)) ∧ w'.cell? ⟨gb159, 1, none⟩ = some (.string (a0.extract ((ji79) : Int).toNat (x6_4 : Int).toNat))) (ds := []) #[false, false, false, false, false, false] (by kernel_rfl) rfl rfl ⟨(blk_cell BK159.out 0).trans rfl, (blk_cell BK159.out 1).trans rfl⟩ (fun hHeld => ?_)
                                    generalize w87.drew = w88 at BK158 BK159 HB hHeld ⊢
                                    refine pure_ (i := 1) (N := some 103) (v := ?_) (a' := ?_) #[false, true, false, false, false, false] rfl rfl (by kernel_rfl) (fun _ _ _ h => h) (Or.inl ⟨by rfl, ?_⟩) ?_ ?_
                                    rotate_left
                                    · intro w'
                                      go_simp
                                      with_reducible rfl
                                    rotate_left
                                    · simp only [Act.put, List.setIfInBounds_toArray, List.set_cons_zero, List.set_cons_succ, i64_w, i32_w]
                                      rfl
                                    refine pure_ (i := 2) (N := some 104) (v := ?_) (a' := ?_) #[false, true, true, false, false, false] rfl rfl (by kernel_rfl) (fun _ _ _ h => h) (Or.inl ⟨by rfl, ?_⟩) ?_ ?_
                                    rotate_left
                                    · intro w'
                                      go_simp
                                      with_reducible rfl
                                    rotate_left
                                    · simp only [Act.put, List.setIfInBounds_toArray, List.set_cons_zero, List.set_cons_succ, i64_w, i32_w]
                                      rfl
                                    refine pure_ (i := 3) (N := some 105) (v := ?_) (a' := ?_) #[false, true, true, true, false, false] rfl rfl (by kernel_rfl) (fun _ _ _ h => h) (Or.inl ⟨by rfl, ?_⟩) ?_ ?_
                                    rotate_left
                                    · intro w'
                                      go_simp
                                      with_reducible rfl
                                    rotate_left
                                    · simp only [Act.put, List.setIfInBounds_toArray, List.set_cons_zero, List.set_cons_succ, i64_w, i32_w]
                                      rfl
                                    refine take_ (i := 0) (N := some 102) (v := ?_) (a' := ?_) #[true, true, true, true, false, false] rfl rfl (by kernel_rfl) (fun _ _ _ h => h) (Or.inl ⟨by rfl, ?_⟩) hHeld ?_ ?_
                                    rotate_left
                                    · rintro w' ⟨s0, s1⟩
                                      go_simp
                                      with_reducible rfl
                                    rotate_left
                                    · simp only [Act.put, List.setIfInBounds_toArray, List.set_cons_zero, List.set_cons_succ, i64_w, i32_w]
                                      rfl
                                    refine one_ (i := 4) (N := none) #[true, true, true, true, true, false] rfl rfl (by kernel_rfl) (by decide) (fun K hK => ?_)
                                    have hs89 : w88.cell? ⟨gb158, 0, none⟩ = some (.string (⟨#[]⟩ : ByteArray)) := (blk_cell BK158.out 0).trans rfl
                                    have hfs89 := blk_frozen BK158.out 0
                                    have hns89_1 := NB159_158.out
                                    have hms89_1 := NB158_159.out
                                    have hs90 : w88.cell? ⟨gb158, 1, none⟩ = some (.string (⟨#[]⟩ : ByteArray)) := (blk_cell BK158.out 1).trans rfl
                                    have hfs90 := blk_frozen BK158.out 1
                                    have hns90_1 := NB159_158.out
                                    have hms90_1 := NB158_159.out
                                    refine skip_ (w1 := ?_) (by rfl) rfl ?_ ?_
                                    rotate_left
                                    · go_simp
                                      rfl
                                    refine hK.out _ _ ⟨((cell_far (p := ⟨gb158, _, none⟩) NB159_158.out _).trans (((cell_far (p := ⟨gb158, _, none⟩) NB159_158.out _).trans (hHeld.1)))), ((cell_far (p := ⟨gb158, _, none⟩) NB159_158.out _).trans (((cell_far (p := ⟨gb158, _, none⟩) NB159_158.out _).trans (hHeld.2))))⟩ (fun hHeld => ?_)
                                    clear hK K
                                    refine pure_ (i := 5) (N := some 3) (v := ?_) (a' := ?_) #[true, true, true, true, true, true] rfl rfl (by kernel_rfl) (fun _ _ _ h => h) (Or.inl ⟨by rfl, ?_⟩) ?_ ?_
                                    rotate_left
                                    · intro w'
                                      go_simp
                                      with_reducible rfl
                                    rotate_left
                                    · simp only [Act.put, List.setIfInBounds_toArray, List.set_cons_zero, List.set_cons_succ, i64_w, i32_w]
                                      rfl
                                    refine done_ (by kernel_rfl) ?_
                                    try go_wp2
                                    refine bodyPost_ret (results_ct rfl _ _ gb158 41 #[.string (a0.extract 0 (x5_1 : Int).toNat), .string (a0.extract ((ji79) : Int).toNat (x6_4 : Int).toNat)] (0, 0) _ rfl (by (with_reducible repeat (first | refine blk_drewN ?_ _ | refine blk_drew ?_ | refine blk_alloc ?_ _)); refine blk_put (cs := #[.string (a0.extract 0 (x5_1 : Int).toNat), .string (⟨#[]⟩ : ByteArray)]) ?_ 1 _ rfl; (with_reducible repeat (first | refine blk_drewN ?_ _ | refine blk_drew ?_ | refine blk_alloc ?_ _)); refine blk_put (cs := #[.string (⟨#[]⟩ : ByteArray), .string (⟨#[]⟩ : ByteArray)]) ?_ 0 _ rfl; (with_reducible repeat (first | refine blk_drewN ?_ _ | refine blk_drew ?_ | refine blk_alloc ?_ _)); exact BK158.out) Try.underlying41 rfl (by kernel_rfl)) rfl ?_
                                    exact ⟨by first | rfl | (simp [errW_none, errW_some] <;> rfl) | (simp only [← hji79]; first | rfl | (simp [errW_none, errW_some] <;> rfl)) | (simp [*, errW_none, errW_some] <;> rfl), by repeat (first | (with_reducible first | exact HB.out | apply below_alloc | apply pw_below_drewN | apply below_drew1 | refine below_set ?_ GE158.out | refine below_set ?_ GE159.out) | exact HB.out)⟩
                                  · rw [if_neg c83] at H
                                    exact absurd H (by simp)
                                · rw [if_neg c82] at H
                                  exact absurd H (by simp)
                              · rw [if_neg c81] at H
                                exact absurd H (by simp)
                            · rw [if_neg c80] at H
                              exact absurd H (by simp)
        · rw [if_neg c14] at H
          exact absurd H (by simp)
      · rw [if_neg c13] at H
        exact absurd H (by simp)

end Go.Proofs.Ytpclhceafigibaa.PAll
