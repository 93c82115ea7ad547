/- Functions and contracts, printed by a program over the kit's print (wip/fprint.py): some callees' contracts are typed by hand in texts of their own. -/
import Derived.Test.YtpclhceafigibaaPAllx0
import Derived.Test.YtpclhceafigibaaPAllx2
import Derived.Test.YtpclhceafigibaaPAllx3
import Derived.Test.YtpclhceafigibaaPAllx4
import Derived.Test.YtpclhceafigibaaPAllx6
import Derived.Test.YtpclhceafigibaaPAllx7
import Derived.Test.YtpclhceafigibaaFGood
import Derived.Test.YtpclhceafigibaaFPick
namespace Go.Proofs.Ytpclhceafigibaa.PAll
open Go.RowKit Go.Proofs.YtpclhceafigibaaW.PrintWords Go.Proofs.YtpclhceafigibaaW.PrintLast Go.Proofs.YtpclhceafigibaaW.PrintMore
attribute [local go_sem] max2_int min2_int max_two min_two max_three min_three max_four min_four   -- for this text's walks alone
set_option linter.unusedVariables false
set_option linter.unusedSimpArgs false

/-! ### foliotlaw19_ControlLists: function 4 -/
mutual
def foliotlaw19_ControlLists.j0 : Nat → List (S39) → List (S39) → ByteArray → Bool → Option (Bool)
  | 0, _, _, _, _ => none
  | k + 1, x0, x1, x2, x30 => if x30 = true then (some true) else ((control_List.f k x0).bind fun bt223 => ((foliotlaw19_theirs.f k x0).bind fun t225 => ((foliotref19_List.f k t225).bind fun bt228 => ((control_Read.f k x2).bind fun bt230 => ((foliotref19_Read.f k x2).bind fun bt234 => (if bt223.1.toList = bt228.1.toList then (if bt223.2 = bt228.2 then (if bt230.2 = bt234.2 then ((foliotlaw19_ours.f k bt234.1).bind fun t238 => ((foliotlaw19_sameVars.f k bt230.1 t238).bind fun t241 => (foliotlaw19_ControlLists.j1 k x0 x1 (!t241)))) else (foliotlaw19_ControlLists.j1 k x0 x1 true)) else (foliotlaw19_ControlLists.j1 k x0 x1 true)) else (foliotlaw19_ControlLists.j1 k x0 x1 true)))))))
def foliotlaw19_ControlLists.j1 : Nat → List (S39) → List (S39) → Bool → Option (Bool)
  | 0, _, _, _ => none
  | k + 1, x0, x1, x71 => if x71 = true then (some false) else (foliotlaw19_ControlLists.l0 k x0 x1 0)
def foliotlaw19_ControlLists.l0 : Nat → List (S39) → List (S39) → Int → Option (Bool)
  | 0, _, _, _ => none
  | k + 1, x0, x1, x15 => if x15 < (x0.length : Int) then (if 0 ≤ x15 then ((control_Good.f ((rd_T39 x0 x15).f0) ((rd_T39 x0 x15).f1)).bind fun t243 => ((foliotref19_Good.f k ((rd_T39 x0 x15).f0) ((rd_T39 x0 x15).f1)).bind fun t245 => (if (t243 != t245) = true then (some false) else (foliotlaw19_ControlLists.l0 k x0 x1 (wrap64 (x15 + 1)))))) else (none)) else ((control_Pick.f x0 x1).bind fun bt246 => ((foliotlaw19_theirs.f k x0).bind fun t250 => ((foliotlaw19_theirs.f k x1).bind fun t253 => ((foliotref19_Pick.f k t250 t253).bind fun bt256 => (if (bt246.2 == bt256.2) = true then ((foliotlaw19_ours.f k bt256.1).bind fun t260 => ((foliotlaw19_sameVars.f k bt246.1 t260).bind fun t263 => (some t263))) else (some false))))))
end
def foliotlaw19_ControlLists.f (k : Nat) (l0 : List (S39)) (l1 : List (S39)) (a2 : ByteArray) : Option (Bool) := (foliotlaw19_heavy.f k l0).bind fun t221 => (if t221 = true then (foliotlaw19_ControlLists.j0 k l0 l1 a2 true) else ((foliotlaw19_heavy.f k l1).bind fun t222 => (if t222 = true then (foliotlaw19_ControlLists.j0 k l0 l1 a2 true) else (foliotlaw19_ControlLists.j0 k l0 l1 a2 (decide ((a2.size : Int) > 4096))))))
theorem foliotlaw19_ControlLists.mono_l : ∀ k, (∀ y0 y1 y2 y3, LeO (foliotlaw19_ControlLists.j0 k y0 y1 y2 y3) (foliotlaw19_ControlLists.j0 (k + 1) y0 y1 y2 y3)) ∧ (∀ y0 y1 y2, LeO (foliotlaw19_ControlLists.j1 k y0 y1 y2) (foliotlaw19_ControlLists.j1 (k + 1) y0 y1 y2)) ∧ (∀ y0 y1 y2, LeO (foliotlaw19_ControlLists.l0 k y0 y1 y2) (foliotlaw19_ControlLists.l0 (k + 1) y0 y1 y2))
  | 0 => ⟨fun _ _ _ _ r h => by simp [foliotlaw19_ControlLists.j0] at h, fun _ _ _ r h => by simp [foliotlaw19_ControlLists.j1] at h, fun _ _ _ r h => by simp [foliotlaw19_ControlLists.l0] at h⟩
  | k + 1 => by
    obtain ⟨ih0, ih1, ih2⟩ := foliotlaw19_ControlLists.mono_l k
    refine ⟨?_, ?_, ?_⟩
    · intro y0 y1 y2 y3
      unfold foliotlaw19_ControlLists.j0
      repeat' first
      | (with_reducible exact ih0 _ _ _ _)
      | (with_reducible exact ih1 _ _ _)
      | (with_reducible exact ih2 _ _ _)
      | (with_reducible exact control_List.mono _ _)
      | (with_reducible exact control_Read.mono _ _)
      | (with_reducible exact foliotlaw19_heavy.mono _ _)
      | (with_reducible exact foliotlaw19_ours.mono _ _)
      | (with_reducible exact foliotlaw19_sameVars.mono _ _ _)
      | (with_reducible exact foliotlaw19_theirs.mono _ _)
      | (with_reducible exact foliotref19_Good.mono _ _ _)
      | (with_reducible exact foliotref19_List.mono _ _)
      | (with_reducible exact foliotref19_Pick.mono _ _ _)
      | (with_reducible exact foliotref19_Read.mono _ _)
      | (with_reducible exact LeO.refl _)
      | (with_reducible exact LeO.none _)
      | (with_reducible refine LeO.ite ?_ ?_)
      | (with_reducible refine LeO.bind ?_ (fun _ => ?_))
      | exact ih0 _ _ _ _
      | exact ih1 _ _ _
      | exact ih2 _ _ _
      | exact control_List.mono _ _
      | exact control_Read.mono _ _
      | exact foliotlaw19_heavy.mono _ _
      | exact foliotlaw19_ours.mono _ _
      | exact foliotlaw19_sameVars.mono _ _ _
      | exact foliotlaw19_theirs.mono _ _
      | exact foliotref19_Good.mono _ _ _
      | exact foliotref19_List.mono _ _
      | exact foliotref19_Pick.mono _ _ _
      | exact foliotref19_Read.mono _ _
      | exact LeO.none _
      | refine LeO.ite ?_ ?_
      | refine LeO.bind ?_ (fun _ => ?_)
    · intro y0 y1 y2
      unfold foliotlaw19_ControlLists.j1
      repeat' first
      | (with_reducible exact ih0 _ _ _ _)
      | (with_reducible exact ih1 _ _ _)
      | (with_reducible exact ih2 _ _ _)
      | (with_reducible exact control_List.mono _ _)
      | (with_reducible exact control_Read.mono _ _)
      | (with_reducible exact foliotlaw19_heavy.mono _ _)
      | (with_reducible exact foliotlaw19_ours.mono _ _)
      | (with_reducible exact foliotlaw19_sameVars.mono _ _ _)
      | (with_reducible exact foliotlaw19_theirs.mono _ _)
      | (with_reducible exact foliotref19_Good.mono _ _ _)
      | (with_reducible exact foliotref19_List.mono _ _)
      | (with_reducible exact foliotref19_Pick.mono _ _ _)
      | (with_reducible exact foliotref19_Read.mono _ _)
      | (with_reducible exact LeO.refl _)
      | (with_reducible exact LeO.none _)
      | (with_reducible refine LeO.ite ?_ ?_)
      | (with_reducible refine LeO.bind ?_ (fun _ => ?_))
      | exact ih0 _ _ _ _
      | exact ih1 _ _ _
      | exact ih2 _ _ _
      | exact control_List.mono _ _
      | exact control_Read.mono _ _
      | exact foliotlaw19_heavy.mono _ _
      | exact foliotlaw19_ours.mono _ _
      | exact foliotlaw19_sameVars.mono _ _ _
      | exact foliotlaw19_theirs.mono _ _
      | exact foliotref19_Good.mono _ _ _
      | exact foliotref19_List.mono _ _
      | exact foliotref19_Pick.mono _ _ _
      | exact foliotref19_Read.mono _ _
      | exact LeO.none _
      | refine LeO.ite ?_ ?_
      | refine LeO.bind ?_ (fun _ => ?_)
    · intro y0 y1 y2
      unfold foliotlaw19_ControlLists.l0
      repeat' first
      | (with_reducible exact ih0 _ _ _ _)
      | (with_reducible exact ih1 _ _ _)
      | (with_reducible exact ih2 _ _ _)
      | (with_reducible exact control_List.mono _ _)
      | (with_reducible exact control_Read.mono _ _)
      | (with_reducible exact foliotlaw19_heavy.mono _ _)
      | (with_reducible exact foliotlaw19_ours.mono _ _)
      | (with_reducible exact foliotlaw19_sameVars.mono _ _ _)
      | (with_reducible exact foliotlaw19_theirs.mono _ _)
      | (with_reducible exact foliotref19_Good.mono _ _ _)
      | (with_reducible exact foliotref19_List.mono _ _)
      | (with_reducible exact foliotref19_Pick.mono _ _ _)
      | (with_reducible exact foliotref19_Read.mono _ _)
      | (with_reducible exact LeO.refl _)
      | (with_reducible exact LeO.none _)
      | (with_reducible refine LeO.ite ?_ ?_)
      | (with_reducible refine LeO.bind ?_ (fun _ => ?_))
      | exact ih0 _ _ _ _
      | exact ih1 _ _ _
      | exact ih2 _ _ _
      | exact control_List.mono _ _
      | exact control_Read.mono _ _
      | exact foliotlaw19_heavy.mono _ _
      | exact foliotlaw19_ours.mono _ _
      | exact foliotlaw19_sameVars.mono _ _ _
      | exact foliotlaw19_theirs.mono _ _
      | exact foliotref19_Good.mono _ _ _
      | exact foliotref19_List.mono _ _
      | exact foliotref19_Pick.mono _ _ _
      | exact foliotref19_Read.mono _ _
      | exact LeO.none _
      | refine LeO.ite ?_ ?_
      | refine LeO.bind ?_ (fun _ => ?_)
theorem foliotlaw19_ControlLists.mono : ∀ a0 a1 a2 k, LeO (foliotlaw19_ControlLists.f k a0 a1 a2) (foliotlaw19_ControlLists.f (k + 1) a0 a1 a2) := by
  intro a0 a1 a2 k
  obtain ⟨ih0, ih1, ih2⟩ := foliotlaw19_ControlLists.mono_l k
  unfold foliotlaw19_ControlLists.f
  repeat' first
      | (with_reducible exact ih0 _ _ _ _)
      | (with_reducible exact ih1 _ _ _)
      | (with_reducible exact ih2 _ _ _)
      | (with_reducible exact control_List.mono _ _)
      | (with_reducible exact control_Read.mono _ _)
      | (with_reducible exact foliotlaw19_heavy.mono _ _)
      | (with_reducible exact foliotlaw19_ours.mono _ _)
      | (with_reducible exact foliotlaw19_sameVars.mono _ _ _)
      | (with_reducible exact foliotlaw19_theirs.mono _ _)
      | (with_reducible exact foliotref19_Good.mono _ _ _)
      | (with_reducible exact foliotref19_List.mono _ _)
      | (with_reducible exact foliotref19_Pick.mono _ _ _)
      | (with_reducible exact foliotref19_Read.mono _ _)
      | (with_reducible exact LeO.refl _)
      | (with_reducible exact LeO.none _)
      | (with_reducible refine LeO.ite ?_ ?_)
      | (with_reducible refine LeO.bind ?_ (fun _ => ?_))
      | exact ih0 _ _ _ _
      | exact ih1 _ _ _
      | exact ih2 _ _ _
      | exact control_List.mono _ _
      | exact control_Read.mono _ _
      | exact foliotlaw19_heavy.mono _ _
      | exact foliotlaw19_ours.mono _ _
      | exact foliotlaw19_sameVars.mono _ _ _
      | exact foliotlaw19_theirs.mono _ _
      | exact foliotref19_Good.mono _ _ _
      | exact foliotref19_List.mono _ _
      | exact foliotref19_Pick.mono _ _ _
      | exact foliotref19_Read.mono _ _
      | exact LeO.none _
      | refine LeO.ite ?_ ?_
      | refine LeO.bind ?_ (fun _ => ?_)
def foliotlaw19_ControlLists.T12 : Bool × List (List Nat × List Nat) := (true, [([], []), ([], []), ([0, 1], [0, 1]), ([2], [2]), ([3], [3]), ([], []), ([], []), ([5, 6], [5, 6]), ([7], [7]), ([8, 4], [8]), ([4, 9], [4, 9])])
def foliotlaw19_ControlLists.B12 : List Nat := [0, 0, 3, 7, 15, 0, 0, 96, 224, 511, 1023]
theorem foliotlaw19_ControlLists.tab12 : rtab .any (opsOf Try.f4 12) = foliotlaw19_ControlLists.T12 := by kernel_rfl
theorem foliotlaw19_ControlLists.bits12 : waitsOk foliotlaw19_ControlLists.T12.2 foliotlaw19_ControlLists.B12 = true := by kernel_rfl
set_option maxHeartbeats 8000000 in
set_option maxRecDepth 100000 in
theorem foliotlaw19_ControlLists.calls (k : Nat) (A0 : Option Addr) (c0 : Nat) (l0 : List (S39)) (A1 : Option Addr) (c1 : Nat) (l1 : List (S39)) (a2 : ByteArray) (r : Bool) (w : World) (hr0 : Kd.C k39 w A0 l0.length l0) (hc0 : l0.length ≤ c0) (hr1 : Kd.C k39 w A1 l1.length l1) (hc1 : l1.length ≤ c1) (h : foliotlaw19_ControlLists.f k l0 l1 a2 = some r) :
    Calls Try.prog 4 #[.slice A0 l0.length c0, .slice A1 l1.length c1, .string a2] w fun e w' => e = .returned (.bool r) ∧ Below w.heap.size w w' := by
  have hu39 := Try.underlying39
  have HR0 := Aside0.mk hr0
  have HC0 := Aside0.mk hc0
  clear hr0 hc0
  have HR1 := Aside0.mk hr1
  have HC1 := Aside0.mk hc1
  clear hr1 hc1
  have HB := Aside0.mk (Below.refl w.heap.size w)
  have H : ((foliotlaw19_heavy.f k l0).bind fun t221 => (if t221 = true then (foliotlaw19_ControlLists.j0 k l0 l1 a2 true) else ((foliotlaw19_heavy.f k l1).bind fun t222 => (if t222 = true then (foliotlaw19_ControlLists.j0 k l0 l1 a2 true) else (foliotlaw19_ControlLists.j0 k l0 l1 a2 (decide ((a2.size : Int) > 4096))))))) = some r := h
  clear h
  have HC4 := Aside0.mk H
  clear H
  go_enter Try.func4, Try.ntmps4
  go_upto_region 1 with (fail)
  go_cut [30] (fun v30 wc => ∃ (kq : Nat) (x30_3 : Bool), v30 = .bool x30_3 ∧ Aside0 (foliotlaw19_ControlLists.j0 kq l0 l1 a2 x30_3 = some r) ∧ Aside0 (kq ≤ k) ∧ Aside0 (Below w.heap.size w wc))
  case first =>
    have H := HC4.out
    clear HC4
    replace H := Option.bind_eq_some_iff.mp H
    obtain ⟨t221, A50, H⟩ := H
    replace H : (if t221 = true then (foliotlaw19_ControlLists.j0 k l0 l1 a2 true) else ((foliotlaw19_heavy.f k l1).bind fun t222 => (if t222 = true then (foliotlaw19_ControlLists.j0 k l0 l1 a2 true) else (foliotlaw19_ControlLists.j0 k l0 l1 a2 (decide ((a2.size : Int) > 4096)))))) = some r := H
    have A5 := Aside0.mk A50
    clear A50
    by_cases c6 : t221 = true
    · subst c6
      have H1 : (foliotlaw19_ControlLists.j0 k l0 l1 a2 true) = some r := by rw [if_pos rfl] at H; exact H
      clear H
      have H := H1
      clear H1
      have H' := Aside0.mk H
      clear H
      go_wp2_with (first | ((with_reducible refine gate_callee (f := 5) rfl ?_); refine goesL_ (some 21) rfl rfl Try.func5 (by kernel_rfl) rfl #[.slice A0 l0.length c0] rfl (by (try simp only [List.map_toArray, List.map_cons, List.map_nil]); first | done | rfl | (simp only [List.length_drop, List.length_take]; rfl)) ?_; (with_reducible refine (foliotlaw19_heavy.calls k _ _ l0 true _ ?side1 ?side2 A5.out).mono ?_); (case side1 => repeat (first | exact (Kd.C_below HR0.out HB.out) | (with_reducible refine Kd.C_alloc ?_ _) | (with_reducible refine Kd.C_drewN ?_ _) | (with_reducible refine Kd.C_drew ?_))); (case side2 => exact HC0.out); rintro e w7 ⟨rfl, hb⟩; refine ⟨_, rfl, ?_⟩; have n0_ := Aside0.mk (below_step (by repeat (first | (with_reducible first | exact HB.out | apply below_alloc | apply pw_below_drewN | apply below_drew1) | exact HB.out)) hb); clear HB; have HB := n0_; clear n0_; (try clear hb); (try clear hb2); (try clear hk); (try clear hi)))
      go_meet
      case rel => exact ⟨_, (true), (by first | rfl | (simp; done) | (simp [*]; done)), H', ⟨by first | omega | exact Nat.le_refl _⟩, ⟨by repeat (first | (with_reducible first | exact HB.out | apply below_alloc | apply pw_below_drewN | apply below_drew1) | exact HB.out)⟩⟩
    · replace c6 := Bool.eq_false_iff.mpr c6
      subst c6
      have H1 : ((foliotlaw19_heavy.f k l1).bind fun t222 => (if t222 = true then (foliotlaw19_ControlLists.j0 k l0 l1 a2 true) else (foliotlaw19_ControlLists.j0 k l0 l1 a2 (decide ((a2.size : Int) > 4096))))) = some r := by rw [if_neg (show ¬ (false = true) by decide)] at H; exact H
      clear H
      have H := H1
      clear H1
      replace H := Option.bind_eq_some_iff.mp H
      obtain ⟨t222, A80, H⟩ := H
      replace H : (if t222 = true then (foliotlaw19_ControlLists.j0 k l0 l1 a2 true) else (foliotlaw19_ControlLists.j0 k l0 l1 a2 (decide ((a2.size : Int) > 4096)))) = some r := H
      have A8 := Aside0.mk A80
      clear A80
      by_cases c9 : t222 = true
      · subst c9
        have H1 : (foliotlaw19_ControlLists.j0 k l0 l1 a2 true) = some r := by rw [if_pos rfl] at H; exact H
        clear H
        have H := H1
        clear H1
        have H' := Aside0.mk H
        clear H
        go_wp2_with (first | ((with_reducible refine gate_callee (f := 5) rfl ?_); refine goesL_ (some 21) rfl rfl Try.func5 (by kernel_rfl) rfl #[.slice A0 l0.length c0] rfl (by (try simp only [List.map_toArray, List.map_cons, List.map_nil]); first | done | rfl | (simp only [List.length_drop, List.length_take]; rfl)) ?_; (with_reducible refine (foliotlaw19_heavy.calls k _ _ l0 false _ ?side1 ?side2 A5.out).mono ?_); (case side1 => repeat (first | exact (Kd.C_below HR0.out HB.out) | (with_reducible refine Kd.C_alloc ?_ _) | (with_reducible refine Kd.C_drewN ?_ _) | (with_reducible refine Kd.C_drew ?_))); (case side2 => exact HC0.out); rintro e w10 ⟨rfl, hb⟩; refine ⟨_, rfl, ?_⟩; have n0_ := Aside0.mk (below_step (by repeat (first | (with_reducible first | exact HB.out | apply below_alloc | apply pw_below_drewN | apply below_drew1) | exact HB.out)) hb); clear HB; have HB := n0_; clear n0_; (try clear hb); (try clear hb2); (try clear hk); (try clear hi)) | (go_at_call 5; (with_reducible refine (foliotlaw19_heavy.calls k _ _ l1 true _ ?side1 ?side2 A8.out).mono ?_); (case side1 => repeat (first | exact (Kd.C_below HR1.out HB.out) | (with_reducible refine Kd.C_alloc ?_ _) | (with_reducible refine Kd.C_drewN ?_ _) | (with_reducible refine Kd.C_drew ?_))); (case side2 => exact HC1.out); rintro e w11 ⟨rfl, hb⟩; have n0_ := Aside0.mk (below_step (by repeat (first | (with_reducible first | exact HB.out | apply below_alloc | apply pw_below_drewN | apply below_drew1) | exact HB.out)) hb); clear HB; have HB := n0_; clear n0_; (try clear hb); (try clear hb2); (try clear hk); (try clear hi)))
        go_meet
        case rel => exact ⟨_, (true), (by first | rfl | (simp; done) | (simp [*]; done)), H', ⟨by first | omega | exact Nat.le_refl _⟩, ⟨by repeat (first | (with_reducible first | exact HB.out | apply below_alloc | apply pw_below_drewN | apply below_drew1) | exact HB.out)⟩⟩
      · replace c9 := Bool.eq_false_iff.mpr c9
        subst c9
        have H1 : (foliotlaw19_ControlLists.j0 k l0 l1 a2 (decide ((a2.size : Int) > 4096))) = some r := by rw [if_neg (show ¬ (false = true) by decide)] at H; exact H
        clear H
        have H := H1
        clear H1
        have H' := Aside0.mk H
        clear H
        go_wp2_with (first | ((with_reducible refine gate_callee (f := 5) rfl ?_); refine goesL_ (some 21) rfl rfl Try.func5 (by kernel_rfl) rfl #[.slice A0 l0.length c0] rfl (by (try simp only [List.map_toArray, List.map_cons, List.map_nil]); first | done | rfl | (simp only [List.length_drop, List.length_take]; rfl)) ?_; (with_reducible refine (foliotlaw19_heavy.calls k _ _ l0 false _ ?side1 ?side2 A5.out).mono ?_); (case side1 => repeat (first | exact (Kd.C_below HR0.out HB.out) | (with_reducible refine Kd.C_alloc ?_ _) | (with_reducible refine Kd.C_drewN ?_ _) | (with_reducible refine Kd.C_drew ?_))); (case side2 => exact HC0.out); rintro e w12 ⟨rfl, hb⟩; refine ⟨_, rfl, ?_⟩; have n0_ := Aside0.mk (below_step (by repeat (first | (with_reducible first | exact HB.out | apply below_alloc | apply pw_below_drewN | apply below_drew1) | exact HB.out)) hb); clear HB; have HB := n0_; clear n0_; (try clear hb); (try clear hb2); (try clear hk); (try clear hi)) | (go_at_call 5; (with_reducible refine (foliotlaw19_heavy.calls k _ _ l1 false _ ?side1 ?side2 A8.out).mono ?_); (case side1 => repeat (first | exact (Kd.C_below HR1.out HB.out) | (with_reducible refine Kd.C_alloc ?_ _) | (with_reducible refine Kd.C_drewN ?_ _) | (with_reducible refine Kd.C_drew ?_))); (case side2 => exact HC1.out); rintro e w13 ⟨rfl, hb⟩; have n0_ := Aside0.mk (below_step (by repeat (first | (with_reducible first | exact HB.out | apply below_alloc | apply pw_below_drewN | apply below_drew1) | exact HB.out)) hb); clear HB; have HB := n0_; clear n0_; (try clear hb); (try clear hb2); (try clear hk); (try clear hi)))
        go_meet
        case rel => exact ⟨_, (decide ((a2.size : Int) > 4096)), (by first | rfl | (simp; done) | (simp [*]; done)), H', ⟨by first | omega | exact Nat.le_refl _⟩, ⟨by repeat (first | (with_reducible first | exact HB.out | apply below_alloc | apply pw_below_drewN | apply below_drew1) | exact HB.out)⟩⟩
  case rest =>
    clear HC4
    try clear c1
    try clear p2
    try clear c4
    try clear c5
    try clear c6
    try clear c9
    obtain ⟨kq, x30_3, rfl, HA, HJ3, HB⟩ := hcut
    cases kq with
    | zero => exact absurd HA.out (by simp [foliotlaw19_ControlLists.j0])
    | succ kj3 =>
      have H := HA.out
      clear HA
      simp only [foliotlaw19_ControlLists.j0] at H
      by_cases c14 : x30_3 = true
      · subst c14
        have H1 : (some true) = some r := by rw [if_pos rfl] at H; exact H
        clear H
        have H := H1
        clear H1
        obtain rfl := Option.some.inj H
        go_wp2
        go_ret
        exact ⟨by first | rfl | (simp [errW_none, errW_some] <;> rfl) | (simp [*, errW_none, errW_some] <;> rfl), by repeat (first | (with_reducible first | exact HB.out | apply below_alloc | apply pw_below_drewN | apply below_drew1) | exact HB.out)⟩
      · replace c14 := Bool.eq_false_iff.mpr c14
        subst c14
        have H1 : ((control_List.f kj3 l0).bind fun bt223 => ((foliotlaw19_theirs.f kj3 l0).bind fun t225 => ((foliotref19_List.f kj3 t225).bind fun bt228 => ((control_Read.f kj3 a2).bind fun bt230 => ((foliotref19_Read.f kj3 a2).bind fun bt234 => (if bt223.1.toList = bt228.1.toList then (if bt223.2 = bt228.2 then (if bt230.2 = bt234.2 then ((foliotlaw19_ours.f kj3 bt234.1).bind fun t238 => ((foliotlaw19_sameVars.f kj3 bt230.1 t238).bind fun t241 => (foliotlaw19_ControlLists.j1 kj3 l0 l1 (!t241)))) else (foliotlaw19_ControlLists.j1 kj3 l0 l1 true)) else (foliotlaw19_ControlLists.j1 kj3 l0 l1 true)) else (foliotlaw19_ControlLists.j1 kj3 l0 l1 true))))))) = some r := by rw [if_neg (show ¬ (false = true) by decide)] at H; exact H
        clear H
        have H := H1
        clear H1
        replace H := Option.bind_eq_some_iff.mp H
        obtain ⟨⟨t223, t224⟩, A150, H⟩ := H
        replace H : ((foliotlaw19_theirs.f kj3 l0).bind fun t225 => ((foliotref19_List.f kj3 t225).bind fun bt228 => ((control_Read.f kj3 a2).bind fun bt230 => ((foliotref19_Read.f kj3 a2).bind fun bt234 => (if t223.toList = bt228.1.toList then (if t224 = bt228.2 then (if bt230.2 = bt234.2 then ((foliotlaw19_ours.f kj3 bt234.1).bind fun t238 => ((foliotlaw19_sameVars.f kj3 bt230.1 t238).bind fun t241 => (foliotlaw19_ControlLists.j1 kj3 l0 l1 (!t241)))) else (foliotlaw19_ControlLists.j1 kj3 l0 l1 true)) else (foliotlaw19_ControlLists.j1 kj3 l0 l1 true)) else (foliotlaw19_ControlLists.j1 kj3 l0 l1 true)))))) = some r := H
        have A15 := Aside0.mk A150
        clear A150
        replace H := Option.bind_eq_some_iff.mp H
        obtain ⟨t225, A160, H⟩ := H
        replace H : ((foliotref19_List.f kj3 t225).bind fun bt228 => ((control_Read.f kj3 a2).bind fun bt230 => ((foliotref19_Read.f kj3 a2).bind fun bt234 => (if t223.toList = bt228.1.toList then (if t224 = bt228.2 then (if bt230.2 = bt234.2 then ((foliotlaw19_ours.f kj3 bt234.1).bind fun t238 => ((foliotlaw19_sameVars.f kj3 bt230.1 t238).bind fun t241 => (foliotlaw19_ControlLists.j1 kj3 l0 l1 (!t241)))) else (foliotlaw19_ControlLists.j1 kj3 l0 l1 true)) else (foliotlaw19_ControlLists.j1 kj3 l0 l1 true)) else (foliotlaw19_ControlLists.j1 kj3 l0 l1 true))))) = some r := H
        have A16 := Aside0.mk A160
        clear A160
        replace H := Option.bind_eq_some_iff.mp H
        obtain ⟨⟨t228, t229⟩, A170, H⟩ := H
        replace H : ((control_Read.f kj3 a2).bind fun bt230 => ((foliotref19_Read.f kj3 a2).bind fun bt234 => (if t223.toList = t228.toList then (if t224 = t229 then (if bt230.2 = bt234.2 then ((foliotlaw19_ours.f kj3 bt234.1).bind fun t238 => ((foliotlaw19_sameVars.f kj3 bt230.1 t238).bind fun t241 => (foliotlaw19_ControlLists.j1 kj3 l0 l1 (!t241)))) else (foliotlaw19_ControlLists.j1 kj3 l0 l1 true)) else (foliotlaw19_ControlLists.j1 kj3 l0 l1 true)) else (foliotlaw19_ControlLists.j1 kj3 l0 l1 true)))) = some r := H
        have A17 := Aside0.mk A170
        clear A170
        replace H := Option.bind_eq_some_iff.mp H
        obtain ⟨⟨t230, t231⟩, A180, H⟩ := H
        replace H : ((foliotref19_Read.f kj3 a2).bind fun bt234 => (if t223.toList = t228.toList then (if t224 = t229 then (if t231 = bt234.2 then ((foliotlaw19_ours.f kj3 bt234.1).bind fun t238 => ((foliotlaw19_sameVars.f kj3 t230 t238).bind fun t241 => (foliotlaw19_ControlLists.j1 kj3 l0 l1 (!t241)))) else (foliotlaw19_ControlLists.j1 kj3 l0 l1 true)) else (foliotlaw19_ControlLists.j1 kj3 l0 l1 true)) else (foliotlaw19_ControlLists.j1 kj3 l0 l1 true))) = some r := H
        have A18 := Aside0.mk A180
        clear A180
        replace H := Option.bind_eq_some_iff.mp H
        obtain ⟨⟨t234, t235⟩, A190, H⟩ := H
        replace H : (if t223.toList = t228.toList then (if t224 = t229 then (if t231 = t235 then ((foliotlaw19_ours.f kj3 t234).bind fun t238 => ((foliotlaw19_sameVars.f kj3 t230 t238).bind fun t241 => (foliotlaw19_ControlLists.j1 kj3 l0 l1 (!t241)))) else (foliotlaw19_ControlLists.j1 kj3 l0 l1 true)) else (foliotlaw19_ControlLists.j1 kj3 l0 l1 true)) else (foliotlaw19_ControlLists.j1 kj3 l0 l1 true)) = some r := H
        have A19 := Aside0.mk A190
        clear A190
        have HC20 := Aside0.mk H
        clear H
        go_upto_region 7 with (first | ((with_reducible refine gate_callee (f := 6) rfl ?_); refine goesL_ (some 33) rfl rfl Try.func6 (by kernel_rfl) rfl #[.slice A0 l0.length c0] rfl (by (try simp only [List.map_toArray, List.map_cons, List.map_nil]); first | done | rfl | (simp only [List.length_drop, List.length_take]; rfl)) ?_; (with_reducible refine (control_List.calls kj3 _ _ l0 t223 t224 _ ?side1 ?side2 A15.out).mono ?_); (case side1 => repeat (first | exact (Kd.C_below HR0.out HB.out) | (with_reducible refine Kd.C_alloc ?_ _) | (with_reducible refine Kd.C_drewN ?_ _) | (with_reducible refine Kd.C_drew ?_))); (case side2 => exact HC0.out); rintro e w21 ⟨rfl, hb⟩; refine ⟨_, rfl, ?_⟩; have n0_ := Aside0.mk (below_step (by repeat (first | (with_reducible first | exact HB.out | apply below_alloc | apply pw_below_drewN | apply below_drew1) | exact HB.out)) hb); clear HB; have HB := n0_; clear n0_; (try clear hb); (try clear hb2); (try clear hk); (try clear hi)) | ((with_reducible refine gate_callee (f := 8) rfl ?_); refine goesL_ (some 38) rfl rfl Try.func8 (by kernel_rfl) rfl #[.slice A0 l0.length c0] rfl (by (try simp only [List.map_toArray, List.map_cons, List.map_nil]); first | done | rfl | (simp only [List.length_drop, List.length_take]; rfl)) ?_; (with_reducible refine (foliotlaw19_theirs.calls kj3 _ _ l0 t225 _ ?side1 ?side2 A16.out).mono ?_); (case side1 => repeat (first | exact (Kd.C_below HR0.out HB.out) | (with_reducible refine Kd.C_alloc ?_ _) | (with_reducible refine Kd.C_drewN ?_ _) | (with_reducible refine Kd.C_drew ?_))); (case side2 => exact HC0.out); rintro e w22 ⟨v226, rfl, ho0, hb⟩; refine ⟨_, rfl, ?_⟩; have n0_ := Aside0.mk (Kd.R_lower ho0 (below_size (by repeat (first | (with_reducible first | exact HB.out | apply below_alloc | apply pw_below_drewN | apply below_drew1) | exact HB.out)))); have n1_ := Aside0.mk (below_step (by repeat (first | (with_reducible first | exact HB.out | apply below_alloc | apply pw_below_drewN | apply below_drew1) | exact HB.out)) hb); clear HB; have HO227 := n0_; have HB := n1_; clear n0_ n1_; (try clear hb); (try clear hb2); (try clear hk); (try clear hi); (try clear ho0); obtain ⟨Ao23, co23, eo23⟩ := Kd.R_slice HO227.out; subst eo23) | ((with_reducible refine gate_callee (f := 7) rfl ?_); refine goesL_ (some 39) rfl rfl Try.func7 (by kernel_rfl) rfl #[.slice Ao23 t225.length co23] rfl (by (try simp only [List.map_toArray, List.map_cons, List.map_nil]); first | done | rfl | (simp only [List.length_drop, List.length_take]; rfl)) ?_; (with_reducible refine (foliotref19_List.calls kj3 _ _ t225 t228 t229 _ ?side1 ?side2 A17.out).mono ?_); (case side1 => repeat (first | exact (Kd.R_reads' HO227.out).2.2 | (with_reducible refine Kd.C_alloc ?_ _) | (with_reducible refine Kd.C_drewN ?_ _) | (with_reducible refine Kd.C_drew ?_))); (case side2 => exact (Kd.R_reads' HO227.out).2.1); rintro e w24 ⟨rfl, hb⟩; refine ⟨_, rfl, ?_⟩; have n0_ := Aside0.mk (Kd.R_below (by (with_reducible repeat (first | apply Kd.R_alloc | apply Kd.R_drewN | apply Kd.R_drew)); exact HO227.out) hb); have n1_ := Aside0.mk (below_step (by repeat (first | (with_reducible first | exact HB.out | apply below_alloc | apply pw_below_drewN | apply below_drew1) | exact HB.out)) hb); clear HO227; clear HB; have HO227 := n0_; have HB := n1_; clear n0_ n1_; (try clear hb); (try clear hb2); (try clear hk); (try clear hi)) | ((with_reducible refine gate_callee (f := 9) rfl ?_); refine goesL_ (some 44) rfl rfl Try.func9 (by kernel_rfl) rfl #[.string a2] rfl (by (try simp only [List.map_toArray, List.map_cons, List.map_nil]); first | done | rfl | (simp only [List.length_drop, List.length_take]; rfl)) ?_; (with_reducible refine (control_Read.calls kj3 a2 t230 t231 _ A18.out).mono ?_); rintro e w25 ⟨v232, rfl, ho0, hb⟩; refine ⟨_, rfl, ?_⟩; have n0_ := Aside0.mk (Kd.R_below (by (with_reducible repeat (first | apply Kd.R_alloc | apply Kd.R_drewN | apply Kd.R_drew)); exact HO227.out) hb); have n1_ := Aside0.mk (Kd.R_lower ho0 (below_size (by repeat (first | (with_reducible first | exact HB.out | apply below_alloc | apply pw_below_drewN | apply below_drew1) | exact HB.out)))); have n2_ := Aside0.mk (below_step (by repeat (first | (with_reducible first | exact HB.out | apply below_alloc | apply pw_below_drewN | apply below_drew1) | exact HB.out)) hb); clear HO227; clear HB; have HO227 := n0_; have HO233 := n1_; have HB := n2_; clear n0_ n1_ n2_; (try clear hb); (try clear hb2); (try clear hk); (try clear hi); (try clear ho0)) | ((with_reducible refine gate_callee (f := 11) rfl ?_); refine goesL_ (some 49) rfl rfl Try.func11 (by kernel_rfl) rfl #[.string a2] rfl (by (try simp only [List.map_toArray, List.map_cons, List.map_nil]); first | done | rfl | (simp only [List.length_drop, List.length_take]; rfl)) ?_; (with_reducible refine (foliotref19_Read.calls kj3 a2 t234 t235 _ A19.out).mono ?_); rintro e w26 ⟨v236, rfl, ho0, hb⟩; refine ⟨_, rfl, ?_⟩; have n0_ := Aside0.mk (Kd.R_elder' (by (with_reducible repeat (first | apply Kd.R_alloc | apply Kd.R_drewN | apply Kd.R_drew)); exact HO227.out) (Kd.R_base ho0) hb); have n1_ := Aside0.mk (Kd.R_below (by (with_reducible repeat (first | apply Kd.R_alloc | apply Kd.R_drewN | apply Kd.R_drew)); exact HO233.out) hb); have n2_ := Aside0.mk (Kd.R_lower (Kd.R_new' ho0 (Kd.R_lt (by (with_reducible repeat (first | apply Kd.R_alloc | apply Kd.R_drewN | apply Kd.R_drew)); exact HO227.out))) (below_size (by repeat (first | (with_reducible first | exact HB.out | apply below_alloc | apply pw_below_drewN | apply below_drew1) | exact HB.out)))); have n3_ := Aside0.mk (below_step (by repeat (first | (with_reducible first | exact HB.out | apply below_alloc | apply pw_below_drewN | apply below_drew1) | exact HB.out)) hb); clear HO227; clear HO233; clear HB; have HO227 := n0_; have HO233 := n1_; have HO237 := n2_; have HB := n3_; clear n0_ n1_ n2_ n3_; (try clear hb); (try clear hb2); (try clear hk); (try clear hi); (try clear ho0)))
        (try simp only [Act.put, List.setIfInBounds_toArray, List.set_cons_zero, List.set_cons_succ])
        go_cut [71] (fun v71 wc => ∃ (kq : Nat) (x71_19 : Bool), v71 = .bool x71_19 ∧ Aside0 (foliotlaw19_ControlLists.j1 kq l0 l1 x71_19 = some r) ∧ Aside0 (kq ≤ kj3) ∧ Aside0 (Below w.heap.size w wc))
        case first =>
          have H := HC20.out
          clear HC20
          by_cases c27 : t223.toList = t228.toList
          · rw [if_pos c27] at H
            have c27b0 : (t223.toList == t228.toList) = true := beq_iff_eq.mpr c27
            have c27b1 : (t223.toList != t228.toList) = false := bne_eq_false_iff_eq.mpr c27
            clear c27
            (first | rw [c27b0] | (simp only [i64_w, i32_w]; rw [c27b0]) | skip)
            by_cases c28 : t224 = t229
            · rw [if_pos c28] at H
              have c28b0 : (t224 == t229) = true := beq_iff_eq.mpr c28
              have c28b1 : (t224 != t229) = false := bne_eq_false_iff_eq.mpr c28
              clear c28
              by_cases c29 : t231 = t235
              · rw [if_pos c29] at H
                have c29b0 : (t231 == t235) = true := beq_iff_eq.mpr c29
                have c29b1 : (t231 != t235) = false := bne_eq_false_iff_eq.mpr c29
                clear c29
                replace H := Option.bind_eq_some_iff.mp H
                obtain ⟨t238, A300, H⟩ := H
                replace H : ((foliotlaw19_sameVars.f kj3 t230 t238).bind fun t241 => (foliotlaw19_ControlLists.j1 kj3 l0 l1 (!t241))) = some r := H
                have A30 := Aside0.mk A300
                clear A300
                replace H := Option.bind_eq_some_iff.mp H
                obtain ⟨t241, A310, H⟩ := H
                replace H : (foliotlaw19_ControlLists.j1 kj3 l0 l1 (!t241)) = some r := H
                have A31 := Aside0.mk A310
                clear A310
                have H' := Aside0.mk H
                clear H
                obtain ⟨Ao32, co32, eo32⟩ := Kd.R_slice HO237.out
                subst eo32
                go_wp2_with (first | (go_at_call 12; (with_reducible refine (foliotlaw19_ours.calls kj3 _ _ t234 t238 _ ?side1 ?side2 A30.out).mono ?_); (case side1 => repeat (first | exact (Kd.R_reads' HO237.out).2.2 | (with_reducible refine Kd.C_alloc ?_ _) | (with_reducible refine Kd.C_drewN ?_ _) | (with_reducible refine Kd.C_drew ?_))); (case side2 => exact (Kd.R_reads' HO237.out).2.1); rintro e w33 ⟨v239, rfl, ho0, hb⟩; have n0_ := Aside0.mk (Kd.R_below (by (with_reducible repeat (first | apply Kd.R_alloc | apply Kd.R_drewN | apply Kd.R_drew)); exact HO227.out) hb); have n1_ := Aside0.mk (Kd.R_elder' (by (with_reducible repeat (first | apply Kd.R_alloc | apply Kd.R_drewN | apply Kd.R_drew)); exact HO233.out) (Kd.R_base ho0) hb); have n2_ := Aside0.mk (Kd.R_below (by (with_reducible repeat (first | apply Kd.R_alloc | apply Kd.R_drewN | apply Kd.R_drew)); exact HO237.out) hb); have n3_ := Aside0.mk (Kd.R_lower (Kd.R_new' ho0 (Kd.R_lt (by (with_reducible repeat (first | apply Kd.R_alloc | apply Kd.R_drewN | apply Kd.R_drew)); exact HO233.out))) (below_size (by repeat (first | (with_reducible first | exact HB.out | apply below_alloc | apply pw_below_drewN | apply below_drew1) | exact HB.out)))); have n4_ := Aside0.mk (below_step (by repeat (first | (with_reducible first | exact HB.out | apply below_alloc | apply pw_below_drewN | apply below_drew1) | exact HB.out)) hb); clear HO227; clear HO233; clear HO237; clear HB; have HO227 := n0_; have HO233 := n1_; have HO237 := n2_; have HO240 := n3_; have HB := n4_; clear n0_ n1_ n2_ n3_ n4_; (try clear hb); (try clear hb2); (try clear hk); (try clear hi); (try clear ho0); obtain ⟨Ao34, co34, eo34⟩ := Kd.R_slice HO233.out; subst eo34; obtain ⟨Ao35, co35, eo35⟩ := Kd.R_slice HO240.out; subst eo35) | (go_at_call 10; (with_reducible refine (foliotlaw19_sameVars.calls kj3 _ _ t230 _ _ t238 t241 _ ?side1 ?side2 ?side3 ?side4 A31.out).mono ?_); (case side1 => repeat (first | exact (Kd.R_reads' HO233.out).2.2 | (with_reducible refine Kd.C_alloc ?_ _) | (with_reducible refine Kd.C_drewN ?_ _) | (with_reducible refine Kd.C_drew ?_))); (case side2 => exact (Kd.R_reads' HO233.out).2.1); (case side3 => repeat (first | exact (Kd.R_reads' HO240.out).2.2 | (with_reducible refine Kd.C_alloc ?_ _) | (with_reducible refine Kd.C_drewN ?_ _) | (with_reducible refine Kd.C_drew ?_))); (case side4 => exact (Kd.R_reads' HO240.out).2.1); rintro e w' ⟨rfl, ⟨nd, rfl⟩⟩))
                go_meet
                case rel => exact ⟨_, (!t241), (by first | rfl | (simp; done) | (simp [*]; done)), H', ⟨by have := HJ3.out; first | omega | exact Nat.le_refl _⟩, ⟨by repeat (first | (with_reducible first | exact HB.out | apply below_alloc | apply pw_below_drewN | apply below_drew1) | exact HB.out)⟩⟩
              · rw [if_neg c29] at H
                have c29b0 : (t231 == t235) = false := beq_eq_false_iff_ne.mpr c29
                have c29b1 : (t231 != t235) = true := bne_iff_ne.mpr c29
                have H' := Aside0.mk H
                clear H
                go_wp2
                go_meet
                case rel => exact ⟨_, (true), (by first | rfl | (simp; done) | (simp [*]; done)), H', ⟨by have := HJ3.out; first | omega | exact Nat.le_refl _⟩, ⟨by repeat (first | (with_reducible first | exact HB.out | apply below_alloc | apply pw_below_drewN | apply below_drew1) | exact HB.out)⟩⟩
            · rw [if_neg c28] at H
              have c28b0 : (t224 == t229) = false := beq_eq_false_iff_ne.mpr c28
              have c28b1 : (t224 != t229) = true := bne_iff_ne.mpr c28
              have H' := Aside0.mk H
              clear H
              go_wp2
              go_meet
              case rel => exact ⟨_, (true), (by first | rfl | (simp; done) | (simp [*]; done)), H', ⟨by have := HJ3.out; first | omega | exact Nat.le_refl _⟩, ⟨by repeat (first | (with_reducible first | exact HB.out | apply below_alloc | apply pw_below_drewN | apply below_drew1) | exact HB.out)⟩⟩
          · rw [if_neg c27] at H
            have c27b0 : (t223.toList == t228.toList) = false := beq_eq_false_iff_ne.mpr c27
            have c27b1 : (t223.toList != t228.toList) = true := bne_iff_ne.mpr c27
            (first | rw [c27b0] | (simp only [i64_w, i32_w]; rw [c27b0]) | skip)
            have H' := Aside0.mk H
            clear H
            go_wp2
            go_meet
            case rel => exact ⟨_, (true), (by first | rfl | (simp; done) | (simp [*]; done)), H', ⟨by have := HJ3.out; first | omega | exact Nat.le_refl _⟩, ⟨by repeat (first | (with_reducible first | exact HB.out | apply below_alloc | apply pw_below_drewN | apply below_drew1) | exact HB.out)⟩⟩
        case rest =>
          clear HC20
          try clear c1
          try clear c2
          try clear p2
          try clear c4
          try clear c5
          try clear c6
          try clear c7
          try clear c8
          try clear c9
          try clear c11
          try clear c14
          try clear c27
          try clear c27b0
          try clear c27b1
          try clear c28
          try clear c28b0
          try clear c28b1
          try clear c29
          try clear c29b0
          try clear c29b1
          try clear p2
          obtain ⟨kq, x71_19, rfl, HA, HJ19, HB⟩ := hcut
          cases kq with
          | zero => exact absurd HA.out (by simp [foliotlaw19_ControlLists.j1])
          | succ kj19 =>
            have H := HA.out
            clear HA
            simp only [foliotlaw19_ControlLists.j1] at H
            by_cases c36 : x71_19 = true
            · subst c36
              have H1 : (some false) = some r := by rw [if_pos rfl] at H; exact H
              clear H
              have H := H1
              clear H1
              obtain rfl := Option.some.inj H
              go_wp2
              go_ret
              exact ⟨by first | rfl | (simp [errW_none, errW_some] <;> rfl) | (simp [*, errW_none, errW_some] <;> rfl), by repeat (first | (with_reducible first | exact HB.out | apply below_alloc | apply pw_below_drewN | apply below_drew1) | exact HB.out)⟩
            · replace c36 := Bool.eq_false_iff.mpr c36
              subst c36
              have H1 : (foliotlaw19_ControlLists.l0 kj19 l0 l1 0) = some r := by rw [if_neg (show ¬ (false = true) by decide)] at H; exact H
              clear H
              have H := H1
              clear H1
              have H' := Aside0.mk H
              clear H
              go_wp2
              go_loopg [15] kj19 (fun kq v15 w' => ∃ (x15_3 : Int), v15 = .int .i64 x15_3 ∧ Aside0 (foliotlaw19_ControlLists.l0 kq l0 l1 x15_3 = some r) ∧ Aside0 (kq ≤ kj19) ∧ Aside0 (Below w.heap.size w w'))
              case atStart => exact ⟨(0), (by first | rfl | (simp; done) | (simp [*]; done)), H', ⟨Nat.le_refl _⟩, ⟨by repeat (first | (with_reducible first | exact HB.out | apply below_alloc | apply pw_below_drewN | apply below_drew1) | exact HB.out)⟩⟩
              case round =>
                clear H'
                try clear c1
                try clear c2
                try clear p2
                try clear c3
                try clear c4
                try clear c5
                try clear c6
                try clear c7
                try clear c8
                try clear c9
                try clear c11
                try clear c14
                try clear c27
                try clear c27b0
                try clear c27b1
                try clear c28
                try clear c28b0
                try clear c28b1
                try clear c29
                try clear c29b0
                try clear c29b1
                try clear c36
                try clear p2
                obtain ⟨x15_3, rfl, HA, HK3, HB⟩ := hrel
                cases gk with
                | zero => exact absurd HA.out (by simp [foliotlaw19_ControlLists.l0])
                | succ k3 =>
                  have H := HA.out
                  clear HA
                  simp only [foliotlaw19_ControlLists.l0] at H
                  by_cases c37 : x15_3 < (l0.length : Int)
                  · rw [if_pos c37] at H
                    have c37b0 : decide (x15_3 < (l0.length : Int)) = true := decide_eq_true c37
                    clear c37
                    by_cases c38 : 0 ≤ x15_3
                    · rw [if_pos c38] at H
                      have c38b0 : decide (0 ≤ x15_3) = true := decide_eq_true c38
                      clear c38
                      replace H := Option.bind_eq_some_iff.mp H
                      obtain ⟨t243, A390, H⟩ := H
                      replace H : ((foliotref19_Good.f k3 ((rd_T39 l0 x15_3).f0) ((rd_T39 l0 x15_3).f1)).bind fun t245 => (if (t243 != t245) = true then (some false) else (foliotlaw19_ControlLists.l0 k3 l0 l1 (wrap64 (x15_3 + 1))))) = some r := H
                      have A39 := Aside0.mk A390
                      clear A390
                      replace H := Option.bind_eq_some_iff.mp H
                      obtain ⟨t245, A400, H⟩ := H
                      replace H : (if (t243 != t245) = true then (some false) else (foliotlaw19_ControlLists.l0 k3 l0 l1 (wrap64 (x15_3 + 1)))) = some r := H
                      have A40 := Aside0.mk A400
                      clear A400
                      by_cases c41 : (t243 != t245) = true
                      · rw [if_pos c41] at H
                        have c41b0 : (t243 != t245) = true := c41
                        (try (have c41b1 : decide (t243 = t245) = false := by simpa using c41))
                        (try (have c41b2 : (t243 == t245) = false := by simpa using c41))
                        (try (have c41b3 : ¬ (t243 = t245) := by simpa using c41))
                        clear c41
                        obtain rfl := Option.some.inj H
                        try go_wp2
                        have n0_ := Aside0.mk (below_drew1 HB.out)
                        clear HB
                        have HB := n0_
                        clear n0_
                        have p242 : 0 ≤ (x15_3 : Int) := of_decide_eq_true (by first | (with_reducible assumption) | assumption)
                        have q242 : x15_3 < (l0.length : Int) := of_decide_eq_true (by first | (with_reducible assumption) | assumption)
                        obtain ⟨ad242, e242, hx242_0, hx242_1⟩ := at_T39 HR0.out x15_3 p242 q242
                        have hw242_1 := hx242_1
                        have hw242_0 := hx242_0
                        cases e242
                        replace hx242_0 := (HB.out.cell (World.block_lt_of_cell? w _ hx242_0)).trans hx242_0
                        replace hx242_1 := (HB.out.cell (World.block_lt_of_cell? w _ hx242_1)).trans hx242_1
                        replace p242 := eq_true p242
                        replace q242 := eq_true q242
                        have p244 : 0 ≤ (x15_3 : Int) := of_decide_eq_true (by first | (with_reducible assumption) | assumption)
                        have q244 : x15_3 < (l0.length : Int) := of_decide_eq_true (by first | (with_reducible assumption) | assumption)
                        obtain ⟨ad244, e244, hx244_0, hx244_1⟩ := at_T39 HR0.out x15_3 p244 q244
                        have hw244_1 := hx244_1
                        have hw244_0 := hx244_0
                        obtain rfl : ad242 = ad244 := (by injection e244)
                        replace hx244_0 := (HB.out.cell (World.block_lt_of_cell? w _ hx244_0)).trans hx244_0
                        replace hx244_1 := (HB.out.cell (World.block_lt_of_cell? w _ hx244_1)).trans hx244_1
                        replace p244 := eq_true p244
                        replace q244 := eq_true q244
                        refine start_ (n := 11) (S := fun w' => w'.cell? (ad242.add ((x15_3).toNat * 2)) = some (.string ((rd_T39 l0 x15_3).f0)) ∧ w'.cell? ⟨(ad242.add ((x15_3).toNat * 2)).block, (ad242.add ((x15_3).toNat * 2)).off + 1, none⟩ = some (.string ((rd_T39 l0 x15_3).f1)) ∧ w'.cell? (ad242.add ((x15_3).toNat * 2)) = some (.string ((rd_T39 l0 x15_3).f0)) ∧ w'.cell? ⟨(ad242.add ((x15_3).toNat * 2)).block, (ad242.add ((x15_3).toNat * 2)).off + 1, none⟩ = some (.string ((rd_T39 l0 x15_3).f1))) (ds := []) #[false, false, false, false, false, false, false, false, false, false, false] (by kernel_rfl) rfl rfl ⟨((HB.out.cell (World.block_lt_of_cell? w _ hw242_0)).trans hw242_0), ((HB.out.cell (World.block_lt_of_cell? w _ hw242_1)).trans hw242_1), ((HB.out.cell (World.block_lt_of_cell? w _ hw244_0)).trans hw244_0), ((HB.out.cell (World.block_lt_of_cell? w _ hw244_1)).trans hw244_1)⟩ (fun hHeld => ?_); refine with_tabW foliotlaw19_ControlLists.tab12 foliotlaw19_ControlLists.bits12 (fun HT_ HW_ => ?_)
                        generalize wr.drew = w42 at HB hx242_0 hx242_1 hx244_0 hx244_1 hHeld ⊢
                        refine pure_ (i := 0) (N := some 78) (v := ?_) (a' := ?_) #[true, false, false, false, false, false, false, false, false, false, false] rfl rfl (any_of HT_.out (by kernel_rfl)) (fun _ _ _ h => h) (Or.inl ⟨by rfl, ?_⟩) ?_ ?_
                        rotate_left
                        · intro w'
                          go_simp
                          with_reducible rfl
                        rotate_left
                        · simp only [Act.put, List.setIfInBounds_toArray, List.set_cons_zero, List.set_cons_succ, i64_w, i32_w]
                          rfl
                        refine pure_ (i := 1) (N := some 79) (v := ?_) (a' := ?_) #[true, true, false, false, false, false, false, false, false, false, false] rfl rfl (any_of HT_.out (by kernel_rfl)) (fun _ _ _ h => h) (Or.inl ⟨by rfl, ?_⟩) ?_ ?_
                        rotate_left
                        · intro w'
                          go_simp
                          with_reducible rfl
                        rotate_left
                        · simp only [Act.put, List.setIfInBounds_toArray, List.set_cons_zero, List.set_cons_succ, i64_w, i32_w]
                          rfl
                        refine pure_ (i := 2) (N := some 80) (v := ?_) (a' := ?_) #[true, true, true, false, false, false, false, false, false, false, false] rfl rfl (any_of HT_.out (by kernel_rfl)) (fun _ _ _ h => h) (Or.inl ⟨by rfl, ?_⟩) ?_ ?_
                        rotate_left
                        · intro w'
                          go_simp
                          with_reducible rfl
                        rotate_left
                        · simp only [Act.put, List.setIfInBounds_toArray, List.set_cons_zero, List.set_cons_succ, i64_w, i32_w]
                          rfl
                        refine pure_ (i := 5) (N := some 83) (v := ?_) (a' := ?_) #[true, true, true, false, false, true, false, false, false, false, false] rfl rfl (any_of HT_.out (by kernel_rfl)) (fun _ _ _ h => h) (Or.inl ⟨by rfl, ?_⟩) ?_ ?_
                        rotate_left
                        · intro w'
                          go_simp
                          with_reducible rfl
                        rotate_left
                        · simp only [Act.put, List.setIfInBounds_toArray, List.set_cons_zero, List.set_cons_succ, i64_w, i32_w]
                          rfl
                        refine pure_ (i := 6) (N := some 84) (v := ?_) (a' := ?_) #[true, true, true, false, false, true, true, false, false, false, false] rfl rfl (any_of HT_.out (by kernel_rfl)) (fun _ _ _ h => h) (Or.inl ⟨by rfl, ?_⟩) ?_ ?_
                        rotate_left
                        · intro w'
                          go_simp
                          with_reducible rfl
                        rotate_left
                        · simp only [Act.put, List.setIfInBounds_toArray, List.set_cons_zero, List.set_cons_succ, i64_w, i32_w]
                          rfl
                        refine pure_ (i := 7) (N := some 85) (v := ?_) (a' := ?_) #[true, true, true, false, false, true, true, true, false, false, false] rfl rfl (any_of HT_.out (by kernel_rfl)) (fun _ _ _ h => h) (Or.inl ⟨by rfl, ?_⟩) ?_ ?_
                        rotate_left
                        · intro w'
                          go_simp
                          with_reducible rfl
                        rotate_left
                        · simp only [Act.put, List.setIfInBounds_toArray, List.set_cons_zero, List.set_cons_succ, i64_w, i32_w]
                          rfl
                        refine take_ (i := 3) (N := some 81) (v := ?_) (a' := ?_) #[true, true, true, true, false, true, true, true, false, false, false] rfl rfl (take_ofW HT_.out HW_.out (by kernel_rfl)) (fun _ _ _ h => h) (Or.inl ⟨by rfl, ?_⟩) hHeld ?_ ?_
                        rotate_left
                        · rintro w' ⟨s0, s1, s2, s3⟩
                          go_simp
                          with_reducible rfl
                        rotate_left
                        · simp only [Act.put, List.setIfInBounds_toArray, List.set_cons_zero, List.set_cons_succ, i64_w, i32_w]
                          rfl
                        refine take_ (i := 8) (N := some 86) (v := ?_) (a' := ?_) #[true, true, true, true, false, true, true, true, true, false, false] rfl rfl (take_ofW HT_.out HW_.out (by kernel_rfl)) (fun _ _ _ h => h) (Or.inl ⟨by rfl, ?_⟩) hHeld ?_ ?_
                        rotate_left
                        · rintro w' ⟨s0, s1, s2, s3⟩
                          go_simp
                          with_reducible rfl
                        rotate_left
                        · simp only [Act.put, List.setIfInBounds_toArray, List.set_cons_zero, List.set_cons_succ, i64_w, i32_w]
                          rfl
                        refine one_ (i := 4) (N := some 82) #[true, true, true, true, true, true, true, true, true, false, false] rfl rfl (one_of HT_.out (by kernel_rfl)) (by decide) (fun K hK => ?_)
                        refine goes_ Try.func13 (by kernel_rfl) rfl #[.agg #[.string ((rd_T39 l0 x15_3).f0), .string ((rd_T39 l0 x15_3).f1)]] (by rfl) rfl rfl (by (try simp only [List.map_toArray, List.map_cons, List.map_nil]); first | done | rfl | (simp only [List.length_drop, List.length_take]; rfl)) ?_
                        with_reducible refine (control_Good.calls ((rd_T39 l0 x15_3).f0) ((rd_T39 l0 x15_3).f1) t243 _ A39.out).mono ?_
                        rintro e w43 ⟨rfl, hb⟩
                        refine ⟨_, rfl, ?_⟩
                        have n0_ := Aside0.mk (below_step (by repeat (first | (with_reducible first | exact HB.out | apply below_alloc | apply pw_below_drewN | apply below_drew1) | exact HB.out)) hb)
                        clear HB
                        have HB := n0_
                        clear n0_
                        (try clear hb)
                        (try clear hb2)
                        (try clear hk)
                        (try clear hi)
                        refine hK.out _ _ ⟨((HB.out.cell (World.block_lt_of_cell? w _ hw242_0)).trans hw242_0), ((HB.out.cell (World.block_lt_of_cell? w _ hw242_1)).trans hw242_1), ((HB.out.cell (World.block_lt_of_cell? w _ hw244_0)).trans hw244_0), ((HB.out.cell (World.block_lt_of_cell? w _ hw244_1)).trans hw244_1)⟩ (fun hHeld => ?_)
                        clear hK K
                        refine norm_ (a' := ?_) ?_ ?_
                        rotate_left
                        · show Act.put _ (some 82) _ = _
                          simp only [Act.put, List.setIfInBounds_toArray, List.set_cons_zero, List.set_cons_succ, i64_w, i32_w]
                          rfl
                        refine one_ (i := 9) (N := some 87) #[true, true, true, true, true, true, true, true, true, true, false] rfl rfl (one_of HT_.out (by kernel_rfl)) (by decide) (fun K hK => ?_)
                        refine goes_ Try.func14 (by kernel_rfl) rfl #[.agg #[.string ((rd_T39 l0 x15_3).f0), .string ((rd_T39 l0 x15_3).f1)]] (by rfl) rfl rfl (by (try simp only [List.map_toArray, List.map_cons, List.map_nil]); first | done | rfl | (simp only [List.length_drop, List.length_take]; rfl)) ?_
                        with_reducible refine (foliotref19_Good.calls k3 ((rd_T39 l0 x15_3).f0) ((rd_T39 l0 x15_3).f1) t245 _ A40.out).mono ?_
                        rintro e w44 ⟨rfl, hb⟩
                        refine ⟨_, rfl, ?_⟩
                        have n0_ := Aside0.mk (below_step (by repeat (first | (with_reducible first | exact HB.out | apply below_alloc | apply pw_below_drewN | apply below_drew1) | exact HB.out)) hb)
                        clear HB
                        have HB := n0_
                        clear n0_
                        (try clear hb)
                        (try clear hb2)
                        (try clear hk)
                        (try clear hi)
                        refine hK.out _ _ ⟨((HB.out.cell (World.block_lt_of_cell? w _ hw242_0)).trans hw242_0), ((HB.out.cell (World.block_lt_of_cell? w _ hw242_1)).trans hw242_1), ((HB.out.cell (World.block_lt_of_cell? w _ hw244_0)).trans hw244_0), ((HB.out.cell (World.block_lt_of_cell? w _ hw244_1)).trans hw244_1)⟩ (fun hHeld => ?_)
                        clear hK K
                        refine norm_ (a' := ?_) ?_ ?_
                        rotate_left
                        · show Act.put _ (some 87) _ = _
                          simp only [Act.put, List.setIfInBounds_toArray, List.set_cons_zero, List.set_cons_succ, i64_w, i32_w]
                          rfl
                        refine pure_ (i := 10) (N := some 88) (v := ?_) (a' := ?_) #[true, true, true, true, true, true, true, true, true, true, true] rfl rfl (any_of HT_.out (by kernel_rfl)) (fun _ _ _ h => h) (Or.inl ⟨by rfl, ?_⟩) ?_ ?_
                        rotate_left
                        · intro w'
                          go_simp
                          with_reducible rfl
                        rotate_left
                        · simp only [Act.put, List.setIfInBounds_toArray, List.set_cons_zero, List.set_cons_succ, i64_w, i32_w]
                          rfl
                        refine done_ (done_of HT_.out (by kernel_rfl)) ?_
                        try go_wp2
                        go_ret
                        exact ⟨by first | rfl | (simp [errW_none, errW_some] <;> rfl) | (simp [*, errW_none, errW_some] <;> rfl), by repeat (first | (with_reducible first | exact HB.out | apply below_alloc | apply pw_below_drewN | apply below_drew1) | exact HB.out)⟩
                      · rw [if_neg c41] at H
                        have c41b0 : (t243 != t245) = false := by simpa using c41
                        (try (have c41b1 : decide (t243 = t245) = true := by simpa using c41))
                        (try (have c41b2 : (t243 == t245) = true := by simpa using c41))
                        clear c41
                        have H' := Aside0.mk H
                        clear H
                        try go_wp2
                        have n0_ := Aside0.mk (below_drew1 HB.out)
                        clear HB
                        have HB := n0_
                        clear n0_
                        have p242 : 0 ≤ (x15_3 : Int) := of_decide_eq_true (by first | (with_reducible assumption) | assumption)
                        have q242 : x15_3 < (l0.length : Int) := of_decide_eq_true (by first | (with_reducible assumption) | assumption)
                        obtain ⟨ad242, e242, hx242_0, hx242_1⟩ := at_T39 HR0.out x15_3 p242 q242
                        have hw242_1 := hx242_1
                        have hw242_0 := hx242_0
                        cases e242
                        replace hx242_0 := (HB.out.cell (World.block_lt_of_cell? w _ hx242_0)).trans hx242_0
                        replace hx242_1 := (HB.out.cell (World.block_lt_of_cell? w _ hx242_1)).trans hx242_1
                        replace p242 := eq_true p242
                        replace q242 := eq_true q242
                        have p244 : 0 ≤ (x15_3 : Int) := of_decide_eq_true (by first | (with_reducible assumption) | assumption)
                        have q244 : x15_3 < (l0.length : Int) := of_decide_eq_true (by first | (with_reducible assumption) | assumption)
                        obtain ⟨ad244, e244, hx244_0, hx244_1⟩ := at_T39 HR0.out x15_3 p244 q244
                        have hw244_1 := hx244_1
                        have hw244_0 := hx244_0
                        obtain rfl : ad242 = ad244 := (by injection e244)
                        replace hx244_0 := (HB.out.cell (World.block_lt_of_cell? w _ hx244_0)).trans hx244_0
                        replace hx244_1 := (HB.out.cell (World.block_lt_of_cell? w _ hx244_1)).trans hx244_1
                        replace p244 := eq_true p244
                        replace q244 := eq_true q244
                        refine start_ (n := 11) (S := fun w' => w'.cell? (ad242.add ((x15_3).toNat * 2)) = some (.string ((rd_T39 l0 x15_3).f0)) ∧ w'.cell? ⟨(ad242.add ((x15_3).toNat * 2)).block, (ad242.add ((x15_3).toNat * 2)).off + 1, none⟩ = some (.string ((rd_T39 l0 x15_3).f1)) ∧ w'.cell? (ad242.add ((x15_3).toNat * 2)) = some (.string ((rd_T39 l0 x15_3).f0)) ∧ w'.cell? ⟨(ad242.add ((x15_3).toNat * 2)).block, (ad242.add ((x15_3).toNat * 2)).off + 1, none⟩ = some (.string ((rd_T39 l0 x15_3).f1))) (ds := []) #[false, false, false, false, false, false, false, false, false, false, false] (by kernel_rfl) rfl rfl ⟨((HB.out.cell (World.block_lt_of_cell? w _ hw242_0)).trans hw242_0), ((HB.out.cell (World.block_lt_of_cell? w _ hw242_1)).trans hw242_1), ((HB.out.cell (World.block_lt_of_cell? w _ hw244_0)).trans hw244_0), ((HB.out.cell (World.block_lt_of_cell? w _ hw244_1)).trans hw244_1)⟩ (fun hHeld => ?_); refine with_tabW foliotlaw19_ControlLists.tab12 foliotlaw19_ControlLists.bits12 (fun HT_ HW_ => ?_)
                        generalize wr.drew = w45 at HB hx242_0 hx242_1 hx244_0 hx244_1 hHeld ⊢
                        refine pure_ (i := 0) (N := some 78) (v := ?_) (a' := ?_) #[true, false, false, false, false, false, false, false, false, false, false] rfl rfl (any_of HT_.out (by kernel_rfl)) (fun _ _ _ h => h) (Or.inl ⟨by rfl, ?_⟩) ?_ ?_
                        rotate_left
                        · intro w'
                          go_simp
                          with_reducible rfl
                        rotate_left
                        · simp only [Act.put, List.setIfInBounds_toArray, List.set_cons_zero, List.set_cons_succ, i64_w, i32_w]
                          rfl
                        refine pure_ (i := 1) (N := some 79) (v := ?_) (a' := ?_) #[true, true, false, false, false, false, false, false, false, false, false] rfl rfl (any_of HT_.out (by kernel_rfl)) (fun _ _ _ h => h) (Or.inl ⟨by rfl, ?_⟩) ?_ ?_
                        rotate_left
                        · intro w'
                          go_simp
                          with_reducible rfl
                        rotate_left
                        · simp only [Act.put, List.setIfInBounds_toArray, List.set_cons_zero, List.set_cons_succ, i64_w, i32_w]
                          rfl
                        refine pure_ (i := 2) (N := some 80) (v := ?_) (a' := ?_) #[true, true, true, false, false, false, false, false, false, false, false] rfl rfl (any_of HT_.out (by kernel_rfl)) (fun _ _ _ h => h) (Or.inl ⟨by rfl, ?_⟩) ?_ ?_
                        rotate_left
                        · intro w'
                          go_simp
                          with_reducible rfl
                        rotate_left
                        · simp only [Act.put, List.setIfInBounds_toArray, List.set_cons_zero, List.set_cons_succ, i64_w, i32_w]
                          rfl
                        refine pure_ (i := 5) (N := some 83) (v := ?_) (a' := ?_) #[true, true, true, false, false, true, false, false, false, false, false] rfl rfl (any_of HT_.out (by kernel_rfl)) (fun _ _ _ h => h) (Or.inl ⟨by rfl, ?_⟩) ?_ ?_
                        rotate_left
                        · intro w'
                          go_simp
                          with_reducible rfl
                        rotate_left
                        · simp only [Act.put, List.setIfInBounds_toArray, List.set_cons_zero, List.set_cons_succ, i64_w, i32_w]
                          rfl
                        refine pure_ (i := 6) (N := some 84) (v := ?_) (a' := ?_) #[true, true, true, false, false, true, true, false, false, false, false] rfl rfl (any_of HT_.out (by kernel_rfl)) (fun _ _ _ h => h) (Or.inl ⟨by rfl, ?_⟩) ?_ ?_
                        rotate_left
                        · intro w'
                          go_simp
                          with_reducible rfl
                        rotate_left
                        · simp only [Act.put, List.setIfInBounds_toArray, List.set_cons_zero, List.set_cons_succ, i64_w, i32_w]
                          rfl
                        refine pure_ (i := 7) (N := some 85) (v := ?_) (a' := ?_) #[true, true, true, false, false, true, true, true, false, false, false] rfl rfl (any_of HT_.out (by kernel_rfl)) (fun _ _ _ h => h) (Or.inl ⟨by rfl, ?_⟩) ?_ ?_
                        rotate_left
                        · intro w'
                          go_simp
                          with_reducible rfl
                        rotate_left
                        · simp only [Act.put, List.setIfInBounds_toArray, List.set_cons_zero, List.set_cons_succ, i64_w, i32_w]
                          rfl
                        refine take_ (i := 3) (N := some 81) (v := ?_) (a' := ?_) #[true, true, true, true, false, true, true, true, false, false, false] rfl rfl (take_ofW HT_.out HW_.out (by kernel_rfl)) (fun _ _ _ h => h) (Or.inl ⟨by rfl, ?_⟩) hHeld ?_ ?_
                        rotate_left
                        · rintro w' ⟨s0, s1, s2, s3⟩
                          go_simp
                          with_reducible rfl
                        rotate_left
                        · simp only [Act.put, List.setIfInBounds_toArray, List.set_cons_zero, List.set_cons_succ, i64_w, i32_w]
                          rfl
                        refine take_ (i := 8) (N := some 86) (v := ?_) (a' := ?_) #[true, true, true, true, false, true, true, true, true, false, false] rfl rfl (take_ofW HT_.out HW_.out (by kernel_rfl)) (fun _ _ _ h => h) (Or.inl ⟨by rfl, ?_⟩) hHeld ?_ ?_
                        rotate_left
                        · rintro w' ⟨s0, s1, s2, s3⟩
                          go_simp
                          with_reducible rfl
                        rotate_left
                        · simp only [Act.put, List.setIfInBounds_toArray, List.set_cons_zero, List.set_cons_succ, i64_w, i32_w]
                          rfl
                        refine one_ (i := 4) (N := some 82) #[true, true, true, true, true, true, true, true, true, false, false] rfl rfl (one_of HT_.out (by kernel_rfl)) (by decide) (fun K hK => ?_)
                        refine goes_ Try.func13 (by kernel_rfl) rfl #[.agg #[.string ((rd_T39 l0 x15_3).f0), .string ((rd_T39 l0 x15_3).f1)]] (by rfl) rfl rfl (by (try simp only [List.map_toArray, List.map_cons, List.map_nil]); first | done | rfl | (simp only [List.length_drop, List.length_take]; rfl)) ?_
                        with_reducible refine (control_Good.calls ((rd_T39 l0 x15_3).f0) ((rd_T39 l0 x15_3).f1) t243 _ A39.out).mono ?_
                        rintro e w46 ⟨rfl, hb⟩
                        refine ⟨_, rfl, ?_⟩
                        have n0_ := Aside0.mk (below_step (by repeat (first | (with_reducible first | exact HB.out | apply below_alloc | apply pw_below_drewN | apply below_drew1) | exact HB.out)) hb)
                        clear HB
                        have HB := n0_
                        clear n0_
                        (try clear hb)
                        (try clear hb2)
                        (try clear hk)
                        (try clear hi)
                        refine hK.out _ _ ⟨((HB.out.cell (World.block_lt_of_cell? w _ hw242_0)).trans hw242_0), ((HB.out.cell (World.block_lt_of_cell? w _ hw242_1)).trans hw242_1), ((HB.out.cell (World.block_lt_of_cell? w _ hw244_0)).trans hw244_0), ((HB.out.cell (World.block_lt_of_cell? w _ hw244_1)).trans hw244_1)⟩ (fun hHeld => ?_)
                        clear hK K
                        refine norm_ (a' := ?_) ?_ ?_
                        rotate_left
                        · show Act.put _ (some 82) _ = _
                          simp only [Act.put, List.setIfInBounds_toArray, List.set_cons_zero, List.set_cons_succ, i64_w, i32_w]
                          rfl
                        refine one_ (i := 9) (N := some 87) #[true, true, true, true, true, true, true, true, true, true, false] rfl rfl (one_of HT_.out (by kernel_rfl)) (by decide) (fun K hK => ?_)
                        refine goes_ Try.func14 (by kernel_rfl) rfl #[.agg #[.string ((rd_T39 l0 x15_3).f0), .string ((rd_T39 l0 x15_3).f1)]] (by rfl) rfl rfl (by (try simp only [List.map_toArray, List.map_cons, List.map_nil]); first | done | rfl | (simp only [List.length_drop, List.length_take]; rfl)) ?_
                        with_reducible refine (foliotref19_Good.calls k3 ((rd_T39 l0 x15_3).f0) ((rd_T39 l0 x15_3).f1) t245 _ A40.out).mono ?_
                        rintro e w47 ⟨rfl, hb⟩
                        refine ⟨_, rfl, ?_⟩
                        have n0_ := Aside0.mk (below_step (by repeat (first | (with_reducible first | exact HB.out | apply below_alloc | apply pw_below_drewN | apply below_drew1) | exact HB.out)) hb)
                        clear HB
                        have HB := n0_
                        clear n0_
                        (try clear hb)
                        (try clear hb2)
                        (try clear hk)
                        (try clear hi)
                        refine hK.out _ _ ⟨((HB.out.cell (World.block_lt_of_cell? w _ hw242_0)).trans hw242_0), ((HB.out.cell (World.block_lt_of_cell? w _ hw242_1)).trans hw242_1), ((HB.out.cell (World.block_lt_of_cell? w _ hw244_0)).trans hw244_0), ((HB.out.cell (World.block_lt_of_cell? w _ hw244_1)).trans hw244_1)⟩ (fun hHeld => ?_)
                        clear hK K
                        refine norm_ (a' := ?_) ?_ ?_
                        rotate_left
                        · show Act.put _ (some 87) _ = _
                          simp only [Act.put, List.setIfInBounds_toArray, List.set_cons_zero, List.set_cons_succ, i64_w, i32_w]
                          rfl
                        refine pure_ (i := 10) (N := some 88) (v := ?_) (a' := ?_) #[true, true, true, true, true, true, true, true, true, true, true] rfl rfl (any_of HT_.out (by kernel_rfl)) (fun _ _ _ h => h) (Or.inl ⟨by rfl, ?_⟩) ?_ ?_
                        rotate_left
                        · intro w'
                          go_simp
                          with_reducible rfl
                        rotate_left
                        · simp only [Act.put, List.setIfInBounds_toArray, List.set_cons_zero, List.set_cons_succ, i64_w, i32_w]
                          rfl
                        refine done_ (done_of HT_.out (by kernel_rfl)) ?_
                        try go_wp2
                        go_roundg k3
                        case measure => have := HJ3.out; have := HJ19.out; have := HK3.out; omega
                        case rel => exact ⟨(wrap64 (x15_3 + 1)), (by first | rfl | (simp; done) | (simp [*]; done)), H', ⟨by have := HJ3.out; have := HJ19.out; have := HK3.out; omega⟩, ⟨by repeat (first | (with_reducible first | exact HB.out | apply below_alloc | apply pw_below_drewN | apply below_drew1) | exact HB.out)⟩⟩
                    · rw [if_neg c38] at H
                      exact absurd H (by simp)
                  · rw [if_neg c37] at H
                    have c37b0 : decide (x15_3 < (l0.length : Int)) = false := decide_eq_false c37
                    clear c37
                    replace H := Option.bind_eq_some_iff.mp H
                    obtain ⟨⟨t246, t247⟩, A480, H⟩ := H
                    replace H : ((foliotlaw19_theirs.f k3 l0).bind fun t250 => ((foliotlaw19_theirs.f k3 l1).bind fun t253 => ((foliotref19_Pick.f k3 t250 t253).bind fun bt256 => (if (t247 == bt256.2) = true then ((foliotlaw19_ours.f k3 bt256.1).bind fun t260 => ((foliotlaw19_sameVars.f k3 t246 t260).bind fun t263 => (some t263))) else (some false))))) = some r := H
                    have A48 := Aside0.mk A480
                    clear A480
                    replace H := Option.bind_eq_some_iff.mp H
                    obtain ⟨t250, A490, H⟩ := H
                    replace H : ((foliotlaw19_theirs.f k3 l1).bind fun t253 => ((foliotref19_Pick.f k3 t250 t253).bind fun bt256 => (if (t247 == bt256.2) = true then ((foliotlaw19_ours.f k3 bt256.1).bind fun t260 => ((foliotlaw19_sameVars.f k3 t246 t260).bind fun t263 => (some t263))) else (some false)))) = some r := H
                    have A49 := Aside0.mk A490
                    clear A490
                    replace H := Option.bind_eq_some_iff.mp H
                    obtain ⟨t253, A500, H⟩ := H
                    replace H : ((foliotref19_Pick.f k3 t250 t253).bind fun bt256 => (if (t247 == bt256.2) = true then ((foliotlaw19_ours.f k3 bt256.1).bind fun t260 => ((foliotlaw19_sameVars.f k3 t246 t260).bind fun t263 => (some t263))) else (some false))) = some r := H
                    have A50 := Aside0.mk A500
                    clear A500
                    replace H := Option.bind_eq_some_iff.mp H
                    obtain ⟨⟨t256, t257⟩, A510, H⟩ := H
                    replace H : (if (t247 == t257) = true then ((foliotlaw19_ours.f k3 t256).bind fun t260 => ((foliotlaw19_sameVars.f k3 t246 t260).bind fun t263 => (some t263))) else (some false)) = some r := H
                    have A51 := Aside0.mk A510
                    clear A510
                    by_cases c52 : (t247 == t257) = true
                    · rw [if_pos c52] at H
                      have c52b0 : (t247 == t257) = true := c52
                      (try (have c52b1 : decide (t247 = t257) = true := by simpa using c52))
                      (try (have c52b2 : (t247 == t257) = true := by simpa using c52))
                      clear c52
                      replace H := Option.bind_eq_some_iff.mp H
                      obtain ⟨t260, A530, H⟩ := H
                      replace H : ((foliotlaw19_sameVars.f k3 t246 t260).bind fun t263 => (some t263)) = some r := H
                      have A53 := Aside0.mk A530
                      clear A530
                      replace H := Option.bind_eq_some_iff.mp H
                      obtain ⟨t263, A540, H⟩ := H
                      replace H : (some t263) = some r := H
                      have A54 := Aside0.mk A540
                      clear A540
                      obtain rfl := Option.some.inj H
                      go_wp2_with (first | ((with_reducible refine gate_callee (f := 15) rfl ?_); refine goesL_ (some 92) rfl rfl Try.func15 (by kernel_rfl) rfl #[.slice A0 l0.length c0, .slice A1 l1.length c1] rfl (by (try simp only [List.map_toArray, List.map_cons, List.map_nil]); first | done | rfl | (simp only [List.length_drop, List.length_take]; rfl)) ?_; (with_reducible refine (control_Pick.calls _ _ l0 _ _ l1 t246 t247 _ ?side1 ?side2 ?side3 ?side4 A48.out).mono ?_); (case side1 => repeat (first | exact (Kd.C_below HR0.out HB.out) | (with_reducible refine Kd.C_alloc ?_ _) | (with_reducible refine Kd.C_drewN ?_ _) | (with_reducible refine Kd.C_drew ?_))); (case side2 => exact HC0.out); (case side3 => repeat (first | exact (Kd.C_below HR1.out HB.out) | (with_reducible refine Kd.C_alloc ?_ _) | (with_reducible refine Kd.C_drewN ?_ _) | (with_reducible refine Kd.C_drew ?_))); (case side4 => exact HC1.out); rintro e w55 ⟨v248, rfl, ho0, hb⟩; refine ⟨_, rfl, ?_⟩; have n0_ := Aside0.mk (Kd.R_lower ho0 (below_size (by repeat (first | (with_reducible first | exact HB.out | apply below_alloc | apply pw_below_drewN | apply below_drew1) | exact HB.out)))); have n1_ := Aside0.mk (below_step (by repeat (first | (with_reducible first | exact HB.out | apply below_alloc | apply pw_below_drewN | apply below_drew1) | exact HB.out)) hb); clear HB; have HO249 := n0_; have HB := n1_; clear n0_ n1_; (try clear hb); (try clear hb2); (try clear hk); (try clear hi); (try clear ho0)) | ((with_reducible refine gate_callee (f := 8) rfl ?_); refine goesL_ (some 97) rfl rfl Try.func8 (by kernel_rfl) rfl #[.slice A0 l0.length c0] rfl (by (try simp only [List.map_toArray, List.map_cons, List.map_nil]); first | done | rfl | (simp only [List.length_drop, List.length_take]; rfl)) ?_; (with_reducible refine (foliotlaw19_theirs.calls k3 _ _ l0 t250 _ ?side1 ?side2 A49.out).mono ?_); (case side1 => repeat (first | exact (Kd.C_below HR0.out HB.out) | (with_reducible refine Kd.C_alloc ?_ _) | (with_reducible refine Kd.C_drewN ?_ _) | (with_reducible refine Kd.C_drew ?_))); (case side2 => exact HC0.out); rintro e w56 ⟨v251, rfl, ho0, hb⟩; refine ⟨_, rfl, ?_⟩; have n0_ := Aside0.mk (Kd.R_below (by (with_reducible repeat (first | apply Kd.R_alloc | apply Kd.R_drewN | apply Kd.R_drew)); exact HO249.out) hb); have n1_ := Aside0.mk (Kd.R_lower ho0 (below_size (by repeat (first | (with_reducible first | exact HB.out | apply below_alloc | apply pw_below_drewN | apply below_drew1) | exact HB.out)))); have n2_ := Aside0.mk (below_step (by repeat (first | (with_reducible first | exact HB.out | apply below_alloc | apply pw_below_drewN | apply below_drew1) | exact HB.out)) hb); clear HO249; clear HB; have HO249 := n0_; have HO252 := n1_; have HB := n2_; clear n0_ n1_ n2_; (try clear hb); (try clear hb2); (try clear hk); (try clear hi); (try clear ho0)) | ((with_reducible refine gate_callee (f := 8) rfl ?_); refine goesL_ (some 99) rfl rfl Try.func8 (by kernel_rfl) rfl #[.slice A1 l1.length c1] rfl (by (try simp only [List.map_toArray, List.map_cons, List.map_nil]); first | done | rfl | (simp only [List.length_drop, List.length_take]; rfl)) ?_; (with_reducible refine (foliotlaw19_theirs.calls k3 _ _ l1 t253 _ ?side1 ?side2 A50.out).mono ?_); (case side1 => repeat (first | exact (Kd.C_below HR1.out HB.out) | (with_reducible refine Kd.C_alloc ?_ _) | (with_reducible refine Kd.C_drewN ?_ _) | (with_reducible refine Kd.C_drew ?_))); (case side2 => exact HC1.out); rintro e w57 ⟨v254, rfl, ho0, hb⟩; refine ⟨_, rfl, ?_⟩; have n0_ := Aside0.mk (Kd.R_below (by (with_reducible repeat (first | apply Kd.R_alloc | apply Kd.R_drewN | apply Kd.R_drew)); exact HO249.out) hb); have n1_ := Aside0.mk (Kd.R_elder' (by (with_reducible repeat (first | apply Kd.R_alloc | apply Kd.R_drewN | apply Kd.R_drew)); exact HO252.out) (Kd.R_base ho0) hb); have n2_ := Aside0.mk (Kd.R_lower (Kd.R_new' ho0 (Kd.R_lt (by (with_reducible repeat (first | apply Kd.R_alloc | apply Kd.R_drewN | apply Kd.R_drew)); exact HO252.out))) (below_size (by repeat (first | (with_reducible first | exact HB.out | apply below_alloc | apply pw_below_drewN | apply below_drew1) | exact HB.out)))); have n3_ := Aside0.mk (below_step (by repeat (first | (with_reducible first | exact HB.out | apply below_alloc | apply pw_below_drewN | apply below_drew1) | exact HB.out)) hb); clear HO249; clear HO252; clear HB; have HO249 := n0_; have HO252 := n1_; have HO255 := n2_; have HB := n3_; clear n0_ n1_ n2_ n3_; (try clear hb); (try clear hb2); (try clear hk); (try clear hi); (try clear ho0); obtain ⟨Ao58, co58, eo58⟩ := Kd.R_slice HO252.out; subst eo58; obtain ⟨Ao59, co59, eo59⟩ := Kd.R_slice HO255.out; subst eo59) | ((with_reducible refine gate_callee (f := 16) rfl ?_); refine goesL_ (some 100) rfl rfl Try.func16 (by kernel_rfl) rfl #[.slice Ao58 t250.length co58, .slice Ao59 t253.length co59] rfl (by (try simp only [List.map_toArray, List.map_cons, List.map_nil]); first | done | rfl | (simp only [List.length_drop, List.length_take]; rfl)) ?_; (with_reducible refine (foliotref19_Pick.calls k3 _ _ t250 _ _ t253 t256 t257 _ ?side1 ?side2 ?side3 ?side4 A51.out).mono ?_); (case side1 => repeat (first | exact (Kd.R_reads' HO252.out).2.2 | (with_reducible refine Kd.C_alloc ?_ _) | (with_reducible refine Kd.C_drewN ?_ _) | (with_reducible refine Kd.C_drew ?_))); (case side2 => exact (Kd.R_reads' HO252.out).2.1); (case side3 => repeat (first | exact (Kd.R_reads' HO255.out).2.2 | (with_reducible refine Kd.C_alloc ?_ _) | (with_reducible refine Kd.C_drewN ?_ _) | (with_reducible refine Kd.C_drew ?_))); (case side4 => exact (Kd.R_reads' HO255.out).2.1); rintro e w60 ⟨v258, rfl, ho0, hb⟩; refine ⟨_, rfl, ?_⟩; have n0_ := Aside0.mk (Kd.R_below (by (with_reducible repeat (first | apply Kd.R_alloc | apply Kd.R_drewN | apply Kd.R_drew)); exact HO249.out) hb); have n1_ := Aside0.mk (Kd.R_elder' (by (with_reducible repeat (first | apply Kd.R_alloc | apply Kd.R_drewN | apply Kd.R_drew)); exact HO252.out) (Kd.R_base ho0) hb); have n2_ := Aside0.mk (Kd.R_elder' (by (with_reducible repeat (first | apply Kd.R_alloc | apply Kd.R_drewN | apply Kd.R_drew)); exact HO255.out) (Kd.R_base ho0) hb); have n3_ := Aside0.mk (Kd.R_lower (Kd.R_new' (Kd.R_new' ho0 (Kd.R_lt (by (with_reducible repeat (first | apply Kd.R_alloc | apply Kd.R_drewN | apply Kd.R_drew)); exact HO252.out))) (Kd.R_lt (by (with_reducible repeat (first | apply Kd.R_alloc | apply Kd.R_drewN | apply Kd.R_drew)); exact HO255.out))) (below_size (by repeat (first | (with_reducible first | exact HB.out | apply below_alloc | apply pw_below_drewN | apply below_drew1) | exact HB.out)))); have n4_ := Aside0.mk (below_step (by repeat (first | (with_reducible first | exact HB.out | apply below_alloc | apply pw_below_drewN | apply below_drew1) | exact HB.out)) hb); clear HO249; clear HO252; clear HO255; clear HB; have HO249 := n0_; have HO252 := n1_; have HO255 := n2_; have HO259 := n3_; have HB := n4_; clear n0_ n1_ n2_ n3_ n4_; (try clear hb); (try clear hb2); (try clear hk); (try clear hi); (try clear ho0); obtain ⟨Ao61, co61, eo61⟩ := Kd.R_slice HO259.out; subst eo61) | (go_at_call 12; (with_reducible refine (foliotlaw19_ours.calls k3 _ _ t256 t260 _ ?side1 ?side2 A53.out).mono ?_); (case side1 => repeat (first | exact (Kd.R_reads' HO259.out).2.2 | (with_reducible refine Kd.C_alloc ?_ _) | (with_reducible refine Kd.C_drewN ?_ _) | (with_reducible refine Kd.C_drew ?_))); (case side2 => exact (Kd.R_reads' HO259.out).2.1); rintro e w62 ⟨v261, rfl, ho0, hb⟩; have n0_ := Aside0.mk (Kd.R_elder' (by (with_reducible repeat (first | apply Kd.R_alloc | apply Kd.R_drewN | apply Kd.R_drew)); exact HO249.out) (Kd.R_base ho0) hb); have n1_ := Aside0.mk (Kd.R_below (by (with_reducible repeat (first | apply Kd.R_alloc | apply Kd.R_drewN | apply Kd.R_drew)); exact HO252.out) hb); have n2_ := Aside0.mk (Kd.R_below (by (with_reducible repeat (first | apply Kd.R_alloc | apply Kd.R_drewN | apply Kd.R_drew)); exact HO255.out) hb); have n3_ := Aside0.mk (Kd.R_below (by (with_reducible repeat (first | apply Kd.R_alloc | apply Kd.R_drewN | apply Kd.R_drew)); exact HO259.out) hb); have n4_ := Aside0.mk (Kd.R_lower (Kd.R_new' ho0 (Kd.R_lt (by (with_reducible repeat (first | apply Kd.R_alloc | apply Kd.R_drewN | apply Kd.R_drew)); exact HO249.out))) (below_size (by repeat (first | (with_reducible first | exact HB.out | apply below_alloc | apply pw_below_drewN | apply below_drew1) | exact HB.out)))); have n5_ := Aside0.mk (below_step (by repeat (first | (with_reducible first | exact HB.out | apply below_alloc | apply pw_below_drewN | apply below_drew1) | exact HB.out)) hb); clear HO249; clear HO252; clear HO255; clear HO259; clear HB; have HO249 := n0_; have HO252 := n1_; have HO255 := n2_; have HO259 := n3_; have HO262 := n4_; have HB := n5_; clear n0_ n1_ n2_ n3_ n4_ n5_; (try clear hb); (try clear hb2); (try clear hk); (try clear hi); (try clear ho0); obtain ⟨Ao63, co63, eo63⟩ := Kd.R_slice HO249.out; subst eo63; obtain ⟨Ao64, co64, eo64⟩ := Kd.R_slice HO262.out; subst eo64) | (go_at_call 10; (with_reducible refine (foliotlaw19_sameVars.calls k3 _ _ t246 _ _ t260 t263 _ ?side1 ?side2 ?side3 ?side4 A54.out).mono ?_); (case side1 => repeat (first | exact (Kd.R_reads' HO249.out).2.2 | (with_reducible refine Kd.C_alloc ?_ _) | (with_reducible refine Kd.C_drewN ?_ _) | (with_reducible refine Kd.C_drew ?_))); (case side2 => exact (Kd.R_reads' HO249.out).2.1); (case side3 => repeat (first | exact (Kd.R_reads' HO262.out).2.2 | (with_reducible refine Kd.C_alloc ?_ _) | (with_reducible refine Kd.C_drewN ?_ _) | (with_reducible refine Kd.C_drew ?_))); (case side4 => exact (Kd.R_reads' HO262.out).2.1); rintro e w' ⟨rfl, ⟨nd, rfl⟩⟩))
                      go_ret
                      exact ⟨by first | rfl | (simp [errW_none, errW_some] <;> rfl) | (simp [*, errW_none, errW_some] <;> rfl), by repeat (first | (with_reducible first | exact HB.out | apply below_alloc | apply pw_below_drewN | apply below_drew1) | exact HB.out)⟩
                    · rw [if_neg c52] at H
                      have c52b0 : (t247 == t257) = false := by simpa using c52
                      (try (have c52b1 : decide (t247 = t257) = false := by simpa using c52))
                      (try (have c52b2 : (t247 == t257) = false := by simpa using c52))
                      (try (have c52b3 : ¬ (t247 = t257) := by simpa using c52))
                      clear c52
                      obtain rfl := Option.some.inj H
                      go_wp2_with (first | ((with_reducible refine gate_callee (f := 15) rfl ?_); refine goesL_ (some 92) rfl rfl Try.func15 (by kernel_rfl) rfl #[.slice A0 l0.length c0, .slice A1 l1.length c1] rfl (by (try simp only [List.map_toArray, List.map_cons, List.map_nil]); first | done | rfl | (simp only [List.length_drop, List.length_take]; rfl)) ?_; (with_reducible refine (control_Pick.calls _ _ l0 _ _ l1 t246 t247 _ ?side1 ?side2 ?side3 ?side4 A48.out).mono ?_); (case side1 => repeat (first | exact (Kd.C_below HR0.out HB.out) | (with_reducible refine Kd.C_alloc ?_ _) | (with_reducible refine Kd.C_drewN ?_ _) | (with_reducible refine Kd.C_drew ?_))); (case side2 => exact HC0.out); (case side3 => repeat (first | exact (Kd.C_below HR1.out HB.out) | (with_reducible refine Kd.C_alloc ?_ _) | (with_reducible refine Kd.C_drewN ?_ _) | (with_reducible refine Kd.C_drew ?_))); (case side4 => exact HC1.out); rintro e w65 ⟨v248, rfl, ho0, hb⟩; refine ⟨_, rfl, ?_⟩; have n0_ := Aside0.mk (Kd.R_lower ho0 (below_size (by repeat (first | (with_reducible first | exact HB.out | apply below_alloc | apply pw_below_drewN | apply below_drew1) | exact HB.out)))); have n1_ := Aside0.mk (below_step (by repeat (first | (with_reducible first | exact HB.out | apply below_alloc | apply pw_below_drewN | apply below_drew1) | exact HB.out)) hb); clear HB; have HO249 := n0_; have HB := n1_; clear n0_ n1_; (try clear hb); (try clear hb2); (try clear hk); (try clear hi); (try clear ho0)) | ((with_reducible refine gate_callee (f := 8) rfl ?_); refine goesL_ (some 97) rfl rfl Try.func8 (by kernel_rfl) rfl #[.slice A0 l0.length c0] rfl (by (try simp only [List.map_toArray, List.map_cons, List.map_nil]); first | done | rfl | (simp only [List.length_drop, List.length_take]; rfl)) ?_; (with_reducible refine (foliotlaw19_theirs.calls k3 _ _ l0 t250 _ ?side1 ?side2 A49.out).mono ?_); (case side1 => repeat (first | exact (Kd.C_below HR0.out HB.out) | (with_reducible refine Kd.C_alloc ?_ _) | (with_reducible refine Kd.C_drewN ?_ _) | (with_reducible refine Kd.C_drew ?_))); (case side2 => exact HC0.out); rintro e w66 ⟨v251, rfl, ho0, hb⟩; refine ⟨_, rfl, ?_⟩; have n0_ := Aside0.mk (Kd.R_below (by (with_reducible repeat (first | apply Kd.R_alloc | apply Kd.R_drewN | apply Kd.R_drew)); exact HO249.out) hb); have n1_ := Aside0.mk (Kd.R_lower ho0 (below_size (by repeat (first | (with_reducible first | exact HB.out | apply below_alloc | apply pw_below_drewN | apply below_drew1) | exact HB.out)))); have n2_ := Aside0.mk (below_step (by repeat (first | (with_reducible first | exact HB.out | apply below_alloc | apply pw_below_drewN | apply below_drew1) | exact HB.out)) hb); clear HO249; clear HB; have HO249 := n0_; have HO252 := n1_; have HB := n2_; clear n0_ n1_ n2_; (try clear hb); (try clear hb2); (try clear hk); (try clear hi); (try clear ho0)) | ((with_reducible refine gate_callee (f := 8) rfl ?_); refine goesL_ (some 99) rfl rfl Try.func8 (by kernel_rfl) rfl #[.slice A1 l1.length c1] rfl (by (try simp only [List.map_toArray, List.map_cons, List.map_nil]); first | done | rfl | (simp only [List.length_drop, List.length_take]; rfl)) ?_; (with_reducible refine (foliotlaw19_theirs.calls k3 _ _ l1 t253 _ ?side1 ?side2 A50.out).mono ?_); (case side1 => repeat (first | exact (Kd.C_below HR1.out HB.out) | (with_reducible refine Kd.C_alloc ?_ _) | (with_reducible refine Kd.C_drewN ?_ _) | (with_reducible refine Kd.C_drew ?_))); (case side2 => exact HC1.out); rintro e w67 ⟨v254, rfl, ho0, hb⟩; refine ⟨_, rfl, ?_⟩; have n0_ := Aside0.mk (Kd.R_below (by (with_reducible repeat (first | apply Kd.R_alloc | apply Kd.R_drewN | apply Kd.R_drew)); exact HO249.out) hb); have n1_ := Aside0.mk (Kd.R_elder' (by (with_reducible repeat (first | apply Kd.R_alloc | apply Kd.R_drewN | apply Kd.R_drew)); exact HO252.out) (Kd.R_base ho0) hb); have n2_ := Aside0.mk (Kd.R_lower (Kd.R_new' ho0 (Kd.R_lt (by (with_reducible repeat (first | apply Kd.R_alloc | apply Kd.R_drewN | apply Kd.R_drew)); exact HO252.out))) (below_size (by repeat (first | (with_reducible first | exact HB.out | apply below_alloc | apply pw_below_drewN | apply below_drew1) | exact HB.out)))); have n3_ := Aside0.mk (below_step (by repeat (first | (with_reducible first | exact HB.out | apply below_alloc | apply pw_below_drewN | apply below_drew1) | exact HB.out)) hb); clear HO249; clear HO252; clear HB; have HO249 := n0_; have HO252 := n1_; have HO255 := n2_; have HB := n3_; clear n0_ n1_ n2_ n3_; (try clear hb); (try clear hb2); (try clear hk); (try clear hi); (try clear ho0); obtain ⟨Ao68, co68, eo68⟩ := Kd.R_slice HO252.out; subst eo68; obtain ⟨Ao69, co69, eo69⟩ := Kd.R_slice HO255.out; subst eo69) | ((with_reducible refine gate_callee (f := 16) rfl ?_); refine goesL_ (some 100) rfl rfl Try.func16 (by kernel_rfl) rfl #[.slice Ao68 t250.length co68, .slice Ao69 t253.length co69] rfl (by (try simp only [List.map_toArray, List.map_cons, List.map_nil]); first | done | rfl | (simp only [List.length_drop, List.length_take]; rfl)) ?_; (with_reducible refine (foliotref19_Pick.calls k3 _ _ t250 _ _ t253 t256 t257 _ ?side1 ?side2 ?side3 ?side4 A51.out).mono ?_); (case side1 => repeat (first | exact (Kd.R_reads' HO252.out).2.2 | (with_reducible refine Kd.C_alloc ?_ _) | (with_reducible refine Kd.C_drewN ?_ _) | (with_reducible refine Kd.C_drew ?_))); (case side2 => exact (Kd.R_reads' HO252.out).2.1); (case side3 => repeat (first | exact (Kd.R_reads' HO255.out).2.2 | (with_reducible refine Kd.C_alloc ?_ _) | (with_reducible refine Kd.C_drewN ?_ _) | (with_reducible refine Kd.C_drew ?_))); (case side4 => exact (Kd.R_reads' HO255.out).2.1); rintro e w70 ⟨v258, rfl, ho0, hb⟩; refine ⟨_, rfl, ?_⟩; have n0_ := Aside0.mk (Kd.R_below (by (with_reducible repeat (first | apply Kd.R_alloc | apply Kd.R_drewN | apply Kd.R_drew)); exact HO249.out) hb); have n1_ := Aside0.mk (Kd.R_elder' (by (with_reducible repeat (first | apply Kd.R_alloc | apply Kd.R_drewN | apply Kd.R_drew)); exact HO252.out) (Kd.R_base ho0) hb); have n2_ := Aside0.mk (Kd.R_elder' (by (with_reducible repeat (first | apply Kd.R_alloc | apply Kd.R_drewN | apply Kd.R_drew)); exact HO255.out) (Kd.R_base ho0) hb); have n3_ := Aside0.mk (Kd.R_lower (Kd.R_new' (Kd.R_new' ho0 (Kd.R_lt (by (with_reducible repeat (first | apply Kd.R_alloc | apply Kd.R_drewN | apply Kd.R_drew)); exact HO252.out))) (Kd.R_lt (by (with_reducible repeat (first | apply Kd.R_alloc | apply Kd.R_drewN | apply Kd.R_drew)); exact HO255.out))) (below_size (by repeat (first | (with_reducible first | exact HB.out | apply below_alloc | apply pw_below_drewN | apply below_drew1) | exact HB.out)))); have n4_ := Aside0.mk (below_step (by repeat (first | (with_reducible first | exact HB.out | apply below_alloc | apply pw_below_drewN | apply below_drew1) | exact HB.out)) hb); clear HO249; clear HO252; clear HO255; clear HB; have HO249 := n0_; have HO252 := n1_; have HO255 := n2_; have HO259 := n3_; have HB := n4_; clear n0_ n1_ n2_ n3_ n4_; (try clear hb); (try clear hb2); (try clear hk); (try clear hi); (try clear ho0)))
                      go_ret
                      exact ⟨by first | rfl | (simp [errW_none, errW_some] <;> rfl) | (simp [*, errW_none, errW_some] <;> rfl), by repeat (first | (with_reducible first | exact HB.out | apply below_alloc | apply pw_below_drewN | apply below_drew1) | exact HB.out)⟩

end Go.Proofs.Ytpclhceafigibaa.PAll
