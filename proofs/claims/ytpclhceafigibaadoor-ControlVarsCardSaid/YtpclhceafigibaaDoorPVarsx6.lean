/- Functions and contracts, printed by a program over the kit's print (wip/fprint.py): some callees' contracts are typed by hand in texts of their own. -/
import Derived.Test.YtpclhceafigibaaDoorPVarsx0
import Derived.Test.YtpclhceafigibaaDoorFGood
import Derived.Test.YtpclhceafigibaaDoorFStr
namespace Go.Proofs.YtpclhceafigibaaDoor.PVars
open Go.RowKit Go.Proofs.YtpclhceafigibaaDoorW.PrintWords Go.Proofs.YtpclhceafigibaaDoorW.PrintLast Go.Proofs.YtpclhceafigibaaDoorW.PrintMore
attribute [local go_sem] max2_int min2_int max_two min_two max_three min_three max_four min_four   -- for this text's walks alone
set_option linter.unusedVariables false
set_option linter.unusedSimpArgs false

/-! ### control_List: function 16 -/
def control_List.l0 : Nat → List ByteArray → List (S51) → Int → Int → Option (ByteArray × Int)
  | 0, _, _, _, _ => none
  | k + 1, x4, x8, x9, x10 => if x10 < x9 then (if 0 ≤ x10 then (if x10 < (x8.length : Int) then ((control_Good.f ((rd_T51 x8 x10).f0) ((rd_T51 x8 x10).f1)).bind fun t262 => (if t262 = true then ((strings_ContainsAny.f ((rd_T51 x8 x10).f1) (⟨#[32, 44]⟩ : ByteArray)).bind fun t263 => (if t263 = true then (if 2 + ((rd_T51 x8 x10).f1).size ≤ 9223372036854775807 then (if ((⟨#[61, 34]⟩ : ByteArray) ++ ((rd_T51 x8 x10).f1)).size + 1 ≤ 9223372036854775807 then (if ((rd_T51 x8 x10).f0).size + (((⟨#[61, 34]⟩ : ByteArray) ++ ((rd_T51 x8 x10).f1)) ++ (⟨#[34]⟩ : ByteArray)).size ≤ 9223372036854775807 then (if x4.length < 8796093022208 then (control_List.l0 k (x4 ++ [((rd_T51 x8 x10).f0) ++ (((⟨#[61, 34]⟩ : ByteArray) ++ ((rd_T51 x8 x10).f1)) ++ (⟨#[34]⟩ : ByteArray))]) x8 x9 (wrap64 (x10 + 1))) else (none)) else (none)) else (none)) else (none)) else (if ((rd_T51 x8 x10).f1).toList = ([] : List UInt8) then (if ((rd_T51 x8 x10).f0).size + ((rd_T51 x8 x10).f1).size ≤ 9223372036854775807 then (if x4.length < 8796093022208 then (control_List.l0 k (x4 ++ [((rd_T51 x8 x10).f0) ++ ((rd_T51 x8 x10).f1)]) x8 x9 (wrap64 (x10 + 1))) else (none)) else (none)) else (if 1 + ((rd_T51 x8 x10).f1).size ≤ 9223372036854775807 then (if ((rd_T51 x8 x10).f0).size + ((⟨#[61]⟩ : ByteArray) ++ ((rd_T51 x8 x10).f1)).size ≤ 9223372036854775807 then (if x4.length < 8796093022208 then (control_List.l0 k (x4 ++ [((rd_T51 x8 x10).f0) ++ ((⟨#[61]⟩ : ByteArray) ++ ((rd_T51 x8 x10).f1))]) x8 x9 (wrap64 (x10 + 1))) else (none)) else (none)) else (none))))) else (some ((⟨#[]⟩ : ByteArray), 21)))) else (none)) else (none)) else ((strings_Join.f x4 (⟨#[44, 32]⟩ : ByteArray)).bind fun t259 => (some (t259, 0)))
def control_List.f (k : Nat) (l0 : List (S51)) : Option (ByteArray × Int) := control_List.l0 k ([] : List ByteArray) l0 (l0.length : Int) 0
theorem control_List.mono_l : ∀ k, (∀ y0 y1 y2 y3, LeO (control_List.l0 k y0 y1 y2 y3) (control_List.l0 (k + 1) y0 y1 y2 y3))
  | 0 => fun _ _ _ _ r h => by simp [control_List.l0] at h
  | k + 1 => by
    have ih0 := control_List.mono_l k
    · intro y0 y1 y2 y3
      unfold control_List.l0
      repeat' first
      | (with_reducible exact ih0 _ _ _ _)
      | (with_reducible exact LeO.refl _)
      | (with_reducible exact LeO.none _)
      | (with_reducible refine LeO.ite ?_ ?_)
      | (with_reducible refine LeO.bind ?_ (fun _ => ?_))
      | exact ih0 _ _ _ _
      | exact LeO.none _
      | refine LeO.ite ?_ ?_
      | refine LeO.bind ?_ (fun _ => ?_)
theorem control_List.mono : ∀ a0 k, LeO (control_List.f k a0) (control_List.f (k + 1) a0) := by
  intro a0 k
  have ih0 := control_List.mono_l k
  unfold control_List.f
  repeat' first
      | (with_reducible exact ih0 _ _ _ _)
      | (with_reducible exact LeO.refl _)
      | (with_reducible exact LeO.none _)
      | (with_reducible refine LeO.ite ?_ ?_)
      | (with_reducible refine LeO.bind ?_ (fun _ => ?_))
      | exact ih0 _ _ _ _
      | exact LeO.none _
      | refine LeO.ite ?_ ?_
      | refine LeO.bind ?_ (fun _ => ?_)
set_option maxHeartbeats 8000000 in
set_option maxRecDepth 100000 in
theorem control_List.calls (k : Nat) (A0 : Option Addr) (c0 : Nat) (l0 : List (S51)) (r1 : ByteArray) (r2 : Int) (w : World) (hr0 : Kd.C k51 w A0 l0.length l0) (hc0 : l0.length ≤ c0) (h : control_List.f k l0 = some (r1, r2)) :
    Calls Tryd.prog 16 #[.slice A0 l0.length c0] w fun e w' => e = .returned (.tuple #[.string r1, .int .i64 r2]) ∧ Below w.heap.size w w' := by
  have hu51 := Tryd.underlying51
  have HR0 := Aside0.mk hr0
  have HC0 := Aside0.mk hc0
  clear hr0 hc0
  have HB := Aside0.mk (Below.refl w.heap.size w)
  have H : (control_List.l0 k ([] : List ByteArray) l0 (l0.length : Int) 0) = some (r1, r2) := h
  clear h
  have H' := Aside0.mk H
  clear H
  go_enter Tryd.func16, Tryd.ntmps16
  go_wp2
  go_loopg [4, 10] k (fun kq v4 v10 w' => ∃ (x4_1 : List ByteArray) (x10_1 : Int), v10 = .int .i64 x10_1 ∧ Aside0 (control_List.l0 kq x4_1 l0 (l0.length : Int) x10_1 = some (r1, r2)) ∧ Aside0 (kq ≤ k) ∧ Aside0 (Kd.R Kd.string 9 w' w.heap.size (fun _ => True) v4 x4_1) ∧ Aside0 (Below w.heap.size w w'))
  case atStart => exact ⟨(([] : List ByteArray)), (0), (by first | rfl | (simp; done) | (simp [*]; done)), H', ⟨Nat.le_refl _⟩, ⟨by first | exact Kd.R_nil _ _ _ _ _ | exact Kd.N_nil _ _ _ _ _ | exact Kd.V_nil _ _ _ _ _ | exact Kd.Q_nil _ _ _ _ _ | exact Kd.S_nil _ _ _ _ _⟩, ⟨by repeat (first | (with_reducible first | exact HB.out | apply below_alloc | apply pw_below_drewN | apply below_drew1) | exact HB.out)⟩⟩
  case round =>
    clear H'
    try clear c1
    obtain ⟨x4_1, x10_1, rfl, HA, HK1, HO_4, HB⟩ := hrel
    cases gk with
    | zero => exact absurd HA.out (by simp [control_List.l0])
    | succ k1 =>
      have H := HA.out
      clear HA
      simp only [control_List.l0] at H
      by_cases c2 : x10_1 < (l0.length : Int)
      · rw [if_pos c2] at H
        have c2b0 : decide (x10_1 < (l0.length : Int)) = true := decide_eq_true c2
        clear c2
        by_cases c3 : 0 ≤ x10_1
        · rw [if_pos c3] at H
          have c3b0 : decide (0 ≤ x10_1) = true := decide_eq_true c3
          clear c3
          by_cases c4 : x10_1 < (l0.length : Int)
          · rw [if_pos c4] at H
            have c4b0 : decide (x10_1 < (l0.length : Int)) = true := decide_eq_true c4
            clear c4
            replace H := Option.bind_eq_some_iff.mp H
            obtain ⟨t262, A50, H⟩ := H
            replace H : (if t262 = true then ((strings_ContainsAny.f ((rd_T51 l0 x10_1).f1) (⟨#[32, 44]⟩ : ByteArray)).bind fun t263 => (if t263 = true then (if 2 + ((rd_T51 l0 x10_1).f1).size ≤ 9223372036854775807 then (if ((⟨#[61, 34]⟩ : ByteArray) ++ ((rd_T51 l0 x10_1).f1)).size + 1 ≤ 9223372036854775807 then (if ((rd_T51 l0 x10_1).f0).size + (((⟨#[61, 34]⟩ : ByteArray) ++ ((rd_T51 l0 x10_1).f1)) ++ (⟨#[34]⟩ : ByteArray)).size ≤ 9223372036854775807 then (if x4_1.length < 8796093022208 then (control_List.l0 k1 (x4_1 ++ [((rd_T51 l0 x10_1).f0) ++ (((⟨#[61, 34]⟩ : ByteArray) ++ ((rd_T51 l0 x10_1).f1)) ++ (⟨#[34]⟩ : ByteArray))]) l0 (l0.length : Int) (wrap64 (x10_1 + 1))) else (none)) else (none)) else (none)) else (none)) else (if ((rd_T51 l0 x10_1).f1).toList = ([] : List UInt8) then (if ((rd_T51 l0 x10_1).f0).size + ((rd_T51 l0 x10_1).f1).size ≤ 9223372036854775807 then (if x4_1.length < 8796093022208 then (control_List.l0 k1 (x4_1 ++ [((rd_T51 l0 x10_1).f0) ++ ((rd_T51 l0 x10_1).f1)]) l0 (l0.length : Int) (wrap64 (x10_1 + 1))) else (none)) else (none)) else (if 1 + ((rd_T51 l0 x10_1).f1).size ≤ 9223372036854775807 then (if ((rd_T51 l0 x10_1).f0).size + ((⟨#[61]⟩ : ByteArray) ++ ((rd_T51 l0 x10_1).f1)).size ≤ 9223372036854775807 then (if x4_1.length < 8796093022208 then (control_List.l0 k1 (x4_1 ++ [((rd_T51 l0 x10_1).f0) ++ ((⟨#[61]⟩ : ByteArray) ++ ((rd_T51 l0 x10_1).f1))]) l0 (l0.length : Int) (wrap64 (x10_1 + 1))) else (none)) else (none)) else (none))))) else (some ((⟨#[]⟩ : ByteArray), 21))) = some (r1, r2) := H
            have A5 := Aside0.mk A50
            clear A50
            by_cases c6 : t262 = true
            · subst c6
              have H1 : ((strings_ContainsAny.f ((rd_T51 l0 x10_1).f1) (⟨#[32, 44]⟩ : ByteArray)).bind fun t263 => (if t263 = true then (if 2 + ((rd_T51 l0 x10_1).f1).size ≤ 9223372036854775807 then (if ((⟨#[61, 34]⟩ : ByteArray) ++ ((rd_T51 l0 x10_1).f1)).size + 1 ≤ 9223372036854775807 then (if ((rd_T51 l0 x10_1).f0).size + (((⟨#[61, 34]⟩ : ByteArray) ++ ((rd_T51 l0 x10_1).f1)) ++ (⟨#[34]⟩ : ByteArray)).size ≤ 9223372036854775807 then (if x4_1.length < 8796093022208 then (control_List.l0 k1 (x4_1 ++ [((rd_T51 l0 x10_1).f0) ++ (((⟨#[61, 34]⟩ : ByteArray) ++ ((rd_T51 l0 x10_1).f1)) ++ (⟨#[34]⟩ : ByteArray))]) l0 (l0.length : Int) (wrap64 (x10_1 + 1))) else (none)) else (none)) else (none)) else (none)) else (if ((rd_T51 l0 x10_1).f1).toList = ([] : List UInt8) then (if ((rd_T51 l0 x10_1).f0).size + ((rd_T51 l0 x10_1).f1).size ≤ 9223372036854775807 then (if x4_1.length < 8796093022208 then (control_List.l0 k1 (x4_1 ++ [((rd_T51 l0 x10_1).f0) ++ ((rd_T51 l0 x10_1).f1)]) l0 (l0.length : Int) (wrap64 (x10_1 + 1))) else (none)) else (none)) else (if 1 + ((rd_T51 l0 x10_1).f1).size ≤ 9223372036854775807 then (if ((rd_T51 l0 x10_1).f0).size + ((⟨#[61]⟩ : ByteArray) ++ ((rd_T51 l0 x10_1).f1)).size ≤ 9223372036854775807 then (if x4_1.length < 8796093022208 then (control_List.l0 k1 (x4_1 ++ [((rd_T51 l0 x10_1).f0) ++ ((⟨#[61]⟩ : ByteArray) ++ ((rd_T51 l0 x10_1).f1))]) l0 (l0.length : Int) (wrap64 (x10_1 + 1))) else (none)) else (none)) else (none))))) = some (r1, r2) := by rw [if_pos rfl] at H; exact H
              clear H
              have H := H1
              clear H1
              replace H := Option.bind_eq_some_iff.mp H
              obtain ⟨t263, A70, H⟩ := H
              replace H : (if t263 = true then (if 2 + ((rd_T51 l0 x10_1).f1).size ≤ 9223372036854775807 then (if ((⟨#[61, 34]⟩ : ByteArray) ++ ((rd_T51 l0 x10_1).f1)).size + 1 ≤ 9223372036854775807 then (if ((rd_T51 l0 x10_1).f0).size + (((⟨#[61, 34]⟩ : ByteArray) ++ ((rd_T51 l0 x10_1).f1)) ++ (⟨#[34]⟩ : ByteArray)).size ≤ 9223372036854775807 then (if x4_1.length < 8796093022208 then (control_List.l0 k1 (x4_1 ++ [((rd_T51 l0 x10_1).f0) ++ (((⟨#[61, 34]⟩ : ByteArray) ++ ((rd_T51 l0 x10_1).f1)) ++ (⟨#[34]⟩ : ByteArray))]) l0 (l0.length : Int) (wrap64 (x10_1 + 1))) else (none)) else (none)) else (none)) else (none)) else (if ((rd_T51 l0 x10_1).f1).toList = ([] : List UInt8) then (if ((rd_T51 l0 x10_1).f0).size + ((rd_T51 l0 x10_1).f1).size ≤ 9223372036854775807 then (if x4_1.length < 8796093022208 then (control_List.l0 k1 (x4_1 ++ [((rd_T51 l0 x10_1).f0) ++ ((rd_T51 l0 x10_1).f1)]) l0 (l0.length : Int) (wrap64 (x10_1 + 1))) else (none)) else (none)) else (if 1 + ((rd_T51 l0 x10_1).f1).size ≤ 9223372036854775807 then (if ((rd_T51 l0 x10_1).f0).size + ((⟨#[61]⟩ : ByteArray) ++ ((rd_T51 l0 x10_1).f1)).size ≤ 9223372036854775807 then (if x4_1.length < 8796093022208 then (control_List.l0 k1 (x4_1 ++ [((rd_T51 l0 x10_1).f0) ++ ((⟨#[61]⟩ : ByteArray) ++ ((rd_T51 l0 x10_1).f1))]) l0 (l0.length : Int) (wrap64 (x10_1 + 1))) else (none)) else (none)) else (none)))) = some (r1, r2) := H
              have A7 := Aside0.mk A70
              clear A70
              by_cases c8 : t263 = true
              · subst c8
                have H1 : (if 2 + ((rd_T51 l0 x10_1).f1).size ≤ 9223372036854775807 then (if ((⟨#[61, 34]⟩ : ByteArray) ++ ((rd_T51 l0 x10_1).f1)).size + 1 ≤ 9223372036854775807 then (if ((rd_T51 l0 x10_1).f0).size + (((⟨#[61, 34]⟩ : ByteArray) ++ ((rd_T51 l0 x10_1).f1)) ++ (⟨#[34]⟩ : ByteArray)).size ≤ 9223372036854775807 then (if x4_1.length < 8796093022208 then (control_List.l0 k1 (x4_1 ++ [((rd_T51 l0 x10_1).f0) ++ (((⟨#[61, 34]⟩ : ByteArray) ++ ((rd_T51 l0 x10_1).f1)) ++ (⟨#[34]⟩ : ByteArray))]) l0 (l0.length : Int) (wrap64 (x10_1 + 1))) else (none)) else (none)) else (none)) else (none)) = some (r1, r2) := by rw [if_pos rfl] at H; exact H
                clear H
                have H := H1
                clear H1
                by_cases c9 : 2 + ((rd_T51 l0 x10_1).f1).size ≤ 9223372036854775807
                · rw [if_pos c9] at H
                  have c9b0 := eq_true c9
                  have c9b1 : decide (2 + ((rd_T51 l0 x10_1).f1).size ≤ 9223372036854775807) = true := decide_eq_true c9
                  try have c9b2 : (9223372036854775807 < 2 + ((rd_T51 l0 x10_1).f1).size) = False := eq_false (Nat.not_lt.2 c9)
                  by_cases c10 : ((⟨#[61, 34]⟩ : ByteArray) ++ ((rd_T51 l0 x10_1).f1)).size + 1 ≤ 9223372036854775807
                  · rw [if_pos c10] at H
                    have c10b0 := eq_true c10
                    have c10b1 : decide (((⟨#[61, 34]⟩ : ByteArray) ++ ((rd_T51 l0 x10_1).f1)).size + 1 ≤ 9223372036854775807) = true := decide_eq_true c10
                    try have c10b2 : (9223372036854775807 < ((⟨#[61, 34]⟩ : ByteArray) ++ ((rd_T51 l0 x10_1).f1)).size + 1) = False := eq_false (Nat.not_lt.2 c10)
                    try (have c10b9 := c10; simp [go_sem] at c10b9)
                    by_cases c11 : ((rd_T51 l0 x10_1).f0).size + (((⟨#[61, 34]⟩ : ByteArray) ++ ((rd_T51 l0 x10_1).f1)) ++ (⟨#[34]⟩ : ByteArray)).size ≤ 9223372036854775807
                    · rw [if_pos c11] at H
                      have c11b0 := eq_true c11
                      have c11b1 : decide (((rd_T51 l0 x10_1).f0).size + (((⟨#[61, 34]⟩ : ByteArray) ++ ((rd_T51 l0 x10_1).f1)) ++ (⟨#[34]⟩ : ByteArray)).size ≤ 9223372036854775807) = true := decide_eq_true c11
                      try have c11b2 : (9223372036854775807 < ((rd_T51 l0 x10_1).f0).size + (((⟨#[61, 34]⟩ : ByteArray) ++ ((rd_T51 l0 x10_1).f1)) ++ (⟨#[34]⟩ : ByteArray)).size) = False := eq_false (Nat.not_lt.2 c11)
                      try (have c11b9 := c11; simp [go_sem] at c11b9)
                      by_cases c12 : x4_1.length < 8796093022208
                      · rw [if_pos c12] at H
                        have LMc12 := Aside0.mk c12
                        clear c12
                        obtain ⟨y264, hy264⟩ : ∃ y_ : List ByteArray, y_ = (x4_1 ++ [((rd_T51 l0 x10_1).f0) ++ (((⟨#[61, 34]⟩ : ByteArray) ++ ((rd_T51 l0 x10_1).f1)) ++ (⟨#[34]⟩ : ByteArray))]) := ⟨_, rfl⟩
                        replace H : (control_List.l0 k1 y264 l0 (l0.length : Int) (wrap64 (x10_1 + 1))) = some (r1, r2) := by first | (rw [hy264]; with_reducible exact H) | (have H2_ := (Option.bind_some _ _).symm.trans H; rw [hy264]; with_reducible exact H2_) | (have H2_ := (Option.bind_some _ _).symm.trans H; with_reducible exact H2_) | with_reducible exact H | (rw [hy264]; exact H) | exact H
                        have Ny264 := Aside0.mk hy264
                        clear hy264
                        have H' := Aside0.mk H
                        clear H
                        have p260 : 0 ≤ (x10_1 : Int) := of_decide_eq_true (by first | (with_reducible assumption) | assumption)
                        have q260 : x10_1 < (l0.length : Int) := of_decide_eq_true (by first | (with_reducible assumption) | assumption)
                        obtain ⟨ad260, e260, hx260_0, hx260_1⟩ := at_T51 HR0.out x10_1 p260 q260
                        cases e260
                        replace hx260_0 := (HB.out.cell (World.block_lt_of_cell? w _ hx260_0)).trans hx260_0
                        replace hx260_1 := (HB.out.cell (World.block_lt_of_cell? w _ hx260_1)).trans hx260_1
                        replace p260 := eq_true p260
                        replace q260 := eq_true q260
                        go_wp2_with (first | ((with_reducible refine gate_dst (N := 6) rfl ?_); refine box_event ?hg (N := 6) ?hd (cs := #[.string (⟨#[]⟩ : ByteArray), .string (⟨#[]⟩ : ByteArray)]) (t := 51) ?hr ?_; (case hd => rfl); (case hg => rfl); (case hr => first | (go_simp; done) | (go_simp; rfl)); intro gb261 hg w13 hbox hb; have n0_ := Aside0.mk (Kd.R_below (by (with_reducible repeat (first | apply Kd.R_alloc | apply Kd.R_drewN | apply Kd.R_drew)); exact HO_4.out) hb); have n1_ := Aside0.mk (below_step (by repeat (first | (with_reducible first | exact HB.out | apply below_alloc | apply pw_below_drewN | apply below_drew1) | exact HB.out)) hb); have n2_ := Aside0.mk (hbox); have n3_ := Aside0.mk ((by rw [hg]; exact (below_size (by repeat (first | (with_reducible first | exact HB.out | apply below_alloc | apply pw_below_drewN | apply below_drew1) | exact HB.out))) : w.heap.size ≤ gb261)); have n4_ := Aside0.mk ((by rw [hg]; exact (below_size (by repeat (first | (with_reducible first | exact HB.out | apply below_alloc | apply pw_below_drewN | apply below_drew1) | exact HB.out))) : w.heap.size ≤ gb261)); clear HO_4; clear HB; have HO_4 := n0_; have HB := n1_; have BK261 := n2_; have GW261 := n3_; have GE261 := n4_; clear n0_ n1_ n2_ n3_ n4_; clear hb hbox hg; have hcz14_0 : w13.cell? ⟨gb261, 0, none⟩ = some (.string (⟨#[]⟩ : ByteArray)) := (blk_cell BK261.out 0).trans rfl; have hcz14_1 : w13.cell? ⟨gb261, 1, none⟩ = some (.string (⟨#[]⟩ : ByteArray)) := (blk_cell BK261.out 1).trans rfl; have hfz14_0 := blk_frozen BK261.out 0; have hfz14_1 := blk_frozen BK261.out 1) | ((with_reducible refine gate_callee (f := 24) rfl ?_); refine goesL_ (some 18) rfl rfl Tryd.func24 (by kernel_rfl) rfl #[.agg #[.string ((rd_T51 l0 x10_1).f0), .string ((rd_T51 l0 x10_1).f1)]] rfl (by (try simp only [List.map_toArray, List.map_cons, List.map_nil]); first | done | rfl | (simp only [List.length_drop, List.length_take]; rfl)) ?_; (with_reducible refine (control_Good.calls ((rd_T51 l0 x10_1).f0) ((rd_T51 l0 x10_1).f1) true _ A5.out).mono ?_); rintro e w15 ⟨rfl, hb⟩; refine ⟨_, rfl, ?_⟩; have n0_ := Aside0.mk (Kd.R_below (by (with_reducible repeat (first | apply Kd.R_alloc | apply Kd.R_drewN | apply Kd.R_drew)); exact (Kd.R_mono (Kd.R_far (p := ⟨gb261, 1, none⟩) (Kd.R_far (p := ⟨gb261, 0, none⟩) (Kd.R_types HO_4.out BK261.out (by decide)) (fun _ hk => hk.2) (.string ((rd_T51 l0 x10_1).f0))) (fun _ hk => hk.2) (.string ((rd_T51 l0 x10_1).f1))) (fun _ h_ => h_.1))) hb); have n1_ := Aside0.mk (blk_below (g := gb261) (o := .cells #[.string ((rd_T51 l0 x10_1).f0), .string ((rd_T51 l0 x10_1).f1)] 51 (0, 0)) (by (with_reducible repeat (first | refine blk_drewN ?_ _ | refine blk_drew ?_ | refine blk_alloc ?_ _)); refine blk_put (cs := #[.string ((rd_T51 l0 x10_1).f0), .string (⟨#[]⟩ : ByteArray)]) ?_ 1 _ rfl; (with_reducible repeat (first | refine blk_drewN ?_ _ | refine blk_drew ?_ | refine blk_alloc ?_ _)); refine blk_put (cs := #[.string (⟨#[]⟩ : ByteArray), .string (⟨#[]⟩ : ByteArray)]) ?_ 0 _ rfl; (with_reducible repeat (first | refine blk_drewN ?_ _ | refine blk_drew ?_ | refine blk_alloc ?_ _)); exact BK261.out) hb); have n2_ := Aside0.mk (below_step (by repeat (first | (with_reducible first | exact HB.out | apply below_alloc | apply pw_below_drewN | apply below_drew1 | refine below_set ?_ GE261.out) | exact HB.out)) hb); clear HO_4; clear BK261; clear HB; have HO_4 := n0_; have BK261 := n1_; have HB := n2_; clear n0_ n1_ n2_; (try clear hb); (try clear hb2); (try clear hk); (try clear hi)) | ((with_reducible refine gate_callee (f := 25) rfl ?_); refine goesL_ (some 22) rfl rfl Tryd.func25 (by kernel_rfl) rfl #[.string ((rd_T51 l0 x10_1).f1), .string (⟨#[32, 44]⟩ : ByteArray)] rfl (by (try simp only [List.map_toArray, List.map_cons, List.map_nil]); first | done | rfl | (simp only [List.length_drop, List.length_take]; rfl)) ?_; (with_reducible refine (strings_ContainsAny.calls ((rd_T51 l0 x10_1).f1) (⟨#[32, 44]⟩ : ByteArray) true _ A7.out).mono ?_); rintro e w16 ⟨rfl, hb⟩; refine ⟨_, rfl, ?_⟩; have n0_ := Aside0.mk (Kd.R_below (by (with_reducible repeat (first | apply Kd.R_alloc | apply Kd.R_drewN | apply Kd.R_drew)); exact HO_4.out) hb); have n1_ := Aside0.mk (blk_below (g := gb261) (o := .cells #[.string ((rd_T51 l0 x10_1).f0), .string ((rd_T51 l0 x10_1).f1)] 51 (0, 0)) (by (with_reducible repeat (first | refine blk_drewN ?_ _ | refine blk_drew ?_ | refine blk_alloc ?_ _)); exact BK261.out) hb); have n2_ := Aside0.mk (below_step (by repeat (first | (with_reducible first | exact HB.out | apply below_alloc | apply pw_below_drewN | apply below_drew1 | refine below_set ?_ GE261.out) | exact HB.out)) hb); clear HO_4; clear BK261; clear HB; have HO_4 := n0_; have BK261 := n1_; have HB := n2_; clear n0_ n1_ n2_; (try clear hb); (try clear hb2); (try clear hk); (try clear hi); have hcz17_0 : w16.cell? ⟨gb261, 0, none⟩ = some (.string ((rd_T51 l0 x10_1).f0)) := (blk_cell BK261.out 0).trans rfl; have hcz17_1 : w16.cell? ⟨gb261, 1, none⟩ = some (.string ((rd_T51 l0 x10_1).f1)) := (blk_cell BK261.out 1).trans rfl; have hfz17_0 := blk_frozen BK261.out 0; have hfz17_1 := blk_frozen BK261.out 1) | ((with_reducible refine gate_builtin (b := .append) (xs := #[.tmp 31, .tmp 36]) rfl ?_); at_builtin; refine Kd.R_append Kd.string (w0 := w) w.heap.size rfl (.tmp 31) (.tmp 36) 59 9 (.string ⟨#[]⟩) 16 rfl Tryd.underlying59 info9 rfl (by decide) (by omega) u4 x4_1 (((rd_T51 l0 x10_1).f0) ++ (((⟨#[61, 34]⟩ : ByteArray) ++ ((rd_T51 l0 x10_1).f1)) ++ (⟨#[34]⟩ : ByteArray))) [.string (((rd_T51 l0 x10_1).f0) ++ (((⟨#[61, 34]⟩ : ByteArray) ++ ((rd_T51 l0 x10_1).f1)) ++ (⟨#[34]⟩ : ByteArray)))] (fun _ => True) (fun _ => False) rfl rfl ?aP (fun _ hk => hk.elim) ?aF ?aO ?aB ?aS ?aL ?_; (case aP => exact rfl); (case aB => exact (by repeat (first | (with_reducible first | exact HB.out | apply below_alloc | apply pw_below_drewN | apply below_drew1 | refine below_set ?_ GE261.out) | exact HB.out))); (case aF => exact (fun _ _ => trivial)); (case aO => exact (by (with_reducible repeat (first | apply Kd.R_alloc | apply Kd.R_drewN | apply Kd.R_drew)); exact HO_4.out)); (case aS => exact (below_size (by repeat (first | (with_reducible first | exact HB.out | apply below_alloc | apply pw_below_drewN | apply below_drew1 | refine below_set ?_ GE261.out) | exact HB.out)))); (case aL => have := LMc12.out; omega); intro v265 w18 ho hb hg hat; rw [← Ny264.out] at ho; have n0_ := Aside0.mk (blk_grown (g := gb261) (o := .cells #[.string ((rd_T51 l0 x10_1).f0), .string ((rd_T51 l0 x10_1).f1)] 51 (0, 0)) (by (with_reducible repeat (first | refine blk_drewN ?_ _ | refine blk_drew ?_ | refine blk_alloc ?_ _)); exact BK261.out) hg (Kd.R_ne HO_4.out BK261.out (by decide))); have n1_ := Aside0.mk (hb); have n2_ := Aside0.mk (ho); clear BK261; clear HB; clear HO_4; have BK261 := n0_; have HB := n1_; have HO266 := n2_; clear n0_ n1_ n2_; clear ho hb hg hat))
                        go_roundg k1
                        case measure => have := HK1.out; omega
                        case rel => exact ⟨(y264), (wrap64 (x10_1 + 1)), (by first | rfl | (simp; done) | (simp [*]; done)), H', ⟨by have := HK1.out; omega⟩, ⟨by (with_reducible repeat (first | apply Kd.R_alloc | apply Kd.R_drewN | apply Kd.R_drew)); exact HO266.out⟩, ⟨by repeat (first | (with_reducible first | exact HB.out | apply below_alloc | apply pw_below_drewN | apply below_drew1 | refine below_set ?_ GE261.out) | exact HB.out)⟩⟩
                      · rw [if_neg c12] at H
                        exact absurd H (by simp)
                    · rw [if_neg c11] at H
                      exact absurd H (by simp)
                  · rw [if_neg c10] at H
                    exact absurd H (by simp)
                · rw [if_neg c9] at H
                  exact absurd H (by simp)
              · replace c8 := Bool.eq_false_iff.mpr c8
                subst c8
                have H1 : (if ((rd_T51 l0 x10_1).f1).toList = ([] : List UInt8) then (if ((rd_T51 l0 x10_1).f0).size + ((rd_T51 l0 x10_1).f1).size ≤ 9223372036854775807 then (if x4_1.length < 8796093022208 then (control_List.l0 k1 (x4_1 ++ [((rd_T51 l0 x10_1).f0) ++ ((rd_T51 l0 x10_1).f1)]) l0 (l0.length : Int) (wrap64 (x10_1 + 1))) else (none)) else (none)) else (if 1 + ((rd_T51 l0 x10_1).f1).size ≤ 9223372036854775807 then (if ((rd_T51 l0 x10_1).f0).size + ((⟨#[61]⟩ : ByteArray) ++ ((rd_T51 l0 x10_1).f1)).size ≤ 9223372036854775807 then (if x4_1.length < 8796093022208 then (control_List.l0 k1 (x4_1 ++ [((rd_T51 l0 x10_1).f0) ++ ((⟨#[61]⟩ : ByteArray) ++ ((rd_T51 l0 x10_1).f1))]) l0 (l0.length : Int) (wrap64 (x10_1 + 1))) else (none)) else (none)) else (none))) = some (r1, r2) := by rw [if_neg (show ¬ (false = true) by decide)] at H; exact H
                clear H
                have H := H1
                clear H1
                by_cases c19 : ((rd_T51 l0 x10_1).f1).toList = ([] : List UInt8)
                · rw [if_pos c19] at H
                  have c19b0 : (((rd_T51 l0 x10_1).f1).toList == ([] : List UInt8)) = true := beq_iff_eq.mpr c19
                  have c19b1 : (((rd_T51 l0 x10_1).f1).toList != ([] : List UInt8)) = false := bne_eq_false_iff_eq.mpr c19
                  clear c19
                  by_cases c20 : ((rd_T51 l0 x10_1).f0).size + ((rd_T51 l0 x10_1).f1).size ≤ 9223372036854775807
                  · rw [if_pos c20] at H
                    have c20b0 := eq_true c20
                    have c20b1 : decide (((rd_T51 l0 x10_1).f0).size + ((rd_T51 l0 x10_1).f1).size ≤ 9223372036854775807) = true := decide_eq_true c20
                    try have c20b2 : (9223372036854775807 < ((rd_T51 l0 x10_1).f0).size + ((rd_T51 l0 x10_1).f1).size) = False := eq_false (Nat.not_lt.2 c20)
                    by_cases c21 : x4_1.length < 8796093022208
                    · rw [if_pos c21] at H
                      have LMc21 := Aside0.mk c21
                      clear c21
                      obtain ⟨y267, hy267⟩ : ∃ y_ : List ByteArray, y_ = (x4_1 ++ [((rd_T51 l0 x10_1).f0) ++ ((rd_T51 l0 x10_1).f1)]) := ⟨_, rfl⟩
                      replace H : (control_List.l0 k1 y267 l0 (l0.length : Int) (wrap64 (x10_1 + 1))) = some (r1, r2) := by first | (rw [hy267]; with_reducible exact H) | (have H2_ := (Option.bind_some _ _).symm.trans H; rw [hy267]; with_reducible exact H2_) | (have H2_ := (Option.bind_some _ _).symm.trans H; with_reducible exact H2_) | with_reducible exact H | (rw [hy267]; exact H) | exact H
                      have Ny267 := Aside0.mk hy267
                      clear hy267
                      have H' := Aside0.mk H
                      clear H
                      have p260 : 0 ≤ (x10_1 : Int) := of_decide_eq_true (by first | (with_reducible assumption) | assumption)
                      have q260 : x10_1 < (l0.length : Int) := of_decide_eq_true (by first | (with_reducible assumption) | assumption)
                      obtain ⟨ad260, e260, hx260_0, hx260_1⟩ := at_T51 HR0.out x10_1 p260 q260
                      cases e260
                      replace hx260_0 := (HB.out.cell (World.block_lt_of_cell? w _ hx260_0)).trans hx260_0
                      replace hx260_1 := (HB.out.cell (World.block_lt_of_cell? w _ hx260_1)).trans hx260_1
                      replace p260 := eq_true p260
                      replace q260 := eq_true q260
                      go_wp2_with (first | ((with_reducible refine gate_dst (N := 6) rfl ?_); refine box_event ?hg (N := 6) ?hd (cs := #[.string (⟨#[]⟩ : ByteArray), .string (⟨#[]⟩ : ByteArray)]) (t := 51) ?hr ?_; (case hd => rfl); (case hg => rfl); (case hr => first | (go_simp; done) | (go_simp; rfl)); intro gb261 hg w22 hbox hb; have n0_ := Aside0.mk (Kd.R_below (by (with_reducible repeat (first | apply Kd.R_alloc | apply Kd.R_drewN | apply Kd.R_drew)); exact HO_4.out) hb); have n1_ := Aside0.mk (below_step (by repeat (first | (with_reducible first | exact HB.out | apply below_alloc | apply pw_below_drewN | apply below_drew1) | exact HB.out)) hb); have n2_ := Aside0.mk (hbox); have n3_ := Aside0.mk ((by rw [hg]; exact (below_size (by repeat (first | (with_reducible first | exact HB.out | apply below_alloc | apply pw_below_drewN | apply below_drew1) | exact HB.out))) : w.heap.size ≤ gb261)); have n4_ := Aside0.mk ((by rw [hg]; exact (below_size (by repeat (first | (with_reducible first | exact HB.out | apply below_alloc | apply pw_below_drewN | apply below_drew1) | exact HB.out))) : w.heap.size ≤ gb261)); clear HO_4; clear HB; have HO_4 := n0_; have HB := n1_; have BK261 := n2_; have GW261 := n3_; have GE261 := n4_; clear n0_ n1_ n2_ n3_ n4_; clear hb hbox hg; have hcz23_0 : w22.cell? ⟨gb261, 0, none⟩ = some (.string (⟨#[]⟩ : ByteArray)) := (blk_cell BK261.out 0).trans rfl; have hcz23_1 : w22.cell? ⟨gb261, 1, none⟩ = some (.string (⟨#[]⟩ : ByteArray)) := (blk_cell BK261.out 1).trans rfl; have hfz23_0 := blk_frozen BK261.out 0; have hfz23_1 := blk_frozen BK261.out 1) | ((with_reducible refine gate_callee (f := 24) rfl ?_); refine goesL_ (some 18) rfl rfl Tryd.func24 (by kernel_rfl) rfl #[.agg #[.string ((rd_T51 l0 x10_1).f0), .string ((rd_T51 l0 x10_1).f1)]] rfl (by (try simp only [List.map_toArray, List.map_cons, List.map_nil]); first | done | rfl | (simp only [List.length_drop, List.length_take]; rfl)) ?_; (with_reducible refine (control_Good.calls ((rd_T51 l0 x10_1).f0) ((rd_T51 l0 x10_1).f1) true _ A5.out).mono ?_); rintro e w24 ⟨rfl, hb⟩; refine ⟨_, rfl, ?_⟩; have n0_ := Aside0.mk (Kd.R_below (by (with_reducible repeat (first | apply Kd.R_alloc | apply Kd.R_drewN | apply Kd.R_drew)); exact (Kd.R_mono (Kd.R_far (p := ⟨gb261, 1, none⟩) (Kd.R_far (p := ⟨gb261, 0, none⟩) (Kd.R_types HO_4.out BK261.out (by decide)) (fun _ hk => hk.2) (.string ((rd_T51 l0 x10_1).f0))) (fun _ hk => hk.2) (.string ((rd_T51 l0 x10_1).f1))) (fun _ h_ => h_.1))) hb); have n1_ := Aside0.mk (blk_below (g := gb261) (o := .cells #[.string ((rd_T51 l0 x10_1).f0), .string ((rd_T51 l0 x10_1).f1)] 51 (0, 0)) (by (with_reducible repeat (first | refine blk_drewN ?_ _ | refine blk_drew ?_ | refine blk_alloc ?_ _)); refine blk_put (cs := #[.string ((rd_T51 l0 x10_1).f0), .string (⟨#[]⟩ : ByteArray)]) ?_ 1 _ rfl; (with_reducible repeat (first | refine blk_drewN ?_ _ | refine blk_drew ?_ | refine blk_alloc ?_ _)); refine blk_put (cs := #[.string (⟨#[]⟩ : ByteArray), .string (⟨#[]⟩ : ByteArray)]) ?_ 0 _ rfl; (with_reducible repeat (first | refine blk_drewN ?_ _ | refine blk_drew ?_ | refine blk_alloc ?_ _)); exact BK261.out) hb); have n2_ := Aside0.mk (below_step (by repeat (first | (with_reducible first | exact HB.out | apply below_alloc | apply pw_below_drewN | apply below_drew1 | refine below_set ?_ GE261.out) | exact HB.out)) hb); clear HO_4; clear BK261; clear HB; have HO_4 := n0_; have BK261 := n1_; have HB := n2_; clear n0_ n1_ n2_; (try clear hb); (try clear hb2); (try clear hk); (try clear hi)) | ((with_reducible refine gate_callee (f := 25) rfl ?_); refine goesL_ (some 22) rfl rfl Tryd.func25 (by kernel_rfl) rfl #[.string ((rd_T51 l0 x10_1).f1), .string (⟨#[32, 44]⟩ : ByteArray)] rfl (by (try simp only [List.map_toArray, List.map_cons, List.map_nil]); first | done | rfl | (simp only [List.length_drop, List.length_take]; rfl)) ?_; (with_reducible refine (strings_ContainsAny.calls ((rd_T51 l0 x10_1).f1) (⟨#[32, 44]⟩ : ByteArray) false _ A7.out).mono ?_); rintro e w25 ⟨rfl, hb⟩; refine ⟨_, rfl, ?_⟩; have n0_ := Aside0.mk (Kd.R_below (by (with_reducible repeat (first | apply Kd.R_alloc | apply Kd.R_drewN | apply Kd.R_drew)); exact HO_4.out) hb); have n1_ := Aside0.mk (blk_below (g := gb261) (o := .cells #[.string ((rd_T51 l0 x10_1).f0), .string ((rd_T51 l0 x10_1).f1)] 51 (0, 0)) (by (with_reducible repeat (first | refine blk_drewN ?_ _ | refine blk_drew ?_ | refine blk_alloc ?_ _)); exact BK261.out) hb); have n2_ := Aside0.mk (below_step (by repeat (first | (with_reducible first | exact HB.out | apply below_alloc | apply pw_below_drewN | apply below_drew1 | refine below_set ?_ GE261.out) | exact HB.out)) hb); clear HO_4; clear BK261; clear HB; have HO_4 := n0_; have BK261 := n1_; have HB := n2_; clear n0_ n1_ n2_; (try clear hb); (try clear hb2); (try clear hk); (try clear hi); have hcz26_0 : w25.cell? ⟨gb261, 0, none⟩ = some (.string ((rd_T51 l0 x10_1).f0)) := (blk_cell BK261.out 0).trans rfl; have hcz26_1 : w25.cell? ⟨gb261, 1, none⟩ = some (.string ((rd_T51 l0 x10_1).f1)) := (blk_cell BK261.out 1).trans rfl; have hfz26_0 := blk_frozen BK261.out 0; have hfz26_1 := blk_frozen BK261.out 1) | ((with_reducible refine gate_builtin (b := .append) (xs := #[.tmp 31, .tmp 36]) rfl ?_); at_builtin; refine Kd.R_append Kd.string (w0 := w) w.heap.size rfl (.tmp 31) (.tmp 36) 59 9 (.string ⟨#[]⟩) 16 rfl Tryd.underlying59 info9 rfl (by decide) (by omega) u4 x4_1 (((rd_T51 l0 x10_1).f0) ++ ((rd_T51 l0 x10_1).f1)) [.string (((rd_T51 l0 x10_1).f0) ++ ((rd_T51 l0 x10_1).f1))] (fun _ => True) (fun _ => False) rfl rfl ?aP (fun _ hk => hk.elim) ?aF ?aO ?aB ?aS ?aL ?_; (case aP => exact rfl); (case aB => exact (by repeat (first | (with_reducible first | exact HB.out | apply below_alloc | apply pw_below_drewN | apply below_drew1 | refine below_set ?_ GE261.out) | exact HB.out))); (case aF => exact (fun _ _ => trivial)); (case aO => exact (by (with_reducible repeat (first | apply Kd.R_alloc | apply Kd.R_drewN | apply Kd.R_drew)); exact HO_4.out)); (case aS => exact (below_size (by repeat (first | (with_reducible first | exact HB.out | apply below_alloc | apply pw_below_drewN | apply below_drew1 | refine below_set ?_ GE261.out) | exact HB.out)))); (case aL => have := LMc21.out; omega); intro v268 w27 ho hb hg hat; rw [← Ny267.out] at ho; have n0_ := Aside0.mk (blk_grown (g := gb261) (o := .cells #[.string ((rd_T51 l0 x10_1).f0), .string ((rd_T51 l0 x10_1).f1)] 51 (0, 0)) (by (with_reducible repeat (first | refine blk_drewN ?_ _ | refine blk_drew ?_ | refine blk_alloc ?_ _)); exact BK261.out) hg (Kd.R_ne HO_4.out BK261.out (by decide))); have n1_ := Aside0.mk (hb); have n2_ := Aside0.mk (ho); clear BK261; clear HB; clear HO_4; have BK261 := n0_; have HB := n1_; have HO269 := n2_; clear n0_ n1_ n2_; clear ho hb hg hat))
                      go_roundg k1
                      case measure => have := HK1.out; omega
                      case rel => exact ⟨(y267), (wrap64 (x10_1 + 1)), (by first | rfl | (simp; done) | (simp [*]; done)), H', ⟨by have := HK1.out; omega⟩, ⟨by (with_reducible repeat (first | apply Kd.R_alloc | apply Kd.R_drewN | apply Kd.R_drew)); exact HO269.out⟩, ⟨by repeat (first | (with_reducible first | exact HB.out | apply below_alloc | apply pw_below_drewN | apply below_drew1 | refine below_set ?_ GE261.out) | exact HB.out)⟩⟩
                    · rw [if_neg c21] at H
                      exact absurd H (by simp)
                  · rw [if_neg c20] at H
                    exact absurd H (by simp)
                · rw [if_neg c19] at H
                  have c19b0 : (((rd_T51 l0 x10_1).f1).toList == ([] : List UInt8)) = false := beq_eq_false_iff_ne.mpr c19
                  have c19b1 : (((rd_T51 l0 x10_1).f1).toList != ([] : List UInt8)) = true := bne_iff_ne.mpr c19
                  by_cases c28 : 1 + ((rd_T51 l0 x10_1).f1).size ≤ 9223372036854775807
                  · rw [if_pos c28] at H
                    have c28b0 := eq_true c28
                    have c28b1 : decide (1 + ((rd_T51 l0 x10_1).f1).size ≤ 9223372036854775807) = true := decide_eq_true c28
                    try have c28b2 : (9223372036854775807 < 1 + ((rd_T51 l0 x10_1).f1).size) = False := eq_false (Nat.not_lt.2 c28)
                    by_cases c29 : ((rd_T51 l0 x10_1).f0).size + ((⟨#[61]⟩ : ByteArray) ++ ((rd_T51 l0 x10_1).f1)).size ≤ 9223372036854775807
                    · rw [if_pos c29] at H
                      have c29b0 := eq_true c29
                      have c29b1 : decide (((rd_T51 l0 x10_1).f0).size + ((⟨#[61]⟩ : ByteArray) ++ ((rd_T51 l0 x10_1).f1)).size ≤ 9223372036854775807) = true := decide_eq_true c29
                      try have c29b2 : (9223372036854775807 < ((rd_T51 l0 x10_1).f0).size + ((⟨#[61]⟩ : ByteArray) ++ ((rd_T51 l0 x10_1).f1)).size) = False := eq_false (Nat.not_lt.2 c29)
                      try (have c29b9 := c29; simp [go_sem] at c29b9)
                      by_cases c30 : x4_1.length < 8796093022208
                      · rw [if_pos c30] at H
                        have LMc30 := Aside0.mk c30
                        clear c30
                        obtain ⟨y270, hy270⟩ : ∃ y_ : List ByteArray, y_ = (x4_1 ++ [((rd_T51 l0 x10_1).f0) ++ ((⟨#[61]⟩ : ByteArray) ++ ((rd_T51 l0 x10_1).f1))]) := ⟨_, rfl⟩
                        replace H : (control_List.l0 k1 y270 l0 (l0.length : Int) (wrap64 (x10_1 + 1))) = some (r1, r2) := by first | (rw [hy270]; with_reducible exact H) | (have H2_ := (Option.bind_some _ _).symm.trans H; rw [hy270]; with_reducible exact H2_) | (have H2_ := (Option.bind_some _ _).symm.trans H; with_reducible exact H2_) | with_reducible exact H | (rw [hy270]; exact H) | exact H
                        have Ny270 := Aside0.mk hy270
                        clear hy270
                        have H' := Aside0.mk H
                        clear H
                        have p260 : 0 ≤ (x10_1 : Int) := of_decide_eq_true (by first | (with_reducible assumption) | assumption)
                        have q260 : x10_1 < (l0.length : Int) := of_decide_eq_true (by first | (with_reducible assumption) | assumption)
                        obtain ⟨ad260, e260, hx260_0, hx260_1⟩ := at_T51 HR0.out x10_1 p260 q260
                        cases e260
                        replace hx260_0 := (HB.out.cell (World.block_lt_of_cell? w _ hx260_0)).trans hx260_0
                        replace hx260_1 := (HB.out.cell (World.block_lt_of_cell? w _ hx260_1)).trans hx260_1
                        replace p260 := eq_true p260
                        replace q260 := eq_true q260
                        go_wp2_with (first | ((with_reducible refine gate_dst (N := 6) rfl ?_); refine box_event ?hg (N := 6) ?hd (cs := #[.string (⟨#[]⟩ : ByteArray), .string (⟨#[]⟩ : ByteArray)]) (t := 51) ?hr ?_; (case hd => rfl); (case hg => rfl); (case hr => first | (go_simp; done) | (go_simp; rfl)); intro gb261 hg w31 hbox hb; have n0_ := Aside0.mk (Kd.R_below (by (with_reducible repeat (first | apply Kd.R_alloc | apply Kd.R_drewN | apply Kd.R_drew)); exact HO_4.out) hb); have n1_ := Aside0.mk (below_step (by repeat (first | (with_reducible first | exact HB.out | apply below_alloc | apply pw_below_drewN | apply below_drew1) | exact HB.out)) hb); have n2_ := Aside0.mk (hbox); have n3_ := Aside0.mk ((by rw [hg]; exact (below_size (by repeat (first | (with_reducible first | exact HB.out | apply below_alloc | apply pw_below_drewN | apply below_drew1) | exact HB.out))) : w.heap.size ≤ gb261)); have n4_ := Aside0.mk ((by rw [hg]; exact (below_size (by repeat (first | (with_reducible first | exact HB.out | apply below_alloc | apply pw_below_drewN | apply below_drew1) | exact HB.out))) : w.heap.size ≤ gb261)); clear HO_4; clear HB; have HO_4 := n0_; have HB := n1_; have BK261 := n2_; have GW261 := n3_; have GE261 := n4_; clear n0_ n1_ n2_ n3_ n4_; clear hb hbox hg; have hcz32_0 : w31.cell? ⟨gb261, 0, none⟩ = some (.string (⟨#[]⟩ : ByteArray)) := (blk_cell BK261.out 0).trans rfl; have hcz32_1 : w31.cell? ⟨gb261, 1, none⟩ = some (.string (⟨#[]⟩ : ByteArray)) := (blk_cell BK261.out 1).trans rfl; have hfz32_0 := blk_frozen BK261.out 0; have hfz32_1 := blk_frozen BK261.out 1) | ((with_reducible refine gate_callee (f := 24) rfl ?_); refine goesL_ (some 18) rfl rfl Tryd.func24 (by kernel_rfl) rfl #[.agg #[.string ((rd_T51 l0 x10_1).f0), .string ((rd_T51 l0 x10_1).f1)]] rfl (by (try simp only [List.map_toArray, List.map_cons, List.map_nil]); first | done | rfl | (simp only [List.length_drop, List.length_take]; rfl)) ?_; (with_reducible refine (control_Good.calls ((rd_T51 l0 x10_1).f0) ((rd_T51 l0 x10_1).f1) true _ A5.out).mono ?_); rintro e w33 ⟨rfl, hb⟩; refine ⟨_, rfl, ?_⟩; have n0_ := Aside0.mk (Kd.R_below (by (with_reducible repeat (first | apply Kd.R_alloc | apply Kd.R_drewN | apply Kd.R_drew)); exact (Kd.R_mono (Kd.R_far (p := ⟨gb261, 1, none⟩) (Kd.R_far (p := ⟨gb261, 0, none⟩) (Kd.R_types HO_4.out BK261.out (by decide)) (fun _ hk => hk.2) (.string ((rd_T51 l0 x10_1).f0))) (fun _ hk => hk.2) (.string ((rd_T51 l0 x10_1).f1))) (fun _ h_ => h_.1))) hb); have n1_ := Aside0.mk (blk_below (g := gb261) (o := .cells #[.string ((rd_T51 l0 x10_1).f0), .string ((rd_T51 l0 x10_1).f1)] 51 (0, 0)) (by (with_reducible repeat (first | refine blk_drewN ?_ _ | refine blk_drew ?_ | refine blk_alloc ?_ _)); refine blk_put (cs := #[.string ((rd_T51 l0 x10_1).f0), .string (⟨#[]⟩ : ByteArray)]) ?_ 1 _ rfl; (with_reducible repeat (first | refine blk_drewN ?_ _ | refine blk_drew ?_ | refine blk_alloc ?_ _)); refine blk_put (cs := #[.string (⟨#[]⟩ : ByteArray), .string (⟨#[]⟩ : ByteArray)]) ?_ 0 _ rfl; (with_reducible repeat (first | refine blk_drewN ?_ _ | refine blk_drew ?_ | refine blk_alloc ?_ _)); exact BK261.out) hb); have n2_ := Aside0.mk (below_step (by repeat (first | (with_reducible first | exact HB.out | apply below_alloc | apply pw_below_drewN | apply below_drew1 | refine below_set ?_ GE261.out) | exact HB.out)) hb); clear HO_4; clear BK261; clear HB; have HO_4 := n0_; have BK261 := n1_; have HB := n2_; clear n0_ n1_ n2_; (try clear hb); (try clear hb2); (try clear hk); (try clear hi)) | ((with_reducible refine gate_callee (f := 25) rfl ?_); refine goesL_ (some 22) rfl rfl Tryd.func25 (by kernel_rfl) rfl #[.string ((rd_T51 l0 x10_1).f1), .string (⟨#[32, 44]⟩ : ByteArray)] rfl (by (try simp only [List.map_toArray, List.map_cons, List.map_nil]); first | done | rfl | (simp only [List.length_drop, List.length_take]; rfl)) ?_; (with_reducible refine (strings_ContainsAny.calls ((rd_T51 l0 x10_1).f1) (⟨#[32, 44]⟩ : ByteArray) false _ A7.out).mono ?_); rintro e w34 ⟨rfl, hb⟩; refine ⟨_, rfl, ?_⟩; have n0_ := Aside0.mk (Kd.R_below (by (with_reducible repeat (first | apply Kd.R_alloc | apply Kd.R_drewN | apply Kd.R_drew)); exact HO_4.out) hb); have n1_ := Aside0.mk (blk_below (g := gb261) (o := .cells #[.string ((rd_T51 l0 x10_1).f0), .string ((rd_T51 l0 x10_1).f1)] 51 (0, 0)) (by (with_reducible repeat (first | refine blk_drewN ?_ _ | refine blk_drew ?_ | refine blk_alloc ?_ _)); exact BK261.out) hb); have n2_ := Aside0.mk (below_step (by repeat (first | (with_reducible first | exact HB.out | apply below_alloc | apply pw_below_drewN | apply below_drew1 | refine below_set ?_ GE261.out) | exact HB.out)) hb); clear HO_4; clear BK261; clear HB; have HO_4 := n0_; have BK261 := n1_; have HB := n2_; clear n0_ n1_ n2_; (try clear hb); (try clear hb2); (try clear hk); (try clear hi); have hcz35_0 : w34.cell? ⟨gb261, 0, none⟩ = some (.string ((rd_T51 l0 x10_1).f0)) := (blk_cell BK261.out 0).trans rfl; have hcz35_1 : w34.cell? ⟨gb261, 1, none⟩ = some (.string ((rd_T51 l0 x10_1).f1)) := (blk_cell BK261.out 1).trans rfl; have hfz35_0 := blk_frozen BK261.out 0; have hfz35_1 := blk_frozen BK261.out 1) | ((with_reducible refine gate_builtin (b := .append) (xs := #[.tmp 31, .tmp 36]) rfl ?_); at_builtin; refine Kd.R_append Kd.string (w0 := w) w.heap.size rfl (.tmp 31) (.tmp 36) 59 9 (.string ⟨#[]⟩) 16 rfl Tryd.underlying59 info9 rfl (by decide) (by omega) u4 x4_1 (((rd_T51 l0 x10_1).f0) ++ ((⟨#[61]⟩ : ByteArray) ++ ((rd_T51 l0 x10_1).f1))) [.string (((rd_T51 l0 x10_1).f0) ++ ((⟨#[61]⟩ : ByteArray) ++ ((rd_T51 l0 x10_1).f1)))] (fun _ => True) (fun _ => False) rfl rfl ?aP (fun _ hk => hk.elim) ?aF ?aO ?aB ?aS ?aL ?_; (case aP => exact rfl); (case aB => exact (by repeat (first | (with_reducible first | exact HB.out | apply below_alloc | apply pw_below_drewN | apply below_drew1 | refine below_set ?_ GE261.out) | exact HB.out))); (case aF => exact (fun _ _ => trivial)); (case aO => exact (by (with_reducible repeat (first | apply Kd.R_alloc | apply Kd.R_drewN | apply Kd.R_drew)); exact HO_4.out)); (case aS => exact (below_size (by repeat (first | (with_reducible first | exact HB.out | apply below_alloc | apply pw_below_drewN | apply below_drew1 | refine below_set ?_ GE261.out) | exact HB.out)))); (case aL => have := LMc30.out; omega); intro v271 w36 ho hb hg hat; rw [← Ny270.out] at ho; have n0_ := Aside0.mk (blk_grown (g := gb261) (o := .cells #[.string ((rd_T51 l0 x10_1).f0), .string ((rd_T51 l0 x10_1).f1)] 51 (0, 0)) (by (with_reducible repeat (first | refine blk_drewN ?_ _ | refine blk_drew ?_ | refine blk_alloc ?_ _)); exact BK261.out) hg (Kd.R_ne HO_4.out BK261.out (by decide))); have n1_ := Aside0.mk (hb); have n2_ := Aside0.mk (ho); clear BK261; clear HB; clear HO_4; have BK261 := n0_; have HB := n1_; have HO272 := n2_; clear n0_ n1_ n2_; clear ho hb hg hat))
                        go_roundg k1
                        case measure => have := HK1.out; omega
                        case rel => exact ⟨(y270), (wrap64 (x10_1 + 1)), (by first | rfl | (simp; done) | (simp [*]; done)), H', ⟨by have := HK1.out; omega⟩, ⟨by (with_reducible repeat (first | apply Kd.R_alloc | apply Kd.R_drewN | apply Kd.R_drew)); exact HO272.out⟩, ⟨by repeat (first | (with_reducible first | exact HB.out | apply below_alloc | apply pw_below_drewN | apply below_drew1 | refine below_set ?_ GE261.out) | exact HB.out)⟩⟩
                      · rw [if_neg c30] at H
                        exact absurd H (by simp)
                    · rw [if_neg c29] at H
                      exact absurd H (by simp)
                  · rw [if_neg c28] at H
                    exact absurd H (by simp)
            · replace c6 := Bool.eq_false_iff.mpr c6
              subst c6
              have H1 : (some ((⟨#[]⟩ : ByteArray), 21)) = some (r1, r2) := by rw [if_neg (show ¬ (false = true) by decide)] at H; exact H
              clear H
              have H := H1
              clear H1
              simp only [Option.some.injEq, Prod.mk.injEq] at H
              obtain ⟨rfl, rfl⟩ := H
              have p260 : 0 ≤ (x10_1 : Int) := of_decide_eq_true (by first | (with_reducible assumption) | assumption)
              have q260 : x10_1 < (l0.length : Int) := of_decide_eq_true (by first | (with_reducible assumption) | assumption)
              obtain ⟨ad260, e260, hx260_0, hx260_1⟩ := at_T51 HR0.out x10_1 p260 q260
              cases e260
              replace hx260_0 := (HB.out.cell (World.block_lt_of_cell? w _ hx260_0)).trans hx260_0
              replace hx260_1 := (HB.out.cell (World.block_lt_of_cell? w _ hx260_1)).trans hx260_1
              replace p260 := eq_true p260
              replace q260 := eq_true q260
              go_wp2_with (first | ((with_reducible refine gate_dst (N := 6) rfl ?_); refine box_event ?hg (N := 6) ?hd (cs := #[.string (⟨#[]⟩ : ByteArray), .string (⟨#[]⟩ : ByteArray)]) (t := 51) ?hr ?_; (case hd => rfl); (case hg => rfl); (case hr => first | (go_simp; done) | (go_simp; rfl)); intro gb261 hg w37 hbox hb; have n0_ := Aside0.mk (Kd.R_below (by (with_reducible repeat (first | apply Kd.R_alloc | apply Kd.R_drewN | apply Kd.R_drew)); exact HO_4.out) hb); have n1_ := Aside0.mk (below_step (by repeat (first | (with_reducible first | exact HB.out | apply below_alloc | apply pw_below_drewN | apply below_drew1) | exact HB.out)) hb); have n2_ := Aside0.mk (hbox); have n3_ := Aside0.mk ((by rw [hg]; exact (below_size (by repeat (first | (with_reducible first | exact HB.out | apply below_alloc | apply pw_below_drewN | apply below_drew1) | exact HB.out))) : w.heap.size ≤ gb261)); have n4_ := Aside0.mk ((by rw [hg]; exact (below_size (by repeat (first | (with_reducible first | exact HB.out | apply below_alloc | apply pw_below_drewN | apply below_drew1) | exact HB.out))) : w.heap.size ≤ gb261)); clear HO_4; clear HB; have HO_4 := n0_; have HB := n1_; have BK261 := n2_; have GW261 := n3_; have GE261 := n4_; clear n0_ n1_ n2_ n3_ n4_; clear hb hbox hg; have hcz38_0 : w37.cell? ⟨gb261, 0, none⟩ = some (.string (⟨#[]⟩ : ByteArray)) := (blk_cell BK261.out 0).trans rfl; have hcz38_1 : w37.cell? ⟨gb261, 1, none⟩ = some (.string (⟨#[]⟩ : ByteArray)) := (blk_cell BK261.out 1).trans rfl; have hfz38_0 := blk_frozen BK261.out 0; have hfz38_1 := blk_frozen BK261.out 1) | ((with_reducible refine gate_callee (f := 24) rfl ?_); refine goesL_ (some 18) rfl rfl Tryd.func24 (by kernel_rfl) rfl #[.agg #[.string ((rd_T51 l0 x10_1).f0), .string ((rd_T51 l0 x10_1).f1)]] rfl (by (try simp only [List.map_toArray, List.map_cons, List.map_nil]); first | done | rfl | (simp only [List.length_drop, List.length_take]; rfl)) ?_; (with_reducible refine (control_Good.calls ((rd_T51 l0 x10_1).f0) ((rd_T51 l0 x10_1).f1) false _ A5.out).mono ?_); rintro e w39 ⟨rfl, hb⟩; refine ⟨_, rfl, ?_⟩; have n0_ := Aside0.mk (Kd.R_below (by (with_reducible repeat (first | apply Kd.R_alloc | apply Kd.R_drewN | apply Kd.R_drew)); exact (Kd.R_mono (Kd.R_far (p := ⟨gb261, 1, none⟩) (Kd.R_far (p := ⟨gb261, 0, none⟩) (Kd.R_types HO_4.out BK261.out (by decide)) (fun _ hk => hk.2) (.string ((rd_T51 l0 x10_1).f0))) (fun _ hk => hk.2) (.string ((rd_T51 l0 x10_1).f1))) (fun _ h_ => h_.1))) hb); have n1_ := Aside0.mk (blk_below (g := gb261) (o := .cells #[.string ((rd_T51 l0 x10_1).f0), .string ((rd_T51 l0 x10_1).f1)] 51 (0, 0)) (by (with_reducible repeat (first | refine blk_drewN ?_ _ | refine blk_drew ?_ | refine blk_alloc ?_ _)); refine blk_put (cs := #[.string ((rd_T51 l0 x10_1).f0), .string (⟨#[]⟩ : ByteArray)]) ?_ 1 _ rfl; (with_reducible repeat (first | refine blk_drewN ?_ _ | refine blk_drew ?_ | refine blk_alloc ?_ _)); refine blk_put (cs := #[.string (⟨#[]⟩ : ByteArray), .string (⟨#[]⟩ : ByteArray)]) ?_ 0 _ rfl; (with_reducible repeat (first | refine blk_drewN ?_ _ | refine blk_drew ?_ | refine blk_alloc ?_ _)); exact BK261.out) hb); have n2_ := Aside0.mk (below_step (by repeat (first | (with_reducible first | exact HB.out | apply below_alloc | apply pw_below_drewN | apply below_drew1 | refine below_set ?_ GE261.out) | exact HB.out)) hb); clear HO_4; clear BK261; clear HB; have HO_4 := n0_; have BK261 := n1_; have HB := n2_; clear n0_ n1_ n2_; (try clear hb); (try clear hb2); (try clear hk); (try clear hi)))
              go_ret2
              exact ⟨by first | rfl | (simp [errW_none, errW_some] <;> rfl) | (simp [*, errW_none, errW_some] <;> rfl), by repeat (first | (with_reducible first | exact HB.out | apply below_alloc | apply pw_below_drewN | apply below_drew1 | refine below_set ?_ GE261.out) | exact HB.out)⟩
          · rw [if_neg c4] at H
            exact absurd H (by simp)
        · rw [if_neg c3] at H
          exact absurd H (by simp)
      · rw [if_neg c2] at H
        have c2b0 : decide (x10_1 < (l0.length : Int)) = false := decide_eq_false c2
        clear c2
        replace H := Option.bind_eq_some_iff.mp H
        obtain ⟨t259, A400, H⟩ := H
        replace H : (some (t259, 0)) = some (r1, r2) := H
        have A40 := Aside0.mk A400
        clear A400
        simp only [Option.some.injEq, Prod.mk.injEq] at H
        obtain ⟨rfl, rfl⟩ := H
        obtain ⟨Ao41, co41, eo41⟩ := Kd.R_slice HO_4.out
        subst eo41
        go_wp2_with (first | ((with_reducible refine gate_callee (f := 26) rfl ?_); refine goesL_ (some 40) rfl rfl Tryd.func26 (by kernel_rfl) rfl #[.slice Ao41 x4_1.length co41, .string (⟨#[44, 32]⟩ : ByteArray)] rfl (by (try simp only [List.map_toArray, List.map_cons, List.map_nil]); first | done | rfl | (simp only [List.length_drop, List.length_take]; rfl)) ?_; (with_reducible refine (strings_Join.calls _ _ x4_1 (⟨#[44, 32]⟩ : ByteArray) t259 _ ?side1 ?side2 A40.out).mono ?_); (case side1 => repeat (first | exact (Kd.R_reads' HO_4.out).2.2 | (with_reducible refine Kd.C_alloc ?_ _) | (with_reducible refine Kd.C_drewN ?_ _) | (with_reducible refine Kd.C_drew ?_))); (case side2 => exact (Kd.R_reads' HO_4.out).2.1); rintro e w42 ⟨rfl, hb⟩; refine ⟨_, rfl, ?_⟩; have n0_ := Aside0.mk (Kd.R_below (by (with_reducible repeat (first | apply Kd.R_alloc | apply Kd.R_drewN | apply Kd.R_drew)); exact HO_4.out) hb); have n1_ := Aside0.mk (below_step (by repeat (first | (with_reducible first | exact HB.out | apply below_alloc | apply pw_below_drewN | apply below_drew1) | exact HB.out)) hb); clear HO_4; clear HB; have HO_4 := n0_; have HB := n1_; clear n0_ n1_; (try clear hb); (try clear hb2); (try clear hk); (try clear hi)))
        go_ret2
        exact ⟨by first | rfl | (simp [errW_none, errW_some] <;> rfl) | (simp [*, errW_none, errW_some] <;> rfl), by repeat (first | (with_reducible first | exact HB.out | apply below_alloc | apply pw_below_drewN | apply below_drew1) | exact HB.out)⟩

end Go.Proofs.YtpclhceafigibaaDoor.PVars
