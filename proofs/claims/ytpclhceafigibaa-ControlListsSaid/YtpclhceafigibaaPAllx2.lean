/- Functions and contracts, printed by a program over the kit's print (wip/fprint.py): some callees' contracts are typed by hand in texts of their own. -/
import Derived.Test.YtpclhceafigibaaPAllx0
import Derived.Test.YtpclhceafigibaaFGood
import Derived.Test.YtpclhceafigibaaFStr
namespace Go.Proofs.Ytpclhceafigibaa.PAll
open Go.RowKit Go.Proofs.YtpclhceafigibaaW.PrintWords Go.Proofs.YtpclhceafigibaaW.PrintLast Go.Proofs.YtpclhceafigibaaW.PrintMore
attribute [local go_sem] max2_int min2_int max_two min_two max_three min_three max_four min_four   -- for this text's walks alone
set_option linter.unusedVariables false
set_option linter.unusedSimpArgs false

/-! ### foliotlaw19_heavy: function 5 -/
def foliotlaw19_heavy.l0 : Nat → List (S39) → Int → Int → Option (Bool)
  | 0, _, _, _ => none
  | k + 1, x0, x3, x4 => if x4 < (x0.length : Int) then (if x3 ≤ 4096 then (if 0 ≤ x4 then (foliotlaw19_heavy.l0 k x0 (wrap64 (x3 + ((mn (((rd_T39 x0 x4).f0).size : Int) 65536) + (mn (((rd_T39 x0 x4).f1).size : Int) 65536)))) (wrap64 (x4 + 1))) else (none)) else (some (decide (x3 > 4096)))) else (some (decide (x3 > 4096)))
def foliotlaw19_heavy.f (k : Nat) (l0 : List (S39)) : Option (Bool) := foliotlaw19_heavy.l0 k l0 (l0.length : Int) 0
theorem foliotlaw19_heavy.mono_l : ∀ k, (∀ y0 y1 y2, LeO (foliotlaw19_heavy.l0 k y0 y1 y2) (foliotlaw19_heavy.l0 (k + 1) y0 y1 y2))
  | 0 => fun _ _ _ r h => by simp [foliotlaw19_heavy.l0] at h
  | k + 1 => by
    have ih0 := foliotlaw19_heavy.mono_l k
    · intro y0 y1 y2
      unfold foliotlaw19_heavy.l0
      repeat' first
      | (with_reducible exact ih0 _ _ _)
      | (with_reducible exact LeO.refl _)
      | (with_reducible exact LeO.none _)
      | (with_reducible refine LeO.ite ?_ ?_)
      | (with_reducible refine LeO.bind ?_ (fun _ => ?_))
      | exact ih0 _ _ _
      | exact LeO.none _
      | refine LeO.ite ?_ ?_
      | refine LeO.bind ?_ (fun _ => ?_)
theorem foliotlaw19_heavy.mono : ∀ a0 k, LeO (foliotlaw19_heavy.f k a0) (foliotlaw19_heavy.f (k + 1) a0) := by
  intro a0 k
  have ih0 := foliotlaw19_heavy.mono_l k
  unfold foliotlaw19_heavy.f
  repeat' first
      | (with_reducible exact ih0 _ _ _)
      | (with_reducible exact LeO.refl _)
      | (with_reducible exact LeO.none _)
      | (with_reducible refine LeO.ite ?_ ?_)
      | (with_reducible refine LeO.bind ?_ (fun _ => ?_))
      | exact ih0 _ _ _
      | exact LeO.none _
      | refine LeO.ite ?_ ?_
      | refine LeO.bind ?_ (fun _ => ?_)
set_option maxHeartbeats 8000000 in
set_option maxRecDepth 100000 in
theorem foliotlaw19_heavy.calls (k : Nat) (A0 : Option Addr) (c0 : Nat) (l0 : List (S39)) (r : Bool) (w : World) (hr0 : Kd.C k39 w A0 l0.length l0) (hc0 : l0.length ≤ c0) (h : foliotlaw19_heavy.f k l0 = some r) :
    Calls Try.prog 5 #[.slice A0 l0.length c0] w fun e w' => e = .returned (.bool r) ∧ Below w.heap.size w w' := by
  have HR0 := Aside0.mk hr0
  have HC0 := Aside0.mk hc0
  clear hr0 hc0
  have HB := Aside0.mk (Below.refl w.heap.size w)
  have H : (foliotlaw19_heavy.l0 k l0 (l0.length : Int) 0) = some r := h
  clear h
  have H' := Aside0.mk H
  clear H
  go_enter Try.func5, Try.ntmps5
  go_wp2
  repeat (go_quiet (fail); try go_wp2)
  go_loopg [3, 4] k (fun kq v3 v4 w' => ∃ (x3_1 : Int) (x4_1 : Int), v3 = .int .i64 x3_1 ∧ v4 = .int .i64 x4_1 ∧ Aside0 (foliotlaw19_heavy.l0 kq l0 x3_1 x4_1 = some r) ∧ Aside0 (kq ≤ k) ∧ Aside0 (Below w.heap.size w w'))
  case atStart => exact ⟨((l0.length : Int)), (0), (by first | rfl | (simp; done) | (simp [*]; done)), (by first | rfl | (simp; done) | (simp [*]; done)), H', ⟨Nat.le_refl _⟩, ⟨by repeat (first | (with_reducible first | exact HB.out | apply below_alloc | apply pw_below_drewN | apply below_drew1) | exact HB.out)⟩⟩
  case round =>
    clear H'
    obtain ⟨x3_1, x4_1, rfl, rfl, HA, HK1, HB⟩ := hrel
    cases gk with
    | zero => exact absurd HA.out (by simp [foliotlaw19_heavy.l0])
    | succ k1 =>
      have H := HA.out
      clear HA
      simp only [foliotlaw19_heavy.l0] at H
      by_cases c2 : x4_1 < (l0.length : Int)
      · rw [if_pos c2] at H
        have c2b0 : decide (x4_1 < (l0.length : Int)) = true := decide_eq_true c2
        clear c2
        by_cases c3 : x3_1 ≤ 4096
        · rw [if_pos c3] at H
          have c3b0 : decide (x3_1 ≤ 4096) = true := decide_eq_true c3
          clear c3
          by_cases c4 : 0 ≤ x4_1
          · rw [if_pos c4] at H
            have c4b0 : decide (0 ≤ x4_1) = true := decide_eq_true c4
            clear c4
            obtain ⟨ji5, hji5⟩ : ∃ j_ : Int, (mn (((rd_T39 l0 x4_1).f0).size : Int) 65536) = j_ := ⟨_, rfl⟩
            replace H : (foliotlaw19_heavy.l0 k1 l0 (wrap64 (x3_1 + ((ji5) + (mn (((rd_T39 l0 x4_1).f1).size : Int) 65536)))) (wrap64 (x4_1 + 1))) = some r := by first | (rw [hji5] at H; exact H) | (simp only [hji5] at H ⊢; exact H)
            have hji5_ : (if 65536 < (((rd_T39 l0 x4_1).f0).size : Int) then 65536 else (((rd_T39 l0 x4_1).f0).size : Int)) = ji5 := hji5
            obtain ⟨ji6, hji6⟩ : ∃ j_ : Int, (mn (((rd_T39 l0 x4_1).f1).size : Int) 65536) = j_ := ⟨_, rfl⟩
            replace H : (foliotlaw19_heavy.l0 k1 l0 (wrap64 (x3_1 + ((ji5) + (ji6)))) (wrap64 (x4_1 + 1))) = some r := by first | (rw [hji6] at H; exact H) | (simp only [hji6] at H ⊢; exact H)
            have hji6_ : (if 65536 < (((rd_T39 l0 x4_1).f1).size : Int) then 65536 else (((rd_T39 l0 x4_1).f1).size : Int)) = ji6 := hji6
            have H' := Aside0.mk H
            clear H
            have p101 : 0 ≤ (x4_1 : Int) := of_decide_eq_true (by first | (with_reducible assumption) | assumption)
            have q101 : x4_1 < (l0.length : Int) := of_decide_eq_true (by first | (with_reducible assumption) | assumption)
            obtain ⟨ad101, e101, hx101_0, hx101_1⟩ := at_T39 HR0.out x4_1 p101 q101
            cases e101
            replace hx101_0 := (HB.out.cell (World.block_lt_of_cell? w _ hx101_0)).trans hx101_0
            replace hx101_1 := (HB.out.cell (World.block_lt_of_cell? w _ hx101_1)).trans hx101_1
            replace p101 := eq_true p101
            replace q101 := eq_true q101
            have p102 : 0 ≤ (x4_1 : Int) := of_decide_eq_true (by first | (with_reducible assumption) | assumption)
            have q102 : x4_1 < (l0.length : Int) := of_decide_eq_true (by first | (with_reducible assumption) | assumption)
            obtain ⟨ad102, e102, hx102_0, hx102_1⟩ := at_T39 HR0.out x4_1 p102 q102
            obtain rfl : ad101 = ad102 := (by injection e102)
            replace hx102_0 := (HB.out.cell (World.block_lt_of_cell? w _ hx102_0)).trans hx102_0
            replace hx102_1 := (HB.out.cell (World.block_lt_of_cell? w _ hx102_1)).trans hx102_1
            replace p102 := eq_true p102
            replace q102 := eq_true q102
            go_wp2
            repeat (go_quiet (fail); try go_wp2)
            go_roundg k1
            case measure => have := HK1.out; omega
            case rel => exact ⟨(wrap64 (x3_1 + ((ji5) + (ji6)))), (wrap64 (x4_1 + 1)), (by first | rfl | (simp; done) | (simp only [← hji5, ← hji6] <;> (first | rfl | simp)) | (simp [*]; done)), (by first | rfl | (simp; done) | (simp [*]; done)), (by first | exact H' | (simp only [hji5, hji6]; exact H')), ⟨by have := HK1.out; omega⟩, ⟨by repeat (first | (with_reducible first | exact HB.out | apply below_alloc | apply pw_below_drewN | apply below_drew1) | exact HB.out)⟩⟩
          · rw [if_neg c4] at H
            exact absurd H (by simp)
        · rw [if_neg c3] at H
          have c3b0 : decide (x3_1 ≤ 4096) = false := decide_eq_false c3
          clear c3
          obtain rfl := Option.some.inj H
          go_wp2
          repeat (go_quiet (fail); try go_wp2)
          go_ret
          exact ⟨by first | rfl | (simp [errW_none, errW_some] <;> rfl) | (simp [*, errW_none, errW_some] <;> rfl), by repeat (first | (with_reducible first | exact HB.out | apply below_alloc | apply pw_below_drewN | apply below_drew1) | exact HB.out)⟩
      · rw [if_neg c2] at H
        have c2b0 : decide (x4_1 < (l0.length : Int)) = false := decide_eq_false c2
        clear c2
        obtain rfl := Option.some.inj H
        go_wp2
        repeat (go_quiet (fail); try go_wp2)
        go_ret
        exact ⟨by first | rfl | (simp [errW_none, errW_some] <;> rfl) | (simp [*, errW_none, errW_some] <;> rfl), by repeat (first | (with_reducible first | exact HB.out | apply below_alloc | apply pw_below_drewN | apply below_drew1) | exact HB.out)⟩




/-! ### control_List: function 6 -/
def control_List.l0 : Nat → List ByteArray → List (S39) → Int → Int → Option (ByteArray × Int)
  | 0, _, _, _, _ => none
  | k + 1, x4, x8, x9, x10 => if x10 < x9 then (if 0 ≤ x10 then (if x10 < (x8.length : Int) then ((control_Good.f ((rd_T39 x8 x10).f0) ((rd_T39 x8 x10).f1)).bind fun t106 => (if t106 = true then ((strings_ContainsAny.f ((rd_T39 x8 x10).f1) (⟨#[32, 44]⟩ : ByteArray)).bind fun t107 => (if t107 = true then (if 2 + ((rd_T39 x8 x10).f1).size ≤ 9223372036854775807 then (if ((⟨#[61, 34]⟩ : ByteArray) ++ ((rd_T39 x8 x10).f1)).size + 1 ≤ 9223372036854775807 then (if ((rd_T39 x8 x10).f0).size + (((⟨#[61, 34]⟩ : ByteArray) ++ ((rd_T39 x8 x10).f1)) ++ (⟨#[34]⟩ : ByteArray)).size ≤ 9223372036854775807 then (if x4.length < 8796093022208 then (control_List.l0 k (x4 ++ [((rd_T39 x8 x10).f0) ++ (((⟨#[61, 34]⟩ : ByteArray) ++ ((rd_T39 x8 x10).f1)) ++ (⟨#[34]⟩ : ByteArray))]) x8 x9 (wrap64 (x10 + 1))) else (none)) else (none)) else (none)) else (none)) else (if ((rd_T39 x8 x10).f1).toList = ([] : List UInt8) then (if ((rd_T39 x8 x10).f0).size + ((rd_T39 x8 x10).f1).size ≤ 9223372036854775807 then (if x4.length < 8796093022208 then (control_List.l0 k (x4 ++ [((rd_T39 x8 x10).f0) ++ ((rd_T39 x8 x10).f1)]) x8 x9 (wrap64 (x10 + 1))) else (none)) else (none)) else (if 1 + ((rd_T39 x8 x10).f1).size ≤ 9223372036854775807 then (if ((rd_T39 x8 x10).f0).size + ((⟨#[61]⟩ : ByteArray) ++ ((rd_T39 x8 x10).f1)).size ≤ 9223372036854775807 then (if x4.length < 8796093022208 then (control_List.l0 k (x4 ++ [((rd_T39 x8 x10).f0) ++ ((⟨#[61]⟩ : ByteArray) ++ ((rd_T39 x8 x10).f1))]) x8 x9 (wrap64 (x10 + 1))) else (none)) else (none)) else (none))))) else (some ((⟨#[]⟩ : ByteArray), 21)))) else (none)) else (none)) else ((strings_Join.f x4 (⟨#[44, 32]⟩ : ByteArray)).bind fun t103 => (some (t103, 0)))
def control_List.f (k : Nat) (l0 : List (S39)) : Option (ByteArray × Int) := control_List.l0 k ([] : List ByteArray) l0 (l0.length : Int) 0
theorem control_List.mono_l : ∀ k, (∀ y0 y1 y2 y3, LeO (control_List.l0 k y0 y1 y2 y3) (control_List.l0 (k + 1) y0 y1 y2 y3))
  | 0 => fun _ _ _ _ r h => by simp [control_List.l0] at h
  | k + 1 => by
    have ih0 := control_List.mono_l k
    · intro y0 y1 y2 y3
      unfold control_List.l0
      repeat' first
      | (with_reducible exact ih0 _ _ _ _)
      | (with_reducible exact LeO.refl _)
      | (with_reducible exact LeO.none _)
      | (with_reducible refine LeO.ite ?_ ?_)
      | (with_reducible refine LeO.bind ?_ (fun _ => ?_))
      | exact ih0 _ _ _ _
      | exact LeO.none _
      | refine LeO.ite ?_ ?_
      | refine LeO.bind ?_ (fun _ => ?_)
theorem control_List.mono : ∀ a0 k, LeO (control_List.f k a0) (control_List.f (k + 1) a0) := by
  intro a0 k
  have ih0 := control_List.mono_l k
  unfold control_List.f
  repeat' first
      | (with_reducible exact ih0 _ _ _ _)
      | (with_reducible exact LeO.refl _)
      | (with_reducible exact LeO.none _)
      | (with_reducible refine LeO.ite ?_ ?_)
      | (with_reducible refine LeO.bind ?_ (fun _ => ?_))
      | exact ih0 _ _ _ _
      | exact LeO.none _
      | refine LeO.ite ?_ ?_
      | refine LeO.bind ?_ (fun _ => ?_)
set_option maxHeartbeats 8000000 in
set_option maxRecDepth 100000 in
theorem control_List.calls (k : Nat) (A0 : Option Addr) (c0 : Nat) (l0 : List (S39)) (r1 : ByteArray) (r2 : Int) (w : World) (hr0 : Kd.C k39 w A0 l0.length l0) (hc0 : l0.length ≤ c0) (h : control_List.f k l0 = some (r1, r2)) :
    Calls Try.prog 6 #[.slice A0 l0.length c0] w fun e w' => e = .returned (.tuple #[.string r1, .int .i64 r2]) ∧ Below w.heap.size w w' := by
  have hu39 := Try.underlying39
  have HR0 := Aside0.mk hr0
  have HC0 := Aside0.mk hc0
  clear hr0 hc0
  have HB := Aside0.mk (Below.refl w.heap.size w)
  have H : (control_List.l0 k ([] : List ByteArray) l0 (l0.length : Int) 0) = some (r1, r2) := h
  clear h
  have H' := Aside0.mk H
  clear H
  go_enter Try.func6, Try.ntmps6
  go_wp2
  go_loopg [4, 10] k (fun kq v4 v10 w' => ∃ (x4_1 : List ByteArray) (x10_1 : Int), v10 = .int .i64 x10_1 ∧ Aside0 (control_List.l0 kq x4_1 l0 (l0.length : Int) x10_1 = some (r1, r2)) ∧ Aside0 (kq ≤ k) ∧ Aside0 (Kd.R Kd.string 9 w' w.heap.size (fun _ => True) v4 x4_1) ∧ Aside0 (Below w.heap.size w w'))
  case atStart => exact ⟨(([] : List ByteArray)), (0), (by first | rfl | (simp; done) | (simp [*]; done)), H', ⟨Nat.le_refl _⟩, ⟨by first | exact Kd.R_nil _ _ _ _ _ | exact Kd.N_nil _ _ _ _ _ | exact Kd.V_nil _ _ _ _ _ | exact Kd.Q_nil _ _ _ _ _ | exact Kd.S_nil _ _ _ _ _⟩, ⟨by repeat (first | (with_reducible first | exact HB.out | apply below_alloc | apply pw_below_drewN | apply below_drew1) | exact HB.out)⟩⟩
  case round =>
    clear H'
    obtain ⟨x4_1, x10_1, rfl, HA, HK1, HO_4, HB⟩ := hrel
    cases gk with
    | zero => exact absurd HA.out (by simp [control_List.l0])
    | succ k1 =>
      have H := HA.out
      clear HA
      simp only [control_List.l0] at H
      by_cases c2 : x10_1 < (l0.length : Int)
      · rw [if_pos c2] at H
        have c2b0 : decide (x10_1 < (l0.length : Int)) = true := decide_eq_true c2
        clear c2
        by_cases c3 : 0 ≤ x10_1
        · rw [if_pos c3] at H
          have c3b0 : decide (0 ≤ x10_1) = true := decide_eq_true c3
          clear c3
          by_cases c4 : x10_1 < (l0.length : Int)
          · rw [if_pos c4] at H
            have c4b0 : decide (x10_1 < (l0.length : Int)) = true := decide_eq_true c4
            clear c4
            replace H := Option.bind_eq_some_iff.mp H
            obtain ⟨t106, A50, H⟩ := H
            replace H : (if t106 = true then ((strings_ContainsAny.f ((rd_T39 l0 x10_1).f1) (⟨#[32, 44]⟩ : ByteArray)).bind fun t107 => (if t107 = true then (if 2 + ((rd_T39 l0 x10_1).f1).size ≤ 9223372036854775807 then (if ((⟨#[61, 34]⟩ : ByteArray) ++ ((rd_T39 l0 x10_1).f1)).size + 1 ≤ 9223372036854775807 then (if ((rd_T39 l0 x10_1).f0).size + (((⟨#[61, 34]⟩ : ByteArray) ++ ((rd_T39 l0 x10_1).f1)) ++ (⟨#[34]⟩ : ByteArray)).size ≤ 9223372036854775807 then (if x4_1.length < 8796093022208 then (control_List.l0 k1 (x4_1 ++ [((rd_T39 l0 x10_1).f0) ++ (((⟨#[61, 34]⟩ : ByteArray) ++ ((rd_T39 l0 x10_1).f1)) ++ (⟨#[34]⟩ : ByteArray))]) l0 (l0.length : Int) (wrap64 (x10_1 + 1))) else (none)) else (none)) else (none)) else (none)) else (if ((rd_T39 l0 x10_1).f1).toList = ([] : List UInt8) then (if ((rd_T39 l0 x10_1).f0).size + ((rd_T39 l0 x10_1).f1).size ≤ 9223372036854775807 then (if x4_1.length < 8796093022208 then (control_List.l0 k1 (x4_1 ++ [((rd_T39 l0 x10_1).f0) ++ ((rd_T39 l0 x10_1).f1)]) l0 (l0.length : Int) (wrap64 (x10_1 + 1))) else (none)) else (none)) else (if 1 + ((rd_T39 l0 x10_1).f1).size ≤ 9223372036854775807 then (if ((rd_T39 l0 x10_1).f0).size + ((⟨#[61]⟩ : ByteArray) ++ ((rd_T39 l0 x10_1).f1)).size ≤ 9223372036854775807 then (if x4_1.length < 8796093022208 then (control_List.l0 k1 (x4_1 ++ [((rd_T39 l0 x10_1).f0) ++ ((⟨#[61]⟩ : ByteArray) ++ ((rd_T39 l0 x10_1).f1))]) l0 (l0.length : Int) (wrap64 (x10_1 + 1))) else (none)) else (none)) else (none))))) else (some ((⟨#[]⟩ : ByteArray), 21))) = some (r1, r2) := H
            have A5 := Aside0.mk A50
            clear A50
            by_cases c6 : t106 = true
            · subst c6
              have H1 : ((strings_ContainsAny.f ((rd_T39 l0 x10_1).f1) (⟨#[32, 44]⟩ : ByteArray)).bind fun t107 => (if t107 = true then (if 2 + ((rd_T39 l0 x10_1).f1).size ≤ 9223372036854775807 then (if ((⟨#[61, 34]⟩ : ByteArray) ++ ((rd_T39 l0 x10_1).f1)).size + 1 ≤ 9223372036854775807 then (if ((rd_T39 l0 x10_1).f0).size + (((⟨#[61, 34]⟩ : ByteArray) ++ ((rd_T39 l0 x10_1).f1)) ++ (⟨#[34]⟩ : ByteArray)).size ≤ 9223372036854775807 then (if x4_1.length < 8796093022208 then (control_List.l0 k1 (x4_1 ++ [((rd_T39 l0 x10_1).f0) ++ (((⟨#[61, 34]⟩ : ByteArray) ++ ((rd_T39 l0 x10_1).f1)) ++ (⟨#[34]⟩ : ByteArray))]) l0 (l0.length : Int) (wrap64 (x10_1 + 1))) else (none)) else (none)) else (none)) else (none)) else (if ((rd_T39 l0 x10_1).f1).toList = ([] : List UInt8) then (if ((rd_T39 l0 x10_1).f0).size + ((rd_T39 l0 x10_1).f1).size ≤ 9223372036854775807 then (if x4_1.length < 8796093022208 then (control_List.l0 k1 (x4_1 ++ [((rd_T39 l0 x10_1).f0) ++ ((rd_T39 l0 x10_1).f1)]) l0 (l0.length : Int) (wrap64 (x10_1 + 1))) else (none)) else (none)) else (if 1 + ((rd_T39 l0 x10_1).f1).size ≤ 9223372036854775807 then (if ((rd_T39 l0 x10_1).f0).size + ((⟨#[61]⟩ : ByteArray) ++ ((rd_T39 l0 x10_1).f1)).size ≤ 9223372036854775807 then (if x4_1.length < 8796093022208 then (control_List.l0 k1 (x4_1 ++ [((rd_T39 l0 x10_1).f0) ++ ((⟨#[61]⟩ : ByteArray) ++ ((rd_T39 l0 x10_1).f1))]) l0 (l0.length : Int) (wrap64 (x10_1 + 1))) else (none)) else (none)) else (none))))) = some (r1, r2) := by rw [if_pos rfl] at H; exact H
              clear H
              have H := H1
              clear H1
              replace H := Option.bind_eq_some_iff.mp H
              obtain ⟨t107, A70, H⟩ := H
              replace H : (if t107 = true then (if 2 + ((rd_T39 l0 x10_1).f1).size ≤ 9223372036854775807 then (if ((⟨#[61, 34]⟩ : ByteArray) ++ ((rd_T39 l0 x10_1).f1)).size + 1 ≤ 9223372036854775807 then (if ((rd_T39 l0 x10_1).f0).size + (((⟨#[61, 34]⟩ : ByteArray) ++ ((rd_T39 l0 x10_1).f1)) ++ (⟨#[34]⟩ : ByteArray)).size ≤ 9223372036854775807 then (if x4_1.length < 8796093022208 then (control_List.l0 k1 (x4_1 ++ [((rd_T39 l0 x10_1).f0) ++ (((⟨#[61, 34]⟩ : ByteArray) ++ ((rd_T39 l0 x10_1).f1)) ++ (⟨#[34]⟩ : ByteArray))]) l0 (l0.length : Int) (wrap64 (x10_1 + 1))) else (none)) else (none)) else (none)) else (none)) else (if ((rd_T39 l0 x10_1).f1).toList = ([] : List UInt8) then (if ((rd_T39 l0 x10_1).f0).size + ((rd_T39 l0 x10_1).f1).size ≤ 9223372036854775807 then (if x4_1.length < 8796093022208 then (control_List.l0 k1 (x4_1 ++ [((rd_T39 l0 x10_1).f0) ++ ((rd_T39 l0 x10_1).f1)]) l0 (l0.length : Int) (wrap64 (x10_1 + 1))) else (none)) else (none)) else (if 1 + ((rd_T39 l0 x10_1).f1).size ≤ 9223372036854775807 then (if ((rd_T39 l0 x10_1).f0).size + ((⟨#[61]⟩ : ByteArray) ++ ((rd_T39 l0 x10_1).f1)).size ≤ 9223372036854775807 then (if x4_1.length < 8796093022208 then (control_List.l0 k1 (x4_1 ++ [((rd_T39 l0 x10_1).f0) ++ ((⟨#[61]⟩ : ByteArray) ++ ((rd_T39 l0 x10_1).f1))]) l0 (l0.length : Int) (wrap64 (x10_1 + 1))) else (none)) else (none)) else (none)))) = some (r1, r2) := H
              have A7 := Aside0.mk A70
              clear A70
              by_cases c8 : t107 = true
              · subst c8
                have H1 : (if 2 + ((rd_T39 l0 x10_1).f1).size ≤ 9223372036854775807 then (if ((⟨#[61, 34]⟩ : ByteArray) ++ ((rd_T39 l0 x10_1).f1)).size + 1 ≤ 9223372036854775807 then (if ((rd_T39 l0 x10_1).f0).size + (((⟨#[61, 34]⟩ : ByteArray) ++ ((rd_T39 l0 x10_1).f1)) ++ (⟨#[34]⟩ : ByteArray)).size ≤ 9223372036854775807 then (if x4_1.length < 8796093022208 then (control_List.l0 k1 (x4_1 ++ [((rd_T39 l0 x10_1).f0) ++ (((⟨#[61, 34]⟩ : ByteArray) ++ ((rd_T39 l0 x10_1).f1)) ++ (⟨#[34]⟩ : ByteArray))]) l0 (l0.length : Int) (wrap64 (x10_1 + 1))) else (none)) else (none)) else (none)) else (none)) = some (r1, r2) := by rw [if_pos rfl] at H; exact H
                clear H
                have H := H1
                clear H1
                by_cases c9 : 2 + ((rd_T39 l0 x10_1).f1).size ≤ 9223372036854775807
                · rw [if_pos c9] at H
                  have c9b0 := eq_true c9
                  have c9b1 : decide (2 + ((rd_T39 l0 x10_1).f1).size ≤ 9223372036854775807) = true := decide_eq_true c9
                  try have c9b2 : (9223372036854775807 < 2 + ((rd_T39 l0 x10_1).f1).size) = False := eq_false (Nat.not_lt.2 c9)
                  by_cases c10 : ((⟨#[61, 34]⟩ : ByteArray) ++ ((rd_T39 l0 x10_1).f1)).size + 1 ≤ 9223372036854775807
                  · rw [if_pos c10] at H
                    have c10b0 := eq_true c10
                    have c10b1 : decide (((⟨#[61, 34]⟩ : ByteArray) ++ ((rd_T39 l0 x10_1).f1)).size + 1 ≤ 9223372036854775807) = true := decide_eq_true c10
                    try have c10b2 : (9223372036854775807 < ((⟨#[61, 34]⟩ : ByteArray) ++ ((rd_T39 l0 x10_1).f1)).size + 1) = False := eq_false (Nat.not_lt.2 c10)
                    try (have c10b9 := c10; simp [go_sem] at c10b9)
                    by_cases c11 : ((rd_T39 l0 x10_1).f0).size + (((⟨#[61, 34]⟩ : ByteArray) ++ ((rd_T39 l0 x10_1).f1)) ++ (⟨#[34]⟩ : ByteArray)).size ≤ 9223372036854775807
                    · rw [if_pos c11] at H
                      have c11b0 := eq_true c11
                      have c11b1 : decide (((rd_T39 l0 x10_1).f0).size + (((⟨#[61, 34]⟩ : ByteArray) ++ ((rd_T39 l0 x10_1).f1)) ++ (⟨#[34]⟩ : ByteArray)).size ≤ 9223372036854775807) = true := decide_eq_true c11
                      try have c11b2 : (9223372036854775807 < ((rd_T39 l0 x10_1).f0).size + (((⟨#[61, 34]⟩ : ByteArray) ++ ((rd_T39 l0 x10_1).f1)) ++ (⟨#[34]⟩ : ByteArray)).size) = False := eq_false (Nat.not_lt.2 c11)
                      try (have c11b9 := c11; simp [go_sem] at c11b9)
                      by_cases c12 : x4_1.length < 8796093022208
                      · rw [if_pos c12] at H
                        have LMc12 := Aside0.mk c12
                        clear c12
                        obtain ⟨y108, hy108⟩ : ∃ y_ : List ByteArray, y_ = (x4_1 ++ [((rd_T39 l0 x10_1).f0) ++ (((⟨#[61, 34]⟩ : ByteArray) ++ ((rd_T39 l0 x10_1).f1)) ++ (⟨#[34]⟩ : ByteArray))]) := ⟨_, rfl⟩
                        replace H : (control_List.l0 k1 y108 l0 (l0.length : Int) (wrap64 (x10_1 + 1))) = some (r1, r2) := by first | (rw [hy108]; with_reducible exact H) | (have H2_ := (Option.bind_some _ _).symm.trans H; rw [hy108]; with_reducible exact H2_) | (have H2_ := (Option.bind_some _ _).symm.trans H; with_reducible exact H2_) | with_reducible exact H | (rw [hy108]; exact H) | exact H
                        have Ny108 := Aside0.mk hy108
                        clear hy108
                        have H' := Aside0.mk H
                        clear H
                        have p104 : 0 ≤ (x10_1 : Int) := of_decide_eq_true (by first | (with_reducible assumption) | assumption)
                        have q104 : x10_1 < (l0.length : Int) := of_decide_eq_true (by first | (with_reducible assumption) | assumption)
                        obtain ⟨ad104, e104, hx104_0, hx104_1⟩ := at_T39 HR0.out x10_1 p104 q104
                        cases e104
                        replace hx104_0 := (HB.out.cell (World.block_lt_of_cell? w _ hx104_0)).trans hx104_0
                        replace hx104_1 := (HB.out.cell (World.block_lt_of_cell? w _ hx104_1)).trans hx104_1
                        replace p104 := eq_true p104
                        replace q104 := eq_true q104
                        go_wp2_with (first | ((with_reducible refine gate_dst (N := 6) rfl ?_); refine box_event ?hg (N := 6) ?hd (cs := #[.string (⟨#[]⟩ : ByteArray), .string (⟨#[]⟩ : ByteArray)]) (t := 39) ?hr ?_; (case hd => rfl); (case hg => rfl); (case hr => first | (go_simp; done) | (go_simp; rfl)); intro gb105 hg w13 hbox hb; have n0_ := Aside0.mk (Kd.R_below (by (with_reducible repeat (first | apply Kd.R_alloc | apply Kd.R_drewN | apply Kd.R_drew)); exact HO_4.out) hb); have n1_ := Aside0.mk (below_step (by repeat (first | (with_reducible first | exact HB.out | apply below_alloc | apply pw_below_drewN | apply below_drew1) | exact HB.out)) hb); have n2_ := Aside0.mk (hbox); have n3_ := Aside0.mk ((by rw [hg]; exact (below_size (by repeat (first | (with_reducible first | exact HB.out | apply below_alloc | apply pw_below_drewN | apply below_drew1) | exact HB.out))) : w.heap.size ≤ gb105)); have n4_ := Aside0.mk ((by rw [hg]; exact (below_size (by repeat (first | (with_reducible first | exact HB.out | apply below_alloc | apply pw_below_drewN | apply below_drew1) | exact HB.out))) : w.heap.size ≤ gb105)); clear HO_4; clear HB; have HO_4 := n0_; have HB := n1_; have BK105 := n2_; have GW105 := n3_; have GE105 := n4_; clear n0_ n1_ n2_ n3_ n4_; clear hb hbox hg; have hcz14_0 : w13.cell? ⟨gb105, 0, none⟩ = some (.string (⟨#[]⟩ : ByteArray)) := (blk_cell BK105.out 0).trans rfl; have hcz14_1 : w13.cell? ⟨gb105, 1, none⟩ = some (.string (⟨#[]⟩ : ByteArray)) := (blk_cell BK105.out 1).trans rfl; have hfz14_0 := blk_frozen BK105.out 0; have hfz14_1 := blk_frozen BK105.out 1) | ((with_reducible refine gate_callee (f := 13) rfl ?_); refine goesL_ (some 18) rfl rfl Try.func13 (by kernel_rfl) rfl #[.agg #[.string ((rd_T39 l0 x10_1).f0), .string ((rd_T39 l0 x10_1).f1)]] rfl (by (try simp only [List.map_toArray, List.map_cons, List.map_nil]); first | done | rfl | (simp only [List.length_drop, List.length_take]; rfl)) ?_; (with_reducible refine (control_Good.calls ((rd_T39 l0 x10_1).f0) ((rd_T39 l0 x10_1).f1) true _ A5.out).mono ?_); rintro e w15 ⟨rfl, hb⟩; refine ⟨_, rfl, ?_⟩; have n0_ := Aside0.mk (Kd.R_below (by (with_reducible repeat (first | apply Kd.R_alloc | apply Kd.R_drewN | apply Kd.R_drew)); exact (Kd.R_mono (Kd.R_far (p := ⟨gb105, 1, none⟩) (Kd.R_far (p := ⟨gb105, 0, none⟩) (Kd.R_types HO_4.out BK105.out (by decide)) (fun _ hk => hk.2) (.string ((rd_T39 l0 x10_1).f0))) (fun _ hk => hk.2) (.string ((rd_T39 l0 x10_1).f1))) (fun _ h_ => h_.1))) hb); have n1_ := Aside0.mk (blk_below (g := gb105) (o := .cells #[.string ((rd_T39 l0 x10_1).f0), .string ((rd_T39 l0 x10_1).f1)] 39 (0, 0)) (by (with_reducible repeat (first | refine blk_drewN ?_ _ | refine blk_drew ?_ | refine blk_alloc ?_ _)); refine blk_put (cs := #[.string ((rd_T39 l0 x10_1).f0), .string (⟨#[]⟩ : ByteArray)]) ?_ 1 _ rfl; (with_reducible repeat (first | refine blk_drewN ?_ _ | refine blk_drew ?_ | refine blk_alloc ?_ _)); refine blk_put (cs := #[.string (⟨#[]⟩ : ByteArray), .string (⟨#[]⟩ : ByteArray)]) ?_ 0 _ rfl; (with_reducible repeat (first | refine blk_drewN ?_ _ | refine blk_drew ?_ | refine blk_alloc ?_ _)); exact BK105.out) hb); have n2_ := Aside0.mk (below_step (by repeat (first | (with_reducible first | exact HB.out | apply below_alloc | apply pw_below_drewN | apply below_drew1 | refine below_set ?_ GE105.out) | exact HB.out)) hb); clear HO_4; clear BK105; clear HB; have HO_4 := n0_; have BK105 := n1_; have HB := n2_; clear n0_ n1_ n2_; (try clear hb); (try clear hb2); (try clear hk); (try clear hi)) | ((with_reducible refine gate_callee (f := 17) rfl ?_); refine goesL_ (some 22) rfl rfl Try.func17 (by kernel_rfl) rfl #[.string ((rd_T39 l0 x10_1).f1), .string (⟨#[32, 44]⟩ : ByteArray)] rfl (by (try simp only [List.map_toArray, List.map_cons, List.map_nil]); first | done | rfl | (simp only [List.length_drop, List.length_take]; rfl)) ?_; (with_reducible refine (strings_ContainsAny.calls ((rd_T39 l0 x10_1).f1) (⟨#[32, 44]⟩ : ByteArray) true _ A7.out).mono ?_); rintro e w16 ⟨rfl, hb⟩; refine ⟨_, rfl, ?_⟩; have n0_ := Aside0.mk (Kd.R_below (by (with_reducible repeat (first | apply Kd.R_alloc | apply Kd.R_drewN | apply Kd.R_drew)); exact HO_4.out) hb); have n1_ := Aside0.mk (blk_below (g := gb105) (o := .cells #[.string ((rd_T39 l0 x10_1).f0), .string ((rd_T39 l0 x10_1).f1)] 39 (0, 0)) (by (with_reducible repeat (first | refine blk_drewN ?_ _ | refine blk_drew ?_ | refine blk_alloc ?_ _)); exact BK105.out) hb); have n2_ := Aside0.mk (below_step (by repeat (first | (with_reducible first | exact HB.out | apply below_alloc | apply pw_below_drewN | apply below_drew1 | refine below_set ?_ GE105.out) | exact HB.out)) hb); clear HO_4; clear BK105; clear HB; have HO_4 := n0_; have BK105 := n1_; have HB := n2_; clear n0_ n1_ n2_; (try clear hb); (try clear hb2); (try clear hk); (try clear hi); have hcz17_0 : w16.cell? ⟨gb105, 0, none⟩ = some (.string ((rd_T39 l0 x10_1).f0)) := (blk_cell BK105.out 0).trans rfl; have hcz17_1 : w16.cell? ⟨gb105, 1, none⟩ = some (.string ((rd_T39 l0 x10_1).f1)) := (blk_cell BK105.out 1).trans rfl; have hfz17_0 := blk_frozen BK105.out 0; have hfz17_1 := blk_frozen BK105.out 1) | ((with_reducible refine gate_builtin (b := .append) (xs := #[.tmp 31, .tmp 36]) rfl ?_); at_builtin; refine Kd.R_append Kd.string (w0 := w) w.heap.size rfl (.tmp 31) (.tmp 36) 47 9 (.string ⟨#[]⟩) 16 rfl Try.underlying47 info9 rfl (by decide) (by omega) u4 x4_1 (((rd_T39 l0 x10_1).f0) ++ (((⟨#[61, 34]⟩ : ByteArray) ++ ((rd_T39 l0 x10_1).f1)) ++ (⟨#[34]⟩ : ByteArray))) [.string (((rd_T39 l0 x10_1).f0) ++ (((⟨#[61, 34]⟩ : ByteArray) ++ ((rd_T39 l0 x10_1).f1)) ++ (⟨#[34]⟩ : ByteArray)))] (fun _ => True) (fun _ => False) rfl rfl ?aP (fun _ hk => hk.elim) ?aF ?aO ?aB ?aS ?aL ?_; (case aP => exact rfl); (case aB => exact (by repeat (first | (with_reducible first | exact HB.out | apply below_alloc | apply pw_below_drewN | apply below_drew1 | refine below_set ?_ GE105.out) | exact HB.out))); (case aF => exact (fun _ _ => trivial)); (case aO => exact (by (with_reducible repeat (first | apply Kd.R_alloc | apply Kd.R_drewN | apply Kd.R_drew)); exact HO_4.out)); (case aS => exact (below_size (by repeat (first | (with_reducible first | exact HB.out | apply below_alloc | apply pw_below_drewN | apply below_drew1 | refine below_set ?_ GE105.out) | exact HB.out)))); (case aL => have := LMc12.out; omega); intro v109 w18 ho hb hg hat; rw [← Ny108.out] at ho; have n0_ := Aside0.mk (blk_grown (g := gb105) (o := .cells #[.string ((rd_T39 l0 x10_1).f0), .string ((rd_T39 l0 x10_1).f1)] 39 (0, 0)) (by (with_reducible repeat (first | refine blk_drewN ?_ _ | refine blk_drew ?_ | refine blk_alloc ?_ _)); exact BK105.out) hg (Kd.R_ne HO_4.out BK105.out (by decide))); have n1_ := Aside0.mk (hb); have n2_ := Aside0.mk (ho); clear BK105; clear HB; clear HO_4; have BK105 := n0_; have HB := n1_; have HO110 := n2_; clear n0_ n1_ n2_; clear ho hb hg hat))
                        go_roundg k1
                        case measure => have := HK1.out; omega
                        case rel => exact ⟨(y108), (wrap64 (x10_1 + 1)), (by first | rfl | (simp; done) | (simp [*]; done)), H', ⟨by have := HK1.out; omega⟩, ⟨by (with_reducible repeat (first | apply Kd.R_alloc | apply Kd.R_drewN | apply Kd.R_drew)); exact HO110.out⟩, ⟨by repeat (first | (with_reducible first | exact HB.out | apply below_alloc | apply pw_below_drewN | apply below_drew1 | refine below_set ?_ GE105.out) | exact HB.out)⟩⟩
                      · rw [if_neg c12] at H
                        exact absurd H (by simp)
                    · rw [if_neg c11] at H
                      exact absurd H (by simp)
                  · rw [if_neg c10] at H
                    exact absurd H (by simp)
                · rw [if_neg c9] at H
                  exact absurd H (by simp)
              · replace c8 := Bool.eq_false_iff.mpr c8
                subst c8
                have H1 : (if ((rd_T39 l0 x10_1).f1).toList = ([] : List UInt8) then (if ((rd_T39 l0 x10_1).f0).size + ((rd_T39 l0 x10_1).f1).size ≤ 9223372036854775807 then (if x4_1.length < 8796093022208 then (control_List.l0 k1 (x4_1 ++ [((rd_T39 l0 x10_1).f0) ++ ((rd_T39 l0 x10_1).f1)]) l0 (l0.length : Int) (wrap64 (x10_1 + 1))) else (none)) else (none)) else (if 1 + ((rd_T39 l0 x10_1).f1).size ≤ 9223372036854775807 then (if ((rd_T39 l0 x10_1).f0).size + ((⟨#[61]⟩ : ByteArray) ++ ((rd_T39 l0 x10_1).f1)).size ≤ 9223372036854775807 then (if x4_1.length < 8796093022208 then (control_List.l0 k1 (x4_1 ++ [((rd_T39 l0 x10_1).f0) ++ ((⟨#[61]⟩ : ByteArray) ++ ((rd_T39 l0 x10_1).f1))]) l0 (l0.length : Int) (wrap64 (x10_1 + 1))) else (none)) else (none)) else (none))) = some (r1, r2) := by rw [if_neg (show ¬ (false = true) by decide)] at H; exact H
                clear H
                have H := H1
                clear H1
                by_cases c19 : ((rd_T39 l0 x10_1).f1).toList = ([] : List UInt8)
                · rw [if_pos c19] at H
                  have c19b0 : (((rd_T39 l0 x10_1).f1).toList == ([] : List UInt8)) = true := beq_iff_eq.mpr c19
                  have c19b1 : (((rd_T39 l0 x10_1).f1).toList != ([] : List UInt8)) = false := bne_eq_false_iff_eq.mpr c19
                  clear c19
                  by_cases c20 : ((rd_T39 l0 x10_1).f0).size + ((rd_T39 l0 x10_1).f1).size ≤ 9223372036854775807
                  · rw [if_pos c20] at H
                    have c20b0 := eq_true c20
                    have c20b1 : decide (((rd_T39 l0 x10_1).f0).size + ((rd_T39 l0 x10_1).f1).size ≤ 9223372036854775807) = true := decide_eq_true c20
                    try have c20b2 : (9223372036854775807 < ((rd_T39 l0 x10_1).f0).size + ((rd_T39 l0 x10_1).f1).size) = False := eq_false (Nat.not_lt.2 c20)
                    by_cases c21 : x4_1.length < 8796093022208
                    · rw [if_pos c21] at H
                      have LMc21 := Aside0.mk c21
                      clear c21
                      obtain ⟨y111, hy111⟩ : ∃ y_ : List ByteArray, y_ = (x4_1 ++ [((rd_T39 l0 x10_1).f0) ++ ((rd_T39 l0 x10_1).f1)]) := ⟨_, rfl⟩
                      replace H : (control_List.l0 k1 y111 l0 (l0.length : Int) (wrap64 (x10_1 + 1))) = some (r1, r2) := by first | (rw [hy111]; with_reducible exact H) | (have H2_ := (Option.bind_some _ _).symm.trans H; rw [hy111]; with_reducible exact H2_) | (have H2_ := (Option.bind_some _ _).symm.trans H; with_reducible exact H2_) | with_reducible exact H | (rw [hy111]; exact H) | exact H
                      have Ny111 := Aside0.mk hy111
                      clear hy111
                      have H' := Aside0.mk H
                      clear H
                      have p104 : 0 ≤ (x10_1 : Int) := of_decide_eq_true (by first | (with_reducible assumption) | assumption)
                      have q104 : x10_1 < (l0.length : Int) := of_decide_eq_true (by first | (with_reducible assumption) | assumption)
                      obtain ⟨ad104, e104, hx104_0, hx104_1⟩ := at_T39 HR0.out x10_1 p104 q104
                      cases e104
                      replace hx104_0 := (HB.out.cell (World.block_lt_of_cell? w _ hx104_0)).trans hx104_0
                      replace hx104_1 := (HB.out.cell (World.block_lt_of_cell? w _ hx104_1)).trans hx104_1
                      replace p104 := eq_true p104
                      replace q104 := eq_true q104
                      go_wp2_with (first | ((with_reducible refine gate_dst (N := 6) rfl ?_); refine box_event ?hg (N := 6) ?hd (cs := #[.string (⟨#[]⟩ : ByteArray), .string (⟨#[]⟩ : ByteArray)]) (t := 39) ?hr ?_; (case hd => rfl); (case hg => rfl); (case hr => first | (go_simp; done) | (go_simp; rfl)); intro gb105 hg w22 hbox hb; have n0_ := Aside0.mk (Kd.R_below (by (with_reducible repeat (first | apply Kd.R_alloc | apply Kd.R_drewN | apply Kd.R_drew)); exact HO_4.out) hb); have n1_ := Aside0.mk (below_step (by repeat (first | (with_reducible first | exact HB.out | apply below_alloc | apply pw_below_drewN | apply below_drew1) | exact HB.out)) hb); have n2_ := Aside0.mk (hbox); have n3_ := Aside0.mk ((by rw [hg]; exact (below_size (by repeat (first | (with_reducible first | exact HB.out | apply below_alloc | apply pw_below_drewN | apply below_drew1) | exact HB.out))) : w.heap.size ≤ gb105)); have n4_ := Aside0.mk ((by rw [hg]; exact (below_size (by repeat (first | (with_reducible first | exact HB.out | apply below_alloc | apply pw_below_drewN | apply below_drew1) | exact HB.out))) : w.heap.size ≤ gb105)); clear HO_4; clear HB; have HO_4 := n0_; have HB := n1_; have BK105 := n2_; have GW105 := n3_; have GE105 := n4_; clear n0_ n1_ n2_ n3_ n4_; clear hb hbox hg; have hcz23_0 : w22.cell? ⟨gb105, 0, none⟩ = some (.string (⟨#[]⟩ : ByteArray)) := (blk_cell BK105.out 0).trans rfl; have hcz23_1 : w22.cell? ⟨gb105, 1, none⟩ = some (.string (⟨#[]⟩ : ByteArray)) := (blk_cell BK105.out 1).trans rfl; have hfz23_0 := blk_frozen BK105.out 0; have hfz23_1 := blk_frozen BK105.out 1) | ((with_reducible refine gate_callee (f := 13) rfl ?_); refine goesL_ (some 18) rfl rfl Try.func13 (by kernel_rfl) rfl #[.agg #[.string ((rd_T39 l0 x10_1).f0), .string ((rd_T39 l0 x10_1).f1)]] rfl (by (try simp only [List.map_toArray, List.map_cons, List.map_nil]); first | done | rfl | (simp only [List.length_drop, List.length_take]; rfl)) ?_; (with_reducible refine (control_Good.calls ((rd_T39 l0 x10_1).f0) ((rd_T39 l0 x10_1).f1) true _ A5.out).mono ?_); rintro e w24 ⟨rfl, hb⟩; refine ⟨_, rfl, ?_⟩; have n0_ := Aside0.mk (Kd.R_below (by (with_reducible repeat (first | apply Kd.R_alloc | apply Kd.R_drewN | apply Kd.R_drew)); exact (Kd.R_mono (Kd.R_far (p := ⟨gb105, 1, none⟩) (Kd.R_far (p := ⟨gb105, 0, none⟩) (Kd.R_types HO_4.out BK105.out (by decide)) (fun _ hk => hk.2) (.string ((rd_T39 l0 x10_1).f0))) (fun _ hk => hk.2) (.string ((rd_T39 l0 x10_1).f1))) (fun _ h_ => h_.1))) hb); have n1_ := Aside0.mk (blk_below (g := gb105) (o := .cells #[.string ((rd_T39 l0 x10_1).f0), .string ((rd_T39 l0 x10_1).f1)] 39 (0, 0)) (by (with_reducible repeat (first | refine blk_drewN ?_ _ | refine blk_drew ?_ | refine blk_alloc ?_ _)); refine blk_put (cs := #[.string ((rd_T39 l0 x10_1).f0), .string (⟨#[]⟩ : ByteArray)]) ?_ 1 _ rfl; (with_reducible repeat (first | refine blk_drewN ?_ _ | refine blk_drew ?_ | refine blk_alloc ?_ _)); refine blk_put (cs := #[.string (⟨#[]⟩ : ByteArray), .string (⟨#[]⟩ : ByteArray)]) ?_ 0 _ rfl; (with_reducible repeat (first | refine blk_drewN ?_ _ | refine blk_drew ?_ | refine blk_alloc ?_ _)); exact BK105.out) hb); have n2_ := Aside0.mk (below_step (by repeat (first | (with_reducible first | exact HB.out | apply below_alloc | apply pw_below_drewN | apply below_drew1 | refine below_set ?_ GE105.out) | exact HB.out)) hb); clear HO_4; clear BK105; clear HB; have HO_4 := n0_; have BK105 := n1_; have HB := n2_; clear n0_ n1_ n2_; (try clear hb); (try clear hb2); (try clear hk); (try clear hi)) | ((with_reducible refine gate_callee (f := 17) rfl ?_); refine goesL_ (some 22) rfl rfl Try.func17 (by kernel_rfl) rfl #[.string ((rd_T39 l0 x10_1).f1), .string (⟨#[32, 44]⟩ : ByteArray)] rfl (by (try simp only [List.map_toArray, List.map_cons, List.map_nil]); first | done | rfl | (simp only [List.length_drop, List.length_take]; rfl)) ?_; (with_reducible refine (strings_ContainsAny.calls ((rd_T39 l0 x10_1).f1) (⟨#[32, 44]⟩ : ByteArray) false _ A7.out).mono ?_); rintro e w25 ⟨rfl, hb⟩; refine ⟨_, rfl, ?_⟩; have n0_ := Aside0.mk (Kd.R_below (by (with_reducible repeat (first | apply Kd.R_alloc | apply Kd.R_drewN | apply Kd.R_drew)); exact HO_4.out) hb); have n1_ := Aside0.mk (blk_below (g := gb105) (o := .cells #[.string ((rd_T39 l0 x10_1).f0), .string ((rd_T39 l0 x10_1).f1)] 39 (0, 0)) (by (with_reducible repeat (first | refine blk_drewN ?_ _ | refine blk_drew ?_ | refine blk_alloc ?_ _)); exact BK105.out) hb); have n2_ := Aside0.mk (below_step (by repeat (first | (with_reducible first | exact HB.out | apply below_alloc | apply pw_below_drewN | apply below_drew1 | refine below_set ?_ GE105.out) | exact HB.out)) hb); clear HO_4; clear BK105; clear HB; have HO_4 := n0_; have BK105 := n1_; have HB := n2_; clear n0_ n1_ n2_; (try clear hb); (try clear hb2); (try clear hk); (try clear hi); have hcz26_0 : w25.cell? ⟨gb105, 0, none⟩ = some (.string ((rd_T39 l0 x10_1).f0)) := (blk_cell BK105.out 0).trans rfl; have hcz26_1 : w25.cell? ⟨gb105, 1, none⟩ = some (.string ((rd_T39 l0 x10_1).f1)) := (blk_cell BK105.out 1).trans rfl; have hfz26_0 := blk_frozen BK105.out 0; have hfz26_1 := blk_frozen BK105.out 1) | ((with_reducible refine gate_builtin (b := .append) (xs := #[.tmp 31, .tmp 36]) rfl ?_); at_builtin; refine Kd.R_append Kd.string (w0 := w) w.heap.size rfl (.tmp 31) (.tmp 36) 47 9 (.string ⟨#[]⟩) 16 rfl Try.underlying47 info9 rfl (by decide) (by omega) u4 x4_1 (((rd_T39 l0 x10_1).f0) ++ ((rd_T39 l0 x10_1).f1)) [.string (((rd_T39 l0 x10_1).f0) ++ ((rd_T39 l0 x10_1).f1))] (fun _ => True) (fun _ => False) rfl rfl ?aP (fun _ hk => hk.elim) ?aF ?aO ?aB ?aS ?aL ?_; (case aP => exact rfl); (case aB => exact (by repeat (first | (with_reducible first | exact HB.out | apply below_alloc | apply pw_below_drewN | apply below_drew1 | refine below_set ?_ GE105.out) | exact HB.out))); (case aF => exact (fun _ _ => trivial)); (case aO => exact (by (with_reducible repeat (first | apply Kd.R_alloc | apply Kd.R_drewN | apply Kd.R_drew)); exact HO_4.out)); (case aS => exact (below_size (by repeat (first | (with_reducible first | exact HB.out | apply below_alloc | apply pw_below_drewN | apply below_drew1 | refine below_set ?_ GE105.out) | exact HB.out)))); (case aL => have := LMc21.out; omega); intro v112 w27 ho hb hg hat; rw [← Ny111.out] at ho; have n0_ := Aside0.mk (blk_grown (g := gb105) (o := .cells #[.string ((rd_T39 l0 x10_1).f0), .string ((rd_T39 l0 x10_1).f1)] 39 (0, 0)) (by (with_reducible repeat (first | refine blk_drewN ?_ _ | refine blk_drew ?_ | refine blk_alloc ?_ _)); exact BK105.out) hg (Kd.R_ne HO_4.out BK105.out (by decide))); have n1_ := Aside0.mk (hb); have n2_ := Aside0.mk (ho); clear BK105; clear HB; clear HO_4; have BK105 := n0_; have HB := n1_; have HO113 := n2_; clear n0_ n1_ n2_; clear ho hb hg hat))
                      go_roundg k1
                      case measure => have := HK1.out; omega
                      case rel => exact ⟨(y111), (wrap64 (x10_1 + 1)), (by first | rfl | (simp; done) | (simp [*]; done)), H', ⟨by have := HK1.out; omega⟩, ⟨by (with_reducible repeat (first | apply Kd.R_alloc | apply Kd.R_drewN | apply Kd.R_drew)); exact HO113.out⟩, ⟨by repeat (first | (with_reducible first | exact HB.out | apply below_alloc | apply pw_below_drewN | apply below_drew1 | refine below_set ?_ GE105.out) | exact HB.out)⟩⟩
                    · rw [if_neg c21] at H
                      exact absurd H (by simp)
                  · rw [if_neg c20] at H
                    exact absurd H (by simp)
                · rw [if_neg c19] at H
                  have c19b0 : (((rd_T39 l0 x10_1).f1).toList == ([] : List UInt8)) = false := beq_eq_false_iff_ne.mpr c19
                  have c19b1 : (((rd_T39 l0 x10_1).f1).toList != ([] : List UInt8)) = true := bne_iff_ne.mpr c19
                  by_cases c28 : 1 + ((rd_T39 l0 x10_1).f1).size ≤ 9223372036854775807
                  · rw [if_pos c28] at H
                    have c28b0 := eq_true c28
                    have c28b1 : decide (1 + ((rd_T39 l0 x10_1).f1).size ≤ 9223372036854775807) = true := decide_eq_true c28
                    try have c28b2 : (9223372036854775807 < 1 + ((rd_T39 l0 x10_1).f1).size) = False := eq_false (Nat.not_lt.2 c28)
                    by_cases c29 : ((rd_T39 l0 x10_1).f0).size + ((⟨#[61]⟩ : ByteArray) ++ ((rd_T39 l0 x10_1).f1)).size ≤ 9223372036854775807
                    · rw [if_pos c29] at H
                      have c29b0 := eq_true c29
                      have c29b1 : decide (((rd_T39 l0 x10_1).f0).size + ((⟨#[61]⟩ : ByteArray) ++ ((rd_T39 l0 x10_1).f1)).size ≤ 9223372036854775807) = true := decide_eq_true c29
                      try have c29b2 : (9223372036854775807 < ((rd_T39 l0 x10_1).f0).size + ((⟨#[61]⟩ : ByteArray) ++ ((rd_T39 l0 x10_1).f1)).size) = False := eq_false (Nat.not_lt.2 c29)
                      try (have c29b9 := c29; simp [go_sem] at c29b9)
                      by_cases c30 : x4_1.length < 8796093022208
                      · rw [if_pos c30] at H
                        have LMc30 := Aside0.mk c30
                        clear c30
                        obtain ⟨y114, hy114⟩ : ∃ y_ : List ByteArray, y_ = (x4_1 ++ [((rd_T39 l0 x10_1).f0) ++ ((⟨#[61]⟩ : ByteArray) ++ ((rd_T39 l0 x10_1).f1))]) := ⟨_, rfl⟩
                        replace H : (control_List.l0 k1 y114 l0 (l0.length : Int) (wrap64 (x10_1 + 1))) = some (r1, r2) := by first | (rw [hy114]; with_reducible exact H) | (have H2_ := (Option.bind_some _ _).symm.trans H; rw [hy114]; with_reducible exact H2_) | (have H2_ := (Option.bind_some _ _).symm.trans H; with_reducible exact H2_) | with_reducible exact H | (rw [hy114]; exact H) | exact H
                        have Ny114 := Aside0.mk hy114
                        clear hy114
                        have H' := Aside0.mk H
                        clear H
                        have p104 : 0 ≤ (x10_1 : Int) := of_decide_eq_true (by first | (with_reducible assumption) | assumption)
                        have q104 : x10_1 < (l0.length : Int) := of_decide_eq_true (by first | (with_reducible assumption) | assumption)
                        obtain ⟨ad104, e104, hx104_0, hx104_1⟩ := at_T39 HR0.out x10_1 p104 q104
                        cases e104
                        replace hx104_0 := (HB.out.cell (World.block_lt_of_cell? w _ hx104_0)).trans hx104_0
                        replace hx104_1 := (HB.out.cell (World.block_lt_of_cell? w _ hx104_1)).trans hx104_1
                        replace p104 := eq_true p104
                        replace q104 := eq_true q104
                        go_wp2_with (first | ((with_reducible refine gate_dst (N := 6) rfl ?_); refine box_event ?hg (N := 6) ?hd (cs := #[.string (⟨#[]⟩ : ByteArray), .string (⟨#[]⟩ : ByteArray)]) (t := 39) ?hr ?_; (case hd => rfl); (case hg => rfl); (case hr => first | (go_simp; done) | (go_simp; rfl)); intro gb105 hg w31 hbox hb; have n0_ := Aside0.mk (Kd.R_below (by (with_reducible repeat (first | apply Kd.R_alloc | apply Kd.R_drewN | apply Kd.R_drew)); exact HO_4.out) hb); have n1_ := Aside0.mk (below_step (by repeat (first | (with_reducible first | exact HB.out | apply below_alloc | apply pw_below_drewN | apply below_drew1) | exact HB.out)) hb); have n2_ := Aside0.mk (hbox); have n3_ := Aside0.mk ((by rw [hg]; exact (below_size (by repeat (first | (with_reducible first | exact HB.out | apply below_alloc | apply pw_below_drewN | apply below_drew1) | exact HB.out))) : w.heap.size ≤ gb105)); have n4_ := Aside0.mk ((by rw [hg]; exact (below_size (by repeat (first | (with_reducible first | exact HB.out | apply below_alloc | apply pw_below_drewN | apply below_drew1) | exact HB.out))) : w.heap.size ≤ gb105)); clear HO_4; clear HB; have HO_4 := n0_; have HB := n1_; have BK105 := n2_; have GW105 := n3_; have GE105 := n4_; clear n0_ n1_ n2_ n3_ n4_; clear hb hbox hg; have hcz32_0 : w31.cell? ⟨gb105, 0, none⟩ = some (.string (⟨#[]⟩ : ByteArray)) := (blk_cell BK105.out 0).trans rfl; have hcz32_1 : w31.cell? ⟨gb105, 1, none⟩ = some (.string (⟨#[]⟩ : ByteArray)) := (blk_cell BK105.out 1).trans rfl; have hfz32_0 := blk_frozen BK105.out 0; have hfz32_1 := blk_frozen BK105.out 1) | ((with_reducible refine gate_callee (f := 13) rfl ?_); refine goesL_ (some 18) rfl rfl Try.func13 (by kernel_rfl) rfl #[.agg #[.string ((rd_T39 l0 x10_1).f0), .string ((rd_T39 l0 x10_1).f1)]] rfl (by (try simp only [List.map_toArray, List.map_cons, List.map_nil]); first | done | rfl | (simp only [List.length_drop, List.length_take]; rfl)) ?_; (with_reducible refine (control_Good.calls ((rd_T39 l0 x10_1).f0) ((rd_T39 l0 x10_1).f1) true _ A5.out).mono ?_); rintro e w33 ⟨rfl, hb⟩; refine ⟨_, rfl, ?_⟩; have n0_ := Aside0.mk (Kd.R_below (by (with_reducible repeat (first | apply Kd.R_alloc | apply Kd.R_drewN | apply Kd.R_drew)); exact (Kd.R_mono (Kd.R_far (p := ⟨gb105, 1, none⟩) (Kd.R_far (p := ⟨gb105, 0, none⟩) (Kd.R_types HO_4.out BK105.out (by decide)) (fun _ hk => hk.2) (.string ((rd_T39 l0 x10_1).f0))) (fun _ hk => hk.2) (.string ((rd_T39 l0 x10_1).f1))) (fun _ h_ => h_.1))) hb); have n1_ := Aside0.mk (blk_below (g := gb105) (o := .cells #[.string ((rd_T39 l0 x10_1).f0), .string ((rd_T39 l0 x10_1).f1)] 39 (0, 0)) (by (with_reducible repeat (first | refine blk_drewN ?_ _ | refine blk_drew ?_ | refine blk_alloc ?_ _)); refine blk_put (cs := #[.string ((rd_T39 l0 x10_1).f0), .string (⟨#[]⟩ : ByteArray)]) ?_ 1 _ rfl; (with_reducible repeat (first | refine blk_drewN ?_ _ | refine blk_drew ?_ | refine blk_alloc ?_ _)); refine blk_put (cs := #[.string (⟨#[]⟩ : ByteArray), .string (⟨#[]⟩ : ByteArray)]) ?_ 0 _ rfl; (with_reducible repeat (first | refine blk_drewN ?_ _ | refine blk_drew ?_ | refine blk_alloc ?_ _)); exact BK105.out) hb); have n2_ := Aside0.mk (below_step (by repeat (first | (with_reducible first | exact HB.out | apply below_alloc | apply pw_below_drewN | apply below_drew1 | refine below_set ?_ GE105.out) | exact HB.out)) hb); clear HO_4; clear BK105; clear HB; have HO_4 := n0_; have BK105 := n1_; have HB := n2_; clear n0_ n1_ n2_; (try clear hb); (try clear hb2); (try clear hk); (try clear hi)) | ((with_reducible refine gate_callee (f := 17) rfl ?_); refine goesL_ (some 22) rfl rfl Try.func17 (by kernel_rfl) rfl #[.string ((rd_T39 l0 x10_1).f1), .string (⟨#[32, 44]⟩ : ByteArray)] rfl (by (try simp only [List.map_toArray, List.map_cons, List.map_nil]); first | done | rfl | (simp only [List.length_drop, List.length_take]; rfl)) ?_; (with_reducible refine (strings_ContainsAny.calls ((rd_T39 l0 x10_1).f1) (⟨#[32, 44]⟩ : ByteArray) false _ A7.out).mono ?_); rintro e w34 ⟨rfl, hb⟩; refine ⟨_, rfl, ?_⟩; have n0_ := Aside0.mk (Kd.R_below (by (with_reducible repeat (first | apply Kd.R_alloc | apply Kd.R_drewN | apply Kd.R_drew)); exact HO_4.out) hb); have n1_ := Aside0.mk (blk_below (g := gb105) (o := .cells #[.string ((rd_T39 l0 x10_1).f0), .string ((rd_T39 l0 x10_1).f1)] 39 (0, 0)) (by (with_reducible repeat (first | refine blk_drewN ?_ _ | refine blk_drew ?_ | refine blk_alloc ?_ _)); exact BK105.out) hb); have n2_ := Aside0.mk (below_step (by repeat (first | (with_reducible first | exact HB.out | apply below_alloc | apply pw_below_drewN | apply below_drew1 | refine below_set ?_ GE105.out) | exact HB.out)) hb); clear HO_4; clear BK105; clear HB; have HO_4 := n0_; have BK105 := n1_; have HB := n2_; clear n0_ n1_ n2_; (try clear hb); (try clear hb2); (try clear hk); (try clear hi); have hcz35_0 : w34.cell? ⟨gb105, 0, none⟩ = some (.string ((rd_T39 l0 x10_1).f0)) := (blk_cell BK105.out 0).trans rfl; have hcz35_1 : w34.cell? ⟨gb105, 1, none⟩ = some (.string ((rd_T39 l0 x10_1).f1)) := (blk_cell BK105.out 1).trans rfl; have hfz35_0 := blk_frozen BK105.out 0; have hfz35_1 := blk_frozen BK105.out 1) | ((with_reducible refine gate_builtin (b := .append) (xs := #[.tmp 31, .tmp 36]) rfl ?_); at_builtin; refine Kd.R_append Kd.string (w0 := w) w.heap.size rfl (.tmp 31) (.tmp 36) 47 9 (.string ⟨#[]⟩) 16 rfl Try.underlying47 info9 rfl (by decide) (by omega) u4 x4_1 (((rd_T39 l0 x10_1).f0) ++ ((⟨#[61]⟩ : ByteArray) ++ ((rd_T39 l0 x10_1).f1))) [.string (((rd_T39 l0 x10_1).f0) ++ ((⟨#[61]⟩ : ByteArray) ++ ((rd_T39 l0 x10_1).f1)))] (fun _ => True) (fun _ => False) rfl rfl ?aP (fun _ hk => hk.elim) ?aF ?aO ?aB ?aS ?aL ?_; (case aP => exact rfl); (case aB => exact (by repeat (first | (with_reducible first | exact HB.out | apply below_alloc | apply pw_below_drewN | apply below_drew1 | refine below_set ?_ GE105.out) | exact HB.out))); (case aF => exact (fun _ _ => trivial)); (case aO => exact (by (with_reducible repeat (first | apply Kd.R_alloc | apply Kd.R_drewN | apply Kd.R_drew)); exact HO_4.out)); (case aS => exact (below_size (by repeat (first | (with_reducible first | exact HB.out | apply below_alloc | apply pw_below_drewN | apply below_drew1 | refine below_set ?_ GE105.out) | exact HB.out)))); (case aL => have := LMc30.out; omega); intro v115 w36 ho hb hg hat; rw [← Ny114.out] at ho; have n0_ := Aside0.mk (blk_grown (g := gb105) (o := .cells #[.string ((rd_T39 l0 x10_1).f0), .string ((rd_T39 l0 x10_1).f1)] 39 (0, 0)) (by (with_reducible repeat (first | refine blk_drewN ?_ _ | refine blk_drew ?_ | refine blk_alloc ?_ _)); exact BK105.out) hg (Kd.R_ne HO_4.out BK105.out (by decide))); have n1_ := Aside0.mk (hb); have n2_ := Aside0.mk (ho); clear BK105; clear HB; clear HO_4; have BK105 := n0_; have HB := n1_; have HO116 := n2_; clear n0_ n1_ n2_; clear ho hb hg hat))
                        go_roundg k1
                        case measure => have := HK1.out; omega
                        case rel => exact ⟨(y114), (wrap64 (x10_1 + 1)), (by first | rfl | (simp; done) | (simp [*]; done)), H', ⟨by have := HK1.out; omega⟩, ⟨by (with_reducible repeat (first | apply Kd.R_alloc | apply Kd.R_drewN | apply Kd.R_drew)); exact HO116.out⟩, ⟨by repeat (first | (with_reducible first | exact HB.out | apply below_alloc | apply pw_below_drewN | apply below_drew1 | refine below_set ?_ GE105.out) | exact HB.out)⟩⟩
                      · rw [if_neg c30] at H
                        exact absurd H (by simp)
                    · rw [if_neg c29] at H
                      exact absurd H (by simp)
                  · rw [if_neg c28] at H
                    exact absurd H (by simp)
            · replace c6 := Bool.eq_false_iff.mpr c6
              subst c6
              have H1 : (some ((⟨#[]⟩ : ByteArray), 21)) = some (r1, r2) := by rw [if_neg (show ¬ (false = true) by decide)] at H; exact H
              clear H
              have H := H1
              clear H1
              simp only [Option.some.injEq, Prod.mk.injEq] at H
              obtain ⟨rfl, rfl⟩ := H
              have p104 : 0 ≤ (x10_1 : Int) := of_decide_eq_true (by first | (with_reducible assumption) | assumption)
              have q104 : x10_1 < (l0.length : Int) := of_decide_eq_true (by first | (with_reducible assumption) | assumption)
              obtain ⟨ad104, e104, hx104_0, hx104_1⟩ := at_T39 HR0.out x10_1 p104 q104
              cases e104
              replace hx104_0 := (HB.out.cell (World.block_lt_of_cell? w _ hx104_0)).trans hx104_0
              replace hx104_1 := (HB.out.cell (World.block_lt_of_cell? w _ hx104_1)).trans hx104_1
              replace p104 := eq_true p104
              replace q104 := eq_true q104
              go_wp2_with (first | ((with_reducible refine gate_dst (N := 6) rfl ?_); refine box_event ?hg (N := 6) ?hd (cs := #[.string (⟨#[]⟩ : ByteArray), .string (⟨#[]⟩ : ByteArray)]) (t := 39) ?hr ?_; (case hd => rfl); (case hg => rfl); (case hr => first | (go_simp; done) | (go_simp; rfl)); intro gb105 hg w37 hbox hb; have n0_ := Aside0.mk (Kd.R_below (by (with_reducible repeat (first | apply Kd.R_alloc | apply Kd.R_drewN | apply Kd.R_drew)); exact HO_4.out) hb); have n1_ := Aside0.mk (below_step (by repeat (first | (with_reducible first | exact HB.out | apply below_alloc | apply pw_below_drewN | apply below_drew1) | exact HB.out)) hb); have n2_ := Aside0.mk (hbox); have n3_ := Aside0.mk ((by rw [hg]; exact (below_size (by repeat (first | (with_reducible first | exact HB.out | apply below_alloc | apply pw_below_drewN | apply below_drew1) | exact HB.out))) : w.heap.size ≤ gb105)); have n4_ := Aside0.mk ((by rw [hg]; exact (below_size (by repeat (first | (with_reducible first | exact HB.out | apply below_alloc | apply pw_below_drewN | apply below_drew1) | exact HB.out))) : w.heap.size ≤ gb105)); clear HO_4; clear HB; have HO_4 := n0_; have HB := n1_; have BK105 := n2_; have GW105 := n3_; have GE105 := n4_; clear n0_ n1_ n2_ n3_ n4_; clear hb hbox hg; have hcz38_0 : w37.cell? ⟨gb105, 0, none⟩ = some (.string (⟨#[]⟩ : ByteArray)) := (blk_cell BK105.out 0).trans rfl; have hcz38_1 : w37.cell? ⟨gb105, 1, none⟩ = some (.string (⟨#[]⟩ : ByteArray)) := (blk_cell BK105.out 1).trans rfl; have hfz38_0 := blk_frozen BK105.out 0; have hfz38_1 := blk_frozen BK105.out 1) | ((with_reducible refine gate_callee (f := 13) rfl ?_); refine goesL_ (some 18) rfl rfl Try.func13 (by kernel_rfl) rfl #[.agg #[.string ((rd_T39 l0 x10_1).f0), .string ((rd_T39 l0 x10_1).f1)]] rfl (by (try simp only [List.map_toArray, List.map_cons, List.map_nil]); first | done | rfl | (simp only [List.length_drop, List.length_take]; rfl)) ?_; (with_reducible refine (control_Good.calls ((rd_T39 l0 x10_1).f0) ((rd_T39 l0 x10_1).f1) false _ A5.out).mono ?_); rintro e w39 ⟨rfl, hb⟩; refine ⟨_, rfl, ?_⟩; have n0_ := Aside0.mk (Kd.R_below (by (with_reducible repeat (first | apply Kd.R_alloc | apply Kd.R_drewN | apply Kd.R_drew)); exact (Kd.R_mono (Kd.R_far (p := ⟨gb105, 1, none⟩) (Kd.R_far (p := ⟨gb105, 0, none⟩) (Kd.R_types HO_4.out BK105.out (by decide)) (fun _ hk => hk.2) (.string ((rd_T39 l0 x10_1).f0))) (fun _ hk => hk.2) (.string ((rd_T39 l0 x10_1).f1))) (fun _ h_ => h_.1))) hb); have n1_ := Aside0.mk (blk_below (g := gb105) (o := .cells #[.string ((rd_T39 l0 x10_1).f0), .string ((rd_T39 l0 x10_1).f1)] 39 (0, 0)) (by (with_reducible repeat (first | refine blk_drewN ?_ _ | refine blk_drew ?_ | refine blk_alloc ?_ _)); refine blk_put (cs := #[.string ((rd_T39 l0 x10_1).f0), .string (⟨#[]⟩ : ByteArray)]) ?_ 1 _ rfl; (with_reducible repeat (first | refine blk_drewN ?_ _ | refine blk_drew ?_ | refine blk_alloc ?_ _)); refine blk_put (cs := #[.string (⟨#[]⟩ : ByteArray), .string (⟨#[]⟩ : ByteArray)]) ?_ 0 _ rfl; (with_reducible repeat (first | refine blk_drewN ?_ _ | refine blk_drew ?_ | refine blk_alloc ?_ _)); exact BK105.out) hb); have n2_ := Aside0.mk (below_step (by repeat (first | (with_reducible first | exact HB.out | apply below_alloc | apply pw_below_drewN | apply below_drew1 | refine below_set ?_ GE105.out) | exact HB.out)) hb); clear HO_4; clear BK105; clear HB; have HO_4 := n0_; have BK105 := n1_; have HB := n2_; clear n0_ n1_ n2_; (try clear hb); (try clear hb2); (try clear hk); (try clear hi)))
              go_ret2
              exact ⟨by first | rfl | (simp [errW_none, errW_some] <;> rfl) | (simp [*, errW_none, errW_some] <;> rfl), by repeat (first | (with_reducible first | exact HB.out | apply below_alloc | apply pw_below_drewN | apply below_drew1 | refine below_set ?_ GE105.out) | exact HB.out)⟩
          · rw [if_neg c4] at H
            exact absurd H (by simp)
        · rw [if_neg c3] at H
          exact absurd H (by simp)
      · rw [if_neg c2] at H
        have c2b0 : decide (x10_1 < (l0.length : Int)) = false := decide_eq_false c2
        clear c2
        replace H := Option.bind_eq_some_iff.mp H
        obtain ⟨t103, A400, H⟩ := H
        replace H : (some (t103, 0)) = some (r1, r2) := H
        have A40 := Aside0.mk A400
        clear A400
        simp only [Option.some.injEq, Prod.mk.injEq] at H
        obtain ⟨rfl, rfl⟩ := H
        obtain ⟨Ao41, co41, eo41⟩ := Kd.R_slice HO_4.out
        subst eo41
        go_wp2_with (first | ((with_reducible refine gate_callee (f := 18) rfl ?_); refine goesL_ (some 40) rfl rfl Try.func18 (by kernel_rfl) rfl #[.slice Ao41 x4_1.length co41, .string (⟨#[44, 32]⟩ : ByteArray)] rfl (by (try simp only [List.map_toArray, List.map_cons, List.map_nil]); first | done | rfl | (simp only [List.length_drop, List.length_take]; rfl)) ?_; (with_reducible refine (strings_Join.calls _ _ x4_1 (⟨#[44, 32]⟩ : ByteArray) t103 _ ?side1 ?side2 A40.out).mono ?_); (case side1 => repeat (first | exact (Kd.R_reads' HO_4.out).2.2 | (with_reducible refine Kd.C_alloc ?_ _) | (with_reducible refine Kd.C_drewN ?_ _) | (with_reducible refine Kd.C_drew ?_))); (case side2 => exact (Kd.R_reads' HO_4.out).2.1); rintro e w42 ⟨rfl, hb⟩; refine ⟨_, rfl, ?_⟩; have n0_ := Aside0.mk (Kd.R_below (by (with_reducible repeat (first | apply Kd.R_alloc | apply Kd.R_drewN | apply Kd.R_drew)); exact HO_4.out) hb); have n1_ := Aside0.mk (below_step (by repeat (first | (with_reducible first | exact HB.out | apply below_alloc | apply pw_below_drewN | apply below_drew1) | exact HB.out)) hb); clear HO_4; clear HB; have HO_4 := n0_; have HB := n1_; clear n0_ n1_; (try clear hb); (try clear hb2); (try clear hk); (try clear hi)))
        go_ret2
        exact ⟨by first | rfl | (simp [errW_none, errW_some] <;> rfl) | (simp [*, errW_none, errW_some] <;> rfl), by repeat (first | (with_reducible first | exact HB.out | apply below_alloc | apply pw_below_drewN | apply below_drew1) | exact HB.out)⟩

/-! ### foliotref19_name: function 30 -/
def foliotref19_name.l0 : Nat → ByteArray → Int → Option (Bool)
  | 0, _, _ => none
  | k + 1, x0, x3 => if x3 < (x0.size : Int) then (if 0 ≤ x3 then (if (bt x0 x3) ≥ 97 then (if (bt x0 x3) ≤ 122 then (foliotref19_name.l0 k x0 (wrap64 (x3 + 1))) else (if (bt x0 x3) ≥ 48 then (if (bt x0 x3) ≤ 57 then (foliotref19_name.l0 k x0 (wrap64 (x3 + 1))) else (if (bt x0 x3) = 46 then (foliotref19_name.l0 k x0 (wrap64 (x3 + 1))) else (if ((bt x0 x3) = 95) then (foliotref19_name.l0 k x0 (wrap64 (x3 + 1))) else (some false)))) else (if (bt x0 x3) = 46 then (foliotref19_name.l0 k x0 (wrap64 (x3 + 1))) else (if ((bt x0 x3) = 95) then (foliotref19_name.l0 k x0 (wrap64 (x3 + 1))) else (some false))))) else (if (bt x0 x3) ≥ 48 then (if (bt x0 x3) ≤ 57 then (foliotref19_name.l0 k x0 (wrap64 (x3 + 1))) else (if (bt x0 x3) = 46 then (foliotref19_name.l0 k x0 (wrap64 (x3 + 1))) else (if ((bt x0 x3) = 95) then (foliotref19_name.l0 k x0 (wrap64 (x3 + 1))) else (some false)))) else (if (bt x0 x3) = 46 then (foliotref19_name.l0 k x0 (wrap64 (x3 + 1))) else (if ((bt x0 x3) = 95) then (foliotref19_name.l0 k x0 (wrap64 (x3 + 1))) else (some false))))) else (none)) else (if (x0.size : Int) ≥ 1 then (some (decide ((x0.size : Int) ≤ 24))) else (some false))
def foliotref19_name.f (k : Nat) (a0 : ByteArray) : Option (Bool) := foliotref19_name.l0 k a0 0
theorem foliotref19_name.mono_l : ∀ k, (∀ y0 y1, LeO (foliotref19_name.l0 k y0 y1) (foliotref19_name.l0 (k + 1) y0 y1))
  | 0 => fun _ _ r h => by simp [foliotref19_name.l0] at h
  | k + 1 => by
    have ih0 := foliotref19_name.mono_l k
    · intro y0 y1
      unfold foliotref19_name.l0
      repeat' first
      | (with_reducible exact ih0 _ _)
      | (with_reducible exact LeO.refl _)
      | (with_reducible exact LeO.none _)
      | (with_reducible refine LeO.ite ?_ ?_)
      | (with_reducible refine LeO.bind ?_ (fun _ => ?_))
      | exact ih0 _ _
      | exact LeO.none _
      | refine LeO.ite ?_ ?_
      | refine LeO.bind ?_ (fun _ => ?_)
theorem foliotref19_name.mono : ∀ a0 k, LeO (foliotref19_name.f k a0) (foliotref19_name.f (k + 1) a0) := by
  intro a0 k
  have ih0 := foliotref19_name.mono_l k
  unfold foliotref19_name.f
  repeat' first
      | (with_reducible exact ih0 _ _)
      | (with_reducible exact LeO.refl _)
      | (with_reducible exact LeO.none _)
      | (with_reducible refine LeO.ite ?_ ?_)
      | (with_reducible refine LeO.bind ?_ (fun _ => ?_))
      | exact ih0 _ _
      | exact LeO.none _
      | refine LeO.ite ?_ ?_
      | refine LeO.bind ?_ (fun _ => ?_)
set_option maxHeartbeats 8000000 in
set_option maxRecDepth 100000 in
theorem foliotref19_name.calls (k : Nat) (a0 : ByteArray) (r : Bool) (w : World) (h : foliotref19_name.f k a0 = some r) :
    Calls Try.prog 30 #[.string a0] w fun e w' => e = .returned (.bool r) ∧ Drawn0 w w' := by
  have H : (foliotref19_name.l0 k a0 0) = some r := h
  clear h
  have H' := Aside0.mk H
  clear H
  go_enter Try.func30, Try.ntmps30
  go_wp2
  go_loopg [3] k (fun kq v3 w' => ∃ (x3_1 : Int), v3 = .int .i64 x3_1 ∧ Aside0 (foliotref19_name.l0 kq a0 x3_1 = some r) ∧ Aside0 (kq ≤ k) ∧ Drawn0 w w')
  case atStart => exact ⟨(0), (by first | rfl | (simp; done) | (simp [*]; done)), H', ⟨Nat.le_refl _⟩, by repeat (first | exact Drawn0.refl _ | apply Drawn0.step)⟩
  case round =>
    clear H'
    obtain ⟨x3_1, rfl, HA, HK1, ⟨m1, rfl⟩⟩ := hrel
    cases gk with
    | zero => exact absurd HA.out (by simp [foliotref19_name.l0])
    | succ k1 =>
      have H := HA.out
      clear HA
      simp only [foliotref19_name.l0] at H
      by_cases c2 : x3_1 < (a0.size : Int)
      · rw [if_pos c2] at H
        have c2b0 : decide (x3_1 < (a0.size : Int)) = true := decide_eq_true c2
        clear c2
        by_cases c3 : 0 ≤ x3_1
        · rw [if_pos c3] at H
          have c3b0 : decide (0 ≤ x3_1) = true := decide_eq_true c3
          clear c3
          by_cases c5 : (bt a0 x3_1) ≥ 97
          · rw [if_pos c5] at H
            have c5b0 : decide (97 ≤ (bt a0 x3_1)) = true := decide_eq_true c5
            clear c5
            by_cases c6 : (bt a0 x3_1) ≤ 122
            · rw [if_pos c6] at H
              have c6b0 : decide ((bt a0 x3_1) ≤ 122) = true := decide_eq_true c6
              clear c6
              have H' := Aside0.mk H
              clear H
              have p4 : 0 ≤ (x3_1 : Int) := of_decide_eq_true (by first | (with_reducible assumption) | assumption)
              have q4 : x3_1 < (a0.size : Int) := of_decide_eq_true (by first | (with_reducible assumption) | assumption)
              have hx4 := bt_at a0 x3_1
              replace p4 := eq_true p4
              replace q4 := eq_true q4
              go_wp2
              go_roundg k1
              case measure => have := HK1.out; omega
              case rel => exact ⟨(wrap64 (x3_1 + 1)), (by first | rfl | (simp; done) | (simp [*]; done)), H', ⟨by have := HK1.out; omega⟩, by repeat (first | exact Drawn0.refl _ | apply Drawn0.step)⟩
            · rw [if_neg c6] at H
              have c6b0 : decide ((bt a0 x3_1) ≤ 122) = false := decide_eq_false c6
              clear c6
              by_cases c7 : (bt a0 x3_1) ≥ 48
              · rw [if_pos c7] at H
                have c7b0 : decide (48 ≤ (bt a0 x3_1)) = true := decide_eq_true c7
                clear c7
                by_cases c8 : (bt a0 x3_1) ≤ 57
                · rw [if_pos c8] at H
                  have c8b0 : decide ((bt a0 x3_1) ≤ 57) = true := decide_eq_true c8
                  clear c8
                  have H' := Aside0.mk H
                  clear H
                  have p4 : 0 ≤ (x3_1 : Int) := of_decide_eq_true (by first | (with_reducible assumption) | assumption)
                  have q4 : x3_1 < (a0.size : Int) := of_decide_eq_true (by first | (with_reducible assumption) | assumption)
                  have hx4 := bt_at a0 x3_1
                  replace p4 := eq_true p4
                  replace q4 := eq_true q4
                  go_wp2
                  go_roundg k1
                  case measure => have := HK1.out; omega
                  case rel => exact ⟨(wrap64 (x3_1 + 1)), (by first | rfl | (simp; done) | (simp [*]; done)), H', ⟨by have := HK1.out; omega⟩, by repeat (first | exact Drawn0.refl _ | apply Drawn0.step)⟩
                · rw [if_neg c8] at H
                  have c8b0 : decide ((bt a0 x3_1) ≤ 57) = false := decide_eq_false c8
                  clear c8
                  by_cases c9 : (bt a0 x3_1) = 46
                  · rw [if_pos c9] at H
                    have c9b0 : ((bt a0 x3_1) == 46) = true := beq_iff_eq.mpr c9
                    have c9b1 : ((bt a0 x3_1) != 46) = false := bne_eq_false_iff_eq.mpr c9
                    clear c9
                    have H' := Aside0.mk H
                    clear H
                    have p4 : 0 ≤ (x3_1 : Int) := of_decide_eq_true (by first | (with_reducible assumption) | assumption)
                    have q4 : x3_1 < (a0.size : Int) := of_decide_eq_true (by first | (with_reducible assumption) | assumption)
                    have hx4 := bt_at a0 x3_1
                    replace p4 := eq_true p4
                    replace q4 := eq_true q4
                    go_wp2
                    go_roundg k1
                    case measure => have := HK1.out; omega
                    case rel => exact ⟨(wrap64 (x3_1 + 1)), (by first | rfl | (simp; done) | (simp [*]; done)), H', ⟨by have := HK1.out; omega⟩, by repeat (first | exact Drawn0.refl _ | apply Drawn0.step)⟩
                  · rw [if_neg c9] at H
                    have c9b0 : ((bt a0 x3_1) == 46) = false := beq_eq_false_iff_ne.mpr c9
                    have c9b1 : ((bt a0 x3_1) != 46) = true := bne_iff_ne.mpr c9
                    by_cases c10 : ((bt a0 x3_1) = 95)
                    · rw [if_pos c10] at H
                      have c10b0 : ((bt a0 x3_1) == 95) = true := beq_iff_eq.mpr c10
                      have c10b1 : ((bt a0 x3_1) != 95) = false := bne_eq_false_iff_eq.mpr c10
                      clear c10
                      have H' := Aside0.mk H
                      clear H
                      have p4 : 0 ≤ (x3_1 : Int) := of_decide_eq_true (by first | (with_reducible assumption) | assumption)
                      have q4 : x3_1 < (a0.size : Int) := of_decide_eq_true (by first | (with_reducible assumption) | assumption)
                      have hx4 := bt_at a0 x3_1
                      replace p4 := eq_true p4
                      replace q4 := eq_true q4
                      go_wp2
                      go_roundg k1
                      case measure => have := HK1.out; omega
                      case rel => exact ⟨(wrap64 (x3_1 + 1)), (by first | rfl | (simp; done) | (simp [*]; done)), H', ⟨by have := HK1.out; omega⟩, by repeat (first | exact Drawn0.refl _ | apply Drawn0.step)⟩
                    · rw [if_neg c10] at H
                      have c10b0 : ((bt a0 x3_1) == 95) = false := beq_eq_false_iff_ne.mpr c10
                      have c10b1 : ((bt a0 x3_1) != 95) = true := bne_iff_ne.mpr c10
                      obtain rfl := Option.some.inj H
                      have p4 : 0 ≤ (x3_1 : Int) := of_decide_eq_true (by first | (with_reducible assumption) | assumption)
                      have q4 : x3_1 < (a0.size : Int) := of_decide_eq_true (by first | (with_reducible assumption) | assumption)
                      have hx4 := bt_at a0 x3_1
                      replace p4 := eq_true p4
                      replace q4 := eq_true q4
                      go_wp2
                      go_ret
                      exact ⟨by first | rfl | (simp; done) | (simp [*]; done), by repeat (first | exact Drawn0.refl _ | apply Drawn0.step)⟩
              · rw [if_neg c7] at H
                have c7b0 : decide (48 ≤ (bt a0 x3_1)) = false := decide_eq_false c7
                clear c7
                by_cases c11 : (bt a0 x3_1) = 46
                · rw [if_pos c11] at H
                  have c11b0 : ((bt a0 x3_1) == 46) = true := beq_iff_eq.mpr c11
                  have c11b1 : ((bt a0 x3_1) != 46) = false := bne_eq_false_iff_eq.mpr c11
                  clear c11
                  have H' := Aside0.mk H
                  clear H
                  have p4 : 0 ≤ (x3_1 : Int) := of_decide_eq_true (by first | (with_reducible assumption) | assumption)
                  have q4 : x3_1 < (a0.size : Int) := of_decide_eq_true (by first | (with_reducible assumption) | assumption)
                  have hx4 := bt_at a0 x3_1
                  replace p4 := eq_true p4
                  replace q4 := eq_true q4
                  go_wp2
                  go_roundg k1
                  case measure => have := HK1.out; omega
                  case rel => exact ⟨(wrap64 (x3_1 + 1)), (by first | rfl | (simp; done) | (simp [*]; done)), H', ⟨by have := HK1.out; omega⟩, by repeat (first | exact Drawn0.refl _ | apply Drawn0.step)⟩
                · rw [if_neg c11] at H
                  have c11b0 : ((bt a0 x3_1) == 46) = false := beq_eq_false_iff_ne.mpr c11
                  have c11b1 : ((bt a0 x3_1) != 46) = true := bne_iff_ne.mpr c11
                  by_cases c12 : ((bt a0 x3_1) = 95)
                  · rw [if_pos c12] at H
                    have c12b0 : ((bt a0 x3_1) == 95) = true := beq_iff_eq.mpr c12
                    have c12b1 : ((bt a0 x3_1) != 95) = false := bne_eq_false_iff_eq.mpr c12
                    clear c12
                    have H' := Aside0.mk H
                    clear H
                    have p4 : 0 ≤ (x3_1 : Int) := of_decide_eq_true (by first | (with_reducible assumption) | assumption)
                    have q4 : x3_1 < (a0.size : Int) := of_decide_eq_true (by first | (with_reducible assumption) | assumption)
                    have hx4 := bt_at a0 x3_1
                    replace p4 := eq_true p4
                    replace q4 := eq_true q4
                    go_wp2
                    go_roundg k1
                    case measure => have := HK1.out; omega
                    case rel => exact ⟨(wrap64 (x3_1 + 1)), (by first | rfl | (simp; done) | (simp [*]; done)), H', ⟨by have := HK1.out; omega⟩, by repeat (first | exact Drawn0.refl _ | apply Drawn0.step)⟩
                  · rw [if_neg c12] at H
                    have c12b0 : ((bt a0 x3_1) == 95) = false := beq_eq_false_iff_ne.mpr c12
                    have c12b1 : ((bt a0 x3_1) != 95) = true := bne_iff_ne.mpr c12
                    obtain rfl := Option.some.inj H
                    have p4 : 0 ≤ (x3_1 : Int) := of_decide_eq_true (by first | (with_reducible assumption) | assumption)
                    have q4 : x3_1 < (a0.size : Int) := of_decide_eq_true (by first | (with_reducible assumption) | assumption)
                    have hx4 := bt_at a0 x3_1
                    replace p4 := eq_true p4
                    replace q4 := eq_true q4
                    go_wp2
                    go_ret
                    exact ⟨by first | rfl | (simp; done) | (simp [*]; done), by repeat (first | exact Drawn0.refl _ | apply Drawn0.step)⟩
          · rw [if_neg c5] at H
            have c5b0 : decide (97 ≤ (bt a0 x3_1)) = false := decide_eq_false c5
            clear c5
            by_cases c13 : (bt a0 x3_1) ≥ 48
            · rw [if_pos c13] at H
              have c13b0 : decide (48 ≤ (bt a0 x3_1)) = true := decide_eq_true c13
              clear c13
              by_cases c14 : (bt a0 x3_1) ≤ 57
              · rw [if_pos c14] at H
                have c14b0 : decide ((bt a0 x3_1) ≤ 57) = true := decide_eq_true c14
                clear c14
                have H' := Aside0.mk H
                clear H
                have p4 : 0 ≤ (x3_1 : Int) := of_decide_eq_true (by first | (with_reducible assumption) | assumption)
                have q4 : x3_1 < (a0.size : Int) := of_decide_eq_true (by first | (with_reducible assumption) | assumption)
                have hx4 := bt_at a0 x3_1
                replace p4 := eq_true p4
                replace q4 := eq_true q4
                go_wp2
                go_roundg k1
                case measure => have := HK1.out; omega
                case rel => exact ⟨(wrap64 (x3_1 + 1)), (by first | rfl | (simp; done) | (simp [*]; done)), H', ⟨by have := HK1.out; omega⟩, by repeat (first | exact Drawn0.refl _ | apply Drawn0.step)⟩
              · rw [if_neg c14] at H
                have c14b0 : decide ((bt a0 x3_1) ≤ 57) = false := decide_eq_false c14
                clear c14
                by_cases c15 : (bt a0 x3_1) = 46
                · rw [if_pos c15] at H
                  have c15b0 : ((bt a0 x3_1) == 46) = true := beq_iff_eq.mpr c15
                  have c15b1 : ((bt a0 x3_1) != 46) = false := bne_eq_false_iff_eq.mpr c15
                  clear c15
                  have H' := Aside0.mk H
                  clear H
                  have p4 : 0 ≤ (x3_1 : Int) := of_decide_eq_true (by first | (with_reducible assumption) | assumption)
                  have q4 : x3_1 < (a0.size : Int) := of_decide_eq_true (by first | (with_reducible assumption) | assumption)
                  have hx4 := bt_at a0 x3_1
                  replace p4 := eq_true p4
                  replace q4 := eq_true q4
                  go_wp2
                  go_roundg k1
                  case measure => have := HK1.out; omega
                  case rel => exact ⟨(wrap64 (x3_1 + 1)), (by first | rfl | (simp; done) | (simp [*]; done)), H', ⟨by have := HK1.out; omega⟩, by repeat (first | exact Drawn0.refl _ | apply Drawn0.step)⟩
                · rw [if_neg c15] at H
                  have c15b0 : ((bt a0 x3_1) == 46) = false := beq_eq_false_iff_ne.mpr c15
                  have c15b1 : ((bt a0 x3_1) != 46) = true := bne_iff_ne.mpr c15
                  by_cases c16 : ((bt a0 x3_1) = 95)
                  · rw [if_pos c16] at H
                    have c16b0 : ((bt a0 x3_1) == 95) = true := beq_iff_eq.mpr c16
                    have c16b1 : ((bt a0 x3_1) != 95) = false := bne_eq_false_iff_eq.mpr c16
                    clear c16
                    have H' := Aside0.mk H
                    clear H
                    have p4 : 0 ≤ (x3_1 : Int) := of_decide_eq_true (by first | (with_reducible assumption) | assumption)
                    have q4 : x3_1 < (a0.size : Int) := of_decide_eq_true (by first | (with_reducible assumption) | assumption)
                    have hx4 := bt_at a0 x3_1
                    replace p4 := eq_true p4
                    replace q4 := eq_true q4
                    go_wp2
                    go_roundg k1
                    case measure => have := HK1.out; omega
                    case rel => exact ⟨(wrap64 (x3_1 + 1)), (by first | rfl | (simp; done) | (simp [*]; done)), H', ⟨by have := HK1.out; omega⟩, by repeat (first | exact Drawn0.refl _ | apply Drawn0.step)⟩
                  · rw [if_neg c16] at H
                    have c16b0 : ((bt a0 x3_1) == 95) = false := beq_eq_false_iff_ne.mpr c16
                    have c16b1 : ((bt a0 x3_1) != 95) = true := bne_iff_ne.mpr c16
                    obtain rfl := Option.some.inj H
                    have p4 : 0 ≤ (x3_1 : Int) := of_decide_eq_true (by first | (with_reducible assumption) | assumption)
                    have q4 : x3_1 < (a0.size : Int) := of_decide_eq_true (by first | (with_reducible assumption) | assumption)
                    have hx4 := bt_at a0 x3_1
                    replace p4 := eq_true p4
                    replace q4 := eq_true q4
                    go_wp2
                    go_ret
                    exact ⟨by first | rfl | (simp; done) | (simp [*]; done), by repeat (first | exact Drawn0.refl _ | apply Drawn0.step)⟩
            · rw [if_neg c13] at H
              have c13b0 : decide (48 ≤ (bt a0 x3_1)) = false := decide_eq_false c13
              clear c13
              by_cases c17 : (bt a0 x3_1) = 46
              · rw [if_pos c17] at H
                have c17b0 : ((bt a0 x3_1) == 46) = true := beq_iff_eq.mpr c17
                have c17b1 : ((bt a0 x3_1) != 46) = false := bne_eq_false_iff_eq.mpr c17
                clear c17
                have H' := Aside0.mk H
                clear H
                have p4 : 0 ≤ (x3_1 : Int) := of_decide_eq_true (by first | (with_reducible assumption) | assumption)
                have q4 : x3_1 < (a0.size : Int) := of_decide_eq_true (by first | (with_reducible assumption) | assumption)
                have hx4 := bt_at a0 x3_1
                replace p4 := eq_true p4
                replace q4 := eq_true q4
                go_wp2
                go_roundg k1
                case measure => have := HK1.out; omega
                case rel => exact ⟨(wrap64 (x3_1 + 1)), (by first | rfl | (simp; done) | (simp [*]; done)), H', ⟨by have := HK1.out; omega⟩, by repeat (first | exact Drawn0.refl _ | apply Drawn0.step)⟩
              · rw [if_neg c17] at H
                have c17b0 : ((bt a0 x3_1) == 46) = false := beq_eq_false_iff_ne.mpr c17
                have c17b1 : ((bt a0 x3_1) != 46) = true := bne_iff_ne.mpr c17
                by_cases c18 : ((bt a0 x3_1) = 95)
                · rw [if_pos c18] at H
                  have c18b0 : ((bt a0 x3_1) == 95) = true := beq_iff_eq.mpr c18
                  have c18b1 : ((bt a0 x3_1) != 95) = false := bne_eq_false_iff_eq.mpr c18
                  clear c18
                  have H' := Aside0.mk H
                  clear H
                  have p4 : 0 ≤ (x3_1 : Int) := of_decide_eq_true (by first | (with_reducible assumption) | assumption)
                  have q4 : x3_1 < (a0.size : Int) := of_decide_eq_true (by first | (with_reducible assumption) | assumption)
                  have hx4 := bt_at a0 x3_1
                  replace p4 := eq_true p4
                  replace q4 := eq_true q4
                  go_wp2
                  go_roundg k1
                  case measure => have := HK1.out; omega
                  case rel => exact ⟨(wrap64 (x3_1 + 1)), (by first | rfl | (simp; done) | (simp [*]; done)), H', ⟨by have := HK1.out; omega⟩, by repeat (first | exact Drawn0.refl _ | apply Drawn0.step)⟩
                · rw [if_neg c18] at H
                  have c18b0 : ((bt a0 x3_1) == 95) = false := beq_eq_false_iff_ne.mpr c18
                  have c18b1 : ((bt a0 x3_1) != 95) = true := bne_iff_ne.mpr c18
                  obtain rfl := Option.some.inj H
                  have p4 : 0 ≤ (x3_1 : Int) := of_decide_eq_true (by first | (with_reducible assumption) | assumption)
                  have q4 : x3_1 < (a0.size : Int) := of_decide_eq_true (by first | (with_reducible assumption) | assumption)
                  have hx4 := bt_at a0 x3_1
                  replace p4 := eq_true p4
                  replace q4 := eq_true q4
                  go_wp2
                  go_ret
                  exact ⟨by first | rfl | (simp; done) | (simp [*]; done), by repeat (first | exact Drawn0.refl _ | apply Drawn0.step)⟩
        · rw [if_neg c3] at H
          exact absurd H (by simp)
      · rw [if_neg c2] at H
        have c2b0 : decide (x3_1 < (a0.size : Int)) = false := decide_eq_false c2
        clear c2
        by_cases c19 : (a0.size : Int) ≥ 1
        · rw [if_pos c19] at H
          have c19b0 : decide (1 ≤ (a0.size : Int)) = true := decide_eq_true c19
          have c19b1 : decide (1 ≤ a0.size) = true := decide_eq_true (by omega)
          clear c19
          obtain rfl := Option.some.inj H
          go_wp2
          go_ret
          exact ⟨by first | rfl | (simp; done) | (simp [*]; done), by repeat (first | exact Drawn0.refl _ | apply Drawn0.step)⟩
        · rw [if_neg c19] at H
          have c19b0 : decide (1 ≤ (a0.size : Int)) = false := decide_eq_false c19
          have c19b1 : decide (1 ≤ a0.size) = false := decide_eq_false (by omega)
          clear c19
          obtain rfl := Option.some.inj H
          go_wp2
          go_ret
          exact ⟨by first | rfl | (simp; done) | (simp [*]; done), by repeat (first | exact Drawn0.refl _ | apply Drawn0.step)⟩

/-! ### foliotref19_value: function 31 -/
def foliotref19_value.l0 : Nat → ByteArray → Int → Option (Bool)
  | 0, _, _ => none
  | k + 1, x0, x3 => if x3 < (x0.size : Int) then (if 0 ≤ x3 then (if (bt x0 x3) < 32 then (some false) else (if (bt x0 x3) > 126 then (some false) else (if (bt x0 x3) = 34 then (some false) else (foliotref19_value.l0 k x0 (wrap64 (x3 + 1)))))) else (none)) else (some (decide ((x0.size : Int) ≤ 64)))
def foliotref19_value.f (k : Nat) (a0 : ByteArray) : Option (Bool) := foliotref19_value.l0 k a0 0
theorem foliotref19_value.mono_l : ∀ k, (∀ y0 y1, LeO (foliotref19_value.l0 k y0 y1) (foliotref19_value.l0 (k + 1) y0 y1))
  | 0 => fun _ _ r h => by simp [foliotref19_value.l0] at h
  | k + 1 => by
    have ih0 := foliotref19_value.mono_l k
    · intro y0 y1
      unfold foliotref19_value.l0
      repeat' first
      | (with_reducible exact ih0 _ _)
      | (with_reducible exact LeO.refl _)
      | (with_reducible exact LeO.none _)
      | (with_reducible refine LeO.ite ?_ ?_)
      | (with_reducible refine LeO.bind ?_ (fun _ => ?_))
      | exact ih0 _ _
      | exact LeO.none _
      | refine LeO.ite ?_ ?_
      | refine LeO.bind ?_ (fun _ => ?_)
theorem foliotref19_value.mono : ∀ a0 k, LeO (foliotref19_value.f k a0) (foliotref19_value.f (k + 1) a0) := by
  intro a0 k
  have ih0 := foliotref19_value.mono_l k
  unfold foliotref19_value.f
  repeat' first
      | (with_reducible exact ih0 _ _)
      | (with_reducible exact LeO.refl _)
      | (with_reducible exact LeO.none _)
      | (with_reducible refine LeO.ite ?_ ?_)
      | (with_reducible refine LeO.bind ?_ (fun _ => ?_))
      | exact ih0 _ _
      | exact LeO.none _
      | refine LeO.ite ?_ ?_
      | refine LeO.bind ?_ (fun _ => ?_)
set_option maxHeartbeats 8000000 in
set_option maxRecDepth 100000 in
theorem foliotref19_value.calls (k : Nat) (a0 : ByteArray) (r : Bool) (w : World) (h : foliotref19_value.f k a0 = some r) :
    Calls Try.prog 31 #[.string a0] w fun e w' => e = .returned (.bool r) ∧ Drawn0 w w' := by
  have H : (foliotref19_value.l0 k a0 0) = some r := h
  clear h
  have H' := Aside0.mk H
  clear H
  go_enter Try.func31, Try.ntmps31
  go_wp2
  go_loopg [3] k (fun kq v3 w' => ∃ (x3_1 : Int), v3 = .int .i64 x3_1 ∧ Aside0 (foliotref19_value.l0 kq a0 x3_1 = some r) ∧ Aside0 (kq ≤ k) ∧ Drawn0 w w')
  case atStart => exact ⟨(0), (by first | rfl | (simp; done) | (simp [*]; done)), H', ⟨Nat.le_refl _⟩, by repeat (first | exact Drawn0.refl _ | apply Drawn0.step)⟩
  case round =>
    clear H'
    obtain ⟨x3_1, rfl, HA, HK1, ⟨m1, rfl⟩⟩ := hrel
    cases gk with
    | zero => exact absurd HA.out (by simp [foliotref19_value.l0])
    | succ k1 =>
      have H := HA.out
      clear HA
      simp only [foliotref19_value.l0] at H
      by_cases c2 : x3_1 < (a0.size : Int)
      · rw [if_pos c2] at H
        have c2b0 : decide (x3_1 < (a0.size : Int)) = true := decide_eq_true c2
        clear c2
        by_cases c3 : 0 ≤ x3_1
        · rw [if_pos c3] at H
          have c3b0 : decide (0 ≤ x3_1) = true := decide_eq_true c3
          clear c3
          by_cases c5 : (bt a0 x3_1) < 32
          · rw [if_pos c5] at H
            have c5b0 : decide ((bt a0 x3_1) < 32) = true := decide_eq_true c5
            clear c5
            obtain rfl := Option.some.inj H
            have p4 : 0 ≤ (x3_1 : Int) := of_decide_eq_true (by first | (with_reducible assumption) | assumption)
            have q4 : x3_1 < (a0.size : Int) := of_decide_eq_true (by first | (with_reducible assumption) | assumption)
            have hx4 := bt_at a0 x3_1
            replace p4 := eq_true p4
            replace q4 := eq_true q4
            go_wp2
            go_ret
            exact ⟨by first | rfl | (simp; done) | (simp [*]; done), by repeat (first | exact Drawn0.refl _ | apply Drawn0.step)⟩
          · rw [if_neg c5] at H
            have c5b0 : decide ((bt a0 x3_1) < 32) = false := decide_eq_false c5
            clear c5
            by_cases c7 : (bt a0 x3_1) > 126
            · rw [if_pos c7] at H
              have c7b0 : decide (126 < (bt a0 x3_1)) = true := decide_eq_true c7
              clear c7
              obtain rfl := Option.some.inj H
              have p4 : 0 ≤ (x3_1 : Int) := of_decide_eq_true (by first | (with_reducible assumption) | assumption)
              have q4 : x3_1 < (a0.size : Int) := of_decide_eq_true (by first | (with_reducible assumption) | assumption)
              have hx4 := bt_at a0 x3_1
              replace p4 := eq_true p4
              replace q4 := eq_true q4
              have p6 : 0 ≤ (x3_1 : Int) := of_decide_eq_true (by first | (with_reducible assumption) | assumption)
              have q6 : x3_1 < (a0.size : Int) := of_decide_eq_true (by first | (with_reducible assumption) | assumption)
              have hx6 := bt_at a0 x3_1
              replace p6 := eq_true p6
              replace q6 := eq_true q6
              go_wp2
              go_ret
              exact ⟨by first | rfl | (simp; done) | (simp [*]; done), by repeat (first | exact Drawn0.refl _ | apply Drawn0.step)⟩
            · rw [if_neg c7] at H
              have c7b0 : decide (126 < (bt a0 x3_1)) = false := decide_eq_false c7
              clear c7
              by_cases c9 : (bt a0 x3_1) = 34
              · rw [if_pos c9] at H
                have c9b0 : ((bt a0 x3_1) == 34) = true := beq_iff_eq.mpr c9
                have c9b1 : ((bt a0 x3_1) != 34) = false := bne_eq_false_iff_eq.mpr c9
                clear c9
                obtain rfl := Option.some.inj H
                have p4 : 0 ≤ (x3_1 : Int) := of_decide_eq_true (by first | (with_reducible assumption) | assumption)
                have q4 : x3_1 < (a0.size : Int) := of_decide_eq_true (by first | (with_reducible assumption) | assumption)
                have hx4 := bt_at a0 x3_1
                replace p4 := eq_true p4
                replace q4 := eq_true q4
                have p6 : 0 ≤ (x3_1 : Int) := of_decide_eq_true (by first | (with_reducible assumption) | assumption)
                have q6 : x3_1 < (a0.size : Int) := of_decide_eq_true (by first | (with_reducible assumption) | assumption)
                have hx6 := bt_at a0 x3_1
                replace p6 := eq_true p6
                replace q6 := eq_true q6
                have p8 : 0 ≤ (x3_1 : Int) := of_decide_eq_true (by first | (with_reducible assumption) | assumption)
                have q8 : x3_1 < (a0.size : Int) := of_decide_eq_true (by first | (with_reducible assumption) | assumption)
                have hx8 := bt_at a0 x3_1
                replace p8 := eq_true p8
                replace q8 := eq_true q8
                go_wp2
                go_ret
                exact ⟨by first | rfl | (simp; done) | (simp [*]; done), by repeat (first | exact Drawn0.refl _ | apply Drawn0.step)⟩
              · rw [if_neg c9] at H
                have c9b0 : ((bt a0 x3_1) == 34) = false := beq_eq_false_iff_ne.mpr c9
                have c9b1 : ((bt a0 x3_1) != 34) = true := bne_iff_ne.mpr c9
                have H' := Aside0.mk H
                clear H
                have p4 : 0 ≤ (x3_1 : Int) := of_decide_eq_true (by first | (with_reducible assumption) | assumption)
                have q4 : x3_1 < (a0.size : Int) := of_decide_eq_true (by first | (with_reducible assumption) | assumption)
                have hx4 := bt_at a0 x3_1
                replace p4 := eq_true p4
                replace q4 := eq_true q4
                have p6 : 0 ≤ (x3_1 : Int) := of_decide_eq_true (by first | (with_reducible assumption) | assumption)
                have q6 : x3_1 < (a0.size : Int) := of_decide_eq_true (by first | (with_reducible assumption) | assumption)
                have hx6 := bt_at a0 x3_1
                replace p6 := eq_true p6
                replace q6 := eq_true q6
                have p8 : 0 ≤ (x3_1 : Int) := of_decide_eq_true (by first | (with_reducible assumption) | assumption)
                have q8 : x3_1 < (a0.size : Int) := of_decide_eq_true (by first | (with_reducible assumption) | assumption)
                have hx8 := bt_at a0 x3_1
                replace p8 := eq_true p8
                replace q8 := eq_true q8
                go_wp2
                go_roundg k1
                case measure => have := HK1.out; omega
                case rel => exact ⟨(wrap64 (x3_1 + 1)), (by first | rfl | (simp; done) | (simp [*]; done)), H', ⟨by have := HK1.out; omega⟩, by repeat (first | exact Drawn0.refl _ | apply Drawn0.step)⟩
        · rw [if_neg c3] at H
          exact absurd H (by simp)
      · rw [if_neg c2] at H
        have c2b0 : decide (x3_1 < (a0.size : Int)) = false := decide_eq_false c2
        clear c2
        obtain rfl := Option.some.inj H
        go_wp2
        go_ret
        exact ⟨by first | rfl | (simp; done) | (simp [*]; done), by repeat (first | exact Drawn0.refl _ | apply Drawn0.step)⟩

end Go.Proofs.Ytpclhceafigibaa.PAll
