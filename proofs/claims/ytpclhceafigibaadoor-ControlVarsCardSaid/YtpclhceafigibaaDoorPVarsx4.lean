/- Functions and contracts, printed by a program over the kit's print (wip/fprint.py): some callees' contracts are typed by hand in texts of their own. -/
import Derived.Test.YtpclhceafigibaaDoorPVarsx0
namespace Go.Proofs.YtpclhceafigibaaDoor.PVars
open Go.RowKit Go.Proofs.YtpclhceafigibaaDoorW.PrintWords Go.Proofs.YtpclhceafigibaaDoorW.PrintLast Go.Proofs.YtpclhceafigibaaDoorW.PrintMore
attribute [local go_sem] max2_int min2_int max_two min_two max_three min_three max_four min_four   -- for this text's walks alone
set_option linter.unusedVariables false
set_option linter.unusedSimpArgs false

/-! ### foliotref19_natural: function 21 -/
def foliotref19_natural.f : Nat → Int → Option (ByteArray)
  | 0, _ => none
  | k + 1, a0 => if a0 < 10 then (if 0 ≤ a0 then (if a0 ≤ (IntKind.u64.wrap (a0 + 1)) then (if (IntKind.u64.wrap (a0 + 1)) ≤ 10 then (some ((⟨#[48, 49, 50, 51, 52, 53, 54, 55, 56, 57]⟩ : ByteArray).extract (a0 : Int).toNat ((IntKind.u64.wrap (a0 + 1)) : Int).toNat)) else (none)) else (none)) else (none)) else ((foliotref19_natural.f k (IntKind.u64.wrap (Int.tdiv a0 10))).bind fun t147 => (if 0 ≤ (Int.tmod a0 10) then (if (Int.tmod a0 10) ≤ (IntKind.u64.wrap ((Int.tmod a0 10) + 1)) then (if (IntKind.u64.wrap ((Int.tmod a0 10) + 1)) ≤ 10 then (if t147.size + ((⟨#[48, 49, 50, 51, 52, 53, 54, 55, 56, 57]⟩ : ByteArray).extract ((Int.tmod a0 10) : Int).toNat ((IntKind.u64.wrap ((Int.tmod a0 10) + 1)) : Int).toNat).size ≤ 9223372036854775807 then (some (t147 ++ ((⟨#[48, 49, 50, 51, 52, 53, 54, 55, 56, 57]⟩ : ByteArray).extract ((Int.tmod a0 10) : Int).toNat ((IntKind.u64.wrap ((Int.tmod a0 10) + 1)) : Int).toNat))) else (none)) else (none)) else (none)) else (none)))
theorem foliotref19_natural.mono_l : ∀ k, (∀ y0, LeO (foliotref19_natural.f k y0) (foliotref19_natural.f (k + 1) y0))
  | 0 => fun _ r h => by simp [foliotref19_natural.f] at h
  | k + 1 => by
    have ih0 := foliotref19_natural.mono_l k
    · intro y0
      unfold foliotref19_natural.f
      repeat' first
      | (with_reducible exact ih0 _)
      | (with_reducible exact LeO.refl _)
      | (with_reducible exact LeO.none _)
      | (with_reducible refine LeO.ite ?_ ?_)
      | (with_reducible refine LeO.bind ?_ (fun _ => ?_))
      | exact ih0 _
      | exact LeO.none _
      | refine LeO.ite ?_ ?_
      | refine LeO.bind ?_ (fun _ => ?_)
theorem foliotref19_natural.mono : ∀ a0 k, LeO (foliotref19_natural.f k a0) (foliotref19_natural.f (k + 1) a0) := by
  intro a0 k
  have ih0 := foliotref19_natural.mono_l k
  exact ih0 a0
def foliotref19_natural.T3 : Bool × List (List Nat × List Nat) := (true, [([], []), ([0], [0]), ([1], [1]), ([], []), ([3], [3]), ([], []), ([5], [5]), ([6], [6]), ([4, 7], [4, 7]), ([2, 8], [2, 8]), ([9, 2, 0, 1, 2, 3, 4, 5, 6, 7, 8, 9], [9])])
def foliotref19_natural.B3 : List Nat := [0, 1, 3, 0, 8, 0, 32, 96, 248, 511, 1023]
theorem foliotref19_natural.tab3 : rtab .any (opsOf Tryd.f21 3) = foliotref19_natural.T3 := by kernel_rfl
theorem foliotref19_natural.bits3 : waitsOk foliotref19_natural.T3.2 foliotref19_natural.B3 = true := by kernel_rfl
set_option maxHeartbeats 8000000 in
set_option maxRecDepth 100000 in
theorem foliotref19_natural.calls (k : Nat) : ∀ (a0 : Int) (r : ByteArray) (w : World) (h : foliotref19_natural.f k a0 = some r),
    Calls Tryd.prog 21 #[.int .u64 a0] w fun e w' => e = .returned (.string r) ∧ Below w.heap.size w w' := by
  induction k using Nat.strongRecOn with
  | _ k ih =>
  intro a0 r w h
  cases k with
  | zero => exact absurd h (by simp [foliotref19_natural.f])
  | succ k =>
  simp only [foliotref19_natural.f] at h
  have HB := Aside0.mk (Below.refl w.heap.size w)
  have H : (if a0 < 10 then (if 0 ≤ a0 then (if a0 ≤ (IntKind.u64.wrap (a0 + 1)) then (if (IntKind.u64.wrap (a0 + 1)) ≤ 10 then (some ((⟨#[48, 49, 50, 51, 52, 53, 54, 55, 56, 57]⟩ : ByteArray).extract (a0 : Int).toNat ((IntKind.u64.wrap (a0 + 1)) : Int).toNat)) else (none)) else (none)) else (none)) else ((foliotref19_natural.f k (IntKind.u64.wrap (Int.tdiv a0 10))).bind fun t147 => (if 0 ≤ (Int.tmod a0 10) then (if (Int.tmod a0 10) ≤ (IntKind.u64.wrap ((Int.tmod a0 10) + 1)) then (if (IntKind.u64.wrap ((Int.tmod a0 10) + 1)) ≤ 10 then (if t147.size + ((⟨#[48, 49, 50, 51, 52, 53, 54, 55, 56, 57]⟩ : ByteArray).extract ((Int.tmod a0 10) : Int).toNat ((IntKind.u64.wrap ((Int.tmod a0 10) + 1)) : Int).toNat).size ≤ 9223372036854775807 then (some (t147 ++ ((⟨#[48, 49, 50, 51, 52, 53, 54, 55, 56, 57]⟩ : ByteArray).extract ((Int.tmod a0 10) : Int).toNat ((IntKind.u64.wrap ((Int.tmod a0 10) + 1)) : Int).toNat))) else (none)) else (none)) else (none)) else (none)))) = some r := h
  clear h
  by_cases c2 : a0 < 10
  · rw [if_pos c2] at H
    have c2b0 : decide (a0 < 10) = true := decide_eq_true c2
    clear c2
    by_cases c3 : 0 ≤ a0
    · rw [if_pos c3] at H
      have c3b0 := eq_true c3
      have c3b1 : decide (0 ≤ a0) = true := decide_eq_true c3
      clear c3
      by_cases c4 : a0 ≤ (IntKind.u64.wrap (a0 + 1))
      · rw [if_pos c4] at H
        have c4b0 := eq_true c4
        have c4b1 : decide (a0 ≤ (IntKind.u64.wrap (a0 + 1))) = true := decide_eq_true c4
        by_cases c5 : (IntKind.u64.wrap (a0 + 1)) ≤ 10
        · rw [if_pos c5] at H
          have c5b0 := eq_true c5
          have c5b1 : decide ((IntKind.u64.wrap (a0 + 1)) ≤ 10) = true := decide_eq_true c5
          obtain rfl := Option.some.inj H
          go_enter Tryd.func21, Tryd.ntmps21
          go_wp2
          go_ret
          exact ⟨by first | rfl | (simp [errW_none, errW_some] <;> rfl) | (simp [*, errW_none, errW_some] <;> rfl), by repeat (first | (with_reducible first | exact HB.out | apply below_alloc | apply pw_below_drewN | apply below_drew1) | exact HB.out)⟩
        · rw [if_neg c5] at H
          exact absurd H (by simp)
      · rw [if_neg c4] at H
        exact absurd H (by simp)
    · rw [if_neg c3] at H
      exact absurd H (by simp)
  · rw [if_neg c2] at H
    have c2b0 : decide (a0 < 10) = false := decide_eq_false c2
    clear c2
    replace H := Option.bind_eq_some_iff.mp H
    obtain ⟨t147, A60, H⟩ := H
    replace H : (if 0 ≤ (Int.tmod a0 10) then (if (Int.tmod a0 10) ≤ (IntKind.u64.wrap ((Int.tmod a0 10) + 1)) then (if (IntKind.u64.wrap ((Int.tmod a0 10) + 1)) ≤ 10 then (if t147.size + ((⟨#[48, 49, 50, 51, 52, 53, 54, 55, 56, 57]⟩ : ByteArray).extract ((Int.tmod a0 10) : Int).toNat ((IntKind.u64.wrap ((Int.tmod a0 10) + 1)) : Int).toNat).size ≤ 9223372036854775807 then (some (t147 ++ ((⟨#[48, 49, 50, 51, 52, 53, 54, 55, 56, 57]⟩ : ByteArray).extract ((Int.tmod a0 10) : Int).toNat ((IntKind.u64.wrap ((Int.tmod a0 10) + 1)) : Int).toNat))) else (none)) else (none)) else (none)) else (none)) = some r := H
    have A6 := Aside0.mk A60
    clear A60
    obtain ⟨ji7, hji7⟩ : ∃ j_ : Int, (Int.tmod a0 10) = j_ := ⟨_, rfl⟩
    replace H : (if 0 ≤ (ji7) then (if (ji7) ≤ (IntKind.u64.wrap ((ji7) + 1)) then (if (IntKind.u64.wrap ((ji7) + 1)) ≤ 10 then (if t147.size + ((⟨#[48, 49, 50, 51, 52, 53, 54, 55, 56, 57]⟩ : ByteArray).extract ((ji7) : Int).toNat ((IntKind.u64.wrap ((ji7) + 1)) : Int).toNat).size ≤ 9223372036854775807 then (some (t147 ++ ((⟨#[48, 49, 50, 51, 52, 53, 54, 55, 56, 57]⟩ : ByteArray).extract ((ji7) : Int).toNat ((IntKind.u64.wrap ((ji7) + 1)) : Int).toNat))) else (none)) else (none)) else (none)) else (none)) = some r := by first | (rw [hji7] at H; exact H) | (simp only [hji7] at H ⊢; exact H)
    (try rw [hji7] at A6)
    by_cases c8 : 0 ≤ (ji7)
    · rw [if_pos c8] at H
      have c8b0 := eq_true c8
      have c8b1 : decide (0 ≤ (ji7)) = true := decide_eq_true c8
      clear c8
      by_cases c9 : (ji7) ≤ (IntKind.u64.wrap ((ji7) + 1))
      · rw [if_pos c9] at H
        have c9b0 := eq_true c9
        have c9b1 : decide ((ji7) ≤ (IntKind.u64.wrap ((ji7) + 1))) = true := decide_eq_true c9
        by_cases c10 : (IntKind.u64.wrap ((ji7) + 1)) ≤ 10
        · rw [if_pos c10] at H
          have c10b0 := eq_true c10
          have c10b1 : decide ((IntKind.u64.wrap ((ji7) + 1)) ≤ 10) = true := decide_eq_true c10
          by_cases c11 : t147.size + ((⟨#[48, 49, 50, 51, 52, 53, 54, 55, 56, 57]⟩ : ByteArray).extract ((ji7) : Int).toNat ((IntKind.u64.wrap ((ji7) + 1)) : Int).toNat).size ≤ 9223372036854775807
          · rw [if_pos c11] at H
            have c11b0 := eq_true c11
            have c11b1 : decide (t147.size + ((⟨#[48, 49, 50, 51, 52, 53, 54, 55, 56, 57]⟩ : ByteArray).extract ((ji7) : Int).toNat ((IntKind.u64.wrap ((ji7) + 1)) : Int).toNat).size ≤ 9223372036854775807) = true := decide_eq_true c11
            try have c11b2 : (9223372036854775807 < t147.size + ((⟨#[48, 49, 50, 51, 52, 53, 54, 55, 56, 57]⟩ : ByteArray).extract ((ji7) : Int).toNat ((IntKind.u64.wrap ((ji7) + 1)) : Int).toNat).size) = False := eq_false (Nat.not_lt.2 c11)
            try (have c11b9 := c11; simp [go_sem] at c11b9)
            try (have c11b8 := eq_false (Nat.not_lt.2 (show t147.size + (Int.toNat ((IntKind.u64.wrap ((ji7) + 1))) - Int.toNat ((ji7))) ≤ 9223372036854775807 from (by have h9_ := c11b9; omega))))
            obtain rfl := Option.some.inj H
            go_enter Tryd.func21, Tryd.ntmps21
            try go_wp2
            have n0_ := Aside0.mk (below_drew1 HB.out)
            clear HB
            have HB := n0_
            clear n0_
            refine start_ (n := 11) (S := fun w' => True) (ds := []) #[false, false, false, false, false, false, false, false, false, false, false] (by kernel_rfl) rfl rfl trivial (fun hHeld => ?_); refine with_tabW foliotref19_natural.tab3 foliotref19_natural.bits3 (fun HT_ HW_ => ?_)
            generalize w.drew = w12 at HB hHeld ⊢
            refine pure_ (i := 0) (N := some 9) (v := ?_) (a' := ?_) #[true, false, false, false, false, false, false, false, false, false, false] rfl rfl (any_of HT_.out (by kernel_rfl)) (fun _ _ _ h => h) (Or.inl ⟨by rfl, ?_⟩) ?_ ?_
            rotate_left
            · intro w'
              go_simp
              with_reducible rfl
            rotate_left
            · simp only [Act.put, List.setIfInBounds_toArray, List.set_cons_zero, List.set_cons_succ, i64_w, i32_w]
              rfl
            refine pure_ (i := 1) (N := some 10) (v := ?_) (a' := ?_) #[true, true, false, false, false, false, false, false, false, false, false] rfl rfl (any_of HT_.out (by kernel_rfl)) (fun _ _ _ h => h) (Or.inl ⟨by rfl, ?_⟩) ?_ ?_
            rotate_left
            · intro w'
              go_simp
              with_reducible rfl
            rotate_left
            · simp only [Act.put, List.setIfInBounds_toArray, List.set_cons_zero, List.set_cons_succ, i64_w, i32_w]
              rfl
            refine pure_ (i := 3) (N := some 12) (v := ?_) (a' := ?_) #[true, true, false, true, false, false, false, false, false, false, false] rfl rfl (any_of HT_.out (by kernel_rfl)) (fun _ _ _ h => h) (Or.inl ⟨by rfl, ?_⟩) ?_ ?_
            rotate_left
            · intro w'
              go_simp
              with_reducible rfl
            rotate_left
            · simp only [Act.put, List.setIfInBounds_toArray, List.set_cons_zero, List.set_cons_succ, i64_w, i32_w]
              rfl
            refine pure_ (i := 4) (N := some 13) (v := ?_) (a' := ?_) #[true, true, false, true, true, false, false, false, false, false, false] rfl rfl (any_of HT_.out (by kernel_rfl)) (fun _ _ _ h => h) (Or.inl ⟨by rfl, ?_⟩) ?_ ?_
            rotate_left
            · intro w'
              go_simp
              with_reducible rfl
            rotate_left
            · simp only [Act.put, List.setIfInBounds_toArray, List.set_cons_zero, List.set_cons_succ, i64_w, i32_w]
              rfl
            refine pure_ (i := 5) (N := some 14) (v := ?_) (a' := ?_) #[true, true, false, true, true, true, false, false, false, false, false] rfl rfl (any_of HT_.out (by kernel_rfl)) (fun _ _ _ h => h) (Or.inl ⟨by rfl, ?_⟩) ?_ ?_
            rotate_left
            · intro w'
              go_simp
              with_reducible rfl
            rotate_left
            · simp only [Act.put, List.setIfInBounds_toArray, List.set_cons_zero, List.set_cons_succ, i64_w, i32_w]
              rfl
            refine pure_ (i := 6) (N := some 15) (v := ?_) (a' := ?_) #[true, true, false, true, true, true, true, false, false, false, false] rfl rfl (any_of HT_.out (by kernel_rfl)) (fun _ _ _ h => h) (Or.inl ⟨by rfl, ?_⟩) ?_ ?_
            rotate_left
            · intro w'
              go_simp
              with_reducible rfl
            rotate_left
            · simp only [Act.put, List.setIfInBounds_toArray, List.set_cons_zero, List.set_cons_succ, i64_w, i32_w]
              rfl
            refine pure_ (i := 7) (N := some 16) (v := ?_) (a' := ?_) #[true, true, false, true, true, true, true, true, false, false, false] rfl rfl (any_of HT_.out (by kernel_rfl)) (fun _ _ _ h => h) (Or.inl ⟨by rfl, ?_⟩) ?_ ?_
            rotate_left
            · intro w'
              go_simp
              with_reducible rfl
            rotate_left
            · simp only [Act.put, List.setIfInBounds_toArray, List.set_cons_zero, List.set_cons_succ, i64_w, i32_w]
              rfl
            refine pure_ (i := 8) (N := some 17) (v := ?_) (a' := ?_) #[true, true, false, true, true, true, true, true, true, false, false] rfl rfl (any_of HT_.out (by kernel_rfl)) (fun _ _ _ h => h) (Or.inl ⟨by rfl, ?_⟩) ?_ ?_
            rotate_left
            · intro w'
              go_simp
              with_reducible rfl
            rotate_left
            · simp only [Act.put, List.setIfInBounds_toArray, List.set_cons_zero, List.set_cons_succ, i64_w, i32_w]
              rfl
            refine one_ (i := 2) (N := some 11) #[true, true, true, true, true, true, true, true, true, false, false] rfl rfl (one_of HT_.out (by kernel_rfl)) (by decide) (fun K hK => ?_)
            refine goes_ Tryd.func21 (by kernel_rfl) rfl #[.int .u64 (IntKind.u64.wrap (Int.tdiv a0 10))] (by rfl) rfl rfl (by (try simp only [List.map_toArray, List.map_cons, List.map_nil]); first | done | rfl | (simp only [List.length_drop, List.length_take]; rfl)) ?_
            with_reducible refine (ih k (by omega) (IntKind.u64.wrap (Int.tdiv a0 10)) t147 _ A6.out).mono ?_
            rintro e w13 ⟨rfl, hb⟩
            refine ⟨_, rfl, ?_⟩
            have n0_ := Aside0.mk (below_step (by repeat (first | (with_reducible first | exact HB.out | apply below_alloc | apply pw_below_drewN | apply below_drew1) | exact HB.out)) hb)
            clear HB
            have HB := n0_
            clear n0_
            (try clear hb)
            (try clear hb2)
            (try clear hk)
            (try clear hi)
            refine hK.out _ _ trivial (fun hHeld => ?_)
            clear hK K
            refine norm_ (a' := ?_) ?_ ?_
            rotate_left
            · show Act.put _ (some 11) _ = _
              simp only [Act.put, List.setIfInBounds_toArray, List.set_cons_zero, List.set_cons_succ, i64_w, i32_w]
              rfl
            refine pure_ (i := 9) (N := some 18) (v := ?_) (a' := ?_) #[true, true, true, true, true, true, true, true, true, true, false] rfl rfl (any_of HT_.out (by kernel_rfl)) (fun _ _ _ h => h) (Or.inl ⟨by rfl, ?_⟩) ?_ ?_
            rotate_left
            · intro w'
              go_simp
              with_reducible rfl
            rotate_left
            · simp only [Act.put, List.setIfInBounds_toArray, List.set_cons_zero, List.set_cons_succ, i64_w, i32_w]
              rfl
            refine pure_ (i := 10) (N := some 2) (v := ?_) (a' := ?_) #[true, true, true, true, true, true, true, true, true, true, true] rfl rfl (any_of HT_.out (by kernel_rfl)) (fun _ _ _ h => h) (Or.inl ⟨by rfl, ?_⟩) ?_ ?_
            rotate_left
            · intro w'
              go_simp
              with_reducible rfl
            rotate_left
            · simp only [Act.put, List.setIfInBounds_toArray, List.set_cons_zero, List.set_cons_succ, i64_w, i32_w]
              rfl
            refine done_ (done_of HT_.out (by kernel_rfl)) ?_
            try go_wp2
            go_ret
            exact ⟨by first | rfl | (simp [errW_none, errW_some] <;> rfl) | (simp only [← hji7]; first | rfl | (simp [errW_none, errW_some] <;> rfl)) | (simp [*, errW_none, errW_some] <;> rfl), by repeat (first | (with_reducible first | exact HB.out | apply below_alloc | apply pw_below_drewN | apply below_drew1) | exact HB.out)⟩
          · rw [if_neg c11] at H
            exact absurd H (by simp)
        · rw [if_neg c10] at H
          exact absurd H (by simp)
      · rw [if_neg c9] at H
        exact absurd H (by simp)
    · rw [if_neg c8] at H
      exact absurd H (by simp)

/-! ### foliotref19_Number: function 11 -/
def foliotref19_Number.f (k : Nat) (a0 : Int) : Option (ByteArray) := if a0 < 0 then ((foliotref19_natural.f k (IntKind.u64.wrap ((IntKind.u64.wrap (wrap64 (-(wrap64 (a0 + 1))))) + 1))).bind fun t148 => (if 1 + t148.size ≤ 9223372036854775807 then (some ((⟨#[45]⟩ : ByteArray) ++ t148)) else (none))) else ((foliotref19_natural.f k (IntKind.u64.wrap (a0))).bind fun t149 => (some t149))
theorem foliotref19_Number.mono : ∀ a0 k, LeO (foliotref19_Number.f k a0) (foliotref19_Number.f (k + 1) a0) := by
  intro a0 k
  unfold foliotref19_Number.f
  repeat' first
      | (with_reducible exact foliotref19_natural.mono _ _)
      | (with_reducible exact LeO.refl _)
      | (with_reducible exact LeO.none _)
      | (with_reducible refine LeO.ite ?_ ?_)
      | (with_reducible refine LeO.bind ?_ (fun _ => ?_))
      | exact foliotref19_natural.mono _ _
      | exact LeO.none _
      | refine LeO.ite ?_ ?_
      | refine LeO.bind ?_ (fun _ => ?_)
set_option maxHeartbeats 8000000 in
set_option maxRecDepth 100000 in
theorem foliotref19_Number.calls (k : Nat) (a0 : Int) (r : ByteArray) (w : World) (h : foliotref19_Number.f k a0 = some r) :
    Calls Tryd.prog 11 #[.int .i64 a0] w fun e w' => e = .returned (.string r) ∧ Below w.heap.size w w' := by
  have HB := Aside0.mk (Below.refl w.heap.size w)
  have H : (if a0 < 0 then ((foliotref19_natural.f k (IntKind.u64.wrap ((IntKind.u64.wrap (wrap64 (-(wrap64 (a0 + 1))))) + 1))).bind fun t148 => (if 1 + t148.size ≤ 9223372036854775807 then (some ((⟨#[45]⟩ : ByteArray) ++ t148)) else (none))) else ((foliotref19_natural.f k (IntKind.u64.wrap (a0))).bind fun t149 => (some t149))) = some r := h
  clear h
  by_cases c2 : a0 < 0
  · rw [if_pos c2] at H
    have c2b0 : decide (a0 < 0) = true := decide_eq_true c2
    clear c2
    replace H := Option.bind_eq_some_iff.mp H
    obtain ⟨t148, A30, H⟩ := H
    replace H : (if 1 + t148.size ≤ 9223372036854775807 then (some ((⟨#[45]⟩ : ByteArray) ++ t148)) else (none)) = some r := H
    have A3 := Aside0.mk A30
    clear A30
    by_cases c4 : 1 + t148.size ≤ 9223372036854775807
    · rw [if_pos c4] at H
      have c4b0 := eq_true c4
      have c4b1 : decide (1 + t148.size ≤ 9223372036854775807) = true := decide_eq_true c4
      try have c4b2 : (9223372036854775807 < 1 + t148.size) = False := eq_false (Nat.not_lt.2 c4)
      obtain rfl := Option.some.inj H
      go_enter Tryd.func11, Tryd.ntmps11
      go_wp2_with (first | ((with_reducible refine gate_callee (f := 21) rfl ?_); refine goesL_ (some 10) rfl rfl Tryd.func21 (by kernel_rfl) rfl #[.int .u64 (IntKind.u64.wrap ((IntKind.u64.wrap (wrap64 (-(wrap64 (a0 + 1))))) + 1))] rfl (by (try simp only [List.map_toArray, List.map_cons, List.map_nil]); first | done | rfl | (simp only [List.length_drop, List.length_take]; rfl)) ?_; (with_reducible refine (foliotref19_natural.calls k (IntKind.u64.wrap ((IntKind.u64.wrap (wrap64 (-(wrap64 (a0 + 1))))) + 1)) t148 _ A3.out).mono ?_); rintro e w5 ⟨rfl, hb⟩; refine ⟨_, rfl, ?_⟩; have n0_ := Aside0.mk (below_step (by repeat (first | (with_reducible first | exact HB.out | apply below_alloc | apply pw_below_drewN | apply below_drew1) | exact HB.out)) hb); clear HB; have HB := n0_; clear n0_; (try clear hb); (try clear hb2); (try clear hk); (try clear hi)))
      go_ret
      exact ⟨by first | rfl | (simp [errW_none, errW_some] <;> rfl) | (simp [*, errW_none, errW_some] <;> rfl), by repeat (first | (with_reducible first | exact HB.out | apply below_alloc | apply pw_below_drewN | apply below_drew1) | exact HB.out)⟩
    · rw [if_neg c4] at H
      exact absurd H (by simp)
  · rw [if_neg c2] at H
    have c2b0 : decide (a0 < 0) = false := decide_eq_false c2
    clear c2
    replace H := Option.bind_eq_some_iff.mp H
    obtain ⟨t149, A60, H⟩ := H
    replace H : (some t149) = some r := H
    have A6 := Aside0.mk A60
    clear A60
    obtain rfl := Option.some.inj H
    go_enter Tryd.func11, Tryd.ntmps11
    go_wp2_with (first | ((with_reducible refine gate_callee (f := 21) rfl ?_); refine goesL_ (some 14) rfl rfl Tryd.func21 (by kernel_rfl) rfl #[.int .u64 (IntKind.u64.wrap (a0))] rfl (by (try simp only [List.map_toArray, List.map_cons, List.map_nil]); first | done | rfl | (simp only [List.length_drop, List.length_take]; rfl)) ?_; (with_reducible refine (foliotref19_natural.calls k (IntKind.u64.wrap (a0)) t149 _ A6.out).mono ?_); rintro e w7 ⟨rfl, hb⟩; refine ⟨_, rfl, ?_⟩; have n0_ := Aside0.mk (below_step (by repeat (first | (with_reducible first | exact HB.out | apply below_alloc | apply pw_below_drewN | apply below_drew1) | exact HB.out)) hb); clear HB; have HB := n0_; clear n0_; (try clear hb); (try clear hb2); (try clear hk); (try clear hi)))
    go_ret
    exact ⟨by first | rfl | (simp [errW_none, errW_some] <;> rfl) | (simp [*, errW_none, errW_some] <;> rfl), by repeat (first | (with_reducible first | exact HB.out | apply below_alloc | apply pw_below_drewN | apply below_drew1) | exact HB.out)⟩

/-! ### foliotref19_put: function 19 -/
def foliotref19_put.f (l0 : List (S54)) (a1 : ByteArray) (a2 : ByteArray) : Option ((List (S54))) := if l0.length < 4398046511104 then (some (l0 ++ [(⟨a1, a2⟩ : S54)])) else (none)
set_option maxHeartbeats 8000000 in
set_option maxRecDepth 100000 in
theorem foliotref19_put.calls (P0_ : Nat → Prop) (u9000_ : Value) (l0 : List (S54)) (a1 : ByteArray) (a2 : ByteArray) (r : List (S54)) (w0 w : World) (hB : Below w0.heap.size w0 w) (ho0 : Kd.R k54 54 w w0.heap.size P0_ u9000_ l0) (h : foliotref19_put.f l0 a1 a2 = some r) :
    Calls Tryd.prog 19 #[u9000_, .string a1, .string a2] w fun e w' => ∃ v0_ : Value, e = .returned (v0_) ∧ Kd.R k54 54 w' w0.heap.size (fun k_ => (P0_ k_ ∨ w.heap.size ≤ k_)) v0_ r ∧ Below w0.heap.size w0 w' ∧ Kept w w' (fun k_ => P0_ k_) := by
  have hu54 := Tryd.underlying54
  have HO0 := Aside0.mk (show Kd.R k54 54 w w0.heap.size (fun k_ => (P0_ k_ ∨ w.heap.size ≤ k_)) u9000_ l0 from Kd.R_mono ho0 (fun k_ hk => (.inl hk)))
  have HK := Aside0.mk (Kept.refl w (fun k_ => P0_ k_))
  have HW0 := Aside0.mk hB.size
  have HB := Aside0.mk hB
  clear hB
  have H : (if l0.length < 4398046511104 then (some (l0 ++ [(⟨a1, a2⟩ : S54)])) else (none)) = some r := h
  clear h
  by_cases c4 : l0.length < 4398046511104
  · rw [if_pos c4] at H
    have LMc4 := Aside0.mk c4
    clear c4
    obtain ⟨y150, hy150⟩ : ∃ y_ : List (S54), y_ = (l0 ++ [(⟨a1, a2⟩ : S54)]) := ⟨_, rfl⟩
    replace H : (some y150) = some r := by first | (rw [hy150]; with_reducible exact H) | (have H2_ := (Option.bind_some _ _).symm.trans H; rw [hy150]; with_reducible exact H2_) | (have H2_ := (Option.bind_some _ _).symm.trans H; with_reducible exact H2_) | with_reducible exact H | (rw [hy150]; exact H) | exact H
    have Ny150 := Aside0.mk hy150
    clear hy150
    obtain rfl := Option.some.inj H
    go_enter Tryd.func19, Tryd.ntmps19
    go_wp2_with (first | ((with_reducible refine gate_builtin (b := .append) (xs := #[.tmp 7, .tmp 11]) rfl ?_); at_builtin; refine Kd.R_append k54 (w0 := w0) w0.heap.size rfl (.tmp 7) (.tmp 11) 40 54 (.agg #[(.string ⟨#[]⟩), (.string ⟨#[]⟩)]) 32 rfl Tryd.underlying40 info54 rfl (by decide) (by omega) u9000_ l0 (⟨a1, a2⟩ : S54) [.string a1, .string a2] (fun k_ => (P0_ k_ ∨ w.heap.size ≤ k_)) (fun _ => False) rfl rfl ?aP (fun _ hk => hk.elim) ?aF ?aO ?aB ?aS ?aL ?_; (case aP => exact k54_mkM _ _ _ (⟨a1, a2⟩ : S54)); (case aB => exact (by repeat (first | (with_reducible first | exact HB.out | apply below_alloc | apply pw_below_drewN | apply below_drew1) | exact HB.out))); (case aF => exact (fun k_ hk => (.inr (Nat.le_trans (by first | exact HK.out.1 | exact (show Kept w _ (fun k_ => P0_ k_) from by repeat (first | (with_reducible first | exact HK.out | apply Kept.alloc | apply Kept.drewN | apply Kept.drew) | exact HK.out)).1) hk)))); (case aO => exact (by (with_reducible repeat (first | apply Kd.R_alloc | apply Kd.R_drewN | apply Kd.R_drew)); exact HO0.out)); (case aS => exact (below_size (by repeat (first | (with_reducible first | exact HB.out | apply below_alloc | apply pw_below_drewN | apply below_drew1) | exact HB.out)))); (case aL => have := LMc4.out; omega); intro v151 w5 ho hb hg hat; rw [← Ny150.out] at ho; have n0_ := Aside0.mk (hb); have n1_ := Aside0.mk (Kept.of_grown (S := (fun k_ => P0_ k_)) hg (by repeat (first | (with_reducible first | exact HK.out | apply Kept.alloc | apply Kept.drewN | apply Kept.drew) | exact HK.out)) (fun k_ e_ => (HO0.out.1 k_ e_))); have n2_ := Aside0.mk (ho); clear HB; clear HK; clear HO0; have HB := n0_; have HK := n1_; have HO152 := n2_; clear n0_ n1_ n2_; clear ho hb hg hat))
    go_ret
    exact ⟨_, by first | rfl | (simp [errW_none, errW_some] <;> rfl) | (simp [*, errW_none, errW_some] <;> rfl), by (with_reducible repeat (first | apply Kd.R_alloc | apply Kd.R_drewN | apply Kd.R_drew)); exact HO152.out, by repeat (first | (with_reducible first | exact HB.out | apply below_alloc | apply pw_below_drewN | apply below_drew1) | exact HB.out), by repeat (first | (with_reducible first | exact HK.out | apply Kept.alloc | apply Kept.drewN | apply Kept.drew) | exact HK.out)⟩
  · rw [if_neg c4] at H
    exact absurd H (by simp)

/-! ### foliotref05_digits: function 28 -/
def foliotref05_digits.f : Nat → Int → Option (ByteArray)
  | 0, _ => none
  | k + 1, a0 => if a0 < 10 then (if 0 ≤ a0 then (if a0 ≤ (wrap64 (a0 + 1)) then (if (wrap64 (a0 + 1)) ≤ 10 then (some ((⟨#[48, 49, 50, 51, 52, 53, 54, 55, 56, 57]⟩ : ByteArray).extract (a0 : Int).toNat ((wrap64 (a0 + 1)) : Int).toNat)) else (none)) else (none)) else (none)) else ((foliotref05_digits.f k (wrap64 (Int.tdiv a0 10))).bind fun t153 => (if 0 ≤ (Int.tmod a0 10) then (if (Int.tmod a0 10) ≤ (wrap64 ((Int.tmod a0 10) + 1)) then (if (wrap64 ((Int.tmod a0 10) + 1)) ≤ 10 then (if t153.size + ((⟨#[48, 49, 50, 51, 52, 53, 54, 55, 56, 57]⟩ : ByteArray).extract ((Int.tmod a0 10) : Int).toNat ((wrap64 ((Int.tmod a0 10) + 1)) : Int).toNat).size ≤ 9223372036854775807 then (some (t153 ++ ((⟨#[48, 49, 50, 51, 52, 53, 54, 55, 56, 57]⟩ : ByteArray).extract ((Int.tmod a0 10) : Int).toNat ((wrap64 ((Int.tmod a0 10) + 1)) : Int).toNat))) else (none)) else (none)) else (none)) else (none)))
theorem foliotref05_digits.mono_l : ∀ k, (∀ y0, LeO (foliotref05_digits.f k y0) (foliotref05_digits.f (k + 1) y0))
  | 0 => fun _ r h => by simp [foliotref05_digits.f] at h
  | k + 1 => by
    have ih0 := foliotref05_digits.mono_l k
    · intro y0
      unfold foliotref05_digits.f
      repeat' first
      | (with_reducible exact ih0 _)
      | (with_reducible exact LeO.refl _)
      | (with_reducible exact LeO.none _)
      | (with_reducible refine LeO.ite ?_ ?_)
      | (with_reducible refine LeO.bind ?_ (fun _ => ?_))
      | exact ih0 _
      | exact LeO.none _
      | refine LeO.ite ?_ ?_
      | refine LeO.bind ?_ (fun _ => ?_)
theorem foliotref05_digits.mono : ∀ a0 k, LeO (foliotref05_digits.f k a0) (foliotref05_digits.f (k + 1) a0) := by
  intro a0 k
  have ih0 := foliotref05_digits.mono_l k
  exact ih0 a0
def foliotref05_digits.T3 : Bool × List (List Nat × List Nat) := (true, [([], []), ([0], [0]), ([1], [1]), ([], []), ([3], [3]), ([], []), ([5], [5]), ([6], [6]), ([4, 7], [4, 7]), ([2, 8], [2, 8]), ([9, 2, 0, 1, 2, 3, 4, 5, 6, 7, 8, 9], [9])])
def foliotref05_digits.B3 : List Nat := [0, 1, 3, 0, 8, 0, 32, 96, 248, 511, 1023]
theorem foliotref05_digits.tab3 : rtab .any (opsOf Tryd.f28 3) = foliotref05_digits.T3 := by kernel_rfl
theorem foliotref05_digits.bits3 : waitsOk foliotref05_digits.T3.2 foliotref05_digits.B3 = true := by kernel_rfl
set_option maxHeartbeats 8000000 in
set_option maxRecDepth 100000 in
theorem foliotref05_digits.calls (k : Nat) : ∀ (a0 : Int) (r : ByteArray) (w : World) (h : foliotref05_digits.f k a0 = some r),
    Calls Tryd.prog 28 #[.int .i64 a0] w fun e w' => e = .returned (.string r) ∧ Below w.heap.size w w' := by
  induction k using Nat.strongRecOn with
  | _ k ih =>
  intro a0 r w h
  cases k with
  | zero => exact absurd h (by simp [foliotref05_digits.f])
  | succ k =>
  simp only [foliotref05_digits.f] at h
  have HB := Aside0.mk (Below.refl w.heap.size w)
  have H : (if a0 < 10 then (if 0 ≤ a0 then (if a0 ≤ (wrap64 (a0 + 1)) then (if (wrap64 (a0 + 1)) ≤ 10 then (some ((⟨#[48, 49, 50, 51, 52, 53, 54, 55, 56, 57]⟩ : ByteArray).extract (a0 : Int).toNat ((wrap64 (a0 + 1)) : Int).toNat)) else (none)) else (none)) else (none)) else ((foliotref05_digits.f k (wrap64 (Int.tdiv a0 10))).bind fun t153 => (if 0 ≤ (Int.tmod a0 10) then (if (Int.tmod a0 10) ≤ (wrap64 ((Int.tmod a0 10) + 1)) then (if (wrap64 ((Int.tmod a0 10) + 1)) ≤ 10 then (if t153.size + ((⟨#[48, 49, 50, 51, 52, 53, 54, 55, 56, 57]⟩ : ByteArray).extract ((Int.tmod a0 10) : Int).toNat ((wrap64 ((Int.tmod a0 10) + 1)) : Int).toNat).size ≤ 9223372036854775807 then (some (t153 ++ ((⟨#[48, 49, 50, 51, 52, 53, 54, 55, 56, 57]⟩ : ByteArray).extract ((Int.tmod a0 10) : Int).toNat ((wrap64 ((Int.tmod a0 10) + 1)) : Int).toNat))) else (none)) else (none)) else (none)) else (none)))) = some r := h
  clear h
  by_cases c2 : a0 < 10
  · rw [if_pos c2] at H
    have c2b0 : decide (a0 < 10) = true := decide_eq_true c2
    clear c2
    by_cases c3 : 0 ≤ a0
    · rw [if_pos c3] at H
      have c3b0 := eq_true c3
      have c3b1 : decide (0 ≤ a0) = true := decide_eq_true c3
      clear c3
      by_cases c4 : a0 ≤ (wrap64 (a0 + 1))
      · rw [if_pos c4] at H
        have c4b0 := eq_true c4
        have c4b1 : decide (a0 ≤ (wrap64 (a0 + 1))) = true := decide_eq_true c4
        by_cases c5 : (wrap64 (a0 + 1)) ≤ 10
        · rw [if_pos c5] at H
          have c5b0 := eq_true c5
          have c5b1 : decide ((wrap64 (a0 + 1)) ≤ 10) = true := decide_eq_true c5
          obtain rfl := Option.some.inj H
          go_enter Tryd.func28, Tryd.ntmps28
          go_wp2
          go_ret
          exact ⟨by first | rfl | (simp [errW_none, errW_some] <;> rfl) | (simp [*, errW_none, errW_some] <;> rfl), by repeat (first | (with_reducible first | exact HB.out | apply below_alloc | apply pw_below_drewN | apply below_drew1) | exact HB.out)⟩
        · rw [if_neg c5] at H
          exact absurd H (by simp)
      · rw [if_neg c4] at H
        exact absurd H (by simp)
    · rw [if_neg c3] at H
      exact absurd H (by simp)
  · rw [if_neg c2] at H
    have c2b0 : decide (a0 < 10) = false := decide_eq_false c2
    clear c2
    replace H := Option.bind_eq_some_iff.mp H
    obtain ⟨t153, A60, H⟩ := H
    replace H : (if 0 ≤ (Int.tmod a0 10) then (if (Int.tmod a0 10) ≤ (wrap64 ((Int.tmod a0 10) + 1)) then (if (wrap64 ((Int.tmod a0 10) + 1)) ≤ 10 then (if t153.size + ((⟨#[48, 49, 50, 51, 52, 53, 54, 55, 56, 57]⟩ : ByteArray).extract ((Int.tmod a0 10) : Int).toNat ((wrap64 ((Int.tmod a0 10) + 1)) : Int).toNat).size ≤ 9223372036854775807 then (some (t153 ++ ((⟨#[48, 49, 50, 51, 52, 53, 54, 55, 56, 57]⟩ : ByteArray).extract ((Int.tmod a0 10) : Int).toNat ((wrap64 ((Int.tmod a0 10) + 1)) : Int).toNat))) else (none)) else (none)) else (none)) else (none)) = some r := H
    have A6 := Aside0.mk A60
    clear A60
    obtain ⟨ji7, hji7⟩ : ∃ j_ : Int, (Int.tmod a0 10) = j_ := ⟨_, rfl⟩
    replace H : (if 0 ≤ (ji7) then (if (ji7) ≤ (wrap64 ((ji7) + 1)) then (if (wrap64 ((ji7) + 1)) ≤ 10 then (if t153.size + ((⟨#[48, 49, 50, 51, 52, 53, 54, 55, 56, 57]⟩ : ByteArray).extract ((ji7) : Int).toNat ((wrap64 ((ji7) + 1)) : Int).toNat).size ≤ 9223372036854775807 then (some (t153 ++ ((⟨#[48, 49, 50, 51, 52, 53, 54, 55, 56, 57]⟩ : ByteArray).extract ((ji7) : Int).toNat ((wrap64 ((ji7) + 1)) : Int).toNat))) else (none)) else (none)) else (none)) else (none)) = some r := by first | (rw [hji7] at H; exact H) | (simp only [hji7] at H ⊢; exact H)
    (try rw [hji7] at A6)
    by_cases c8 : 0 ≤ (ji7)
    · rw [if_pos c8] at H
      have c8b0 := eq_true c8
      have c8b1 : decide (0 ≤ (ji7)) = true := decide_eq_true c8
      clear c8
      by_cases c9 : (ji7) ≤ (wrap64 ((ji7) + 1))
      · rw [if_pos c9] at H
        have c9b0 := eq_true c9
        have c9b1 : decide ((ji7) ≤ (wrap64 ((ji7) + 1))) = true := decide_eq_true c9
        by_cases c10 : (wrap64 ((ji7) + 1)) ≤ 10
        · rw [if_pos c10] at H
          have c10b0 := eq_true c10
          have c10b1 : decide ((wrap64 ((ji7) + 1)) ≤ 10) = true := decide_eq_true c10
          by_cases c11 : t153.size + ((⟨#[48, 49, 50, 51, 52, 53, 54, 55, 56, 57]⟩ : ByteArray).extract ((ji7) : Int).toNat ((wrap64 ((ji7) + 1)) : Int).toNat).size ≤ 9223372036854775807
          · rw [if_pos c11] at H
            have c11b0 := eq_true c11
            have c11b1 : decide (t153.size + ((⟨#[48, 49, 50, 51, 52, 53, 54, 55, 56, 57]⟩ : ByteArray).extract ((ji7) : Int).toNat ((wrap64 ((ji7) + 1)) : Int).toNat).size ≤ 9223372036854775807) = true := decide_eq_true c11
            try have c11b2 : (9223372036854775807 < t153.size + ((⟨#[48, 49, 50, 51, 52, 53, 54, 55, 56, 57]⟩ : ByteArray).extract ((ji7) : Int).toNat ((wrap64 ((ji7) + 1)) : Int).toNat).size) = False := eq_false (Nat.not_lt.2 c11)
            try (have c11b9 := c11; simp [go_sem] at c11b9)
            try (have c11b8 := eq_false (Nat.not_lt.2 (show t153.size + (Int.toNat ((wrap64 ((ji7) + 1))) - Int.toNat ((ji7))) ≤ 9223372036854775807 from (by have h9_ := c11b9; omega))))
            obtain rfl := Option.some.inj H
            go_enter Tryd.func28, Tryd.ntmps28
            try go_wp2
            have n0_ := Aside0.mk (below_drew1 HB.out)
            clear HB
            have HB := n0_
            clear n0_
            refine start_ (n := 11) (S := fun w' => True) (ds := []) #[false, false, false, false, false, false, false, false, false, false, false] (by kernel_rfl) rfl rfl trivial (fun hHeld => ?_); refine with_tabW foliotref05_digits.tab3 foliotref05_digits.bits3 (fun HT_ HW_ => ?_)
            generalize w.drew = w12 at HB hHeld ⊢
            refine pure_ (i := 0) (N := some 9) (v := ?_) (a' := ?_) #[true, false, false, false, false, false, false, false, false, false, false] rfl rfl (any_of HT_.out (by kernel_rfl)) (fun _ _ _ h => h) (Or.inl ⟨by rfl, ?_⟩) ?_ ?_
            rotate_left
            · intro w'
              go_simp
              with_reducible rfl
            rotate_left
            · simp only [Act.put, List.setIfInBounds_toArray, List.set_cons_zero, List.set_cons_succ, i64_w, i32_w]
              rfl
            refine pure_ (i := 1) (N := some 10) (v := ?_) (a' := ?_) #[true, true, false, false, false, false, false, false, false, false, false] rfl rfl (any_of HT_.out (by kernel_rfl)) (fun _ _ _ h => h) (Or.inl ⟨by rfl, ?_⟩) ?_ ?_
            rotate_left
            · intro w'
              go_simp
              with_reducible rfl
            rotate_left
            · simp only [Act.put, List.setIfInBounds_toArray, List.set_cons_zero, List.set_cons_succ, i64_w, i32_w]
              rfl
            refine pure_ (i := 3) (N := some 12) (v := ?_) (a' := ?_) #[true, true, false, true, false, false, false, false, false, false, false] rfl rfl (any_of HT_.out (by kernel_rfl)) (fun _ _ _ h => h) (Or.inl ⟨by rfl, ?_⟩) ?_ ?_
            rotate_left
            · intro w'
              go_simp
              with_reducible rfl
            rotate_left
            · simp only [Act.put, List.setIfInBounds_toArray, List.set_cons_zero, List.set_cons_succ, i64_w, i32_w]
              rfl
            refine pure_ (i := 4) (N := some 13) (v := ?_) (a' := ?_) #[true, true, false, true, true, false, false, false, false, false, false] rfl rfl (any_of HT_.out (by kernel_rfl)) (fun _ _ _ h => h) (Or.inl ⟨by rfl, ?_⟩) ?_ ?_
            rotate_left
            · intro w'
              go_simp
              with_reducible rfl
            rotate_left
            · simp only [Act.put, List.setIfInBounds_toArray, List.set_cons_zero, List.set_cons_succ, i64_w, i32_w]
              rfl
            refine pure_ (i := 5) (N := some 14) (v := ?_) (a' := ?_) #[true, true, false, true, true, true, false, false, false, false, false] rfl rfl (any_of HT_.out (by kernel_rfl)) (fun _ _ _ h => h) (Or.inl ⟨by rfl, ?_⟩) ?_ ?_
            rotate_left
            · intro w'
              go_simp
              with_reducible rfl
            rotate_left
            · simp only [Act.put, List.setIfInBounds_toArray, List.set_cons_zero, List.set_cons_succ, i64_w, i32_w]
              rfl
            refine pure_ (i := 6) (N := some 15) (v := ?_) (a' := ?_) #[true, true, false, true, true, true, true, false, false, false, false] rfl rfl (any_of HT_.out (by kernel_rfl)) (fun _ _ _ h => h) (Or.inl ⟨by rfl, ?_⟩) ?_ ?_
            rotate_left
            · intro w'
              go_simp
              with_reducible rfl
            rotate_left
            · simp only [Act.put, List.setIfInBounds_toArray, List.set_cons_zero, List.set_cons_succ, i64_w, i32_w]
              rfl
            refine pure_ (i := 7) (N := some 16) (v := ?_) (a' := ?_) #[true, true, false, true, true, true, true, true, false, false, false] rfl rfl (any_of HT_.out (by kernel_rfl)) (fun _ _ _ h => h) (Or.inl ⟨by rfl, ?_⟩) ?_ ?_
            rotate_left
            · intro w'
              go_simp
              with_reducible rfl
            rotate_left
            · simp only [Act.put, List.setIfInBounds_toArray, List.set_cons_zero, List.set_cons_succ, i64_w, i32_w]
              rfl
            refine pure_ (i := 8) (N := some 17) (v := ?_) (a' := ?_) #[true, true, false, true, true, true, true, true, true, false, false] rfl rfl (any_of HT_.out (by kernel_rfl)) (fun _ _ _ h => h) (Or.inl ⟨by rfl, ?_⟩) ?_ ?_
            rotate_left
            · intro w'
              go_simp
              with_reducible rfl
            rotate_left
            · simp only [Act.put, List.setIfInBounds_toArray, List.set_cons_zero, List.set_cons_succ, i64_w, i32_w]
              rfl
            refine one_ (i := 2) (N := some 11) #[true, true, true, true, true, true, true, true, true, false, false] rfl rfl (one_of HT_.out (by kernel_rfl)) (by decide) (fun K hK => ?_)
            refine goes_ Tryd.func28 (by kernel_rfl) rfl #[.int .i64 (wrap64 (Int.tdiv a0 10))] (by rfl) rfl rfl (by (try simp only [List.map_toArray, List.map_cons, List.map_nil]); first | done | rfl | (simp only [List.length_drop, List.length_take]; rfl)) ?_
            with_reducible refine (ih k (by omega) (wrap64 (Int.tdiv a0 10)) t153 _ A6.out).mono ?_
            rintro e w13 ⟨rfl, hb⟩
            refine ⟨_, rfl, ?_⟩
            have n0_ := Aside0.mk (below_step (by repeat (first | (with_reducible first | exact HB.out | apply below_alloc | apply pw_below_drewN | apply below_drew1) | exact HB.out)) hb)
            clear HB
            have HB := n0_
            clear n0_
            (try clear hb)
            (try clear hb2)
            (try clear hk)
            (try clear hi)
            refine hK.out _ _ trivial (fun hHeld => ?_)
            clear hK K
            refine norm_ (a' := ?_) ?_ ?_
            rotate_left
            · show Act.put _ (some 11) _ = _
              simp only [Act.put, List.setIfInBounds_toArray, List.set_cons_zero, List.set_cons_succ, i64_w, i32_w]
              rfl
            refine pure_ (i := 9) (N := some 18) (v := ?_) (a' := ?_) #[true, true, true, true, true, true, true, true, true, true, false] rfl rfl (any_of HT_.out (by kernel_rfl)) (fun _ _ _ h => h) (Or.inl ⟨by rfl, ?_⟩) ?_ ?_
            rotate_left
            · intro w'
              go_simp
              with_reducible rfl
            rotate_left
            · simp only [Act.put, List.setIfInBounds_toArray, List.set_cons_zero, List.set_cons_succ, i64_w, i32_w]
              rfl
            refine pure_ (i := 10) (N := some 2) (v := ?_) (a' := ?_) #[true, true, true, true, true, true, true, true, true, true, true] rfl rfl (any_of HT_.out (by kernel_rfl)) (fun _ _ _ h => h) (Or.inl ⟨by rfl, ?_⟩) ?_ ?_
            rotate_left
            · intro w'
              go_simp
              with_reducible rfl
            rotate_left
            · simp only [Act.put, List.setIfInBounds_toArray, List.set_cons_zero, List.set_cons_succ, i64_w, i32_w]
              rfl
            refine done_ (done_of HT_.out (by kernel_rfl)) ?_
            try go_wp2
            go_ret
            exact ⟨by first | rfl | (simp [errW_none, errW_some] <;> rfl) | (simp only [← hji7]; first | rfl | (simp [errW_none, errW_some] <;> rfl)) | (simp [*, errW_none, errW_some] <;> rfl), by repeat (first | (with_reducible first | exact HB.out | apply below_alloc | apply pw_below_drewN | apply below_drew1) | exact HB.out)⟩
          · rw [if_neg c11] at H
            exact absurd H (by simp)
        · rw [if_neg c10] at H
          exact absurd H (by simp)
      · rw [if_neg c9] at H
        exact absurd H (by simp)
    · rw [if_neg c8] at H
      exact absurd H (by simp)

/-! ### foliotref05_PrintAddr: function 20 -/
def foliotref05_PrintAddr.f (k : Nat) (a0 : Int) : Option (ByteArray) := (foliotref05_digits.f k (wrap64 (a0 / 16777216))).bind fun t154 => (if t154.size + 1 ≤ 9223372036854775807 then ((foliotref05_digits.f k (Int.tmod (wrap64 (a0 / 65536)) 256)).bind fun t155 => (if (t154 ++ (⟨#[46]⟩ : ByteArray)).size + t155.size ≤ 9223372036854775807 then (if ((t154 ++ (⟨#[46]⟩ : ByteArray)) ++ t155).size + 1 ≤ 9223372036854775807 then ((foliotref05_digits.f k (Int.tmod (wrap64 (a0 / 256)) 256)).bind fun t156 => (if (((t154 ++ (⟨#[46]⟩ : ByteArray)) ++ t155) ++ (⟨#[46]⟩ : ByteArray)).size + t156.size ≤ 9223372036854775807 then (if ((((t154 ++ (⟨#[46]⟩ : ByteArray)) ++ t155) ++ (⟨#[46]⟩ : ByteArray)) ++ t156).size + 1 ≤ 9223372036854775807 then ((foliotref05_digits.f k (Int.tmod (wrap64 (a0)) 256)).bind fun t157 => (if (((((t154 ++ (⟨#[46]⟩ : ByteArray)) ++ t155) ++ (⟨#[46]⟩ : ByteArray)) ++ t156) ++ (⟨#[46]⟩ : ByteArray)).size + t157.size ≤ 9223372036854775807 then (some ((((((t154 ++ (⟨#[46]⟩ : ByteArray)) ++ t155) ++ (⟨#[46]⟩ : ByteArray)) ++ t156) ++ (⟨#[46]⟩ : ByteArray)) ++ t157)) else (none))) else (none)) else (none))) else (none)) else (none))) else (none))
theorem foliotref05_PrintAddr.mono : ∀ a0 k, LeO (foliotref05_PrintAddr.f k a0) (foliotref05_PrintAddr.f (k + 1) a0) := by
  intro a0 k
  unfold foliotref05_PrintAddr.f
  repeat' first
      | (with_reducible exact foliotref05_digits.mono _ _)
      | (with_reducible exact LeO.refl _)
      | (with_reducible exact LeO.none _)
      | (with_reducible refine LeO.ite ?_ ?_)
      | (with_reducible refine LeO.bind ?_ (fun _ => ?_))
      | exact foliotref05_digits.mono _ _
      | exact LeO.none _
      | refine LeO.ite ?_ ?_
      | refine LeO.bind ?_ (fun _ => ?_)
set_option maxHeartbeats 8000000 in
set_option maxRecDepth 100000 in
theorem foliotref05_PrintAddr.calls (k : Nat) (a0 : Int) (r : ByteArray) (w : World) (h : foliotref05_PrintAddr.f k a0 = some r) :
    Calls Tryd.prog 20 #[.int .u32 a0] w fun e w' => e = .returned (.string r) ∧ Below w.heap.size w w' := by
  have HB := Aside0.mk (Below.refl w.heap.size w)
  have H : ((foliotref05_digits.f k (wrap64 (a0 / 16777216))).bind fun t154 => (if t154.size + 1 ≤ 9223372036854775807 then ((foliotref05_digits.f k (Int.tmod (wrap64 (a0 / 65536)) 256)).bind fun t155 => (if (t154 ++ (⟨#[46]⟩ : ByteArray)).size + t155.size ≤ 9223372036854775807 then (if ((t154 ++ (⟨#[46]⟩ : ByteArray)) ++ t155).size + 1 ≤ 9223372036854775807 then ((foliotref05_digits.f k (Int.tmod (wrap64 (a0 / 256)) 256)).bind fun t156 => (if (((t154 ++ (⟨#[46]⟩ : ByteArray)) ++ t155) ++ (⟨#[46]⟩ : ByteArray)).size + t156.size ≤ 9223372036854775807 then (if ((((t154 ++ (⟨#[46]⟩ : ByteArray)) ++ t155) ++ (⟨#[46]⟩ : ByteArray)) ++ t156).size + 1 ≤ 9223372036854775807 then ((foliotref05_digits.f k (Int.tmod (wrap64 (a0)) 256)).bind fun t157 => (if (((((t154 ++ (⟨#[46]⟩ : ByteArray)) ++ t155) ++ (⟨#[46]⟩ : ByteArray)) ++ t156) ++ (⟨#[46]⟩ : ByteArray)).size + t157.size ≤ 9223372036854775807 then (some ((((((t154 ++ (⟨#[46]⟩ : ByteArray)) ++ t155) ++ (⟨#[46]⟩ : ByteArray)) ++ t156) ++ (⟨#[46]⟩ : ByteArray)) ++ t157)) else (none))) else (none)) else (none))) else (none)) else (none))) else (none))) = some r := h
  clear h
  replace H := Option.bind_eq_some_iff.mp H
  obtain ⟨t154, A20, H⟩ := H
  replace H : (if t154.size + 1 ≤ 9223372036854775807 then ((foliotref05_digits.f k (Int.tmod (wrap64 (a0 / 65536)) 256)).bind fun t155 => (if (t154 ++ (⟨#[46]⟩ : ByteArray)).size + t155.size ≤ 9223372036854775807 then (if ((t154 ++ (⟨#[46]⟩ : ByteArray)) ++ t155).size + 1 ≤ 9223372036854775807 then ((foliotref05_digits.f k (Int.tmod (wrap64 (a0 / 256)) 256)).bind fun t156 => (if (((t154 ++ (⟨#[46]⟩ : ByteArray)) ++ t155) ++ (⟨#[46]⟩ : ByteArray)).size + t156.size ≤ 9223372036854775807 then (if ((((t154 ++ (⟨#[46]⟩ : ByteArray)) ++ t155) ++ (⟨#[46]⟩ : ByteArray)) ++ t156).size + 1 ≤ 9223372036854775807 then ((foliotref05_digits.f k (Int.tmod (wrap64 (a0)) 256)).bind fun t157 => (if (((((t154 ++ (⟨#[46]⟩ : ByteArray)) ++ t155) ++ (⟨#[46]⟩ : ByteArray)) ++ t156) ++ (⟨#[46]⟩ : ByteArray)).size + t157.size ≤ 9223372036854775807 then (some ((((((t154 ++ (⟨#[46]⟩ : ByteArray)) ++ t155) ++ (⟨#[46]⟩ : ByteArray)) ++ t156) ++ (⟨#[46]⟩ : ByteArray)) ++ t157)) else (none))) else (none)) else (none))) else (none)) else (none))) else (none)) = some r := H
  have A2 := Aside0.mk A20
  clear A20
  by_cases c3 : t154.size + 1 ≤ 9223372036854775807
  · rw [if_pos c3] at H
    have c3b0 := eq_true c3
    have c3b1 : decide (t154.size + 1 ≤ 9223372036854775807) = true := decide_eq_true c3
    try have c3b2 : (9223372036854775807 < t154.size + 1) = False := eq_false (Nat.not_lt.2 c3)
    replace H := Option.bind_eq_some_iff.mp H
    obtain ⟨t155, A40, H⟩ := H
    replace H : (if (t154 ++ (⟨#[46]⟩ : ByteArray)).size + t155.size ≤ 9223372036854775807 then (if ((t154 ++ (⟨#[46]⟩ : ByteArray)) ++ t155).size + 1 ≤ 9223372036854775807 then ((foliotref05_digits.f k (Int.tmod (wrap64 (a0 / 256)) 256)).bind fun t156 => (if (((t154 ++ (⟨#[46]⟩ : ByteArray)) ++ t155) ++ (⟨#[46]⟩ : ByteArray)).size + t156.size ≤ 9223372036854775807 then (if ((((t154 ++ (⟨#[46]⟩ : ByteArray)) ++ t155) ++ (⟨#[46]⟩ : ByteArray)) ++ t156).size + 1 ≤ 9223372036854775807 then ((foliotref05_digits.f k (Int.tmod (wrap64 (a0)) 256)).bind fun t157 => (if (((((t154 ++ (⟨#[46]⟩ : ByteArray)) ++ t155) ++ (⟨#[46]⟩ : ByteArray)) ++ t156) ++ (⟨#[46]⟩ : ByteArray)).size + t157.size ≤ 9223372036854775807 then (some ((((((t154 ++ (⟨#[46]⟩ : ByteArray)) ++ t155) ++ (⟨#[46]⟩ : ByteArray)) ++ t156) ++ (⟨#[46]⟩ : ByteArray)) ++ t157)) else (none))) else (none)) else (none))) else (none)) else (none)) = some r := H
    have A4 := Aside0.mk A40
    clear A40
    by_cases c5 : (t154 ++ (⟨#[46]⟩ : ByteArray)).size + t155.size ≤ 9223372036854775807
    · rw [if_pos c5] at H
      have c5b0 := eq_true c5
      have c5b1 : decide ((t154 ++ (⟨#[46]⟩ : ByteArray)).size + t155.size ≤ 9223372036854775807) = true := decide_eq_true c5
      try have c5b2 : (9223372036854775807 < (t154 ++ (⟨#[46]⟩ : ByteArray)).size + t155.size) = False := eq_false (Nat.not_lt.2 c5)
      try (have c5b9 := c5; simp [go_sem] at c5b9)
      by_cases c6 : ((t154 ++ (⟨#[46]⟩ : ByteArray)) ++ t155).size + 1 ≤ 9223372036854775807
      · rw [if_pos c6] at H
        have c6b0 := eq_true c6
        have c6b1 : decide (((t154 ++ (⟨#[46]⟩ : ByteArray)) ++ t155).size + 1 ≤ 9223372036854775807) = true := decide_eq_true c6
        try have c6b2 : (9223372036854775807 < ((t154 ++ (⟨#[46]⟩ : ByteArray)) ++ t155).size + 1) = False := eq_false (Nat.not_lt.2 c6)
        try (have c6b9 := c6; simp [go_sem] at c6b9)
        replace H := Option.bind_eq_some_iff.mp H
        obtain ⟨t156, A70, H⟩ := H
        replace H : (if (((t154 ++ (⟨#[46]⟩ : ByteArray)) ++ t155) ++ (⟨#[46]⟩ : ByteArray)).size + t156.size ≤ 9223372036854775807 then (if ((((t154 ++ (⟨#[46]⟩ : ByteArray)) ++ t155) ++ (⟨#[46]⟩ : ByteArray)) ++ t156).size + 1 ≤ 9223372036854775807 then ((foliotref05_digits.f k (Int.tmod (wrap64 (a0)) 256)).bind fun t157 => (if (((((t154 ++ (⟨#[46]⟩ : ByteArray)) ++ t155) ++ (⟨#[46]⟩ : ByteArray)) ++ t156) ++ (⟨#[46]⟩ : ByteArray)).size + t157.size ≤ 9223372036854775807 then (some ((((((t154 ++ (⟨#[46]⟩ : ByteArray)) ++ t155) ++ (⟨#[46]⟩ : ByteArray)) ++ t156) ++ (⟨#[46]⟩ : ByteArray)) ++ t157)) else (none))) else (none)) else (none)) = some r := H
        have A7 := Aside0.mk A70
        clear A70
        by_cases c8 : (((t154 ++ (⟨#[46]⟩ : ByteArray)) ++ t155) ++ (⟨#[46]⟩ : ByteArray)).size + t156.size ≤ 9223372036854775807
        · rw [if_pos c8] at H
          have c8b0 := eq_true c8
          have c8b1 : decide ((((t154 ++ (⟨#[46]⟩ : ByteArray)) ++ t155) ++ (⟨#[46]⟩ : ByteArray)).size + t156.size ≤ 9223372036854775807) = true := decide_eq_true c8
          try have c8b2 : (9223372036854775807 < (((t154 ++ (⟨#[46]⟩ : ByteArray)) ++ t155) ++ (⟨#[46]⟩ : ByteArray)).size + t156.size) = False := eq_false (Nat.not_lt.2 c8)
          try (have c8b9 := c8; simp [go_sem] at c8b9)
          by_cases c9 : ((((t154 ++ (⟨#[46]⟩ : ByteArray)) ++ t155) ++ (⟨#[46]⟩ : ByteArray)) ++ t156).size + 1 ≤ 9223372036854775807
          · rw [if_pos c9] at H
            have c9b0 := eq_true c9
            have c9b1 : decide (((((t154 ++ (⟨#[46]⟩ : ByteArray)) ++ t155) ++ (⟨#[46]⟩ : ByteArray)) ++ t156).size + 1 ≤ 9223372036854775807) = true := decide_eq_true c9
            try have c9b2 : (9223372036854775807 < ((((t154 ++ (⟨#[46]⟩ : ByteArray)) ++ t155) ++ (⟨#[46]⟩ : ByteArray)) ++ t156).size + 1) = False := eq_false (Nat.not_lt.2 c9)
            try (have c9b9 := c9; simp [go_sem] at c9b9)
            replace H := Option.bind_eq_some_iff.mp H
            obtain ⟨t157, A100, H⟩ := H
            replace H : (if (((((t154 ++ (⟨#[46]⟩ : ByteArray)) ++ t155) ++ (⟨#[46]⟩ : ByteArray)) ++ t156) ++ (⟨#[46]⟩ : ByteArray)).size + t157.size ≤ 9223372036854775807 then (some ((((((t154 ++ (⟨#[46]⟩ : ByteArray)) ++ t155) ++ (⟨#[46]⟩ : ByteArray)) ++ t156) ++ (⟨#[46]⟩ : ByteArray)) ++ t157)) else (none)) = some r := H
            have A10 := Aside0.mk A100
            clear A100
            by_cases c11 : (((((t154 ++ (⟨#[46]⟩ : ByteArray)) ++ t155) ++ (⟨#[46]⟩ : ByteArray)) ++ t156) ++ (⟨#[46]⟩ : ByteArray)).size + t157.size ≤ 9223372036854775807
            · rw [if_pos c11] at H
              have c11b0 := eq_true c11
              have c11b1 : decide ((((((t154 ++ (⟨#[46]⟩ : ByteArray)) ++ t155) ++ (⟨#[46]⟩ : ByteArray)) ++ t156) ++ (⟨#[46]⟩ : ByteArray)).size + t157.size ≤ 9223372036854775807) = true := decide_eq_true c11
              try have c11b2 : (9223372036854775807 < (((((t154 ++ (⟨#[46]⟩ : ByteArray)) ++ t155) ++ (⟨#[46]⟩ : ByteArray)) ++ t156) ++ (⟨#[46]⟩ : ByteArray)).size + t157.size) = False := eq_false (Nat.not_lt.2 c11)
              try (have c11b9 := c11; simp [go_sem] at c11b9)
              obtain rfl := Option.some.inj H
              go_enter Tryd.func20, Tryd.ntmps20
              go_wp2_with (first | ((with_reducible refine gate_callee (f := 28) rfl ?_); refine goesL_ (some 6) rfl rfl Tryd.func28 (by kernel_rfl) rfl #[.int .i64 (wrap64 (a0 / 16777216))] rfl (by (try simp only [List.map_toArray, List.map_cons, List.map_nil]); first | done | rfl | (simp only [List.length_drop, List.length_take]; rfl)) ?_; (with_reducible refine (foliotref05_digits.calls k (wrap64 (a0 / 16777216)) t154 _ A2.out).mono ?_); rintro e w12 ⟨rfl, hb⟩; refine ⟨_, rfl, ?_⟩; have n0_ := Aside0.mk (below_step (by repeat (first | (with_reducible first | exact HB.out | apply below_alloc | apply pw_below_drewN | apply below_drew1) | exact HB.out)) hb); clear HB; have HB := n0_; clear n0_; (try clear hb); (try clear hb2); (try clear hk); (try clear hi)) | ((with_reducible refine gate_callee (f := 28) rfl ?_); refine goesL_ (some 12) rfl rfl Tryd.func28 (by kernel_rfl) rfl #[.int .i64 (Int.tmod (wrap64 (a0 / 65536)) 256)] rfl (by (try simp only [List.map_toArray, List.map_cons, List.map_nil]); first | done | rfl | (simp only [List.length_drop, List.length_take]; rfl)) ?_; (with_reducible refine (foliotref05_digits.calls k (Int.tmod (wrap64 (a0 / 65536)) 256) t155 _ A4.out).mono ?_); rintro e w13 ⟨rfl, hb⟩; refine ⟨_, rfl, ?_⟩; have n0_ := Aside0.mk (below_step (by repeat (first | (with_reducible first | exact HB.out | apply below_alloc | apply pw_below_drewN | apply below_drew1) | exact HB.out)) hb); clear HB; have HB := n0_; clear n0_; (try clear hb); (try clear hb2); (try clear hk); (try clear hi)) | ((with_reducible refine gate_callee (f := 28) rfl ?_); refine goesL_ (some 19) rfl rfl Tryd.func28 (by kernel_rfl) rfl #[.int .i64 (Int.tmod (wrap64 (a0 / 256)) 256)] rfl (by (try simp only [List.map_toArray, List.map_cons, List.map_nil]); first | done | rfl | (simp only [List.length_drop, List.length_take]; rfl)) ?_; (with_reducible refine (foliotref05_digits.calls k (Int.tmod (wrap64 (a0 / 256)) 256) t156 _ A7.out).mono ?_); rintro e w14 ⟨rfl, hb⟩; refine ⟨_, rfl, ?_⟩; have n0_ := Aside0.mk (below_step (by repeat (first | (with_reducible first | exact HB.out | apply below_alloc | apply pw_below_drewN | apply below_drew1) | exact HB.out)) hb); clear HB; have HB := n0_; clear n0_; (try clear hb); (try clear hb2); (try clear hk); (try clear hi)) | ((with_reducible refine gate_callee (f := 28) rfl ?_); refine goesL_ (some 25) rfl rfl Tryd.func28 (by kernel_rfl) rfl #[.int .i64 (Int.tmod (wrap64 (a0)) 256)] rfl (by (try simp only [List.map_toArray, List.map_cons, List.map_nil]); first | done | rfl | (simp only [List.length_drop, List.length_take]; rfl)) ?_; (with_reducible refine (foliotref05_digits.calls k (Int.tmod (wrap64 (a0)) 256) t157 _ A10.out).mono ?_); rintro e w15 ⟨rfl, hb⟩; refine ⟨_, rfl, ?_⟩; have n0_ := Aside0.mk (below_step (by repeat (first | (with_reducible first | exact HB.out | apply below_alloc | apply pw_below_drewN | apply below_drew1) | exact HB.out)) hb); clear HB; have HB := n0_; clear n0_; (try clear hb); (try clear hb2); (try clear hk); (try clear hi)))
              go_ret
              exact ⟨by first | rfl | (simp [errW_none, errW_some] <;> rfl) | (simp [*, errW_none, errW_some] <;> rfl), by repeat (first | (with_reducible first | exact HB.out | apply below_alloc | apply pw_below_drewN | apply below_drew1) | exact HB.out)⟩
            · rw [if_neg c11] at H
              exact absurd H (by simp)
          · rw [if_neg c9] at H
            exact absurd H (by simp)
        · rw [if_neg c8] at H
          exact absurd H (by simp)
      · rw [if_neg c6] at H
        exact absurd H (by simp)
    · rw [if_neg c5] at H
      exact absurd H (by simp)
  · rw [if_neg c3] at H
    exact absurd H (by simp)

/-! ### foliotref19_SystemVars: function 8 -/
def foliotref19_SystemVars.f (k : Nat) (a0_0 : Int) (a0_1 : Int) (a0_2 : Int) (a0_3 : Int) (a0_4 : Int) (a0_5 : Int) (a0_6 : Int) (a0_7 : Int) (a0_8 : Int) (a0_9 : Int) (a0_10 : Int) : Option ((List (S54))) := (foliotref19_Number.f k a0_0).bind fun t162 => ((foliotref19_put.f (([] : List (S54))) (⟨#[108, 101, 97, 112]⟩ : ByteArray) t162).bind fun t163 => ((foliotref19_Number.f k a0_1).bind fun t166 => ((foliotref19_put.f t163 (⟨#[115, 116, 114, 97, 116, 117, 109]⟩ : ByteArray) t166).bind fun t167 => ((foliotref19_Number.f k (-20)).bind fun t170 => ((foliotref19_put.f t167 (⟨#[112, 114, 101, 99, 105, 115, 105, 111, 110]⟩ : ByteArray) t170).bind fun t171 => ((foliotref19_Number.f k a0_3).bind fun t174 => ((foliotref19_put.f t171 (⟨#[114, 111, 111, 116, 100, 101, 108, 97, 121]⟩ : ByteArray) t174).bind fun t175 => ((foliotref19_Number.f k a0_4).bind fun t178 => ((foliotref19_put.f t175 (⟨#[114, 111, 111, 116, 100, 105, 115, 112]⟩ : ByteArray) t178).bind fun t179 => ((foliotref05_PrintAddr.f k a0_5).bind fun t182 => ((foliotref19_put.f t179 (⟨#[114, 101, 102, 105, 100]⟩ : ByteArray) t182).bind fun t183 => ((foliotref19_natural.f k a0_6).bind fun t186 => ((foliotref19_put.f t183 (⟨#[114, 101, 102, 116, 105, 109, 101]⟩ : ByteArray) t186).bind fun t187 => ((foliotref19_Number.f k a0_9).bind fun t190 => ((foliotref19_put.f t187 (⟨#[112, 101, 101, 114]⟩ : ByteArray) t190).bind fun t191 => ((foliotref19_Number.f k a0_2).bind fun t194 => ((foliotref19_put.f t191 (⟨#[116, 99]⟩ : ByteArray) t194).bind fun t195 => ((foliotref19_Number.f k a0_7).bind fun t198 => ((foliotref19_put.f t195 (⟨#[111, 102, 102, 115, 101, 116]⟩ : ByteArray) t198).bind fun t199 => ((foliotref19_Number.f k a0_10).bind fun t202 => ((foliotref19_put.f t199 (⟨#[102, 114, 101, 113, 117, 101, 110, 99, 121]⟩ : ByteArray) t202).bind fun t203 => ((foliotref19_Number.f k a0_8).bind fun t206 => ((foliotref19_put.f t203 (⟨#[115, 121, 115, 95, 106, 105, 116, 116, 101, 114]⟩ : ByteArray) t206).bind fun t207 => (some t207))))))))))))))))))))))))
theorem foliotref19_SystemVars.mono : ∀ a0 a1 a2 a3 a4 a5 a6 a7 a8 a9 a10 k, LeO (foliotref19_SystemVars.f k a0 a1 a2 a3 a4 a5 a6 a7 a8 a9 a10) (foliotref19_SystemVars.f (k + 1) a0 a1 a2 a3 a4 a5 a6 a7 a8 a9 a10) := by
  intro a0 a1 a2 a3 a4 a5 a6 a7 a8 a9 a10 k
  unfold foliotref19_SystemVars.f
  repeat' first
      | (with_reducible exact foliotref05_PrintAddr.mono _ _)
      | (with_reducible exact foliotref19_Number.mono _ _)
      | (with_reducible exact foliotref19_natural.mono _ _)
      | (with_reducible exact LeO.refl _)
      | (with_reducible exact LeO.none _)
      | (with_reducible refine LeO.ite ?_ ?_)
      | (with_reducible refine LeO.bind ?_ (fun _ => ?_))
      | exact foliotref05_PrintAddr.mono _ _
      | exact foliotref19_Number.mono _ _
      | exact foliotref19_natural.mono _ _
      | exact LeO.none _
      | refine LeO.ite ?_ ?_
      | refine LeO.bind ?_ (fun _ => ?_)
set_option maxHeartbeats 8000000 in
set_option maxRecDepth 100000 in
theorem foliotref19_SystemVars.calls (k : Nat) (a0_0 : Int) (a0_1 : Int) (a0_2 : Int) (a0_3 : Int) (a0_4 : Int) (a0_5 : Int) (a0_6 : Int) (a0_7 : Int) (a0_8 : Int) (a0_9 : Int) (a0_10 : Int) (r : List (S54)) (w : World) (h : foliotref19_SystemVars.f k a0_0 a0_1 a0_2 a0_3 a0_4 a0_5 a0_6 a0_7 a0_8 a0_9 a0_10 = some r) :
    Calls Tryd.prog 8 #[.agg #[.int .i64 a0_0, .int .i64 a0_1, .int .i64 a0_2, .int .i64 a0_3, .int .i64 a0_4, .int .u32 a0_5, .int .u64 a0_6, .int .i64 a0_7, .int .i64 a0_8, .int .i64 a0_9, .int .i64 a0_10]] w fun e w' => ∃ v0_ : Value, e = .returned (v0_) ∧ Kd.R k54 54 w' w.heap.size (fun _ => True) v0_ r ∧ Below w.heap.size w w' := by
  have hu28 := Tryd.underlying28
  have HB := Aside0.mk (Below.refl w.heap.size w)
  have H : ((foliotref19_Number.f k a0_0).bind fun t162 => ((foliotref19_put.f (([] : List (S54))) (⟨#[108, 101, 97, 112]⟩ : ByteArray) t162).bind fun t163 => ((foliotref19_Number.f k a0_1).bind fun t166 => ((foliotref19_put.f t163 (⟨#[115, 116, 114, 97, 116, 117, 109]⟩ : ByteArray) t166).bind fun t167 => ((foliotref19_Number.f k (-20)).bind fun t170 => ((foliotref19_put.f t167 (⟨#[112, 114, 101, 99, 105, 115, 105, 111, 110]⟩ : ByteArray) t170).bind fun t171 => ((foliotref19_Number.f k a0_3).bind fun t174 => ((foliotref19_put.f t171 (⟨#[114, 111, 111, 116, 100, 101, 108, 97, 121]⟩ : ByteArray) t174).bind fun t175 => ((foliotref19_Number.f k a0_4).bind fun t178 => ((foliotref19_put.f t175 (⟨#[114, 111, 111, 116, 100, 105, 115, 112]⟩ : ByteArray) t178).bind fun t179 => ((foliotref05_PrintAddr.f k a0_5).bind fun t182 => ((foliotref19_put.f t179 (⟨#[114, 101, 102, 105, 100]⟩ : ByteArray) t182).bind fun t183 => ((foliotref19_natural.f k a0_6).bind fun t186 => ((foliotref19_put.f t183 (⟨#[114, 101, 102, 116, 105, 109, 101]⟩ : ByteArray) t186).bind fun t187 => ((foliotref19_Number.f k a0_9).bind fun t190 => ((foliotref19_put.f t187 (⟨#[112, 101, 101, 114]⟩ : ByteArray) t190).bind fun t191 => ((foliotref19_Number.f k a0_2).bind fun t194 => ((foliotref19_put.f t191 (⟨#[116, 99]⟩ : ByteArray) t194).bind fun t195 => ((foliotref19_Number.f k a0_7).bind fun t198 => ((foliotref19_put.f t195 (⟨#[111, 102, 102, 115, 101, 116]⟩ : ByteArray) t198).bind fun t199 => ((foliotref19_Number.f k a0_10).bind fun t202 => ((foliotref19_put.f t199 (⟨#[102, 114, 101, 113, 117, 101, 110, 99, 121]⟩ : ByteArray) t202).bind fun t203 => ((foliotref19_Number.f k a0_8).bind fun t206 => ((foliotref19_put.f t203 (⟨#[115, 121, 115, 95, 106, 105, 116, 116, 101, 114]⟩ : ByteArray) t206).bind fun t207 => (some t207))))))))))))))))))))))))) = some r := h
  clear h
  obtain ⟨y159, hy159⟩ : ∃ y_ : List (S54), y_ = (([] : List (S54))) := ⟨_, rfl⟩
  replace H : ((foliotref19_Number.f k a0_0).bind fun t162 => ((foliotref19_put.f y159 (⟨#[108, 101, 97, 112]⟩ : ByteArray) t162).bind fun t163 => ((foliotref19_Number.f k a0_1).bind fun t166 => ((foliotref19_put.f t163 (⟨#[115, 116, 114, 97, 116, 117, 109]⟩ : ByteArray) t166).bind fun t167 => ((foliotref19_Number.f k (-20)).bind fun t170 => ((foliotref19_put.f t167 (⟨#[112, 114, 101, 99, 105, 115, 105, 111, 110]⟩ : ByteArray) t170).bind fun t171 => ((foliotref19_Number.f k a0_3).bind fun t174 => ((foliotref19_put.f t171 (⟨#[114, 111, 111, 116, 100, 101, 108, 97, 121]⟩ : ByteArray) t174).bind fun t175 => ((foliotref19_Number.f k a0_4).bind fun t178 => ((foliotref19_put.f t175 (⟨#[114, 111, 111, 116, 100, 105, 115, 112]⟩ : ByteArray) t178).bind fun t179 => ((foliotref05_PrintAddr.f k a0_5).bind fun t182 => ((foliotref19_put.f t179 (⟨#[114, 101, 102, 105, 100]⟩ : ByteArray) t182).bind fun t183 => ((foliotref19_natural.f k a0_6).bind fun t186 => ((foliotref19_put.f t183 (⟨#[114, 101, 102, 116, 105, 109, 101]⟩ : ByteArray) t186).bind fun t187 => ((foliotref19_Number.f k a0_9).bind fun t190 => ((foliotref19_put.f t187 (⟨#[112, 101, 101, 114]⟩ : ByteArray) t190).bind fun t191 => ((foliotref19_Number.f k a0_2).bind fun t194 => ((foliotref19_put.f t191 (⟨#[116, 99]⟩ : ByteArray) t194).bind fun t195 => ((foliotref19_Number.f k a0_7).bind fun t198 => ((foliotref19_put.f t195 (⟨#[111, 102, 102, 115, 101, 116]⟩ : ByteArray) t198).bind fun t199 => ((foliotref19_Number.f k a0_10).bind fun t202 => ((foliotref19_put.f t199 (⟨#[102, 114, 101, 113, 117, 101, 110, 99, 121]⟩ : ByteArray) t202).bind fun t203 => ((foliotref19_Number.f k a0_8).bind fun t206 => ((foliotref19_put.f t203 (⟨#[115, 121, 115, 95, 106, 105, 116, 116, 101, 114]⟩ : ByteArray) t206).bind fun t207 => (some t207))))))))))))))))))))))))) = some r := by first | (rw [hy159]; with_reducible exact H) | (have H2_ := (Option.bind_some _ _).symm.trans H; rw [hy159]; with_reducible exact H2_) | (have H2_ := (Option.bind_some _ _).symm.trans H; with_reducible exact H2_) | with_reducible exact H | (rw [hy159]; exact H) | exact H
  have Ny159 := Aside0.mk hy159
  clear hy159
  replace H := Option.bind_eq_some_iff.mp H
  obtain ⟨t162, A20, H⟩ := H
  replace H : ((foliotref19_put.f y159 (⟨#[108, 101, 97, 112]⟩ : ByteArray) t162).bind fun t163 => ((foliotref19_Number.f k a0_1).bind fun t166 => ((foliotref19_put.f t163 (⟨#[115, 116, 114, 97, 116, 117, 109]⟩ : ByteArray) t166).bind fun t167 => ((foliotref19_Number.f k (-20)).bind fun t170 => ((foliotref19_put.f t167 (⟨#[112, 114, 101, 99, 105, 115, 105, 111, 110]⟩ : ByteArray) t170).bind fun t171 => ((foliotref19_Number.f k a0_3).bind fun t174 => ((foliotref19_put.f t171 (⟨#[114, 111, 111, 116, 100, 101, 108, 97, 121]⟩ : ByteArray) t174).bind fun t175 => ((foliotref19_Number.f k a0_4).bind fun t178 => ((foliotref19_put.f t175 (⟨#[114, 111, 111, 116, 100, 105, 115, 112]⟩ : ByteArray) t178).bind fun t179 => ((foliotref05_PrintAddr.f k a0_5).bind fun t182 => ((foliotref19_put.f t179 (⟨#[114, 101, 102, 105, 100]⟩ : ByteArray) t182).bind fun t183 => ((foliotref19_natural.f k a0_6).bind fun t186 => ((foliotref19_put.f t183 (⟨#[114, 101, 102, 116, 105, 109, 101]⟩ : ByteArray) t186).bind fun t187 => ((foliotref19_Number.f k a0_9).bind fun t190 => ((foliotref19_put.f t187 (⟨#[112, 101, 101, 114]⟩ : ByteArray) t190).bind fun t191 => ((foliotref19_Number.f k a0_2).bind fun t194 => ((foliotref19_put.f t191 (⟨#[116, 99]⟩ : ByteArray) t194).bind fun t195 => ((foliotref19_Number.f k a0_7).bind fun t198 => ((foliotref19_put.f t195 (⟨#[111, 102, 102, 115, 101, 116]⟩ : ByteArray) t198).bind fun t199 => ((foliotref19_Number.f k a0_10).bind fun t202 => ((foliotref19_put.f t199 (⟨#[102, 114, 101, 113, 117, 101, 110, 99, 121]⟩ : ByteArray) t202).bind fun t203 => ((foliotref19_Number.f k a0_8).bind fun t206 => ((foliotref19_put.f t203 (⟨#[115, 121, 115, 95, 106, 105, 116, 116, 101, 114]⟩ : ByteArray) t206).bind fun t207 => (some t207)))))))))))))))))))))))) = some r := H
  have A2 := Aside0.mk A20
  clear A20
  replace H := Option.bind_eq_some_iff.mp H
  obtain ⟨t163, A30, H⟩ := H
  replace H : ((foliotref19_Number.f k a0_1).bind fun t166 => ((foliotref19_put.f t163 (⟨#[115, 116, 114, 97, 116, 117, 109]⟩ : ByteArray) t166).bind fun t167 => ((foliotref19_Number.f k (-20)).bind fun t170 => ((foliotref19_put.f t167 (⟨#[112, 114, 101, 99, 105, 115, 105, 111, 110]⟩ : ByteArray) t170).bind fun t171 => ((foliotref19_Number.f k a0_3).bind fun t174 => ((foliotref19_put.f t171 (⟨#[114, 111, 111, 116, 100, 101, 108, 97, 121]⟩ : ByteArray) t174).bind fun t175 => ((foliotref19_Number.f k a0_4).bind fun t178 => ((foliotref19_put.f t175 (⟨#[114, 111, 111, 116, 100, 105, 115, 112]⟩ : ByteArray) t178).bind fun t179 => ((foliotref05_PrintAddr.f k a0_5).bind fun t182 => ((foliotref19_put.f t179 (⟨#[114, 101, 102, 105, 100]⟩ : ByteArray) t182).bind fun t183 => ((foliotref19_natural.f k a0_6).bind fun t186 => ((foliotref19_put.f t183 (⟨#[114, 101, 102, 116, 105, 109, 101]⟩ : ByteArray) t186).bind fun t187 => ((foliotref19_Number.f k a0_9).bind fun t190 => ((foliotref19_put.f t187 (⟨#[112, 101, 101, 114]⟩ : ByteArray) t190).bind fun t191 => ((foliotref19_Number.f k a0_2).bind fun t194 => ((foliotref19_put.f t191 (⟨#[116, 99]⟩ : ByteArray) t194).bind fun t195 => ((foliotref19_Number.f k a0_7).bind fun t198 => ((foliotref19_put.f t195 (⟨#[111, 102, 102, 115, 101, 116]⟩ : ByteArray) t198).bind fun t199 => ((foliotref19_Number.f k a0_10).bind fun t202 => ((foliotref19_put.f t199 (⟨#[102, 114, 101, 113, 117, 101, 110, 99, 121]⟩ : ByteArray) t202).bind fun t203 => ((foliotref19_Number.f k a0_8).bind fun t206 => ((foliotref19_put.f t203 (⟨#[115, 121, 115, 95, 106, 105, 116, 116, 101, 114]⟩ : ByteArray) t206).bind fun t207 => (some t207))))))))))))))))))))))) = some r := H
  have A3 := Aside0.mk A30
  clear A30
  replace H := Option.bind_eq_some_iff.mp H
  obtain ⟨t166, A40, H⟩ := H
  replace H : ((foliotref19_put.f t163 (⟨#[115, 116, 114, 97, 116, 117, 109]⟩ : ByteArray) t166).bind fun t167 => ((foliotref19_Number.f k (-20)).bind fun t170 => ((foliotref19_put.f t167 (⟨#[112, 114, 101, 99, 105, 115, 105, 111, 110]⟩ : ByteArray) t170).bind fun t171 => ((foliotref19_Number.f k a0_3).bind fun t174 => ((foliotref19_put.f t171 (⟨#[114, 111, 111, 116, 100, 101, 108, 97, 121]⟩ : ByteArray) t174).bind fun t175 => ((foliotref19_Number.f k a0_4).bind fun t178 => ((foliotref19_put.f t175 (⟨#[114, 111, 111, 116, 100, 105, 115, 112]⟩ : ByteArray) t178).bind fun t179 => ((foliotref05_PrintAddr.f k a0_5).bind fun t182 => ((foliotref19_put.f t179 (⟨#[114, 101, 102, 105, 100]⟩ : ByteArray) t182).bind fun t183 => ((foliotref19_natural.f k a0_6).bind fun t186 => ((foliotref19_put.f t183 (⟨#[114, 101, 102, 116, 105, 109, 101]⟩ : ByteArray) t186).bind fun t187 => ((foliotref19_Number.f k a0_9).bind fun t190 => ((foliotref19_put.f t187 (⟨#[112, 101, 101, 114]⟩ : ByteArray) t190).bind fun t191 => ((foliotref19_Number.f k a0_2).bind fun t194 => ((foliotref19_put.f t191 (⟨#[116, 99]⟩ : ByteArray) t194).bind fun t195 => ((foliotref19_Number.f k a0_7).bind fun t198 => ((foliotref19_put.f t195 (⟨#[111, 102, 102, 115, 101, 116]⟩ : ByteArray) t198).bind fun t199 => ((foliotref19_Number.f k a0_10).bind fun t202 => ((foliotref19_put.f t199 (⟨#[102, 114, 101, 113, 117, 101, 110, 99, 121]⟩ : ByteArray) t202).bind fun t203 => ((foliotref19_Number.f k a0_8).bind fun t206 => ((foliotref19_put.f t203 (⟨#[115, 121, 115, 95, 106, 105, 116, 116, 101, 114]⟩ : ByteArray) t206).bind fun t207 => (some t207)))))))))))))))))))))) = some r := H
  have A4 := Aside0.mk A40
  clear A40
  replace H := Option.bind_eq_some_iff.mp H
  obtain ⟨t167, A50, H⟩ := H
  replace H : ((foliotref19_Number.f k (-20)).bind fun t170 => ((foliotref19_put.f t167 (⟨#[112, 114, 101, 99, 105, 115, 105, 111, 110]⟩ : ByteArray) t170).bind fun t171 => ((foliotref19_Number.f k a0_3).bind fun t174 => ((foliotref19_put.f t171 (⟨#[114, 111, 111, 116, 100, 101, 108, 97, 121]⟩ : ByteArray) t174).bind fun t175 => ((foliotref19_Number.f k a0_4).bind fun t178 => ((foliotref19_put.f t175 (⟨#[114, 111, 111, 116, 100, 105, 115, 112]⟩ : ByteArray) t178).bind fun t179 => ((foliotref05_PrintAddr.f k a0_5).bind fun t182 => ((foliotref19_put.f t179 (⟨#[114, 101, 102, 105, 100]⟩ : ByteArray) t182).bind fun t183 => ((foliotref19_natural.f k a0_6).bind fun t186 => ((foliotref19_put.f t183 (⟨#[114, 101, 102, 116, 105, 109, 101]⟩ : ByteArray) t186).bind fun t187 => ((foliotref19_Number.f k a0_9).bind fun t190 => ((foliotref19_put.f t187 (⟨#[112, 101, 101, 114]⟩ : ByteArray) t190).bind fun t191 => ((foliotref19_Number.f k a0_2).bind fun t194 => ((foliotref19_put.f t191 (⟨#[116, 99]⟩ : ByteArray) t194).bind fun t195 => ((foliotref19_Number.f k a0_7).bind fun t198 => ((foliotref19_put.f t195 (⟨#[111, 102, 102, 115, 101, 116]⟩ : ByteArray) t198).bind fun t199 => ((foliotref19_Number.f k a0_10).bind fun t202 => ((foliotref19_put.f t199 (⟨#[102, 114, 101, 113, 117, 101, 110, 99, 121]⟩ : ByteArray) t202).bind fun t203 => ((foliotref19_Number.f k a0_8).bind fun t206 => ((foliotref19_put.f t203 (⟨#[115, 121, 115, 95, 106, 105, 116, 116, 101, 114]⟩ : ByteArray) t206).bind fun t207 => (some t207))))))))))))))))))))) = some r := H
  have A5 := Aside0.mk A50
  clear A50
  replace H := Option.bind_eq_some_iff.mp H
  obtain ⟨t170, A60, H⟩ := H
  replace H : ((foliotref19_put.f t167 (⟨#[112, 114, 101, 99, 105, 115, 105, 111, 110]⟩ : ByteArray) t170).bind fun t171 => ((foliotref19_Number.f k a0_3).bind fun t174 => ((foliotref19_put.f t171 (⟨#[114, 111, 111, 116, 100, 101, 108, 97, 121]⟩ : ByteArray) t174).bind fun t175 => ((foliotref19_Number.f k a0_4).bind fun t178 => ((foliotref19_put.f t175 (⟨#[114, 111, 111, 116, 100, 105, 115, 112]⟩ : ByteArray) t178).bind fun t179 => ((foliotref05_PrintAddr.f k a0_5).bind fun t182 => ((foliotref19_put.f t179 (⟨#[114, 101, 102, 105, 100]⟩ : ByteArray) t182).bind fun t183 => ((foliotref19_natural.f k a0_6).bind fun t186 => ((foliotref19_put.f t183 (⟨#[114, 101, 102, 116, 105, 109, 101]⟩ : ByteArray) t186).bind fun t187 => ((foliotref19_Number.f k a0_9).bind fun t190 => ((foliotref19_put.f t187 (⟨#[112, 101, 101, 114]⟩ : ByteArray) t190).bind fun t191 => ((foliotref19_Number.f k a0_2).bind fun t194 => ((foliotref19_put.f t191 (⟨#[116, 99]⟩ : ByteArray) t194).bind fun t195 => ((foliotref19_Number.f k a0_7).bind fun t198 => ((foliotref19_put.f t195 (⟨#[111, 102, 102, 115, 101, 116]⟩ : ByteArray) t198).bind fun t199 => ((foliotref19_Number.f k a0_10).bind fun t202 => ((foliotref19_put.f t199 (⟨#[102, 114, 101, 113, 117, 101, 110, 99, 121]⟩ : ByteArray) t202).bind fun t203 => ((foliotref19_Number.f k a0_8).bind fun t206 => ((foliotref19_put.f t203 (⟨#[115, 121, 115, 95, 106, 105, 116, 116, 101, 114]⟩ : ByteArray) t206).bind fun t207 => (some t207)))))))))))))))))))) = some r := H
  have A6 := Aside0.mk A60
  clear A60
  replace H := Option.bind_eq_some_iff.mp H
  obtain ⟨t171, A70, H⟩ := H
  replace H : ((foliotref19_Number.f k a0_3).bind fun t174 => ((foliotref19_put.f t171 (⟨#[114, 111, 111, 116, 100, 101, 108, 97, 121]⟩ : ByteArray) t174).bind fun t175 => ((foliotref19_Number.f k a0_4).bind fun t178 => ((foliotref19_put.f t175 (⟨#[114, 111, 111, 116, 100, 105, 115, 112]⟩ : ByteArray) t178).bind fun t179 => ((foliotref05_PrintAddr.f k a0_5).bind fun t182 => ((foliotref19_put.f t179 (⟨#[114, 101, 102, 105, 100]⟩ : ByteArray) t182).bind fun t183 => ((foliotref19_natural.f k a0_6).bind fun t186 => ((foliotref19_put.f t183 (⟨#[114, 101, 102, 116, 105, 109, 101]⟩ : ByteArray) t186).bind fun t187 => ((foliotref19_Number.f k a0_9).bind fun t190 => ((foliotref19_put.f t187 (⟨#[112, 101, 101, 114]⟩ : ByteArray) t190).bind fun t191 => ((foliotref19_Number.f k a0_2).bind fun t194 => ((foliotref19_put.f t191 (⟨#[116, 99]⟩ : ByteArray) t194).bind fun t195 => ((foliotref19_Number.f k a0_7).bind fun t198 => ((foliotref19_put.f t195 (⟨#[111, 102, 102, 115, 101, 116]⟩ : ByteArray) t198).bind fun t199 => ((foliotref19_Number.f k a0_10).bind fun t202 => ((foliotref19_put.f t199 (⟨#[102, 114, 101, 113, 117, 101, 110, 99, 121]⟩ : ByteArray) t202).bind fun t203 => ((foliotref19_Number.f k a0_8).bind fun t206 => ((foliotref19_put.f t203 (⟨#[115, 121, 115, 95, 106, 105, 116, 116, 101, 114]⟩ : ByteArray) t206).bind fun t207 => (some t207))))))))))))))))))) = some r := H
  have A7 := Aside0.mk A70
  clear A70
  replace H := Option.bind_eq_some_iff.mp H
  obtain ⟨t174, A80, H⟩ := H
  replace H : ((foliotref19_put.f t171 (⟨#[114, 111, 111, 116, 100, 101, 108, 97, 121]⟩ : ByteArray) t174).bind fun t175 => ((foliotref19_Number.f k a0_4).bind fun t178 => ((foliotref19_put.f t175 (⟨#[114, 111, 111, 116, 100, 105, 115, 112]⟩ : ByteArray) t178).bind fun t179 => ((foliotref05_PrintAddr.f k a0_5).bind fun t182 => ((foliotref19_put.f t179 (⟨#[114, 101, 102, 105, 100]⟩ : ByteArray) t182).bind fun t183 => ((foliotref19_natural.f k a0_6).bind fun t186 => ((foliotref19_put.f t183 (⟨#[114, 101, 102, 116, 105, 109, 101]⟩ : ByteArray) t186).bind fun t187 => ((foliotref19_Number.f k a0_9).bind fun t190 => ((foliotref19_put.f t187 (⟨#[112, 101, 101, 114]⟩ : ByteArray) t190).bind fun t191 => ((foliotref19_Number.f k a0_2).bind fun t194 => ((foliotref19_put.f t191 (⟨#[116, 99]⟩ : ByteArray) t194).bind fun t195 => ((foliotref19_Number.f k a0_7).bind fun t198 => ((foliotref19_put.f t195 (⟨#[111, 102, 102, 115, 101, 116]⟩ : ByteArray) t198).bind fun t199 => ((foliotref19_Number.f k a0_10).bind fun t202 => ((foliotref19_put.f t199 (⟨#[102, 114, 101, 113, 117, 101, 110, 99, 121]⟩ : ByteArray) t202).bind fun t203 => ((foliotref19_Number.f k a0_8).bind fun t206 => ((foliotref19_put.f t203 (⟨#[115, 121, 115, 95, 106, 105, 116, 116, 101, 114]⟩ : ByteArray) t206).bind fun t207 => (some t207)))))))))))))))))) = some r := H
  have A8 := Aside0.mk A80
  clear A80
  replace H := Option.bind_eq_some_iff.mp H
  obtain ⟨t175, A90, H⟩ := H
  replace H : ((foliotref19_Number.f k a0_4).bind fun t178 => ((foliotref19_put.f t175 (⟨#[114, 111, 111, 116, 100, 105, 115, 112]⟩ : ByteArray) t178).bind fun t179 => ((foliotref05_PrintAddr.f k a0_5).bind fun t182 => ((foliotref19_put.f t179 (⟨#[114, 101, 102, 105, 100]⟩ : ByteArray) t182).bind fun t183 => ((foliotref19_natural.f k a0_6).bind fun t186 => ((foliotref19_put.f t183 (⟨#[114, 101, 102, 116, 105, 109, 101]⟩ : ByteArray) t186).bind fun t187 => ((foliotref19_Number.f k a0_9).bind fun t190 => ((foliotref19_put.f t187 (⟨#[112, 101, 101, 114]⟩ : ByteArray) t190).bind fun t191 => ((foliotref19_Number.f k a0_2).bind fun t194 => ((foliotref19_put.f t191 (⟨#[116, 99]⟩ : ByteArray) t194).bind fun t195 => ((foliotref19_Number.f k a0_7).bind fun t198 => ((foliotref19_put.f t195 (⟨#[111, 102, 102, 115, 101, 116]⟩ : ByteArray) t198).bind fun t199 => ((foliotref19_Number.f k a0_10).bind fun t202 => ((foliotref19_put.f t199 (⟨#[102, 114, 101, 113, 117, 101, 110, 99, 121]⟩ : ByteArray) t202).bind fun t203 => ((foliotref19_Number.f k a0_8).bind fun t206 => ((foliotref19_put.f t203 (⟨#[115, 121, 115, 95, 106, 105, 116, 116, 101, 114]⟩ : ByteArray) t206).bind fun t207 => (some t207))))))))))))))))) = some r := H
  have A9 := Aside0.mk A90
  clear A90
  replace H := Option.bind_eq_some_iff.mp H
  obtain ⟨t178, A100, H⟩ := H
  replace H : ((foliotref19_put.f t175 (⟨#[114, 111, 111, 116, 100, 105, 115, 112]⟩ : ByteArray) t178).bind fun t179 => ((foliotref05_PrintAddr.f k a0_5).bind fun t182 => ((foliotref19_put.f t179 (⟨#[114, 101, 102, 105, 100]⟩ : ByteArray) t182).bind fun t183 => ((foliotref19_natural.f k a0_6).bind fun t186 => ((foliotref19_put.f t183 (⟨#[114, 101, 102, 116, 105, 109, 101]⟩ : ByteArray) t186).bind fun t187 => ((foliotref19_Number.f k a0_9).bind fun t190 => ((foliotref19_put.f t187 (⟨#[112, 101, 101, 114]⟩ : ByteArray) t190).bind fun t191 => ((foliotref19_Number.f k a0_2).bind fun t194 => ((foliotref19_put.f t191 (⟨#[116, 99]⟩ : ByteArray) t194).bind fun t195 => ((foliotref19_Number.f k a0_7).bind fun t198 => ((foliotref19_put.f t195 (⟨#[111, 102, 102, 115, 101, 116]⟩ : ByteArray) t198).bind fun t199 => ((foliotref19_Number.f k a0_10).bind fun t202 => ((foliotref19_put.f t199 (⟨#[102, 114, 101, 113, 117, 101, 110, 99, 121]⟩ : ByteArray) t202).bind fun t203 => ((foliotref19_Number.f k a0_8).bind fun t206 => ((foliotref19_put.f t203 (⟨#[115, 121, 115, 95, 106, 105, 116, 116, 101, 114]⟩ : ByteArray) t206).bind fun t207 => (some t207)))))))))))))))) = some r := H
  have A10 := Aside0.mk A100
  clear A100
  replace H := Option.bind_eq_some_iff.mp H
  obtain ⟨t179, A110, H⟩ := H
  replace H : ((foliotref05_PrintAddr.f k a0_5).bind fun t182 => ((foliotref19_put.f t179 (⟨#[114, 101, 102, 105, 100]⟩ : ByteArray) t182).bind fun t183 => ((foliotref19_natural.f k a0_6).bind fun t186 => ((foliotref19_put.f t183 (⟨#[114, 101, 102, 116, 105, 109, 101]⟩ : ByteArray) t186).bind fun t187 => ((foliotref19_Number.f k a0_9).bind fun t190 => ((foliotref19_put.f t187 (⟨#[112, 101, 101, 114]⟩ : ByteArray) t190).bind fun t191 => ((foliotref19_Number.f k a0_2).bind fun t194 => ((foliotref19_put.f t191 (⟨#[116, 99]⟩ : ByteArray) t194).bind fun t195 => ((foliotref19_Number.f k a0_7).bind fun t198 => ((foliotref19_put.f t195 (⟨#[111, 102, 102, 115, 101, 116]⟩ : ByteArray) t198).bind fun t199 => ((foliotref19_Number.f k a0_10).bind fun t202 => ((foliotref19_put.f t199 (⟨#[102, 114, 101, 113, 117, 101, 110, 99, 121]⟩ : ByteArray) t202).bind fun t203 => ((foliotref19_Number.f k a0_8).bind fun t206 => ((foliotref19_put.f t203 (⟨#[115, 121, 115, 95, 106, 105, 116, 116, 101, 114]⟩ : ByteArray) t206).bind fun t207 => (some t207))))))))))))))) = some r := H
  have A11 := Aside0.mk A110
  clear A110
  replace H := Option.bind_eq_some_iff.mp H
  obtain ⟨t182, A120, H⟩ := H
  replace H : ((foliotref19_put.f t179 (⟨#[114, 101, 102, 105, 100]⟩ : ByteArray) t182).bind fun t183 => ((foliotref19_natural.f k a0_6).bind fun t186 => ((foliotref19_put.f t183 (⟨#[114, 101, 102, 116, 105, 109, 101]⟩ : ByteArray) t186).bind fun t187 => ((foliotref19_Number.f k a0_9).bind fun t190 => ((foliotref19_put.f t187 (⟨#[112, 101, 101, 114]⟩ : ByteArray) t190).bind fun t191 => ((foliotref19_Number.f k a0_2).bind fun t194 => ((foliotref19_put.f t191 (⟨#[116, 99]⟩ : ByteArray) t194).bind fun t195 => ((foliotref19_Number.f k a0_7).bind fun t198 => ((foliotref19_put.f t195 (⟨#[111, 102, 102, 115, 101, 116]⟩ : ByteArray) t198).bind fun t199 => ((foliotref19_Number.f k a0_10).bind fun t202 => ((foliotref19_put.f t199 (⟨#[102, 114, 101, 113, 117, 101, 110, 99, 121]⟩ : ByteArray) t202).bind fun t203 => ((foliotref19_Number.f k a0_8).bind fun t206 => ((foliotref19_put.f t203 (⟨#[115, 121, 115, 95, 106, 105, 116, 116, 101, 114]⟩ : ByteArray) t206).bind fun t207 => (some t207)))))))))))))) = some r := H
  have A12 := Aside0.mk A120
  clear A120
  replace H := Option.bind_eq_some_iff.mp H
  obtain ⟨t183, A130, H⟩ := H
  replace H : ((foliotref19_natural.f k a0_6).bind fun t186 => ((foliotref19_put.f t183 (⟨#[114, 101, 102, 116, 105, 109, 101]⟩ : ByteArray) t186).bind fun t187 => ((foliotref19_Number.f k a0_9).bind fun t190 => ((foliotref19_put.f t187 (⟨#[112, 101, 101, 114]⟩ : ByteArray) t190).bind fun t191 => ((foliotref19_Number.f k a0_2).bind fun t194 => ((foliotref19_put.f t191 (⟨#[116, 99]⟩ : ByteArray) t194).bind fun t195 => ((foliotref19_Number.f k a0_7).bind fun t198 => ((foliotref19_put.f t195 (⟨#[111, 102, 102, 115, 101, 116]⟩ : ByteArray) t198).bind fun t199 => ((foliotref19_Number.f k a0_10).bind fun t202 => ((foliotref19_put.f t199 (⟨#[102, 114, 101, 113, 117, 101, 110, 99, 121]⟩ : ByteArray) t202).bind fun t203 => ((foliotref19_Number.f k a0_8).bind fun t206 => ((foliotref19_put.f t203 (⟨#[115, 121, 115, 95, 106, 105, 116, 116, 101, 114]⟩ : ByteArray) t206).bind fun t207 => (some t207))))))))))))) = some r := H
  have A13 := Aside0.mk A130
  clear A130
  replace H := Option.bind_eq_some_iff.mp H
  obtain ⟨t186, A140, H⟩ := H
  replace H : ((foliotref19_put.f t183 (⟨#[114, 101, 102, 116, 105, 109, 101]⟩ : ByteArray) t186).bind fun t187 => ((foliotref19_Number.f k a0_9).bind fun t190 => ((foliotref19_put.f t187 (⟨#[112, 101, 101, 114]⟩ : ByteArray) t190).bind fun t191 => ((foliotref19_Number.f k a0_2).bind fun t194 => ((foliotref19_put.f t191 (⟨#[116, 99]⟩ : ByteArray) t194).bind fun t195 => ((foliotref19_Number.f k a0_7).bind fun t198 => ((foliotref19_put.f t195 (⟨#[111, 102, 102, 115, 101, 116]⟩ : ByteArray) t198).bind fun t199 => ((foliotref19_Number.f k a0_10).bind fun t202 => ((foliotref19_put.f t199 (⟨#[102, 114, 101, 113, 117, 101, 110, 99, 121]⟩ : ByteArray) t202).bind fun t203 => ((foliotref19_Number.f k a0_8).bind fun t206 => ((foliotref19_put.f t203 (⟨#[115, 121, 115, 95, 106, 105, 116, 116, 101, 114]⟩ : ByteArray) t206).bind fun t207 => (some t207)))))))))))) = some r := H
  have A14 := Aside0.mk A140
  clear A140
  replace H := Option.bind_eq_some_iff.mp H
  obtain ⟨t187, A150, H⟩ := H
  replace H : ((foliotref19_Number.f k a0_9).bind fun t190 => ((foliotref19_put.f t187 (⟨#[112, 101, 101, 114]⟩ : ByteArray) t190).bind fun t191 => ((foliotref19_Number.f k a0_2).bind fun t194 => ((foliotref19_put.f t191 (⟨#[116, 99]⟩ : ByteArray) t194).bind fun t195 => ((foliotref19_Number.f k a0_7).bind fun t198 => ((foliotref19_put.f t195 (⟨#[111, 102, 102, 115, 101, 116]⟩ : ByteArray) t198).bind fun t199 => ((foliotref19_Number.f k a0_10).bind fun t202 => ((foliotref19_put.f t199 (⟨#[102, 114, 101, 113, 117, 101, 110, 99, 121]⟩ : ByteArray) t202).bind fun t203 => ((foliotref19_Number.f k a0_8).bind fun t206 => ((foliotref19_put.f t203 (⟨#[115, 121, 115, 95, 106, 105, 116, 116, 101, 114]⟩ : ByteArray) t206).bind fun t207 => (some t207))))))))))) = some r := H
  have A15 := Aside0.mk A150
  clear A150
  replace H := Option.bind_eq_some_iff.mp H
  obtain ⟨t190, A160, H⟩ := H
  replace H : ((foliotref19_put.f t187 (⟨#[112, 101, 101, 114]⟩ : ByteArray) t190).bind fun t191 => ((foliotref19_Number.f k a0_2).bind fun t194 => ((foliotref19_put.f t191 (⟨#[116, 99]⟩ : ByteArray) t194).bind fun t195 => ((foliotref19_Number.f k a0_7).bind fun t198 => ((foliotref19_put.f t195 (⟨#[111, 102, 102, 115, 101, 116]⟩ : ByteArray) t198).bind fun t199 => ((foliotref19_Number.f k a0_10).bind fun t202 => ((foliotref19_put.f t199 (⟨#[102, 114, 101, 113, 117, 101, 110, 99, 121]⟩ : ByteArray) t202).bind fun t203 => ((foliotref19_Number.f k a0_8).bind fun t206 => ((foliotref19_put.f t203 (⟨#[115, 121, 115, 95, 106, 105, 116, 116, 101, 114]⟩ : ByteArray) t206).bind fun t207 => (some t207)))))))))) = some r := H
  have A16 := Aside0.mk A160
  clear A160
  replace H := Option.bind_eq_some_iff.mp H
  obtain ⟨t191, A170, H⟩ := H
  replace H : ((foliotref19_Number.f k a0_2).bind fun t194 => ((foliotref19_put.f t191 (⟨#[116, 99]⟩ : ByteArray) t194).bind fun t195 => ((foliotref19_Number.f k a0_7).bind fun t198 => ((foliotref19_put.f t195 (⟨#[111, 102, 102, 115, 101, 116]⟩ : ByteArray) t198).bind fun t199 => ((foliotref19_Number.f k a0_10).bind fun t202 => ((foliotref19_put.f t199 (⟨#[102, 114, 101, 113, 117, 101, 110, 99, 121]⟩ : ByteArray) t202).bind fun t203 => ((foliotref19_Number.f k a0_8).bind fun t206 => ((foliotref19_put.f t203 (⟨#[115, 121, 115, 95, 106, 105, 116, 116, 101, 114]⟩ : ByteArray) t206).bind fun t207 => (some t207))))))))) = some r := H
  have A17 := Aside0.mk A170
  clear A170
  replace H := Option.bind_eq_some_iff.mp H
  obtain ⟨t194, A180, H⟩ := H
  replace H : ((foliotref19_put.f t191 (⟨#[116, 99]⟩ : ByteArray) t194).bind fun t195 => ((foliotref19_Number.f k a0_7).bind fun t198 => ((foliotref19_put.f t195 (⟨#[111, 102, 102, 115, 101, 116]⟩ : ByteArray) t198).bind fun t199 => ((foliotref19_Number.f k a0_10).bind fun t202 => ((foliotref19_put.f t199 (⟨#[102, 114, 101, 113, 117, 101, 110, 99, 121]⟩ : ByteArray) t202).bind fun t203 => ((foliotref19_Number.f k a0_8).bind fun t206 => ((foliotref19_put.f t203 (⟨#[115, 121, 115, 95, 106, 105, 116, 116, 101, 114]⟩ : ByteArray) t206).bind fun t207 => (some t207)))))))) = some r := H
  have A18 := Aside0.mk A180
  clear A180
  replace H := Option.bind_eq_some_iff.mp H
  obtain ⟨t195, A190, H⟩ := H
  replace H : ((foliotref19_Number.f k a0_7).bind fun t198 => ((foliotref19_put.f t195 (⟨#[111, 102, 102, 115, 101, 116]⟩ : ByteArray) t198).bind fun t199 => ((foliotref19_Number.f k a0_10).bind fun t202 => ((foliotref19_put.f t199 (⟨#[102, 114, 101, 113, 117, 101, 110, 99, 121]⟩ : ByteArray) t202).bind fun t203 => ((foliotref19_Number.f k a0_8).bind fun t206 => ((foliotref19_put.f t203 (⟨#[115, 121, 115, 95, 106, 105, 116, 116, 101, 114]⟩ : ByteArray) t206).bind fun t207 => (some t207))))))) = some r := H
  have A19 := Aside0.mk A190
  clear A190
  replace H := Option.bind_eq_some_iff.mp H
  obtain ⟨t198, A200, H⟩ := H
  replace H : ((foliotref19_put.f t195 (⟨#[111, 102, 102, 115, 101, 116]⟩ : ByteArray) t198).bind fun t199 => ((foliotref19_Number.f k a0_10).bind fun t202 => ((foliotref19_put.f t199 (⟨#[102, 114, 101, 113, 117, 101, 110, 99, 121]⟩ : ByteArray) t202).bind fun t203 => ((foliotref19_Number.f k a0_8).bind fun t206 => ((foliotref19_put.f t203 (⟨#[115, 121, 115, 95, 106, 105, 116, 116, 101, 114]⟩ : ByteArray) t206).bind fun t207 => (some t207)))))) = some r := H
  have A20 := Aside0.mk A200
  clear A200
  replace H := Option.bind_eq_some_iff.mp H
  obtain ⟨t199, A210, H⟩ := H
  replace H : ((foliotref19_Number.f k a0_10).bind fun t202 => ((foliotref19_put.f t199 (⟨#[102, 114, 101, 113, 117, 101, 110, 99, 121]⟩ : ByteArray) t202).bind fun t203 => ((foliotref19_Number.f k a0_8).bind fun t206 => ((foliotref19_put.f t203 (⟨#[115, 121, 115, 95, 106, 105, 116, 116, 101, 114]⟩ : ByteArray) t206).bind fun t207 => (some t207))))) = some r := H
  have A21 := Aside0.mk A210
  clear A210
  replace H := Option.bind_eq_some_iff.mp H
  obtain ⟨t202, A220, H⟩ := H
  replace H : ((foliotref19_put.f t199 (⟨#[102, 114, 101, 113, 117, 101, 110, 99, 121]⟩ : ByteArray) t202).bind fun t203 => ((foliotref19_Number.f k a0_8).bind fun t206 => ((foliotref19_put.f t203 (⟨#[115, 121, 115, 95, 106, 105, 116, 116, 101, 114]⟩ : ByteArray) t206).bind fun t207 => (some t207)))) = some r := H
  have A22 := Aside0.mk A220
  clear A220
  replace H := Option.bind_eq_some_iff.mp H
  obtain ⟨t203, A230, H⟩ := H
  replace H : ((foliotref19_Number.f k a0_8).bind fun t206 => ((foliotref19_put.f t203 (⟨#[115, 121, 115, 95, 106, 105, 116, 116, 101, 114]⟩ : ByteArray) t206).bind fun t207 => (some t207))) = some r := H
  have A23 := Aside0.mk A230
  clear A230
  replace H := Option.bind_eq_some_iff.mp H
  obtain ⟨t206, A240, H⟩ := H
  replace H : ((foliotref19_put.f t203 (⟨#[115, 121, 115, 95, 106, 105, 116, 116, 101, 114]⟩ : ByteArray) t206).bind fun t207 => (some t207)) = some r := H
  have A24 := Aside0.mk A240
  clear A240
  replace H := Option.bind_eq_some_iff.mp H
  obtain ⟨t207, A250, H⟩ := H
  replace H : (some t207) = some r := H
  have A25 := Aside0.mk A250
  clear A250
  obtain rfl := Option.some.inj H
  go_enter Tryd.func8, Tryd.ntmps8
  go_wp2_with (first | ((with_reducible refine gate_dst (N := 1) rfl ?_); refine box_event ?hg (N := 1) ?hd (cs := #[.int .i64 a0_0, .int .i64 a0_1, .int .i64 a0_2, .int .i64 a0_3, .int .i64 a0_4, .int .u32 a0_5, .int .u64 a0_6, .int .i64 a0_7, .int .i64 a0_8, .int .i64 a0_9, .int .i64 a0_10]) (t := 28) ?hr ?_; (case hd => rfl); (case hg => rfl); (case hr => first | (go_simp; done) | (go_simp; rfl)); intro gb158 hg w26 hbox hb; have n0_ := Aside0.mk (below_step (by repeat (first | (with_reducible first | exact HB.out | apply below_alloc | apply pw_below_drewN | apply below_drew1) | exact HB.out)) hb); have n1_ := Aside0.mk (hbox); have n2_ := Aside0.mk ((by rw [hg]; exact (below_size (by repeat (first | (with_reducible first | exact HB.out | apply below_alloc | apply pw_below_drewN | apply below_drew1) | exact HB.out))) : w.heap.size ≤ gb158)); have n3_ := Aside0.mk ((by rw [hg]; exact (below_size (by repeat (first | (with_reducible first | exact HB.out | apply below_alloc | apply pw_below_drewN | apply below_drew1) | exact HB.out))) : w.heap.size ≤ gb158)); clear HB; have HB := n0_; have BK158 := n1_; have GW158 := n2_; have GE158 := n3_; clear n0_ n1_ n2_ n3_; clear hb hbox hg) | ((with_reducible refine gate_dst (N := 4) rfl ?_); refine Kd.R_lit k54 _ 54 ?hg (N := 4) ?hd (xs := ([] : List (S54))) (inner := []) (ok := fun _ => True) (okp := fun _ => True) ?hr ?hp (fun _ hk => hk) trivial (Below.refl _ _) (Nat.le_refl _) (by simp) ?_; (case hd => rfl); (case hg => rfl); (case hr => first | (go_simp; done) | (go_simp; rfl)); (case hp => exact (Reps.none _ _)); intro v160 w27 ho28 hb hg_ hnew_; clear hg_ hnew_; (first | rw [← Ny159.out] at ho28 | (simp only [Int.reduceToNat] at ho28; rw [← Ny159.out] at ho28)); have n0_ := Aside0.mk (Kd.R_lower ho28 (below_size (by repeat (first | (with_reducible first | exact HB.out | apply below_alloc | apply pw_below_drewN | apply below_drew1 | refine below_set ?_ GE158.out) | exact HB.out)))); have n1_ := Aside0.mk (blk_below (g := gb158) (o := .cells #[.int .i64 a0_0, .int .i64 a0_1, .int .i64 a0_2, .int .i64 a0_3, .int .i64 a0_4, .int .u32 a0_5, .int .u64 a0_6, .int .i64 a0_7, .int .i64 a0_8, .int .i64 a0_9, .int .i64 a0_10] 28 (0, 0)) (by (with_reducible repeat (first | refine blk_drewN ?_ _ | refine blk_drew ?_ | refine blk_alloc ?_ _)); exact BK158.out) hb); have n2_ := Aside0.mk (below_step (by repeat (first | (with_reducible first | exact HB.out | apply below_alloc | apply pw_below_drewN | apply below_drew1 | refine below_set ?_ GE158.out) | exact HB.out)) hb); clear BK158; clear HB; have HO161 := n0_; have BK158 := n1_; have HB := n2_; clear n0_ n1_ n2_; clear hb ho28; have hcz29_0 : w27.cell? ⟨gb158, 0, none⟩ = some (.int .i64 a0_0) := (blk_cell BK158.out 0).trans rfl; have hcz29_1 : w27.cell? ⟨gb158, 1, none⟩ = some (.int .i64 a0_1) := (blk_cell BK158.out 1).trans rfl; have hcz29_2 : w27.cell? ⟨gb158, 2, none⟩ = some (.int .i64 a0_2) := (blk_cell BK158.out 2).trans rfl; have hcz29_3 : w27.cell? ⟨gb158, 3, none⟩ = some (.int .i64 a0_3) := (blk_cell BK158.out 3).trans rfl; have hcz29_4 : w27.cell? ⟨gb158, 4, none⟩ = some (.int .i64 a0_4) := (blk_cell BK158.out 4).trans rfl; have hcz29_5 : w27.cell? ⟨gb158, 5, none⟩ = some (.int .u32 a0_5) := (blk_cell BK158.out 5).trans rfl; have hcz29_6 : w27.cell? ⟨gb158, 6, none⟩ = some (.int .u64 a0_6) := (blk_cell BK158.out 6).trans rfl; have hcz29_7 : w27.cell? ⟨gb158, 7, none⟩ = some (.int .i64 a0_7) := (blk_cell BK158.out 7).trans rfl; have hcz29_8 : w27.cell? ⟨gb158, 8, none⟩ = some (.int .i64 a0_8) := (blk_cell BK158.out 8).trans rfl; have hcz29_9 : w27.cell? ⟨gb158, 9, none⟩ = some (.int .i64 a0_9) := (blk_cell BK158.out 9).trans rfl; have hcz29_10 : w27.cell? ⟨gb158, 10, none⟩ = some (.int .i64 a0_10) := (blk_cell BK158.out 10).trans rfl; have hfz29_0 := blk_frozen BK158.out 0; have hfz29_1 := blk_frozen BK158.out 1; have hfz29_2 := blk_frozen BK158.out 2; have hfz29_3 := blk_frozen BK158.out 3; have hfz29_4 := blk_frozen BK158.out 4; have hfz29_5 := blk_frozen BK158.out 5; have hfz29_6 := blk_frozen BK158.out 6; have hfz29_7 := blk_frozen BK158.out 7; have hfz29_8 := blk_frozen BK158.out 8; have hfz29_9 := blk_frozen BK158.out 9; have hfz29_10 := blk_frozen BK158.out 10) | ((with_reducible refine gate_callee (f := 11) rfl ?_); refine goesL_ (some 8) rfl rfl Tryd.func11 (by kernel_rfl) rfl #[.int .i64 a0_0] rfl (by (try simp only [List.map_toArray, List.map_cons, List.map_nil]); first | done | rfl | (simp only [List.length_drop, List.length_take]; rfl)) ?_; (with_reducible refine (foliotref19_Number.calls k a0_0 t162 _ A2.out).mono ?_); rintro e w30 ⟨rfl, hb⟩; refine ⟨_, rfl, ?_⟩; have n0_ := Aside0.mk (Kd.R_below (by (with_reducible repeat (first | apply Kd.R_alloc | apply Kd.R_drewN | apply Kd.R_drew)); exact HO161.out) hb); have n1_ := Aside0.mk (blk_below (g := gb158) (o := .cells #[.int .i64 a0_0, .int .i64 a0_1, .int .i64 a0_2, .int .i64 a0_3, .int .i64 a0_4, .int .u32 a0_5, .int .u64 a0_6, .int .i64 a0_7, .int .i64 a0_8, .int .i64 a0_9, .int .i64 a0_10] 28 (0, 0)) (by (with_reducible repeat (first | refine blk_drewN ?_ _ | refine blk_drew ?_ | refine blk_alloc ?_ _)); exact BK158.out) hb); have n2_ := Aside0.mk (below_step (by repeat (first | (with_reducible first | exact HB.out | apply below_alloc | apply pw_below_drewN | apply below_drew1 | refine below_set ?_ GE158.out) | exact HB.out)) hb); clear HO161; clear BK158; clear HB; have HO161 := n0_; have BK158 := n1_; have HB := n2_; clear n0_ n1_ n2_; (try clear hb); (try clear hb2); (try clear hk); (try clear hi); obtain ⟨Ao31, co31, eo31⟩ := Kd.R_slice HO161.out; subst eo31) | ((with_reducible refine gate_callee (f := 19) rfl ?_); refine goesL_ (some 9) rfl rfl Tryd.func19 (by kernel_rfl) rfl #[.slice Ao31 y159.length co31, .string (⟨#[108, 101, 97, 112]⟩ : ByteArray), .string t162] rfl (by (try simp only [List.map_toArray, List.map_cons, List.map_nil]); first | done | rfl | (simp only [List.length_drop, List.length_take]; rfl)) ?_; (with_reducible refine (foliotref19_put.calls (fun k_ => some k_ = (.slice Ao31 y159.length co31 : Value).ownBlock) (.slice Ao31 y159.length co31) y159 (⟨#[108, 101, 97, 112]⟩ : ByteArray) t162 t163 w _ ?side1 ?side2 A3.out).mono ?_); (case side1 => repeat (first | (with_reducible first | exact HB.out | apply below_alloc | apply pw_below_drewN | apply below_drew1 | refine below_set ?_ GE158.out) | exact HB.out)); (case side2 => exact Kd.R_tight rfl HO161.out); rintro e w32 ⟨v164, rfl, ho0, hb, hkp⟩; refine ⟨_, rfl, ?_⟩; have n0_ := Aside0.mk (blk_kept (by (with_reducible repeat (first | refine blk_drewN ?_ _ | refine blk_drew ?_ | refine blk_alloc ?_ _)); exact BK158.out) hkp (fun hs_ => (fun e_ => (Kd.R_ne HO161.out BK158.out (by decide)) e_) hs_)); have n1_ := Aside0.mk (Kd.R_mono (ok' := fun k_ => True) ho0 (fun k_ hk_ => trivial)); have n2_ := Aside0.mk (hb); clear BK158; clear HB; clear HO161; have BK158 := n0_; have HO165 := n1_; have HB := n2_; clear n0_ n1_ n2_; (try clear hb); (try clear hkp); (try clear ho0); have hcz33_0 : w32.cell? ⟨gb158, 0, none⟩ = some (.int .i64 a0_0) := (blk_cell BK158.out 0).trans rfl; have hcz33_1 : w32.cell? ⟨gb158, 1, none⟩ = some (.int .i64 a0_1) := (blk_cell BK158.out 1).trans rfl; have hcz33_2 : w32.cell? ⟨gb158, 2, none⟩ = some (.int .i64 a0_2) := (blk_cell BK158.out 2).trans rfl; have hcz33_3 : w32.cell? ⟨gb158, 3, none⟩ = some (.int .i64 a0_3) := (blk_cell BK158.out 3).trans rfl; have hcz33_4 : w32.cell? ⟨gb158, 4, none⟩ = some (.int .i64 a0_4) := (blk_cell BK158.out 4).trans rfl; have hcz33_5 : w32.cell? ⟨gb158, 5, none⟩ = some (.int .u32 a0_5) := (blk_cell BK158.out 5).trans rfl; have hcz33_6 : w32.cell? ⟨gb158, 6, none⟩ = some (.int .u64 a0_6) := (blk_cell BK158.out 6).trans rfl; have hcz33_7 : w32.cell? ⟨gb158, 7, none⟩ = some (.int .i64 a0_7) := (blk_cell BK158.out 7).trans rfl; have hcz33_8 : w32.cell? ⟨gb158, 8, none⟩ = some (.int .i64 a0_8) := (blk_cell BK158.out 8).trans rfl; have hcz33_9 : w32.cell? ⟨gb158, 9, none⟩ = some (.int .i64 a0_9) := (blk_cell BK158.out 9).trans rfl; have hcz33_10 : w32.cell? ⟨gb158, 10, none⟩ = some (.int .i64 a0_10) := (blk_cell BK158.out 10).trans rfl; have hfz33_0 := blk_frozen BK158.out 0; have hfz33_1 := blk_frozen BK158.out 1; have hfz33_2 := blk_frozen BK158.out 2; have hfz33_3 := blk_frozen BK158.out 3; have hfz33_4 := blk_frozen BK158.out 4; have hfz33_5 := blk_frozen BK158.out 5; have hfz33_6 := blk_frozen BK158.out 6; have hfz33_7 := blk_frozen BK158.out 7; have hfz33_8 := blk_frozen BK158.out 8; have hfz33_9 := blk_frozen BK158.out 9; have hfz33_10 := blk_frozen BK158.out 10) | ((with_reducible refine gate_callee (f := 11) rfl ?_); refine goesL_ (some 13) rfl rfl Tryd.func11 (by kernel_rfl) rfl #[.int .i64 a0_1] rfl (by (try simp only [List.map_toArray, List.map_cons, List.map_nil]); first | done | rfl | (simp only [List.length_drop, List.length_take]; rfl)) ?_; (with_reducible refine (foliotref19_Number.calls k a0_1 t166 _ A4.out).mono ?_); rintro e w34 ⟨rfl, hb⟩; refine ⟨_, rfl, ?_⟩; have n0_ := Aside0.mk (Kd.R_below (by (with_reducible repeat (first | apply Kd.R_alloc | apply Kd.R_drewN | apply Kd.R_drew)); exact HO165.out) hb); have n1_ := Aside0.mk (blk_below (g := gb158) (o := .cells #[.int .i64 a0_0, .int .i64 a0_1, .int .i64 a0_2, .int .i64 a0_3, .int .i64 a0_4, .int .u32 a0_5, .int .u64 a0_6, .int .i64 a0_7, .int .i64 a0_8, .int .i64 a0_9, .int .i64 a0_10] 28 (0, 0)) (by (with_reducible repeat (first | refine blk_drewN ?_ _ | refine blk_drew ?_ | refine blk_alloc ?_ _)); exact BK158.out) hb); have n2_ := Aside0.mk (below_step (by repeat (first | (with_reducible first | exact HB.out | apply below_alloc | apply pw_below_drewN | apply below_drew1 | refine below_set ?_ GE158.out) | exact HB.out)) hb); clear HO165; clear BK158; clear HB; have HO165 := n0_; have BK158 := n1_; have HB := n2_; clear n0_ n1_ n2_; (try clear hb); (try clear hb2); (try clear hk); (try clear hi); obtain ⟨Ao35, co35, eo35⟩ := Kd.R_slice HO165.out; subst eo35) | ((with_reducible refine gate_callee (f := 19) rfl ?_); refine goesL_ (some 14) rfl rfl Tryd.func19 (by kernel_rfl) rfl #[.slice Ao35 t163.length co35, .string (⟨#[115, 116, 114, 97, 116, 117, 109]⟩ : ByteArray), .string t166] rfl (by (try simp only [List.map_toArray, List.map_cons, List.map_nil]); first | done | rfl | (simp only [List.length_drop, List.length_take]; rfl)) ?_; (with_reducible refine (foliotref19_put.calls (fun k_ => some k_ = (.slice Ao35 t163.length co35 : Value).ownBlock) (.slice Ao35 t163.length co35) t163 (⟨#[115, 116, 114, 97, 116, 117, 109]⟩ : ByteArray) t166 t167 w _ ?side1 ?side2 A5.out).mono ?_); (case side1 => repeat (first | (with_reducible first | exact HB.out | apply below_alloc | apply pw_below_drewN | apply below_drew1 | refine below_set ?_ GE158.out) | exact HB.out)); (case side2 => exact Kd.R_tight rfl HO165.out); rintro e w36 ⟨v168, rfl, ho0, hb, hkp⟩; refine ⟨_, rfl, ?_⟩; have n0_ := Aside0.mk (blk_kept (by (with_reducible repeat (first | refine blk_drewN ?_ _ | refine blk_drew ?_ | refine blk_alloc ?_ _)); exact BK158.out) hkp (fun hs_ => (fun e_ => (Kd.R_ne HO165.out BK158.out (by decide)) e_) hs_)); have n1_ := Aside0.mk (Kd.R_mono (ok' := fun k_ => True) ho0 (fun k_ hk_ => trivial)); have n2_ := Aside0.mk (hb); clear BK158; clear HB; clear HO165; have BK158 := n0_; have HO169 := n1_; have HB := n2_; clear n0_ n1_ n2_; (try clear hb); (try clear hkp); (try clear ho0)) | ((with_reducible refine gate_callee (f := 11) rfl ?_); refine goesL_ (some 16) rfl rfl Tryd.func11 (by kernel_rfl) rfl #[.int .i64 (-20)] rfl (by (try simp only [List.map_toArray, List.map_cons, List.map_nil]); first | done | rfl | (simp only [List.length_drop, List.length_take]; rfl)) ?_; (with_reducible refine (foliotref19_Number.calls k (-20) t170 _ A6.out).mono ?_); rintro e w37 ⟨rfl, hb⟩; refine ⟨_, rfl, ?_⟩; have n0_ := Aside0.mk (Kd.R_below (by (with_reducible repeat (first | apply Kd.R_alloc | apply Kd.R_drewN | apply Kd.R_drew)); exact HO169.out) hb); have n1_ := Aside0.mk (blk_below (g := gb158) (o := .cells #[.int .i64 a0_0, .int .i64 a0_1, .int .i64 a0_2, .int .i64 a0_3, .int .i64 a0_4, .int .u32 a0_5, .int .u64 a0_6, .int .i64 a0_7, .int .i64 a0_8, .int .i64 a0_9, .int .i64 a0_10] 28 (0, 0)) (by (with_reducible repeat (first | refine blk_drewN ?_ _ | refine blk_drew ?_ | refine blk_alloc ?_ _)); exact BK158.out) hb); have n2_ := Aside0.mk (below_step (by repeat (first | (with_reducible first | exact HB.out | apply below_alloc | apply pw_below_drewN | apply below_drew1 | refine below_set ?_ GE158.out) | exact HB.out)) hb); clear HO169; clear BK158; clear HB; have HO169 := n0_; have BK158 := n1_; have HB := n2_; clear n0_ n1_ n2_; (try clear hb); (try clear hb2); (try clear hk); (try clear hi); obtain ⟨Ao38, co38, eo38⟩ := Kd.R_slice HO169.out; subst eo38) | ((with_reducible refine gate_callee (f := 19) rfl ?_); refine goesL_ (some 17) rfl rfl Tryd.func19 (by kernel_rfl) rfl #[.slice Ao38 t167.length co38, .string (⟨#[112, 114, 101, 99, 105, 115, 105, 111, 110]⟩ : ByteArray), .string t170] rfl (by (try simp only [List.map_toArray, List.map_cons, List.map_nil]); first | done | rfl | (simp only [List.length_drop, List.length_take]; rfl)) ?_; (with_reducible refine (foliotref19_put.calls (fun k_ => some k_ = (.slice Ao38 t167.length co38 : Value).ownBlock) (.slice Ao38 t167.length co38) t167 (⟨#[112, 114, 101, 99, 105, 115, 105, 111, 110]⟩ : ByteArray) t170 t171 w _ ?side1 ?side2 A7.out).mono ?_); (case side1 => repeat (first | (with_reducible first | exact HB.out | apply below_alloc | apply pw_below_drewN | apply below_drew1 | refine below_set ?_ GE158.out) | exact HB.out)); (case side2 => exact Kd.R_tight rfl HO169.out); rintro e w39 ⟨v172, rfl, ho0, hb, hkp⟩; refine ⟨_, rfl, ?_⟩; have n0_ := Aside0.mk (blk_kept (by (with_reducible repeat (first | refine blk_drewN ?_ _ | refine blk_drew ?_ | refine blk_alloc ?_ _)); exact BK158.out) hkp (fun hs_ => (fun e_ => (Kd.R_ne HO169.out BK158.out (by decide)) e_) hs_)); have n1_ := Aside0.mk (Kd.R_mono (ok' := fun k_ => True) ho0 (fun k_ hk_ => trivial)); have n2_ := Aside0.mk (hb); clear BK158; clear HB; clear HO169; have BK158 := n0_; have HO173 := n1_; have HB := n2_; clear n0_ n1_ n2_; (try clear hb); (try clear hkp); (try clear ho0); have hcz40_0 : w39.cell? ⟨gb158, 0, none⟩ = some (.int .i64 a0_0) := (blk_cell BK158.out 0).trans rfl; have hcz40_1 : w39.cell? ⟨gb158, 1, none⟩ = some (.int .i64 a0_1) := (blk_cell BK158.out 1).trans rfl; have hcz40_2 : w39.cell? ⟨gb158, 2, none⟩ = some (.int .i64 a0_2) := (blk_cell BK158.out 2).trans rfl; have hcz40_3 : w39.cell? ⟨gb158, 3, none⟩ = some (.int .i64 a0_3) := (blk_cell BK158.out 3).trans rfl; have hcz40_4 : w39.cell? ⟨gb158, 4, none⟩ = some (.int .i64 a0_4) := (blk_cell BK158.out 4).trans rfl; have hcz40_5 : w39.cell? ⟨gb158, 5, none⟩ = some (.int .u32 a0_5) := (blk_cell BK158.out 5).trans rfl; have hcz40_6 : w39.cell? ⟨gb158, 6, none⟩ = some (.int .u64 a0_6) := (blk_cell BK158.out 6).trans rfl; have hcz40_7 : w39.cell? ⟨gb158, 7, none⟩ = some (.int .i64 a0_7) := (blk_cell BK158.out 7).trans rfl; have hcz40_8 : w39.cell? ⟨gb158, 8, none⟩ = some (.int .i64 a0_8) := (blk_cell BK158.out 8).trans rfl; have hcz40_9 : w39.cell? ⟨gb158, 9, none⟩ = some (.int .i64 a0_9) := (blk_cell BK158.out 9).trans rfl; have hcz40_10 : w39.cell? ⟨gb158, 10, none⟩ = some (.int .i64 a0_10) := (blk_cell BK158.out 10).trans rfl; have hfz40_0 := blk_frozen BK158.out 0; have hfz40_1 := blk_frozen BK158.out 1; have hfz40_2 := blk_frozen BK158.out 2; have hfz40_3 := blk_frozen BK158.out 3; have hfz40_4 := blk_frozen BK158.out 4; have hfz40_5 := blk_frozen BK158.out 5; have hfz40_6 := blk_frozen BK158.out 6; have hfz40_7 := blk_frozen BK158.out 7; have hfz40_8 := blk_frozen BK158.out 8; have hfz40_9 := blk_frozen BK158.out 9; have hfz40_10 := blk_frozen BK158.out 10) | ((with_reducible refine gate_callee (f := 11) rfl ?_); refine goesL_ (some 21) rfl rfl Tryd.func11 (by kernel_rfl) rfl #[.int .i64 a0_3] rfl (by (try simp only [List.map_toArray, List.map_cons, List.map_nil]); first | done | rfl | (simp only [List.length_drop, List.length_take]; rfl)) ?_; (with_reducible refine (foliotref19_Number.calls k a0_3 t174 _ A8.out).mono ?_); rintro e w41 ⟨rfl, hb⟩; refine ⟨_, rfl, ?_⟩; have n0_ := Aside0.mk (Kd.R_below (by (with_reducible repeat (first | apply Kd.R_alloc | apply Kd.R_drewN | apply Kd.R_drew)); exact HO173.out) hb); have n1_ := Aside0.mk (blk_below (g := gb158) (o := .cells #[.int .i64 a0_0, .int .i64 a0_1, .int .i64 a0_2, .int .i64 a0_3, .int .i64 a0_4, .int .u32 a0_5, .int .u64 a0_6, .int .i64 a0_7, .int .i64 a0_8, .int .i64 a0_9, .int .i64 a0_10] 28 (0, 0)) (by (with_reducible repeat (first | refine blk_drewN ?_ _ | refine blk_drew ?_ | refine blk_alloc ?_ _)); exact BK158.out) hb); have n2_ := Aside0.mk (below_step (by repeat (first | (with_reducible first | exact HB.out | apply below_alloc | apply pw_below_drewN | apply below_drew1 | refine below_set ?_ GE158.out) | exact HB.out)) hb); clear HO173; clear BK158; clear HB; have HO173 := n0_; have BK158 := n1_; have HB := n2_; clear n0_ n1_ n2_; (try clear hb); (try clear hb2); (try clear hk); (try clear hi); obtain ⟨Ao42, co42, eo42⟩ := Kd.R_slice HO173.out; subst eo42) | ((with_reducible refine gate_callee (f := 19) rfl ?_); refine goesL_ (some 22) rfl rfl Tryd.func19 (by kernel_rfl) rfl #[.slice Ao42 t171.length co42, .string (⟨#[114, 111, 111, 116, 100, 101, 108, 97, 121]⟩ : ByteArray), .string t174] rfl (by (try simp only [List.map_toArray, List.map_cons, List.map_nil]); first | done | rfl | (simp only [List.length_drop, List.length_take]; rfl)) ?_; (with_reducible refine (foliotref19_put.calls (fun k_ => some k_ = (.slice Ao42 t171.length co42 : Value).ownBlock) (.slice Ao42 t171.length co42) t171 (⟨#[114, 111, 111, 116, 100, 101, 108, 97, 121]⟩ : ByteArray) t174 t175 w _ ?side1 ?side2 A9.out).mono ?_); (case side1 => repeat (first | (with_reducible first | exact HB.out | apply below_alloc | apply pw_below_drewN | apply below_drew1 | refine below_set ?_ GE158.out) | exact HB.out)); (case side2 => exact Kd.R_tight rfl HO173.out); rintro e w43 ⟨v176, rfl, ho0, hb, hkp⟩; refine ⟨_, rfl, ?_⟩; have n0_ := Aside0.mk (blk_kept (by (with_reducible repeat (first | refine blk_drewN ?_ _ | refine blk_drew ?_ | refine blk_alloc ?_ _)); exact BK158.out) hkp (fun hs_ => (fun e_ => (Kd.R_ne HO173.out BK158.out (by decide)) e_) hs_)); have n1_ := Aside0.mk (Kd.R_mono (ok' := fun k_ => True) ho0 (fun k_ hk_ => trivial)); have n2_ := Aside0.mk (hb); clear BK158; clear HB; clear HO173; have BK158 := n0_; have HO177 := n1_; have HB := n2_; clear n0_ n1_ n2_; (try clear hb); (try clear hkp); (try clear ho0); have hcz44_0 : w43.cell? ⟨gb158, 0, none⟩ = some (.int .i64 a0_0) := (blk_cell BK158.out 0).trans rfl; have hcz44_1 : w43.cell? ⟨gb158, 1, none⟩ = some (.int .i64 a0_1) := (blk_cell BK158.out 1).trans rfl; have hcz44_2 : w43.cell? ⟨gb158, 2, none⟩ = some (.int .i64 a0_2) := (blk_cell BK158.out 2).trans rfl; have hcz44_3 : w43.cell? ⟨gb158, 3, none⟩ = some (.int .i64 a0_3) := (blk_cell BK158.out 3).trans rfl; have hcz44_4 : w43.cell? ⟨gb158, 4, none⟩ = some (.int .i64 a0_4) := (blk_cell BK158.out 4).trans rfl; have hcz44_5 : w43.cell? ⟨gb158, 5, none⟩ = some (.int .u32 a0_5) := (blk_cell BK158.out 5).trans rfl; have hcz44_6 : w43.cell? ⟨gb158, 6, none⟩ = some (.int .u64 a0_6) := (blk_cell BK158.out 6).trans rfl; have hcz44_7 : w43.cell? ⟨gb158, 7, none⟩ = some (.int .i64 a0_7) := (blk_cell BK158.out 7).trans rfl; have hcz44_8 : w43.cell? ⟨gb158, 8, none⟩ = some (.int .i64 a0_8) := (blk_cell BK158.out 8).trans rfl; have hcz44_9 : w43.cell? ⟨gb158, 9, none⟩ = some (.int .i64 a0_9) := (blk_cell BK158.out 9).trans rfl; have hcz44_10 : w43.cell? ⟨gb158, 10, none⟩ = some (.int .i64 a0_10) := (blk_cell BK158.out 10).trans rfl; have hfz44_0 := blk_frozen BK158.out 0; have hfz44_1 := blk_frozen BK158.out 1; have hfz44_2 := blk_frozen BK158.out 2; have hfz44_3 := blk_frozen BK158.out 3; have hfz44_4 := blk_frozen BK158.out 4; have hfz44_5 := blk_frozen BK158.out 5; have hfz44_6 := blk_frozen BK158.out 6; have hfz44_7 := blk_frozen BK158.out 7; have hfz44_8 := blk_frozen BK158.out 8; have hfz44_9 := blk_frozen BK158.out 9; have hfz44_10 := blk_frozen BK158.out 10) | ((with_reducible refine gate_callee (f := 11) rfl ?_); refine goesL_ (some 26) rfl rfl Tryd.func11 (by kernel_rfl) rfl #[.int .i64 a0_4] rfl (by (try simp only [List.map_toArray, List.map_cons, List.map_nil]); first | done | rfl | (simp only [List.length_drop, List.length_take]; rfl)) ?_; (with_reducible refine (foliotref19_Number.calls k a0_4 t178 _ A10.out).mono ?_); rintro e w45 ⟨rfl, hb⟩; refine ⟨_, rfl, ?_⟩; have n0_ := Aside0.mk (Kd.R_below (by (with_reducible repeat (first | apply Kd.R_alloc | apply Kd.R_drewN | apply Kd.R_drew)); exact HO177.out) hb); have n1_ := Aside0.mk (blk_below (g := gb158) (o := .cells #[.int .i64 a0_0, .int .i64 a0_1, .int .i64 a0_2, .int .i64 a0_3, .int .i64 a0_4, .int .u32 a0_5, .int .u64 a0_6, .int .i64 a0_7, .int .i64 a0_8, .int .i64 a0_9, .int .i64 a0_10] 28 (0, 0)) (by (with_reducible repeat (first | refine blk_drewN ?_ _ | refine blk_drew ?_ | refine blk_alloc ?_ _)); exact BK158.out) hb); have n2_ := Aside0.mk (below_step (by repeat (first | (with_reducible first | exact HB.out | apply below_alloc | apply pw_below_drewN | apply below_drew1 | refine below_set ?_ GE158.out) | exact HB.out)) hb); clear HO177; clear BK158; clear HB; have HO177 := n0_; have BK158 := n1_; have HB := n2_; clear n0_ n1_ n2_; (try clear hb); (try clear hb2); (try clear hk); (try clear hi); obtain ⟨Ao46, co46, eo46⟩ := Kd.R_slice HO177.out; subst eo46) | ((with_reducible refine gate_callee (f := 19) rfl ?_); refine goesL_ (some 27) rfl rfl Tryd.func19 (by kernel_rfl) rfl #[.slice Ao46 t175.length co46, .string (⟨#[114, 111, 111, 116, 100, 105, 115, 112]⟩ : ByteArray), .string t178] rfl (by (try simp only [List.map_toArray, List.map_cons, List.map_nil]); first | done | rfl | (simp only [List.length_drop, List.length_take]; rfl)) ?_; (with_reducible refine (foliotref19_put.calls (fun k_ => some k_ = (.slice Ao46 t175.length co46 : Value).ownBlock) (.slice Ao46 t175.length co46) t175 (⟨#[114, 111, 111, 116, 100, 105, 115, 112]⟩ : ByteArray) t178 t179 w _ ?side1 ?side2 A11.out).mono ?_); (case side1 => repeat (first | (with_reducible first | exact HB.out | apply below_alloc | apply pw_below_drewN | apply below_drew1 | refine below_set ?_ GE158.out) | exact HB.out)); (case side2 => exact Kd.R_tight rfl HO177.out); rintro e w47 ⟨v180, rfl, ho0, hb, hkp⟩; refine ⟨_, rfl, ?_⟩; have n0_ := Aside0.mk (blk_kept (by (with_reducible repeat (first | refine blk_drewN ?_ _ | refine blk_drew ?_ | refine blk_alloc ?_ _)); exact BK158.out) hkp (fun hs_ => (fun e_ => (Kd.R_ne HO177.out BK158.out (by decide)) e_) hs_)); have n1_ := Aside0.mk (Kd.R_mono (ok' := fun k_ => True) ho0 (fun k_ hk_ => trivial)); have n2_ := Aside0.mk (hb); clear BK158; clear HB; clear HO177; have BK158 := n0_; have HO181 := n1_; have HB := n2_; clear n0_ n1_ n2_; (try clear hb); (try clear hkp); (try clear ho0); have hcz48_0 : w47.cell? ⟨gb158, 0, none⟩ = some (.int .i64 a0_0) := (blk_cell BK158.out 0).trans rfl; have hcz48_1 : w47.cell? ⟨gb158, 1, none⟩ = some (.int .i64 a0_1) := (blk_cell BK158.out 1).trans rfl; have hcz48_2 : w47.cell? ⟨gb158, 2, none⟩ = some (.int .i64 a0_2) := (blk_cell BK158.out 2).trans rfl; have hcz48_3 : w47.cell? ⟨gb158, 3, none⟩ = some (.int .i64 a0_3) := (blk_cell BK158.out 3).trans rfl; have hcz48_4 : w47.cell? ⟨gb158, 4, none⟩ = some (.int .i64 a0_4) := (blk_cell BK158.out 4).trans rfl; have hcz48_5 : w47.cell? ⟨gb158, 5, none⟩ = some (.int .u32 a0_5) := (blk_cell BK158.out 5).trans rfl; have hcz48_6 : w47.cell? ⟨gb158, 6, none⟩ = some (.int .u64 a0_6) := (blk_cell BK158.out 6).trans rfl; have hcz48_7 : w47.cell? ⟨gb158, 7, none⟩ = some (.int .i64 a0_7) := (blk_cell BK158.out 7).trans rfl; have hcz48_8 : w47.cell? ⟨gb158, 8, none⟩ = some (.int .i64 a0_8) := (blk_cell BK158.out 8).trans rfl; have hcz48_9 : w47.cell? ⟨gb158, 9, none⟩ = some (.int .i64 a0_9) := (blk_cell BK158.out 9).trans rfl; have hcz48_10 : w47.cell? ⟨gb158, 10, none⟩ = some (.int .i64 a0_10) := (blk_cell BK158.out 10).trans rfl; have hfz48_0 := blk_frozen BK158.out 0; have hfz48_1 := blk_frozen BK158.out 1; have hfz48_2 := blk_frozen BK158.out 2; have hfz48_3 := blk_frozen BK158.out 3; have hfz48_4 := blk_frozen BK158.out 4; have hfz48_5 := blk_frozen BK158.out 5; have hfz48_6 := blk_frozen BK158.out 6; have hfz48_7 := blk_frozen BK158.out 7; have hfz48_8 := blk_frozen BK158.out 8; have hfz48_9 := blk_frozen BK158.out 9; have hfz48_10 := blk_frozen BK158.out 10) | ((with_reducible refine gate_callee (f := 20) rfl ?_); refine goesL_ (some 31) rfl rfl Tryd.func20 (by kernel_rfl) rfl #[.int .u32 a0_5] rfl (by (try simp only [List.map_toArray, List.map_cons, List.map_nil]); first | done | rfl | (simp only [List.length_drop, List.length_take]; rfl)) ?_; (with_reducible refine (foliotref05_PrintAddr.calls k a0_5 t182 _ A12.out).mono ?_); rintro e w49 ⟨rfl, hb⟩; refine ⟨_, rfl, ?_⟩; have n0_ := Aside0.mk (Kd.R_below (by (with_reducible repeat (first | apply Kd.R_alloc | apply Kd.R_drewN | apply Kd.R_drew)); exact HO181.out) hb); have n1_ := Aside0.mk (blk_below (g := gb158) (o := .cells #[.int .i64 a0_0, .int .i64 a0_1, .int .i64 a0_2, .int .i64 a0_3, .int .i64 a0_4, .int .u32 a0_5, .int .u64 a0_6, .int .i64 a0_7, .int .i64 a0_8, .int .i64 a0_9, .int .i64 a0_10] 28 (0, 0)) (by (with_reducible repeat (first | refine blk_drewN ?_ _ | refine blk_drew ?_ | refine blk_alloc ?_ _)); exact BK158.out) hb); have n2_ := Aside0.mk (below_step (by repeat (first | (with_reducible first | exact HB.out | apply below_alloc | apply pw_below_drewN | apply below_drew1 | refine below_set ?_ GE158.out) | exact HB.out)) hb); clear HO181; clear BK158; clear HB; have HO181 := n0_; have BK158 := n1_; have HB := n2_; clear n0_ n1_ n2_; (try clear hb); (try clear hb2); (try clear hk); (try clear hi); obtain ⟨Ao50, co50, eo50⟩ := Kd.R_slice HO181.out; subst eo50) | ((with_reducible refine gate_callee (f := 19) rfl ?_); refine goesL_ (some 32) rfl rfl Tryd.func19 (by kernel_rfl) rfl #[.slice Ao50 t179.length co50, .string (⟨#[114, 101, 102, 105, 100]⟩ : ByteArray), .string t182] rfl (by (try simp only [List.map_toArray, List.map_cons, List.map_nil]); first | done | rfl | (simp only [List.length_drop, List.length_take]; rfl)) ?_; (with_reducible refine (foliotref19_put.calls (fun k_ => some k_ = (.slice Ao50 t179.length co50 : Value).ownBlock) (.slice Ao50 t179.length co50) t179 (⟨#[114, 101, 102, 105, 100]⟩ : ByteArray) t182 t183 w _ ?side1 ?side2 A13.out).mono ?_); (case side1 => repeat (first | (with_reducible first | exact HB.out | apply below_alloc | apply pw_below_drewN | apply below_drew1 | refine below_set ?_ GE158.out) | exact HB.out)); (case side2 => exact Kd.R_tight rfl HO181.out); rintro e w51 ⟨v184, rfl, ho0, hb, hkp⟩; refine ⟨_, rfl, ?_⟩; have n0_ := Aside0.mk (blk_kept (by (with_reducible repeat (first | refine blk_drewN ?_ _ | refine blk_drew ?_ | refine blk_alloc ?_ _)); exact BK158.out) hkp (fun hs_ => (fun e_ => (Kd.R_ne HO181.out BK158.out (by decide)) e_) hs_)); have n1_ := Aside0.mk (Kd.R_mono (ok' := fun k_ => True) ho0 (fun k_ hk_ => trivial)); have n2_ := Aside0.mk (hb); clear BK158; clear HB; clear HO181; have BK158 := n0_; have HO185 := n1_; have HB := n2_; clear n0_ n1_ n2_; (try clear hb); (try clear hkp); (try clear ho0); have hcz52_0 : w51.cell? ⟨gb158, 0, none⟩ = some (.int .i64 a0_0) := (blk_cell BK158.out 0).trans rfl; have hcz52_1 : w51.cell? ⟨gb158, 1, none⟩ = some (.int .i64 a0_1) := (blk_cell BK158.out 1).trans rfl; have hcz52_2 : w51.cell? ⟨gb158, 2, none⟩ = some (.int .i64 a0_2) := (blk_cell BK158.out 2).trans rfl; have hcz52_3 : w51.cell? ⟨gb158, 3, none⟩ = some (.int .i64 a0_3) := (blk_cell BK158.out 3).trans rfl; have hcz52_4 : w51.cell? ⟨gb158, 4, none⟩ = some (.int .i64 a0_4) := (blk_cell BK158.out 4).trans rfl; have hcz52_5 : w51.cell? ⟨gb158, 5, none⟩ = some (.int .u32 a0_5) := (blk_cell BK158.out 5).trans rfl; have hcz52_6 : w51.cell? ⟨gb158, 6, none⟩ = some (.int .u64 a0_6) := (blk_cell BK158.out 6).trans rfl; have hcz52_7 : w51.cell? ⟨gb158, 7, none⟩ = some (.int .i64 a0_7) := (blk_cell BK158.out 7).trans rfl; have hcz52_8 : w51.cell? ⟨gb158, 8, none⟩ = some (.int .i64 a0_8) := (blk_cell BK158.out 8).trans rfl; have hcz52_9 : w51.cell? ⟨gb158, 9, none⟩ = some (.int .i64 a0_9) := (blk_cell BK158.out 9).trans rfl; have hcz52_10 : w51.cell? ⟨gb158, 10, none⟩ = some (.int .i64 a0_10) := (blk_cell BK158.out 10).trans rfl; have hfz52_0 := blk_frozen BK158.out 0; have hfz52_1 := blk_frozen BK158.out 1; have hfz52_2 := blk_frozen BK158.out 2; have hfz52_3 := blk_frozen BK158.out 3; have hfz52_4 := blk_frozen BK158.out 4; have hfz52_5 := blk_frozen BK158.out 5; have hfz52_6 := blk_frozen BK158.out 6; have hfz52_7 := blk_frozen BK158.out 7; have hfz52_8 := blk_frozen BK158.out 8; have hfz52_9 := blk_frozen BK158.out 9; have hfz52_10 := blk_frozen BK158.out 10) | ((with_reducible refine gate_callee (f := 21) rfl ?_); refine goesL_ (some 36) rfl rfl Tryd.func21 (by kernel_rfl) rfl #[.int .u64 a0_6] rfl (by (try simp only [List.map_toArray, List.map_cons, List.map_nil]); first | done | rfl | (simp only [List.length_drop, List.length_take]; rfl)) ?_; (with_reducible refine (foliotref19_natural.calls k a0_6 t186 _ A14.out).mono ?_); rintro e w53 ⟨rfl, hb⟩; refine ⟨_, rfl, ?_⟩; have n0_ := Aside0.mk (Kd.R_below (by (with_reducible repeat (first | apply Kd.R_alloc | apply Kd.R_drewN | apply Kd.R_drew)); exact HO185.out) hb); have n1_ := Aside0.mk (blk_below (g := gb158) (o := .cells #[.int .i64 a0_0, .int .i64 a0_1, .int .i64 a0_2, .int .i64 a0_3, .int .i64 a0_4, .int .u32 a0_5, .int .u64 a0_6, .int .i64 a0_7, .int .i64 a0_8, .int .i64 a0_9, .int .i64 a0_10] 28 (0, 0)) (by (with_reducible repeat (first | refine blk_drewN ?_ _ | refine blk_drew ?_ | refine blk_alloc ?_ _)); exact BK158.out) hb); have n2_ := Aside0.mk (below_step (by repeat (first | (with_reducible first | exact HB.out | apply below_alloc | apply pw_below_drewN | apply below_drew1 | refine below_set ?_ GE158.out) | exact HB.out)) hb); clear HO185; clear BK158; clear HB; have HO185 := n0_; have BK158 := n1_; have HB := n2_; clear n0_ n1_ n2_; (try clear hb); (try clear hb2); (try clear hk); (try clear hi); obtain ⟨Ao54, co54, eo54⟩ := Kd.R_slice HO185.out; subst eo54) | ((with_reducible refine gate_callee (f := 19) rfl ?_); refine goesL_ (some 37) rfl rfl Tryd.func19 (by kernel_rfl) rfl #[.slice Ao54 t183.length co54, .string (⟨#[114, 101, 102, 116, 105, 109, 101]⟩ : ByteArray), .string t186] rfl (by (try simp only [List.map_toArray, List.map_cons, List.map_nil]); first | done | rfl | (simp only [List.length_drop, List.length_take]; rfl)) ?_; (with_reducible refine (foliotref19_put.calls (fun k_ => some k_ = (.slice Ao54 t183.length co54 : Value).ownBlock) (.slice Ao54 t183.length co54) t183 (⟨#[114, 101, 102, 116, 105, 109, 101]⟩ : ByteArray) t186 t187 w _ ?side1 ?side2 A15.out).mono ?_); (case side1 => repeat (first | (with_reducible first | exact HB.out | apply below_alloc | apply pw_below_drewN | apply below_drew1 | refine below_set ?_ GE158.out) | exact HB.out)); (case side2 => exact Kd.R_tight rfl HO185.out); rintro e w55 ⟨v188, rfl, ho0, hb, hkp⟩; refine ⟨_, rfl, ?_⟩; have n0_ := Aside0.mk (blk_kept (by (with_reducible repeat (first | refine blk_drewN ?_ _ | refine blk_drew ?_ | refine blk_alloc ?_ _)); exact BK158.out) hkp (fun hs_ => (fun e_ => (Kd.R_ne HO185.out BK158.out (by decide)) e_) hs_)); have n1_ := Aside0.mk (Kd.R_mono (ok' := fun k_ => True) ho0 (fun k_ hk_ => trivial)); have n2_ := Aside0.mk (hb); clear BK158; clear HB; clear HO185; have BK158 := n0_; have HO189 := n1_; have HB := n2_; clear n0_ n1_ n2_; (try clear hb); (try clear hkp); (try clear ho0); have hcz56_0 : w55.cell? ⟨gb158, 0, none⟩ = some (.int .i64 a0_0) := (blk_cell BK158.out 0).trans rfl; have hcz56_1 : w55.cell? ⟨gb158, 1, none⟩ = some (.int .i64 a0_1) := (blk_cell BK158.out 1).trans rfl; have hcz56_2 : w55.cell? ⟨gb158, 2, none⟩ = some (.int .i64 a0_2) := (blk_cell BK158.out 2).trans rfl; have hcz56_3 : w55.cell? ⟨gb158, 3, none⟩ = some (.int .i64 a0_3) := (blk_cell BK158.out 3).trans rfl; have hcz56_4 : w55.cell? ⟨gb158, 4, none⟩ = some (.int .i64 a0_4) := (blk_cell BK158.out 4).trans rfl; have hcz56_5 : w55.cell? ⟨gb158, 5, none⟩ = some (.int .u32 a0_5) := (blk_cell BK158.out 5).trans rfl; have hcz56_6 : w55.cell? ⟨gb158, 6, none⟩ = some (.int .u64 a0_6) := (blk_cell BK158.out 6).trans rfl; have hcz56_7 : w55.cell? ⟨gb158, 7, none⟩ = some (.int .i64 a0_7) := (blk_cell BK158.out 7).trans rfl; have hcz56_8 : w55.cell? ⟨gb158, 8, none⟩ = some (.int .i64 a0_8) := (blk_cell BK158.out 8).trans rfl; have hcz56_9 : w55.cell? ⟨gb158, 9, none⟩ = some (.int .i64 a0_9) := (blk_cell BK158.out 9).trans rfl; have hcz56_10 : w55.cell? ⟨gb158, 10, none⟩ = some (.int .i64 a0_10) := (blk_cell BK158.out 10).trans rfl; have hfz56_0 := blk_frozen BK158.out 0; have hfz56_1 := blk_frozen BK158.out 1; have hfz56_2 := blk_frozen BK158.out 2; have hfz56_3 := blk_frozen BK158.out 3; have hfz56_4 := blk_frozen BK158.out 4; have hfz56_5 := blk_frozen BK158.out 5; have hfz56_6 := blk_frozen BK158.out 6; have hfz56_7 := blk_frozen BK158.out 7; have hfz56_8 := blk_frozen BK158.out 8; have hfz56_9 := blk_frozen BK158.out 9; have hfz56_10 := blk_frozen BK158.out 10) | ((with_reducible refine gate_callee (f := 11) rfl ?_); refine goesL_ (some 41) rfl rfl Tryd.func11 (by kernel_rfl) rfl #[.int .i64 a0_9] rfl (by (try simp only [List.map_toArray, List.map_cons, List.map_nil]); first | done | rfl | (simp only [List.length_drop, List.length_take]; rfl)) ?_; (with_reducible refine (foliotref19_Number.calls k a0_9 t190 _ A16.out).mono ?_); rintro e w57 ⟨rfl, hb⟩; refine ⟨_, rfl, ?_⟩; have n0_ := Aside0.mk (Kd.R_below (by (with_reducible repeat (first | apply Kd.R_alloc | apply Kd.R_drewN | apply Kd.R_drew)); exact HO189.out) hb); have n1_ := Aside0.mk (blk_below (g := gb158) (o := .cells #[.int .i64 a0_0, .int .i64 a0_1, .int .i64 a0_2, .int .i64 a0_3, .int .i64 a0_4, .int .u32 a0_5, .int .u64 a0_6, .int .i64 a0_7, .int .i64 a0_8, .int .i64 a0_9, .int .i64 a0_10] 28 (0, 0)) (by (with_reducible repeat (first | refine blk_drewN ?_ _ | refine blk_drew ?_ | refine blk_alloc ?_ _)); exact BK158.out) hb); have n2_ := Aside0.mk (below_step (by repeat (first | (with_reducible first | exact HB.out | apply below_alloc | apply pw_below_drewN | apply below_drew1 | refine below_set ?_ GE158.out) | exact HB.out)) hb); clear HO189; clear BK158; clear HB; have HO189 := n0_; have BK158 := n1_; have HB := n2_; clear n0_ n1_ n2_; (try clear hb); (try clear hb2); (try clear hk); (try clear hi); obtain ⟨Ao58, co58, eo58⟩ := Kd.R_slice HO189.out; subst eo58) | ((with_reducible refine gate_callee (f := 19) rfl ?_); refine goesL_ (some 42) rfl rfl Tryd.func19 (by kernel_rfl) rfl #[.slice Ao58 t187.length co58, .string (⟨#[112, 101, 101, 114]⟩ : ByteArray), .string t190] rfl (by (try simp only [List.map_toArray, List.map_cons, List.map_nil]); first | done | rfl | (simp only [List.length_drop, List.length_take]; rfl)) ?_; (with_reducible refine (foliotref19_put.calls (fun k_ => some k_ = (.slice Ao58 t187.length co58 : Value).ownBlock) (.slice Ao58 t187.length co58) t187 (⟨#[112, 101, 101, 114]⟩ : ByteArray) t190 t191 w _ ?side1 ?side2 A17.out).mono ?_); (case side1 => repeat (first | (with_reducible first | exact HB.out | apply below_alloc | apply pw_below_drewN | apply below_drew1 | refine below_set ?_ GE158.out) | exact HB.out)); (case side2 => exact Kd.R_tight rfl HO189.out); rintro e w59 ⟨v192, rfl, ho0, hb, hkp⟩; refine ⟨_, rfl, ?_⟩; have n0_ := Aside0.mk (blk_kept (by (with_reducible repeat (first | refine blk_drewN ?_ _ | refine blk_drew ?_ | refine blk_alloc ?_ _)); exact BK158.out) hkp (fun hs_ => (fun e_ => (Kd.R_ne HO189.out BK158.out (by decide)) e_) hs_)); have n1_ := Aside0.mk (Kd.R_mono (ok' := fun k_ => True) ho0 (fun k_ hk_ => trivial)); have n2_ := Aside0.mk (hb); clear BK158; clear HB; clear HO189; have BK158 := n0_; have HO193 := n1_; have HB := n2_; clear n0_ n1_ n2_; (try clear hb); (try clear hkp); (try clear ho0); have hcz60_0 : w59.cell? ⟨gb158, 0, none⟩ = some (.int .i64 a0_0) := (blk_cell BK158.out 0).trans rfl; have hcz60_1 : w59.cell? ⟨gb158, 1, none⟩ = some (.int .i64 a0_1) := (blk_cell BK158.out 1).trans rfl; have hcz60_2 : w59.cell? ⟨gb158, 2, none⟩ = some (.int .i64 a0_2) := (blk_cell BK158.out 2).trans rfl; have hcz60_3 : w59.cell? ⟨gb158, 3, none⟩ = some (.int .i64 a0_3) := (blk_cell BK158.out 3).trans rfl; have hcz60_4 : w59.cell? ⟨gb158, 4, none⟩ = some (.int .i64 a0_4) := (blk_cell BK158.out 4).trans rfl; have hcz60_5 : w59.cell? ⟨gb158, 5, none⟩ = some (.int .u32 a0_5) := (blk_cell BK158.out 5).trans rfl; have hcz60_6 : w59.cell? ⟨gb158, 6, none⟩ = some (.int .u64 a0_6) := (blk_cell BK158.out 6).trans rfl; have hcz60_7 : w59.cell? ⟨gb158, 7, none⟩ = some (.int .i64 a0_7) := (blk_cell BK158.out 7).trans rfl; have hcz60_8 : w59.cell? ⟨gb158, 8, none⟩ = some (.int .i64 a0_8) := (blk_cell BK158.out 8).trans rfl; have hcz60_9 : w59.cell? ⟨gb158, 9, none⟩ = some (.int .i64 a0_9) := (blk_cell BK158.out 9).trans rfl; have hcz60_10 : w59.cell? ⟨gb158, 10, none⟩ = some (.int .i64 a0_10) := (blk_cell BK158.out 10).trans rfl; have hfz60_0 := blk_frozen BK158.out 0; have hfz60_1 := blk_frozen BK158.out 1; have hfz60_2 := blk_frozen BK158.out 2; have hfz60_3 := blk_frozen BK158.out 3; have hfz60_4 := blk_frozen BK158.out 4; have hfz60_5 := blk_frozen BK158.out 5; have hfz60_6 := blk_frozen BK158.out 6; have hfz60_7 := blk_frozen BK158.out 7; have hfz60_8 := blk_frozen BK158.out 8; have hfz60_9 := blk_frozen BK158.out 9; have hfz60_10 := blk_frozen BK158.out 10) | ((with_reducible refine gate_callee (f := 11) rfl ?_); refine goesL_ (some 46) rfl rfl Tryd.func11 (by kernel_rfl) rfl #[.int .i64 a0_2] rfl (by (try simp only [List.map_toArray, List.map_cons, List.map_nil]); first | done | rfl | (simp only [List.length_drop, List.length_take]; rfl)) ?_; (with_reducible refine (foliotref19_Number.calls k a0_2 t194 _ A18.out).mono ?_); rintro e w61 ⟨rfl, hb⟩; refine ⟨_, rfl, ?_⟩; have n0_ := Aside0.mk (Kd.R_below (by (with_reducible repeat (first | apply Kd.R_alloc | apply Kd.R_drewN | apply Kd.R_drew)); exact HO193.out) hb); have n1_ := Aside0.mk (blk_below (g := gb158) (o := .cells #[.int .i64 a0_0, .int .i64 a0_1, .int .i64 a0_2, .int .i64 a0_3, .int .i64 a0_4, .int .u32 a0_5, .int .u64 a0_6, .int .i64 a0_7, .int .i64 a0_8, .int .i64 a0_9, .int .i64 a0_10] 28 (0, 0)) (by (with_reducible repeat (first | refine blk_drewN ?_ _ | refine blk_drew ?_ | refine blk_alloc ?_ _)); exact BK158.out) hb); have n2_ := Aside0.mk (below_step (by repeat (first | (with_reducible first | exact HB.out | apply below_alloc | apply pw_below_drewN | apply below_drew1 | refine below_set ?_ GE158.out) | exact HB.out)) hb); clear HO193; clear BK158; clear HB; have HO193 := n0_; have BK158 := n1_; have HB := n2_; clear n0_ n1_ n2_; (try clear hb); (try clear hb2); (try clear hk); (try clear hi); obtain ⟨Ao62, co62, eo62⟩ := Kd.R_slice HO193.out; subst eo62) | ((with_reducible refine gate_callee (f := 19) rfl ?_); refine goesL_ (some 47) rfl rfl Tryd.func19 (by kernel_rfl) rfl #[.slice Ao62 t191.length co62, .string (⟨#[116, 99]⟩ : ByteArray), .string t194] rfl (by (try simp only [List.map_toArray, List.map_cons, List.map_nil]); first | done | rfl | (simp only [List.length_drop, List.length_take]; rfl)) ?_; (with_reducible refine (foliotref19_put.calls (fun k_ => some k_ = (.slice Ao62 t191.length co62 : Value).ownBlock) (.slice Ao62 t191.length co62) t191 (⟨#[116, 99]⟩ : ByteArray) t194 t195 w _ ?side1 ?side2 A19.out).mono ?_); (case side1 => repeat (first | (with_reducible first | exact HB.out | apply below_alloc | apply pw_below_drewN | apply below_drew1 | refine below_set ?_ GE158.out) | exact HB.out)); (case side2 => exact Kd.R_tight rfl HO193.out); rintro e w63 ⟨v196, rfl, ho0, hb, hkp⟩; refine ⟨_, rfl, ?_⟩; have n0_ := Aside0.mk (blk_kept (by (with_reducible repeat (first | refine blk_drewN ?_ _ | refine blk_drew ?_ | refine blk_alloc ?_ _)); exact BK158.out) hkp (fun hs_ => (fun e_ => (Kd.R_ne HO193.out BK158.out (by decide)) e_) hs_)); have n1_ := Aside0.mk (Kd.R_mono (ok' := fun k_ => True) ho0 (fun k_ hk_ => trivial)); have n2_ := Aside0.mk (hb); clear BK158; clear HB; clear HO193; have BK158 := n0_; have HO197 := n1_; have HB := n2_; clear n0_ n1_ n2_; (try clear hb); (try clear hkp); (try clear ho0); have hcz64_0 : w63.cell? ⟨gb158, 0, none⟩ = some (.int .i64 a0_0) := (blk_cell BK158.out 0).trans rfl; have hcz64_1 : w63.cell? ⟨gb158, 1, none⟩ = some (.int .i64 a0_1) := (blk_cell BK158.out 1).trans rfl; have hcz64_2 : w63.cell? ⟨gb158, 2, none⟩ = some (.int .i64 a0_2) := (blk_cell BK158.out 2).trans rfl; have hcz64_3 : w63.cell? ⟨gb158, 3, none⟩ = some (.int .i64 a0_3) := (blk_cell BK158.out 3).trans rfl; have hcz64_4 : w63.cell? ⟨gb158, 4, none⟩ = some (.int .i64 a0_4) := (blk_cell BK158.out 4).trans rfl; have hcz64_5 : w63.cell? ⟨gb158, 5, none⟩ = some (.int .u32 a0_5) := (blk_cell BK158.out 5).trans rfl; have hcz64_6 : w63.cell? ⟨gb158, 6, none⟩ = some (.int .u64 a0_6) := (blk_cell BK158.out 6).trans rfl; have hcz64_7 : w63.cell? ⟨gb158, 7, none⟩ = some (.int .i64 a0_7) := (blk_cell BK158.out 7).trans rfl; have hcz64_8 : w63.cell? ⟨gb158, 8, none⟩ = some (.int .i64 a0_8) := (blk_cell BK158.out 8).trans rfl; have hcz64_9 : w63.cell? ⟨gb158, 9, none⟩ = some (.int .i64 a0_9) := (blk_cell BK158.out 9).trans rfl; have hcz64_10 : w63.cell? ⟨gb158, 10, none⟩ = some (.int .i64 a0_10) := (blk_cell BK158.out 10).trans rfl; have hfz64_0 := blk_frozen BK158.out 0; have hfz64_1 := blk_frozen BK158.out 1; have hfz64_2 := blk_frozen BK158.out 2; have hfz64_3 := blk_frozen BK158.out 3; have hfz64_4 := blk_frozen BK158.out 4; have hfz64_5 := blk_frozen BK158.out 5; have hfz64_6 := blk_frozen BK158.out 6; have hfz64_7 := blk_frozen BK158.out 7; have hfz64_8 := blk_frozen BK158.out 8; have hfz64_9 := blk_frozen BK158.out 9; have hfz64_10 := blk_frozen BK158.out 10) | ((with_reducible refine gate_callee (f := 11) rfl ?_); refine goesL_ (some 51) rfl rfl Tryd.func11 (by kernel_rfl) rfl #[.int .i64 a0_7] rfl (by (try simp only [List.map_toArray, List.map_cons, List.map_nil]); first | done | rfl | (simp only [List.length_drop, List.length_take]; rfl)) ?_; (with_reducible refine (foliotref19_Number.calls k a0_7 t198 _ A20.out).mono ?_); rintro e w65 ⟨rfl, hb⟩; refine ⟨_, rfl, ?_⟩; have n0_ := Aside0.mk (Kd.R_below (by (with_reducible repeat (first | apply Kd.R_alloc | apply Kd.R_drewN | apply Kd.R_drew)); exact HO197.out) hb); have n1_ := Aside0.mk (blk_below (g := gb158) (o := .cells #[.int .i64 a0_0, .int .i64 a0_1, .int .i64 a0_2, .int .i64 a0_3, .int .i64 a0_4, .int .u32 a0_5, .int .u64 a0_6, .int .i64 a0_7, .int .i64 a0_8, .int .i64 a0_9, .int .i64 a0_10] 28 (0, 0)) (by (with_reducible repeat (first | refine blk_drewN ?_ _ | refine blk_drew ?_ | refine blk_alloc ?_ _)); exact BK158.out) hb); have n2_ := Aside0.mk (below_step (by repeat (first | (with_reducible first | exact HB.out | apply below_alloc | apply pw_below_drewN | apply below_drew1 | refine below_set ?_ GE158.out) | exact HB.out)) hb); clear HO197; clear BK158; clear HB; have HO197 := n0_; have BK158 := n1_; have HB := n2_; clear n0_ n1_ n2_; (try clear hb); (try clear hb2); (try clear hk); (try clear hi); obtain ⟨Ao66, co66, eo66⟩ := Kd.R_slice HO197.out; subst eo66) | ((with_reducible refine gate_callee (f := 19) rfl ?_); refine goesL_ (some 52) rfl rfl Tryd.func19 (by kernel_rfl) rfl #[.slice Ao66 t195.length co66, .string (⟨#[111, 102, 102, 115, 101, 116]⟩ : ByteArray), .string t198] rfl (by (try simp only [List.map_toArray, List.map_cons, List.map_nil]); first | done | rfl | (simp only [List.length_drop, List.length_take]; rfl)) ?_; (with_reducible refine (foliotref19_put.calls (fun k_ => some k_ = (.slice Ao66 t195.length co66 : Value).ownBlock) (.slice Ao66 t195.length co66) t195 (⟨#[111, 102, 102, 115, 101, 116]⟩ : ByteArray) t198 t199 w _ ?side1 ?side2 A21.out).mono ?_); (case side1 => repeat (first | (with_reducible first | exact HB.out | apply below_alloc | apply pw_below_drewN | apply below_drew1 | refine below_set ?_ GE158.out) | exact HB.out)); (case side2 => exact Kd.R_tight rfl HO197.out); rintro e w67 ⟨v200, rfl, ho0, hb, hkp⟩; refine ⟨_, rfl, ?_⟩; have n0_ := Aside0.mk (blk_kept (by (with_reducible repeat (first | refine blk_drewN ?_ _ | refine blk_drew ?_ | refine blk_alloc ?_ _)); exact BK158.out) hkp (fun hs_ => (fun e_ => (Kd.R_ne HO197.out BK158.out (by decide)) e_) hs_)); have n1_ := Aside0.mk (Kd.R_mono (ok' := fun k_ => True) ho0 (fun k_ hk_ => trivial)); have n2_ := Aside0.mk (hb); clear BK158; clear HB; clear HO197; have BK158 := n0_; have HO201 := n1_; have HB := n2_; clear n0_ n1_ n2_; (try clear hb); (try clear hkp); (try clear ho0); have hcz68_0 : w67.cell? ⟨gb158, 0, none⟩ = some (.int .i64 a0_0) := (blk_cell BK158.out 0).trans rfl; have hcz68_1 : w67.cell? ⟨gb158, 1, none⟩ = some (.int .i64 a0_1) := (blk_cell BK158.out 1).trans rfl; have hcz68_2 : w67.cell? ⟨gb158, 2, none⟩ = some (.int .i64 a0_2) := (blk_cell BK158.out 2).trans rfl; have hcz68_3 : w67.cell? ⟨gb158, 3, none⟩ = some (.int .i64 a0_3) := (blk_cell BK158.out 3).trans rfl; have hcz68_4 : w67.cell? ⟨gb158, 4, none⟩ = some (.int .i64 a0_4) := (blk_cell BK158.out 4).trans rfl; have hcz68_5 : w67.cell? ⟨gb158, 5, none⟩ = some (.int .u32 a0_5) := (blk_cell BK158.out 5).trans rfl; have hcz68_6 : w67.cell? ⟨gb158, 6, none⟩ = some (.int .u64 a0_6) := (blk_cell BK158.out 6).trans rfl; have hcz68_7 : w67.cell? ⟨gb158, 7, none⟩ = some (.int .i64 a0_7) := (blk_cell BK158.out 7).trans rfl; have hcz68_8 : w67.cell? ⟨gb158, 8, none⟩ = some (.int .i64 a0_8) := (blk_cell BK158.out 8).trans rfl; have hcz68_9 : w67.cell? ⟨gb158, 9, none⟩ = some (.int .i64 a0_9) := (blk_cell BK158.out 9).trans rfl; have hcz68_10 : w67.cell? ⟨gb158, 10, none⟩ = some (.int .i64 a0_10) := (blk_cell BK158.out 10).trans rfl; have hfz68_0 := blk_frozen BK158.out 0; have hfz68_1 := blk_frozen BK158.out 1; have hfz68_2 := blk_frozen BK158.out 2; have hfz68_3 := blk_frozen BK158.out 3; have hfz68_4 := blk_frozen BK158.out 4; have hfz68_5 := blk_frozen BK158.out 5; have hfz68_6 := blk_frozen BK158.out 6; have hfz68_7 := blk_frozen BK158.out 7; have hfz68_8 := blk_frozen BK158.out 8; have hfz68_9 := blk_frozen BK158.out 9; have hfz68_10 := blk_frozen BK158.out 10) | ((with_reducible refine gate_callee (f := 11) rfl ?_); refine goesL_ (some 56) rfl rfl Tryd.func11 (by kernel_rfl) rfl #[.int .i64 a0_10] rfl (by (try simp only [List.map_toArray, List.map_cons, List.map_nil]); first | done | rfl | (simp only [List.length_drop, List.length_take]; rfl)) ?_; (with_reducible refine (foliotref19_Number.calls k a0_10 t202 _ A22.out).mono ?_); rintro e w69 ⟨rfl, hb⟩; refine ⟨_, rfl, ?_⟩; have n0_ := Aside0.mk (Kd.R_below (by (with_reducible repeat (first | apply Kd.R_alloc | apply Kd.R_drewN | apply Kd.R_drew)); exact HO201.out) hb); have n1_ := Aside0.mk (blk_below (g := gb158) (o := .cells #[.int .i64 a0_0, .int .i64 a0_1, .int .i64 a0_2, .int .i64 a0_3, .int .i64 a0_4, .int .u32 a0_5, .int .u64 a0_6, .int .i64 a0_7, .int .i64 a0_8, .int .i64 a0_9, .int .i64 a0_10] 28 (0, 0)) (by (with_reducible repeat (first | refine blk_drewN ?_ _ | refine blk_drew ?_ | refine blk_alloc ?_ _)); exact BK158.out) hb); have n2_ := Aside0.mk (below_step (by repeat (first | (with_reducible first | exact HB.out | apply below_alloc | apply pw_below_drewN | apply below_drew1 | refine below_set ?_ GE158.out) | exact HB.out)) hb); clear HO201; clear BK158; clear HB; have HO201 := n0_; have BK158 := n1_; have HB := n2_; clear n0_ n1_ n2_; (try clear hb); (try clear hb2); (try clear hk); (try clear hi); obtain ⟨Ao70, co70, eo70⟩ := Kd.R_slice HO201.out; subst eo70) | ((with_reducible refine gate_callee (f := 19) rfl ?_); refine goesL_ (some 57) rfl rfl Tryd.func19 (by kernel_rfl) rfl #[.slice Ao70 t199.length co70, .string (⟨#[102, 114, 101, 113, 117, 101, 110, 99, 121]⟩ : ByteArray), .string t202] rfl (by (try simp only [List.map_toArray, List.map_cons, List.map_nil]); first | done | rfl | (simp only [List.length_drop, List.length_take]; rfl)) ?_; (with_reducible refine (foliotref19_put.calls (fun k_ => some k_ = (.slice Ao70 t199.length co70 : Value).ownBlock) (.slice Ao70 t199.length co70) t199 (⟨#[102, 114, 101, 113, 117, 101, 110, 99, 121]⟩ : ByteArray) t202 t203 w _ ?side1 ?side2 A23.out).mono ?_); (case side1 => repeat (first | (with_reducible first | exact HB.out | apply below_alloc | apply pw_below_drewN | apply below_drew1 | refine below_set ?_ GE158.out) | exact HB.out)); (case side2 => exact Kd.R_tight rfl HO201.out); rintro e w71 ⟨v204, rfl, ho0, hb, hkp⟩; refine ⟨_, rfl, ?_⟩; have n0_ := Aside0.mk (blk_kept (by (with_reducible repeat (first | refine blk_drewN ?_ _ | refine blk_drew ?_ | refine blk_alloc ?_ _)); exact BK158.out) hkp (fun hs_ => (fun e_ => (Kd.R_ne HO201.out BK158.out (by decide)) e_) hs_)); have n1_ := Aside0.mk (Kd.R_mono (ok' := fun k_ => True) ho0 (fun k_ hk_ => trivial)); have n2_ := Aside0.mk (hb); clear BK158; clear HB; clear HO201; have BK158 := n0_; have HO205 := n1_; have HB := n2_; clear n0_ n1_ n2_; (try clear hb); (try clear hkp); (try clear ho0); have hcz72_0 : w71.cell? ⟨gb158, 0, none⟩ = some (.int .i64 a0_0) := (blk_cell BK158.out 0).trans rfl; have hcz72_1 : w71.cell? ⟨gb158, 1, none⟩ = some (.int .i64 a0_1) := (blk_cell BK158.out 1).trans rfl; have hcz72_2 : w71.cell? ⟨gb158, 2, none⟩ = some (.int .i64 a0_2) := (blk_cell BK158.out 2).trans rfl; have hcz72_3 : w71.cell? ⟨gb158, 3, none⟩ = some (.int .i64 a0_3) := (blk_cell BK158.out 3).trans rfl; have hcz72_4 : w71.cell? ⟨gb158, 4, none⟩ = some (.int .i64 a0_4) := (blk_cell BK158.out 4).trans rfl; have hcz72_5 : w71.cell? ⟨gb158, 5, none⟩ = some (.int .u32 a0_5) := (blk_cell BK158.out 5).trans rfl; have hcz72_6 : w71.cell? ⟨gb158, 6, none⟩ = some (.int .u64 a0_6) := (blk_cell BK158.out 6).trans rfl; have hcz72_7 : w71.cell? ⟨gb158, 7, none⟩ = some (.int .i64 a0_7) := (blk_cell BK158.out 7).trans rfl; have hcz72_8 : w71.cell? ⟨gb158, 8, none⟩ = some (.int .i64 a0_8) := (blk_cell BK158.out 8).trans rfl; have hcz72_9 : w71.cell? ⟨gb158, 9, none⟩ = some (.int .i64 a0_9) := (blk_cell BK158.out 9).trans rfl; have hcz72_10 : w71.cell? ⟨gb158, 10, none⟩ = some (.int .i64 a0_10) := (blk_cell BK158.out 10).trans rfl; have hfz72_0 := blk_frozen BK158.out 0; have hfz72_1 := blk_frozen BK158.out 1; have hfz72_2 := blk_frozen BK158.out 2; have hfz72_3 := blk_frozen BK158.out 3; have hfz72_4 := blk_frozen BK158.out 4; have hfz72_5 := blk_frozen BK158.out 5; have hfz72_6 := blk_frozen BK158.out 6; have hfz72_7 := blk_frozen BK158.out 7; have hfz72_8 := blk_frozen BK158.out 8; have hfz72_9 := blk_frozen BK158.out 9; have hfz72_10 := blk_frozen BK158.out 10) | ((with_reducible refine gate_callee (f := 11) rfl ?_); refine goesL_ (some 61) rfl rfl Tryd.func11 (by kernel_rfl) rfl #[.int .i64 a0_8] rfl (by (try simp only [List.map_toArray, List.map_cons, List.map_nil]); first | done | rfl | (simp only [List.length_drop, List.length_take]; rfl)) ?_; (with_reducible refine (foliotref19_Number.calls k a0_8 t206 _ A24.out).mono ?_); rintro e w73 ⟨rfl, hb⟩; refine ⟨_, rfl, ?_⟩; have n0_ := Aside0.mk (Kd.R_below (by (with_reducible repeat (first | apply Kd.R_alloc | apply Kd.R_drewN | apply Kd.R_drew)); exact HO205.out) hb); have n1_ := Aside0.mk (blk_below (g := gb158) (o := .cells #[.int .i64 a0_0, .int .i64 a0_1, .int .i64 a0_2, .int .i64 a0_3, .int .i64 a0_4, .int .u32 a0_5, .int .u64 a0_6, .int .i64 a0_7, .int .i64 a0_8, .int .i64 a0_9, .int .i64 a0_10] 28 (0, 0)) (by (with_reducible repeat (first | refine blk_drewN ?_ _ | refine blk_drew ?_ | refine blk_alloc ?_ _)); exact BK158.out) hb); have n2_ := Aside0.mk (below_step (by repeat (first | (with_reducible first | exact HB.out | apply below_alloc | apply pw_below_drewN | apply below_drew1 | refine below_set ?_ GE158.out) | exact HB.out)) hb); clear HO205; clear BK158; clear HB; have HO205 := n0_; have BK158 := n1_; have HB := n2_; clear n0_ n1_ n2_; (try clear hb); (try clear hb2); (try clear hk); (try clear hi); obtain ⟨Ao74, co74, eo74⟩ := Kd.R_slice HO205.out; subst eo74) | ((with_reducible refine gate_callee (f := 19) rfl ?_); refine goesL_ (some 62) rfl rfl Tryd.func19 (by kernel_rfl) rfl #[.slice Ao74 t203.length co74, .string (⟨#[115, 121, 115, 95, 106, 105, 116, 116, 101, 114]⟩ : ByteArray), .string t206] rfl (by (try simp only [List.map_toArray, List.map_cons, List.map_nil]); first | done | rfl | (simp only [List.length_drop, List.length_take]; rfl)) ?_; (with_reducible refine (foliotref19_put.calls (fun k_ => some k_ = (.slice Ao74 t203.length co74 : Value).ownBlock) (.slice Ao74 t203.length co74) t203 (⟨#[115, 121, 115, 95, 106, 105, 116, 116, 101, 114]⟩ : ByteArray) t206 t207 w _ ?side1 ?side2 A25.out).mono ?_); (case side1 => repeat (first | (with_reducible first | exact HB.out | apply below_alloc | apply pw_below_drewN | apply below_drew1 | refine below_set ?_ GE158.out) | exact HB.out)); (case side2 => exact Kd.R_tight rfl HO205.out); rintro e w75 ⟨v208, rfl, ho0, hb, hkp⟩; refine ⟨_, rfl, ?_⟩; have n0_ := Aside0.mk (blk_kept (by (with_reducible repeat (first | refine blk_drewN ?_ _ | refine blk_drew ?_ | refine blk_alloc ?_ _)); exact BK158.out) hkp (fun hs_ => (fun e_ => (Kd.R_ne HO205.out BK158.out (by decide)) e_) hs_)); have n1_ := Aside0.mk (Kd.R_mono (ok' := fun k_ => True) ho0 (fun k_ hk_ => trivial)); have n2_ := Aside0.mk (hb); clear BK158; clear HB; clear HO205; have BK158 := n0_; have HO209 := n1_; have HB := n2_; clear n0_ n1_ n2_; (try clear hb); (try clear hkp); (try clear ho0)))
  go_ret
  exact ⟨_, by first | rfl | (simp [errW_none, errW_some] <;> rfl) | (simp [*, errW_none, errW_some] <;> rfl), by (with_reducible repeat (first | apply Kd.R_alloc | apply Kd.R_drewN | apply Kd.R_drew)); exact HO209.out, by repeat (first | (with_reducible first | exact HB.out | apply below_alloc | apply pw_below_drewN | apply below_drew1 | refine below_set ?_ GE158.out) | exact HB.out)⟩

end Go.Proofs.YtpclhceafigibaaDoor.PVars
