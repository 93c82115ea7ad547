/- Functions and contracts, printed by a program over the kit's print (wip/fprint.py): some callees' contracts are typed by hand in texts of their own. -/
import Derived.Test.YtpclhceafigibaaDoorPVarsx0
import Derived.Test.YtpclhceafigibaaDoorFNum
import Derived.Test.YtpclhceafigibaaDoorFStr
import Derived.Test.YtpclhceafigibaaDoorG
namespace Go.Proofs.YtpclhceafigibaaDoor.PVars
open Go.RowKit Go.Proofs.YtpclhceafigibaaDoorW.PrintWords Go.Proofs.YtpclhceafigibaaDoorW.PrintLast Go.Proofs.YtpclhceafigibaaDoorW.PrintMore
attribute [local go_sem] max2_int min2_int max_two min_two max_three min_three max_four min_four   -- for this text's walks alone
set_option linter.unusedVariables false
set_option linter.unusedSimpArgs false


/-! ### control_Number: function 10 -/
def control_Number.f (a0 : Int) : Option (ByteArray) := (strconv_Itoa.f a0).bind fun t101 => (some t101)
set_option maxHeartbeats 8000000 in
set_option maxRecDepth 100000 in
theorem control_Number.calls (a0 : Int) (r : ByteArray) (w : World) (hG : GWorld w) (h : control_Number.f a0 = some r) :
    Calls Tryd.prog 10 #[.int .i64 a0] w fun e w' => e = .returned (.string r) ∧ Below w.heap.size w w' := by
  have HB := Aside0.mk (Below.refl w.heap.size w)
  have H : ((strconv_Itoa.f a0).bind fun t101 => (some t101)) = some r := h
  clear h
  replace H := Option.bind_eq_some_iff.mp H
  obtain ⟨t101, A20, H⟩ := H
  replace H : (some t101) = some r := H
  have A2 := Aside0.mk A20
  clear A20
  obtain rfl := Option.some.inj H
  go_enter Tryd.func10, Tryd.ntmps10
  go_wp2_with (first | ((with_reducible refine gate_callee (f := 22) rfl ?_); refine goesL_ (some 4) rfl rfl Tryd.func22 (by kernel_rfl) rfl #[.int .i64 a0] rfl (by (try simp only [List.map_toArray, List.map_cons, List.map_nil]); first | done | rfl | (simp only [List.length_drop, List.length_take]; rfl)) ?_; (with_reducible refine (strconv_Itoa.calls a0 t101 _ ?side1 A2.out).mono ?_); (case side1 => exact GWorld.below hG (by repeat (first | (with_reducible first | exact HB.out | apply below_alloc | apply pw_below_drewN | apply below_drew1) | exact HB.out))); rintro e w3 ⟨rfl, hb⟩; refine ⟨_, rfl, ?_⟩; have n0_ := Aside0.mk (below_step (by repeat (first | (with_reducible first | exact HB.out | apply below_alloc | apply pw_below_drewN | apply below_drew1) | exact HB.out)) hb); clear HB; have HB := n0_; clear n0_; (try clear hb); (try clear hb2); (try clear hk); (try clear hi)))
  go_ret
  exact ⟨by first | rfl | (simp [errW_none, errW_some] <;> rfl) | (simp [*, errW_none, errW_some] <;> rfl), by repeat (first | (with_reducible first | exact HB.out | apply below_alloc | apply pw_below_drewN | apply below_drew1) | exact HB.out)⟩


/-! ### conf_PrintAddr: function 17 -/
def conf_PrintAddr.l0 : Nat → Int → List ByteArray → Int → Option (ByteArray)
  | 0, _, _, _ => none
  | k + 1, x0, x3, x4 => if x4 ≥ 0 then (if 0 ≤ (IntKind.u64.wrap (x4)) then ((strconv_Itoa.f (wrap64 (Go.bits .and .u32 (shr .u32 x0 (IntKind.u64.wrap (x4))) 255))).bind fun t102 => (if x3.length < 8796093022208 then (conf_PrintAddr.l0 k x0 (x3 ++ [t102]) (wrap64 (x4 - 8))) else (none))) else (none)) else ((strings_Join.f x3 (⟨#[46]⟩ : ByteArray)).bind fun t106 => (some t106))
def conf_PrintAddr.f (k : Nat) (a0 : Int) : Option (ByteArray) := conf_PrintAddr.l0 k a0 ([] : List ByteArray) 24
theorem conf_PrintAddr.mono_l : ∀ k, (∀ y0 y1 y2, LeO (conf_PrintAddr.l0 k y0 y1 y2) (conf_PrintAddr.l0 (k + 1) y0 y1 y2))
  | 0 => fun _ _ _ r h => by simp [conf_PrintAddr.l0] at h
  | k + 1 => by
    have ih0 := conf_PrintAddr.mono_l k
    · intro y0 y1 y2
      unfold conf_PrintAddr.l0
      repeat' first
      | (with_reducible exact ih0 _ _ _)
      | (with_reducible exact LeO.refl _)
      | (with_reducible exact LeO.none _)
      | (with_reducible refine LeO.ite ?_ ?_)
      | (with_reducible refine LeO.bind ?_ (fun _ => ?_))
      | exact ih0 _ _ _
      | exact LeO.none _
      | refine LeO.ite ?_ ?_
      | refine LeO.bind ?_ (fun _ => ?_)
theorem conf_PrintAddr.mono : ∀ a0 k, LeO (conf_PrintAddr.f k a0) (conf_PrintAddr.f (k + 1) a0) := by
  intro a0 k
  have ih0 := conf_PrintAddr.mono_l k
  unfold conf_PrintAddr.f
  repeat' first
      | (with_reducible exact ih0 _ _ _)
      | (with_reducible exact LeO.refl _)
      | (with_reducible exact LeO.none _)
      | (with_reducible refine LeO.ite ?_ ?_)
      | (with_reducible refine LeO.bind ?_ (fun _ => ?_))
      | exact ih0 _ _ _
      | exact LeO.none _
      | refine LeO.ite ?_ ?_
      | refine LeO.bind ?_ (fun _ => ?_)
set_option maxHeartbeats 8000000 in
set_option maxRecDepth 100000 in
theorem conf_PrintAddr.calls (k : Nat) (a0 : Int) (r : ByteArray) (w : World) (hG : GWorld w) (h : conf_PrintAddr.f k a0 = some r) :
    Calls Tryd.prog 17 #[.int .u32 a0] w fun e w' => e = .returned (.string r) ∧ Below w.heap.size w w' := by
  have HB := Aside0.mk (Below.refl w.heap.size w)
  have H : (conf_PrintAddr.l0 k a0 ([] : List ByteArray) 24) = some r := h
  clear h
  have H' := Aside0.mk H
  clear H
  go_enter Tryd.func17, Tryd.ntmps17
  go_wp2
  go_loopg [3, 4] k (fun kq v3 v4 w' => ∃ (x3_1 : List ByteArray) (x4_1 : Int), v4 = .int .i64 x4_1 ∧ Aside0 (conf_PrintAddr.l0 kq a0 x3_1 x4_1 = some r) ∧ Aside0 (kq ≤ k) ∧ Aside0 (Kd.R Kd.string 9 w' w.heap.size (fun _ => True) v3 x3_1) ∧ Aside0 (Below w.heap.size w w'))
  case atStart => exact ⟨(([] : List ByteArray)), (24), (by first | rfl | (simp; done) | (simp [*]; done)), H', ⟨Nat.le_refl _⟩, ⟨by first | exact Kd.R_nil _ _ _ _ _ | exact Kd.N_nil _ _ _ _ _ | exact Kd.V_nil _ _ _ _ _ | exact Kd.Q_nil _ _ _ _ _ | exact Kd.S_nil _ _ _ _ _⟩, ⟨by repeat (first | (with_reducible first | exact HB.out | apply below_alloc | apply pw_below_drewN | apply below_drew1) | exact HB.out)⟩⟩
  case round =>
    clear H'
    try clear c1
    obtain ⟨x3_1, x4_1, rfl, HA, HK1, HO_3, HB⟩ := hrel
    cases gk with
    | zero => exact absurd HA.out (by simp [conf_PrintAddr.l0])
    | succ k1 =>
      have H := HA.out
      clear HA
      simp only [conf_PrintAddr.l0] at H
      by_cases c2 : x4_1 ≥ 0
      · rw [if_pos c2] at H
        have c2b0 : decide (0 ≤ x4_1) = true := decide_eq_true c2
        clear c2
        obtain ⟨ji3, hji3⟩ : ∃ j_ : Int, (IntKind.u64.wrap (x4_1)) = j_ := ⟨_, rfl⟩
        replace H : (if 0 ≤ (ji3) then ((strconv_Itoa.f (wrap64 (Go.bits .and .u32 (shr .u32 a0 (ji3)) 255))).bind fun t102 => (if x3_1.length < 8796093022208 then (conf_PrintAddr.l0 k1 a0 (x3_1 ++ [t102]) (wrap64 (x4_1 - 8))) else (none))) else (none)) = some r := by first | (rw [hji3] at H; exact H) | (simp only [hji3] at H ⊢; exact H)
        by_cases c4 : 0 ≤ (ji3)
        · rw [if_pos c4] at H
          have c4b0 := eq_true c4
          have c4b1 : decide (0 ≤ (ji3)) = true := decide_eq_true c4
          clear c4
          obtain ⟨ji5, hji5⟩ : ∃ j_ : Int, (shr .u32 a0 (ji3)) = j_ := ⟨_, rfl⟩
          replace H : ((strconv_Itoa.f (wrap64 (Go.bits .and .u32 (ji5) 255))).bind fun t102 => (if x3_1.length < 8796093022208 then (conf_PrintAddr.l0 k1 a0 (x3_1 ++ [t102]) (wrap64 (x4_1 - 8))) else (none))) = some r := by first | (rw [hji5] at H; exact H) | (simp only [hji5] at H ⊢; exact H)
          have hji5_ : (a0 / 2 ^ min (ji3).toNat 32) = ji5 := hji5
          have hji5z : (ji3) ≤ 32 → (a0 / 2 ^ (ji3).toNat) = ji5 := shr_small hji5
          replace H := Option.bind_eq_some_iff.mp H
          obtain ⟨t102, A60, H⟩ := H
          replace H : (if x3_1.length < 8796093022208 then (conf_PrintAddr.l0 k1 a0 (x3_1 ++ [t102]) (wrap64 (x4_1 - 8))) else (none)) = some r := H
          have A6 := Aside0.mk A60
          clear A60
          by_cases c7 : x3_1.length < 8796093022208
          · rw [if_pos c7] at H
            have LMc7 := Aside0.mk c7
            clear c7
            obtain ⟨y103, hy103⟩ : ∃ y_ : List ByteArray, y_ = (x3_1 ++ [t102]) := ⟨_, rfl⟩
            replace H : (conf_PrintAddr.l0 k1 a0 y103 (wrap64 (x4_1 - 8))) = some r := by first | (rw [hy103]; with_reducible exact H) | (have H2_ := (Option.bind_some _ _).symm.trans H; rw [hy103]; with_reducible exact H2_) | (have H2_ := (Option.bind_some _ _).symm.trans H; with_reducible exact H2_) | with_reducible exact H | (rw [hy103]; exact H) | exact H
            have Ny103 := Aside0.mk hy103
            clear hy103
            have H' := Aside0.mk H
            clear H
            go_wp2_with (first | ((with_reducible refine gate_callee (f := 22) rfl ?_); refine goesL_ (some 16) rfl rfl Tryd.func22 (by kernel_rfl) rfl #[.int .i64 (wrap64 (Go.bits .and .u32 (ji5) 255))] rfl (by (try simp only [List.map_toArray, List.map_cons, List.map_nil]); first | done | (simp only [hji5]; rfl) | rfl | (simp only [List.length_drop, List.length_take]; rfl)) ?_; (with_reducible refine (strconv_Itoa.calls (wrap64 (Go.bits .and .u32 (ji5) 255)) t102 _ ?side1 A6.out).mono ?_); (case side1 => exact GWorld.below hG (by repeat (first | (with_reducible first | exact HB.out | apply below_alloc | apply pw_below_drewN | apply below_drew1) | exact HB.out))); rintro e w8 ⟨rfl, hb⟩; refine ⟨_, rfl, ?_⟩; have n0_ := Aside0.mk (Kd.R_below (by (with_reducible repeat (first | apply Kd.R_alloc | apply Kd.R_drewN | apply Kd.R_drew)); exact HO_3.out) hb); have n1_ := Aside0.mk (below_step (by repeat (first | (with_reducible first | exact HB.out | apply below_alloc | apply pw_below_drewN | apply below_drew1) | exact HB.out)) hb); clear HO_3; clear HB; have HO_3 := n0_; have HB := n1_; clear n0_ n1_; (try clear hb); (try clear hb2); (try clear hk); (try clear hi)) | ((with_reducible refine gate_builtin (b := .append) (xs := #[.tmp 9, .tmp 17]) rfl ?_); at_builtin; refine Kd.R_append Kd.string (w0 := w) w.heap.size rfl (.tmp 9) (.tmp 17) 59 9 (.string ⟨#[]⟩) 16 rfl Tryd.underlying59 info9 rfl (by decide) (by omega) u3 x3_1 t102 [.string t102] (fun _ => True) (fun _ => False) rfl rfl ?aP (fun _ hk => hk.elim) ?aF ?aO ?aB ?aS ?aL ?_; (case aP => exact rfl); (case aB => exact (by repeat (first | (with_reducible first | exact HB.out | apply below_alloc | apply pw_below_drewN | apply below_drew1) | exact HB.out))); (case aF => exact (fun _ _ => trivial)); (case aO => exact (by (with_reducible repeat (first | apply Kd.R_alloc | apply Kd.R_drewN | apply Kd.R_drew)); exact HO_3.out)); (case aS => exact (below_size (by repeat (first | (with_reducible first | exact HB.out | apply below_alloc | apply pw_below_drewN | apply below_drew1) | exact HB.out)))); (case aL => have := LMc7.out; omega); intro v104 w9 ho hb hg hat; rw [← Ny103.out] at ho; have n0_ := Aside0.mk (hb); have n1_ := Aside0.mk (ho); clear HB; clear HO_3; have HB := n0_; have HO105 := n1_; clear n0_ n1_; clear ho hb hg hat))
            go_roundg k1
            case measure => have := HK1.out; omega
            case rel => exact ⟨(y103), (wrap64 (x4_1 - 8)), (by first | rfl | (simp; done) | (simp [*]; done)), (by first | exact H' | (simp only [hji3, hji5]; exact H')), ⟨by have := HK1.out; omega⟩, ⟨by (with_reducible repeat (first | apply Kd.R_alloc | apply Kd.R_drewN | apply Kd.R_drew)); exact HO105.out⟩, ⟨by repeat (first | (with_reducible first | exact HB.out | apply below_alloc | apply pw_below_drewN | apply below_drew1) | exact HB.out)⟩⟩
          · rw [if_neg c7] at H
            exact absurd H (by simp)
        · rw [if_neg c4] at H
          exact absurd H (by simp)
      · rw [if_neg c2] at H
        have c2b0 : decide (0 ≤ x4_1) = false := decide_eq_false c2
        clear c2
        replace H := Option.bind_eq_some_iff.mp H
        obtain ⟨t106, A100, H⟩ := H
        replace H : (some t106) = some r := H
        have A10 := Aside0.mk A100
        clear A100
        obtain rfl := Option.some.inj H
        obtain ⟨Ao11, co11, eo11⟩ := Kd.R_slice HO_3.out
        subst eo11
        go_wp2_with (first | ((with_reducible refine gate_callee (f := 26) rfl ?_); refine goesL_ (some 20) rfl rfl Tryd.func26 (by kernel_rfl) rfl #[.slice Ao11 x3_1.length co11, .string (⟨#[46]⟩ : ByteArray)] rfl (by (try simp only [List.map_toArray, List.map_cons, List.map_nil]); first | done | rfl | (simp only [List.length_drop, List.length_take]; rfl)) ?_; (with_reducible refine (strings_Join.calls _ _ x3_1 (⟨#[46]⟩ : ByteArray) t106 _ ?side1 ?side2 A10.out).mono ?_); (case side1 => repeat (first | exact (Kd.R_reads' HO_3.out).2.2 | (with_reducible refine Kd.C_alloc ?_ _) | (with_reducible refine Kd.C_drewN ?_ _) | (with_reducible refine Kd.C_drew ?_))); (case side2 => exact (Kd.R_reads' HO_3.out).2.1); rintro e w12 ⟨rfl, hb⟩; refine ⟨_, rfl, ?_⟩; have n0_ := Aside0.mk (Kd.R_below (by (with_reducible repeat (first | apply Kd.R_alloc | apply Kd.R_drewN | apply Kd.R_drew)); exact HO_3.out) hb); have n1_ := Aside0.mk (below_step (by repeat (first | (with_reducible first | exact HB.out | apply below_alloc | apply pw_below_drewN | apply below_drew1) | exact HB.out)) hb); clear HO_3; clear HB; have HO_3 := n0_; have HB := n1_; clear n0_ n1_; (try clear hb); (try clear hb2); (try clear hk); (try clear hi)))
        go_ret
        exact ⟨by first | rfl | (simp [errW_none, errW_some] <;> rfl) | (simp [*, errW_none, errW_some] <;> rfl), by repeat (first | (with_reducible first | exact HB.out | apply below_alloc | apply pw_below_drewN | apply below_drew1) | exact HB.out)⟩


/-! ### control_SystemVars: function 4 -/
def control_SystemVars.f (k : Nat) (a0_0 : Int) (a0_1 : Int) (a0_2 : Int) (a0_3 : Int) (a0_4 : Int) (a0_5 : Int) (a0_6 : Int) (a0_7 : Int) (a0_8 : Int) (a0_9 : Int) (a0_10 : Int) : Option ((List (S51))) := (control_Number.f a0_0).bind fun t108 => ((control_Number.f a0_1).bind fun t109 => ((control_Number.f (-20)).bind fun t110 => ((control_Number.f a0_3).bind fun t111 => ((control_Number.f a0_4).bind fun t112 => ((conf_PrintAddr.f k a0_5).bind fun t113 => ((strconv_FormatUint.f a0_6 10).bind fun t114 => ((control_Number.f a0_9).bind fun t115 => ((control_Number.f a0_2).bind fun t116 => ((control_Number.f a0_7).bind fun t117 => ((control_Number.f a0_10).bind fun t118 => ((control_Number.f a0_8).bind fun t119 => (some (([(⟨(⟨#[108, 101, 97, 112]⟩ : ByteArray), t108⟩ : S51), (⟨(⟨#[115, 116, 114, 97, 116, 117, 109]⟩ : ByteArray), t109⟩ : S51), (⟨(⟨#[112, 114, 101, 99, 105, 115, 105, 111, 110]⟩ : ByteArray), t110⟩ : S51), (⟨(⟨#[114, 111, 111, 116, 100, 101, 108, 97, 121]⟩ : ByteArray), t111⟩ : S51), (⟨(⟨#[114, 111, 111, 116, 100, 105, 115, 112]⟩ : ByteArray), t112⟩ : S51), (⟨(⟨#[114, 101, 102, 105, 100]⟩ : ByteArray), t113⟩ : S51), (⟨(⟨#[114, 101, 102, 116, 105, 109, 101]⟩ : ByteArray), t114⟩ : S51), (⟨(⟨#[112, 101, 101, 114]⟩ : ByteArray), t115⟩ : S51), (⟨(⟨#[116, 99]⟩ : ByteArray), t116⟩ : S51), (⟨(⟨#[111, 102, 102, 115, 101, 116]⟩ : ByteArray), t117⟩ : S51), (⟨(⟨#[102, 114, 101, 113, 117, 101, 110, 99, 121]⟩ : ByteArray), t118⟩ : S51), (⟨(⟨#[115, 121, 115, 95, 106, 105, 116, 116, 101, 114]⟩ : ByteArray), t119⟩ : S51)] : List (S51)))))))))))))))
theorem control_SystemVars.mono : ∀ a0 a1 a2 a3 a4 a5 a6 a7 a8 a9 a10 k, LeO (control_SystemVars.f k a0 a1 a2 a3 a4 a5 a6 a7 a8 a9 a10) (control_SystemVars.f (k + 1) a0 a1 a2 a3 a4 a5 a6 a7 a8 a9 a10) := by
  intro a0 a1 a2 a3 a4 a5 a6 a7 a8 a9 a10 k
  unfold control_SystemVars.f
  repeat' first
      | (with_reducible exact conf_PrintAddr.mono _ _)
      | (with_reducible exact LeO.refl _)
      | (with_reducible exact LeO.none _)
      | (with_reducible refine LeO.ite ?_ ?_)
      | (with_reducible refine LeO.bind ?_ (fun _ => ?_))
      | exact conf_PrintAddr.mono _ _
      | exact LeO.none _
      | refine LeO.ite ?_ ?_
      | refine LeO.bind ?_ (fun _ => ?_)
def control_SystemVars.T1 : Bool × List (List Nat × List Nat) := (true, [([], []), ([0], [0]), ([1], [1]), ([2], [2]), ([], []), ([4], [4]), ([5, 2], [5]), ([6], [6]), ([6], []), ([8], [8]), ([], []), ([10], [10]), ([11, 8], [11]), ([12], [12]), ([], []), ([14], [14]), ([15, 12], [15]), ([16], [16]), ([], []), ([18], [18]), ([19, 16], [19]), ([20], [20]), ([], []), ([22], [22]), ([23, 20], [23]), ([24], [24]), ([], []), ([26], [26]), ([27, 24], [27]), ([28], [28]), ([], []), ([30], [30]), ([31, 28], [31]), ([32], [32]), ([], []), ([34], [34]), ([35, 32], [35]), ([36], [36]), ([], []), ([38], [38]), ([39, 36], [39]), ([40], [40]), ([], []), ([42], [42]), ([43, 40], [43]), ([44], [44]), ([3, 7, 9, 13, 17, 21, 25, 29, 33, 37, 41, 45], [3, 7, 9, 13, 17, 21, 25, 29, 33, 37, 41, 45]), ([46, 44, 0, 1, 2, 3, 4, 5, 6, 7, 8, 9, 10, 11, 12, 13, 14, 15, 16, 17, 18, 19, 20, 21, 22, 23, 24, 25, 26, 27, 28, 29, 30, 31, 32, 33, 34, 35, 36, 37, 38, 39, 40, 41, 42, 43, 44, 45, 46], [46])])
def control_SystemVars.B1 : List Nat := [0, 1, 3, 7, 0, 16, 55, 119, 119, 375, 0, 1024, 3447, 7543, 0, 16384, 56695, 122231, 0, 262144, 908663, 1957239, 0, 4194304, 14540151, 31317367, 0, 67108864, 232643959, 501079415, 0, 1073741824, 3722304887, 8017272183, 0, 17179869184, 59556879735, 128276356471, 0, 274877906944, 952910077303, 2052421705079, 0, 4398046511104, 15246561238391, 32838747282807, 70368744177663, 140737488355327]
theorem control_SystemVars.tab1 : rtab .any (opsOf Tryd.f4 1) = control_SystemVars.T1 := by kernel_rfl
theorem control_SystemVars.bits1 : waitsOk control_SystemVars.T1.2 control_SystemVars.B1 = true := by kernel_rfl
set_option maxHeartbeats 8000000 in
set_option maxRecDepth 100000 in
theorem control_SystemVars.calls (k : Nat) (a0_0 : Int) (a0_1 : Int) (a0_2 : Int) (a0_3 : Int) (a0_4 : Int) (a0_5 : Int) (a0_6 : Int) (a0_7 : Int) (a0_8 : Int) (a0_9 : Int) (a0_10 : Int) (r : List (S51)) (w : World) (hG : GWorld w) (h : control_SystemVars.f k a0_0 a0_1 a0_2 a0_3 a0_4 a0_5 a0_6 a0_7 a0_8 a0_9 a0_10 = some r) :
    Calls Tryd.prog 4 #[.agg #[.int .i64 a0_0, .int .i64 a0_1, .int .i64 a0_2, .int .i64 a0_3, .int .i64 a0_4, .int .u32 a0_5, .int .u64 a0_6, .int .i64 a0_7, .int .i64 a0_8, .int .i64 a0_9, .int .i64 a0_10]] w fun e w' => ∃ v0_ : Value, e = .returned (v0_) ∧ Kd.R k51 51 w' w.heap.size (fun _ => True) v0_ r ∧ Below w.heap.size w w' := by
  have hu28 := Tryd.underlying28
  have hu51 := Tryd.underlying51
  have HB := Aside0.mk (Below.refl w.heap.size w)
  have H : ((control_Number.f a0_0).bind fun t108 => ((control_Number.f a0_1).bind fun t109 => ((control_Number.f (-20)).bind fun t110 => ((control_Number.f a0_3).bind fun t111 => ((control_Number.f a0_4).bind fun t112 => ((conf_PrintAddr.f k a0_5).bind fun t113 => ((strconv_FormatUint.f a0_6 10).bind fun t114 => ((control_Number.f a0_9).bind fun t115 => ((control_Number.f a0_2).bind fun t116 => ((control_Number.f a0_7).bind fun t117 => ((control_Number.f a0_10).bind fun t118 => ((control_Number.f a0_8).bind fun t119 => (some (([(⟨(⟨#[108, 101, 97, 112]⟩ : ByteArray), t108⟩ : S51), (⟨(⟨#[115, 116, 114, 97, 116, 117, 109]⟩ : ByteArray), t109⟩ : S51), (⟨(⟨#[112, 114, 101, 99, 105, 115, 105, 111, 110]⟩ : ByteArray), t110⟩ : S51), (⟨(⟨#[114, 111, 111, 116, 100, 101, 108, 97, 121]⟩ : ByteArray), t111⟩ : S51), (⟨(⟨#[114, 111, 111, 116, 100, 105, 115, 112]⟩ : ByteArray), t112⟩ : S51), (⟨(⟨#[114, 101, 102, 105, 100]⟩ : ByteArray), t113⟩ : S51), (⟨(⟨#[114, 101, 102, 116, 105, 109, 101]⟩ : ByteArray), t114⟩ : S51), (⟨(⟨#[112, 101, 101, 114]⟩ : ByteArray), t115⟩ : S51), (⟨(⟨#[116, 99]⟩ : ByteArray), t116⟩ : S51), (⟨(⟨#[111, 102, 102, 115, 101, 116]⟩ : ByteArray), t117⟩ : S51), (⟨(⟨#[102, 114, 101, 113, 117, 101, 110, 99, 121]⟩ : ByteArray), t118⟩ : S51), (⟨(⟨#[115, 121, 115, 95, 106, 105, 116, 116, 101, 114]⟩ : ByteArray), t119⟩ : S51)] : List (S51)))))))))))))))) = some r := h
  clear h
  replace H := Option.bind_eq_some_iff.mp H
  obtain ⟨t108, A20, H⟩ := H
  replace H : ((control_Number.f a0_1).bind fun t109 => ((control_Number.f (-20)).bind fun t110 => ((control_Number.f a0_3).bind fun t111 => ((control_Number.f a0_4).bind fun t112 => ((conf_PrintAddr.f k a0_5).bind fun t113 => ((strconv_FormatUint.f a0_6 10).bind fun t114 => ((control_Number.f a0_9).bind fun t115 => ((control_Number.f a0_2).bind fun t116 => ((control_Number.f a0_7).bind fun t117 => ((control_Number.f a0_10).bind fun t118 => ((control_Number.f a0_8).bind fun t119 => (some (([(⟨(⟨#[108, 101, 97, 112]⟩ : ByteArray), t108⟩ : S51), (⟨(⟨#[115, 116, 114, 97, 116, 117, 109]⟩ : ByteArray), t109⟩ : S51), (⟨(⟨#[112, 114, 101, 99, 105, 115, 105, 111, 110]⟩ : ByteArray), t110⟩ : S51), (⟨(⟨#[114, 111, 111, 116, 100, 101, 108, 97, 121]⟩ : ByteArray), t111⟩ : S51), (⟨(⟨#[114, 111, 111, 116, 100, 105, 115, 112]⟩ : ByteArray), t112⟩ : S51), (⟨(⟨#[114, 101, 102, 105, 100]⟩ : ByteArray), t113⟩ : S51), (⟨(⟨#[114, 101, 102, 116, 105, 109, 101]⟩ : ByteArray), t114⟩ : S51), (⟨(⟨#[112, 101, 101, 114]⟩ : ByteArray), t115⟩ : S51), (⟨(⟨#[116, 99]⟩ : ByteArray), t116⟩ : S51), (⟨(⟨#[111, 102, 102, 115, 101, 116]⟩ : ByteArray), t117⟩ : S51), (⟨(⟨#[102, 114, 101, 113, 117, 101, 110, 99, 121]⟩ : ByteArray), t118⟩ : S51), (⟨(⟨#[115, 121, 115, 95, 106, 105, 116, 116, 101, 114]⟩ : ByteArray), t119⟩ : S51)] : List (S51))))))))))))))) = some r := H
  have A2 := Aside0.mk A20
  clear A20
  replace H := Option.bind_eq_some_iff.mp H
  obtain ⟨t109, A30, H⟩ := H
  replace H : ((control_Number.f (-20)).bind fun t110 => ((control_Number.f a0_3).bind fun t111 => ((control_Number.f a0_4).bind fun t112 => ((conf_PrintAddr.f k a0_5).bind fun t113 => ((strconv_FormatUint.f a0_6 10).bind fun t114 => ((control_Number.f a0_9).bind fun t115 => ((control_Number.f a0_2).bind fun t116 => ((control_Number.f a0_7).bind fun t117 => ((control_Number.f a0_10).bind fun t118 => ((control_Number.f a0_8).bind fun t119 => (some (([(⟨(⟨#[108, 101, 97, 112]⟩ : ByteArray), t108⟩ : S51), (⟨(⟨#[115, 116, 114, 97, 116, 117, 109]⟩ : ByteArray), t109⟩ : S51), (⟨(⟨#[112, 114, 101, 99, 105, 115, 105, 111, 110]⟩ : ByteArray), t110⟩ : S51), (⟨(⟨#[114, 111, 111, 116, 100, 101, 108, 97, 121]⟩ : ByteArray), t111⟩ : S51), (⟨(⟨#[114, 111, 111, 116, 100, 105, 115, 112]⟩ : ByteArray), t112⟩ : S51), (⟨(⟨#[114, 101, 102, 105, 100]⟩ : ByteArray), t113⟩ : S51), (⟨(⟨#[114, 101, 102, 116, 105, 109, 101]⟩ : ByteArray), t114⟩ : S51), (⟨(⟨#[112, 101, 101, 114]⟩ : ByteArray), t115⟩ : S51), (⟨(⟨#[116, 99]⟩ : ByteArray), t116⟩ : S51), (⟨(⟨#[111, 102, 102, 115, 101, 116]⟩ : ByteArray), t117⟩ : S51), (⟨(⟨#[102, 114, 101, 113, 117, 101, 110, 99, 121]⟩ : ByteArray), t118⟩ : S51), (⟨(⟨#[115, 121, 115, 95, 106, 105, 116, 116, 101, 114]⟩ : ByteArray), t119⟩ : S51)] : List (S51)))))))))))))) = some r := H
  have A3 := Aside0.mk A30
  clear A30
  replace H := Option.bind_eq_some_iff.mp H
  obtain ⟨t110, A40, H⟩ := H
  replace H : ((control_Number.f a0_3).bind fun t111 => ((control_Number.f a0_4).bind fun t112 => ((conf_PrintAddr.f k a0_5).bind fun t113 => ((strconv_FormatUint.f a0_6 10).bind fun t114 => ((control_Number.f a0_9).bind fun t115 => ((control_Number.f a0_2).bind fun t116 => ((control_Number.f a0_7).bind fun t117 => ((control_Number.f a0_10).bind fun t118 => ((control_Number.f a0_8).bind fun t119 => (some (([(⟨(⟨#[108, 101, 97, 112]⟩ : ByteArray), t108⟩ : S51), (⟨(⟨#[115, 116, 114, 97, 116, 117, 109]⟩ : ByteArray), t109⟩ : S51), (⟨(⟨#[112, 114, 101, 99, 105, 115, 105, 111, 110]⟩ : ByteArray), t110⟩ : S51), (⟨(⟨#[114, 111, 111, 116, 100, 101, 108, 97, 121]⟩ : ByteArray), t111⟩ : S51), (⟨(⟨#[114, 111, 111, 116, 100, 105, 115, 112]⟩ : ByteArray), t112⟩ : S51), (⟨(⟨#[114, 101, 102, 105, 100]⟩ : ByteArray), t113⟩ : S51), (⟨(⟨#[114, 101, 102, 116, 105, 109, 101]⟩ : ByteArray), t114⟩ : S51), (⟨(⟨#[112, 101, 101, 114]⟩ : ByteArray), t115⟩ : S51), (⟨(⟨#[116, 99]⟩ : ByteArray), t116⟩ : S51), (⟨(⟨#[111, 102, 102, 115, 101, 116]⟩ : ByteArray), t117⟩ : S51), (⟨(⟨#[102, 114, 101, 113, 117, 101, 110, 99, 121]⟩ : ByteArray), t118⟩ : S51), (⟨(⟨#[115, 121, 115, 95, 106, 105, 116, 116, 101, 114]⟩ : ByteArray), t119⟩ : S51)] : List (S51))))))))))))) = some r := H
  have A4 := Aside0.mk A40
  clear A40
  replace H := Option.bind_eq_some_iff.mp H
  obtain ⟨t111, A50, H⟩ := H
  replace H : ((control_Number.f a0_4).bind fun t112 => ((conf_PrintAddr.f k a0_5).bind fun t113 => ((strconv_FormatUint.f a0_6 10).bind fun t114 => ((control_Number.f a0_9).bind fun t115 => ((control_Number.f a0_2).bind fun t116 => ((control_Number.f a0_7).bind fun t117 => ((control_Number.f a0_10).bind fun t118 => ((control_Number.f a0_8).bind fun t119 => (some (([(⟨(⟨#[108, 101, 97, 112]⟩ : ByteArray), t108⟩ : S51), (⟨(⟨#[115, 116, 114, 97, 116, 117, 109]⟩ : ByteArray), t109⟩ : S51), (⟨(⟨#[112, 114, 101, 99, 105, 115, 105, 111, 110]⟩ : ByteArray), t110⟩ : S51), (⟨(⟨#[114, 111, 111, 116, 100, 101, 108, 97, 121]⟩ : ByteArray), t111⟩ : S51), (⟨(⟨#[114, 111, 111, 116, 100, 105, 115, 112]⟩ : ByteArray), t112⟩ : S51), (⟨(⟨#[114, 101, 102, 105, 100]⟩ : ByteArray), t113⟩ : S51), (⟨(⟨#[114, 101, 102, 116, 105, 109, 101]⟩ : ByteArray), t114⟩ : S51), (⟨(⟨#[112, 101, 101, 114]⟩ : ByteArray), t115⟩ : S51), (⟨(⟨#[116, 99]⟩ : ByteArray), t116⟩ : S51), (⟨(⟨#[111, 102, 102, 115, 101, 116]⟩ : ByteArray), t117⟩ : S51), (⟨(⟨#[102, 114, 101, 113, 117, 101, 110, 99, 121]⟩ : ByteArray), t118⟩ : S51), (⟨(⟨#[115, 121, 115, 95, 106, 105, 116, 116, 101, 114]⟩ : ByteArray), t119⟩ : S51)] : List (S51)))))))))))) = some r := H
  have A5 := Aside0.mk A50
  clear A50
  replace H := Option.bind_eq_some_iff.mp H
  obtain ⟨t112, A60, H⟩ := H
  replace H : ((conf_PrintAddr.f k a0_5).bind fun t113 => ((strconv_FormatUint.f a0_6 10).bind fun t114 => ((control_Number.f a0_9).bind fun t115 => ((control_Number.f a0_2).bind fun t116 => ((control_Number.f a0_7).bind fun t117 => ((control_Number.f a0_10).bind fun t118 => ((control_Number.f a0_8).bind fun t119 => (some (([(⟨(⟨#[108, 101, 97, 112]⟩ : ByteArray), t108⟩ : S51), (⟨(⟨#[115, 116, 114, 97, 116, 117, 109]⟩ : ByteArray), t109⟩ : S51), (⟨(⟨#[112, 114, 101, 99, 105, 115, 105, 111, 110]⟩ : ByteArray), t110⟩ : S51), (⟨(⟨#[114, 111, 111, 116, 100, 101, 108, 97, 121]⟩ : ByteArray), t111⟩ : S51), (⟨(⟨#[114, 111, 111, 116, 100, 105, 115, 112]⟩ : ByteArray), t112⟩ : S51), (⟨(⟨#[114, 101, 102, 105, 100]⟩ : ByteArray), t113⟩ : S51), (⟨(⟨#[114, 101, 102, 116, 105, 109, 101]⟩ : ByteArray), t114⟩ : S51), (⟨(⟨#[112, 101, 101, 114]⟩ : ByteArray), t115⟩ : S51), (⟨(⟨#[116, 99]⟩ : ByteArray), t116⟩ : S51), (⟨(⟨#[111, 102, 102, 115, 101, 116]⟩ : ByteArray), t117⟩ : S51), (⟨(⟨#[102, 114, 101, 113, 117, 101, 110, 99, 121]⟩ : ByteArray), t118⟩ : S51), (⟨(⟨#[115, 121, 115, 95, 106, 105, 116, 116, 101, 114]⟩ : ByteArray), t119⟩ : S51)] : List (S51))))))))))) = some r := H
  have A6 := Aside0.mk A60
  clear A60
  replace H := Option.bind_eq_some_iff.mp H
  obtain ⟨t113, A70, H⟩ := H
  replace H : ((strconv_FormatUint.f a0_6 10).bind fun t114 => ((control_Number.f a0_9).bind fun t115 => ((control_Number.f a0_2).bind fun t116 => ((control_Number.f a0_7).bind fun t117 => ((control_Number.f a0_10).bind fun t118 => ((control_Number.f a0_8).bind fun t119 => (some (([(⟨(⟨#[108, 101, 97, 112]⟩ : ByteArray), t108⟩ : S51), (⟨(⟨#[115, 116, 114, 97, 116, 117, 109]⟩ : ByteArray), t109⟩ : S51), (⟨(⟨#[112, 114, 101, 99, 105, 115, 105, 111, 110]⟩ : ByteArray), t110⟩ : S51), (⟨(⟨#[114, 111, 111, 116, 100, 101, 108, 97, 121]⟩ : ByteArray), t111⟩ : S51), (⟨(⟨#[114, 111, 111, 116, 100, 105, 115, 112]⟩ : ByteArray), t112⟩ : S51), (⟨(⟨#[114, 101, 102, 105, 100]⟩ : ByteArray), t113⟩ : S51), (⟨(⟨#[114, 101, 102, 116, 105, 109, 101]⟩ : ByteArray), t114⟩ : S51), (⟨(⟨#[112, 101, 101, 114]⟩ : ByteArray), t115⟩ : S51), (⟨(⟨#[116, 99]⟩ : ByteArray), t116⟩ : S51), (⟨(⟨#[111, 102, 102, 115, 101, 116]⟩ : ByteArray), t117⟩ : S51), (⟨(⟨#[102, 114, 101, 113, 117, 101, 110, 99, 121]⟩ : ByteArray), t118⟩ : S51), (⟨(⟨#[115, 121, 115, 95, 106, 105, 116, 116, 101, 114]⟩ : ByteArray), t119⟩ : S51)] : List (S51)))))))))) = some r := H
  have A7 := Aside0.mk A70
  clear A70
  replace H := Option.bind_eq_some_iff.mp H
  obtain ⟨t114, A80, H⟩ := H
  replace H : ((control_Number.f a0_9).bind fun t115 => ((control_Number.f a0_2).bind fun t116 => ((control_Number.f a0_7).bind fun t117 => ((control_Number.f a0_10).bind fun t118 => ((control_Number.f a0_8).bind fun t119 => (some (([(⟨(⟨#[108, 101, 97, 112]⟩ : ByteArray), t108⟩ : S51), (⟨(⟨#[115, 116, 114, 97, 116, 117, 109]⟩ : ByteArray), t109⟩ : S51), (⟨(⟨#[112, 114, 101, 99, 105, 115, 105, 111, 110]⟩ : ByteArray), t110⟩ : S51), (⟨(⟨#[114, 111, 111, 116, 100, 101, 108, 97, 121]⟩ : ByteArray), t111⟩ : S51), (⟨(⟨#[114, 111, 111, 116, 100, 105, 115, 112]⟩ : ByteArray), t112⟩ : S51), (⟨(⟨#[114, 101, 102, 105, 100]⟩ : ByteArray), t113⟩ : S51), (⟨(⟨#[114, 101, 102, 116, 105, 109, 101]⟩ : ByteArray), t114⟩ : S51), (⟨(⟨#[112, 101, 101, 114]⟩ : ByteArray), t115⟩ : S51), (⟨(⟨#[116, 99]⟩ : ByteArray), t116⟩ : S51), (⟨(⟨#[111, 102, 102, 115, 101, 116]⟩ : ByteArray), t117⟩ : S51), (⟨(⟨#[102, 114, 101, 113, 117, 101, 110, 99, 121]⟩ : ByteArray), t118⟩ : S51), (⟨(⟨#[115, 121, 115, 95, 106, 105, 116, 116, 101, 114]⟩ : ByteArray), t119⟩ : S51)] : List (S51))))))))) = some r := H
  have A8 := Aside0.mk A80
  clear A80
  replace H := Option.bind_eq_some_iff.mp H
  obtain ⟨t115, A90, H⟩ := H
  replace H : ((control_Number.f a0_2).bind fun t116 => ((control_Number.f a0_7).bind fun t117 => ((control_Number.f a0_10).bind fun t118 => ((control_Number.f a0_8).bind fun t119 => (some (([(⟨(⟨#[108, 101, 97, 112]⟩ : ByteArray), t108⟩ : S51), (⟨(⟨#[115, 116, 114, 97, 116, 117, 109]⟩ : ByteArray), t109⟩ : S51), (⟨(⟨#[112, 114, 101, 99, 105, 115, 105, 111, 110]⟩ : ByteArray), t110⟩ : S51), (⟨(⟨#[114, 111, 111, 116, 100, 101, 108, 97, 121]⟩ : ByteArray), t111⟩ : S51), (⟨(⟨#[114, 111, 111, 116, 100, 105, 115, 112]⟩ : ByteArray), t112⟩ : S51), (⟨(⟨#[114, 101, 102, 105, 100]⟩ : ByteArray), t113⟩ : S51), (⟨(⟨#[114, 101, 102, 116, 105, 109, 101]⟩ : ByteArray), t114⟩ : S51), (⟨(⟨#[112, 101, 101, 114]⟩ : ByteArray), t115⟩ : S51), (⟨(⟨#[116, 99]⟩ : ByteArray), t116⟩ : S51), (⟨(⟨#[111, 102, 102, 115, 101, 116]⟩ : ByteArray), t117⟩ : S51), (⟨(⟨#[102, 114, 101, 113, 117, 101, 110, 99, 121]⟩ : ByteArray), t118⟩ : S51), (⟨(⟨#[115, 121, 115, 95, 106, 105, 116, 116, 101, 114]⟩ : ByteArray), t119⟩ : S51)] : List (S51)))))))) = some r := H
  have A9 := Aside0.mk A90
  clear A90
  replace H := Option.bind_eq_some_iff.mp H
  obtain ⟨t116, A100, H⟩ := H
  replace H : ((control_Number.f a0_7).bind fun t117 => ((control_Number.f a0_10).bind fun t118 => ((control_Number.f a0_8).bind fun t119 => (some (([(⟨(⟨#[108, 101, 97, 112]⟩ : ByteArray), t108⟩ : S51), (⟨(⟨#[115, 116, 114, 97, 116, 117, 109]⟩ : ByteArray), t109⟩ : S51), (⟨(⟨#[112, 114, 101, 99, 105, 115, 105, 111, 110]⟩ : ByteArray), t110⟩ : S51), (⟨(⟨#[114, 111, 111, 116, 100, 101, 108, 97, 121]⟩ : ByteArray), t111⟩ : S51), (⟨(⟨#[114, 111, 111, 116, 100, 105, 115, 112]⟩ : ByteArray), t112⟩ : S51), (⟨(⟨#[114, 101, 102, 105, 100]⟩ : ByteArray), t113⟩ : S51), (⟨(⟨#[114, 101, 102, 116, 105, 109, 101]⟩ : ByteArray), t114⟩ : S51), (⟨(⟨#[112, 101, 101, 114]⟩ : ByteArray), t115⟩ : S51), (⟨(⟨#[116, 99]⟩ : ByteArray), t116⟩ : S51), (⟨(⟨#[111, 102, 102, 115, 101, 116]⟩ : ByteArray), t117⟩ : S51), (⟨(⟨#[102, 114, 101, 113, 117, 101, 110, 99, 121]⟩ : ByteArray), t118⟩ : S51), (⟨(⟨#[115, 121, 115, 95, 106, 105, 116, 116, 101, 114]⟩ : ByteArray), t119⟩ : S51)] : List (S51))))))) = some r := H
  have A10 := Aside0.mk A100
  clear A100
  replace H := Option.bind_eq_some_iff.mp H
  obtain ⟨t117, A110, H⟩ := H
  replace H : ((control_Number.f a0_10).bind fun t118 => ((control_Number.f a0_8).bind fun t119 => (some (([(⟨(⟨#[108, 101, 97, 112]⟩ : ByteArray), t108⟩ : S51), (⟨(⟨#[115, 116, 114, 97, 116, 117, 109]⟩ : ByteArray), t109⟩ : S51), (⟨(⟨#[112, 114, 101, 99, 105, 115, 105, 111, 110]⟩ : ByteArray), t110⟩ : S51), (⟨(⟨#[114, 111, 111, 116, 100, 101, 108, 97, 121]⟩ : ByteArray), t111⟩ : S51), (⟨(⟨#[114, 111, 111, 116, 100, 105, 115, 112]⟩ : ByteArray), t112⟩ : S51), (⟨(⟨#[114, 101, 102, 105, 100]⟩ : ByteArray), t113⟩ : S51), (⟨(⟨#[114, 101, 102, 116, 105, 109, 101]⟩ : ByteArray), t114⟩ : S51), (⟨(⟨#[112, 101, 101, 114]⟩ : ByteArray), t115⟩ : S51), (⟨(⟨#[116, 99]⟩ : ByteArray), t116⟩ : S51), (⟨(⟨#[111, 102, 102, 115, 101, 116]⟩ : ByteArray), t117⟩ : S51), (⟨(⟨#[102, 114, 101, 113, 117, 101, 110, 99, 121]⟩ : ByteArray), t118⟩ : S51), (⟨(⟨#[115, 121, 115, 95, 106, 105, 116, 116, 101, 114]⟩ : ByteArray), t119⟩ : S51)] : List (S51)))))) = some r := H
  have A11 := Aside0.mk A110
  clear A110
  replace H := Option.bind_eq_some_iff.mp H
  obtain ⟨t118, A120, H⟩ := H
  replace H : ((control_Number.f a0_8).bind fun t119 => (some (([(⟨(⟨#[108, 101, 97, 112]⟩ : ByteArray), t108⟩ : S51), (⟨(⟨#[115, 116, 114, 97, 116, 117, 109]⟩ : ByteArray), t109⟩ : S51), (⟨(⟨#[112, 114, 101, 99, 105, 115, 105, 111, 110]⟩ : ByteArray), t110⟩ : S51), (⟨(⟨#[114, 111, 111, 116, 100, 101, 108, 97, 121]⟩ : ByteArray), t111⟩ : S51), (⟨(⟨#[114, 111, 111, 116, 100, 105, 115, 112]⟩ : ByteArray), t112⟩ : S51), (⟨(⟨#[114, 101, 102, 105, 100]⟩ : ByteArray), t113⟩ : S51), (⟨(⟨#[114, 101, 102, 116, 105, 109, 101]⟩ : ByteArray), t114⟩ : S51), (⟨(⟨#[112, 101, 101, 114]⟩ : ByteArray), t115⟩ : S51), (⟨(⟨#[116, 99]⟩ : ByteArray), t116⟩ : S51), (⟨(⟨#[111, 102, 102, 115, 101, 116]⟩ : ByteArray), t117⟩ : S51), (⟨(⟨#[102, 114, 101, 113, 117, 101, 110, 99, 121]⟩ : ByteArray), t118⟩ : S51), (⟨(⟨#[115, 121, 115, 95, 106, 105, 116, 116, 101, 114]⟩ : ByteArray), t119⟩ : S51)] : List (S51))))) = some r := H
  have A12 := Aside0.mk A120
  clear A120
  replace H := Option.bind_eq_some_iff.mp H
  obtain ⟨t119, A130, H⟩ := H
  replace H : (some (([(⟨(⟨#[108, 101, 97, 112]⟩ : ByteArray), t108⟩ : S51), (⟨(⟨#[115, 116, 114, 97, 116, 117, 109]⟩ : ByteArray), t109⟩ : S51), (⟨(⟨#[112, 114, 101, 99, 105, 115, 105, 111, 110]⟩ : ByteArray), t110⟩ : S51), (⟨(⟨#[114, 111, 111, 116, 100, 101, 108, 97, 121]⟩ : ByteArray), t111⟩ : S51), (⟨(⟨#[114, 111, 111, 116, 100, 105, 115, 112]⟩ : ByteArray), t112⟩ : S51), (⟨(⟨#[114, 101, 102, 105, 100]⟩ : ByteArray), t113⟩ : S51), (⟨(⟨#[114, 101, 102, 116, 105, 109, 101]⟩ : ByteArray), t114⟩ : S51), (⟨(⟨#[112, 101, 101, 114]⟩ : ByteArray), t115⟩ : S51), (⟨(⟨#[116, 99]⟩ : ByteArray), t116⟩ : S51), (⟨(⟨#[111, 102, 102, 115, 101, 116]⟩ : ByteArray), t117⟩ : S51), (⟨(⟨#[102, 114, 101, 113, 117, 101, 110, 99, 121]⟩ : ByteArray), t118⟩ : S51), (⟨(⟨#[115, 121, 115, 95, 106, 105, 116, 116, 101, 114]⟩ : ByteArray), t119⟩ : S51)] : List (S51)))) = some r := H
  have A13 := Aside0.mk A130
  clear A130
  obtain ⟨y120, hy120⟩ : ∃ y_ : List (S51), y_ = (([(⟨(⟨#[108, 101, 97, 112]⟩ : ByteArray), t108⟩ : S51), (⟨(⟨#[115, 116, 114, 97, 116, 117, 109]⟩ : ByteArray), t109⟩ : S51), (⟨(⟨#[112, 114, 101, 99, 105, 115, 105, 111, 110]⟩ : ByteArray), t110⟩ : S51), (⟨(⟨#[114, 111, 111, 116, 100, 101, 108, 97, 121]⟩ : ByteArray), t111⟩ : S51), (⟨(⟨#[114, 111, 111, 116, 100, 105, 115, 112]⟩ : ByteArray), t112⟩ : S51), (⟨(⟨#[114, 101, 102, 105, 100]⟩ : ByteArray), t113⟩ : S51), (⟨(⟨#[114, 101, 102, 116, 105, 109, 101]⟩ : ByteArray), t114⟩ : S51), (⟨(⟨#[112, 101, 101, 114]⟩ : ByteArray), t115⟩ : S51), (⟨(⟨#[116, 99]⟩ : ByteArray), t116⟩ : S51), (⟨(⟨#[111, 102, 102, 115, 101, 116]⟩ : ByteArray), t117⟩ : S51), (⟨(⟨#[102, 114, 101, 113, 117, 101, 110, 99, 121]⟩ : ByteArray), t118⟩ : S51), (⟨(⟨#[115, 121, 115, 95, 106, 105, 116, 116, 101, 114]⟩ : ByteArray), t119⟩ : S51)] : List (S51))) := ⟨_, rfl⟩
  replace H : (some y120) = some r := by first | (rw [hy120]; with_reducible exact H) | (have H2_ := (Option.bind_some _ _).symm.trans H; rw [hy120]; with_reducible exact H2_) | (have H2_ := (Option.bind_some _ _).symm.trans H; with_reducible exact H2_) | with_reducible exact H | (rw [hy120]; exact H) | exact H
  have Ny120 := Aside0.mk hy120
  clear hy120
  obtain rfl := Option.some.inj H
  go_enter Tryd.func4, Tryd.ntmps4
  try go_wp2_with (first | ((with_reducible refine gate_dst (N := 1) rfl ?_); refine box_event ?hg (N := 1) ?hd (cs := #[.int .i64 a0_0, .int .i64 a0_1, .int .i64 a0_2, .int .i64 a0_3, .int .i64 a0_4, .int .u32 a0_5, .int .u64 a0_6, .int .i64 a0_7, .int .i64 a0_8, .int .i64 a0_9, .int .i64 a0_10]) (t := 28) ?hr ?_; (case hd => rfl); (case hg => rfl); (case hr => first | (go_simp; done) | (go_simp; rfl)); intro gb107 hg w14 hbox hb; have n0_ := Aside0.mk (below_step (by repeat (first | (with_reducible first | exact HB.out | apply below_alloc | apply pw_below_drewN | apply below_drew1) | exact HB.out)) hb); have n1_ := Aside0.mk (hbox); have n2_ := Aside0.mk ((by rw [hg]; exact (below_size (by repeat (first | (with_reducible first | exact HB.out | apply below_alloc | apply pw_below_drewN | apply below_drew1) | exact HB.out))) : w.heap.size ≤ gb107)); have n3_ := Aside0.mk ((by rw [hg]; exact (below_size (by repeat (first | (with_reducible first | exact HB.out | apply below_alloc | apply pw_below_drewN | apply below_drew1) | exact HB.out))) : w.heap.size ≤ gb107)); clear HB; have HB := n0_; have BK107 := n1_; have GW107 := n2_; have GE107 := n3_; clear n0_ n1_ n2_ n3_; clear hb hbox hg))
  have n0_ := Aside0.mk (blk_drew BK107.out)
  have n1_ := Aside0.mk (below_drew1 HB.out)
  clear BK107
  clear HB
  have BK107 := n0_
  have HB := n1_
  clear n0_ n1_
  refine start_ (n := 48) (S := fun w' => w'.cell? ⟨gb107, 0, none⟩ = some (.int .i64 a0_0) ∧ w'.cell? ⟨gb107, 1, none⟩ = some (.int .i64 a0_1) ∧ w'.cell? ⟨gb107, 2, none⟩ = some (.int .i64 a0_2) ∧ w'.cell? ⟨gb107, 3, none⟩ = some (.int .i64 a0_3) ∧ w'.cell? ⟨gb107, 4, none⟩ = some (.int .i64 a0_4) ∧ w'.cell? ⟨gb107, 5, none⟩ = some (.int .u32 a0_5) ∧ w'.cell? ⟨gb107, 6, none⟩ = some (.int .u64 a0_6) ∧ w'.cell? ⟨gb107, 7, none⟩ = some (.int .i64 a0_7) ∧ w'.cell? ⟨gb107, 8, none⟩ = some (.int .i64 a0_8) ∧ w'.cell? ⟨gb107, 9, none⟩ = some (.int .i64 a0_9) ∧ w'.cell? ⟨gb107, 10, none⟩ = some (.int .i64 a0_10)) (ds := []) #[false, false, false, false, false, false, false, false, false, false, false, false, false, false, false, false, false, false, false, false, false, false, false, false, false, false, false, false, false, false, false, false, false, false, false, false, false, false, false, false, false, false, false, false, false, false, false, false] (by kernel_rfl) rfl rfl ⟨(blk_cell BK107.out 0).trans rfl, (blk_cell BK107.out 1).trans rfl, (blk_cell BK107.out 2).trans rfl, (blk_cell BK107.out 3).trans rfl, (blk_cell BK107.out 4).trans rfl, (blk_cell BK107.out 5).trans rfl, (blk_cell BK107.out 6).trans rfl, (blk_cell BK107.out 7).trans rfl, (blk_cell BK107.out 8).trans rfl, (blk_cell BK107.out 9).trans rfl, (blk_cell BK107.out 10).trans rfl⟩ (fun hHeld => ?_); refine with_tabW control_SystemVars.tab1 control_SystemVars.bits1 (fun HT_ HW_ => ?_)
  generalize w14.drew = w15 at BK107 HB hHeld ⊢
  refine pure_ (i := 0) (N := some 3) (v := ?_) (a' := ?_) #[true, false, false, false, false, false, false, false, false, false, false, false, false, false, false, false, false, false, false, false, false, false, false, false, false, false, false, false, false, false, false, false, false, false, false, false, false, false, false, false, false, false, false, false, false, false, false, false] rfl rfl (any_of HT_.out (by kernel_rfl)) (fun _ _ _ h => h) (Or.inl ⟨by rfl, ?_⟩) ?_ ?_
  rotate_left
  · intro w'
    go_simp
    with_reducible rfl
  rotate_left
  · simp only [Act.put, List.setIfInBounds_toArray, List.set_cons_zero, List.set_cons_succ, i64_w, i32_w]
    rfl
  refine pure_ (i := 4) (N := some 7) (v := ?_) (a' := ?_) #[true, false, false, false, true, false, false, false, false, false, false, false, false, false, false, false, false, false, false, false, false, false, false, false, false, false, false, false, false, false, false, false, false, false, false, false, false, false, false, false, false, false, false, false, false, false, false, false] rfl rfl (any_of HT_.out (by kernel_rfl)) (fun _ _ _ h => h) (Or.inl ⟨by rfl, ?_⟩) ?_ ?_
  rotate_left
  · intro w'
    go_simp
    with_reducible rfl
  rotate_left
  · simp only [Act.put, List.setIfInBounds_toArray, List.set_cons_zero, List.set_cons_succ, i64_w, i32_w]
    rfl
  refine pure_ (i := 10) (N := some 13) (v := ?_) (a' := ?_) #[true, false, false, false, true, false, false, false, false, false, true, false, false, false, false, false, false, false, false, false, false, false, false, false, false, false, false, false, false, false, false, false, false, false, false, false, false, false, false, false, false, false, false, false, false, false, false, false] rfl rfl (any_of HT_.out (by kernel_rfl)) (fun _ _ _ h => h) (Or.inl ⟨by rfl, ?_⟩) ?_ ?_
  rotate_left
  · intro w'
    go_simp
    with_reducible rfl
  rotate_left
  · simp only [Act.put, List.setIfInBounds_toArray, List.set_cons_zero, List.set_cons_succ, i64_w, i32_w]
    rfl
  refine pure_ (i := 14) (N := some 17) (v := ?_) (a' := ?_) #[true, false, false, false, true, false, false, false, false, false, true, false, false, false, true, false, false, false, false, false, false, false, false, false, false, false, false, false, false, false, false, false, false, false, false, false, false, false, false, false, false, false, false, false, false, false, false, false] rfl rfl (any_of HT_.out (by kernel_rfl)) (fun _ _ _ h => h) (Or.inl ⟨by rfl, ?_⟩) ?_ ?_
  rotate_left
  · intro w'
    go_simp
    with_reducible rfl
  rotate_left
  · simp only [Act.put, List.setIfInBounds_toArray, List.set_cons_zero, List.set_cons_succ, i64_w, i32_w]
    rfl
  refine pure_ (i := 18) (N := some 21) (v := ?_) (a' := ?_) #[true, false, false, false, true, false, false, false, false, false, true, false, false, false, true, false, false, false, true, false, false, false, false, false, false, false, false, false, false, false, false, false, false, false, false, false, false, false, false, false, false, false, false, false, false, false, false, false] rfl rfl (any_of HT_.out (by kernel_rfl)) (fun _ _ _ h => h) (Or.inl ⟨by rfl, ?_⟩) ?_ ?_
  rotate_left
  · intro w'
    go_simp
    with_reducible rfl
  rotate_left
  · simp only [Act.put, List.setIfInBounds_toArray, List.set_cons_zero, List.set_cons_succ, i64_w, i32_w]
    rfl
  refine pure_ (i := 22) (N := some 25) (v := ?_) (a' := ?_) #[true, false, false, false, true, false, false, false, false, false, true, false, false, false, true, false, false, false, true, false, false, false, true, false, false, false, false, false, false, false, false, false, false, false, false, false, false, false, false, false, false, false, false, false, false, false, false, false] rfl rfl (any_of HT_.out (by kernel_rfl)) (fun _ _ _ h => h) (Or.inl ⟨by rfl, ?_⟩) ?_ ?_
  rotate_left
  · intro w'
    go_simp
    with_reducible rfl
  rotate_left
  · simp only [Act.put, List.setIfInBounds_toArray, List.set_cons_zero, List.set_cons_succ, i64_w, i32_w]
    rfl
  refine pure_ (i := 26) (N := some 29) (v := ?_) (a' := ?_) #[true, false, false, false, true, false, false, false, false, false, true, false, false, false, true, false, false, false, true, false, false, false, true, false, false, false, true, false, false, false, false, false, false, false, false, false, false, false, false, false, false, false, false, false, false, false, false, false] rfl rfl (any_of HT_.out (by kernel_rfl)) (fun _ _ _ h => h) (Or.inl ⟨by rfl, ?_⟩) ?_ ?_
  rotate_left
  · intro w'
    go_simp
    with_reducible rfl
  rotate_left
  · simp only [Act.put, List.setIfInBounds_toArray, List.set_cons_zero, List.set_cons_succ, i64_w, i32_w]
    rfl
  refine pure_ (i := 30) (N := some 33) (v := ?_) (a' := ?_) #[true, false, false, false, true, false, false, false, false, false, true, false, false, false, true, false, false, false, true, false, false, false, true, false, false, false, true, false, false, false, true, false, false, false, false, false, false, false, false, false, false, false, false, false, false, false, false, false] rfl rfl (any_of HT_.out (by kernel_rfl)) (fun _ _ _ h => h) (Or.inl ⟨by rfl, ?_⟩) ?_ ?_
  rotate_left
  · intro w'
    go_simp
    with_reducible rfl
  rotate_left
  · simp only [Act.put, List.setIfInBounds_toArray, List.set_cons_zero, List.set_cons_succ, i64_w, i32_w]
    rfl
  refine pure_ (i := 34) (N := some 37) (v := ?_) (a' := ?_) #[true, false, false, false, true, false, false, false, false, false, true, false, false, false, true, false, false, false, true, false, false, false, true, false, false, false, true, false, false, false, true, false, false, false, true, false, false, false, false, false, false, false, false, false, false, false, false, false] rfl rfl (any_of HT_.out (by kernel_rfl)) (fun _ _ _ h => h) (Or.inl ⟨by rfl, ?_⟩) ?_ ?_
  rotate_left
  · intro w'
    go_simp
    with_reducible rfl
  rotate_left
  · simp only [Act.put, List.setIfInBounds_toArray, List.set_cons_zero, List.set_cons_succ, i64_w, i32_w]
    rfl
  refine pure_ (i := 38) (N := some 41) (v := ?_) (a' := ?_) #[true, false, false, false, true, false, false, false, false, false, true, false, false, false, true, false, false, false, true, false, false, false, true, false, false, false, true, false, false, false, true, false, false, false, true, false, false, false, true, false, false, false, false, false, false, false, false, false] rfl rfl (any_of HT_.out (by kernel_rfl)) (fun _ _ _ h => h) (Or.inl ⟨by rfl, ?_⟩) ?_ ?_
  rotate_left
  · intro w'
    go_simp
    with_reducible rfl
  rotate_left
  · simp only [Act.put, List.setIfInBounds_toArray, List.set_cons_zero, List.set_cons_succ, i64_w, i32_w]
    rfl
  refine pure_ (i := 42) (N := some 45) (v := ?_) (a' := ?_) #[true, false, false, false, true, false, false, false, false, false, true, false, false, false, true, false, false, false, true, false, false, false, true, false, false, false, true, false, false, false, true, false, false, false, true, false, false, false, true, false, false, false, true, false, false, false, false, false] rfl rfl (any_of HT_.out (by kernel_rfl)) (fun _ _ _ h => h) (Or.inl ⟨by rfl, ?_⟩) ?_ ?_
  rotate_left
  · intro w'
    go_simp
    with_reducible rfl
  rotate_left
  · simp only [Act.put, List.setIfInBounds_toArray, List.set_cons_zero, List.set_cons_succ, i64_w, i32_w]
    rfl
  refine take_ (i := 1) (N := some 4) (v := ?_) (a' := ?_) #[true, true, false, false, true, false, false, false, false, false, true, false, false, false, true, false, false, false, true, false, false, false, true, false, false, false, true, false, false, false, true, false, false, false, true, false, false, false, true, false, false, false, true, false, false, false, false, false] rfl rfl (take_ofW HT_.out HW_.out (by kernel_rfl)) (fun _ _ _ h => h) (Or.inl ⟨by rfl, ?_⟩) hHeld ?_ ?_
  rotate_left
  · rintro w' ⟨s0, s1, s2, s3, s4, s5, s6, s7, s8, s9, s10⟩
    go_simp
    with_reducible rfl
  rotate_left
  · simp only [Act.put, List.setIfInBounds_toArray, List.set_cons_zero, List.set_cons_succ, i64_w, i32_w]
    rfl
  refine take_ (i := 5) (N := some 8) (v := ?_) (a' := ?_) #[true, true, false, false, true, true, false, false, false, false, true, false, false, false, true, false, false, false, true, false, false, false, true, false, false, false, true, false, false, false, true, false, false, false, true, false, false, false, true, false, false, false, true, false, false, false, false, false] rfl rfl (take_ofW HT_.out HW_.out (by kernel_rfl)) (fun _ _ _ h => h) (Or.inl ⟨by rfl, ?_⟩) hHeld ?_ ?_
  rotate_left
  · rintro w' ⟨s0, s1, s2, s3, s4, s5, s6, s7, s8, s9, s10⟩
    go_simp
    with_reducible rfl
  rotate_left
  · simp only [Act.put, List.setIfInBounds_toArray, List.set_cons_zero, List.set_cons_succ, i64_w, i32_w]
    rfl
  refine take_ (i := 11) (N := some 14) (v := ?_) (a' := ?_) #[true, true, false, false, true, true, false, false, false, false, true, true, false, false, true, false, false, false, true, false, false, false, true, false, false, false, true, false, false, false, true, false, false, false, true, false, false, false, true, false, false, false, true, false, false, false, false, false] rfl rfl (take_ofW HT_.out HW_.out (by kernel_rfl)) (fun _ _ _ h => h) (Or.inl ⟨by rfl, ?_⟩) hHeld ?_ ?_
  rotate_left
  · rintro w' ⟨s0, s1, s2, s3, s4, s5, s6, s7, s8, s9, s10⟩
    go_simp
    with_reducible rfl
  rotate_left
  · simp only [Act.put, List.setIfInBounds_toArray, List.set_cons_zero, List.set_cons_succ, i64_w, i32_w]
    rfl
  refine take_ (i := 15) (N := some 18) (v := ?_) (a' := ?_) #[true, true, false, false, true, true, false, false, false, false, true, true, false, false, true, true, false, false, true, false, false, false, true, false, false, false, true, false, false, false, true, false, false, false, true, false, false, false, true, false, false, false, true, false, false, false, false, false] rfl rfl (take_ofW HT_.out HW_.out (by kernel_rfl)) (fun _ _ _ h => h) (Or.inl ⟨by rfl, ?_⟩) hHeld ?_ ?_
  rotate_left
  · rintro w' ⟨s0, s1, s2, s3, s4, s5, s6, s7, s8, s9, s10⟩
    go_simp
    with_reducible rfl
  rotate_left
  · simp only [Act.put, List.setIfInBounds_toArray, List.set_cons_zero, List.set_cons_succ, i64_w, i32_w]
    rfl
  refine take_ (i := 19) (N := some 22) (v := ?_) (a' := ?_) #[true, true, false, false, true, true, false, false, false, false, true, true, false, false, true, true, false, false, true, true, false, false, true, false, false, false, true, false, false, false, true, false, false, false, true, false, false, false, true, false, false, false, true, false, false, false, false, false] rfl rfl (take_ofW HT_.out HW_.out (by kernel_rfl)) (fun _ _ _ h => h) (Or.inl ⟨by rfl, ?_⟩) hHeld ?_ ?_
  rotate_left
  · rintro w' ⟨s0, s1, s2, s3, s4, s5, s6, s7, s8, s9, s10⟩
    go_simp
    with_reducible rfl
  rotate_left
  · simp only [Act.put, List.setIfInBounds_toArray, List.set_cons_zero, List.set_cons_succ, i64_w, i32_w]
    rfl
  refine take_ (i := 23) (N := some 26) (v := ?_) (a' := ?_) #[true, true, false, false, true, true, false, false, false, false, true, true, false, false, true, true, false, false, true, true, false, false, true, true, false, false, true, false, false, false, true, false, false, false, true, false, false, false, true, false, false, false, true, false, false, false, false, false] rfl rfl (take_ofW HT_.out HW_.out (by kernel_rfl)) (fun _ _ _ h => h) (Or.inl ⟨by rfl, ?_⟩) hHeld ?_ ?_
  rotate_left
  · rintro w' ⟨s0, s1, s2, s3, s4, s5, s6, s7, s8, s9, s10⟩
    go_simp
    with_reducible rfl
  rotate_left
  · simp only [Act.put, List.setIfInBounds_toArray, List.set_cons_zero, List.set_cons_succ, i64_w, i32_w]
    rfl
  refine take_ (i := 27) (N := some 30) (v := ?_) (a' := ?_) #[true, true, false, false, true, true, false, false, false, false, true, true, false, false, true, true, false, false, true, true, false, false, true, true, false, false, true, true, false, false, true, false, false, false, true, false, false, false, true, false, false, false, true, false, false, false, false, false] rfl rfl (take_ofW HT_.out HW_.out (by kernel_rfl)) (fun _ _ _ h => h) (Or.inl ⟨by rfl, ?_⟩) hHeld ?_ ?_
  rotate_left
  · rintro w' ⟨s0, s1, s2, s3, s4, s5, s6, s7, s8, s9, s10⟩
    go_simp
    with_reducible rfl
  rotate_left
  · simp only [Act.put, List.setIfInBounds_toArray, List.set_cons_zero, List.set_cons_succ, i64_w, i32_w]
    rfl
  refine take_ (i := 31) (N := some 34) (v := ?_) (a' := ?_) #[true, true, false, false, true, true, false, false, false, false, true, true, false, false, true, true, false, false, true, true, false, false, true, true, false, false, true, true, false, false, true, true, false, false, true, false, false, false, true, false, false, false, true, false, false, false, false, false] rfl rfl (take_ofW HT_.out HW_.out (by kernel_rfl)) (fun _ _ _ h => h) (Or.inl ⟨by rfl, ?_⟩) hHeld ?_ ?_
  rotate_left
  · rintro w' ⟨s0, s1, s2, s3, s4, s5, s6, s7, s8, s9, s10⟩
    go_simp
    with_reducible rfl
  rotate_left
  · simp only [Act.put, List.setIfInBounds_toArray, List.set_cons_zero, List.set_cons_succ, i64_w, i32_w]
    rfl
  refine take_ (i := 35) (N := some 38) (v := ?_) (a' := ?_) #[true, true, false, false, true, true, false, false, false, false, true, true, false, false, true, true, false, false, true, true, false, false, true, true, false, false, true, true, false, false, true, true, false, false, true, true, false, false, true, false, false, false, true, false, false, false, false, false] rfl rfl (take_ofW HT_.out HW_.out (by kernel_rfl)) (fun _ _ _ h => h) (Or.inl ⟨by rfl, ?_⟩) hHeld ?_ ?_
  rotate_left
  · rintro w' ⟨s0, s1, s2, s3, s4, s5, s6, s7, s8, s9, s10⟩
    go_simp
    with_reducible rfl
  rotate_left
  · simp only [Act.put, List.setIfInBounds_toArray, List.set_cons_zero, List.set_cons_succ, i64_w, i32_w]
    rfl
  refine take_ (i := 39) (N := some 42) (v := ?_) (a' := ?_) #[true, true, false, false, true, true, false, false, false, false, true, true, false, false, true, true, false, false, true, true, false, false, true, true, false, false, true, true, false, false, true, true, false, false, true, true, false, false, true, true, false, false, true, false, false, false, false, false] rfl rfl (take_ofW HT_.out HW_.out (by kernel_rfl)) (fun _ _ _ h => h) (Or.inl ⟨by rfl, ?_⟩) hHeld ?_ ?_
  rotate_left
  · rintro w' ⟨s0, s1, s2, s3, s4, s5, s6, s7, s8, s9, s10⟩
    go_simp
    with_reducible rfl
  rotate_left
  · simp only [Act.put, List.setIfInBounds_toArray, List.set_cons_zero, List.set_cons_succ, i64_w, i32_w]
    rfl
  refine take_ (i := 43) (N := some 46) (v := ?_) (a' := ?_) #[true, true, false, false, true, true, false, false, false, false, true, true, false, false, true, true, false, false, true, true, false, false, true, true, false, false, true, true, false, false, true, true, false, false, true, true, false, false, true, true, false, false, true, true, false, false, false, false] rfl rfl (take_ofW HT_.out HW_.out (by kernel_rfl)) (fun _ _ _ h => h) (Or.inl ⟨by rfl, ?_⟩) hHeld ?_ ?_
  rotate_left
  · rintro w' ⟨s0, s1, s2, s3, s4, s5, s6, s7, s8, s9, s10⟩
    go_simp
    with_reducible rfl
  rotate_left
  · simp only [Act.put, List.setIfInBounds_toArray, List.set_cons_zero, List.set_cons_succ, i64_w, i32_w]
    rfl
  refine one_ (i := 2) (N := some 5) #[true, true, true, false, true, true, false, false, false, false, true, true, false, false, true, true, false, false, true, true, false, false, true, true, false, false, true, true, false, false, true, true, false, false, true, true, false, false, true, true, false, false, true, true, false, false, false, false] rfl rfl (one_of HT_.out (by kernel_rfl)) (by decide) (fun K hK => ?_)
  refine goes_ Tryd.func10 (by kernel_rfl) rfl #[.int .i64 a0_0] (by rfl) rfl rfl (by (try simp only [List.map_toArray, List.map_cons, List.map_nil]); first | done | rfl | (simp only [List.length_drop, List.length_take]; rfl)) ?_
  with_reducible refine (control_Number.calls a0_0 t108 _ ?side1 A2.out).mono ?_
  (case side1 => exact GWorld.below hG (by repeat (first | (with_reducible first | exact HB.out | apply below_alloc | apply pw_below_drewN | apply below_drew1 | refine below_set ?_ GE107.out) | exact HB.out)))
  rintro e w16 ⟨rfl, hb⟩
  refine ⟨_, rfl, ?_⟩
  have n0_ := Aside0.mk (blk_below (g := gb107) (o := .cells #[.int .i64 a0_0, .int .i64 a0_1, .int .i64 a0_2, .int .i64 a0_3, .int .i64 a0_4, .int .u32 a0_5, .int .u64 a0_6, .int .i64 a0_7, .int .i64 a0_8, .int .i64 a0_9, .int .i64 a0_10] 28 (0, 0)) (by (with_reducible repeat (first | refine blk_drewN ?_ _ | refine blk_drew ?_ | refine blk_alloc ?_ _)); exact BK107.out) hb)
  have n1_ := Aside0.mk (below_step (by repeat (first | (with_reducible first | exact HB.out | apply below_alloc | apply pw_below_drewN | apply below_drew1 | refine below_set ?_ GE107.out) | exact HB.out)) hb)
  clear BK107
  clear HB
  have BK107 := n0_
  have HB := n1_
  clear n0_ n1_
  (try clear hb)
  (try clear hb2)
  (try clear hk)
  (try clear hi)
  refine hK.out _ _ ⟨(blk_cell BK107.out 0).trans rfl, (blk_cell BK107.out 1).trans rfl, (blk_cell BK107.out 2).trans rfl, (blk_cell BK107.out 3).trans rfl, (blk_cell BK107.out 4).trans rfl, (blk_cell BK107.out 5).trans rfl, (blk_cell BK107.out 6).trans rfl, (blk_cell BK107.out 7).trans rfl, (blk_cell BK107.out 8).trans rfl, (blk_cell BK107.out 9).trans rfl, (blk_cell BK107.out 10).trans rfl⟩ (fun hHeld => ?_)
  clear hK K
  refine norm_ (a' := ?_) ?_ ?_
  rotate_left
  · show Act.put _ (some 5) _ = _
    simp only [Act.put, List.setIfInBounds_toArray, List.set_cons_zero, List.set_cons_succ, i64_w, i32_w]
    rfl
  refine pure_ (i := 3) (N := some 6) (v := ?_) (a' := ?_) #[true, true, true, true, true, true, false, false, false, false, true, true, false, false, true, true, false, false, true, true, false, false, true, true, false, false, true, true, false, false, true, true, false, false, true, true, false, false, true, true, false, false, true, true, false, false, false, false] rfl rfl (any_of HT_.out (by kernel_rfl)) (fun _ _ _ h => h) (Or.inl ⟨by rfl, ?_⟩) ?_ ?_
  rotate_left
  · intro w'
    go_simp
    with_reducible rfl
  rotate_left
  · simp only [Act.put, List.setIfInBounds_toArray, List.set_cons_zero, List.set_cons_succ, i64_w, i32_w]
    rfl
  refine one_ (i := 6) (N := some 9) #[true, true, true, true, true, true, true, false, false, false, true, true, false, false, true, true, false, false, true, true, false, false, true, true, false, false, true, true, false, false, true, true, false, false, true, true, false, false, true, true, false, false, true, true, false, false, false, false] rfl rfl (one_of HT_.out (by kernel_rfl)) (by decide) (fun K hK => ?_)
  refine goes_ Tryd.func10 (by kernel_rfl) rfl #[.int .i64 a0_1] (by rfl) rfl rfl (by (try simp only [List.map_toArray, List.map_cons, List.map_nil]); first | done | rfl | (simp only [List.length_drop, List.length_take]; rfl)) ?_
  with_reducible refine (control_Number.calls a0_1 t109 _ ?side1 A3.out).mono ?_
  (case side1 => exact GWorld.below hG (by repeat (first | (with_reducible first | exact HB.out | apply below_alloc | apply pw_below_drewN | apply below_drew1 | refine below_set ?_ GE107.out) | exact HB.out)))
  rintro e w17 ⟨rfl, hb⟩
  refine ⟨_, rfl, ?_⟩
  have n0_ := Aside0.mk (blk_below (g := gb107) (o := .cells #[.int .i64 a0_0, .int .i64 a0_1, .int .i64 a0_2, .int .i64 a0_3, .int .i64 a0_4, .int .u32 a0_5, .int .u64 a0_6, .int .i64 a0_7, .int .i64 a0_8, .int .i64 a0_9, .int .i64 a0_10] 28 (0, 0)) (by (with_reducible repeat (first | refine blk_drewN ?_ _ | refine blk_drew ?_ | refine blk_alloc ?_ _)); exact BK107.out) hb)
  have n1_ := Aside0.mk (below_step (by repeat (first | (with_reducible first | exact HB.out | apply below_alloc | apply pw_below_drewN | apply below_drew1 | refine below_set ?_ GE107.out) | exact HB.out)) hb)
  clear BK107
  clear HB
  have BK107 := n0_
  have HB := n1_
  clear n0_ n1_
  (try clear hb)
  (try clear hb2)
  (try clear hk)
  (try clear hi)
  refine hK.out _ _ ⟨(blk_cell BK107.out 0).trans rfl, (blk_cell BK107.out 1).trans rfl, (blk_cell BK107.out 2).trans rfl, (blk_cell BK107.out 3).trans rfl, (blk_cell BK107.out 4).trans rfl, (blk_cell BK107.out 5).trans rfl, (blk_cell BK107.out 6).trans rfl, (blk_cell BK107.out 7).trans rfl, (blk_cell BK107.out 8).trans rfl, (blk_cell BK107.out 9).trans rfl, (blk_cell BK107.out 10).trans rfl⟩ (fun hHeld => ?_)
  clear hK K
  refine norm_ (a' := ?_) ?_ ?_
  rotate_left
  · show Act.put _ (some 9) _ = _
    simp only [Act.put, List.setIfInBounds_toArray, List.set_cons_zero, List.set_cons_succ, i64_w, i32_w]
    rfl
  refine pure_ (i := 7) (N := some 10) (v := ?_) (a' := ?_) #[true, true, true, true, true, true, true, true, false, false, true, true, false, false, true, true, false, false, true, true, false, false, true, true, false, false, true, true, false, false, true, true, false, false, true, true, false, false, true, true, false, false, true, true, false, false, false, false] rfl rfl (any_of HT_.out (by kernel_rfl)) (fun _ _ _ h => h) (Or.inl ⟨by rfl, ?_⟩) ?_ ?_
  rotate_left
  · intro w'
    go_simp
    with_reducible rfl
  rotate_left
  · simp only [Act.put, List.setIfInBounds_toArray, List.set_cons_zero, List.set_cons_succ, i64_w, i32_w]
    rfl
  refine one_ (i := 8) (N := some 11) #[true, true, true, true, true, true, true, true, true, false, true, true, false, false, true, true, false, false, true, true, false, false, true, true, false, false, true, true, false, false, true, true, false, false, true, true, false, false, true, true, false, false, true, true, false, false, false, false] rfl rfl (one_of HT_.out (by kernel_rfl)) (by decide) (fun K hK => ?_)
  refine goes_ Tryd.func10 (by kernel_rfl) rfl #[.int .i64 (-20)] (by rfl) rfl rfl (by (try simp only [List.map_toArray, List.map_cons, List.map_nil]); first | done | rfl | (simp only [List.length_drop, List.length_take]; rfl)) ?_
  with_reducible refine (control_Number.calls (-20) t110 _ ?side1 A4.out).mono ?_
  (case side1 => exact GWorld.below hG (by repeat (first | (with_reducible first | exact HB.out | apply below_alloc | apply pw_below_drewN | apply below_drew1 | refine below_set ?_ GE107.out) | exact HB.out)))
  rintro e w18 ⟨rfl, hb⟩
  refine ⟨_, rfl, ?_⟩
  have n0_ := Aside0.mk (blk_below (g := gb107) (o := .cells #[.int .i64 a0_0, .int .i64 a0_1, .int .i64 a0_2, .int .i64 a0_3, .int .i64 a0_4, .int .u32 a0_5, .int .u64 a0_6, .int .i64 a0_7, .int .i64 a0_8, .int .i64 a0_9, .int .i64 a0_10] 28 (0, 0)) (by (with_reducible repeat (first | refine blk_drewN ?_ _ | refine blk_drew ?_ | refine blk_alloc ?_ _)); exact BK107.out) hb)
  have n1_ := Aside0.mk (below_step (by repeat (first | (with_reducible first | exact HB.out | apply below_alloc | apply pw_below_drewN | apply below_drew1 | refine below_set ?_ GE107.out) | exact HB.out)) hb)
  clear BK107
  clear HB
  have BK107 := n0_
  have HB := n1_
  clear n0_ n1_
  (try clear hb)
  (try clear hb2)
  (try clear hk)
  (try clear hi)
  refine hK.out _ _ ⟨(blk_cell BK107.out 0).trans rfl, (blk_cell BK107.out 1).trans rfl, (blk_cell BK107.out 2).trans rfl, (blk_cell BK107.out 3).trans rfl, (blk_cell BK107.out 4).trans rfl, (blk_cell BK107.out 5).trans rfl, (blk_cell BK107.out 6).trans rfl, (blk_cell BK107.out 7).trans rfl, (blk_cell BK107.out 8).trans rfl, (blk_cell BK107.out 9).trans rfl, (blk_cell BK107.out 10).trans rfl⟩ (fun hHeld => ?_)
  clear hK K
  refine norm_ (a' := ?_) ?_ ?_
  rotate_left
  · show Act.put _ (some 11) _ = _
    simp only [Act.put, List.setIfInBounds_toArray, List.set_cons_zero, List.set_cons_succ, i64_w, i32_w]
    rfl
  refine pure_ (i := 9) (N := some 12) (v := ?_) (a' := ?_) #[true, true, true, true, true, true, true, true, true, true, true, true, false, false, true, true, false, false, true, true, false, false, true, true, false, false, true, true, false, false, true, true, false, false, true, true, false, false, true, true, false, false, true, true, false, false, false, false] rfl rfl (any_of HT_.out (by kernel_rfl)) (fun _ _ _ h => h) (Or.inl ⟨by rfl, ?_⟩) ?_ ?_
  rotate_left
  · intro w'
    go_simp
    with_reducible rfl
  rotate_left
  · simp only [Act.put, List.setIfInBounds_toArray, List.set_cons_zero, List.set_cons_succ, i64_w, i32_w]
    rfl
  refine one_ (i := 12) (N := some 15) #[true, true, true, true, true, true, true, true, true, true, true, true, true, false, true, true, false, false, true, true, false, false, true, true, false, false, true, true, false, false, true, true, false, false, true, true, false, false, true, true, false, false, true, true, false, false, false, false] rfl rfl (one_of HT_.out (by kernel_rfl)) (by decide) (fun K hK => ?_)
  refine goes_ Tryd.func10 (by kernel_rfl) rfl #[.int .i64 a0_3] (by rfl) rfl rfl (by (try simp only [List.map_toArray, List.map_cons, List.map_nil]); first | done | rfl | (simp only [List.length_drop, List.length_take]; rfl)) ?_
  with_reducible refine (control_Number.calls a0_3 t111 _ ?side1 A5.out).mono ?_
  (case side1 => exact GWorld.below hG (by repeat (first | (with_reducible first | exact HB.out | apply below_alloc | apply pw_below_drewN | apply below_drew1 | refine below_set ?_ GE107.out) | exact HB.out)))
  rintro e w19 ⟨rfl, hb⟩
  refine ⟨_, rfl, ?_⟩
  have n0_ := Aside0.mk (blk_below (g := gb107) (o := .cells #[.int .i64 a0_0, .int .i64 a0_1, .int .i64 a0_2, .int .i64 a0_3, .int .i64 a0_4, .int .u32 a0_5, .int .u64 a0_6, .int .i64 a0_7, .int .i64 a0_8, .int .i64 a0_9, .int .i64 a0_10] 28 (0, 0)) (by (with_reducible repeat (first | refine blk_drewN ?_ _ | refine blk_drew ?_ | refine blk_alloc ?_ _)); exact BK107.out) hb)
  have n1_ := Aside0.mk (below_step (by repeat (first | (with_reducible first | exact HB.out | apply below_alloc | apply pw_below_drewN | apply below_drew1 | refine below_set ?_ GE107.out) | exact HB.out)) hb)
  clear BK107
  clear HB
  have BK107 := n0_
  have HB := n1_
  clear n0_ n1_
  (try clear hb)
  (try clear hb2)
  (try clear hk)
  (try clear hi)
  refine hK.out _ _ ⟨(blk_cell BK107.out 0).trans rfl, (blk_cell BK107.out 1).trans rfl, (blk_cell BK107.out 2).trans rfl, (blk_cell BK107.out 3).trans rfl, (blk_cell BK107.out 4).trans rfl, (blk_cell BK107.out 5).trans rfl, (blk_cell BK107.out 6).trans rfl, (blk_cell BK107.out 7).trans rfl, (blk_cell BK107.out 8).trans rfl, (blk_cell BK107.out 9).trans rfl, (blk_cell BK107.out 10).trans rfl⟩ (fun hHeld => ?_)
  clear hK K
  refine norm_ (a' := ?_) ?_ ?_
  rotate_left
  · show Act.put _ (some 15) _ = _
    simp only [Act.put, List.setIfInBounds_toArray, List.set_cons_zero, List.set_cons_succ, i64_w, i32_w]
    rfl
  refine pure_ (i := 13) (N := some 16) (v := ?_) (a' := ?_) #[true, true, true, true, true, true, true, true, true, true, true, true, true, true, true, true, false, false, true, true, false, false, true, true, false, false, true, true, false, false, true, true, false, false, true, true, false, false, true, true, false, false, true, true, false, false, false, false] rfl rfl (any_of HT_.out (by kernel_rfl)) (fun _ _ _ h => h) (Or.inl ⟨by rfl, ?_⟩) ?_ ?_
  rotate_left
  · intro w'
    go_simp
    with_reducible rfl
  rotate_left
  · simp only [Act.put, List.setIfInBounds_toArray, List.set_cons_zero, List.set_cons_succ, i64_w, i32_w]
    rfl
  refine one_ (i := 16) (N := some 19) #[true, true, true, true, true, true, true, true, true, true, true, true, true, true, true, true, true, false, true, true, false, false, true, true, false, false, true, true, false, false, true, true, false, false, true, true, false, false, true, true, false, false, true, true, false, false, false, false] rfl rfl (one_of HT_.out (by kernel_rfl)) (by decide) (fun K hK => ?_)
  refine goes_ Tryd.func10 (by kernel_rfl) rfl #[.int .i64 a0_4] (by rfl) rfl rfl (by (try simp only [List.map_toArray, List.map_cons, List.map_nil]); first | done | rfl | (simp only [List.length_drop, List.length_take]; rfl)) ?_
  with_reducible refine (control_Number.calls a0_4 t112 _ ?side1 A6.out).mono ?_
  (case side1 => exact GWorld.below hG (by repeat (first | (with_reducible first | exact HB.out | apply below_alloc | apply pw_below_drewN | apply below_drew1 | refine below_set ?_ GE107.out) | exact HB.out)))
  rintro e w20 ⟨rfl, hb⟩
  refine ⟨_, rfl, ?_⟩
  have n0_ := Aside0.mk (blk_below (g := gb107) (o := .cells #[.int .i64 a0_0, .int .i64 a0_1, .int .i64 a0_2, .int .i64 a0_3, .int .i64 a0_4, .int .u32 a0_5, .int .u64 a0_6, .int .i64 a0_7, .int .i64 a0_8, .int .i64 a0_9, .int .i64 a0_10] 28 (0, 0)) (by (with_reducible repeat (first | refine blk_drewN ?_ _ | refine blk_drew ?_ | refine blk_alloc ?_ _)); exact BK107.out) hb)
  have n1_ := Aside0.mk (below_step (by repeat (first | (with_reducible first | exact HB.out | apply below_alloc | apply pw_below_drewN | apply below_drew1 | refine below_set ?_ GE107.out) | exact HB.out)) hb)
  clear BK107
  clear HB
  have BK107 := n0_
  have HB := n1_
  clear n0_ n1_
  (try clear hb)
  (try clear hb2)
  (try clear hk)
  (try clear hi)
  refine hK.out _ _ ⟨(blk_cell BK107.out 0).trans rfl, (blk_cell BK107.out 1).trans rfl, (blk_cell BK107.out 2).trans rfl, (blk_cell BK107.out 3).trans rfl, (blk_cell BK107.out 4).trans rfl, (blk_cell BK107.out 5).trans rfl, (blk_cell BK107.out 6).trans rfl, (blk_cell BK107.out 7).trans rfl, (blk_cell BK107.out 8).trans rfl, (blk_cell BK107.out 9).trans rfl, (blk_cell BK107.out 10).trans rfl⟩ (fun hHeld => ?_)
  clear hK K
  refine norm_ (a' := ?_) ?_ ?_
  rotate_left
  · show Act.put _ (some 19) _ = _
    simp only [Act.put, List.setIfInBounds_toArray, List.set_cons_zero, List.set_cons_succ, i64_w, i32_w]
    rfl
  refine pure_ (i := 17) (N := some 20) (v := ?_) (a' := ?_) #[true, true, true, true, true, true, true, true, true, true, true, true, true, true, true, true, true, true, true, true, false, false, true, true, false, false, true, true, false, false, true, true, false, false, true, true, false, false, true, true, false, false, true, true, false, false, false, false] rfl rfl (any_of HT_.out (by kernel_rfl)) (fun _ _ _ h => h) (Or.inl ⟨by rfl, ?_⟩) ?_ ?_
  rotate_left
  · intro w'
    go_simp
    with_reducible rfl
  rotate_left
  · simp only [Act.put, List.setIfInBounds_toArray, List.set_cons_zero, List.set_cons_succ, i64_w, i32_w]
    rfl
  refine one_ (i := 20) (N := some 23) #[true, true, true, true, true, true, true, true, true, true, true, true, true, true, true, true, true, true, true, true, true, false, true, true, false, false, true, true, false, false, true, true, false, false, true, true, false, false, true, true, false, false, true, true, false, false, false, false] rfl rfl (one_of HT_.out (by kernel_rfl)) (by decide) (fun K hK => ?_)
  refine goes_ Tryd.func17 (by kernel_rfl) rfl #[.int .u32 a0_5] (by rfl) rfl rfl (by (try simp only [List.map_toArray, List.map_cons, List.map_nil]); first | done | rfl | (simp only [List.length_drop, List.length_take]; rfl)) ?_
  with_reducible refine (conf_PrintAddr.calls k a0_5 t113 _ ?side1 A7.out).mono ?_
  (case side1 => exact GWorld.below hG (by repeat (first | (with_reducible first | exact HB.out | apply below_alloc | apply pw_below_drewN | apply below_drew1 | refine below_set ?_ GE107.out) | exact HB.out)))
  rintro e w21 ⟨rfl, hb⟩
  refine ⟨_, rfl, ?_⟩
  have n0_ := Aside0.mk (blk_below (g := gb107) (o := .cells #[.int .i64 a0_0, .int .i64 a0_1, .int .i64 a0_2, .int .i64 a0_3, .int .i64 a0_4, .int .u32 a0_5, .int .u64 a0_6, .int .i64 a0_7, .int .i64 a0_8, .int .i64 a0_9, .int .i64 a0_10] 28 (0, 0)) (by (with_reducible repeat (first | refine blk_drewN ?_ _ | refine blk_drew ?_ | refine blk_alloc ?_ _)); exact BK107.out) hb)
  have n1_ := Aside0.mk (below_step (by repeat (first | (with_reducible first | exact HB.out | apply below_alloc | apply pw_below_drewN | apply below_drew1 | refine below_set ?_ GE107.out) | exact HB.out)) hb)
  clear BK107
  clear HB
  have BK107 := n0_
  have HB := n1_
  clear n0_ n1_
  (try clear hb)
  (try clear hb2)
  (try clear hk)
  (try clear hi)
  refine hK.out _ _ ⟨(blk_cell BK107.out 0).trans rfl, (blk_cell BK107.out 1).trans rfl, (blk_cell BK107.out 2).trans rfl, (blk_cell BK107.out 3).trans rfl, (blk_cell BK107.out 4).trans rfl, (blk_cell BK107.out 5).trans rfl, (blk_cell BK107.out 6).trans rfl, (blk_cell BK107.out 7).trans rfl, (blk_cell BK107.out 8).trans rfl, (blk_cell BK107.out 9).trans rfl, (blk_cell BK107.out 10).trans rfl⟩ (fun hHeld => ?_)
  clear hK K
  refine norm_ (a' := ?_) ?_ ?_
  rotate_left
  · show Act.put _ (some 23) _ = _
    simp only [Act.put, List.setIfInBounds_toArray, List.set_cons_zero, List.set_cons_succ, i64_w, i32_w]
    rfl
  refine pure_ (i := 21) (N := some 24) (v := ?_) (a' := ?_) #[true, true, true, true, true, true, true, true, true, true, true, true, true, true, true, true, true, true, true, true, true, true, true, true, false, false, true, true, false, false, true, true, false, false, true, true, false, false, true, true, false, false, true, true, false, false, false, false] rfl rfl (any_of HT_.out (by kernel_rfl)) (fun _ _ _ h => h) (Or.inl ⟨by rfl, ?_⟩) ?_ ?_
  rotate_left
  · intro w'
    go_simp
    with_reducible rfl
  rotate_left
  · simp only [Act.put, List.setIfInBounds_toArray, List.set_cons_zero, List.set_cons_succ, i64_w, i32_w]
    rfl
  refine one_ (i := 24) (N := some 27) #[true, true, true, true, true, true, true, true, true, true, true, true, true, true, true, true, true, true, true, true, true, true, true, true, true, false, true, true, false, false, true, true, false, false, true, true, false, false, true, true, false, false, true, true, false, false, false, false] rfl rfl (one_of HT_.out (by kernel_rfl)) (by decide) (fun K hK => ?_)
  refine goes_ Tryd.func18 (by kernel_rfl) rfl #[.int .u64 a0_6, .int .i64 10] (by rfl) rfl rfl (by (try simp only [List.map_toArray, List.map_cons, List.map_nil]); first | done | rfl | (simp only [List.length_drop, List.length_take]; rfl)) ?_
  with_reducible refine (strconv_FormatUint.calls a0_6 10 t114 _ ?side1 A8.out).mono ?_
  (case side1 => exact GWorld.below hG (by repeat (first | (with_reducible first | exact HB.out | apply below_alloc | apply pw_below_drewN | apply below_drew1 | refine below_set ?_ GE107.out) | exact HB.out)))
  rintro e w22 ⟨rfl, hb⟩
  refine ⟨_, rfl, ?_⟩
  have n0_ := Aside0.mk (blk_below (g := gb107) (o := .cells #[.int .i64 a0_0, .int .i64 a0_1, .int .i64 a0_2, .int .i64 a0_3, .int .i64 a0_4, .int .u32 a0_5, .int .u64 a0_6, .int .i64 a0_7, .int .i64 a0_8, .int .i64 a0_9, .int .i64 a0_10] 28 (0, 0)) (by (with_reducible repeat (first | refine blk_drewN ?_ _ | refine blk_drew ?_ | refine blk_alloc ?_ _)); exact BK107.out) hb)
  have n1_ := Aside0.mk (below_step (by repeat (first | (with_reducible first | exact HB.out | apply below_alloc | apply pw_below_drewN | apply below_drew1 | refine below_set ?_ GE107.out) | exact HB.out)) hb)
  clear BK107
  clear HB
  have BK107 := n0_
  have HB := n1_
  clear n0_ n1_
  (try clear hb)
  (try clear hb2)
  (try clear hk)
  (try clear hi)
  refine hK.out _ _ ⟨(blk_cell BK107.out 0).trans rfl, (blk_cell BK107.out 1).trans rfl, (blk_cell BK107.out 2).trans rfl, (blk_cell BK107.out 3).trans rfl, (blk_cell BK107.out 4).trans rfl, (blk_cell BK107.out 5).trans rfl, (blk_cell BK107.out 6).trans rfl, (blk_cell BK107.out 7).trans rfl, (blk_cell BK107.out 8).trans rfl, (blk_cell BK107.out 9).trans rfl, (blk_cell BK107.out 10).trans rfl⟩ (fun hHeld => ?_)
  clear hK K
  refine norm_ (a' := ?_) ?_ ?_
  rotate_left
  · show Act.put _ (some 27) _ = _
    simp only [Act.put, List.setIfInBounds_toArray, List.set_cons_zero, List.set_cons_succ, i64_w, i32_w]
    rfl
  refine pure_ (i := 25) (N := some 28) (v := ?_) (a' := ?_) #[true, true, true, true, true, true, true, true, true, true, true, true, true, true, true, true, true, true, true, true, true, true, true, true, true, true, true, true, false, false, true, true, false, false, true, true, false, false, true, true, false, false, true, true, false, false, false, false] rfl rfl (any_of HT_.out (by kernel_rfl)) (fun _ _ _ h => h) (Or.inl ⟨by rfl, ?_⟩) ?_ ?_
  rotate_left
  · intro w'
    go_simp
    with_reducible rfl
  rotate_left
  · simp only [Act.put, List.setIfInBounds_toArray, List.set_cons_zero, List.set_cons_succ, i64_w, i32_w]
    rfl
  refine one_ (i := 28) (N := some 31) #[true, true, true, true, true, true, true, true, true, true, true, true, true, true, true, true, true, true, true, true, true, true, true, true, true, true, true, true, true, false, true, true, false, false, true, true, false, false, true, true, false, false, true, true, false, false, false, false] rfl rfl (one_of HT_.out (by kernel_rfl)) (by decide) (fun K hK => ?_)
  refine goes_ Tryd.func10 (by kernel_rfl) rfl #[.int .i64 a0_9] (by rfl) rfl rfl (by (try simp only [List.map_toArray, List.map_cons, List.map_nil]); first | done | rfl | (simp only [List.length_drop, List.length_take]; rfl)) ?_
  with_reducible refine (control_Number.calls a0_9 t115 _ ?side1 A9.out).mono ?_
  (case side1 => exact GWorld.below hG (by repeat (first | (with_reducible first | exact HB.out | apply below_alloc | apply pw_below_drewN | apply below_drew1 | refine below_set ?_ GE107.out) | exact HB.out)))
  rintro e w23 ⟨rfl, hb⟩
  refine ⟨_, rfl, ?_⟩
  have n0_ := Aside0.mk (blk_below (g := gb107) (o := .cells #[.int .i64 a0_0, .int .i64 a0_1, .int .i64 a0_2, .int .i64 a0_3, .int .i64 a0_4, .int .u32 a0_5, .int .u64 a0_6, .int .i64 a0_7, .int .i64 a0_8, .int .i64 a0_9, .int .i64 a0_10] 28 (0, 0)) (by (with_reducible repeat (first | refine blk_drewN ?_ _ | refine blk_drew ?_ | refine blk_alloc ?_ _)); exact BK107.out) hb)
  have n1_ := Aside0.mk (below_step (by repeat (first | (with_reducible first | exact HB.out | apply below_alloc | apply pw_below_drewN | apply below_drew1 | refine below_set ?_ GE107.out) | exact HB.out)) hb)
  clear BK107
  clear HB
  have BK107 := n0_
  have HB := n1_
  clear n0_ n1_
  (try clear hb)
  (try clear hb2)
  (try clear hk)
  (try clear hi)
  refine hK.out _ _ ⟨(blk_cell BK107.out 0).trans rfl, (blk_cell BK107.out 1).trans rfl, (blk_cell BK107.out 2).trans rfl, (blk_cell BK107.out 3).trans rfl, (blk_cell BK107.out 4).trans rfl, (blk_cell BK107.out 5).trans rfl, (blk_cell BK107.out 6).trans rfl, (blk_cell BK107.out 7).trans rfl, (blk_cell BK107.out 8).trans rfl, (blk_cell BK107.out 9).trans rfl, (blk_cell BK107.out 10).trans rfl⟩ (fun hHeld => ?_)
  clear hK K
  refine norm_ (a' := ?_) ?_ ?_
  rotate_left
  · show Act.put _ (some 31) _ = _
    simp only [Act.put, List.setIfInBounds_toArray, List.set_cons_zero, List.set_cons_succ, i64_w, i32_w]
    rfl
  refine pure_ (i := 29) (N := some 32) (v := ?_) (a' := ?_) #[true, true, true, true, true, true, true, true, true, true, true, true, true, true, true, true, true, true, true, true, true, true, true, true, true, true, true, true, true, true, true, true, false, false, true, true, false, false, true, true, false, false, true, true, false, false, false, false] rfl rfl (any_of HT_.out (by kernel_rfl)) (fun _ _ _ h => h) (Or.inl ⟨by rfl, ?_⟩) ?_ ?_
  rotate_left
  · intro w'
    go_simp
    with_reducible rfl
  rotate_left
  · simp only [Act.put, List.setIfInBounds_toArray, List.set_cons_zero, List.set_cons_succ, i64_w, i32_w]
    rfl
  refine one_ (i := 32) (N := some 35) #[true, true, true, true, true, true, true, true, true, true, true, true, true, true, true, true, true, true, true, true, true, true, true, true, true, true, true, true, true, true, true, true, true, false, true, true, false, false, true, true, false, false, true, true, false, false, false, false] rfl rfl (one_of HT_.out (by kernel_rfl)) (by decide) (fun K hK => ?_)
  refine goes_ Tryd.func10 (by kernel_rfl) rfl #[.int .i64 a0_2] (by rfl) rfl rfl (by (try simp only [List.map_toArray, List.map_cons, List.map_nil]); first | done | rfl | (simp only [List.length_drop, List.length_take]; rfl)) ?_
  with_reducible refine (control_Number.calls a0_2 t116 _ ?side1 A10.out).mono ?_
  (case side1 => exact GWorld.below hG (by repeat (first | (with_reducible first | exact HB.out | apply below_alloc | apply pw_below_drewN | apply below_drew1 | refine below_set ?_ GE107.out) | exact HB.out)))
  rintro e w24 ⟨rfl, hb⟩
  refine ⟨_, rfl, ?_⟩
  have n0_ := Aside0.mk (blk_below (g := gb107) (o := .cells #[.int .i64 a0_0, .int .i64 a0_1, .int .i64 a0_2, .int .i64 a0_3, .int .i64 a0_4, .int .u32 a0_5, .int .u64 a0_6, .int .i64 a0_7, .int .i64 a0_8, .int .i64 a0_9, .int .i64 a0_10] 28 (0, 0)) (by (with_reducible repeat (first | refine blk_drewN ?_ _ | refine blk_drew ?_ | refine blk_alloc ?_ _)); exact BK107.out) hb)
  have n1_ := Aside0.mk (below_step (by repeat (first | (with_reducible first | exact HB.out | apply below_alloc | apply pw_below_drewN | apply below_drew1 | refine below_set ?_ GE107.out) | exact HB.out)) hb)
  clear BK107
  clear HB
  have BK107 := n0_
  have HB := n1_
  clear n0_ n1_
  (try clear hb)
  (try clear hb2)
  (try clear hk)
  (try clear hi)
  refine hK.out _ _ ⟨(blk_cell BK107.out 0).trans rfl, (blk_cell BK107.out 1).trans rfl, (blk_cell BK107.out 2).trans rfl, (blk_cell BK107.out 3).trans rfl, (blk_cell BK107.out 4).trans rfl, (blk_cell BK107.out 5).trans rfl, (blk_cell BK107.out 6).trans rfl, (blk_cell BK107.out 7).trans rfl, (blk_cell BK107.out 8).trans rfl, (blk_cell BK107.out 9).trans rfl, (blk_cell BK107.out 10).trans rfl⟩ (fun hHeld => ?_)
  clear hK K
  refine norm_ (a' := ?_) ?_ ?_
  rotate_left
  · show Act.put _ (some 35) _ = _
    simp only [Act.put, List.setIfInBounds_toArray, List.set_cons_zero, List.set_cons_succ, i64_w, i32_w]
    rfl
  refine pure_ (i := 33) (N := some 36) (v := ?_) (a' := ?_) #[true, true, true, true, true, true, true, true, true, true, true, true, true, true, true, true, true, true, true, true, true, true, true, true, true, true, true, true, true, true, true, true, true, true, true, true, false, false, true, true, false, false, true, true, false, false, false, false] rfl rfl (any_of HT_.out (by kernel_rfl)) (fun _ _ _ h => h) (Or.inl ⟨by rfl, ?_⟩) ?_ ?_
  rotate_left
  · intro w'
    go_simp
    with_reducible rfl
  rotate_left
  · simp only [Act.put, List.setIfInBounds_toArray, List.set_cons_zero, List.set_cons_succ, i64_w, i32_w]
    rfl
  refine one_ (i := 36) (N := some 39) #[true, true, true, true, true, true, true, true, true, true, true, true, true, true, true, true, true, true, true, true, true, true, true, true, true, true, true, true, true, true, true, true, true, true, true, true, true, false, true, true, false, false, true, true, false, false, false, false] rfl rfl (one_of HT_.out (by kernel_rfl)) (by decide) (fun K hK => ?_)
  refine goes_ Tryd.func10 (by kernel_rfl) rfl #[.int .i64 a0_7] (by rfl) rfl rfl (by (try simp only [List.map_toArray, List.map_cons, List.map_nil]); first | done | rfl | (simp only [List.length_drop, List.length_take]; rfl)) ?_
  with_reducible refine (control_Number.calls a0_7 t117 _ ?side1 A11.out).mono ?_
  (case side1 => exact GWorld.below hG (by repeat (first | (with_reducible first | exact HB.out | apply below_alloc | apply pw_below_drewN | apply below_drew1 | refine below_set ?_ GE107.out) | exact HB.out)))
  rintro e w25 ⟨rfl, hb⟩
  refine ⟨_, rfl, ?_⟩
  have n0_ := Aside0.mk (blk_below (g := gb107) (o := .cells #[.int .i64 a0_0, .int .i64 a0_1, .int .i64 a0_2, .int .i64 a0_3, .int .i64 a0_4, .int .u32 a0_5, .int .u64 a0_6, .int .i64 a0_7, .int .i64 a0_8, .int .i64 a0_9, .int .i64 a0_10] 28 (0, 0)) (by (with_reducible repeat (first | refine blk_drewN ?_ _ | refine blk_drew ?_ | refine blk_alloc ?_ _)); exact BK107.out) hb)
  have n1_ := Aside0.mk (below_step (by repeat (first | (with_reducible first | exact HB.out | apply below_alloc | apply pw_below_drewN | apply below_drew1 | refine below_set ?_ GE107.out) | exact HB.out)) hb)
  clear BK107
  clear HB
  have BK107 := n0_
  have HB := n1_
  clear n0_ n1_
  (try clear hb)
  (try clear hb2)
  (try clear hk)
  (try clear hi)
  refine hK.out _ _ ⟨(blk_cell BK107.out 0).trans rfl, (blk_cell BK107.out 1).trans rfl, (blk_cell BK107.out 2).trans rfl, (blk_cell BK107.out 3).trans rfl, (blk_cell BK107.out 4).trans rfl, (blk_cell BK107.out 5).trans rfl, (blk_cell BK107.out 6).trans rfl, (blk_cell BK107.out 7).trans rfl, (blk_cell BK107.out 8).trans rfl, (blk_cell BK107.out 9).trans rfl, (blk_cell BK107.out 10).trans rfl⟩ (fun hHeld => ?_)
  clear hK K
  refine norm_ (a' := ?_) ?_ ?_
  rotate_left
  · show Act.put _ (some 39) _ = _
    simp only [Act.put, List.setIfInBounds_toArray, List.set_cons_zero, List.set_cons_succ, i64_w, i32_w]
    rfl
  refine pure_ (i := 37) (N := some 40) (v := ?_) (a' := ?_) #[true, true, true, true, true, true, true, true, true, true, true, true, true, true, true, true, true, true, true, true, true, true, true, true, true, true, true, true, true, true, true, true, true, true, true, true, true, true, true, true, false, false, true, true, false, false, false, false] rfl rfl (any_of HT_.out (by kernel_rfl)) (fun _ _ _ h => h) (Or.inl ⟨by rfl, ?_⟩) ?_ ?_
  rotate_left
  · intro w'
    go_simp
    with_reducible rfl
  rotate_left
  · simp only [Act.put, List.setIfInBounds_toArray, List.set_cons_zero, List.set_cons_succ, i64_w, i32_w]
    rfl
  refine one_ (i := 40) (N := some 43) #[true, true, true, true, true, true, true, true, true, true, true, true, true, true, true, true, true, true, true, true, true, true, true, true, true, true, true, true, true, true, true, true, true, true, true, true, true, true, true, true, true, false, true, true, false, false, false, false] rfl rfl (one_of HT_.out (by kernel_rfl)) (by decide) (fun K hK => ?_)
  refine goes_ Tryd.func10 (by kernel_rfl) rfl #[.int .i64 a0_10] (by rfl) rfl rfl (by (try simp only [List.map_toArray, List.map_cons, List.map_nil]); first | done | rfl | (simp only [List.length_drop, List.length_take]; rfl)) ?_
  with_reducible refine (control_Number.calls a0_10 t118 _ ?side1 A12.out).mono ?_
  (case side1 => exact GWorld.below hG (by repeat (first | (with_reducible first | exact HB.out | apply below_alloc | apply pw_below_drewN | apply below_drew1 | refine below_set ?_ GE107.out) | exact HB.out)))
  rintro e w26 ⟨rfl, hb⟩
  refine ⟨_, rfl, ?_⟩
  have n0_ := Aside0.mk (blk_below (g := gb107) (o := .cells #[.int .i64 a0_0, .int .i64 a0_1, .int .i64 a0_2, .int .i64 a0_3, .int .i64 a0_4, .int .u32 a0_5, .int .u64 a0_6, .int .i64 a0_7, .int .i64 a0_8, .int .i64 a0_9, .int .i64 a0_10] 28 (0, 0)) (by (with_reducible repeat (first | refine blk_drewN ?_ _ | refine blk_drew ?_ | refine blk_alloc ?_ _)); exact BK107.out) hb)
  have n1_ := Aside0.mk (below_step (by repeat (first | (with_reducible first | exact HB.out | apply below_alloc | apply pw_below_drewN | apply below_drew1 | refine below_set ?_ GE107.out) | exact HB.out)) hb)
  clear BK107
  clear HB
  have BK107 := n0_
  have HB := n1_
  clear n0_ n1_
  (try clear hb)
  (try clear hb2)
  (try clear hk)
  (try clear hi)
  refine hK.out _ _ ⟨(blk_cell BK107.out 0).trans rfl, (blk_cell BK107.out 1).trans rfl, (blk_cell BK107.out 2).trans rfl, (blk_cell BK107.out 3).trans rfl, (blk_cell BK107.out 4).trans rfl, (blk_cell BK107.out 5).trans rfl, (blk_cell BK107.out 6).trans rfl, (blk_cell BK107.out 7).trans rfl, (blk_cell BK107.out 8).trans rfl, (blk_cell BK107.out 9).trans rfl, (blk_cell BK107.out 10).trans rfl⟩ (fun hHeld => ?_)
  clear hK K
  refine norm_ (a' := ?_) ?_ ?_
  rotate_left
  · show Act.put _ (some 43) _ = _
    simp only [Act.put, List.setIfInBounds_toArray, List.set_cons_zero, List.set_cons_succ, i64_w, i32_w]
    rfl
  refine pure_ (i := 41) (N := some 44) (v := ?_) (a' := ?_) #[true, true, true, true, true, true, true, true, true, true, true, true, true, true, true, true, true, true, true, true, true, true, true, true, true, true, true, true, true, true, true, true, true, true, true, true, true, true, true, true, true, true, true, true, false, false, false, false] rfl rfl (any_of HT_.out (by kernel_rfl)) (fun _ _ _ h => h) (Or.inl ⟨by rfl, ?_⟩) ?_ ?_
  rotate_left
  · intro w'
    go_simp
    with_reducible rfl
  rotate_left
  · simp only [Act.put, List.setIfInBounds_toArray, List.set_cons_zero, List.set_cons_succ, i64_w, i32_w]
    rfl
  refine one_ (i := 44) (N := some 47) #[true, true, true, true, true, true, true, true, true, true, true, true, true, true, true, true, true, true, true, true, true, true, true, true, true, true, true, true, true, true, true, true, true, true, true, true, true, true, true, true, true, true, true, true, true, false, false, false] rfl rfl (one_of HT_.out (by kernel_rfl)) (by decide) (fun K hK => ?_)
  refine goes_ Tryd.func10 (by kernel_rfl) rfl #[.int .i64 a0_8] (by rfl) rfl rfl (by (try simp only [List.map_toArray, List.map_cons, List.map_nil]); first | done | rfl | (simp only [List.length_drop, List.length_take]; rfl)) ?_
  with_reducible refine (control_Number.calls a0_8 t119 _ ?side1 A13.out).mono ?_
  (case side1 => exact GWorld.below hG (by repeat (first | (with_reducible first | exact HB.out | apply below_alloc | apply pw_below_drewN | apply below_drew1 | refine below_set ?_ GE107.out) | exact HB.out)))
  rintro e w27 ⟨rfl, hb⟩
  refine ⟨_, rfl, ?_⟩
  have n0_ := Aside0.mk (blk_below (g := gb107) (o := .cells #[.int .i64 a0_0, .int .i64 a0_1, .int .i64 a0_2, .int .i64 a0_3, .int .i64 a0_4, .int .u32 a0_5, .int .u64 a0_6, .int .i64 a0_7, .int .i64 a0_8, .int .i64 a0_9, .int .i64 a0_10] 28 (0, 0)) (by (with_reducible repeat (first | refine blk_drewN ?_ _ | refine blk_drew ?_ | refine blk_alloc ?_ _)); exact BK107.out) hb)
  have n1_ := Aside0.mk (below_step (by repeat (first | (with_reducible first | exact HB.out | apply below_alloc | apply pw_below_drewN | apply below_drew1 | refine below_set ?_ GE107.out) | exact HB.out)) hb)
  clear BK107
  clear HB
  have BK107 := n0_
  have HB := n1_
  clear n0_ n1_
  (try clear hb)
  (try clear hb2)
  (try clear hk)
  (try clear hi)
  refine hK.out _ _ ⟨(blk_cell BK107.out 0).trans rfl, (blk_cell BK107.out 1).trans rfl, (blk_cell BK107.out 2).trans rfl, (blk_cell BK107.out 3).trans rfl, (blk_cell BK107.out 4).trans rfl, (blk_cell BK107.out 5).trans rfl, (blk_cell BK107.out 6).trans rfl, (blk_cell BK107.out 7).trans rfl, (blk_cell BK107.out 8).trans rfl, (blk_cell BK107.out 9).trans rfl, (blk_cell BK107.out 10).trans rfl⟩ (fun hHeld => ?_)
  clear hK K
  refine norm_ (a' := ?_) ?_ ?_
  rotate_left
  · show Act.put _ (some 47) _ = _
    simp only [Act.put, List.setIfInBounds_toArray, List.set_cons_zero, List.set_cons_succ, i64_w, i32_w]
    rfl
  refine pure_ (i := 45) (N := some 48) (v := ?_) (a' := ?_) #[true, true, true, true, true, true, true, true, true, true, true, true, true, true, true, true, true, true, true, true, true, true, true, true, true, true, true, true, true, true, true, true, true, true, true, true, true, true, true, true, true, true, true, true, true, true, false, false] rfl rfl (any_of HT_.out (by kernel_rfl)) (fun _ _ _ h => h) (Or.inl ⟨by rfl, ?_⟩) ?_ ?_
  rotate_left
  · intro w'
    go_simp
    with_reducible rfl
  rotate_left
  · simp only [Act.put, List.setIfInBounds_toArray, List.set_cons_zero, List.set_cons_succ, i64_w, i32_w]
    rfl
  refine one_ (i := 46) (N := some 49) #[true, true, true, true, true, true, true, true, true, true, true, true, true, true, true, true, true, true, true, true, true, true, true, true, true, true, true, true, true, true, true, true, true, true, true, true, true, true, true, true, true, true, true, true, true, true, true, false] rfl rfl (one_of HT_.out (by kernel_rfl)) (by decide) (fun K hK => ?_)
  refine Kd.R_lit_step k51 _ 51 ?hg (N := 49) ?hd (xs := ([(⟨(⟨#[108, 101, 97, 112]⟩ : ByteArray), t108⟩ : S51), (⟨(⟨#[115, 116, 114, 97, 116, 117, 109]⟩ : ByteArray), t109⟩ : S51), (⟨(⟨#[112, 114, 101, 99, 105, 115, 105, 111, 110]⟩ : ByteArray), t110⟩ : S51), (⟨(⟨#[114, 111, 111, 116, 100, 101, 108, 97, 121]⟩ : ByteArray), t111⟩ : S51), (⟨(⟨#[114, 111, 111, 116, 100, 105, 115, 112]⟩ : ByteArray), t112⟩ : S51), (⟨(⟨#[114, 101, 102, 105, 100]⟩ : ByteArray), t113⟩ : S51), (⟨(⟨#[114, 101, 102, 116, 105, 109, 101]⟩ : ByteArray), t114⟩ : S51), (⟨(⟨#[112, 101, 101, 114]⟩ : ByteArray), t115⟩ : S51), (⟨(⟨#[116, 99]⟩ : ByteArray), t116⟩ : S51), (⟨(⟨#[111, 102, 102, 115, 101, 116]⟩ : ByteArray), t117⟩ : S51), (⟨(⟨#[102, 114, 101, 113, 117, 101, 110, 99, 121]⟩ : ByteArray), t118⟩ : S51), (⟨(⟨#[115, 121, 115, 95, 106, 105, 116, 116, 101, 114]⟩ : ByteArray), t119⟩ : S51)] : List (S51))) (inner := [.string (⟨#[108, 101, 97, 112]⟩ : ByteArray), .string t108, .string (⟨#[115, 116, 114, 97, 116, 117, 109]⟩ : ByteArray), .string t109, .string (⟨#[112, 114, 101, 99, 105, 115, 105, 111, 110]⟩ : ByteArray), .string t110, .string (⟨#[114, 111, 111, 116, 100, 101, 108, 97, 121]⟩ : ByteArray), .string t111, .string (⟨#[114, 111, 111, 116, 100, 105, 115, 112]⟩ : ByteArray), .string t112, .string (⟨#[114, 101, 102, 105, 100]⟩ : ByteArray), .string t113, .string (⟨#[114, 101, 102, 116, 105, 109, 101]⟩ : ByteArray), .string t114, .string (⟨#[112, 101, 101, 114]⟩ : ByteArray), .string t115, .string (⟨#[116, 99]⟩ : ByteArray), .string t116, .string (⟨#[111, 102, 102, 115, 101, 116]⟩ : ByteArray), .string t117, .string (⟨#[102, 114, 101, 113, 117, 101, 110, 99, 121]⟩ : ByteArray), .string t118, .string (⟨#[115, 121, 115, 95, 106, 105, 116, 116, 101, 114]⟩ : ByteArray), .string t119]) (ok := fun _ => True) (okp := fun _ => True) ?hr ?hp (fun _ hk => hk) trivial (Below.refl _ _) (Nat.le_refl _) (by simp) ?_; (case hd => rfl); (case hg => rfl); (case hr => first | (go_simp; done) | (go_simp; rfl)); (case hp => exact (Reps.c2 (show Kd.M k51 _ _ _ (⟨(⟨#[108, 101, 97, 112]⟩ : ByteArray), t108⟩ : S51) [.string (⟨#[108, 101, 97, 112]⟩ : ByteArray), .string t108] from (k51_mkM _ _ _ (⟨(⟨#[108, 101, 97, 112]⟩ : ByteArray), t108⟩ : S51) )) (Reps.c2 (show Kd.M k51 _ _ _ (⟨(⟨#[115, 116, 114, 97, 116, 117, 109]⟩ : ByteArray), t109⟩ : S51) [.string (⟨#[115, 116, 114, 97, 116, 117, 109]⟩ : ByteArray), .string t109] from (k51_mkM _ _ _ (⟨(⟨#[115, 116, 114, 97, 116, 117, 109]⟩ : ByteArray), t109⟩ : S51) )) (Reps.c2 (show Kd.M k51 _ _ _ (⟨(⟨#[112, 114, 101, 99, 105, 115, 105, 111, 110]⟩ : ByteArray), t110⟩ : S51) [.string (⟨#[112, 114, 101, 99, 105, 115, 105, 111, 110]⟩ : ByteArray), .string t110] from (k51_mkM _ _ _ (⟨(⟨#[112, 114, 101, 99, 105, 115, 105, 111, 110]⟩ : ByteArray), t110⟩ : S51) )) (Reps.c2 (show Kd.M k51 _ _ _ (⟨(⟨#[114, 111, 111, 116, 100, 101, 108, 97, 121]⟩ : ByteArray), t111⟩ : S51) [.string (⟨#[114, 111, 111, 116, 100, 101, 108, 97, 121]⟩ : ByteArray), .string t111] from (k51_mkM _ _ _ (⟨(⟨#[114, 111, 111, 116, 100, 101, 108, 97, 121]⟩ : ByteArray), t111⟩ : S51) )) (Reps.c2 (show Kd.M k51 _ _ _ (⟨(⟨#[114, 111, 111, 116, 100, 105, 115, 112]⟩ : ByteArray), t112⟩ : S51) [.string (⟨#[114, 111, 111, 116, 100, 105, 115, 112]⟩ : ByteArray), .string t112] from (k51_mkM _ _ _ (⟨(⟨#[114, 111, 111, 116, 100, 105, 115, 112]⟩ : ByteArray), t112⟩ : S51) )) (Reps.c2 (show Kd.M k51 _ _ _ (⟨(⟨#[114, 101, 102, 105, 100]⟩ : ByteArray), t113⟩ : S51) [.string (⟨#[114, 101, 102, 105, 100]⟩ : ByteArray), .string t113] from (k51_mkM _ _ _ (⟨(⟨#[114, 101, 102, 105, 100]⟩ : ByteArray), t113⟩ : S51) )) (Reps.c2 (show Kd.M k51 _ _ _ (⟨(⟨#[114, 101, 102, 116, 105, 109, 101]⟩ : ByteArray), t114⟩ : S51) [.string (⟨#[114, 101, 102, 116, 105, 109, 101]⟩ : ByteArray), .string t114] from (k51_mkM _ _ _ (⟨(⟨#[114, 101, 102, 116, 105, 109, 101]⟩ : ByteArray), t114⟩ : S51) )) (Reps.c2 (show Kd.M k51 _ _ _ (⟨(⟨#[112, 101, 101, 114]⟩ : ByteArray), t115⟩ : S51) [.string (⟨#[112, 101, 101, 114]⟩ : ByteArray), .string t115] from (k51_mkM _ _ _ (⟨(⟨#[112, 101, 101, 114]⟩ : ByteArray), t115⟩ : S51) )) (Reps.c2 (show Kd.M k51 _ _ _ (⟨(⟨#[116, 99]⟩ : ByteArray), t116⟩ : S51) [.string (⟨#[116, 99]⟩ : ByteArray), .string t116] from (k51_mkM _ _ _ (⟨(⟨#[116, 99]⟩ : ByteArray), t116⟩ : S51) )) (Reps.c2 (show Kd.M k51 _ _ _ (⟨(⟨#[111, 102, 102, 115, 101, 116]⟩ : ByteArray), t117⟩ : S51) [.string (⟨#[111, 102, 102, 115, 101, 116]⟩ : ByteArray), .string t117] from (k51_mkM _ _ _ (⟨(⟨#[111, 102, 102, 115, 101, 116]⟩ : ByteArray), t117⟩ : S51) )) (Reps.c2 (show Kd.M k51 _ _ _ (⟨(⟨#[102, 114, 101, 113, 117, 101, 110, 99, 121]⟩ : ByteArray), t118⟩ : S51) [.string (⟨#[102, 114, 101, 113, 117, 101, 110, 99, 121]⟩ : ByteArray), .string t118] from (k51_mkM _ _ _ (⟨(⟨#[102, 114, 101, 113, 117, 101, 110, 99, 121]⟩ : ByteArray), t118⟩ : S51) )) (Reps.c2 (show Kd.M k51 _ _ _ (⟨(⟨#[115, 121, 115, 95, 106, 105, 116, 116, 101, 114]⟩ : ByteArray), t119⟩ : S51) [.string (⟨#[115, 121, 115, 95, 106, 105, 116, 116, 101, 114]⟩ : ByteArray), .string t119] from (k51_mkM _ _ _ (⟨(⟨#[115, 121, 115, 95, 106, 105, 116, 116, 101, 114]⟩ : ByteArray), t119⟩ : S51) )) (Reps.none _ _))))))))))))))
  intro v121 w28 ho29 hb hg_ hnew_
  clear hg_ hnew_
  (first | rw [← Ny120.out] at ho29 | (simp only [Int.reduceToNat] at ho29; rw [← Ny120.out] at ho29))
  have n0_ := Aside0.mk (Kd.R_lower ho29 (below_size (by repeat (first | (with_reducible first | exact HB.out | apply below_alloc | apply pw_below_drewN | apply below_drew1 | refine below_set ?_ GE107.out) | exact HB.out))))
  have n1_ := Aside0.mk (blk_below (g := gb107) (o := .cells #[.int .i64 a0_0, .int .i64 a0_1, .int .i64 a0_2, .int .i64 a0_3, .int .i64 a0_4, .int .u32 a0_5, .int .u64 a0_6, .int .i64 a0_7, .int .i64 a0_8, .int .i64 a0_9, .int .i64 a0_10] 28 (0, 0)) (by (with_reducible repeat (first | refine blk_drewN ?_ _ | refine blk_drew ?_ | refine blk_alloc ?_ _)); exact BK107.out) hb)
  have n2_ := Aside0.mk (below_step (by repeat (first | (with_reducible first | exact HB.out | apply below_alloc | apply pw_below_drewN | apply below_drew1 | refine below_set ?_ GE107.out) | exact HB.out)) hb)
  clear BK107
  clear HB
  have HO122 := n0_
  have BK107 := n1_
  have HB := n2_
  clear n0_ n1_ n2_
  clear hb ho29
  refine hK.out _ _ ⟨(blk_cell BK107.out 0).trans rfl, (blk_cell BK107.out 1).trans rfl, (blk_cell BK107.out 2).trans rfl, (blk_cell BK107.out 3).trans rfl, (blk_cell BK107.out 4).trans rfl, (blk_cell BK107.out 5).trans rfl, (blk_cell BK107.out 6).trans rfl, (blk_cell BK107.out 7).trans rfl, (blk_cell BK107.out 8).trans rfl, (blk_cell BK107.out 9).trans rfl, (blk_cell BK107.out 10).trans rfl⟩ (fun hHeld => ?_)
  clear hK K
  refine norm_ (a' := ?_) ?_ ?_
  rotate_left
  · show Act.put _ (some 49) _ = _
    simp only [Act.put, List.setIfInBounds_toArray, List.set_cons_zero, List.set_cons_succ, i64_w, i32_w]
    rfl
  refine pure_ (i := 47) (N := some 2) (v := ?_) (a' := ?_) #[true, true, true, true, true, true, true, true, true, true, true, true, true, true, true, true, true, true, true, true, true, true, true, true, true, true, true, true, true, true, true, true, true, true, true, true, true, true, true, true, true, true, true, true, true, true, true, true] rfl rfl (any_of HT_.out (by kernel_rfl)) (fun _ _ _ h => h) (Or.inl ⟨by rfl, ?_⟩) ?_ ?_
  rotate_left
  · intro w'
    go_simp
    with_reducible rfl
  rotate_left
  · simp only [Act.put, List.setIfInBounds_toArray, List.set_cons_zero, List.set_cons_succ, i64_w, i32_w]
    rfl
  refine done_ (done_of HT_.out (by kernel_rfl)) ?_
  try go_wp2
  go_ret
  exact ⟨_, by first | rfl | (simp [errW_none, errW_some] <;> rfl) | (simp [*, errW_none, errW_some] <;> rfl), by (with_reducible repeat (first | apply Kd.R_alloc | apply Kd.R_drewN | apply Kd.R_drew)); exact HO122.out, by repeat (first | (with_reducible first | exact HB.out | apply below_alloc | apply pw_below_drewN | apply below_drew1 | refine below_set ?_ GE107.out) | exact HB.out)⟩

end Go.Proofs.YtpclhceafigibaaDoor.PVars
