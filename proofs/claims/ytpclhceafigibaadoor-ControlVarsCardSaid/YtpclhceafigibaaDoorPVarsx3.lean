/- Functions and contracts, printed by a program over the kit's print (wip/fprint.py): some callees' contracts are typed by hand in texts of their own. -/
import Derived.Test.YtpclhceafigibaaDoorPVarsx0
import Derived.Test.YtpclhceafigibaaDoorPVarsx1
import Derived.Test.YtpclhceafigibaaDoorPVarsx2
import Derived.Test.YtpclhceafigibaaDoorG
namespace Go.Proofs.YtpclhceafigibaaDoor.PVars
open Go.RowKit Go.Proofs.YtpclhceafigibaaDoorW.PrintWords Go.Proofs.YtpclhceafigibaaDoorW.PrintLast Go.Proofs.YtpclhceafigibaaDoorW.PrintMore
attribute [local go_sem] max2_int min2_int max_two min_two max_three min_three max_four min_four   -- for this text's walks alone
set_option linter.unusedVariables false
set_option linter.unusedSimpArgs false

attribute [local go_sem high] eqA51
/-! ### control_PeerVars: function 5 -/
def control_PeerVars.f (k : Nat) (a0_0 : Int) (a0_1 : Int) (a0_2 : Int) (a0_3 : Int) (a0_4 : Int) (a0_5 : Bool) (a0_6 : Bool) (a0_7 : Bool) (a0_8 : Int) (a0_9 : Bool) (a0_10 : Int) (a0_11 : Int) (a1_0 : Int) (a1_1 : Int) (a1_2 : Int) (a1_3 : Int) (a1_4 : Int) (a1_5 : Bool) (a2 : Int) (a3 : Int) : Option ((List (S51))) := (conf_PrintAddr.f k a0_1).bind fun t125 => ((control_Number.f a0_0).bind fun t126 => ((control_Number.f a3).bind fun t127 => ((control_Number.f a2).bind fun t128 => ((control_Number.f a0_3).bind fun t129 => ((control_Number.f a0_2).bind fun t130 => ((control_Number.f a1_0).bind fun t131 => ((control_Number.f a1_1).bind fun t132 => ((control_Number.f a1_2).bind fun t133 => ((control_Number.f a1_3).bind fun t134 => (some (([(⟨(⟨#[115, 114, 99, 97, 100, 114]⟩ : ByteArray), t125⟩ : S51), (⟨(⟨#[107, 105, 110, 100]⟩ : ByteArray), t126⟩ : S51), (⟨(⟨#[115, 116, 114, 97, 116, 117, 109]⟩ : ByteArray), t127⟩ : S51), (⟨(⟨#[114, 101, 97, 99, 104]⟩ : ByteArray), t128⟩ : S51), (⟨(⟨#[104, 112, 111, 108, 108]⟩ : ByteArray), t129⟩ : S51), (⟨(⟨#[107, 101, 121]⟩ : ByteArray), t130⟩ : S51), (⟨(⟨#[111, 102, 102, 115, 101, 116]⟩ : ByteArray), t131⟩ : S51), (⟨(⟨#[100, 101, 108, 97, 121]⟩ : ByteArray), t132⟩ : S51), (⟨(⟨#[100, 105, 115, 112, 101, 114, 115, 105, 111, 110]⟩ : ByteArray), t133⟩ : S51), (⟨(⟨#[106, 105, 116, 116, 101, 114]⟩ : ByteArray), t134⟩ : S51)] : List (S51)))))))))))))
theorem control_PeerVars.mono : ∀ a0 a1 a2 a3 a4 a5 a6 a7 a8 a9 a10 a11 a12 a13 a14 a15 a16 a17 a18 a19 k, LeO (control_PeerVars.f k a0 a1 a2 a3 a4 a5 a6 a7 a8 a9 a10 a11 a12 a13 a14 a15 a16 a17 a18 a19) (control_PeerVars.f (k + 1) a0 a1 a2 a3 a4 a5 a6 a7 a8 a9 a10 a11 a12 a13 a14 a15 a16 a17 a18 a19) := by
  intro a0 a1 a2 a3 a4 a5 a6 a7 a8 a9 a10 a11 a12 a13 a14 a15 a16 a17 a18 a19 k
  unfold control_PeerVars.f
  repeat' first
      | (with_reducible exact conf_PrintAddr.mono _ _)
      | (with_reducible exact LeO.refl _)
      | (with_reducible exact LeO.none _)
      | (with_reducible refine LeO.ite ?_ ?_)
      | (with_reducible refine LeO.bind ?_ (fun _ => ?_))
      | exact conf_PrintAddr.mono _ _
      | exact LeO.none _
      | refine LeO.ite ?_ ?_
      | refine LeO.bind ?_ (fun _ => ?_)
def control_PeerVars.T1 : Bool × List (List Nat × List Nat) := (true, [([], []), ([0], [0]), ([1], [1]), ([2], [2]), ([], []), ([4], [4]), ([5, 2], [5]), ([6], [6]), ([], []), ([8, 6], [8]), ([9], [9]), ([], []), ([11, 9], [11]), ([12], [12]), ([], []), ([14], [14]), ([15, 12], [15]), ([16], [16]), ([], []), ([18], [18]), ([19, 16], [19]), ([20], [20]), ([], []), ([22], [22]), ([23, 20], [23]), ([24], [24]), ([], []), ([26], [26]), ([27, 24], [27]), ([28], [28]), ([], []), ([30], [30]), ([31, 28], [31]), ([32], [32]), ([], []), ([34], [34]), ([35, 32], [35]), ([36], [36]), ([3, 7, 10, 13, 17, 21, 25, 29, 33, 37], [3, 7, 10, 13, 17, 21, 25, 29, 33, 37]), ([38, 36, 0, 1, 2, 3, 4, 5, 6, 7, 8, 9, 10, 11, 12, 13, 14, 15, 16, 17, 18, 19, 20, 21, 22, 23, 24, 25, 26, 27, 28, 29, 30, 31, 32, 33, 34, 35, 36, 37, 38], [38])])
def control_PeerVars.B1 : List Nat := [0, 1, 3, 7, 0, 16, 55, 119, 0, 375, 887, 0, 2935, 7031, 0, 16384, 56183, 121719, 0, 262144, 908151, 1956727, 0, 4194304, 14539639, 31316855, 0, 67108864, 232643447, 501078903, 0, 1073741824, 3722304375, 8017271671, 0, 17179869184, 59556879223, 128276355959, 274877906943, 549755813887]
theorem control_PeerVars.tab1 : rtab .any (opsOf Tryd.f5 1) = control_PeerVars.T1 := by kernel_rfl
theorem control_PeerVars.bits1 : waitsOk control_PeerVars.T1.2 control_PeerVars.B1 = true := by kernel_rfl
set_option maxHeartbeats 8000000 in
set_option maxRecDepth 100000 in
theorem control_PeerVars.calls (k : Nat) (a0_0 : Int) (a0_1 : Int) (a0_2 : Int) (a0_3 : Int) (a0_4 : Int) (a0_5 : Bool) (a0_6 : Bool) (a0_7 : Bool) (a0_8 : Int) (a0_9 : Bool) (a0_10 : Int) (a0_11 : Int) (a1_0 : Int) (a1_1 : Int) (a1_2 : Int) (a1_3 : Int) (a1_4 : Int) (a1_5 : Bool) (a2 : Int) (a3 : Int) (r : List (S51)) (w : World) (hG : GWorld w) (h : control_PeerVars.f k a0_0 a0_1 a0_2 a0_3 a0_4 a0_5 a0_6 a0_7 a0_8 a0_9 a0_10 a0_11 a1_0 a1_1 a1_2 a1_3 a1_4 a1_5 a2 a3 = some r) :
    Calls Tryd.prog 5 #[.agg #[.int .i64 a0_0, .int .u32 a0_1, .int .i64 a0_2, .int .i64 a0_3, .int .i64 a0_4, .bool a0_5, .bool a0_6, .bool a0_7, .int .i64 a0_8, .bool a0_9, .int .i64 a0_10, .int .i64 a0_11], .agg #[.int .i64 a1_0, .int .i64 a1_1, .int .i64 a1_2, .int .i64 a1_3, .int .u64 a1_4, .bool a1_5], .int .i64 a2, .int .i64 a3] w fun e w' => ∃ v0_ : Value, e = .returned (v0_) ∧ Kd.R k51 51 w' w.heap.size (fun _ => True) v0_ r ∧ Below w.heap.size w w' := by
  have hu30 := Tryd.underlying30
  have hu32 := Tryd.underlying32
  have hu51 := Tryd.underlying51
  have HB := Aside0.mk (Below.refl w.heap.size w)
  have H : ((conf_PrintAddr.f k a0_1).bind fun t125 => ((control_Number.f a0_0).bind fun t126 => ((control_Number.f a3).bind fun t127 => ((control_Number.f a2).bind fun t128 => ((control_Number.f a0_3).bind fun t129 => ((control_Number.f a0_2).bind fun t130 => ((control_Number.f a1_0).bind fun t131 => ((control_Number.f a1_1).bind fun t132 => ((control_Number.f a1_2).bind fun t133 => ((control_Number.f a1_3).bind fun t134 => (some (([(⟨(⟨#[115, 114, 99, 97, 100, 114]⟩ : ByteArray), t125⟩ : S51), (⟨(⟨#[107, 105, 110, 100]⟩ : ByteArray), t126⟩ : S51), (⟨(⟨#[115, 116, 114, 97, 116, 117, 109]⟩ : ByteArray), t127⟩ : S51), (⟨(⟨#[114, 101, 97, 99, 104]⟩ : ByteArray), t128⟩ : S51), (⟨(⟨#[104, 112, 111, 108, 108]⟩ : ByteArray), t129⟩ : S51), (⟨(⟨#[107, 101, 121]⟩ : ByteArray), t130⟩ : S51), (⟨(⟨#[111, 102, 102, 115, 101, 116]⟩ : ByteArray), t131⟩ : S51), (⟨(⟨#[100, 101, 108, 97, 121]⟩ : ByteArray), t132⟩ : S51), (⟨(⟨#[100, 105, 115, 112, 101, 114, 115, 105, 111, 110]⟩ : ByteArray), t133⟩ : S51), (⟨(⟨#[106, 105, 116, 116, 101, 114]⟩ : ByteArray), t134⟩ : S51)] : List (S51)))))))))))))) = some r := h
  clear h
  replace H := Option.bind_eq_some_iff.mp H
  obtain ⟨t125, A50, H⟩ := H
  replace H : ((control_Number.f a0_0).bind fun t126 => ((control_Number.f a3).bind fun t127 => ((control_Number.f a2).bind fun t128 => ((control_Number.f a0_3).bind fun t129 => ((control_Number.f a0_2).bind fun t130 => ((control_Number.f a1_0).bind fun t131 => ((control_Number.f a1_1).bind fun t132 => ((control_Number.f a1_2).bind fun t133 => ((control_Number.f a1_3).bind fun t134 => (some (([(⟨(⟨#[115, 114, 99, 97, 100, 114]⟩ : ByteArray), t125⟩ : S51), (⟨(⟨#[107, 105, 110, 100]⟩ : ByteArray), t126⟩ : S51), (⟨(⟨#[115, 116, 114, 97, 116, 117, 109]⟩ : ByteArray), t127⟩ : S51), (⟨(⟨#[114, 101, 97, 99, 104]⟩ : ByteArray), t128⟩ : S51), (⟨(⟨#[104, 112, 111, 108, 108]⟩ : ByteArray), t129⟩ : S51), (⟨(⟨#[107, 101, 121]⟩ : ByteArray), t130⟩ : S51), (⟨(⟨#[111, 102, 102, 115, 101, 116]⟩ : ByteArray), t131⟩ : S51), (⟨(⟨#[100, 101, 108, 97, 121]⟩ : ByteArray), t132⟩ : S51), (⟨(⟨#[100, 105, 115, 112, 101, 114, 115, 105, 111, 110]⟩ : ByteArray), t133⟩ : S51), (⟨(⟨#[106, 105, 116, 116, 101, 114]⟩ : ByteArray), t134⟩ : S51)] : List (S51))))))))))))) = some r := H
  have A5 := Aside0.mk A50
  clear A50
  replace H := Option.bind_eq_some_iff.mp H
  obtain ⟨t126, A60, H⟩ := H
  replace H : ((control_Number.f a3).bind fun t127 => ((control_Number.f a2).bind fun t128 => ((control_Number.f a0_3).bind fun t129 => ((control_Number.f a0_2).bind fun t130 => ((control_Number.f a1_0).bind fun t131 => ((control_Number.f a1_1).bind fun t132 => ((control_Number.f a1_2).bind fun t133 => ((control_Number.f a1_3).bind fun t134 => (some (([(⟨(⟨#[115, 114, 99, 97, 100, 114]⟩ : ByteArray), t125⟩ : S51), (⟨(⟨#[107, 105, 110, 100]⟩ : ByteArray), t126⟩ : S51), (⟨(⟨#[115, 116, 114, 97, 116, 117, 109]⟩ : ByteArray), t127⟩ : S51), (⟨(⟨#[114, 101, 97, 99, 104]⟩ : ByteArray), t128⟩ : S51), (⟨(⟨#[104, 112, 111, 108, 108]⟩ : ByteArray), t129⟩ : S51), (⟨(⟨#[107, 101, 121]⟩ : ByteArray), t130⟩ : S51), (⟨(⟨#[111, 102, 102, 115, 101, 116]⟩ : ByteArray), t131⟩ : S51), (⟨(⟨#[100, 101, 108, 97, 121]⟩ : ByteArray), t132⟩ : S51), (⟨(⟨#[100, 105, 115, 112, 101, 114, 115, 105, 111, 110]⟩ : ByteArray), t133⟩ : S51), (⟨(⟨#[106, 105, 116, 116, 101, 114]⟩ : ByteArray), t134⟩ : S51)] : List (S51)))))))))))) = some r := H
  have A6 := Aside0.mk A60
  clear A60
  replace H := Option.bind_eq_some_iff.mp H
  obtain ⟨t127, A70, H⟩ := H
  replace H : ((control_Number.f a2).bind fun t128 => ((control_Number.f a0_3).bind fun t129 => ((control_Number.f a0_2).bind fun t130 => ((control_Number.f a1_0).bind fun t131 => ((control_Number.f a1_1).bind fun t132 => ((control_Number.f a1_2).bind fun t133 => ((control_Number.f a1_3).bind fun t134 => (some (([(⟨(⟨#[115, 114, 99, 97, 100, 114]⟩ : ByteArray), t125⟩ : S51), (⟨(⟨#[107, 105, 110, 100]⟩ : ByteArray), t126⟩ : S51), (⟨(⟨#[115, 116, 114, 97, 116, 117, 109]⟩ : ByteArray), t127⟩ : S51), (⟨(⟨#[114, 101, 97, 99, 104]⟩ : ByteArray), t128⟩ : S51), (⟨(⟨#[104, 112, 111, 108, 108]⟩ : ByteArray), t129⟩ : S51), (⟨(⟨#[107, 101, 121]⟩ : ByteArray), t130⟩ : S51), (⟨(⟨#[111, 102, 102, 115, 101, 116]⟩ : ByteArray), t131⟩ : S51), (⟨(⟨#[100, 101, 108, 97, 121]⟩ : ByteArray), t132⟩ : S51), (⟨(⟨#[100, 105, 115, 112, 101, 114, 115, 105, 111, 110]⟩ : ByteArray), t133⟩ : S51), (⟨(⟨#[106, 105, 116, 116, 101, 114]⟩ : ByteArray), t134⟩ : S51)] : List (S51))))))))))) = some r := H
  have A7 := Aside0.mk A70
  clear A70
  replace H := Option.bind_eq_some_iff.mp H
  obtain ⟨t128, A80, H⟩ := H
  replace H : ((control_Number.f a0_3).bind fun t129 => ((control_Number.f a0_2).bind fun t130 => ((control_Number.f a1_0).bind fun t131 => ((control_Number.f a1_1).bind fun t132 => ((control_Number.f a1_2).bind fun t133 => ((control_Number.f a1_3).bind fun t134 => (some (([(⟨(⟨#[115, 114, 99, 97, 100, 114]⟩ : ByteArray), t125⟩ : S51), (⟨(⟨#[107, 105, 110, 100]⟩ : ByteArray), t126⟩ : S51), (⟨(⟨#[115, 116, 114, 97, 116, 117, 109]⟩ : ByteArray), t127⟩ : S51), (⟨(⟨#[114, 101, 97, 99, 104]⟩ : ByteArray), t128⟩ : S51), (⟨(⟨#[104, 112, 111, 108, 108]⟩ : ByteArray), t129⟩ : S51), (⟨(⟨#[107, 101, 121]⟩ : ByteArray), t130⟩ : S51), (⟨(⟨#[111, 102, 102, 115, 101, 116]⟩ : ByteArray), t131⟩ : S51), (⟨(⟨#[100, 101, 108, 97, 121]⟩ : ByteArray), t132⟩ : S51), (⟨(⟨#[100, 105, 115, 112, 101, 114, 115, 105, 111, 110]⟩ : ByteArray), t133⟩ : S51), (⟨(⟨#[106, 105, 116, 116, 101, 114]⟩ : ByteArray), t134⟩ : S51)] : List (S51)))))))))) = some r := H
  have A8 := Aside0.mk A80
  clear A80
  replace H := Option.bind_eq_some_iff.mp H
  obtain ⟨t129, A90, H⟩ := H
  replace H : ((control_Number.f a0_2).bind fun t130 => ((control_Number.f a1_0).bind fun t131 => ((control_Number.f a1_1).bind fun t132 => ((control_Number.f a1_2).bind fun t133 => ((control_Number.f a1_3).bind fun t134 => (some (([(⟨(⟨#[115, 114, 99, 97, 100, 114]⟩ : ByteArray), t125⟩ : S51), (⟨(⟨#[107, 105, 110, 100]⟩ : ByteArray), t126⟩ : S51), (⟨(⟨#[115, 116, 114, 97, 116, 117, 109]⟩ : ByteArray), t127⟩ : S51), (⟨(⟨#[114, 101, 97, 99, 104]⟩ : ByteArray), t128⟩ : S51), (⟨(⟨#[104, 112, 111, 108, 108]⟩ : ByteArray), t129⟩ : S51), (⟨(⟨#[107, 101, 121]⟩ : ByteArray), t130⟩ : S51), (⟨(⟨#[111, 102, 102, 115, 101, 116]⟩ : ByteArray), t131⟩ : S51), (⟨(⟨#[100, 101, 108, 97, 121]⟩ : ByteArray), t132⟩ : S51), (⟨(⟨#[100, 105, 115, 112, 101, 114, 115, 105, 111, 110]⟩ : ByteArray), t133⟩ : S51), (⟨(⟨#[106, 105, 116, 116, 101, 114]⟩ : ByteArray), t134⟩ : S51)] : List (S51))))))))) = some r := H
  have A9 := Aside0.mk A90
  clear A90
  replace H := Option.bind_eq_some_iff.mp H
  obtain ⟨t130, A100, H⟩ := H
  replace H : ((control_Number.f a1_0).bind fun t131 => ((control_Number.f a1_1).bind fun t132 => ((control_Number.f a1_2).bind fun t133 => ((control_Number.f a1_3).bind fun t134 => (some (([(⟨(⟨#[115, 114, 99, 97, 100, 114]⟩ : ByteArray), t125⟩ : S51), (⟨(⟨#[107, 105, 110, 100]⟩ : ByteArray), t126⟩ : S51), (⟨(⟨#[115, 116, 114, 97, 116, 117, 109]⟩ : ByteArray), t127⟩ : S51), (⟨(⟨#[114, 101, 97, 99, 104]⟩ : ByteArray), t128⟩ : S51), (⟨(⟨#[104, 112, 111, 108, 108]⟩ : ByteArray), t129⟩ : S51), (⟨(⟨#[107, 101, 121]⟩ : ByteArray), t130⟩ : S51), (⟨(⟨#[111, 102, 102, 115, 101, 116]⟩ : ByteArray), t131⟩ : S51), (⟨(⟨#[100, 101, 108, 97, 121]⟩ : ByteArray), t132⟩ : S51), (⟨(⟨#[100, 105, 115, 112, 101, 114, 115, 105, 111, 110]⟩ : ByteArray), t133⟩ : S51), (⟨(⟨#[106, 105, 116, 116, 101, 114]⟩ : ByteArray), t134⟩ : S51)] : List (S51)))))))) = some r := H
  have A10 := Aside0.mk A100
  clear A100
  replace H := Option.bind_eq_some_iff.mp H
  obtain ⟨t131, A110, H⟩ := H
  replace H : ((control_Number.f a1_1).bind fun t132 => ((control_Number.f a1_2).bind fun t133 => ((control_Number.f a1_3).bind fun t134 => (some (([(⟨(⟨#[115, 114, 99, 97, 100, 114]⟩ : ByteArray), t125⟩ : S51), (⟨(⟨#[107, 105, 110, 100]⟩ : ByteArray), t126⟩ : S51), (⟨(⟨#[115, 116, 114, 97, 116, 117, 109]⟩ : ByteArray), t127⟩ : S51), (⟨(⟨#[114, 101, 97, 99, 104]⟩ : ByteArray), t128⟩ : S51), (⟨(⟨#[104, 112, 111, 108, 108]⟩ : ByteArray), t129⟩ : S51), (⟨(⟨#[107, 101, 121]⟩ : ByteArray), t130⟩ : S51), (⟨(⟨#[111, 102, 102, 115, 101, 116]⟩ : ByteArray), t131⟩ : S51), (⟨(⟨#[100, 101, 108, 97, 121]⟩ : ByteArray), t132⟩ : S51), (⟨(⟨#[100, 105, 115, 112, 101, 114, 115, 105, 111, 110]⟩ : ByteArray), t133⟩ : S51), (⟨(⟨#[106, 105, 116, 116, 101, 114]⟩ : ByteArray), t134⟩ : S51)] : List (S51))))))) = some r := H
  have A11 := Aside0.mk A110
  clear A110
  replace H := Option.bind_eq_some_iff.mp H
  obtain ⟨t132, A120, H⟩ := H
  replace H : ((control_Number.f a1_2).bind fun t133 => ((control_Number.f a1_3).bind fun t134 => (some (([(⟨(⟨#[115, 114, 99, 97, 100, 114]⟩ : ByteArray), t125⟩ : S51), (⟨(⟨#[107, 105, 110, 100]⟩ : ByteArray), t126⟩ : S51), (⟨(⟨#[115, 116, 114, 97, 116, 117, 109]⟩ : ByteArray), t127⟩ : S51), (⟨(⟨#[114, 101, 97, 99, 104]⟩ : ByteArray), t128⟩ : S51), (⟨(⟨#[104, 112, 111, 108, 108]⟩ : ByteArray), t129⟩ : S51), (⟨(⟨#[107, 101, 121]⟩ : ByteArray), t130⟩ : S51), (⟨(⟨#[111, 102, 102, 115, 101, 116]⟩ : ByteArray), t131⟩ : S51), (⟨(⟨#[100, 101, 108, 97, 121]⟩ : ByteArray), t132⟩ : S51), (⟨(⟨#[100, 105, 115, 112, 101, 114, 115, 105, 111, 110]⟩ : ByteArray), t133⟩ : S51), (⟨(⟨#[106, 105, 116, 116, 101, 114]⟩ : ByteArray), t134⟩ : S51)] : List (S51)))))) = some r := H
  have A12 := Aside0.mk A120
  clear A120
  replace H := Option.bind_eq_some_iff.mp H
  obtain ⟨t133, A130, H⟩ := H
  replace H : ((control_Number.f a1_3).bind fun t134 => (some (([(⟨(⟨#[115, 114, 99, 97, 100, 114]⟩ : ByteArray), t125⟩ : S51), (⟨(⟨#[107, 105, 110, 100]⟩ : ByteArray), t126⟩ : S51), (⟨(⟨#[115, 116, 114, 97, 116, 117, 109]⟩ : ByteArray), t127⟩ : S51), (⟨(⟨#[114, 101, 97, 99, 104]⟩ : ByteArray), t128⟩ : S51), (⟨(⟨#[104, 112, 111, 108, 108]⟩ : ByteArray), t129⟩ : S51), (⟨(⟨#[107, 101, 121]⟩ : ByteArray), t130⟩ : S51), (⟨(⟨#[111, 102, 102, 115, 101, 116]⟩ : ByteArray), t131⟩ : S51), (⟨(⟨#[100, 101, 108, 97, 121]⟩ : ByteArray), t132⟩ : S51), (⟨(⟨#[100, 105, 115, 112, 101, 114, 115, 105, 111, 110]⟩ : ByteArray), t133⟩ : S51), (⟨(⟨#[106, 105, 116, 116, 101, 114]⟩ : ByteArray), t134⟩ : S51)] : List (S51))))) = some r := H
  have A13 := Aside0.mk A130
  clear A130
  replace H := Option.bind_eq_some_iff.mp H
  obtain ⟨t134, A140, H⟩ := H
  replace H : (some (([(⟨(⟨#[115, 114, 99, 97, 100, 114]⟩ : ByteArray), t125⟩ : S51), (⟨(⟨#[107, 105, 110, 100]⟩ : ByteArray), t126⟩ : S51), (⟨(⟨#[115, 116, 114, 97, 116, 117, 109]⟩ : ByteArray), t127⟩ : S51), (⟨(⟨#[114, 101, 97, 99, 104]⟩ : ByteArray), t128⟩ : S51), (⟨(⟨#[104, 112, 111, 108, 108]⟩ : ByteArray), t129⟩ : S51), (⟨(⟨#[107, 101, 121]⟩ : ByteArray), t130⟩ : S51), (⟨(⟨#[111, 102, 102, 115, 101, 116]⟩ : ByteArray), t131⟩ : S51), (⟨(⟨#[100, 101, 108, 97, 121]⟩ : ByteArray), t132⟩ : S51), (⟨(⟨#[100, 105, 115, 112, 101, 114, 115, 105, 111, 110]⟩ : ByteArray), t133⟩ : S51), (⟨(⟨#[106, 105, 116, 116, 101, 114]⟩ : ByteArray), t134⟩ : S51)] : List (S51)))) = some r := H
  have A14 := Aside0.mk A140
  clear A140
  obtain ⟨y135, hy135⟩ : ∃ y_ : List (S51), y_ = (([(⟨(⟨#[115, 114, 99, 97, 100, 114]⟩ : ByteArray), t125⟩ : S51), (⟨(⟨#[107, 105, 110, 100]⟩ : ByteArray), t126⟩ : S51), (⟨(⟨#[115, 116, 114, 97, 116, 117, 109]⟩ : ByteArray), t127⟩ : S51), (⟨(⟨#[114, 101, 97, 99, 104]⟩ : ByteArray), t128⟩ : S51), (⟨(⟨#[104, 112, 111, 108, 108]⟩ : ByteArray), t129⟩ : S51), (⟨(⟨#[107, 101, 121]⟩ : ByteArray), t130⟩ : S51), (⟨(⟨#[111, 102, 102, 115, 101, 116]⟩ : ByteArray), t131⟩ : S51), (⟨(⟨#[100, 101, 108, 97, 121]⟩ : ByteArray), t132⟩ : S51), (⟨(⟨#[100, 105, 115, 112, 101, 114, 115, 105, 111, 110]⟩ : ByteArray), t133⟩ : S51), (⟨(⟨#[106, 105, 116, 116, 101, 114]⟩ : ByteArray), t134⟩ : S51)] : List (S51))) := ⟨_, rfl⟩
  replace H : (some y135) = some r := by first | (rw [hy135]; with_reducible exact H) | (have H2_ := (Option.bind_some _ _).symm.trans H; rw [hy135]; with_reducible exact H2_) | (have H2_ := (Option.bind_some _ _).symm.trans H; with_reducible exact H2_) | with_reducible exact H | (rw [hy135]; exact H) | exact H
  have Ny135 := Aside0.mk hy135
  clear hy135
  obtain rfl := Option.some.inj H
  go_enter Tryd.func5, Tryd.ntmps5
  try go_wp2_with (first | ((with_reducible refine gate_dst (N := 4) rfl ?_); refine box_event ?hg (N := 4) ?hd (cs := #[.int .i64 a0_0, .int .u32 a0_1, .int .i64 a0_2, .int .i64 a0_3, .int .i64 a0_4, .bool a0_5, .bool a0_6, .bool a0_7, .int .i64 a0_8, .bool a0_9, .int .i64 a0_10, .int .i64 a0_11]) (t := 30) ?hr ?_; (case hd => rfl); (case hg => rfl); (case hr => first | (go_simp; done) | (go_simp; rfl)); intro gb123 hg w15 hbox hb; have n0_ := Aside0.mk (below_step (by repeat (first | (with_reducible first | exact HB.out | apply below_alloc | apply pw_below_drewN | apply below_drew1) | exact HB.out)) hb); have n1_ := Aside0.mk (hbox); have n2_ := Aside0.mk ((by rw [hg]; exact (below_size (by repeat (first | (with_reducible first | exact HB.out | apply below_alloc | apply pw_below_drewN | apply below_drew1) | exact HB.out))) : w.heap.size ≤ gb123)); have n3_ := Aside0.mk ((by rw [hg]; exact (below_size (by repeat (first | (with_reducible first | exact HB.out | apply below_alloc | apply pw_below_drewN | apply below_drew1) | exact HB.out))) : w.heap.size ≤ gb123)); clear HB; have HB := n0_; have BK123 := n1_; have GW123 := n2_; have GE123 := n3_; clear n0_ n1_ n2_ n3_; clear hb hbox hg) | ((with_reducible refine gate_dst (N := 5) rfl ?_); refine box_event ?hg (N := 5) ?hd (cs := #[.int .i64 a1_0, .int .i64 a1_1, .int .i64 a1_2, .int .i64 a1_3, .int .u64 a1_4, .bool a1_5]) (t := 32) ?hr ?_; (case hd => rfl); (case hg => rfl); (case hr => first | (go_simp; done) | (go_simp; rfl)); intro gb124 hg w16 hbox hb; have n0_ := Aside0.mk (blk_below (g := gb123) (o := .cells #[.int .i64 a0_0, .int .u32 a0_1, .int .i64 a0_2, .int .i64 a0_3, .int .i64 a0_4, .bool a0_5, .bool a0_6, .bool a0_7, .int .i64 a0_8, .bool a0_9, .int .i64 a0_10, .int .i64 a0_11] 30 (0, 0)) (by (with_reducible repeat (first | refine blk_drewN ?_ _ | refine blk_drew ?_ | refine blk_alloc ?_ _)); exact BK123.out) hb); have n1_ := Aside0.mk (below_step (by repeat (first | (with_reducible first | exact HB.out | apply below_alloc | apply pw_below_drewN | apply below_drew1 | refine below_set ?_ GE123.out) | exact HB.out)) hb); have n2_ := Aside0.mk (hbox); have n3_ := Aside0.mk ((by rw [hg]; exact (below_size (by repeat (first | (with_reducible first | exact HB.out | apply below_alloc | apply pw_below_drewN | apply below_drew1 | refine below_set ?_ GE123.out) | exact HB.out))) : w.heap.size ≤ gb124)); have n4_ := Aside0.mk ((by rw [hg]; exact (below_size (by repeat (first | (with_reducible first | exact HB.out | apply below_alloc | apply pw_below_drewN | apply below_drew1 | refine below_set ?_ GE123.out) | exact HB.out))) : w.heap.size ≤ gb124)); have n5_ := Aside0.mk ((by rw [hg]; exact Nat.ne_of_lt (blk_lt (g := gb123) (o := .cells #[.int .i64 a0_0, .int .u32 a0_1, .int .i64 a0_2, .int .i64 a0_3, .int .i64 a0_4, .bool a0_5, .bool a0_6, .bool a0_7, .int .i64 a0_8, .bool a0_9, .int .i64 a0_10, .int .i64 a0_11] 30 (0, 0)) (by (with_reducible repeat (first | refine blk_drewN ?_ _ | refine blk_drew ?_ | refine blk_alloc ?_ _)); exact BK123.out)) : gb123 ≠ gb124)); have n6_ := Aside0.mk ((by rw [hg]; exact Nat.ne_of_gt (blk_lt (g := gb123) (o := .cells #[.int .i64 a0_0, .int .u32 a0_1, .int .i64 a0_2, .int .i64 a0_3, .int .i64 a0_4, .bool a0_5, .bool a0_6, .bool a0_7, .int .i64 a0_8, .bool a0_9, .int .i64 a0_10, .int .i64 a0_11] 30 (0, 0)) (by (with_reducible repeat (first | refine blk_drewN ?_ _ | refine blk_drew ?_ | refine blk_alloc ?_ _)); exact BK123.out)) : gb124 ≠ gb123)); clear BK123; clear HB; have BK123 := n0_; have HB := n1_; have BK124 := n2_; have GW124 := n3_; have GE124 := n4_; have NB123_124 := n5_; have NB124_123 := n6_; clear n0_ n1_ n2_ n3_ n4_ n5_ n6_; clear hb hbox hg))
  have n0_ := Aside0.mk (blk_drew BK123.out)
  have n1_ := Aside0.mk (blk_drew BK124.out)
  have n2_ := Aside0.mk (below_drew1 HB.out)
  clear BK123
  clear BK124
  clear HB
  have BK123 := n0_
  have BK124 := n1_
  have HB := n2_
  clear n0_ n1_ n2_
  refine start_ (n := 40) (S := fun w' => w'.cell? ⟨gb123, 0, none⟩ = some (.int .i64 a0_0) ∧ w'.cell? ⟨gb123, 1, none⟩ = some (.int .u32 a0_1) ∧ w'.cell? ⟨gb123, 2, none⟩ = some (.int .i64 a0_2) ∧ w'.cell? ⟨gb123, 3, none⟩ = some (.int .i64 a0_3) ∧ w'.cell? ⟨gb123, 4, none⟩ = some (.int .i64 a0_4) ∧ w'.cell? ⟨gb123, 5, none⟩ = some (.bool a0_5) ∧ w'.cell? ⟨gb123, 6, none⟩ = some (.bool a0_6) ∧ w'.cell? ⟨gb123, 7, none⟩ = some (.bool a0_7) ∧ w'.cell? ⟨gb123, 8, none⟩ = some (.int .i64 a0_8) ∧ w'.cell? ⟨gb123, 9, none⟩ = some (.bool a0_9) ∧ w'.cell? ⟨gb123, 10, none⟩ = some (.int .i64 a0_10) ∧ w'.cell? ⟨gb123, 11, none⟩ = some (.int .i64 a0_11) ∧ w'.cell? ⟨gb124, 0, none⟩ = some (.int .i64 a1_0) ∧ w'.cell? ⟨gb124, 1, none⟩ = some (.int .i64 a1_1) ∧ w'.cell? ⟨gb124, 2, none⟩ = some (.int .i64 a1_2) ∧ w'.cell? ⟨gb124, 3, none⟩ = some (.int .i64 a1_3) ∧ w'.cell? ⟨gb124, 4, none⟩ = some (.int .u64 a1_4) ∧ w'.cell? ⟨gb124, 5, none⟩ = some (.bool a1_5)) (ds := []) #[false, false, false, false, false, false, false, false, false, false, false, false, false, false, false, false, false, false, false, false, false, false, false, false, false, false, false, false, false, false, false, false, false, false, false, false, false, false, false, false] (by kernel_rfl) rfl rfl ⟨(blk_cell BK123.out 0).trans rfl, (blk_cell BK123.out 1).trans rfl, (blk_cell BK123.out 2).trans rfl, (blk_cell BK123.out 3).trans rfl, (blk_cell BK123.out 4).trans rfl, (blk_cell BK123.out 5).trans rfl, (blk_cell BK123.out 6).trans rfl, (blk_cell BK123.out 7).trans rfl, (blk_cell BK123.out 8).trans rfl, (blk_cell BK123.out 9).trans rfl, (blk_cell BK123.out 10).trans rfl, (blk_cell BK123.out 11).trans rfl, (blk_cell BK124.out 0).trans rfl, (blk_cell BK124.out 1).trans rfl, (blk_cell BK124.out 2).trans rfl, (blk_cell BK124.out 3).trans rfl, (blk_cell BK124.out 4).trans rfl, (blk_cell BK124.out 5).trans rfl⟩ (fun hHeld => ?_); refine with_tabW control_PeerVars.tab1 control_PeerVars.bits1 (fun HT_ HW_ => ?_)
  generalize w16.drew = w17 at BK123 BK124 HB hHeld ⊢
  refine pure_ (i := 0) (N := some 9) (v := ?_) (a' := ?_) #[true, false, false, false, false, false, false, false, false, false, false, false, false, false, false, false, false, false, false, false, false, false, false, false, false, false, false, false, false, false, false, false, false, false, false, false, false, false, false, false] rfl rfl (any_of HT_.out (by kernel_rfl)) (fun _ _ _ h => h) (Or.inl ⟨by rfl, ?_⟩) ?_ ?_
  rotate_left
  · intro w'
    go_simp
    with_reducible rfl
  rotate_left
  · simp only [Act.put, List.setIfInBounds_toArray, List.set_cons_zero, List.set_cons_succ, i64_w, i32_w]
    rfl
  refine pure_ (i := 4) (N := some 13) (v := ?_) (a' := ?_) #[true, false, false, false, true, false, false, false, false, false, false, false, false, false, false, false, false, false, false, false, false, false, false, false, false, false, false, false, false, false, false, false, false, false, false, false, false, false, false, false] rfl rfl (any_of HT_.out (by kernel_rfl)) (fun _ _ _ h => h) (Or.inl ⟨by rfl, ?_⟩) ?_ ?_
  rotate_left
  · intro w'
    go_simp
    with_reducible rfl
  rotate_left
  · simp only [Act.put, List.setIfInBounds_toArray, List.set_cons_zero, List.set_cons_succ, i64_w, i32_w]
    rfl
  refine pure_ (i := 8) (N := some 17) (v := ?_) (a' := ?_) #[true, false, false, false, true, false, false, false, true, false, false, false, false, false, false, false, false, false, false, false, false, false, false, false, false, false, false, false, false, false, false, false, false, false, false, false, false, false, false, false] rfl rfl (any_of HT_.out (by kernel_rfl)) (fun _ _ _ h => h) (Or.inl ⟨by rfl, ?_⟩) ?_ ?_
  rotate_left
  · intro w'
    go_simp
    with_reducible rfl
  rotate_left
  · simp only [Act.put, List.setIfInBounds_toArray, List.set_cons_zero, List.set_cons_succ, i64_w, i32_w]
    rfl
  refine pure_ (i := 11) (N := some 20) (v := ?_) (a' := ?_) #[true, false, false, false, true, false, false, false, true, false, false, true, false, false, false, false, false, false, false, false, false, false, false, false, false, false, false, false, false, false, false, false, false, false, false, false, false, false, false, false] rfl rfl (any_of HT_.out (by kernel_rfl)) (fun _ _ _ h => h) (Or.inl ⟨by rfl, ?_⟩) ?_ ?_
  rotate_left
  · intro w'
    go_simp
    with_reducible rfl
  rotate_left
  · simp only [Act.put, List.setIfInBounds_toArray, List.set_cons_zero, List.set_cons_succ, i64_w, i32_w]
    rfl
  refine pure_ (i := 14) (N := some 23) (v := ?_) (a' := ?_) #[true, false, false, false, true, false, false, false, true, false, false, true, false, false, true, false, false, false, false, false, false, false, false, false, false, false, false, false, false, false, false, false, false, false, false, false, false, false, false, false] rfl rfl (any_of HT_.out (by kernel_rfl)) (fun _ _ _ h => h) (Or.inl ⟨by rfl, ?_⟩) ?_ ?_
  rotate_left
  · intro w'
    go_simp
    with_reducible rfl
  rotate_left
  · simp only [Act.put, List.setIfInBounds_toArray, List.set_cons_zero, List.set_cons_succ, i64_w, i32_w]
    rfl
  refine pure_ (i := 18) (N := some 27) (v := ?_) (a' := ?_) #[true, false, false, false, true, false, false, false, true, false, false, true, false, false, true, false, false, false, true, false, false, false, false, false, false, false, false, false, false, false, false, false, false, false, false, false, false, false, false, false] rfl rfl (any_of HT_.out (by kernel_rfl)) (fun _ _ _ h => h) (Or.inl ⟨by rfl, ?_⟩) ?_ ?_
  rotate_left
  · intro w'
    go_simp
    with_reducible rfl
  rotate_left
  · simp only [Act.put, List.setIfInBounds_toArray, List.set_cons_zero, List.set_cons_succ, i64_w, i32_w]
    rfl
  refine pure_ (i := 22) (N := some 31) (v := ?_) (a' := ?_) #[true, false, false, false, true, false, false, false, true, false, false, true, false, false, true, false, false, false, true, false, false, false, true, false, false, false, false, false, false, false, false, false, false, false, false, false, false, false, false, false] rfl rfl (any_of HT_.out (by kernel_rfl)) (fun _ _ _ h => h) (Or.inl ⟨by rfl, ?_⟩) ?_ ?_
  rotate_left
  · intro w'
    go_simp
    with_reducible rfl
  rotate_left
  · simp only [Act.put, List.setIfInBounds_toArray, List.set_cons_zero, List.set_cons_succ, i64_w, i32_w]
    rfl
  refine pure_ (i := 26) (N := some 35) (v := ?_) (a' := ?_) #[true, false, false, false, true, false, false, false, true, false, false, true, false, false, true, false, false, false, true, false, false, false, true, false, false, false, true, false, false, false, false, false, false, false, false, false, false, false, false, false] rfl rfl (any_of HT_.out (by kernel_rfl)) (fun _ _ _ h => h) (Or.inl ⟨by rfl, ?_⟩) ?_ ?_
  rotate_left
  · intro w'
    go_simp
    with_reducible rfl
  rotate_left
  · simp only [Act.put, List.setIfInBounds_toArray, List.set_cons_zero, List.set_cons_succ, i64_w, i32_w]
    rfl
  refine pure_ (i := 30) (N := some 39) (v := ?_) (a' := ?_) #[true, false, false, false, true, false, false, false, true, false, false, true, false, false, true, false, false, false, true, false, false, false, true, false, false, false, true, false, false, false, true, false, false, false, false, false, false, false, false, false] rfl rfl (any_of HT_.out (by kernel_rfl)) (fun _ _ _ h => h) (Or.inl ⟨by rfl, ?_⟩) ?_ ?_
  rotate_left
  · intro w'
    go_simp
    with_reducible rfl
  rotate_left
  · simp only [Act.put, List.setIfInBounds_toArray, List.set_cons_zero, List.set_cons_succ, i64_w, i32_w]
    rfl
  refine pure_ (i := 34) (N := some 43) (v := ?_) (a' := ?_) #[true, false, false, false, true, false, false, false, true, false, false, true, false, false, true, false, false, false, true, false, false, false, true, false, false, false, true, false, false, false, true, false, false, false, true, false, false, false, false, false] rfl rfl (any_of HT_.out (by kernel_rfl)) (fun _ _ _ h => h) (Or.inl ⟨by rfl, ?_⟩) ?_ ?_
  rotate_left
  · intro w'
    go_simp
    with_reducible rfl
  rotate_left
  · simp only [Act.put, List.setIfInBounds_toArray, List.set_cons_zero, List.set_cons_succ, i64_w, i32_w]
    rfl
  refine take_ (i := 1) (N := some 10) (v := ?_) (a' := ?_) #[true, true, false, false, true, false, false, false, true, false, false, true, false, false, true, false, false, false, true, false, false, false, true, false, false, false, true, false, false, false, true, false, false, false, true, false, false, false, false, false] rfl rfl (take_ofW HT_.out HW_.out (by kernel_rfl)) (fun _ _ _ h => h) (Or.inl ⟨by rfl, ?_⟩) hHeld ?_ ?_
  rotate_left
  · rintro w' ⟨s0, s1, s2, s3, s4, s5, s6, s7, s8, s9, s10, s11, s12, s13, s14, s15, s16, s17⟩
    go_simp
    with_reducible rfl
  rotate_left
  · simp only [Act.put, List.setIfInBounds_toArray, List.set_cons_zero, List.set_cons_succ, i64_w, i32_w]
    rfl
  refine take_ (i := 5) (N := some 14) (v := ?_) (a' := ?_) #[true, true, false, false, true, true, false, false, true, false, false, true, false, false, true, false, false, false, true, false, false, false, true, false, false, false, true, false, false, false, true, false, false, false, true, false, false, false, false, false] rfl rfl (take_ofW HT_.out HW_.out (by kernel_rfl)) (fun _ _ _ h => h) (Or.inl ⟨by rfl, ?_⟩) hHeld ?_ ?_
  rotate_left
  · rintro w' ⟨s0, s1, s2, s3, s4, s5, s6, s7, s8, s9, s10, s11, s12, s13, s14, s15, s16, s17⟩
    go_simp
    with_reducible rfl
  rotate_left
  · simp only [Act.put, List.setIfInBounds_toArray, List.set_cons_zero, List.set_cons_succ, i64_w, i32_w]
    rfl
  refine take_ (i := 15) (N := some 24) (v := ?_) (a' := ?_) #[true, true, false, false, true, true, false, false, true, false, false, true, false, false, true, true, false, false, true, false, false, false, true, false, false, false, true, false, false, false, true, false, false, false, true, false, false, false, false, false] rfl rfl (take_ofW HT_.out HW_.out (by kernel_rfl)) (fun _ _ _ h => h) (Or.inl ⟨by rfl, ?_⟩) hHeld ?_ ?_
  rotate_left
  · rintro w' ⟨s0, s1, s2, s3, s4, s5, s6, s7, s8, s9, s10, s11, s12, s13, s14, s15, s16, s17⟩
    go_simp
    with_reducible rfl
  rotate_left
  · simp only [Act.put, List.setIfInBounds_toArray, List.set_cons_zero, List.set_cons_succ, i64_w, i32_w]
    rfl
  refine take_ (i := 19) (N := some 28) (v := ?_) (a' := ?_) #[true, true, false, false, true, true, false, false, true, false, false, true, false, false, true, true, false, false, true, true, false, false, true, false, false, false, true, false, false, false, true, false, false, false, true, false, false, false, false, false] rfl rfl (take_ofW HT_.out HW_.out (by kernel_rfl)) (fun _ _ _ h => h) (Or.inl ⟨by rfl, ?_⟩) hHeld ?_ ?_
  rotate_left
  · rintro w' ⟨s0, s1, s2, s3, s4, s5, s6, s7, s8, s9, s10, s11, s12, s13, s14, s15, s16, s17⟩
    go_simp
    with_reducible rfl
  rotate_left
  · simp only [Act.put, List.setIfInBounds_toArray, List.set_cons_zero, List.set_cons_succ, i64_w, i32_w]
    rfl
  refine take_ (i := 23) (N := some 32) (v := ?_) (a' := ?_) #[true, true, false, false, true, true, false, false, true, false, false, true, false, false, true, true, false, false, true, true, false, false, true, true, false, false, true, false, false, false, true, false, false, false, true, false, false, false, false, false] rfl rfl (take_ofW HT_.out HW_.out (by kernel_rfl)) (fun _ _ _ h => h) (Or.inl ⟨by rfl, ?_⟩) hHeld ?_ ?_
  rotate_left
  · rintro w' ⟨s0, s1, s2, s3, s4, s5, s6, s7, s8, s9, s10, s11, s12, s13, s14, s15, s16, s17⟩
    go_simp
    with_reducible rfl
  rotate_left
  · simp only [Act.put, List.setIfInBounds_toArray, List.set_cons_zero, List.set_cons_succ, i64_w, i32_w]
    rfl
  refine take_ (i := 27) (N := some 36) (v := ?_) (a' := ?_) #[true, true, false, false, true, true, false, false, true, false, false, true, false, false, true, true, false, false, true, true, false, false, true, true, false, false, true, true, false, false, true, false, false, false, true, false, false, false, false, false] rfl rfl (take_ofW HT_.out HW_.out (by kernel_rfl)) (fun _ _ _ h => h) (Or.inl ⟨by rfl, ?_⟩) hHeld ?_ ?_
  rotate_left
  · rintro w' ⟨s0, s1, s2, s3, s4, s5, s6, s7, s8, s9, s10, s11, s12, s13, s14, s15, s16, s17⟩
    go_simp
    with_reducible rfl
  rotate_left
  · simp only [Act.put, List.setIfInBounds_toArray, List.set_cons_zero, List.set_cons_succ, i64_w, i32_w]
    rfl
  refine take_ (i := 31) (N := some 40) (v := ?_) (a' := ?_) #[true, true, false, false, true, true, false, false, true, false, false, true, false, false, true, true, false, false, true, true, false, false, true, true, false, false, true, true, false, false, true, true, false, false, true, false, false, false, false, false] rfl rfl (take_ofW HT_.out HW_.out (by kernel_rfl)) (fun _ _ _ h => h) (Or.inl ⟨by rfl, ?_⟩) hHeld ?_ ?_
  rotate_left
  · rintro w' ⟨s0, s1, s2, s3, s4, s5, s6, s7, s8, s9, s10, s11, s12, s13, s14, s15, s16, s17⟩
    go_simp
    with_reducible rfl
  rotate_left
  · simp only [Act.put, List.setIfInBounds_toArray, List.set_cons_zero, List.set_cons_succ, i64_w, i32_w]
    rfl
  refine take_ (i := 35) (N := some 44) (v := ?_) (a' := ?_) #[true, true, false, false, true, true, false, false, true, false, false, true, false, false, true, true, false, false, true, true, false, false, true, true, false, false, true, true, false, false, true, true, false, false, true, true, false, false, false, false] rfl rfl (take_ofW HT_.out HW_.out (by kernel_rfl)) (fun _ _ _ h => h) (Or.inl ⟨by rfl, ?_⟩) hHeld ?_ ?_
  rotate_left
  · rintro w' ⟨s0, s1, s2, s3, s4, s5, s6, s7, s8, s9, s10, s11, s12, s13, s14, s15, s16, s17⟩
    go_simp
    with_reducible rfl
  rotate_left
  · simp only [Act.put, List.setIfInBounds_toArray, List.set_cons_zero, List.set_cons_succ, i64_w, i32_w]
    rfl
  refine one_ (i := 2) (N := some 11) #[true, true, true, false, true, true, false, false, true, false, false, true, false, false, true, true, false, false, true, true, false, false, true, true, false, false, true, true, false, false, true, true, false, false, true, true, false, false, false, false] rfl rfl (one_of HT_.out (by kernel_rfl)) (by decide) (fun K hK => ?_)
  refine goes_ Tryd.func17 (by kernel_rfl) rfl #[.int .u32 a0_1] (by rfl) rfl rfl (by (try simp only [List.map_toArray, List.map_cons, List.map_nil]); first | done | rfl | (simp only [List.length_drop, List.length_take]; rfl)) ?_
  with_reducible refine (conf_PrintAddr.calls k a0_1 t125 _ ?side1 A5.out).mono ?_
  (case side1 => exact GWorld.below hG (by repeat (first | (with_reducible first | exact HB.out | apply below_alloc | apply pw_below_drewN | apply below_drew1 | refine below_set ?_ GE123.out | refine below_set ?_ GE124.out) | exact HB.out)))
  rintro e w18 ⟨rfl, hb⟩
  refine ⟨_, rfl, ?_⟩
  have n0_ := Aside0.mk (blk_below (g := gb123) (o := .cells #[.int .i64 a0_0, .int .u32 a0_1, .int .i64 a0_2, .int .i64 a0_3, .int .i64 a0_4, .bool a0_5, .bool a0_6, .bool a0_7, .int .i64 a0_8, .bool a0_9, .int .i64 a0_10, .int .i64 a0_11] 30 (0, 0)) (by (with_reducible repeat (first | refine blk_drewN ?_ _ | refine blk_drew ?_ | refine blk_alloc ?_ _)); exact BK123.out) hb)
  have n1_ := Aside0.mk (blk_below (g := gb124) (o := .cells #[.int .i64 a1_0, .int .i64 a1_1, .int .i64 a1_2, .int .i64 a1_3, .int .u64 a1_4, .bool a1_5] 32 (0, 0)) (by (with_reducible repeat (first | refine blk_drewN ?_ _ | refine blk_drew ?_ | refine blk_alloc ?_ _)); exact BK124.out) hb)
  have n2_ := Aside0.mk (below_step (by repeat (first | (with_reducible first | exact HB.out | apply below_alloc | apply pw_below_drewN | apply below_drew1 | refine below_set ?_ GE123.out | refine below_set ?_ GE124.out) | exact HB.out)) hb)
  clear BK123
  clear BK124
  clear HB
  have BK123 := n0_
  have BK124 := n1_
  have HB := n2_
  clear n0_ n1_ n2_
  (try clear hb)
  (try clear hb2)
  (try clear hk)
  (try clear hi)
  refine hK.out _ _ ⟨(blk_cell BK123.out 0).trans rfl, (blk_cell BK123.out 1).trans rfl, (blk_cell BK123.out 2).trans rfl, (blk_cell BK123.out 3).trans rfl, (blk_cell BK123.out 4).trans rfl, (blk_cell BK123.out 5).trans rfl, (blk_cell BK123.out 6).trans rfl, (blk_cell BK123.out 7).trans rfl, (blk_cell BK123.out 8).trans rfl, (blk_cell BK123.out 9).trans rfl, (blk_cell BK123.out 10).trans rfl, (blk_cell BK123.out 11).trans rfl, (blk_cell BK124.out 0).trans rfl, (blk_cell BK124.out 1).trans rfl, (blk_cell BK124.out 2).trans rfl, (blk_cell BK124.out 3).trans rfl, (blk_cell BK124.out 4).trans rfl, (blk_cell BK124.out 5).trans rfl⟩ (fun hHeld => ?_)
  clear hK K
  refine norm_ (a' := ?_) ?_ ?_
  rotate_left
  · show Act.put _ (some 11) _ = _
    simp only [Act.put, List.setIfInBounds_toArray, List.set_cons_zero, List.set_cons_succ, i64_w, i32_w]
    rfl
  refine pure_ (i := 3) (N := some 12) (v := ?_) (a' := ?_) #[true, true, true, true, true, true, false, false, true, false, false, true, false, false, true, true, false, false, true, true, false, false, true, true, false, false, true, true, false, false, true, true, false, false, true, true, false, false, false, false] rfl rfl (any_of HT_.out (by kernel_rfl)) (fun _ _ _ h => h) (Or.inl ⟨by rfl, ?_⟩) ?_ ?_
  rotate_left
  · intro w'
    go_simp
    with_reducible rfl
  rotate_left
  · simp only [Act.put, List.setIfInBounds_toArray, List.set_cons_zero, List.set_cons_succ, i64_w, i32_w]
    rfl
  refine one_ (i := 6) (N := some 15) #[true, true, true, true, true, true, true, false, true, false, false, true, false, false, true, true, false, false, true, true, false, false, true, true, false, false, true, true, false, false, true, true, false, false, true, true, false, false, false, false] rfl rfl (one_of HT_.out (by kernel_rfl)) (by decide) (fun K hK => ?_)
  refine goes_ Tryd.func10 (by kernel_rfl) rfl #[.int .i64 a0_0] (by rfl) rfl rfl (by (try simp only [List.map_toArray, List.map_cons, List.map_nil]); first | done | rfl | (simp only [List.length_drop, List.length_take]; rfl)) ?_
  with_reducible refine (control_Number.calls a0_0 t126 _ ?side1 A6.out).mono ?_
  (case side1 => exact GWorld.below hG (by repeat (first | (with_reducible first | exact HB.out | apply below_alloc | apply pw_below_drewN | apply below_drew1 | refine below_set ?_ GE123.out | refine below_set ?_ GE124.out) | exact HB.out)))
  rintro e w19 ⟨rfl, hb⟩
  refine ⟨_, rfl, ?_⟩
  have n0_ := Aside0.mk (blk_below (g := gb123) (o := .cells #[.int .i64 a0_0, .int .u32 a0_1, .int .i64 a0_2, .int .i64 a0_3, .int .i64 a0_4, .bool a0_5, .bool a0_6, .bool a0_7, .int .i64 a0_8, .bool a0_9, .int .i64 a0_10, .int .i64 a0_11] 30 (0, 0)) (by (with_reducible repeat (first | refine blk_drewN ?_ _ | refine blk_drew ?_ | refine blk_alloc ?_ _)); exact BK123.out) hb)
  have n1_ := Aside0.mk (blk_below (g := gb124) (o := .cells #[.int .i64 a1_0, .int .i64 a1_1, .int .i64 a1_2, .int .i64 a1_3, .int .u64 a1_4, .bool a1_5] 32 (0, 0)) (by (with_reducible repeat (first | refine blk_drewN ?_ _ | refine blk_drew ?_ | refine blk_alloc ?_ _)); exact BK124.out) hb)
  have n2_ := Aside0.mk (below_step (by repeat (first | (with_reducible first | exact HB.out | apply below_alloc | apply pw_below_drewN | apply below_drew1 | refine below_set ?_ GE123.out | refine below_set ?_ GE124.out) | exact HB.out)) hb)
  clear BK123
  clear BK124
  clear HB
  have BK123 := n0_
  have BK124 := n1_
  have HB := n2_
  clear n0_ n1_ n2_
  (try clear hb)
  (try clear hb2)
  (try clear hk)
  (try clear hi)
  refine hK.out _ _ ⟨(blk_cell BK123.out 0).trans rfl, (blk_cell BK123.out 1).trans rfl, (blk_cell BK123.out 2).trans rfl, (blk_cell BK123.out 3).trans rfl, (blk_cell BK123.out 4).trans rfl, (blk_cell BK123.out 5).trans rfl, (blk_cell BK123.out 6).trans rfl, (blk_cell BK123.out 7).trans rfl, (blk_cell BK123.out 8).trans rfl, (blk_cell BK123.out 9).trans rfl, (blk_cell BK123.out 10).trans rfl, (blk_cell BK123.out 11).trans rfl, (blk_cell BK124.out 0).trans rfl, (blk_cell BK124.out 1).trans rfl, (blk_cell BK124.out 2).trans rfl, (blk_cell BK124.out 3).trans rfl, (blk_cell BK124.out 4).trans rfl, (blk_cell BK124.out 5).trans rfl⟩ (fun hHeld => ?_)
  clear hK K
  refine norm_ (a' := ?_) ?_ ?_
  rotate_left
  · show Act.put _ (some 15) _ = _
    simp only [Act.put, List.setIfInBounds_toArray, List.set_cons_zero, List.set_cons_succ, i64_w, i32_w]
    rfl
  refine pure_ (i := 7) (N := some 16) (v := ?_) (a' := ?_) #[true, true, true, true, true, true, true, true, true, false, false, true, false, false, true, true, false, false, true, true, false, false, true, true, false, false, true, true, false, false, true, true, false, false, true, true, false, false, false, false] rfl rfl (any_of HT_.out (by kernel_rfl)) (fun _ _ _ h => h) (Or.inl ⟨by rfl, ?_⟩) ?_ ?_
  rotate_left
  · intro w'
    go_simp
    with_reducible rfl
  rotate_left
  · simp only [Act.put, List.setIfInBounds_toArray, List.set_cons_zero, List.set_cons_succ, i64_w, i32_w]
    rfl
  refine one_ (i := 9) (N := some 18) #[true, true, true, true, true, true, true, true, true, true, false, true, false, false, true, true, false, false, true, true, false, false, true, true, false, false, true, true, false, false, true, true, false, false, true, true, false, false, false, false] rfl rfl (one_of HT_.out (by kernel_rfl)) (by decide) (fun K hK => ?_)
  refine goes_ Tryd.func10 (by kernel_rfl) rfl #[.int .i64 a3] (by rfl) rfl rfl (by (try simp only [List.map_toArray, List.map_cons, List.map_nil]); first | done | rfl | (simp only [List.length_drop, List.length_take]; rfl)) ?_
  with_reducible refine (control_Number.calls a3 t127 _ ?side1 A7.out).mono ?_
  (case side1 => exact GWorld.below hG (by repeat (first | (with_reducible first | exact HB.out | apply below_alloc | apply pw_below_drewN | apply below_drew1 | refine below_set ?_ GE123.out | refine below_set ?_ GE124.out) | exact HB.out)))
  rintro e w20 ⟨rfl, hb⟩
  refine ⟨_, rfl, ?_⟩
  have n0_ := Aside0.mk (blk_below (g := gb123) (o := .cells #[.int .i64 a0_0, .int .u32 a0_1, .int .i64 a0_2, .int .i64 a0_3, .int .i64 a0_4, .bool a0_5, .bool a0_6, .bool a0_7, .int .i64 a0_8, .bool a0_9, .int .i64 a0_10, .int .i64 a0_11] 30 (0, 0)) (by (with_reducible repeat (first | refine blk_drewN ?_ _ | refine blk_drew ?_ | refine blk_alloc ?_ _)); exact BK123.out) hb)
  have n1_ := Aside0.mk (blk_below (g := gb124) (o := .cells #[.int .i64 a1_0, .int .i64 a1_1, .int .i64 a1_2, .int .i64 a1_3, .int .u64 a1_4, .bool a1_5] 32 (0, 0)) (by (with_reducible repeat (first | refine blk_drewN ?_ _ | refine blk_drew ?_ | refine blk_alloc ?_ _)); exact BK124.out) hb)
  have n2_ := Aside0.mk (below_step (by repeat (first | (with_reducible first | exact HB.out | apply below_alloc | apply pw_below_drewN | apply below_drew1 | refine below_set ?_ GE123.out | refine below_set ?_ GE124.out) | exact HB.out)) hb)
  clear BK123
  clear BK124
  clear HB
  have BK123 := n0_
  have BK124 := n1_
  have HB := n2_
  clear n0_ n1_ n2_
  (try clear hb)
  (try clear hb2)
  (try clear hk)
  (try clear hi)
  refine hK.out _ _ ⟨(blk_cell BK123.out 0).trans rfl, (blk_cell BK123.out 1).trans rfl, (blk_cell BK123.out 2).trans rfl, (blk_cell BK123.out 3).trans rfl, (blk_cell BK123.out 4).trans rfl, (blk_cell BK123.out 5).trans rfl, (blk_cell BK123.out 6).trans rfl, (blk_cell BK123.out 7).trans rfl, (blk_cell BK123.out 8).trans rfl, (blk_cell BK123.out 9).trans rfl, (blk_cell BK123.out 10).trans rfl, (blk_cell BK123.out 11).trans rfl, (blk_cell BK124.out 0).trans rfl, (blk_cell BK124.out 1).trans rfl, (blk_cell BK124.out 2).trans rfl, (blk_cell BK124.out 3).trans rfl, (blk_cell BK124.out 4).trans rfl, (blk_cell BK124.out 5).trans rfl⟩ (fun hHeld => ?_)
  clear hK K
  refine norm_ (a' := ?_) ?_ ?_
  rotate_left
  · show Act.put _ (some 18) _ = _
    simp only [Act.put, List.setIfInBounds_toArray, List.set_cons_zero, List.set_cons_succ, i64_w, i32_w]
    rfl
  refine pure_ (i := 10) (N := some 19) (v := ?_) (a' := ?_) #[true, true, true, true, true, true, true, true, true, true, true, true, false, false, true, true, false, false, true, true, false, false, true, true, false, false, true, true, false, false, true, true, false, false, true, true, false, false, false, false] rfl rfl (any_of HT_.out (by kernel_rfl)) (fun _ _ _ h => h) (Or.inl ⟨by rfl, ?_⟩) ?_ ?_
  rotate_left
  · intro w'
    go_simp
    with_reducible rfl
  rotate_left
  · simp only [Act.put, List.setIfInBounds_toArray, List.set_cons_zero, List.set_cons_succ, i64_w, i32_w]
    rfl
  refine one_ (i := 12) (N := some 21) #[true, true, true, true, true, true, true, true, true, true, true, true, true, false, true, true, false, false, true, true, false, false, true, true, false, false, true, true, false, false, true, true, false, false, true, true, false, false, false, false] rfl rfl (one_of HT_.out (by kernel_rfl)) (by decide) (fun K hK => ?_)
  refine goes_ Tryd.func10 (by kernel_rfl) rfl #[.int .i64 a2] (by rfl) rfl rfl (by (try simp only [List.map_toArray, List.map_cons, List.map_nil]); first | done | rfl | (simp only [List.length_drop, List.length_take]; rfl)) ?_
  with_reducible refine (control_Number.calls a2 t128 _ ?side1 A8.out).mono ?_
  (case side1 => exact GWorld.below hG (by repeat (first | (with_reducible first | exact HB.out | apply below_alloc | apply pw_below_drewN | apply below_drew1 | refine below_set ?_ GE123.out | refine below_set ?_ GE124.out) | exact HB.out)))
  rintro e w21 ⟨rfl, hb⟩
  refine ⟨_, rfl, ?_⟩
  have n0_ := Aside0.mk (blk_below (g := gb123) (o := .cells #[.int .i64 a0_0, .int .u32 a0_1, .int .i64 a0_2, .int .i64 a0_3, .int .i64 a0_4, .bool a0_5, .bool a0_6, .bool a0_7, .int .i64 a0_8, .bool a0_9, .int .i64 a0_10, .int .i64 a0_11] 30 (0, 0)) (by (with_reducible repeat (first | refine blk_drewN ?_ _ | refine blk_drew ?_ | refine blk_alloc ?_ _)); exact BK123.out) hb)
  have n1_ := Aside0.mk (blk_below (g := gb124) (o := .cells #[.int .i64 a1_0, .int .i64 a1_1, .int .i64 a1_2, .int .i64 a1_3, .int .u64 a1_4, .bool a1_5] 32 (0, 0)) (by (with_reducible repeat (first | refine blk_drewN ?_ _ | refine blk_drew ?_ | refine blk_alloc ?_ _)); exact BK124.out) hb)
  have n2_ := Aside0.mk (below_step (by repeat (first | (with_reducible first | exact HB.out | apply below_alloc | apply pw_below_drewN | apply below_drew1 | refine below_set ?_ GE123.out | refine below_set ?_ GE124.out) | exact HB.out)) hb)
  clear BK123
  clear BK124
  clear HB
  have BK123 := n0_
  have BK124 := n1_
  have HB := n2_
  clear n0_ n1_ n2_
  (try clear hb)
  (try clear hb2)
  (try clear hk)
  (try clear hi)
  refine hK.out _ _ ⟨(blk_cell BK123.out 0).trans rfl, (blk_cell BK123.out 1).trans rfl, (blk_cell BK123.out 2).trans rfl, (blk_cell BK123.out 3).trans rfl, (blk_cell BK123.out 4).trans rfl, (blk_cell BK123.out 5).trans rfl, (blk_cell BK123.out 6).trans rfl, (blk_cell BK123.out 7).trans rfl, (blk_cell BK123.out 8).trans rfl, (blk_cell BK123.out 9).trans rfl, (blk_cell BK123.out 10).trans rfl, (blk_cell BK123.out 11).trans rfl, (blk_cell BK124.out 0).trans rfl, (blk_cell BK124.out 1).trans rfl, (blk_cell BK124.out 2).trans rfl, (blk_cell BK124.out 3).trans rfl, (blk_cell BK124.out 4).trans rfl, (blk_cell BK124.out 5).trans rfl⟩ (fun hHeld => ?_)
  clear hK K
  refine norm_ (a' := ?_) ?_ ?_
  rotate_left
  · show Act.put _ (some 21) _ = _
    simp only [Act.put, List.setIfInBounds_toArray, List.set_cons_zero, List.set_cons_succ, i64_w, i32_w]
    rfl
  refine pure_ (i := 13) (N := some 22) (v := ?_) (a' := ?_) #[true, true, true, true, true, true, true, true, true, true, true, true, true, true, true, true, false, false, true, true, false, false, true, true, false, false, true, true, false, false, true, true, false, false, true, true, false, false, false, false] rfl rfl (any_of HT_.out (by kernel_rfl)) (fun _ _ _ h => h) (Or.inl ⟨by rfl, ?_⟩) ?_ ?_
  rotate_left
  · intro w'
    go_simp
    with_reducible rfl
  rotate_left
  · simp only [Act.put, List.setIfInBounds_toArray, List.set_cons_zero, List.set_cons_succ, i64_w, i32_w]
    rfl
  refine one_ (i := 16) (N := some 25) #[true, true, true, true, true, true, true, true, true, true, true, true, true, true, true, true, true, false, true, true, false, false, true, true, false, false, true, true, false, false, true, true, false, false, true, true, false, false, false, false] rfl rfl (one_of HT_.out (by kernel_rfl)) (by decide) (fun K hK => ?_)
  refine goes_ Tryd.func10 (by kernel_rfl) rfl #[.int .i64 a0_3] (by rfl) rfl rfl (by (try simp only [List.map_toArray, List.map_cons, List.map_nil]); first | done | rfl | (simp only [List.length_drop, List.length_take]; rfl)) ?_
  with_reducible refine (control_Number.calls a0_3 t129 _ ?side1 A9.out).mono ?_
  (case side1 => exact GWorld.below hG (by repeat (first | (with_reducible first | exact HB.out | apply below_alloc | apply pw_below_drewN | apply below_drew1 | refine below_set ?_ GE123.out | refine below_set ?_ GE124.out) | exact HB.out)))
  rintro e w22 ⟨rfl, hb⟩
  refine ⟨_, rfl, ?_⟩
  have n0_ := Aside0.mk (blk_below (g := gb123) (o := .cells #[.int .i64 a0_0, .int .u32 a0_1, .int .i64 a0_2, .int .i64 a0_3, .int .i64 a0_4, .bool a0_5, .bool a0_6, .bool a0_7, .int .i64 a0_8, .bool a0_9, .int .i64 a0_10, .int .i64 a0_11] 30 (0, 0)) (by (with_reducible repeat (first | refine blk_drewN ?_ _ | refine blk_drew ?_ | refine blk_alloc ?_ _)); exact BK123.out) hb)
  have n1_ := Aside0.mk (blk_below (g := gb124) (o := .cells #[.int .i64 a1_0, .int .i64 a1_1, .int .i64 a1_2, .int .i64 a1_3, .int .u64 a1_4, .bool a1_5] 32 (0, 0)) (by (with_reducible repeat (first | refine blk_drewN ?_ _ | refine blk_drew ?_ | refine blk_alloc ?_ _)); exact BK124.out) hb)
  have n2_ := Aside0.mk (below_step (by repeat (first | (with_reducible first | exact HB.out | apply below_alloc | apply pw_below_drewN | apply below_drew1 | refine below_set ?_ GE123.out | refine below_set ?_ GE124.out) | exact HB.out)) hb)
  clear BK123
  clear BK124
  clear HB
  have BK123 := n0_
  have BK124 := n1_
  have HB := n2_
  clear n0_ n1_ n2_
  (try clear hb)
  (try clear hb2)
  (try clear hk)
  (try clear hi)
  refine hK.out _ _ ⟨(blk_cell BK123.out 0).trans rfl, (blk_cell BK123.out 1).trans rfl, (blk_cell BK123.out 2).trans rfl, (blk_cell BK123.out 3).trans rfl, (blk_cell BK123.out 4).trans rfl, (blk_cell BK123.out 5).trans rfl, (blk_cell BK123.out 6).trans rfl, (blk_cell BK123.out 7).trans rfl, (blk_cell BK123.out 8).trans rfl, (blk_cell BK123.out 9).trans rfl, (blk_cell BK123.out 10).trans rfl, (blk_cell BK123.out 11).trans rfl, (blk_cell BK124.out 0).trans rfl, (blk_cell BK124.out 1).trans rfl, (blk_cell BK124.out 2).trans rfl, (blk_cell BK124.out 3).trans rfl, (blk_cell BK124.out 4).trans rfl, (blk_cell BK124.out 5).trans rfl⟩ (fun hHeld => ?_)
  clear hK K
  refine norm_ (a' := ?_) ?_ ?_
  rotate_left
  · show Act.put _ (some 25) _ = _
    simp only [Act.put, List.setIfInBounds_toArray, List.set_cons_zero, List.set_cons_succ, i64_w, i32_w]
    rfl
  refine pure_ (i := 17) (N := some 26) (v := ?_) (a' := ?_) #[true, true, true, true, true, true, true, true, true, true, true, true, true, true, true, true, true, true, true, true, false, false, true, true, false, false, true, true, false, false, true, true, false, false, true, true, false, false, false, false] rfl rfl (any_of HT_.out (by kernel_rfl)) (fun _ _ _ h => h) (Or.inl ⟨by rfl, ?_⟩) ?_ ?_
  rotate_left
  · intro w'
    go_simp
    with_reducible rfl
  rotate_left
  · simp only [Act.put, List.setIfInBounds_toArray, List.set_cons_zero, List.set_cons_succ, i64_w, i32_w]
    rfl
  refine one_ (i := 20) (N := some 29) #[true, true, true, true, true, true, true, true, true, true, true, true, true, true, true, true, true, true, true, true, true, false, true, true, false, false, true, true, false, false, true, true, false, false, true, true, false, false, false, false] rfl rfl (one_of HT_.out (by kernel_rfl)) (by decide) (fun K hK => ?_)
  refine goes_ Tryd.func10 (by kernel_rfl) rfl #[.int .i64 a0_2] (by rfl) rfl rfl (by (try simp only [List.map_toArray, List.map_cons, List.map_nil]); first | done | rfl | (simp only [List.length_drop, List.length_take]; rfl)) ?_
  with_reducible refine (control_Number.calls a0_2 t130 _ ?side1 A10.out).mono ?_
  (case side1 => exact GWorld.below hG (by repeat (first | (with_reducible first | exact HB.out | apply below_alloc | apply pw_below_drewN | apply below_drew1 | refine below_set ?_ GE123.out | refine below_set ?_ GE124.out) | exact HB.out)))
  rintro e w23 ⟨rfl, hb⟩
  refine ⟨_, rfl, ?_⟩
  have n0_ := Aside0.mk (blk_below (g := gb123) (o := .cells #[.int .i64 a0_0, .int .u32 a0_1, .int .i64 a0_2, .int .i64 a0_3, .int .i64 a0_4, .bool a0_5, .bool a0_6, .bool a0_7, .int .i64 a0_8, .bool a0_9, .int .i64 a0_10, .int .i64 a0_11] 30 (0, 0)) (by (with_reducible repeat (first | refine blk_drewN ?_ _ | refine blk_drew ?_ | refine blk_alloc ?_ _)); exact BK123.out) hb)
  have n1_ := Aside0.mk (blk_below (g := gb124) (o := .cells #[.int .i64 a1_0, .int .i64 a1_1, .int .i64 a1_2, .int .i64 a1_3, .int .u64 a1_4, .bool a1_5] 32 (0, 0)) (by (with_reducible repeat (first | refine blk_drewN ?_ _ | refine blk_drew ?_ | refine blk_alloc ?_ _)); exact BK124.out) hb)
  have n2_ := Aside0.mk (below_step (by repeat (first | (with_reducible first | exact HB.out | apply below_alloc | apply pw_below_drewN | apply below_drew1 | refine below_set ?_ GE123.out | refine below_set ?_ GE124.out) | exact HB.out)) hb)
  clear BK123
  clear BK124
  clear HB
  have BK123 := n0_
  have BK124 := n1_
  have HB := n2_
  clear n0_ n1_ n2_
  (try clear hb)
  (try clear hb2)
  (try clear hk)
  (try clear hi)
  refine hK.out _ _ ⟨(blk_cell BK123.out 0).trans rfl, (blk_cell BK123.out 1).trans rfl, (blk_cell BK123.out 2).trans rfl, (blk_cell BK123.out 3).trans rfl, (blk_cell BK123.out 4).trans rfl, (blk_cell BK123.out 5).trans rfl, (blk_cell BK123.out 6).trans rfl, (blk_cell BK123.out 7).trans rfl, (blk_cell BK123.out 8).trans rfl, (blk_cell BK123.out 9).trans rfl, (blk_cell BK123.out 10).trans rfl, (blk_cell BK123.out 11).trans rfl, (blk_cell BK124.out 0).trans rfl, (blk_cell BK124.out 1).trans rfl, (blk_cell BK124.out 2).trans rfl, (blk_cell BK124.out 3).trans rfl, (blk_cell BK124.out 4).trans rfl, (blk_cell BK124.out 5).trans rfl⟩ (fun hHeld => ?_)
  clear hK K
  refine norm_ (a' := ?_) ?_ ?_
  rotate_left
  · show Act.put _ (some 29) _ = _
    simp only [Act.put, List.setIfInBounds_toArray, List.set_cons_zero, List.set_cons_succ, i64_w, i32_w]
    rfl
  refine pure_ (i := 21) (N := some 30) (v := ?_) (a' := ?_) #[true, true, true, true, true, true, true, true, true, true, true, true, true, true, true, true, true, true, true, true, true, true, true, true, false, false, true, true, false, false, true, true, false, false, true, true, false, false, false, false] rfl rfl (any_of HT_.out (by kernel_rfl)) (fun _ _ _ h => h) (Or.inl ⟨by rfl, ?_⟩) ?_ ?_
  rotate_left
  · intro w'
    go_simp
    with_reducible rfl
  rotate_left
  · simp only [Act.put, List.setIfInBounds_toArray, List.set_cons_zero, List.set_cons_succ, i64_w, i32_w]
    rfl
  refine one_ (i := 24) (N := some 33) #[true, true, true, true, true, true, true, true, true, true, true, true, true, true, true, true, true, true, true, true, true, true, true, true, true, false, true, true, false, false, true, true, false, false, true, true, false, false, false, false] rfl rfl (one_of HT_.out (by kernel_rfl)) (by decide) (fun K hK => ?_)
  refine goes_ Tryd.func10 (by kernel_rfl) rfl #[.int .i64 a1_0] (by rfl) rfl rfl (by (try simp only [List.map_toArray, List.map_cons, List.map_nil]); first | done | rfl | (simp only [List.length_drop, List.length_take]; rfl)) ?_
  with_reducible refine (control_Number.calls a1_0 t131 _ ?side1 A11.out).mono ?_
  (case side1 => exact GWorld.below hG (by repeat (first | (with_reducible first | exact HB.out | apply below_alloc | apply pw_below_drewN | apply below_drew1 | refine below_set ?_ GE123.out | refine below_set ?_ GE124.out) | exact HB.out)))
  rintro e w24 ⟨rfl, hb⟩
  refine ⟨_, rfl, ?_⟩
  have n0_ := Aside0.mk (blk_below (g := gb123) (o := .cells #[.int .i64 a0_0, .int .u32 a0_1, .int .i64 a0_2, .int .i64 a0_3, .int .i64 a0_4, .bool a0_5, .bool a0_6, .bool a0_7, .int .i64 a0_8, .bool a0_9, .int .i64 a0_10, .int .i64 a0_11] 30 (0, 0)) (by (with_reducible repeat (first | refine blk_drewN ?_ _ | refine blk_drew ?_ | refine blk_alloc ?_ _)); exact BK123.out) hb)
  have n1_ := Aside0.mk (blk_below (g := gb124) (o := .cells #[.int .i64 a1_0, .int .i64 a1_1, .int .i64 a1_2, .int .i64 a1_3, .int .u64 a1_4, .bool a1_5] 32 (0, 0)) (by (with_reducible repeat (first | refine blk_drewN ?_ _ | refine blk_drew ?_ | refine blk_alloc ?_ _)); exact BK124.out) hb)
  have n2_ := Aside0.mk (below_step (by repeat (first | (with_reducible first | exact HB.out | apply below_alloc | apply pw_below_drewN | apply below_drew1 | refine below_set ?_ GE123.out | refine below_set ?_ GE124.out) | exact HB.out)) hb)
  clear BK123
  clear BK124
  clear HB
  have BK123 := n0_
  have BK124 := n1_
  have HB := n2_
  clear n0_ n1_ n2_
  (try clear hb)
  (try clear hb2)
  (try clear hk)
  (try clear hi)
  refine hK.out _ _ ⟨(blk_cell BK123.out 0).trans rfl, (blk_cell BK123.out 1).trans rfl, (blk_cell BK123.out 2).trans rfl, (blk_cell BK123.out 3).trans rfl, (blk_cell BK123.out 4).trans rfl, (blk_cell BK123.out 5).trans rfl, (blk_cell BK123.out 6).trans rfl, (blk_cell BK123.out 7).trans rfl, (blk_cell BK123.out 8).trans rfl, (blk_cell BK123.out 9).trans rfl, (blk_cell BK123.out 10).trans rfl, (blk_cell BK123.out 11).trans rfl, (blk_cell BK124.out 0).trans rfl, (blk_cell BK124.out 1).trans rfl, (blk_cell BK124.out 2).trans rfl, (blk_cell BK124.out 3).trans rfl, (blk_cell BK124.out 4).trans rfl, (blk_cell BK124.out 5).trans rfl⟩ (fun hHeld => ?_)
  clear hK K
  refine norm_ (a' := ?_) ?_ ?_
  rotate_left
  · show Act.put _ (some 33) _ = _
    simp only [Act.put, List.setIfInBounds_toArray, List.set_cons_zero, List.set_cons_succ, i64_w, i32_w]
    rfl
  refine pure_ (i := 25) (N := some 34) (v := ?_) (a' := ?_) #[true, true, true, true, true, true, true, true, true, true, true, true, true, true, true, true, true, true, true, true, true, true, true, true, true, true, true, true, false, false, true, true, false, false, true, true, false, false, false, false] rfl rfl (any_of HT_.out (by kernel_rfl)) (fun _ _ _ h => h) (Or.inl ⟨by rfl, ?_⟩) ?_ ?_
  rotate_left
  · intro w'
    go_simp
    with_reducible rfl
  rotate_left
  · simp only [Act.put, List.setIfInBounds_toArray, List.set_cons_zero, List.set_cons_succ, i64_w, i32_w]
    rfl
  refine one_ (i := 28) (N := some 37) #[true, true, true, true, true, true, true, true, true, true, true, true, true, true, true, true, true, true, true, true, true, true, true, true, true, true, true, true, true, false, true, true, false, false, true, true, false, false, false, false] rfl rfl (one_of HT_.out (by kernel_rfl)) (by decide) (fun K hK => ?_)
  refine goes_ Tryd.func10 (by kernel_rfl) rfl #[.int .i64 a1_1] (by rfl) rfl rfl (by (try simp only [List.map_toArray, List.map_cons, List.map_nil]); first | done | rfl | (simp only [List.length_drop, List.length_take]; rfl)) ?_
  with_reducible refine (control_Number.calls a1_1 t132 _ ?side1 A12.out).mono ?_
  (case side1 => exact GWorld.below hG (by repeat (first | (with_reducible first | exact HB.out | apply below_alloc | apply pw_below_drewN | apply below_drew1 | refine below_set ?_ GE123.out | refine below_set ?_ GE124.out) | exact HB.out)))
  rintro e w25 ⟨rfl, hb⟩
  refine ⟨_, rfl, ?_⟩
  have n0_ := Aside0.mk (blk_below (g := gb123) (o := .cells #[.int .i64 a0_0, .int .u32 a0_1, .int .i64 a0_2, .int .i64 a0_3, .int .i64 a0_4, .bool a0_5, .bool a0_6, .bool a0_7, .int .i64 a0_8, .bool a0_9, .int .i64 a0_10, .int .i64 a0_11] 30 (0, 0)) (by (with_reducible repeat (first | refine blk_drewN ?_ _ | refine blk_drew ?_ | refine blk_alloc ?_ _)); exact BK123.out) hb)
  have n1_ := Aside0.mk (blk_below (g := gb124) (o := .cells #[.int .i64 a1_0, .int .i64 a1_1, .int .i64 a1_2, .int .i64 a1_3, .int .u64 a1_4, .bool a1_5] 32 (0, 0)) (by (with_reducible repeat (first | refine blk_drewN ?_ _ | refine blk_drew ?_ | refine blk_alloc ?_ _)); exact BK124.out) hb)
  have n2_ := Aside0.mk (below_step (by repeat (first | (with_reducible first | exact HB.out | apply below_alloc | apply pw_below_drewN | apply below_drew1 | refine below_set ?_ GE123.out | refine below_set ?_ GE124.out) | exact HB.out)) hb)
  clear BK123
  clear BK124
  clear HB
  have BK123 := n0_
  have BK124 := n1_
  have HB := n2_
  clear n0_ n1_ n2_
  (try clear hb)
  (try clear hb2)
  (try clear hk)
  (try clear hi)
  refine hK.out _ _ ⟨(blk_cell BK123.out 0).trans rfl, (blk_cell BK123.out 1).trans rfl, (blk_cell BK123.out 2).trans rfl, (blk_cell BK123.out 3).trans rfl, (blk_cell BK123.out 4).trans rfl, (blk_cell BK123.out 5).trans rfl, (blk_cell BK123.out 6).trans rfl, (blk_cell BK123.out 7).trans rfl, (blk_cell BK123.out 8).trans rfl, (blk_cell BK123.out 9).trans rfl, (blk_cell BK123.out 10).trans rfl, (blk_cell BK123.out 11).trans rfl, (blk_cell BK124.out 0).trans rfl, (blk_cell BK124.out 1).trans rfl, (blk_cell BK124.out 2).trans rfl, (blk_cell BK124.out 3).trans rfl, (blk_cell BK124.out 4).trans rfl, (blk_cell BK124.out 5).trans rfl⟩ (fun hHeld => ?_)
  clear hK K
  refine norm_ (a' := ?_) ?_ ?_
  rotate_left
  · show Act.put _ (some 37) _ = _
    simp only [Act.put, List.setIfInBounds_toArray, List.set_cons_zero, List.set_cons_succ, i64_w, i32_w]
    rfl
  refine pure_ (i := 29) (N := some 38) (v := ?_) (a' := ?_) #[true, true, true, true, true, true, true, true, true, true, true, true, true, true, true, true, true, true, true, true, true, true, true, true, true, true, true, true, true, true, true, true, false, false, true, true, false, false, false, false] rfl rfl (any_of HT_.out (by kernel_rfl)) (fun _ _ _ h => h) (Or.inl ⟨by rfl, ?_⟩) ?_ ?_
  rotate_left
  · intro w'
    go_simp
    with_reducible rfl
  rotate_left
  · simp only [Act.put, List.setIfInBounds_toArray, List.set_cons_zero, List.set_cons_succ, i64_w, i32_w]
    rfl
  refine one_ (i := 32) (N := some 41) #[true, true, true, true, true, true, true, true, true, true, true, true, true, true, true, true, true, true, true, true, true, true, true, true, true, true, true, true, true, true, true, true, true, false, true, true, false, false, false, false] rfl rfl (one_of HT_.out (by kernel_rfl)) (by decide) (fun K hK => ?_)
  refine goes_ Tryd.func10 (by kernel_rfl) rfl #[.int .i64 a1_2] (by rfl) rfl rfl (by (try simp only [List.map_toArray, List.map_cons, List.map_nil]); first | done | rfl | (simp only [List.length_drop, List.length_take]; rfl)) ?_
  with_reducible refine (control_Number.calls a1_2 t133 _ ?side1 A13.out).mono ?_
  (case side1 => exact GWorld.below hG (by repeat (first | (with_reducible first | exact HB.out | apply below_alloc | apply pw_below_drewN | apply below_drew1 | refine below_set ?_ GE123.out | refine below_set ?_ GE124.out) | exact HB.out)))
  rintro e w26 ⟨rfl, hb⟩
  refine ⟨_, rfl, ?_⟩
  have n0_ := Aside0.mk (blk_below (g := gb123) (o := .cells #[.int .i64 a0_0, .int .u32 a0_1, .int .i64 a0_2, .int .i64 a0_3, .int .i64 a0_4, .bool a0_5, .bool a0_6, .bool a0_7, .int .i64 a0_8, .bool a0_9, .int .i64 a0_10, .int .i64 a0_11] 30 (0, 0)) (by (with_reducible repeat (first | refine blk_drewN ?_ _ | refine blk_drew ?_ | refine blk_alloc ?_ _)); exact BK123.out) hb)
  have n1_ := Aside0.mk (blk_below (g := gb124) (o := .cells #[.int .i64 a1_0, .int .i64 a1_1, .int .i64 a1_2, .int .i64 a1_3, .int .u64 a1_4, .bool a1_5] 32 (0, 0)) (by (with_reducible repeat (first | refine blk_drewN ?_ _ | refine blk_drew ?_ | refine blk_alloc ?_ _)); exact BK124.out) hb)
  have n2_ := Aside0.mk (below_step (by repeat (first | (with_reducible first | exact HB.out | apply below_alloc | apply pw_below_drewN | apply below_drew1 | refine below_set ?_ GE123.out | refine below_set ?_ GE124.out) | exact HB.out)) hb)
  clear BK123
  clear BK124
  clear HB
  have BK123 := n0_
  have BK124 := n1_
  have HB := n2_
  clear n0_ n1_ n2_
  (try clear hb)
  (try clear hb2)
  (try clear hk)
  (try clear hi)
  refine hK.out _ _ ⟨(blk_cell BK123.out 0).trans rfl, (blk_cell BK123.out 1).trans rfl, (blk_cell BK123.out 2).trans rfl, (blk_cell BK123.out 3).trans rfl, (blk_cell BK123.out 4).trans rfl, (blk_cell BK123.out 5).trans rfl, (blk_cell BK123.out 6).trans rfl, (blk_cell BK123.out 7).trans rfl, (blk_cell BK123.out 8).trans rfl, (blk_cell BK123.out 9).trans rfl, (blk_cell BK123.out 10).trans rfl, (blk_cell BK123.out 11).trans rfl, (blk_cell BK124.out 0).trans rfl, (blk_cell BK124.out 1).trans rfl, (blk_cell BK124.out 2).trans rfl, (blk_cell BK124.out 3).trans rfl, (blk_cell BK124.out 4).trans rfl, (blk_cell BK124.out 5).trans rfl⟩ (fun hHeld => ?_)
  clear hK K
  refine norm_ (a' := ?_) ?_ ?_
  rotate_left
  · show Act.put _ (some 41) _ = _
    simp only [Act.put, List.setIfInBounds_toArray, List.set_cons_zero, List.set_cons_succ, i64_w, i32_w]
    rfl
  refine pure_ (i := 33) (N := some 42) (v := ?_) (a' := ?_) #[true, true, true, true, true, true, true, true, true, true, true, true, true, true, true, true, true, true, true, true, true, true, true, true, true, true, true, true, true, true, true, true, true, true, true, true, false, false, false, false] rfl rfl (any_of HT_.out (by kernel_rfl)) (fun _ _ _ h => h) (Or.inl ⟨by rfl, ?_⟩) ?_ ?_
  rotate_left
  · intro w'
    go_simp
    with_reducible rfl
  rotate_left
  · simp only [Act.put, List.setIfInBounds_toArray, List.set_cons_zero, List.set_cons_succ, i64_w, i32_w]
    rfl
  refine one_ (i := 36) (N := some 45) #[true, true, true, true, true, true, true, true, true, true, true, true, true, true, true, true, true, true, true, true, true, true, true, true, true, true, true, true, true, true, true, true, true, true, true, true, true, false, false, false] rfl rfl (one_of HT_.out (by kernel_rfl)) (by decide) (fun K hK => ?_)
  refine goes_ Tryd.func10 (by kernel_rfl) rfl #[.int .i64 a1_3] (by rfl) rfl rfl (by (try simp only [List.map_toArray, List.map_cons, List.map_nil]); first | done | rfl | (simp only [List.length_drop, List.length_take]; rfl)) ?_
  with_reducible refine (control_Number.calls a1_3 t134 _ ?side1 A14.out).mono ?_
  (case side1 => exact GWorld.below hG (by repeat (first | (with_reducible first | exact HB.out | apply below_alloc | apply pw_below_drewN | apply below_drew1 | refine below_set ?_ GE123.out | refine below_set ?_ GE124.out) | exact HB.out)))
  rintro e w27 ⟨rfl, hb⟩
  refine ⟨_, rfl, ?_⟩
  have n0_ := Aside0.mk (blk_below (g := gb123) (o := .cells #[.int .i64 a0_0, .int .u32 a0_1, .int .i64 a0_2, .int .i64 a0_3, .int .i64 a0_4, .bool a0_5, .bool a0_6, .bool a0_7, .int .i64 a0_8, .bool a0_9, .int .i64 a0_10, .int .i64 a0_11] 30 (0, 0)) (by (with_reducible repeat (first | refine blk_drewN ?_ _ | refine blk_drew ?_ | refine blk_alloc ?_ _)); exact BK123.out) hb)
  have n1_ := Aside0.mk (blk_below (g := gb124) (o := .cells #[.int .i64 a1_0, .int .i64 a1_1, .int .i64 a1_2, .int .i64 a1_3, .int .u64 a1_4, .bool a1_5] 32 (0, 0)) (by (with_reducible repeat (first | refine blk_drewN ?_ _ | refine blk_drew ?_ | refine blk_alloc ?_ _)); exact BK124.out) hb)
  have n2_ := Aside0.mk (below_step (by repeat (first | (with_reducible first | exact HB.out | apply below_alloc | apply pw_below_drewN | apply below_drew1 | refine below_set ?_ GE123.out | refine below_set ?_ GE124.out) | exact HB.out)) hb)
  clear BK123
  clear BK124
  clear HB
  have BK123 := n0_
  have BK124 := n1_
  have HB := n2_
  clear n0_ n1_ n2_
  (try clear hb)
  (try clear hb2)
  (try clear hk)
  (try clear hi)
  refine hK.out _ _ ⟨(blk_cell BK123.out 0).trans rfl, (blk_cell BK123.out 1).trans rfl, (blk_cell BK123.out 2).trans rfl, (blk_cell BK123.out 3).trans rfl, (blk_cell BK123.out 4).trans rfl, (blk_cell BK123.out 5).trans rfl, (blk_cell BK123.out 6).trans rfl, (blk_cell BK123.out 7).trans rfl, (blk_cell BK123.out 8).trans rfl, (blk_cell BK123.out 9).trans rfl, (blk_cell BK123.out 10).trans rfl, (blk_cell BK123.out 11).trans rfl, (blk_cell BK124.out 0).trans rfl, (blk_cell BK124.out 1).trans rfl, (blk_cell BK124.out 2).trans rfl, (blk_cell BK124.out 3).trans rfl, (blk_cell BK124.out 4).trans rfl, (blk_cell BK124.out 5).trans rfl⟩ (fun hHeld => ?_)
  clear hK K
  refine norm_ (a' := ?_) ?_ ?_
  rotate_left
  · show Act.put _ (some 45) _ = _
    simp only [Act.put, List.setIfInBounds_toArray, List.set_cons_zero, List.set_cons_succ, i64_w, i32_w]
    rfl
  refine pure_ (i := 37) (N := some 46) (v := ?_) (a' := ?_) #[true, true, true, true, true, true, true, true, true, true, true, true, true, true, true, true, true, true, true, true, true, true, true, true, true, true, true, true, true, true, true, true, true, true, true, true, true, true, false, false] rfl rfl (any_of HT_.out (by kernel_rfl)) (fun _ _ _ h => h) (Or.inl ⟨by rfl, ?_⟩) ?_ ?_
  rotate_left
  · intro w'
    go_simp
    with_reducible rfl
  rotate_left
  · simp only [Act.put, List.setIfInBounds_toArray, List.set_cons_zero, List.set_cons_succ, i64_w, i32_w]
    rfl
  refine one_ (i := 38) (N := some 47) #[true, true, true, true, true, true, true, true, true, true, true, true, true, true, true, true, true, true, true, true, true, true, true, true, true, true, true, true, true, true, true, true, true, true, true, true, true, true, true, false] rfl rfl (one_of HT_.out (by kernel_rfl)) (by decide) (fun K hK => ?_)
  refine Kd.R_lit_step k51 _ 51 ?hg (N := 47) ?hd (xs := ([(⟨(⟨#[115, 114, 99, 97, 100, 114]⟩ : ByteArray), t125⟩ : S51), (⟨(⟨#[107, 105, 110, 100]⟩ : ByteArray), t126⟩ : S51), (⟨(⟨#[115, 116, 114, 97, 116, 117, 109]⟩ : ByteArray), t127⟩ : S51), (⟨(⟨#[114, 101, 97, 99, 104]⟩ : ByteArray), t128⟩ : S51), (⟨(⟨#[104, 112, 111, 108, 108]⟩ : ByteArray), t129⟩ : S51), (⟨(⟨#[107, 101, 121]⟩ : ByteArray), t130⟩ : S51), (⟨(⟨#[111, 102, 102, 115, 101, 116]⟩ : ByteArray), t131⟩ : S51), (⟨(⟨#[100, 101, 108, 97, 121]⟩ : ByteArray), t132⟩ : S51), (⟨(⟨#[100, 105, 115, 112, 101, 114, 115, 105, 111, 110]⟩ : ByteArray), t133⟩ : S51), (⟨(⟨#[106, 105, 116, 116, 101, 114]⟩ : ByteArray), t134⟩ : S51)] : List (S51))) (inner := [.string (⟨#[115, 114, 99, 97, 100, 114]⟩ : ByteArray), .string t125, .string (⟨#[107, 105, 110, 100]⟩ : ByteArray), .string t126, .string (⟨#[115, 116, 114, 97, 116, 117, 109]⟩ : ByteArray), .string t127, .string (⟨#[114, 101, 97, 99, 104]⟩ : ByteArray), .string t128, .string (⟨#[104, 112, 111, 108, 108]⟩ : ByteArray), .string t129, .string (⟨#[107, 101, 121]⟩ : ByteArray), .string t130, .string (⟨#[111, 102, 102, 115, 101, 116]⟩ : ByteArray), .string t131, .string (⟨#[100, 101, 108, 97, 121]⟩ : ByteArray), .string t132, .string (⟨#[100, 105, 115, 112, 101, 114, 115, 105, 111, 110]⟩ : ByteArray), .string t133, .string (⟨#[106, 105, 116, 116, 101, 114]⟩ : ByteArray), .string t134]) (ok := fun _ => True) (okp := fun _ => True) ?hr ?hp (fun _ hk => hk) trivial (Below.refl _ _) (Nat.le_refl _) (by simp) ?_; (case hd => rfl); (case hg => rfl); (case hr => first | (go_simp; done) | (go_simp; rfl)); (case hp => exact (Reps.c2 (show Kd.M k51 _ _ _ (⟨(⟨#[115, 114, 99, 97, 100, 114]⟩ : ByteArray), t125⟩ : S51) [.string (⟨#[115, 114, 99, 97, 100, 114]⟩ : ByteArray), .string t125] from (k51_mkM _ _ _ (⟨(⟨#[115, 114, 99, 97, 100, 114]⟩ : ByteArray), t125⟩ : S51) )) (Reps.c2 (show Kd.M k51 _ _ _ (⟨(⟨#[107, 105, 110, 100]⟩ : ByteArray), t126⟩ : S51) [.string (⟨#[107, 105, 110, 100]⟩ : ByteArray), .string t126] from (k51_mkM _ _ _ (⟨(⟨#[107, 105, 110, 100]⟩ : ByteArray), t126⟩ : S51) )) (Reps.c2 (show Kd.M k51 _ _ _ (⟨(⟨#[115, 116, 114, 97, 116, 117, 109]⟩ : ByteArray), t127⟩ : S51) [.string (⟨#[115, 116, 114, 97, 116, 117, 109]⟩ : ByteArray), .string t127] from (k51_mkM _ _ _ (⟨(⟨#[115, 116, 114, 97, 116, 117, 109]⟩ : ByteArray), t127⟩ : S51) )) (Reps.c2 (show Kd.M k51 _ _ _ (⟨(⟨#[114, 101, 97, 99, 104]⟩ : ByteArray), t128⟩ : S51) [.string (⟨#[114, 101, 97, 99, 104]⟩ : ByteArray), .string t128] from (k51_mkM _ _ _ (⟨(⟨#[114, 101, 97, 99, 104]⟩ : ByteArray), t128⟩ : S51) )) (Reps.c2 (show Kd.M k51 _ _ _ (⟨(⟨#[104, 112, 111, 108, 108]⟩ : ByteArray), t129⟩ : S51) [.string (⟨#[104, 112, 111, 108, 108]⟩ : ByteArray), .string t129] from (k51_mkM _ _ _ (⟨(⟨#[104, 112, 111, 108, 108]⟩ : ByteArray), t129⟩ : S51) )) (Reps.c2 (show Kd.M k51 _ _ _ (⟨(⟨#[107, 101, 121]⟩ : ByteArray), t130⟩ : S51) [.string (⟨#[107, 101, 121]⟩ : ByteArray), .string t130] from (k51_mkM _ _ _ (⟨(⟨#[107, 101, 121]⟩ : ByteArray), t130⟩ : S51) )) (Reps.c2 (show Kd.M k51 _ _ _ (⟨(⟨#[111, 102, 102, 115, 101, 116]⟩ : ByteArray), t131⟩ : S51) [.string (⟨#[111, 102, 102, 115, 101, 116]⟩ : ByteArray), .string t131] from (k51_mkM _ _ _ (⟨(⟨#[111, 102, 102, 115, 101, 116]⟩ : ByteArray), t131⟩ : S51) )) (Reps.c2 (show Kd.M k51 _ _ _ (⟨(⟨#[100, 101, 108, 97, 121]⟩ : ByteArray), t132⟩ : S51) [.string (⟨#[100, 101, 108, 97, 121]⟩ : ByteArray), .string t132] from (k51_mkM _ _ _ (⟨(⟨#[100, 101, 108, 97, 121]⟩ : ByteArray), t132⟩ : S51) )) (Reps.c2 (show Kd.M k51 _ _ _ (⟨(⟨#[100, 105, 115, 112, 101, 114, 115, 105, 111, 110]⟩ : ByteArray), t133⟩ : S51) [.string (⟨#[100, 105, 115, 112, 101, 114, 115, 105, 111, 110]⟩ : ByteArray), .string t133] from (k51_mkM _ _ _ (⟨(⟨#[100, 105, 115, 112, 101, 114, 115, 105, 111, 110]⟩ : ByteArray), t133⟩ : S51) )) (Reps.c2 (show Kd.M k51 _ _ _ (⟨(⟨#[106, 105, 116, 116, 101, 114]⟩ : ByteArray), t134⟩ : S51) [.string (⟨#[106, 105, 116, 116, 101, 114]⟩ : ByteArray), .string t134] from (k51_mkM _ _ _ (⟨(⟨#[106, 105, 116, 116, 101, 114]⟩ : ByteArray), t134⟩ : S51) )) (Reps.none _ _))))))))))))
  intro v136 w28 ho29 hb hg_ hnew_
  clear hg_ hnew_
  (first | rw [← Ny135.out] at ho29 | (simp only [Int.reduceToNat] at ho29; rw [← Ny135.out] at ho29))
  have n0_ := Aside0.mk (Kd.R_lower ho29 (below_size (by repeat (first | (with_reducible first | exact HB.out | apply below_alloc | apply pw_below_drewN | apply below_drew1 | refine below_set ?_ GE123.out | refine below_set ?_ GE124.out) | exact HB.out))))
  have n1_ := Aside0.mk (blk_below (g := gb123) (o := .cells #[.int .i64 a0_0, .int .u32 a0_1, .int .i64 a0_2, .int .i64 a0_3, .int .i64 a0_4, .bool a0_5, .bool a0_6, .bool a0_7, .int .i64 a0_8, .bool a0_9, .int .i64 a0_10, .int .i64 a0_11] 30 (0, 0)) (by (with_reducible repeat (first | refine blk_drewN ?_ _ | refine blk_drew ?_ | refine blk_alloc ?_ _)); exact BK123.out) hb)
  have n2_ := Aside0.mk (blk_below (g := gb124) (o := .cells #[.int .i64 a1_0, .int .i64 a1_1, .int .i64 a1_2, .int .i64 a1_3, .int .u64 a1_4, .bool a1_5] 32 (0, 0)) (by (with_reducible repeat (first | refine blk_drewN ?_ _ | refine blk_drew ?_ | refine blk_alloc ?_ _)); exact BK124.out) hb)
  have n3_ := Aside0.mk (below_step (by repeat (first | (with_reducible first | exact HB.out | apply below_alloc | apply pw_below_drewN | apply below_drew1 | refine below_set ?_ GE123.out | refine below_set ?_ GE124.out) | exact HB.out)) hb)
  clear BK123
  clear BK124
  clear HB
  have HO137 := n0_
  have BK123 := n1_
  have BK124 := n2_
  have HB := n3_
  clear n0_ n1_ n2_ n3_
  clear hb ho29
  refine hK.out _ _ ⟨(blk_cell BK123.out 0).trans rfl, (blk_cell BK123.out 1).trans rfl, (blk_cell BK123.out 2).trans rfl, (blk_cell BK123.out 3).trans rfl, (blk_cell BK123.out 4).trans rfl, (blk_cell BK123.out 5).trans rfl, (blk_cell BK123.out 6).trans rfl, (blk_cell BK123.out 7).trans rfl, (blk_cell BK123.out 8).trans rfl, (blk_cell BK123.out 9).trans rfl, (blk_cell BK123.out 10).trans rfl, (blk_cell BK123.out 11).trans rfl, (blk_cell BK124.out 0).trans rfl, (blk_cell BK124.out 1).trans rfl, (blk_cell BK124.out 2).trans rfl, (blk_cell BK124.out 3).trans rfl, (blk_cell BK124.out 4).trans rfl, (blk_cell BK124.out 5).trans rfl⟩ (fun hHeld => ?_)
  clear hK K
  refine norm_ (a' := ?_) ?_ ?_
  rotate_left
  · show Act.put _ (some 47) _ = _
    simp only [Act.put, List.setIfInBounds_toArray, List.set_cons_zero, List.set_cons_succ, i64_w, i32_w]
    rfl
  refine pure_ (i := 39) (N := some 8) (v := ?_) (a' := ?_) #[true, true, true, true, true, true, true, true, true, true, true, true, true, true, true, true, true, true, true, true, true, true, true, true, true, true, true, true, true, true, true, true, true, true, true, true, true, true, true, true] rfl rfl (any_of HT_.out (by kernel_rfl)) (fun _ _ _ h => h) (Or.inl ⟨by rfl, ?_⟩) ?_ ?_
  rotate_left
  · intro w'
    go_simp
    with_reducible rfl
  rotate_left
  · simp only [Act.put, List.setIfInBounds_toArray, List.set_cons_zero, List.set_cons_succ, i64_w, i32_w]
    rfl
  refine done_ (done_of HT_.out (by kernel_rfl)) ?_
  try go_wp2
  go_ret
  exact ⟨_, by first | rfl | (simp [errW_none, errW_some] <;> rfl) | (simp [*, errW_none, errW_some] <;> rfl), by (with_reducible repeat (first | apply Kd.R_alloc | apply Kd.R_drewN | apply Kd.R_drew)); exact HO137.out, by repeat (first | (with_reducible first | exact HB.out | apply below_alloc | apply pw_below_drewN | apply below_drew1 | refine below_set ?_ GE123.out | refine below_set ?_ GE124.out) | exact HB.out)⟩

/-! ### foliotlaw19_sameVars: function 6 -/
def foliotlaw19_sameVars.l0 : Nat → List (S51) → List (S51) → Int → Option (Bool)
  | 0, _, _, _ => none
  | k + 1, x0, x1, x5 => if x5 < (x0.length : Int) then (if 0 ≤ x5 then (if x5 < (x1.length : Int) then (if (!((((rd_T51 x0 x5).f0).toList) == (((rd_T51 x1 x5).f0).toList)) || (!((((rd_T51 x0 x5).f1).toList) == (((rd_T51 x1 x5).f1).toList)))) = true then (some false) else (foliotlaw19_sameVars.l0 k x0 x1 (wrap64 (x5 + 1)))) else (none)) else (none)) else (some true)
def foliotlaw19_sameVars.f (k : Nat) (l0 : List (S51)) (l1 : List (S51)) : Option (Bool) := if (l0.length : Int) = (l1.length : Int) then (foliotlaw19_sameVars.l0 k l0 l1 0) else (some false)
theorem foliotlaw19_sameVars.mono_l : ∀ k, (∀ y0 y1 y2, LeO (foliotlaw19_sameVars.l0 k y0 y1 y2) (foliotlaw19_sameVars.l0 (k + 1) y0 y1 y2))
  | 0 => fun _ _ _ r h => by simp [foliotlaw19_sameVars.l0] at h
  | k + 1 => by
    have ih0 := foliotlaw19_sameVars.mono_l k
    · intro y0 y1 y2
      unfold foliotlaw19_sameVars.l0
      repeat' first
      | (with_reducible exact ih0 _ _ _)
      | (with_reducible exact LeO.refl _)
      | (with_reducible exact LeO.none _)
      | (with_reducible refine LeO.ite ?_ ?_)
      | (with_reducible refine LeO.bind ?_ (fun _ => ?_))
      | exact ih0 _ _ _
      | exact LeO.none _
      | refine LeO.ite ?_ ?_
      | refine LeO.bind ?_ (fun _ => ?_)
theorem foliotlaw19_sameVars.mono : ∀ a0 a1 k, LeO (foliotlaw19_sameVars.f k a0 a1) (foliotlaw19_sameVars.f (k + 1) a0 a1) := by
  intro a0 a1 k
  have ih0 := foliotlaw19_sameVars.mono_l k
  unfold foliotlaw19_sameVars.f
  repeat' first
      | (with_reducible exact ih0 _ _ _)
      | (with_reducible exact LeO.refl _)
      | (with_reducible exact LeO.none _)
      | (with_reducible refine LeO.ite ?_ ?_)
      | (with_reducible refine LeO.bind ?_ (fun _ => ?_))
      | exact ih0 _ _ _
      | exact LeO.none _
      | refine LeO.ite ?_ ?_
      | refine LeO.bind ?_ (fun _ => ?_)
set_option maxHeartbeats 8000000 in
set_option maxRecDepth 100000 in
theorem foliotlaw19_sameVars.calls (k : Nat) (A0 : Option Addr) (c0 : Nat) (l0 : List (S51)) (A1 : Option Addr) (c1 : Nat) (l1 : List (S51)) (r : Bool) (w : World) (hr0 : Kd.C k51 w A0 l0.length l0) (hc0 : l0.length ≤ c0) (hr1 : Kd.C k51 w A1 l1.length l1) (hc1 : l1.length ≤ c1) (h : foliotlaw19_sameVars.f k l0 l1 = some r) :
    Calls Tryd.prog 6 #[.slice A0 l0.length c0, .slice A1 l1.length c1] w fun e w' => e = .returned (.bool r) ∧ Drawn0 w w' := by
  have hu51 := Tryd.underlying51
  have HR0 := Aside0.mk hr0
  have HC0 := Aside0.mk hc0
  clear hr0 hc0
  have HR1 := Aside0.mk hr1
  have HC1 := Aside0.mk hc1
  clear hr1 hc1
  have H : (if (l0.length : Int) = (l1.length : Int) then (foliotlaw19_sameVars.l0 k l0 l1 0) else (some false)) = some r := h
  clear h
  by_cases c3 : (l0.length : Int) = (l1.length : Int)
  · rw [if_pos c3] at H
    have c3b0 : ((l0.length : Int) == (l1.length : Int)) = true := beq_iff_eq.mpr c3
    have c3b1 : ((l0.length : Int) != (l1.length : Int)) = false := bne_eq_false_iff_eq.mpr c3
    have c3b2 : (l0.length == l1.length) = true := by first | simpa using c3 | (simp at c3 ⊢; omega)
    clear c3
    have H' := Aside0.mk H
    clear H
    go_enter Tryd.func6, Tryd.ntmps6
    go_wp2
    repeat (go_quiet (fail); try go_wp2)
    go_loopg [5] k (fun kq v5 w' => ∃ (x5_1 : Int), v5 = .int .i64 x5_1 ∧ Aside0 (foliotlaw19_sameVars.l0 kq l0 l1 x5_1 = some r) ∧ Aside0 (kq ≤ k) ∧ Drawn0 w w')
    case atStart => exact ⟨(0), (by first | rfl | (simp; done) | (simp [*]; done)), H', ⟨Nat.le_refl _⟩, by repeat (first | exact Drawn0.refl _ | apply Drawn0.step)⟩
    case round =>
      clear H'
      try clear c1
      try clear p2
      try clear c3
      try clear c3b0
      try clear c3b1
      try clear c3b2
      obtain ⟨x5_1, rfl, HA, HK1, ⟨m1, rfl⟩⟩ := hrel
      cases gk with
      | zero => exact absurd HA.out (by simp [foliotlaw19_sameVars.l0])
      | succ k1 =>
        have H := HA.out
        clear HA
        simp only [foliotlaw19_sameVars.l0] at H
        by_cases c4 : x5_1 < (l0.length : Int)
        · rw [if_pos c4] at H
          have c4b0 : decide (x5_1 < (l0.length : Int)) = true := decide_eq_true c4
          clear c4
          by_cases c5 : 0 ≤ x5_1
          · rw [if_pos c5] at H
            have c5b0 : decide (0 ≤ x5_1) = true := decide_eq_true c5
            clear c5
            by_cases c6 : x5_1 < (l1.length : Int)
            · rw [if_pos c6] at H
              have c6b0 : decide (x5_1 < (l1.length : Int)) = true := decide_eq_true c6
              clear c6
              by_cases c7 : (!((((rd_T51 l0 x5_1).f0).toList) == (((rd_T51 l1 x5_1).f0).toList)) || (!((((rd_T51 l0 x5_1).f1).toList) == (((rd_T51 l1 x5_1).f1).toList)))) = true
              · rw [if_pos c7] at H
                have c7b0 : (!((((rd_T51 l0 x5_1).f0).toList) == (((rd_T51 l1 x5_1).f0).toList)) || (!((((rd_T51 l0 x5_1).f1).toList) == (((rd_T51 l1 x5_1).f1).toList)))) = true := c7
                clear c7
                obtain rfl := Option.some.inj H
                have p138 : 0 ≤ (x5_1 : Int) := of_decide_eq_true (by first | (with_reducible assumption) | assumption)
                have q138 : x5_1 < (l0.length : Int) := of_decide_eq_true (by first | (with_reducible assumption) | assumption)
                obtain ⟨ad138, e138, hx138_0, hx138_1⟩ := at_T51 HR0.out x5_1 p138 q138
                cases e138
                replace p138 := eq_true p138
                replace q138 := eq_true q138
                have p139 : 0 ≤ (x5_1 : Int) := of_decide_eq_true (by first | (with_reducible assumption) | assumption)
                have q139 : x5_1 < (l1.length : Int) := of_decide_eq_true (by first | (with_reducible assumption) | assumption)
                obtain ⟨ad139, e139, hx139_0, hx139_1⟩ := at_T51 HR1.out x5_1 p139 q139
                cases e139
                replace p139 := eq_true p139
                replace q139 := eq_true q139
                go_wp2
                repeat (go_quiet (fail); try go_wp2)
                go_ret
                exact ⟨by first | rfl | (simp; done) | (simp [*]; done), by repeat (first | exact Drawn0.refl _ | apply Drawn0.step)⟩
              · rw [if_neg c7] at H
                have c7b0 : (!((((rd_T51 l0 x5_1).f0).toList) == (((rd_T51 l1 x5_1).f0).toList)) || (!((((rd_T51 l0 x5_1).f1).toList) == (((rd_T51 l1 x5_1).f1).toList)))) = false := by simpa using c7
                clear c7
                have H' := Aside0.mk H
                clear H
                have p138 : 0 ≤ (x5_1 : Int) := of_decide_eq_true (by first | (with_reducible assumption) | assumption)
                have q138 : x5_1 < (l0.length : Int) := of_decide_eq_true (by first | (with_reducible assumption) | assumption)
                obtain ⟨ad138, e138, hx138_0, hx138_1⟩ := at_T51 HR0.out x5_1 p138 q138
                cases e138
                replace p138 := eq_true p138
                replace q138 := eq_true q138
                have p139 : 0 ≤ (x5_1 : Int) := of_decide_eq_true (by first | (with_reducible assumption) | assumption)
                have q139 : x5_1 < (l1.length : Int) := of_decide_eq_true (by first | (with_reducible assumption) | assumption)
                obtain ⟨ad139, e139, hx139_0, hx139_1⟩ := at_T51 HR1.out x5_1 p139 q139
                cases e139
                replace p139 := eq_true p139
                replace q139 := eq_true q139
                go_wp2
                repeat (go_quiet (fail); try go_wp2)
                go_roundg k1
                case measure => have := HK1.out; omega
                case rel => exact ⟨(wrap64 (x5_1 + 1)), (by first | rfl | (simp; done) | (simp [*]; done)), H', ⟨by have := HK1.out; omega⟩, by repeat (first | exact Drawn0.refl _ | apply Drawn0.step)⟩
            · rw [if_neg c6] at H
              exact absurd H (by simp)
          · rw [if_neg c5] at H
            exact absurd H (by simp)
        · rw [if_neg c4] at H
          have c4b0 : decide (x5_1 < (l0.length : Int)) = false := decide_eq_false c4
          clear c4
          obtain rfl := Option.some.inj H
          go_wp2
          repeat (go_quiet (fail); try go_wp2)
          go_ret
          exact ⟨by first | rfl | (simp; done) | (simp [*]; done), by repeat (first | exact Drawn0.refl _ | apply Drawn0.step)⟩
  · rw [if_neg c3] at H
    have c3b0 : ((l0.length : Int) == (l1.length : Int)) = false := beq_eq_false_iff_ne.mpr c3
    have c3b1 : ((l0.length : Int) != (l1.length : Int)) = true := bne_iff_ne.mpr c3
    have c3b2 : (l0.length == l1.length) = false := by first | simpa using c3 | (simp at c3 ⊢; omega)
    obtain rfl := Option.some.inj H
    go_enter Tryd.func6, Tryd.ntmps6
    go_wp2
    repeat (go_quiet (fail); try go_wp2)
    go_ret
    exact ⟨by first | rfl | (simp; done) | (simp [*]; done), by repeat (first | exact Drawn0.refl _ | apply Drawn0.step)⟩

/-! ### foliotlaw19_ours: function 7 -/
def foliotlaw19_ours.l0 : Nat → List (S54) → List (S51) → Int → Option ((List (S51)))
  | 0, _, _, _ => none
  | k + 1, x0, x3, x4 => if x4 < (x0.length : Int) then (if 0 ≤ x4 then (if x3.length < 4398046511104 then (foliotlaw19_ours.l0 k x0 (x3 ++ [(⟨(rd_T54 x0 x4).f0, (rd_T54 x0 x4).f1⟩ : S51)]) (wrap64 (x4 + 1))) else (none)) else (none)) else (some x3)
def foliotlaw19_ours.f (k : Nat) (l0 : List (S54)) : Option ((List (S51))) := foliotlaw19_ours.l0 k l0 (([] : List (S51))) 0
theorem foliotlaw19_ours.mono_l : ∀ k, (∀ y0 y1 y2, LeO (foliotlaw19_ours.l0 k y0 y1 y2) (foliotlaw19_ours.l0 (k + 1) y0 y1 y2))
  | 0 => fun _ _ _ r h => by simp [foliotlaw19_ours.l0] at h
  | k + 1 => by
    have ih0 := foliotlaw19_ours.mono_l k
    · intro y0 y1 y2
      unfold foliotlaw19_ours.l0
      repeat' first
      | (with_reducible exact ih0 _ _ _)
      | (with_reducible exact LeO.refl _)
      | (with_reducible exact LeO.none _)
      | (with_reducible refine LeO.ite ?_ ?_)
      | (with_reducible refine LeO.bind ?_ (fun _ => ?_))
      | exact ih0 _ _ _
      | exact LeO.none _
      | refine LeO.ite ?_ ?_
      | refine LeO.bind ?_ (fun _ => ?_)
theorem foliotlaw19_ours.mono : ∀ a0 k, LeO (foliotlaw19_ours.f k a0) (foliotlaw19_ours.f (k + 1) a0) := by
  intro a0 k
  have ih0 := foliotlaw19_ours.mono_l k
  unfold foliotlaw19_ours.f
  repeat' first
      | (with_reducible exact ih0 _ _ _)
      | (with_reducible exact LeO.refl _)
      | (with_reducible exact LeO.none _)
      | (with_reducible refine LeO.ite ?_ ?_)
      | (with_reducible refine LeO.bind ?_ (fun _ => ?_))
      | exact ih0 _ _ _
      | exact LeO.none _
      | refine LeO.ite ?_ ?_
      | refine LeO.bind ?_ (fun _ => ?_)
set_option maxHeartbeats 8000000 in
set_option maxRecDepth 100000 in
theorem foliotlaw19_ours.calls (k : Nat) (A0 : Option Addr) (c0 : Nat) (l0 : List (S54)) (r : List (S51)) (w : World) (hr0 : Kd.C k54 w A0 l0.length l0) (hc0 : l0.length ≤ c0) (h : foliotlaw19_ours.f k l0 = some r) :
    Calls Tryd.prog 7 #[.slice A0 l0.length c0] w fun e w' => ∃ v0_ : Value, e = .returned (v0_) ∧ Kd.R k51 51 w' w.heap.size (fun _ => True) v0_ r ∧ Below w.heap.size w w' := by
  have hu54 := Tryd.underlying54
  have HR0 := Aside0.mk hr0
  have HC0 := Aside0.mk hc0
  clear hr0 hc0
  have HB := Aside0.mk (Below.refl w.heap.size w)
  have H : (foliotlaw19_ours.l0 k l0 (([] : List (S51))) 0) = some r := h
  clear h
  obtain ⟨y140, hy140⟩ : ∃ y_ : List (S51), y_ = (([] : List (S51))) := ⟨_, rfl⟩
  replace H : (foliotlaw19_ours.l0 k l0 y140 0) = some r := by first | (rw [hy140]; with_reducible exact H) | (have H2_ := (Option.bind_some _ _).symm.trans H; rw [hy140]; with_reducible exact H2_) | (have H2_ := (Option.bind_some _ _).symm.trans H; with_reducible exact H2_) | with_reducible exact H | (rw [hy140]; exact H) | exact H
  have Ny140 := Aside0.mk hy140
  clear hy140
  have H' := Aside0.mk H
  clear H
  go_enter Tryd.func7, Tryd.ntmps7
  go_wp2_with (first | ((with_reducible refine gate_dst (N := 5) rfl ?_); refine Kd.R_lit k51 _ 51 ?hg (N := 5) ?hd (xs := ([] : List (S51))) (inner := []) (ok := fun _ => True) (okp := fun _ => True) ?hr ?hp (fun _ hk => hk) trivial (Below.refl _ _) (Nat.le_refl _) (by simp) ?_; (case hd => rfl); (case hg => rfl); (case hr => first | (go_simp; done) | (go_simp; rfl)); (case hp => exact (Reps.none _ _)); intro v141 w2 ho3 hb hg_ hnew_; clear hg_ hnew_; (first | rw [← Ny140.out] at ho3 | (simp only [Int.reduceToNat] at ho3; rw [← Ny140.out] at ho3)); have n0_ := Aside0.mk (Kd.R_lower ho3 (below_size (by repeat (first | (with_reducible first | exact HB.out | apply below_alloc | apply pw_below_drewN | apply below_drew1) | exact HB.out)))); have n1_ := Aside0.mk (below_step (by repeat (first | (with_reducible first | exact HB.out | apply below_alloc | apply pw_below_drewN | apply below_drew1) | exact HB.out)) hb); clear HB; have HO142 := n0_; have HB := n1_; clear n0_ n1_; clear hb ho3))
  go_loopg [3, 4] k (fun kq v3 v4 w' => ∃ (x3_1 : List (S51)) (x4_1 : Int), v4 = .int .i64 x4_1 ∧ Aside0 (foliotlaw19_ours.l0 kq l0 x3_1 x4_1 = some r) ∧ Aside0 (kq ≤ k) ∧ Aside0 (Kd.R k51 51 w' w.heap.size (fun _ => True) v3 x3_1) ∧ Aside0 (Below w.heap.size w w'))
  case atStart => exact ⟨(y140), (0), (by first | rfl | (simp; done) | (simp [*]; done)), H', ⟨Nat.le_refl _⟩, ⟨by (with_reducible repeat (first | apply Kd.R_alloc | apply Kd.R_drewN | apply Kd.R_drew)); exact HO142.out⟩, ⟨by repeat (first | (with_reducible first | exact HB.out | apply below_alloc | apply pw_below_drewN | apply below_drew1) | exact HB.out)⟩⟩
  case round =>
    clear H'
    try clear p2
    obtain ⟨x3_1, x4_1, rfl, HA, HK1, HO_3, HB⟩ := hrel
    cases gk with
    | zero => exact absurd HA.out (by simp [foliotlaw19_ours.l0])
    | succ k1 =>
      have H := HA.out
      clear HA
      simp only [foliotlaw19_ours.l0] at H
      by_cases c4 : x4_1 < (l0.length : Int)
      · rw [if_pos c4] at H
        have c4b0 : decide (x4_1 < (l0.length : Int)) = true := decide_eq_true c4
        clear c4
        by_cases c5 : 0 ≤ x4_1
        · rw [if_pos c5] at H
          have c5b0 : decide (0 ≤ x4_1) = true := decide_eq_true c5
          clear c5
          by_cases c6 : x3_1.length < 4398046511104
          · rw [if_pos c6] at H
            have LMc6 := Aside0.mk c6
            clear c6
            obtain ⟨y144, hy144⟩ : ∃ y_ : List (S51), y_ = (x3_1 ++ [(⟨(rd_T54 l0 x4_1).f0, (rd_T54 l0 x4_1).f1⟩ : S51)]) := ⟨_, rfl⟩
            replace H : (foliotlaw19_ours.l0 k1 l0 y144 (wrap64 (x4_1 + 1))) = some r := by first | (rw [hy144]; with_reducible exact H) | (have H2_ := (Option.bind_some _ _).symm.trans H; rw [hy144]; with_reducible exact H2_) | (have H2_ := (Option.bind_some _ _).symm.trans H; with_reducible exact H2_) | with_reducible exact H | (rw [hy144]; exact H) | exact H
            have Ny144 := Aside0.mk hy144
            clear hy144
            have H' := Aside0.mk H
            clear H
            have p143 : 0 ≤ (x4_1 : Int) := of_decide_eq_true (by first | (with_reducible assumption) | assumption)
            have q143 : x4_1 < (l0.length : Int) := of_decide_eq_true (by first | (with_reducible assumption) | assumption)
            obtain ⟨ad143, e143, hx143_0, hx143_1⟩ := at_T54 HR0.out x4_1 p143 q143
            cases e143
            replace hx143_0 := (HB.out.cell (World.block_lt_of_cell? w _ hx143_0)).trans hx143_0
            replace hx143_1 := (HB.out.cell (World.block_lt_of_cell? w _ hx143_1)).trans hx143_1
            replace p143 := eq_true p143
            replace q143 := eq_true q143
            go_wp2_with (first | ((with_reducible refine gate_builtin (b := .append) (xs := #[.tmp 12, .tmp 17]) rfl ?_); at_builtin; refine Kd.R_append k51 (w0 := w) w.heap.size rfl (.tmp 12) (.tmp 17) 35 51 (.agg #[(.string ⟨#[]⟩), (.string ⟨#[]⟩)]) 32 rfl Tryd.underlying35 info51 rfl (by decide) (by omega) u3 x3_1 (⟨(rd_T54 l0 x4_1).f0, (rd_T54 l0 x4_1).f1⟩ : S51) [.string ((rd_T54 l0 x4_1).f0), .string ((rd_T54 l0 x4_1).f1)] (fun _ => True) (fun _ => False) rfl rfl ?aP (fun _ hk => hk.elim) ?aF ?aO ?aB ?aS ?aL ?_; (case aP => exact k51_mkM _ _ _ (⟨(rd_T54 l0 x4_1).f0, (rd_T54 l0 x4_1).f1⟩ : S51)); (case aB => exact (by repeat (first | (with_reducible first | exact HB.out | apply below_alloc | apply pw_below_drewN | apply below_drew1) | exact HB.out))); (case aF => exact (fun _ _ => trivial)); (case aO => exact (by (with_reducible repeat (first | apply Kd.R_alloc | apply Kd.R_drewN | apply Kd.R_drew)); exact HO_3.out)); (case aS => exact (below_size (by repeat (first | (with_reducible first | exact HB.out | apply below_alloc | apply pw_below_drewN | apply below_drew1) | exact HB.out)))); (case aL => have := LMc6.out; omega); intro v145 w7 ho hb hg hat; rw [← Ny144.out] at ho; have n0_ := Aside0.mk (hb); have n1_ := Aside0.mk (ho); clear HB; clear HO_3; have HB := n0_; have HO146 := n1_; clear n0_ n1_; clear ho hb hg hat))
            go_roundg k1
            case measure => have := HK1.out; omega
            case rel => exact ⟨(y144), (wrap64 (x4_1 + 1)), (by first | rfl | (simp; done) | (simp [*]; done)), H', ⟨by have := HK1.out; omega⟩, ⟨by (with_reducible repeat (first | apply Kd.R_alloc | apply Kd.R_drewN | apply Kd.R_drew)); exact HO146.out⟩, ⟨by repeat (first | (with_reducible first | exact HB.out | apply below_alloc | apply pw_below_drewN | apply below_drew1) | exact HB.out)⟩⟩
          · rw [if_neg c6] at H
            exact absurd H (by simp)
        · rw [if_neg c5] at H
          exact absurd H (by simp)
      · rw [if_neg c4] at H
        have c4b0 : decide (x4_1 < (l0.length : Int)) = false := decide_eq_false c4
        clear c4
        obtain rfl := Option.some.inj H
        go_wp2
        go_ret
        exact ⟨_, by first | rfl | (simp [errW_none, errW_some] <;> rfl) | (simp [*, errW_none, errW_some] <;> rfl), by (with_reducible repeat (first | apply Kd.R_alloc | apply Kd.R_drewN | apply Kd.R_drew)); exact HO_3.out, by repeat (first | (with_reducible first | exact HB.out | apply below_alloc | apply pw_below_drewN | apply below_drew1) | exact HB.out)⟩

end Go.Proofs.YtpclhceafigibaaDoor.PVars
