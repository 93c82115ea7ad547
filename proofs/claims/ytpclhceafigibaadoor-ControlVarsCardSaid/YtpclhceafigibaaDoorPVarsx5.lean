/- Functions and contracts, printed by a program over the kit's print (wip/fprint.py): some callees' contracts are typed by hand in texts of their own. -/
import Derived.Test.YtpclhceafigibaaDoorPVarsx0
import Derived.Test.YtpclhceafigibaaDoorPVarsx4
namespace Go.Proofs.YtpclhceafigibaaDoor.PVars
open Go.RowKit Go.Proofs.YtpclhceafigibaaDoorW.PrintWords Go.Proofs.YtpclhceafigibaaDoorW.PrintLast Go.Proofs.YtpclhceafigibaaDoorW.PrintMore
attribute [local go_sem] max2_int min2_int max_two min_two max_three min_three max_four min_four   -- for this text's walks alone
set_option linter.unusedVariables false
set_option linter.unusedSimpArgs false

/-! ### foliotref19_PeerVars: function 9 -/
def foliotref19_PeerVars.f (k : Nat) (a0_0 : Int) (a0_1 : Int) (a0_2 : Int) (a0_3 : Int) (a0_4 : Int) (a0_5 : Bool) (a0_6 : Bool) (a0_7 : Bool) (a0_8 : Int) (a0_9 : Bool) (a0_10 : Int) (a0_11 : Int) (a1_0 : Int) (a1_1 : Int) (a1_2 : Int) (a1_3 : Int) (a1_4 : Int) (a1_5 : Bool) (a2 : Int) (a3 : Int) : Option ((List (S54))) := (foliotref05_PrintAddr.f k a0_1).bind fun t215 => ((foliotref19_put.f (([] : List (S54))) (⟨#[115, 114, 99, 97, 100, 114]⟩ : ByteArray) t215).bind fun t216 => ((foliotref19_Number.f k a0_0).bind fun t219 => ((foliotref19_put.f t216 (⟨#[107, 105, 110, 100]⟩ : ByteArray) t219).bind fun t220 => ((foliotref19_Number.f k a3).bind fun t223 => ((foliotref19_put.f t220 (⟨#[115, 116, 114, 97, 116, 117, 109]⟩ : ByteArray) t223).bind fun t224 => ((foliotref19_Number.f k a2).bind fun t227 => ((foliotref19_put.f t224 (⟨#[114, 101, 97, 99, 104]⟩ : ByteArray) t227).bind fun t228 => ((foliotref19_Number.f k a0_3).bind fun t231 => ((foliotref19_put.f t228 (⟨#[104, 112, 111, 108, 108]⟩ : ByteArray) t231).bind fun t232 => ((foliotref19_Number.f k a0_2).bind fun t235 => ((foliotref19_put.f t232 (⟨#[107, 101, 121]⟩ : ByteArray) t235).bind fun t236 => ((foliotref19_Number.f k a1_0).bind fun t239 => ((foliotref19_put.f t236 (⟨#[111, 102, 102, 115, 101, 116]⟩ : ByteArray) t239).bind fun t240 => ((foliotref19_Number.f k a1_1).bind fun t243 => ((foliotref19_put.f t240 (⟨#[100, 101, 108, 97, 121]⟩ : ByteArray) t243).bind fun t244 => ((foliotref19_Number.f k a1_2).bind fun t247 => ((foliotref19_put.f t244 (⟨#[100, 105, 115, 112, 101, 114, 115, 105, 111, 110]⟩ : ByteArray) t247).bind fun t248 => ((foliotref19_Number.f k a1_3).bind fun t251 => ((foliotref19_put.f t248 (⟨#[106, 105, 116, 116, 101, 114]⟩ : ByteArray) t251).bind fun t252 => (some t252))))))))))))))))))))
theorem foliotref19_PeerVars.mono : ∀ a0 a1 a2 a3 a4 a5 a6 a7 a8 a9 a10 a11 a12 a13 a14 a15 a16 a17 a18 a19 k, LeO (foliotref19_PeerVars.f k a0 a1 a2 a3 a4 a5 a6 a7 a8 a9 a10 a11 a12 a13 a14 a15 a16 a17 a18 a19) (foliotref19_PeerVars.f (k + 1) a0 a1 a2 a3 a4 a5 a6 a7 a8 a9 a10 a11 a12 a13 a14 a15 a16 a17 a18 a19) := by
  intro a0 a1 a2 a3 a4 a5 a6 a7 a8 a9 a10 a11 a12 a13 a14 a15 a16 a17 a18 a19 k
  unfold foliotref19_PeerVars.f
  repeat' first
      | (with_reducible exact foliotref05_PrintAddr.mono _ _)
      | (with_reducible exact foliotref19_Number.mono _ _)
      | (with_reducible exact LeO.refl _)
      | (with_reducible exact LeO.none _)
      | (with_reducible refine LeO.ite ?_ ?_)
      | (with_reducible refine LeO.bind ?_ (fun _ => ?_))
      | exact foliotref05_PrintAddr.mono _ _
      | exact foliotref19_Number.mono _ _
      | exact LeO.none _
      | refine LeO.ite ?_ ?_
      | refine LeO.bind ?_ (fun _ => ?_)
set_option maxHeartbeats 8000000 in
set_option maxRecDepth 100000 in
theorem foliotref19_PeerVars.calls (k : Nat) (a0_0 : Int) (a0_1 : Int) (a0_2 : Int) (a0_3 : Int) (a0_4 : Int) (a0_5 : Bool) (a0_6 : Bool) (a0_7 : Bool) (a0_8 : Int) (a0_9 : Bool) (a0_10 : Int) (a0_11 : Int) (a1_0 : Int) (a1_1 : Int) (a1_2 : Int) (a1_3 : Int) (a1_4 : Int) (a1_5 : Bool) (a2 : Int) (a3 : Int) (r : List (S54)) (w : World) (h : foliotref19_PeerVars.f k a0_0 a0_1 a0_2 a0_3 a0_4 a0_5 a0_6 a0_7 a0_8 a0_9 a0_10 a0_11 a1_0 a1_1 a1_2 a1_3 a1_4 a1_5 a2 a3 = some r) :
    Calls Tryd.prog 9 #[.agg #[.int .i64 a0_0, .int .u32 a0_1, .int .i64 a0_2, .int .i64 a0_3, .int .i64 a0_4, .bool a0_5, .bool a0_6, .bool a0_7, .int .i64 a0_8, .bool a0_9, .int .i64 a0_10, .int .i64 a0_11], .agg #[.int .i64 a1_0, .int .i64 a1_1, .int .i64 a1_2, .int .i64 a1_3, .int .u64 a1_4, .bool a1_5], .int .i64 a2, .int .i64 a3] w fun e w' => ∃ v0_ : Value, e = .returned (v0_) ∧ Kd.R k54 54 w' w.heap.size (fun _ => True) v0_ r ∧ Below w.heap.size w w' := by
  have hu30 := Tryd.underlying30
  have hu32 := Tryd.underlying32
  have HB := Aside0.mk (Below.refl w.heap.size w)
  have H : ((foliotref05_PrintAddr.f k a0_1).bind fun t215 => ((foliotref19_put.f (([] : List (S54))) (⟨#[115, 114, 99, 97, 100, 114]⟩ : ByteArray) t215).bind fun t216 => ((foliotref19_Number.f k a0_0).bind fun t219 => ((foliotref19_put.f t216 (⟨#[107, 105, 110, 100]⟩ : ByteArray) t219).bind fun t220 => ((foliotref19_Number.f k a3).bind fun t223 => ((foliotref19_put.f t220 (⟨#[115, 116, 114, 97, 116, 117, 109]⟩ : ByteArray) t223).bind fun t224 => ((foliotref19_Number.f k a2).bind fun t227 => ((foliotref19_put.f t224 (⟨#[114, 101, 97, 99, 104]⟩ : ByteArray) t227).bind fun t228 => ((foliotref19_Number.f k a0_3).bind fun t231 => ((foliotref19_put.f t228 (⟨#[104, 112, 111, 108, 108]⟩ : ByteArray) t231).bind fun t232 => ((foliotref19_Number.f k a0_2).bind fun t235 => ((foliotref19_put.f t232 (⟨#[107, 101, 121]⟩ : ByteArray) t235).bind fun t236 => ((foliotref19_Number.f k a1_0).bind fun t239 => ((foliotref19_put.f t236 (⟨#[111, 102, 102, 115, 101, 116]⟩ : ByteArray) t239).bind fun t240 => ((foliotref19_Number.f k a1_1).bind fun t243 => ((foliotref19_put.f t240 (⟨#[100, 101, 108, 97, 121]⟩ : ByteArray) t243).bind fun t244 => ((foliotref19_Number.f k a1_2).bind fun t247 => ((foliotref19_put.f t244 (⟨#[100, 105, 115, 112, 101, 114, 115, 105, 111, 110]⟩ : ByteArray) t247).bind fun t248 => ((foliotref19_Number.f k a1_3).bind fun t251 => ((foliotref19_put.f t248 (⟨#[106, 105, 116, 116, 101, 114]⟩ : ByteArray) t251).bind fun t252 => (some t252))))))))))))))))))))) = some r := h
  clear h
  obtain ⟨y212, hy212⟩ : ∃ y_ : List (S54), y_ = (([] : List (S54))) := ⟨_, rfl⟩
  replace H : ((foliotref05_PrintAddr.f k a0_1).bind fun t215 => ((foliotref19_put.f y212 (⟨#[115, 114, 99, 97, 100, 114]⟩ : ByteArray) t215).bind fun t216 => ((foliotref19_Number.f k a0_0).bind fun t219 => ((foliotref19_put.f t216 (⟨#[107, 105, 110, 100]⟩ : ByteArray) t219).bind fun t220 => ((foliotref19_Number.f k a3).bind fun t223 => ((foliotref19_put.f t220 (⟨#[115, 116, 114, 97, 116, 117, 109]⟩ : ByteArray) t223).bind fun t224 => ((foliotref19_Number.f k a2).bind fun t227 => ((foliotref19_put.f t224 (⟨#[114, 101, 97, 99, 104]⟩ : ByteArray) t227).bind fun t228 => ((foliotref19_Number.f k a0_3).bind fun t231 => ((foliotref19_put.f t228 (⟨#[104, 112, 111, 108, 108]⟩ : ByteArray) t231).bind fun t232 => ((foliotref19_Number.f k a0_2).bind fun t235 => ((foliotref19_put.f t232 (⟨#[107, 101, 121]⟩ : ByteArray) t235).bind fun t236 => ((foliotref19_Number.f k a1_0).bind fun t239 => ((foliotref19_put.f t236 (⟨#[111, 102, 102, 115, 101, 116]⟩ : ByteArray) t239).bind fun t240 => ((foliotref19_Number.f k a1_1).bind fun t243 => ((foliotref19_put.f t240 (⟨#[100, 101, 108, 97, 121]⟩ : ByteArray) t243).bind fun t244 => ((foliotref19_Number.f k a1_2).bind fun t247 => ((foliotref19_put.f t244 (⟨#[100, 105, 115, 112, 101, 114, 115, 105, 111, 110]⟩ : ByteArray) t247).bind fun t248 => ((foliotref19_Number.f k a1_3).bind fun t251 => ((foliotref19_put.f t248 (⟨#[106, 105, 116, 116, 101, 114]⟩ : ByteArray) t251).bind fun t252 => (some t252))))))))))))))))))))) = some r := by first | (rw [hy212]; with_reducible exact H) | (have H2_ := (Option.bind_some _ _).symm.trans H; rw [hy212]; with_reducible exact H2_) | (have H2_ := (Option.bind_some _ _).symm.trans H; with_reducible exact H2_) | with_reducible exact H | (rw [hy212]; exact H) | exact H
  have Ny212 := Aside0.mk hy212
  clear hy212
  replace H := Option.bind_eq_some_iff.mp H
  obtain ⟨t215, A50, H⟩ := H
  replace H : ((foliotref19_put.f y212 (⟨#[115, 114, 99, 97, 100, 114]⟩ : ByteArray) t215).bind fun t216 => ((foliotref19_Number.f k a0_0).bind fun t219 => ((foliotref19_put.f t216 (⟨#[107, 105, 110, 100]⟩ : ByteArray) t219).bind fun t220 => ((foliotref19_Number.f k a3).bind fun t223 => ((foliotref19_put.f t220 (⟨#[115, 116, 114, 97, 116, 117, 109]⟩ : ByteArray) t223).bind fun t224 => ((foliotref19_Number.f k a2).bind fun t227 => ((foliotref19_put.f t224 (⟨#[114, 101, 97, 99, 104]⟩ : ByteArray) t227).bind fun t228 => ((foliotref19_Number.f k a0_3).bind fun t231 => ((foliotref19_put.f t228 (⟨#[104, 112, 111, 108, 108]⟩ : ByteArray) t231).bind fun t232 => ((foliotref19_Number.f k a0_2).bind fun t235 => ((foliotref19_put.f t232 (⟨#[107, 101, 121]⟩ : ByteArray) t235).bind fun t236 => ((foliotref19_Number.f k a1_0).bind fun t239 => ((foliotref19_put.f t236 (⟨#[111, 102, 102, 115, 101, 116]⟩ : ByteArray) t239).bind fun t240 => ((foliotref19_Number.f k a1_1).bind fun t243 => ((foliotref19_put.f t240 (⟨#[100, 101, 108, 97, 121]⟩ : ByteArray) t243).bind fun t244 => ((foliotref19_Number.f k a1_2).bind fun t247 => ((foliotref19_put.f t244 (⟨#[100, 105, 115, 112, 101, 114, 115, 105, 111, 110]⟩ : ByteArray) t247).bind fun t248 => ((foliotref19_Number.f k a1_3).bind fun t251 => ((foliotref19_put.f t248 (⟨#[106, 105, 116, 116, 101, 114]⟩ : ByteArray) t251).bind fun t252 => (some t252)))))))))))))))))))) = some r := H
  have A5 := Aside0.mk A50
  clear A50
  replace H := Option.bind_eq_some_iff.mp H
  obtain ⟨t216, A60, H⟩ := H
  replace H : ((foliotref19_Number.f k a0_0).bind fun t219 => ((foliotref19_put.f t216 (⟨#[107, 105, 110, 100]⟩ : ByteArray) t219).bind fun t220 => ((foliotref19_Number.f k a3).bind fun t223 => ((foliotref19_put.f t220 (⟨#[115, 116, 114, 97, 116, 117, 109]⟩ : ByteArray) t223).bind fun t224 => ((foliotref19_Number.f k a2).bind fun t227 => ((foliotref19_put.f t224 (⟨#[114, 101, 97, 99, 104]⟩ : ByteArray) t227).bind fun t228 => ((foliotref19_Number.f k a0_3).bind fun t231 => ((foliotref19_put.f t228 (⟨#[104, 112, 111, 108, 108]⟩ : ByteArray) t231).bind fun t232 => ((foliotref19_Number.f k a0_2).bind fun t235 => ((foliotref19_put.f t232 (⟨#[107, 101, 121]⟩ : ByteArray) t235).bind fun t236 => ((foliotref19_Number.f k a1_0).bind fun t239 => ((foliotref19_put.f t236 (⟨#[111, 102, 102, 115, 101, 116]⟩ : ByteArray) t239).bind fun t240 => ((foliotref19_Number.f k a1_1).bind fun t243 => ((foliotref19_put.f t240 (⟨#[100, 101, 108, 97, 121]⟩ : ByteArray) t243).bind fun t244 => ((foliotref19_Number.f k a1_2).bind fun t247 => ((foliotref19_put.f t244 (⟨#[100, 105, 115, 112, 101, 114, 115, 105, 111, 110]⟩ : ByteArray) t247).bind fun t248 => ((foliotref19_Number.f k a1_3).bind fun t251 => ((foliotref19_put.f t248 (⟨#[106, 105, 116, 116, 101, 114]⟩ : ByteArray) t251).bind fun t252 => (some t252))))))))))))))))))) = some r := H
  have A6 := Aside0.mk A60
  clear A60
  replace H := Option.bind_eq_some_iff.mp H
  obtain ⟨t219, A70, H⟩ := H
  replace H : ((foliotref19_put.f t216 (⟨#[107, 105, 110, 100]⟩ : ByteArray) t219).bind fun t220 => ((foliotref19_Number.f k a3).bind fun t223 => ((foliotref19_put.f t220 (⟨#[115, 116, 114, 97, 116, 117, 109]⟩ : ByteArray) t223).bind fun t224 => ((foliotref19_Number.f k a2).bind fun t227 => ((foliotref19_put.f t224 (⟨#[114, 101, 97, 99, 104]⟩ : ByteArray) t227).bind fun t228 => ((foliotref19_Number.f k a0_3).bind fun t231 => ((foliotref19_put.f t228 (⟨#[104, 112, 111, 108, 108]⟩ : ByteArray) t231).bind fun t232 => ((foliotref19_Number.f k a0_2).bind fun t235 => ((foliotref19_put.f t232 (⟨#[107, 101, 121]⟩ : ByteArray) t235).bind fun t236 => ((foliotref19_Number.f k a1_0).bind fun t239 => ((foliotref19_put.f t236 (⟨#[111, 102, 102, 115, 101, 116]⟩ : ByteArray) t239).bind fun t240 => ((foliotref19_Number.f k a1_1).bind fun t243 => ((foliotref19_put.f t240 (⟨#[100, 101, 108, 97, 121]⟩ : ByteArray) t243).bind fun t244 => ((foliotref19_Number.f k a1_2).bind fun t247 => ((foliotref19_put.f t244 (⟨#[100, 105, 115, 112, 101, 114, 115, 105, 111, 110]⟩ : ByteArray) t247).bind fun t248 => ((foliotref19_Number.f k a1_3).bind fun t251 => ((foliotref19_put.f t248 (⟨#[106, 105, 116, 116, 101, 114]⟩ : ByteArray) t251).bind fun t252 => (some t252)))))))))))))))))) = some r := H
  have A7 := Aside0.mk A70
  clear A70
  replace H := Option.bind_eq_some_iff.mp H
  obtain ⟨t220, A80, H⟩ := H
  replace H : ((foliotref19_Number.f k a3).bind fun t223 => ((foliotref19_put.f t220 (⟨#[115, 116, 114, 97, 116, 117, 109]⟩ : ByteArray) t223).bind fun t224 => ((foliotref19_Number.f k a2).bind fun t227 => ((foliotref19_put.f t224 (⟨#[114, 101, 97, 99, 104]⟩ : ByteArray) t227).bind fun t228 => ((foliotref19_Number.f k a0_3).bind fun t231 => ((foliotref19_put.f t228 (⟨#[104, 112, 111, 108, 108]⟩ : ByteArray) t231).bind fun t232 => ((foliotref19_Number.f k a0_2).bind fun t235 => ((foliotref19_put.f t232 (⟨#[107, 101, 121]⟩ : ByteArray) t235).bind fun t236 => ((foliotref19_Number.f k a1_0).bind fun t239 => ((foliotref19_put.f t236 (⟨#[111, 102, 102, 115, 101, 116]⟩ : ByteArray) t239).bind fun t240 => ((foliotref19_Number.f k a1_1).bind fun t243 => ((foliotref19_put.f t240 (⟨#[100, 101, 108, 97, 121]⟩ : ByteArray) t243).bind fun t244 => ((foliotref19_Number.f k a1_2).bind fun t247 => ((foliotref19_put.f t244 (⟨#[100, 105, 115, 112, 101, 114, 115, 105, 111, 110]⟩ : ByteArray) t247).bind fun t248 => ((foliotref19_Number.f k a1_3).bind fun t251 => ((foliotref19_put.f t248 (⟨#[106, 105, 116, 116, 101, 114]⟩ : ByteArray) t251).bind fun t252 => (some t252))))))))))))))))) = some r := H
  have A8 := Aside0.mk A80
  clear A80
  replace H := Option.bind_eq_some_iff.mp H
  obtain ⟨t223, A90, H⟩ := H
  replace H : ((foliotref19_put.f t220 (⟨#[115, 116, 114, 97, 116, 117, 109]⟩ : ByteArray) t223).bind fun t224 => ((foliotref19_Number.f k a2).bind fun t227 => ((foliotref19_put.f t224 (⟨#[114, 101, 97, 99, 104]⟩ : ByteArray) t227).bind fun t228 => ((foliotref19_Number.f k a0_3).bind fun t231 => ((foliotref19_put.f t228 (⟨#[104, 112, 111, 108, 108]⟩ : ByteArray) t231).bind fun t232 => ((foliotref19_Number.f k a0_2).bind fun t235 => ((foliotref19_put.f t232 (⟨#[107, 101, 121]⟩ : ByteArray) t235).bind fun t236 => ((foliotref19_Number.f k a1_0).bind fun t239 => ((foliotref19_put.f t236 (⟨#[111, 102, 102, 115, 101, 116]⟩ : ByteArray) t239).bind fun t240 => ((foliotref19_Number.f k a1_1).bind fun t243 => ((foliotref19_put.f t240 (⟨#[100, 101, 108, 97, 121]⟩ : ByteArray) t243).bind fun t244 => ((foliotref19_Number.f k a1_2).bind fun t247 => ((foliotref19_put.f t244 (⟨#[100, 105, 115, 112, 101, 114, 115, 105, 111, 110]⟩ : ByteArray) t247).bind fun t248 => ((foliotref19_Number.f k a1_3).bind fun t251 => ((foliotref19_put.f t248 (⟨#[106, 105, 116, 116, 101, 114]⟩ : ByteArray) t251).bind fun t252 => (some t252)))))))))))))))) = some r := H
  have A9 := Aside0.mk A90
  clear A90
  replace H := Option.bind_eq_some_iff.mp H
  obtain ⟨t224, A100, H⟩ := H
  replace H : ((foliotref19_Number.f k a2).bind fun t227 => ((foliotref19_put.f t224 (⟨#[114, 101, 97, 99, 104]⟩ : ByteArray) t227).bind fun t228 => ((foliotref19_Number.f k a0_3).bind fun t231 => ((foliotref19_put.f t228 (⟨#[104, 112, 111, 108, 108]⟩ : ByteArray) t231).bind fun t232 => ((foliotref19_Number.f k a0_2).bind fun t235 => ((foliotref19_put.f t232 (⟨#[107, 101, 121]⟩ : ByteArray) t235).bind fun t236 => ((foliotref19_Number.f k a1_0).bind fun t239 => ((foliotref19_put.f t236 (⟨#[111, 102, 102, 115, 101, 116]⟩ : ByteArray) t239).bind fun t240 => ((foliotref19_Number.f k a1_1).bind fun t243 => ((foliotref19_put.f t240 (⟨#[100, 101, 108, 97, 121]⟩ : ByteArray) t243).bind fun t244 => ((foliotref19_Number.f k a1_2).bind fun t247 => ((foliotref19_put.f t244 (⟨#[100, 105, 115, 112, 101, 114, 115, 105, 111, 110]⟩ : ByteArray) t247).bind fun t248 => ((foliotref19_Number.f k a1_3).bind fun t251 => ((foliotref19_put.f t248 (⟨#[106, 105, 116, 116, 101, 114]⟩ : ByteArray) t251).bind fun t252 => (some t252))))))))))))))) = some r := H
  have A10 := Aside0.mk A100
  clear A100
  replace H := Option.bind_eq_some_iff.mp H
  obtain ⟨t227, A110, H⟩ := H
  replace H : ((foliotref19_put.f t224 (⟨#[114, 101, 97, 99, 104]⟩ : ByteArray) t227).bind fun t228 => ((foliotref19_Number.f k a0_3).bind fun t231 => ((foliotref19_put.f t228 (⟨#[104, 112, 111, 108, 108]⟩ : ByteArray) t231).bind fun t232 => ((foliotref19_Number.f k a0_2).bind fun t235 => ((foliotref19_put.f t232 (⟨#[107, 101, 121]⟩ : ByteArray) t235).bind fun t236 => ((foliotref19_Number.f k a1_0).bind fun t239 => ((foliotref19_put.f t236 (⟨#[111, 102, 102, 115, 101, 116]⟩ : ByteArray) t239).bind fun t240 => ((foliotref19_Number.f k a1_1).bind fun t243 => ((foliotref19_put.f t240 (⟨#[100, 101, 108, 97, 121]⟩ : ByteArray) t243).bind fun t244 => ((foliotref19_Number.f k a1_2).bind fun t247 => ((foliotref19_put.f t244 (⟨#[100, 105, 115, 112, 101, 114, 115, 105, 111, 110]⟩ : ByteArray) t247).bind fun t248 => ((foliotref19_Number.f k a1_3).bind fun t251 => ((foliotref19_put.f t248 (⟨#[106, 105, 116, 116, 101, 114]⟩ : ByteArray) t251).bind fun t252 => (some t252)))))))))))))) = some r := H
  have A11 := Aside0.mk A110
  clear A110
  replace H := Option.bind_eq_some_iff.mp H
  obtain ⟨t228, A120, H⟩ := H
  replace H : ((foliotref19_Number.f k a0_3).bind fun t231 => ((foliotref19_put.f t228 (⟨#[104, 112, 111, 108, 108]⟩ : ByteArray) t231).bind fun t232 => ((foliotref19_Number.f k a0_2).bind fun t235 => ((foliotref19_put.f t232 (⟨#[107, 101, 121]⟩ : ByteArray) t235).bind fun t236 => ((foliotref19_Number.f k a1_0).bind fun t239 => ((foliotref19_put.f t236 (⟨#[111, 102, 102, 115, 101, 116]⟩ : ByteArray) t239).bind fun t240 => ((foliotref19_Number.f k a1_1).bind fun t243 => ((foliotref19_put.f t240 (⟨#[100, 101, 108, 97, 121]⟩ : ByteArray) t243).bind fun t244 => ((foliotref19_Number.f k a1_2).bind fun t247 => ((foliotref19_put.f t244 (⟨#[100, 105, 115, 112, 101, 114, 115, 105, 111, 110]⟩ : ByteArray) t247).bind fun t248 => ((foliotref19_Number.f k a1_3).bind fun t251 => ((foliotref19_put.f t248 (⟨#[106, 105, 116, 116, 101, 114]⟩ : ByteArray) t251).bind fun t252 => (some t252))))))))))))) = some r := H
  have A12 := Aside0.mk A120
  clear A120
  replace H := Option.bind_eq_some_iff.mp H
  obtain ⟨t231, A130, H⟩ := H
  replace H : ((foliotref19_put.f t228 (⟨#[104, 112, 111, 108, 108]⟩ : ByteArray) t231).bind fun t232 => ((foliotref19_Number.f k a0_2).bind fun t235 => ((foliotref19_put.f t232 (⟨#[107, 101, 121]⟩ : ByteArray) t235).bind fun t236 => ((foliotref19_Number.f k a1_0).bind fun t239 => ((foliotref19_put.f t236 (⟨#[111, 102, 102, 115, 101, 116]⟩ : ByteArray) t239).bind fun t240 => ((foliotref19_Number.f k a1_1).bind fun t243 => ((foliotref19_put.f t240 (⟨#[100, 101, 108, 97, 121]⟩ : ByteArray) t243).bind fun t244 => ((foliotref19_Number.f k a1_2).bind fun t247 => ((foliotref19_put.f t244 (⟨#[100, 105, 115, 112, 101, 114, 115, 105, 111, 110]⟩ : ByteArray) t247).bind fun t248 => ((foliotref19_Number.f k a1_3).bind fun t251 => ((foliotref19_put.f t248 (⟨#[106, 105, 116, 116, 101, 114]⟩ : ByteArray) t251).bind fun t252 => (some t252)))))))))))) = some r := H
  have A13 := Aside0.mk A130
  clear A130
  replace H := Option.bind_eq_some_iff.mp H
  obtain ⟨t232, A140, H⟩ := H
  replace H : ((foliotref19_Number.f k a0_2).bind fun t235 => ((foliotref19_put.f t232 (⟨#[107, 101, 121]⟩ : ByteArray) t235).bind fun t236 => ((foliotref19_Number.f k a1_0).bind fun t239 => ((foliotref19_put.f t236 (⟨#[111, 102, 102, 115, 101, 116]⟩ : ByteArray) t239).bind fun t240 => ((foliotref19_Number.f k a1_1).bind fun t243 => ((foliotref19_put.f t240 (⟨#[100, 101, 108, 97, 121]⟩ : ByteArray) t243).bind fun t244 => ((foliotref19_Number.f k a1_2).bind fun t247 => ((foliotref19_put.f t244 (⟨#[100, 105, 115, 112, 101, 114, 115, 105, 111, 110]⟩ : ByteArray) t247).bind fun t248 => ((foliotref19_Number.f k a1_3).bind fun t251 => ((foliotref19_put.f t248 (⟨#[106, 105, 116, 116, 101, 114]⟩ : ByteArray) t251).bind fun t252 => (some t252))))))))))) = some r := H
  have A14 := Aside0.mk A140
  clear A140
  replace H := Option.bind_eq_some_iff.mp H
  obtain ⟨t235, A150, H⟩ := H
  replace H : ((foliotref19_put.f t232 (⟨#[107, 101, 121]⟩ : ByteArray) t235).bind fun t236 => ((foliotref19_Number.f k a1_0).bind fun t239 => ((foliotref19_put.f t236 (⟨#[111, 102, 102, 115, 101, 116]⟩ : ByteArray) t239).bind fun t240 => ((foliotref19_Number.f k a1_1).bind fun t243 => ((foliotref19_put.f t240 (⟨#[100, 101, 108, 97, 121]⟩ : ByteArray) t243).bind fun t244 => ((foliotref19_Number.f k a1_2).bind fun t247 => ((foliotref19_put.f t244 (⟨#[100, 105, 115, 112, 101, 114, 115, 105, 111, 110]⟩ : ByteArray) t247).bind fun t248 => ((foliotref19_Number.f k a1_3).bind fun t251 => ((foliotref19_put.f t248 (⟨#[106, 105, 116, 116, 101, 114]⟩ : ByteArray) t251).bind fun t252 => (some t252)))))))))) = some r := H
  have A15 := Aside0.mk A150
  clear A150
  replace H := Option.bind_eq_some_iff.mp H
  obtain ⟨t236, A160, H⟩ := H
  replace H : ((foliotref19_Number.f k a1_0).bind fun t239 => ((foliotref19_put.f t236 (⟨#[111, 102, 102, 115, 101, 116]⟩ : ByteArray) t239).bind fun t240 => ((foliotref19_Number.f k a1_1).bind fun t243 => ((foliotref19_put.f t240 (⟨#[100, 101, 108, 97, 121]⟩ : ByteArray) t243).bind fun t244 => ((foliotref19_Number.f k a1_2).bind fun t247 => ((foliotref19_put.f t244 (⟨#[100, 105, 115, 112, 101, 114, 115, 105, 111, 110]⟩ : ByteArray) t247).bind fun t248 => ((foliotref19_Number.f k a1_3).bind fun t251 => ((foliotref19_put.f t248 (⟨#[106, 105, 116, 116, 101, 114]⟩ : ByteArray) t251).bind fun t252 => (some t252))))))))) = some r := H
  have A16 := Aside0.mk A160
  clear A160
  replace H := Option.bind_eq_some_iff.mp H
  obtain ⟨t239, A170, H⟩ := H
  replace H : ((foliotref19_put.f t236 (⟨#[111, 102, 102, 115, 101, 116]⟩ : ByteArray) t239).bind fun t240 => ((foliotref19_Number.f k a1_1).bind fun t243 => ((foliotref19_put.f t240 (⟨#[100, 101, 108, 97, 121]⟩ : ByteArray) t243).bind fun t244 => ((foliotref19_Number.f k a1_2).bind fun t247 => ((foliotref19_put.f t244 (⟨#[100, 105, 115, 112, 101, 114, 115, 105, 111, 110]⟩ : ByteArray) t247).bind fun t248 => ((foliotref19_Number.f k a1_3).bind fun t251 => ((foliotref19_put.f t248 (⟨#[106, 105, 116, 116, 101, 114]⟩ : ByteArray) t251).bind fun t252 => (some t252)))))))) = some r := H
  have A17 := Aside0.mk A170
  clear A170
  replace H := Option.bind_eq_some_iff.mp H
  obtain ⟨t240, A180, H⟩ := H
  replace H : ((foliotref19_Number.f k a1_1).bind fun t243 => ((foliotref19_put.f t240 (⟨#[100, 101, 108, 97, 121]⟩ : ByteArray) t243).bind fun t244 => ((foliotref19_Number.f k a1_2).bind fun t247 => ((foliotref19_put.f t244 (⟨#[100, 105, 115, 112, 101, 114, 115, 105, 111, 110]⟩ : ByteArray) t247).bind fun t248 => ((foliotref19_Number.f k a1_3).bind fun t251 => ((foliotref19_put.f t248 (⟨#[106, 105, 116, 116, 101, 114]⟩ : ByteArray) t251).bind fun t252 => (some t252))))))) = some r := H
  have A18 := Aside0.mk A180
  clear A180
  replace H := Option.bind_eq_some_iff.mp H
  obtain ⟨t243, A190, H⟩ := H
  replace H : ((foliotref19_put.f t240 (⟨#[100, 101, 108, 97, 121]⟩ : ByteArray) t243).bind fun t244 => ((foliotref19_Number.f k a1_2).bind fun t247 => ((foliotref19_put.f t244 (⟨#[100, 105, 115, 112, 101, 114, 115, 105, 111, 110]⟩ : ByteArray) t247).bind fun t248 => ((foliotref19_Number.f k a1_3).bind fun t251 => ((foliotref19_put.f t248 (⟨#[106, 105, 116, 116, 101, 114]⟩ : ByteArray) t251).bind fun t252 => (some t252)))))) = some r := H
  have A19 := Aside0.mk A190
  clear A190
  replace H := Option.bind_eq_some_iff.mp H
  obtain ⟨t244, A200, H⟩ := H
  replace H : ((foliotref19_Number.f k a1_2).bind fun t247 => ((foliotref19_put.f t244 (⟨#[100, 105, 115, 112, 101, 114, 115, 105, 111, 110]⟩ : ByteArray) t247).bind fun t248 => ((foliotref19_Number.f k a1_3).bind fun t251 => ((foliotref19_put.f t248 (⟨#[106, 105, 116, 116, 101, 114]⟩ : ByteArray) t251).bind fun t252 => (some t252))))) = some r := H
  have A20 := Aside0.mk A200
  clear A200
  replace H := Option.bind_eq_some_iff.mp H
  obtain ⟨t247, A210, H⟩ := H
  replace H : ((foliotref19_put.f t244 (⟨#[100, 105, 115, 112, 101, 114, 115, 105, 111, 110]⟩ : ByteArray) t247).bind fun t248 => ((foliotref19_Number.f k a1_3).bind fun t251 => ((foliotref19_put.f t248 (⟨#[106, 105, 116, 116, 101, 114]⟩ : ByteArray) t251).bind fun t252 => (some t252)))) = some r := H
  have A21 := Aside0.mk A210
  clear A210
  replace H := Option.bind_eq_some_iff.mp H
  obtain ⟨t248, A220, H⟩ := H
  replace H : ((foliotref19_Number.f k a1_3).bind fun t251 => ((foliotref19_put.f t248 (⟨#[106, 105, 116, 116, 101, 114]⟩ : ByteArray) t251).bind fun t252 => (some t252))) = some r := H
  have A22 := Aside0.mk A220
  clear A220
  replace H := Option.bind_eq_some_iff.mp H
  obtain ⟨t251, A230, H⟩ := H
  replace H : ((foliotref19_put.f t248 (⟨#[106, 105, 116, 116, 101, 114]⟩ : ByteArray) t251).bind fun t252 => (some t252)) = some r := H
  have A23 := Aside0.mk A230
  clear A230
  replace H := Option.bind_eq_some_iff.mp H
  obtain ⟨t252, A240, H⟩ := H
  replace H : (some t252) = some r := H
  have A24 := Aside0.mk A240
  clear A240
  obtain rfl := Option.some.inj H
  go_enter Tryd.func9, Tryd.ntmps9
  go_wp2_with (first | ((with_reducible refine gate_dst (N := 4) rfl ?_); refine box_event ?hg (N := 4) ?hd (cs := #[.int .i64 a0_0, .int .u32 a0_1, .int .i64 a0_2, .int .i64 a0_3, .int .i64 a0_4, .bool a0_5, .bool a0_6, .bool a0_7, .int .i64 a0_8, .bool a0_9, .int .i64 a0_10, .int .i64 a0_11]) (t := 30) ?hr ?_; (case hd => rfl); (case hg => rfl); (case hr => first | (go_simp; done) | (go_simp; rfl)); intro gb210 hg w25 hbox hb; have n0_ := Aside0.mk (below_step (by repeat (first | (with_reducible first | exact HB.out | apply below_alloc | apply pw_below_drewN | apply below_drew1) | exact HB.out)) hb); have n1_ := Aside0.mk (hbox); have n2_ := Aside0.mk ((by rw [hg]; exact (below_size (by repeat (first | (with_reducible first | exact HB.out | apply below_alloc | apply pw_below_drewN | apply below_drew1) | exact HB.out))) : w.heap.size ≤ gb210)); have n3_ := Aside0.mk ((by rw [hg]; exact (below_size (by repeat (first | (with_reducible first | exact HB.out | apply below_alloc | apply pw_below_drewN | apply below_drew1) | exact HB.out))) : w.heap.size ≤ gb210)); clear HB; have HB := n0_; have BK210 := n1_; have GW210 := n2_; have GE210 := n3_; clear n0_ n1_ n2_ n3_; clear hb hbox hg) | ((with_reducible refine gate_dst (N := 5) rfl ?_); refine box_event ?hg (N := 5) ?hd (cs := #[.int .i64 a1_0, .int .i64 a1_1, .int .i64 a1_2, .int .i64 a1_3, .int .u64 a1_4, .bool a1_5]) (t := 32) ?hr ?_; (case hd => rfl); (case hg => rfl); (case hr => first | (go_simp; done) | (go_simp; rfl)); intro gb211 hg w26 hbox hb; have n0_ := Aside0.mk (blk_below (g := gb210) (o := .cells #[.int .i64 a0_0, .int .u32 a0_1, .int .i64 a0_2, .int .i64 a0_3, .int .i64 a0_4, .bool a0_5, .bool a0_6, .bool a0_7, .int .i64 a0_8, .bool a0_9, .int .i64 a0_10, .int .i64 a0_11] 30 (0, 0)) (by (with_reducible repeat (first | refine blk_drewN ?_ _ | refine blk_drew ?_ | refine blk_alloc ?_ _)); exact BK210.out) hb); have n1_ := Aside0.mk (below_step (by repeat (first | (with_reducible first | exact HB.out | apply below_alloc | apply pw_below_drewN | apply below_drew1 | refine below_set ?_ GE210.out) | exact HB.out)) hb); have n2_ := Aside0.mk (hbox); have n3_ := Aside0.mk ((by rw [hg]; exact (below_size (by repeat (first | (with_reducible first | exact HB.out | apply below_alloc | apply pw_below_drewN | apply below_drew1 | refine below_set ?_ GE210.out) | exact HB.out))) : w.heap.size ≤ gb211)); have n4_ := Aside0.mk ((by rw [hg]; exact (below_size (by repeat (first | (with_reducible first | exact HB.out | apply below_alloc | apply pw_below_drewN | apply below_drew1 | refine below_set ?_ GE210.out) | exact HB.out))) : w.heap.size ≤ gb211)); have n5_ := Aside0.mk ((by rw [hg]; exact Nat.ne_of_lt (blk_lt (g := gb210) (o := .cells #[.int .i64 a0_0, .int .u32 a0_1, .int .i64 a0_2, .int .i64 a0_3, .int .i64 a0_4, .bool a0_5, .bool a0_6, .bool a0_7, .int .i64 a0_8, .bool a0_9, .int .i64 a0_10, .int .i64 a0_11] 30 (0, 0)) (by (with_reducible repeat (first | refine blk_drewN ?_ _ | refine blk_drew ?_ | refine blk_alloc ?_ _)); exact BK210.out)) : gb210 ≠ gb211)); have n6_ := Aside0.mk ((by rw [hg]; exact Nat.ne_of_gt (blk_lt (g := gb210) (o := .cells #[.int .i64 a0_0, .int .u32 a0_1, .int .i64 a0_2, .int .i64 a0_3, .int .i64 a0_4, .bool a0_5, .bool a0_6, .bool a0_7, .int .i64 a0_8, .bool a0_9, .int .i64 a0_10, .int .i64 a0_11] 30 (0, 0)) (by (with_reducible repeat (first | refine blk_drewN ?_ _ | refine blk_drew ?_ | refine blk_alloc ?_ _)); exact BK210.out)) : gb211 ≠ gb210)); clear BK210; clear HB; have BK210 := n0_; have HB := n1_; have BK211 := n2_; have GW211 := n3_; have GE211 := n4_; have NB210_211 := n5_; have NB211_210 := n6_; clear n0_ n1_ n2_ n3_ n4_ n5_ n6_; clear hb hbox hg) | ((with_reducible refine gate_dst (N := 10) rfl ?_); refine Kd.R_lit k54 _ 54 ?hg (N := 10) ?hd (xs := ([] : List (S54))) (inner := []) (ok := fun _ => True) (okp := fun _ => True) ?hr ?hp (fun _ hk => hk) trivial (Below.refl _ _) (Nat.le_refl _) (by simp) ?_; (case hd => rfl); (case hg => rfl); (case hr => first | (go_simp; done) | (go_simp; rfl)); (case hp => exact (Reps.none _ _)); intro v213 w27 ho28 hb hg_ hnew_; clear hg_ hnew_; (first | rw [← Ny212.out] at ho28 | (simp only [Int.reduceToNat] at ho28; rw [← Ny212.out] at ho28)); have n0_ := Aside0.mk (Kd.R_lower ho28 (below_size (by repeat (first | (with_reducible first | exact HB.out | apply below_alloc | apply pw_below_drewN | apply below_drew1 | refine below_set ?_ GE210.out | refine below_set ?_ GE211.out) | exact HB.out)))); have n1_ := Aside0.mk (blk_below (g := gb210) (o := .cells #[.int .i64 a0_0, .int .u32 a0_1, .int .i64 a0_2, .int .i64 a0_3, .int .i64 a0_4, .bool a0_5, .bool a0_6, .bool a0_7, .int .i64 a0_8, .bool a0_9, .int .i64 a0_10, .int .i64 a0_11] 30 (0, 0)) (by (with_reducible repeat (first | refine blk_drewN ?_ _ | refine blk_drew ?_ | refine blk_alloc ?_ _)); exact BK210.out) hb); have n2_ := Aside0.mk (blk_below (g := gb211) (o := .cells #[.int .i64 a1_0, .int .i64 a1_1, .int .i64 a1_2, .int .i64 a1_3, .int .u64 a1_4, .bool a1_5] 32 (0, 0)) (by (with_reducible repeat (first | refine blk_drewN ?_ _ | refine blk_drew ?_ | refine blk_alloc ?_ _)); exact BK211.out) hb); have n3_ := Aside0.mk (below_step (by repeat (first | (with_reducible first | exact HB.out | apply below_alloc | apply pw_below_drewN | apply below_drew1 | refine below_set ?_ GE210.out | refine below_set ?_ GE211.out) | exact HB.out)) hb); clear BK210; clear BK211; clear HB; have HO214 := n0_; have BK210 := n1_; have BK211 := n2_; have HB := n3_; clear n0_ n1_ n2_ n3_; clear hb ho28; have hnb29 := NB210_211.out; have hnc29 := NB211_210.out; have hcz30_0 : w27.cell? ⟨gb210, 0, none⟩ = some (.int .i64 a0_0) := (blk_cell BK210.out 0).trans rfl; have hcz30_1 : w27.cell? ⟨gb210, 1, none⟩ = some (.int .u32 a0_1) := (blk_cell BK210.out 1).trans rfl; have hcz30_2 : w27.cell? ⟨gb210, 2, none⟩ = some (.int .i64 a0_2) := (blk_cell BK210.out 2).trans rfl; have hcz30_3 : w27.cell? ⟨gb210, 3, none⟩ = some (.int .i64 a0_3) := (blk_cell BK210.out 3).trans rfl; have hcz30_4 : w27.cell? ⟨gb210, 4, none⟩ = some (.int .i64 a0_4) := (blk_cell BK210.out 4).trans rfl; have hcz30_5 : w27.cell? ⟨gb210, 5, none⟩ = some (.bool a0_5) := (blk_cell BK210.out 5).trans rfl; have hcz30_6 : w27.cell? ⟨gb210, 6, none⟩ = some (.bool a0_6) := (blk_cell BK210.out 6).trans rfl; have hcz30_7 : w27.cell? ⟨gb210, 7, none⟩ = some (.bool a0_7) := (blk_cell BK210.out 7).trans rfl; have hcz30_8 : w27.cell? ⟨gb210, 8, none⟩ = some (.int .i64 a0_8) := (blk_cell BK210.out 8).trans rfl; have hcz30_9 : w27.cell? ⟨gb210, 9, none⟩ = some (.bool a0_9) := (blk_cell BK210.out 9).trans rfl; have hcz30_10 : w27.cell? ⟨gb210, 10, none⟩ = some (.int .i64 a0_10) := (blk_cell BK210.out 10).trans rfl; have hcz30_11 : w27.cell? ⟨gb210, 11, none⟩ = some (.int .i64 a0_11) := (blk_cell BK210.out 11).trans rfl; have hfz30_0 := blk_frozen BK210.out 0; have hfz30_1 := blk_frozen BK210.out 1; have hfz30_2 := blk_frozen BK210.out 2; have hfz30_3 := blk_frozen BK210.out 3; have hfz30_4 := blk_frozen BK210.out 4; have hfz30_5 := blk_frozen BK210.out 5; have hfz30_6 := blk_frozen BK210.out 6; have hfz30_7 := blk_frozen BK210.out 7; have hfz30_8 := blk_frozen BK210.out 8; have hfz30_9 := blk_frozen BK210.out 9; have hfz30_10 := blk_frozen BK210.out 10; have hfz30_11 := blk_frozen BK210.out 11) | ((with_reducible refine gate_callee (f := 20) rfl ?_); refine goesL_ (some 14) rfl rfl Tryd.func20 (by kernel_rfl) rfl #[.int .u32 a0_1] rfl (by (try simp only [List.map_toArray, List.map_cons, List.map_nil]); first | done | rfl | (simp only [List.length_drop, List.length_take]; rfl)) ?_; (with_reducible refine (foliotref05_PrintAddr.calls k a0_1 t215 _ A5.out).mono ?_); rintro e w31 ⟨rfl, hb⟩; refine ⟨_, rfl, ?_⟩; have n0_ := Aside0.mk (Kd.R_below (by (with_reducible repeat (first | apply Kd.R_alloc | apply Kd.R_drewN | apply Kd.R_drew)); exact HO214.out) hb); have n1_ := Aside0.mk (blk_below (g := gb210) (o := .cells #[.int .i64 a0_0, .int .u32 a0_1, .int .i64 a0_2, .int .i64 a0_3, .int .i64 a0_4, .bool a0_5, .bool a0_6, .bool a0_7, .int .i64 a0_8, .bool a0_9, .int .i64 a0_10, .int .i64 a0_11] 30 (0, 0)) (by (with_reducible repeat (first | refine blk_drewN ?_ _ | refine blk_drew ?_ | refine blk_alloc ?_ _)); exact BK210.out) hb); have n2_ := Aside0.mk (blk_below (g := gb211) (o := .cells #[.int .i64 a1_0, .int .i64 a1_1, .int .i64 a1_2, .int .i64 a1_3, .int .u64 a1_4, .bool a1_5] 32 (0, 0)) (by (with_reducible repeat (first | refine blk_drewN ?_ _ | refine blk_drew ?_ | refine blk_alloc ?_ _)); exact BK211.out) hb); have n3_ := Aside0.mk (below_step (by repeat (first | (with_reducible first | exact HB.out | apply below_alloc | apply pw_below_drewN | apply below_drew1 | refine below_set ?_ GE210.out | refine below_set ?_ GE211.out) | exact HB.out)) hb); clear HO214; clear BK210; clear BK211; clear HB; have HO214 := n0_; have BK210 := n1_; have BK211 := n2_; have HB := n3_; clear n0_ n1_ n2_ n3_; (try clear hb); (try clear hb2); (try clear hk); (try clear hi); obtain ⟨Ao32, co32, eo32⟩ := Kd.R_slice HO214.out; subst eo32) | ((with_reducible refine gate_callee (f := 19) rfl ?_); refine goesL_ (some 15) rfl rfl Tryd.func19 (by kernel_rfl) rfl #[.slice Ao32 y212.length co32, .string (⟨#[115, 114, 99, 97, 100, 114]⟩ : ByteArray), .string t215] rfl (by (try simp only [List.map_toArray, List.map_cons, List.map_nil]); first | done | rfl | (simp only [List.length_drop, List.length_take]; rfl)) ?_; (with_reducible refine (foliotref19_put.calls (fun k_ => some k_ = (.slice Ao32 y212.length co32 : Value).ownBlock) (.slice Ao32 y212.length co32) y212 (⟨#[115, 114, 99, 97, 100, 114]⟩ : ByteArray) t215 t216 w _ ?side1 ?side2 A6.out).mono ?_); (case side1 => repeat (first | (with_reducible first | exact HB.out | apply below_alloc | apply pw_below_drewN | apply below_drew1 | refine below_set ?_ GE210.out | refine below_set ?_ GE211.out) | exact HB.out)); (case side2 => exact Kd.R_tight rfl HO214.out); rintro e w33 ⟨v217, rfl, ho0, hb, hkp⟩; refine ⟨_, rfl, ?_⟩; have n0_ := Aside0.mk (blk_kept (by (with_reducible repeat (first | refine blk_drewN ?_ _ | refine blk_drew ?_ | refine blk_alloc ?_ _)); exact BK210.out) hkp (fun hs_ => (fun e_ => (Kd.R_ne HO214.out BK210.out (by decide)) e_) hs_)); have n1_ := Aside0.mk (blk_kept (by (with_reducible repeat (first | refine blk_drewN ?_ _ | refine blk_drew ?_ | refine blk_alloc ?_ _)); exact BK211.out) hkp (fun hs_ => (fun e_ => (Kd.R_ne HO214.out BK211.out (by decide)) e_) hs_)); have n2_ := Aside0.mk (Kd.R_mono (ok' := fun k_ => True) ho0 (fun k_ hk_ => trivial)); have n3_ := Aside0.mk (hb); clear BK210; clear BK211; clear HB; clear HO214; have BK210 := n0_; have BK211 := n1_; have HO218 := n2_; have HB := n3_; clear n0_ n1_ n2_ n3_; (try clear hb); (try clear hkp); (try clear ho0); have hcz34_0 : w33.cell? ⟨gb210, 0, none⟩ = some (.int .i64 a0_0) := (blk_cell BK210.out 0).trans rfl; have hcz34_1 : w33.cell? ⟨gb210, 1, none⟩ = some (.int .u32 a0_1) := (blk_cell BK210.out 1).trans rfl; have hcz34_2 : w33.cell? ⟨gb210, 2, none⟩ = some (.int .i64 a0_2) := (blk_cell BK210.out 2).trans rfl; have hcz34_3 : w33.cell? ⟨gb210, 3, none⟩ = some (.int .i64 a0_3) := (blk_cell BK210.out 3).trans rfl; have hcz34_4 : w33.cell? ⟨gb210, 4, none⟩ = some (.int .i64 a0_4) := (blk_cell BK210.out 4).trans rfl; have hcz34_5 : w33.cell? ⟨gb210, 5, none⟩ = some (.bool a0_5) := (blk_cell BK210.out 5).trans rfl; have hcz34_6 : w33.cell? ⟨gb210, 6, none⟩ = some (.bool a0_6) := (blk_cell BK210.out 6).trans rfl; have hcz34_7 : w33.cell? ⟨gb210, 7, none⟩ = some (.bool a0_7) := (blk_cell BK210.out 7).trans rfl; have hcz34_8 : w33.cell? ⟨gb210, 8, none⟩ = some (.int .i64 a0_8) := (blk_cell BK210.out 8).trans rfl; have hcz34_9 : w33.cell? ⟨gb210, 9, none⟩ = some (.bool a0_9) := (blk_cell BK210.out 9).trans rfl; have hcz34_10 : w33.cell? ⟨gb210, 10, none⟩ = some (.int .i64 a0_10) := (blk_cell BK210.out 10).trans rfl; have hcz34_11 : w33.cell? ⟨gb210, 11, none⟩ = some (.int .i64 a0_11) := (blk_cell BK210.out 11).trans rfl; have hfz34_0 := blk_frozen BK210.out 0; have hfz34_1 := blk_frozen BK210.out 1; have hfz34_2 := blk_frozen BK210.out 2; have hfz34_3 := blk_frozen BK210.out 3; have hfz34_4 := blk_frozen BK210.out 4; have hfz34_5 := blk_frozen BK210.out 5; have hfz34_6 := blk_frozen BK210.out 6; have hfz34_7 := blk_frozen BK210.out 7; have hfz34_8 := blk_frozen BK210.out 8; have hfz34_9 := blk_frozen BK210.out 9; have hfz34_10 := blk_frozen BK210.out 10; have hfz34_11 := blk_frozen BK210.out 11) | ((with_reducible refine gate_callee (f := 11) rfl ?_); refine goesL_ (some 19) rfl rfl Tryd.func11 (by kernel_rfl) rfl #[.int .i64 a0_0] rfl (by (try simp only [List.map_toArray, List.map_cons, List.map_nil]); first | done | rfl | (simp only [List.length_drop, List.length_take]; rfl)) ?_; (with_reducible refine (foliotref19_Number.calls k a0_0 t219 _ A7.out).mono ?_); rintro e w35 ⟨rfl, hb⟩; refine ⟨_, rfl, ?_⟩; have n0_ := Aside0.mk (Kd.R_below (by (with_reducible repeat (first | apply Kd.R_alloc | apply Kd.R_drewN | apply Kd.R_drew)); exact HO218.out) hb); have n1_ := Aside0.mk (blk_below (g := gb210) (o := .cells #[.int .i64 a0_0, .int .u32 a0_1, .int .i64 a0_2, .int .i64 a0_3, .int .i64 a0_4, .bool a0_5, .bool a0_6, .bool a0_7, .int .i64 a0_8, .bool a0_9, .int .i64 a0_10, .int .i64 a0_11] 30 (0, 0)) (by (with_reducible repeat (first | refine blk_drewN ?_ _ | refine blk_drew ?_ | refine blk_alloc ?_ _)); exact BK210.out) hb); have n2_ := Aside0.mk (blk_below (g := gb211) (o := .cells #[.int .i64 a1_0, .int .i64 a1_1, .int .i64 a1_2, .int .i64 a1_3, .int .u64 a1_4, .bool a1_5] 32 (0, 0)) (by (with_reducible repeat (first | refine blk_drewN ?_ _ | refine blk_drew ?_ | refine blk_alloc ?_ _)); exact BK211.out) hb); have n3_ := Aside0.mk (below_step (by repeat (first | (with_reducible first | exact HB.out | apply below_alloc | apply pw_below_drewN | apply below_drew1 | refine below_set ?_ GE210.out | refine below_set ?_ GE211.out) | exact HB.out)) hb); clear HO218; clear BK210; clear BK211; clear HB; have HO218 := n0_; have BK210 := n1_; have BK211 := n2_; have HB := n3_; clear n0_ n1_ n2_ n3_; (try clear hb); (try clear hb2); (try clear hk); (try clear hi); obtain ⟨Ao36, co36, eo36⟩ := Kd.R_slice HO218.out; subst eo36) | ((with_reducible refine gate_callee (f := 19) rfl ?_); refine goesL_ (some 20) rfl rfl Tryd.func19 (by kernel_rfl) rfl #[.slice Ao36 t216.length co36, .string (⟨#[107, 105, 110, 100]⟩ : ByteArray), .string t219] rfl (by (try simp only [List.map_toArray, List.map_cons, List.map_nil]); first | done | rfl | (simp only [List.length_drop, List.length_take]; rfl)) ?_; (with_reducible refine (foliotref19_put.calls (fun k_ => some k_ = (.slice Ao36 t216.length co36 : Value).ownBlock) (.slice Ao36 t216.length co36) t216 (⟨#[107, 105, 110, 100]⟩ : ByteArray) t219 t220 w _ ?side1 ?side2 A8.out).mono ?_); (case side1 => repeat (first | (with_reducible first | exact HB.out | apply below_alloc | apply pw_below_drewN | apply below_drew1 | refine below_set ?_ GE210.out | refine below_set ?_ GE211.out) | exact HB.out)); (case side2 => exact Kd.R_tight rfl HO218.out); rintro e w37 ⟨v221, rfl, ho0, hb, hkp⟩; refine ⟨_, rfl, ?_⟩; have n0_ := Aside0.mk (blk_kept (by (with_reducible repeat (first | refine blk_drewN ?_ _ | refine blk_drew ?_ | refine blk_alloc ?_ _)); exact BK210.out) hkp (fun hs_ => (fun e_ => (Kd.R_ne HO218.out BK210.out (by decide)) e_) hs_)); have n1_ := Aside0.mk (blk_kept (by (with_reducible repeat (first | refine blk_drewN ?_ _ | refine blk_drew ?_ | refine blk_alloc ?_ _)); exact BK211.out) hkp (fun hs_ => (fun e_ => (Kd.R_ne HO218.out BK211.out (by decide)) e_) hs_)); have n2_ := Aside0.mk (Kd.R_mono (ok' := fun k_ => True) ho0 (fun k_ hk_ => trivial)); have n3_ := Aside0.mk (hb); clear BK210; clear BK211; clear HB; clear HO218; have BK210 := n0_; have BK211 := n1_; have HO222 := n2_; have HB := n3_; clear n0_ n1_ n2_ n3_; (try clear hb); (try clear hkp); (try clear ho0)) | ((with_reducible refine gate_callee (f := 11) rfl ?_); refine goesL_ (some 23) rfl rfl Tryd.func11 (by kernel_rfl) rfl #[.int .i64 a3] rfl (by (try simp only [List.map_toArray, List.map_cons, List.map_nil]); first | done | rfl | (simp only [List.length_drop, List.length_take]; rfl)) ?_; (with_reducible refine (foliotref19_Number.calls k a3 t223 _ A9.out).mono ?_); rintro e w38 ⟨rfl, hb⟩; refine ⟨_, rfl, ?_⟩; have n0_ := Aside0.mk (Kd.R_below (by (with_reducible repeat (first | apply Kd.R_alloc | apply Kd.R_drewN | apply Kd.R_drew)); exact HO222.out) hb); have n1_ := Aside0.mk (blk_below (g := gb210) (o := .cells #[.int .i64 a0_0, .int .u32 a0_1, .int .i64 a0_2, .int .i64 a0_3, .int .i64 a0_4, .bool a0_5, .bool a0_6, .bool a0_7, .int .i64 a0_8, .bool a0_9, .int .i64 a0_10, .int .i64 a0_11] 30 (0, 0)) (by (with_reducible repeat (first | refine blk_drewN ?_ _ | refine blk_drew ?_ | refine blk_alloc ?_ _)); exact BK210.out) hb); have n2_ := Aside0.mk (blk_below (g := gb211) (o := .cells #[.int .i64 a1_0, .int .i64 a1_1, .int .i64 a1_2, .int .i64 a1_3, .int .u64 a1_4, .bool a1_5] 32 (0, 0)) (by (with_reducible repeat (first | refine blk_drewN ?_ _ | refine blk_drew ?_ | refine blk_alloc ?_ _)); exact BK211.out) hb); have n3_ := Aside0.mk (below_step (by repeat (first | (with_reducible first | exact HB.out | apply below_alloc | apply pw_below_drewN | apply below_drew1 | refine below_set ?_ GE210.out | refine below_set ?_ GE211.out) | exact HB.out)) hb); clear HO222; clear BK210; clear BK211; clear HB; have HO222 := n0_; have BK210 := n1_; have BK211 := n2_; have HB := n3_; clear n0_ n1_ n2_ n3_; (try clear hb); (try clear hb2); (try clear hk); (try clear hi); obtain ⟨Ao39, co39, eo39⟩ := Kd.R_slice HO222.out; subst eo39) | ((with_reducible refine gate_callee (f := 19) rfl ?_); refine goesL_ (some 24) rfl rfl Tryd.func19 (by kernel_rfl) rfl #[.slice Ao39 t220.length co39, .string (⟨#[115, 116, 114, 97, 116, 117, 109]⟩ : ByteArray), .string t223] rfl (by (try simp only [List.map_toArray, List.map_cons, List.map_nil]); first | done | rfl | (simp only [List.length_drop, List.length_take]; rfl)) ?_; (with_reducible refine (foliotref19_put.calls (fun k_ => some k_ = (.slice Ao39 t220.length co39 : Value).ownBlock) (.slice Ao39 t220.length co39) t220 (⟨#[115, 116, 114, 97, 116, 117, 109]⟩ : ByteArray) t223 t224 w _ ?side1 ?side2 A10.out).mono ?_); (case side1 => repeat (first | (with_reducible first | exact HB.out | apply below_alloc | apply pw_below_drewN | apply below_drew1 | refine below_set ?_ GE210.out | refine below_set ?_ GE211.out) | exact HB.out)); (case side2 => exact Kd.R_tight rfl HO222.out); rintro e w40 ⟨v225, rfl, ho0, hb, hkp⟩; refine ⟨_, rfl, ?_⟩; have n0_ := Aside0.mk (blk_kept (by (with_reducible repeat (first | refine blk_drewN ?_ _ | refine blk_drew ?_ | refine blk_alloc ?_ _)); exact BK210.out) hkp (fun hs_ => (fun e_ => (Kd.R_ne HO222.out BK210.out (by decide)) e_) hs_)); have n1_ := Aside0.mk (blk_kept (by (with_reducible repeat (first | refine blk_drewN ?_ _ | refine blk_drew ?_ | refine blk_alloc ?_ _)); exact BK211.out) hkp (fun hs_ => (fun e_ => (Kd.R_ne HO222.out BK211.out (by decide)) e_) hs_)); have n2_ := Aside0.mk (Kd.R_mono (ok' := fun k_ => True) ho0 (fun k_ hk_ => trivial)); have n3_ := Aside0.mk (hb); clear BK210; clear BK211; clear HB; clear HO222; have BK210 := n0_; have BK211 := n1_; have HO226 := n2_; have HB := n3_; clear n0_ n1_ n2_ n3_; (try clear hb); (try clear hkp); (try clear ho0)) | ((with_reducible refine gate_callee (f := 11) rfl ?_); refine goesL_ (some 27) rfl rfl Tryd.func11 (by kernel_rfl) rfl #[.int .i64 a2] rfl (by (try simp only [List.map_toArray, List.map_cons, List.map_nil]); first | done | rfl | (simp only [List.length_drop, List.length_take]; rfl)) ?_; (with_reducible refine (foliotref19_Number.calls k a2 t227 _ A11.out).mono ?_); rintro e w41 ⟨rfl, hb⟩; refine ⟨_, rfl, ?_⟩; have n0_ := Aside0.mk (Kd.R_below (by (with_reducible repeat (first | apply Kd.R_alloc | apply Kd.R_drewN | apply Kd.R_drew)); exact HO226.out) hb); have n1_ := Aside0.mk (blk_below (g := gb210) (o := .cells #[.int .i64 a0_0, .int .u32 a0_1, .int .i64 a0_2, .int .i64 a0_3, .int .i64 a0_4, .bool a0_5, .bool a0_6, .bool a0_7, .int .i64 a0_8, .bool a0_9, .int .i64 a0_10, .int .i64 a0_11] 30 (0, 0)) (by (with_reducible repeat (first | refine blk_drewN ?_ _ | refine blk_drew ?_ | refine blk_alloc ?_ _)); exact BK210.out) hb); have n2_ := Aside0.mk (blk_below (g := gb211) (o := .cells #[.int .i64 a1_0, .int .i64 a1_1, .int .i64 a1_2, .int .i64 a1_3, .int .u64 a1_4, .bool a1_5] 32 (0, 0)) (by (with_reducible repeat (first | refine blk_drewN ?_ _ | refine blk_drew ?_ | refine blk_alloc ?_ _)); exact BK211.out) hb); have n3_ := Aside0.mk (below_step (by repeat (first | (with_reducible first | exact HB.out | apply below_alloc | apply pw_below_drewN | apply below_drew1 | refine below_set ?_ GE210.out | refine below_set ?_ GE211.out) | exact HB.out)) hb); clear HO226; clear BK210; clear BK211; clear HB; have HO226 := n0_; have BK210 := n1_; have BK211 := n2_; have HB := n3_; clear n0_ n1_ n2_ n3_; (try clear hb); (try clear hb2); (try clear hk); (try clear hi); obtain ⟨Ao42, co42, eo42⟩ := Kd.R_slice HO226.out; subst eo42) | ((with_reducible refine gate_callee (f := 19) rfl ?_); refine goesL_ (some 28) rfl rfl Tryd.func19 (by kernel_rfl) rfl #[.slice Ao42 t224.length co42, .string (⟨#[114, 101, 97, 99, 104]⟩ : ByteArray), .string t227] rfl (by (try simp only [List.map_toArray, List.map_cons, List.map_nil]); first | done | rfl | (simp only [List.length_drop, List.length_take]; rfl)) ?_; (with_reducible refine (foliotref19_put.calls (fun k_ => some k_ = (.slice Ao42 t224.length co42 : Value).ownBlock) (.slice Ao42 t224.length co42) t224 (⟨#[114, 101, 97, 99, 104]⟩ : ByteArray) t227 t228 w _ ?side1 ?side2 A12.out).mono ?_); (case side1 => repeat (first | (with_reducible first | exact HB.out | apply below_alloc | apply pw_below_drewN | apply below_drew1 | refine below_set ?_ GE210.out | refine below_set ?_ GE211.out) | exact HB.out)); (case side2 => exact Kd.R_tight rfl HO226.out); rintro e w43 ⟨v229, rfl, ho0, hb, hkp⟩; refine ⟨_, rfl, ?_⟩; have n0_ := Aside0.mk (blk_kept (by (with_reducible repeat (first | refine blk_drewN ?_ _ | refine blk_drew ?_ | refine blk_alloc ?_ _)); exact BK210.out) hkp (fun hs_ => (fun e_ => (Kd.R_ne HO226.out BK210.out (by decide)) e_) hs_)); have n1_ := Aside0.mk (blk_kept (by (with_reducible repeat (first | refine blk_drewN ?_ _ | refine blk_drew ?_ | refine blk_alloc ?_ _)); exact BK211.out) hkp (fun hs_ => (fun e_ => (Kd.R_ne HO226.out BK211.out (by decide)) e_) hs_)); have n2_ := Aside0.mk (Kd.R_mono (ok' := fun k_ => True) ho0 (fun k_ hk_ => trivial)); have n3_ := Aside0.mk (hb); clear BK210; clear BK211; clear HB; clear HO226; have BK210 := n0_; have BK211 := n1_; have HO230 := n2_; have HB := n3_; clear n0_ n1_ n2_ n3_; (try clear hb); (try clear hkp); (try clear ho0); have hcz44_0 : w43.cell? ⟨gb210, 0, none⟩ = some (.int .i64 a0_0) := (blk_cell BK210.out 0).trans rfl; have hcz44_1 : w43.cell? ⟨gb210, 1, none⟩ = some (.int .u32 a0_1) := (blk_cell BK210.out 1).trans rfl; have hcz44_2 : w43.cell? ⟨gb210, 2, none⟩ = some (.int .i64 a0_2) := (blk_cell BK210.out 2).trans rfl; have hcz44_3 : w43.cell? ⟨gb210, 3, none⟩ = some (.int .i64 a0_3) := (blk_cell BK210.out 3).trans rfl; have hcz44_4 : w43.cell? ⟨gb210, 4, none⟩ = some (.int .i64 a0_4) := (blk_cell BK210.out 4).trans rfl; have hcz44_5 : w43.cell? ⟨gb210, 5, none⟩ = some (.bool a0_5) := (blk_cell BK210.out 5).trans rfl; have hcz44_6 : w43.cell? ⟨gb210, 6, none⟩ = some (.bool a0_6) := (blk_cell BK210.out 6).trans rfl; have hcz44_7 : w43.cell? ⟨gb210, 7, none⟩ = some (.bool a0_7) := (blk_cell BK210.out 7).trans rfl; have hcz44_8 : w43.cell? ⟨gb210, 8, none⟩ = some (.int .i64 a0_8) := (blk_cell BK210.out 8).trans rfl; have hcz44_9 : w43.cell? ⟨gb210, 9, none⟩ = some (.bool a0_9) := (blk_cell BK210.out 9).trans rfl; have hcz44_10 : w43.cell? ⟨gb210, 10, none⟩ = some (.int .i64 a0_10) := (blk_cell BK210.out 10).trans rfl; have hcz44_11 : w43.cell? ⟨gb210, 11, none⟩ = some (.int .i64 a0_11) := (blk_cell BK210.out 11).trans rfl; have hfz44_0 := blk_frozen BK210.out 0; have hfz44_1 := blk_frozen BK210.out 1; have hfz44_2 := blk_frozen BK210.out 2; have hfz44_3 := blk_frozen BK210.out 3; have hfz44_4 := blk_frozen BK210.out 4; have hfz44_5 := blk_frozen BK210.out 5; have hfz44_6 := blk_frozen BK210.out 6; have hfz44_7 := blk_frozen BK210.out 7; have hfz44_8 := blk_frozen BK210.out 8; have hfz44_9 := blk_frozen BK210.out 9; have hfz44_10 := blk_frozen BK210.out 10; have hfz44_11 := blk_frozen BK210.out 11) | ((with_reducible refine gate_callee (f := 11) rfl ?_); refine goesL_ (some 32) rfl rfl Tryd.func11 (by kernel_rfl) rfl #[.int .i64 a0_3] rfl (by (try simp only [List.map_toArray, List.map_cons, List.map_nil]); first | done | rfl | (simp only [List.length_drop, List.length_take]; rfl)) ?_; (with_reducible refine (foliotref19_Number.calls k a0_3 t231 _ A13.out).mono ?_); rintro e w45 ⟨rfl, hb⟩; refine ⟨_, rfl, ?_⟩; have n0_ := Aside0.mk (Kd.R_below (by (with_reducible repeat (first | apply Kd.R_alloc | apply Kd.R_drewN | apply Kd.R_drew)); exact HO230.out) hb); have n1_ := Aside0.mk (blk_below (g := gb210) (o := .cells #[.int .i64 a0_0, .int .u32 a0_1, .int .i64 a0_2, .int .i64 a0_3, .int .i64 a0_4, .bool a0_5, .bool a0_6, .bool a0_7, .int .i64 a0_8, .bool a0_9, .int .i64 a0_10, .int .i64 a0_11] 30 (0, 0)) (by (with_reducible repeat (first | refine blk_drewN ?_ _ | refine blk_drew ?_ | refine blk_alloc ?_ _)); exact BK210.out) hb); have n2_ := Aside0.mk (blk_below (g := gb211) (o := .cells #[.int .i64 a1_0, .int .i64 a1_1, .int .i64 a1_2, .int .i64 a1_3, .int .u64 a1_4, .bool a1_5] 32 (0, 0)) (by (with_reducible repeat (first | refine blk_drewN ?_ _ | refine blk_drew ?_ | refine blk_alloc ?_ _)); exact BK211.out) hb); have n3_ := Aside0.mk (below_step (by repeat (first | (with_reducible first | exact HB.out | apply below_alloc | apply pw_below_drewN | apply below_drew1 | refine below_set ?_ GE210.out | refine below_set ?_ GE211.out) | exact HB.out)) hb); clear HO230; clear BK210; clear BK211; clear HB; have HO230 := n0_; have BK210 := n1_; have BK211 := n2_; have HB := n3_; clear n0_ n1_ n2_ n3_; (try clear hb); (try clear hb2); (try clear hk); (try clear hi); obtain ⟨Ao46, co46, eo46⟩ := Kd.R_slice HO230.out; subst eo46) | ((with_reducible refine gate_callee (f := 19) rfl ?_); refine goesL_ (some 33) rfl rfl Tryd.func19 (by kernel_rfl) rfl #[.slice Ao46 t228.length co46, .string (⟨#[104, 112, 111, 108, 108]⟩ : ByteArray), .string t231] rfl (by (try simp only [List.map_toArray, List.map_cons, List.map_nil]); first | done | rfl | (simp only [List.length_drop, List.length_take]; rfl)) ?_; (with_reducible refine (foliotref19_put.calls (fun k_ => some k_ = (.slice Ao46 t228.length co46 : Value).ownBlock) (.slice Ao46 t228.length co46) t228 (⟨#[104, 112, 111, 108, 108]⟩ : ByteArray) t231 t232 w _ ?side1 ?side2 A14.out).mono ?_); (case side1 => repeat (first | (with_reducible first | exact HB.out | apply below_alloc | apply pw_below_drewN | apply below_drew1 | refine below_set ?_ GE210.out | refine below_set ?_ GE211.out) | exact HB.out)); (case side2 => exact Kd.R_tight rfl HO230.out); rintro e w47 ⟨v233, rfl, ho0, hb, hkp⟩; refine ⟨_, rfl, ?_⟩; have n0_ := Aside0.mk (blk_kept (by (with_reducible repeat (first | refine blk_drewN ?_ _ | refine blk_drew ?_ | refine blk_alloc ?_ _)); exact BK210.out) hkp (fun hs_ => (fun e_ => (Kd.R_ne HO230.out BK210.out (by decide)) e_) hs_)); have n1_ := Aside0.mk (blk_kept (by (with_reducible repeat (first | refine blk_drewN ?_ _ | refine blk_drew ?_ | refine blk_alloc ?_ _)); exact BK211.out) hkp (fun hs_ => (fun e_ => (Kd.R_ne HO230.out BK211.out (by decide)) e_) hs_)); have n2_ := Aside0.mk (Kd.R_mono (ok' := fun k_ => True) ho0 (fun k_ hk_ => trivial)); have n3_ := Aside0.mk (hb); clear BK210; clear BK211; clear HB; clear HO230; have BK210 := n0_; have BK211 := n1_; have HO234 := n2_; have HB := n3_; clear n0_ n1_ n2_ n3_; (try clear hb); (try clear hkp); (try clear ho0); have hcz48_0 : w47.cell? ⟨gb210, 0, none⟩ = some (.int .i64 a0_0) := (blk_cell BK210.out 0).trans rfl; have hcz48_1 : w47.cell? ⟨gb210, 1, none⟩ = some (.int .u32 a0_1) := (blk_cell BK210.out 1).trans rfl; have hcz48_2 : w47.cell? ⟨gb210, 2, none⟩ = some (.int .i64 a0_2) := (blk_cell BK210.out 2).trans rfl; have hcz48_3 : w47.cell? ⟨gb210, 3, none⟩ = some (.int .i64 a0_3) := (blk_cell BK210.out 3).trans rfl; have hcz48_4 : w47.cell? ⟨gb210, 4, none⟩ = some (.int .i64 a0_4) := (blk_cell BK210.out 4).trans rfl; have hcz48_5 : w47.cell? ⟨gb210, 5, none⟩ = some (.bool a0_5) := (blk_cell BK210.out 5).trans rfl; have hcz48_6 : w47.cell? ⟨gb210, 6, none⟩ = some (.bool a0_6) := (blk_cell BK210.out 6).trans rfl; have hcz48_7 : w47.cell? ⟨gb210, 7, none⟩ = some (.bool a0_7) := (blk_cell BK210.out 7).trans rfl; have hcz48_8 : w47.cell? ⟨gb210, 8, none⟩ = some (.int .i64 a0_8) := (blk_cell BK210.out 8).trans rfl; have hcz48_9 : w47.cell? ⟨gb210, 9, none⟩ = some (.bool a0_9) := (blk_cell BK210.out 9).trans rfl; have hcz48_10 : w47.cell? ⟨gb210, 10, none⟩ = some (.int .i64 a0_10) := (blk_cell BK210.out 10).trans rfl; have hcz48_11 : w47.cell? ⟨gb210, 11, none⟩ = some (.int .i64 a0_11) := (blk_cell BK210.out 11).trans rfl; have hfz48_0 := blk_frozen BK210.out 0; have hfz48_1 := blk_frozen BK210.out 1; have hfz48_2 := blk_frozen BK210.out 2; have hfz48_3 := blk_frozen BK210.out 3; have hfz48_4 := blk_frozen BK210.out 4; have hfz48_5 := blk_frozen BK210.out 5; have hfz48_6 := blk_frozen BK210.out 6; have hfz48_7 := blk_frozen BK210.out 7; have hfz48_8 := blk_frozen BK210.out 8; have hfz48_9 := blk_frozen BK210.out 9; have hfz48_10 := blk_frozen BK210.out 10; have hfz48_11 := blk_frozen BK210.out 11) | ((with_reducible refine gate_callee (f := 11) rfl ?_); refine goesL_ (some 37) rfl rfl Tryd.func11 (by kernel_rfl) rfl #[.int .i64 a0_2] rfl (by (try simp only [List.map_toArray, List.map_cons, List.map_nil]); first | done | rfl | (simp only [List.length_drop, List.length_take]; rfl)) ?_; (with_reducible refine (foliotref19_Number.calls k a0_2 t235 _ A15.out).mono ?_); rintro e w49 ⟨rfl, hb⟩; refine ⟨_, rfl, ?_⟩; have n0_ := Aside0.mk (Kd.R_below (by (with_reducible repeat (first | apply Kd.R_alloc | apply Kd.R_drewN | apply Kd.R_drew)); exact HO234.out) hb); have n1_ := Aside0.mk (blk_below (g := gb210) (o := .cells #[.int .i64 a0_0, .int .u32 a0_1, .int .i64 a0_2, .int .i64 a0_3, .int .i64 a0_4, .bool a0_5, .bool a0_6, .bool a0_7, .int .i64 a0_8, .bool a0_9, .int .i64 a0_10, .int .i64 a0_11] 30 (0, 0)) (by (with_reducible repeat (first | refine blk_drewN ?_ _ | refine blk_drew ?_ | refine blk_alloc ?_ _)); exact BK210.out) hb); have n2_ := Aside0.mk (blk_below (g := gb211) (o := .cells #[.int .i64 a1_0, .int .i64 a1_1, .int .i64 a1_2, .int .i64 a1_3, .int .u64 a1_4, .bool a1_5] 32 (0, 0)) (by (with_reducible repeat (first | refine blk_drewN ?_ _ | refine blk_drew ?_ | refine blk_alloc ?_ _)); exact BK211.out) hb); have n3_ := Aside0.mk (below_step (by repeat (first | (with_reducible first | exact HB.out | apply below_alloc | apply pw_below_drewN | apply below_drew1 | refine below_set ?_ GE210.out | refine below_set ?_ GE211.out) | exact HB.out)) hb); clear HO234; clear BK210; clear BK211; clear HB; have HO234 := n0_; have BK210 := n1_; have BK211 := n2_; have HB := n3_; clear n0_ n1_ n2_ n3_; (try clear hb); (try clear hb2); (try clear hk); (try clear hi); obtain ⟨Ao50, co50, eo50⟩ := Kd.R_slice HO234.out; subst eo50) | ((with_reducible refine gate_callee (f := 19) rfl ?_); refine goesL_ (some 38) rfl rfl Tryd.func19 (by kernel_rfl) rfl #[.slice Ao50 t232.length co50, .string (⟨#[107, 101, 121]⟩ : ByteArray), .string t235] rfl (by (try simp only [List.map_toArray, List.map_cons, List.map_nil]); first | done | rfl | (simp only [List.length_drop, List.length_take]; rfl)) ?_; (with_reducible refine (foliotref19_put.calls (fun k_ => some k_ = (.slice Ao50 t232.length co50 : Value).ownBlock) (.slice Ao50 t232.length co50) t232 (⟨#[107, 101, 121]⟩ : ByteArray) t235 t236 w _ ?side1 ?side2 A16.out).mono ?_); (case side1 => repeat (first | (with_reducible first | exact HB.out | apply below_alloc | apply pw_below_drewN | apply below_drew1 | refine below_set ?_ GE210.out | refine below_set ?_ GE211.out) | exact HB.out)); (case side2 => exact Kd.R_tight rfl HO234.out); rintro e w51 ⟨v237, rfl, ho0, hb, hkp⟩; refine ⟨_, rfl, ?_⟩; have n0_ := Aside0.mk (blk_kept (by (with_reducible repeat (first | refine blk_drewN ?_ _ | refine blk_drew ?_ | refine blk_alloc ?_ _)); exact BK210.out) hkp (fun hs_ => (fun e_ => (Kd.R_ne HO234.out BK210.out (by decide)) e_) hs_)); have n1_ := Aside0.mk (blk_kept (by (with_reducible repeat (first | refine blk_drewN ?_ _ | refine blk_drew ?_ | refine blk_alloc ?_ _)); exact BK211.out) hkp (fun hs_ => (fun e_ => (Kd.R_ne HO234.out BK211.out (by decide)) e_) hs_)); have n2_ := Aside0.mk (Kd.R_mono (ok' := fun k_ => True) ho0 (fun k_ hk_ => trivial)); have n3_ := Aside0.mk (hb); clear BK210; clear BK211; clear HB; clear HO234; have BK210 := n0_; have BK211 := n1_; have HO238 := n2_; have HB := n3_; clear n0_ n1_ n2_ n3_; (try clear hb); (try clear hkp); (try clear ho0); have hcz52_0 : w51.cell? ⟨gb211, 0, none⟩ = some (.int .i64 a1_0) := (blk_cell BK211.out 0).trans rfl; have hcz52_1 : w51.cell? ⟨gb211, 1, none⟩ = some (.int .i64 a1_1) := (blk_cell BK211.out 1).trans rfl; have hcz52_2 : w51.cell? ⟨gb211, 2, none⟩ = some (.int .i64 a1_2) := (blk_cell BK211.out 2).trans rfl; have hcz52_3 : w51.cell? ⟨gb211, 3, none⟩ = some (.int .i64 a1_3) := (blk_cell BK211.out 3).trans rfl; have hcz52_4 : w51.cell? ⟨gb211, 4, none⟩ = some (.int .u64 a1_4) := (blk_cell BK211.out 4).trans rfl; have hcz52_5 : w51.cell? ⟨gb211, 5, none⟩ = some (.bool a1_5) := (blk_cell BK211.out 5).trans rfl; have hfz52_0 := blk_frozen BK211.out 0; have hfz52_1 := blk_frozen BK211.out 1; have hfz52_2 := blk_frozen BK211.out 2; have hfz52_3 := blk_frozen BK211.out 3; have hfz52_4 := blk_frozen BK211.out 4; have hfz52_5 := blk_frozen BK211.out 5) | ((with_reducible refine gate_callee (f := 11) rfl ?_); refine goesL_ (some 42) rfl rfl Tryd.func11 (by kernel_rfl) rfl #[.int .i64 a1_0] rfl (by (try simp only [List.map_toArray, List.map_cons, List.map_nil]); first | done | rfl | (simp only [List.length_drop, List.length_take]; rfl)) ?_; (with_reducible refine (foliotref19_Number.calls k a1_0 t239 _ A17.out).mono ?_); rintro e w53 ⟨rfl, hb⟩; refine ⟨_, rfl, ?_⟩; have n0_ := Aside0.mk (Kd.R_below (by (with_reducible repeat (first | apply Kd.R_alloc | apply Kd.R_drewN | apply Kd.R_drew)); exact HO238.out) hb); have n1_ := Aside0.mk (blk_below (g := gb210) (o := .cells #[.int .i64 a0_0, .int .u32 a0_1, .int .i64 a0_2, .int .i64 a0_3, .int .i64 a0_4, .bool a0_5, .bool a0_6, .bool a0_7, .int .i64 a0_8, .bool a0_9, .int .i64 a0_10, .int .i64 a0_11] 30 (0, 0)) (by (with_reducible repeat (first | refine blk_drewN ?_ _ | refine blk_drew ?_ | refine blk_alloc ?_ _)); exact BK210.out) hb); have n2_ := Aside0.mk (blk_below (g := gb211) (o := .cells #[.int .i64 a1_0, .int .i64 a1_1, .int .i64 a1_2, .int .i64 a1_3, .int .u64 a1_4, .bool a1_5] 32 (0, 0)) (by (with_reducible repeat (first | refine blk_drewN ?_ _ | refine blk_drew ?_ | refine blk_alloc ?_ _)); exact BK211.out) hb); have n3_ := Aside0.mk (below_step (by repeat (first | (with_reducible first | exact HB.out | apply below_alloc | apply pw_below_drewN | apply below_drew1 | refine below_set ?_ GE210.out | refine below_set ?_ GE211.out) | exact HB.out)) hb); clear HO238; clear BK210; clear BK211; clear HB; have HO238 := n0_; have BK210 := n1_; have BK211 := n2_; have HB := n3_; clear n0_ n1_ n2_ n3_; (try clear hb); (try clear hb2); (try clear hk); (try clear hi); obtain ⟨Ao54, co54, eo54⟩ := Kd.R_slice HO238.out; subst eo54) | ((with_reducible refine gate_callee (f := 19) rfl ?_); refine goesL_ (some 43) rfl rfl Tryd.func19 (by kernel_rfl) rfl #[.slice Ao54 t236.length co54, .string (⟨#[111, 102, 102, 115, 101, 116]⟩ : ByteArray), .string t239] rfl (by (try simp only [List.map_toArray, List.map_cons, List.map_nil]); first | done | rfl | (simp only [List.length_drop, List.length_take]; rfl)) ?_; (with_reducible refine (foliotref19_put.calls (fun k_ => some k_ = (.slice Ao54 t236.length co54 : Value).ownBlock) (.slice Ao54 t236.length co54) t236 (⟨#[111, 102, 102, 115, 101, 116]⟩ : ByteArray) t239 t240 w _ ?side1 ?side2 A18.out).mono ?_); (case side1 => repeat (first | (with_reducible first | exact HB.out | apply below_alloc | apply pw_below_drewN | apply below_drew1 | refine below_set ?_ GE210.out | refine below_set ?_ GE211.out) | exact HB.out)); (case side2 => exact Kd.R_tight rfl HO238.out); rintro e w55 ⟨v241, rfl, ho0, hb, hkp⟩; refine ⟨_, rfl, ?_⟩; have n0_ := Aside0.mk (blk_kept (by (with_reducible repeat (first | refine blk_drewN ?_ _ | refine blk_drew ?_ | refine blk_alloc ?_ _)); exact BK210.out) hkp (fun hs_ => (fun e_ => (Kd.R_ne HO238.out BK210.out (by decide)) e_) hs_)); have n1_ := Aside0.mk (blk_kept (by (with_reducible repeat (first | refine blk_drewN ?_ _ | refine blk_drew ?_ | refine blk_alloc ?_ _)); exact BK211.out) hkp (fun hs_ => (fun e_ => (Kd.R_ne HO238.out BK211.out (by decide)) e_) hs_)); have n2_ := Aside0.mk (Kd.R_mono (ok' := fun k_ => True) ho0 (fun k_ hk_ => trivial)); have n3_ := Aside0.mk (hb); clear BK210; clear BK211; clear HB; clear HO238; have BK210 := n0_; have BK211 := n1_; have HO242 := n2_; have HB := n3_; clear n0_ n1_ n2_ n3_; (try clear hb); (try clear hkp); (try clear ho0); have hcz56_0 : w55.cell? ⟨gb211, 0, none⟩ = some (.int .i64 a1_0) := (blk_cell BK211.out 0).trans rfl; have hcz56_1 : w55.cell? ⟨gb211, 1, none⟩ = some (.int .i64 a1_1) := (blk_cell BK211.out 1).trans rfl; have hcz56_2 : w55.cell? ⟨gb211, 2, none⟩ = some (.int .i64 a1_2) := (blk_cell BK211.out 2).trans rfl; have hcz56_3 : w55.cell? ⟨gb211, 3, none⟩ = some (.int .i64 a1_3) := (blk_cell BK211.out 3).trans rfl; have hcz56_4 : w55.cell? ⟨gb211, 4, none⟩ = some (.int .u64 a1_4) := (blk_cell BK211.out 4).trans rfl; have hcz56_5 : w55.cell? ⟨gb211, 5, none⟩ = some (.bool a1_5) := (blk_cell BK211.out 5).trans rfl; have hfz56_0 := blk_frozen BK211.out 0; have hfz56_1 := blk_frozen BK211.out 1; have hfz56_2 := blk_frozen BK211.out 2; have hfz56_3 := blk_frozen BK211.out 3; have hfz56_4 := blk_frozen BK211.out 4; have hfz56_5 := blk_frozen BK211.out 5) | ((with_reducible refine gate_callee (f := 11) rfl ?_); refine goesL_ (some 47) rfl rfl Tryd.func11 (by kernel_rfl) rfl #[.int .i64 a1_1] rfl (by (try simp only [List.map_toArray, List.map_cons, List.map_nil]); first | done | rfl | (simp only [List.length_drop, List.length_take]; rfl)) ?_; (with_reducible refine (foliotref19_Number.calls k a1_1 t243 _ A19.out).mono ?_); rintro e w57 ⟨rfl, hb⟩; refine ⟨_, rfl, ?_⟩; have n0_ := Aside0.mk (Kd.R_below (by (with_reducible repeat (first | apply Kd.R_alloc | apply Kd.R_drewN | apply Kd.R_drew)); exact HO242.out) hb); have n1_ := Aside0.mk (blk_below (g := gb210) (o := .cells #[.int .i64 a0_0, .int .u32 a0_1, .int .i64 a0_2, .int .i64 a0_3, .int .i64 a0_4, .bool a0_5, .bool a0_6, .bool a0_7, .int .i64 a0_8, .bool a0_9, .int .i64 a0_10, .int .i64 a0_11] 30 (0, 0)) (by (with_reducible repeat (first | refine blk_drewN ?_ _ | refine blk_drew ?_ | refine blk_alloc ?_ _)); exact BK210.out) hb); have n2_ := Aside0.mk (blk_below (g := gb211) (o := .cells #[.int .i64 a1_0, .int .i64 a1_1, .int .i64 a1_2, .int .i64 a1_3, .int .u64 a1_4, .bool a1_5] 32 (0, 0)) (by (with_reducible repeat (first | refine blk_drewN ?_ _ | refine blk_drew ?_ | refine blk_alloc ?_ _)); exact BK211.out) hb); have n3_ := Aside0.mk (below_step (by repeat (first | (with_reducible first | exact HB.out | apply below_alloc | apply pw_below_drewN | apply below_drew1 | refine below_set ?_ GE210.out | refine below_set ?_ GE211.out) | exact HB.out)) hb); clear HO242; clear BK210; clear BK211; clear HB; have HO242 := n0_; have BK210 := n1_; have BK211 := n2_; have HB := n3_; clear n0_ n1_ n2_ n3_; (try clear hb); (try clear hb2); (try clear hk); (try clear hi); obtain ⟨Ao58, co58, eo58⟩ := Kd.R_slice HO242.out; subst eo58) | ((with_reducible refine gate_callee (f := 19) rfl ?_); refine goesL_ (some 48) rfl rfl Tryd.func19 (by kernel_rfl) rfl #[.slice Ao58 t240.length co58, .string (⟨#[100, 101, 108, 97, 121]⟩ : ByteArray), .string t243] rfl (by (try simp only [List.map_toArray, List.map_cons, List.map_nil]); first | done | rfl | (simp only [List.length_drop, List.length_take]; rfl)) ?_; (with_reducible refine (foliotref19_put.calls (fun k_ => some k_ = (.slice Ao58 t240.length co58 : Value).ownBlock) (.slice Ao58 t240.length co58) t240 (⟨#[100, 101, 108, 97, 121]⟩ : ByteArray) t243 t244 w _ ?side1 ?side2 A20.out).mono ?_); (case side1 => repeat (first | (with_reducible first | exact HB.out | apply below_alloc | apply pw_below_drewN | apply below_drew1 | refine below_set ?_ GE210.out | refine below_set ?_ GE211.out) | exact HB.out)); (case side2 => exact Kd.R_tight rfl HO242.out); rintro e w59 ⟨v245, rfl, ho0, hb, hkp⟩; refine ⟨_, rfl, ?_⟩; have n0_ := Aside0.mk (blk_kept (by (with_reducible repeat (first | refine blk_drewN ?_ _ | refine blk_drew ?_ | refine blk_alloc ?_ _)); exact BK210.out) hkp (fun hs_ => (fun e_ => (Kd.R_ne HO242.out BK210.out (by decide)) e_) hs_)); have n1_ := Aside0.mk (blk_kept (by (with_reducible repeat (first | refine blk_drewN ?_ _ | refine blk_drew ?_ | refine blk_alloc ?_ _)); exact BK211.out) hkp (fun hs_ => (fun e_ => (Kd.R_ne HO242.out BK211.out (by decide)) e_) hs_)); have n2_ := Aside0.mk (Kd.R_mono (ok' := fun k_ => True) ho0 (fun k_ hk_ => trivial)); have n3_ := Aside0.mk (hb); clear BK210; clear BK211; clear HB; clear HO242; have BK210 := n0_; have BK211 := n1_; have HO246 := n2_; have HB := n3_; clear n0_ n1_ n2_ n3_; (try clear hb); (try clear hkp); (try clear ho0); have hcz60_0 : w59.cell? ⟨gb211, 0, none⟩ = some (.int .i64 a1_0) := (blk_cell BK211.out 0).trans rfl; have hcz60_1 : w59.cell? ⟨gb211, 1, none⟩ = some (.int .i64 a1_1) := (blk_cell BK211.out 1).trans rfl; have hcz60_2 : w59.cell? ⟨gb211, 2, none⟩ = some (.int .i64 a1_2) := (blk_cell BK211.out 2).trans rfl; have hcz60_3 : w59.cell? ⟨gb211, 3, none⟩ = some (.int .i64 a1_3) := (blk_cell BK211.out 3).trans rfl; have hcz60_4 : w59.cell? ⟨gb211, 4, none⟩ = some (.int .u64 a1_4) := (blk_cell BK211.out 4).trans rfl; have hcz60_5 : w59.cell? ⟨gb211, 5, none⟩ = some (.bool a1_5) := (blk_cell BK211.out 5).trans rfl; have hfz60_0 := blk_frozen BK211.out 0; have hfz60_1 := blk_frozen BK211.out 1; have hfz60_2 := blk_frozen BK211.out 2; have hfz60_3 := blk_frozen BK211.out 3; have hfz60_4 := blk_frozen BK211.out 4; have hfz60_5 := blk_frozen BK211.out 5) | ((with_reducible refine gate_callee (f := 11) rfl ?_); refine goesL_ (some 52) rfl rfl Tryd.func11 (by kernel_rfl) rfl #[.int .i64 a1_2] rfl (by (try simp only [List.map_toArray, List.map_cons, List.map_nil]); first | done | rfl | (simp only [List.length_drop, List.length_take]; rfl)) ?_; (with_reducible refine (foliotref19_Number.calls k a1_2 t247 _ A21.out).mono ?_); rintro e w61 ⟨rfl, hb⟩; refine ⟨_, rfl, ?_⟩; have n0_ := Aside0.mk (Kd.R_below (by (with_reducible repeat (first | apply Kd.R_alloc | apply Kd.R_drewN | apply Kd.R_drew)); exact HO246.out) hb); have n1_ := Aside0.mk (blk_below (g := gb210) (o := .cells #[.int .i64 a0_0, .int .u32 a0_1, .int .i64 a0_2, .int .i64 a0_3, .int .i64 a0_4, .bool a0_5, .bool a0_6, .bool a0_7, .int .i64 a0_8, .bool a0_9, .int .i64 a0_10, .int .i64 a0_11] 30 (0, 0)) (by (with_reducible repeat (first | refine blk_drewN ?_ _ | refine blk_drew ?_ | refine blk_alloc ?_ _)); exact BK210.out) hb); have n2_ := Aside0.mk (blk_below (g := gb211) (o := .cells #[.int .i64 a1_0, .int .i64 a1_1, .int .i64 a1_2, .int .i64 a1_3, .int .u64 a1_4, .bool a1_5] 32 (0, 0)) (by (with_reducible repeat (first | refine blk_drewN ?_ _ | refine blk_drew ?_ | refine blk_alloc ?_ _)); exact BK211.out) hb); have n3_ := Aside0.mk (below_step (by repeat (first | (with_reducible first | exact HB.out | apply below_alloc | apply pw_below_drewN | apply below_drew1 | refine below_set ?_ GE210.out | refine below_set ?_ GE211.out) | exact HB.out)) hb); clear HO246; clear BK210; clear BK211; clear HB; have HO246 := n0_; have BK210 := n1_; have BK211 := n2_; have HB := n3_; clear n0_ n1_ n2_ n3_; (try clear hb); (try clear hb2); (try clear hk); (try clear hi); obtain ⟨Ao62, co62, eo62⟩ := Kd.R_slice HO246.out; subst eo62) | ((with_reducible refine gate_callee (f := 19) rfl ?_); refine goesL_ (some 53) rfl rfl Tryd.func19 (by kernel_rfl) rfl #[.slice Ao62 t244.length co62, .string (⟨#[100, 105, 115, 112, 101, 114, 115, 105, 111, 110]⟩ : ByteArray), .string t247] rfl (by (try simp only [List.map_toArray, List.map_cons, List.map_nil]); first | done | rfl | (simp only [List.length_drop, List.length_take]; rfl)) ?_; (with_reducible refine (foliotref19_put.calls (fun k_ => some k_ = (.slice Ao62 t244.length co62 : Value).ownBlock) (.slice Ao62 t244.length co62) t244 (⟨#[100, 105, 115, 112, 101, 114, 115, 105, 111, 110]⟩ : ByteArray) t247 t248 w _ ?side1 ?side2 A22.out).mono ?_); (case side1 => repeat (first | (with_reducible first | exact HB.out | apply below_alloc | apply pw_below_drewN | apply below_drew1 | refine below_set ?_ GE210.out | refine below_set ?_ GE211.out) | exact HB.out)); (case side2 => exact Kd.R_tight rfl HO246.out); rintro e w63 ⟨v249, rfl, ho0, hb, hkp⟩; refine ⟨_, rfl, ?_⟩; have n0_ := Aside0.mk (blk_kept (by (with_reducible repeat (first | refine blk_drewN ?_ _ | refine blk_drew ?_ | refine blk_alloc ?_ _)); exact BK210.out) hkp (fun hs_ => (fun e_ => (Kd.R_ne HO246.out BK210.out (by decide)) e_) hs_)); have n1_ := Aside0.mk (blk_kept (by (with_reducible repeat (first | refine blk_drewN ?_ _ | refine blk_drew ?_ | refine blk_alloc ?_ _)); exact BK211.out) hkp (fun hs_ => (fun e_ => (Kd.R_ne HO246.out BK211.out (by decide)) e_) hs_)); have n2_ := Aside0.mk (Kd.R_mono (ok' := fun k_ => True) ho0 (fun k_ hk_ => trivial)); have n3_ := Aside0.mk (hb); clear BK210; clear BK211; clear HB; clear HO246; have BK210 := n0_; have BK211 := n1_; have HO250 := n2_; have HB := n3_; clear n0_ n1_ n2_ n3_; (try clear hb); (try clear hkp); (try clear ho0); have hcz64_0 : w63.cell? ⟨gb211, 0, none⟩ = some (.int .i64 a1_0) := (blk_cell BK211.out 0).trans rfl; have hcz64_1 : w63.cell? ⟨gb211, 1, none⟩ = some (.int .i64 a1_1) := (blk_cell BK211.out 1).trans rfl; have hcz64_2 : w63.cell? ⟨gb211, 2, none⟩ = some (.int .i64 a1_2) := (blk_cell BK211.out 2).trans rfl; have hcz64_3 : w63.cell? ⟨gb211, 3, none⟩ = some (.int .i64 a1_3) := (blk_cell BK211.out 3).trans rfl; have hcz64_4 : w63.cell? ⟨gb211, 4, none⟩ = some (.int .u64 a1_4) := (blk_cell BK211.out 4).trans rfl; have hcz64_5 : w63.cell? ⟨gb211, 5, none⟩ = some (.bool a1_5) := (blk_cell BK211.out 5).trans rfl; have hfz64_0 := blk_frozen BK211.out 0; have hfz64_1 := blk_frozen BK211.out 1; have hfz64_2 := blk_frozen BK211.out 2; have hfz64_3 := blk_frozen BK211.out 3; have hfz64_4 := blk_frozen BK211.out 4; have hfz64_5 := blk_frozen BK211.out 5) | ((with_reducible refine gate_callee (f := 11) rfl ?_); refine goesL_ (some 57) rfl rfl Tryd.func11 (by kernel_rfl) rfl #[.int .i64 a1_3] rfl (by (try simp only [List.map_toArray, List.map_cons, List.map_nil]); first | done | rfl | (simp only [List.length_drop, List.length_take]; rfl)) ?_; (with_reducible refine (foliotref19_Number.calls k a1_3 t251 _ A23.out).mono ?_); rintro e w65 ⟨rfl, hb⟩; refine ⟨_, rfl, ?_⟩; have n0_ := Aside0.mk (Kd.R_below (by (with_reducible repeat (first | apply Kd.R_alloc | apply Kd.R_drewN | apply Kd.R_drew)); exact HO250.out) hb); have n1_ := Aside0.mk (blk_below (g := gb210) (o := .cells #[.int .i64 a0_0, .int .u32 a0_1, .int .i64 a0_2, .int .i64 a0_3, .int .i64 a0_4, .bool a0_5, .bool a0_6, .bool a0_7, .int .i64 a0_8, .bool a0_9, .int .i64 a0_10, .int .i64 a0_11] 30 (0, 0)) (by (with_reducible repeat (first | refine blk_drewN ?_ _ | refine blk_drew ?_ | refine blk_alloc ?_ _)); exact BK210.out) hb); have n2_ := Aside0.mk (blk_below (g := gb211) (o := .cells #[.int .i64 a1_0, .int .i64 a1_1, .int .i64 a1_2, .int .i64 a1_3, .int .u64 a1_4, .bool a1_5] 32 (0, 0)) (by (with_reducible repeat (first | refine blk_drewN ?_ _ | refine blk_drew ?_ | refine blk_alloc ?_ _)); exact BK211.out) hb); have n3_ := Aside0.mk (below_step (by repeat (first | (with_reducible first | exact HB.out | apply below_alloc | apply pw_below_drewN | apply below_drew1 | refine below_set ?_ GE210.out | refine below_set ?_ GE211.out) | exact HB.out)) hb); clear HO250; clear BK210; clear BK211; clear HB; have HO250 := n0_; have BK210 := n1_; have BK211 := n2_; have HB := n3_; clear n0_ n1_ n2_ n3_; (try clear hb); (try clear hb2); (try clear hk); (try clear hi); obtain ⟨Ao66, co66, eo66⟩ := Kd.R_slice HO250.out; subst eo66) | ((with_reducible refine gate_callee (f := 19) rfl ?_); refine goesL_ (some 58) rfl rfl Tryd.func19 (by kernel_rfl) rfl #[.slice Ao66 t248.length co66, .string (⟨#[106, 105, 116, 116, 101, 114]⟩ : ByteArray), .string t251] rfl (by (try simp only [List.map_toArray, List.map_cons, List.map_nil]); first | done | rfl | (simp only [List.length_drop, List.length_take]; rfl)) ?_; (with_reducible refine (foliotref19_put.calls (fun k_ => some k_ = (.slice Ao66 t248.length co66 : Value).ownBlock) (.slice Ao66 t248.length co66) t248 (⟨#[106, 105, 116, 116, 101, 114]⟩ : ByteArray) t251 t252 w _ ?side1 ?side2 A24.out).mono ?_); (case side1 => repeat (first | (with_reducible first | exact HB.out | apply below_alloc | apply pw_below_drewN | apply below_drew1 | refine below_set ?_ GE210.out | refine below_set ?_ GE211.out) | exact HB.out)); (case side2 => exact Kd.R_tight rfl HO250.out); rintro e w67 ⟨v253, rfl, ho0, hb, hkp⟩; refine ⟨_, rfl, ?_⟩; have n0_ := Aside0.mk (blk_kept (by (with_reducible repeat (first | refine blk_drewN ?_ _ | refine blk_drew ?_ | refine blk_alloc ?_ _)); exact BK210.out) hkp (fun hs_ => (fun e_ => (Kd.R_ne HO250.out BK210.out (by decide)) e_) hs_)); have n1_ := Aside0.mk (blk_kept (by (with_reducible repeat (first | refine blk_drewN ?_ _ | refine blk_drew ?_ | refine blk_alloc ?_ _)); exact BK211.out) hkp (fun hs_ => (fun e_ => (Kd.R_ne HO250.out BK211.out (by decide)) e_) hs_)); have n2_ := Aside0.mk (Kd.R_mono (ok' := fun k_ => True) ho0 (fun k_ hk_ => trivial)); have n3_ := Aside0.mk (hb); clear BK210; clear BK211; clear HB; clear HO250; have BK210 := n0_; have BK211 := n1_; have HO254 := n2_; have HB := n3_; clear n0_ n1_ n2_ n3_; (try clear hb); (try clear hkp); (try clear ho0)))
  go_ret
  exact ⟨_, by first | rfl | (simp [errW_none, errW_some] <;> rfl) | (simp [*, errW_none, errW_some] <;> rfl), by (with_reducible repeat (first | apply Kd.R_alloc | apply Kd.R_drewN | apply Kd.R_drew)); exact HO254.out, by repeat (first | (with_reducible first | exact HB.out | apply below_alloc | apply pw_below_drewN | apply below_drew1 | refine below_set ?_ GE210.out | refine below_set ?_ GE211.out) | exact HB.out)⟩

/-! ### control_SystemStatus: function 12 -/
def control_SystemStatus.f (a0_0 : Int) (a0_1 : Int) (a0_2 : Int) (a0_3 : Int) (a0_4 : Int) (a0_5 : Int) (a0_6 : Int) (a0_7 : Int) (a0_8 : Int) (a0_9 : Int) (a0_10 : Int) (a1 : Int) (a2 : Int) : Option (Int) := if a0_9 > 0 then (some (Go.bits .or .i64 (Go.bits .or .i64 (Go.bits .or .i64 (wrap64 ((Go.bits .and .i64 a0_0 3) * 16384)) ((mn (mx a1 0) 15) * 16)) (mn (mx a2 0) 15)) 1536)) else (some (Go.bits .or .i64 (Go.bits .or .i64 (wrap64 ((Go.bits .and .i64 a0_0 3) * 16384)) ((mn (mx a1 0) 15) * 16)) (mn (mx a2 0) 15)))
set_option maxHeartbeats 8000000 in
set_option maxRecDepth 100000 in
theorem control_SystemStatus.calls (a0_0 : Int) (a0_1 : Int) (a0_2 : Int) (a0_3 : Int) (a0_4 : Int) (a0_5 : Int) (a0_6 : Int) (a0_7 : Int) (a0_8 : Int) (a0_9 : Int) (a0_10 : Int) (a1 : Int) (a2 : Int) (r : Int) (w : World) (h : control_SystemStatus.f a0_0 a0_1 a0_2 a0_3 a0_4 a0_5 a0_6 a0_7 a0_8 a0_9 a0_10 a1 a2 = some r) :
    Calls Tryd.prog 12 #[.agg #[.int .i64 a0_0, .int .i64 a0_1, .int .i64 a0_2, .int .i64 a0_3, .int .i64 a0_4, .int .u32 a0_5, .int .u64 a0_6, .int .i64 a0_7, .int .i64 a0_8, .int .i64 a0_9, .int .i64 a0_10], .int .i64 a1, .int .i64 a2] w fun e w' => e = .returned (.int .i64 r) ∧ Below w.heap.size w w' := by
  have hu28 := Tryd.underlying28
  have HB := Aside0.mk (Below.refl w.heap.size w)
  have H : (if a0_9 > 0 then (some (Go.bits .or .i64 (Go.bits .or .i64 (Go.bits .or .i64 (wrap64 ((Go.bits .and .i64 a0_0 3) * 16384)) ((mn (mx a1 0) 15) * 16)) (mn (mx a2 0) 15)) 1536)) else (some (Go.bits .or .i64 (Go.bits .or .i64 (wrap64 ((Go.bits .and .i64 a0_0 3) * 16384)) ((mn (mx a1 0) 15) * 16)) (mn (mx a2 0) 15)))) = some r := h
  clear h
  obtain ⟨ji4, hji4⟩ : ∃ j_ : Int, (mx a1 0) = j_ := ⟨_, rfl⟩
  replace H : (if a0_9 > 0 then (some (Go.bits .or .i64 (Go.bits .or .i64 (Go.bits .or .i64 (wrap64 ((Go.bits .and .i64 a0_0 3) * 16384)) ((mn (ji4) 15) * 16)) (mn (mx a2 0) 15)) 1536)) else (some (Go.bits .or .i64 (Go.bits .or .i64 (wrap64 ((Go.bits .and .i64 a0_0 3) * 16384)) ((mn (ji4) 15) * 16)) (mn (mx a2 0) 15)))) = some r := by first | (rw [hji4] at H; exact H) | (simp only [hji4] at H ⊢; exact H)
  (try (have hji4l : 0 ≤ ji4 := by (rw [← hji4]; unfold mx; (repeat' split) <;> omega)))
  (try (have hji4m : 0 ≤ ji4 := by omega))
  have hji4_ : (if a1 < 0 then 0 else a1) = ji4 := hji4
  obtain ⟨ji5, hji5⟩ : ∃ j_ : Int, (mn (ji4) 15) = j_ := ⟨_, rfl⟩
  replace H : (if a0_9 > 0 then (some (Go.bits .or .i64 (Go.bits .or .i64 (Go.bits .or .i64 (wrap64 ((Go.bits .and .i64 a0_0 3) * 16384)) ((ji5) * 16)) (mn (mx a2 0) 15)) 1536)) else (some (Go.bits .or .i64 (Go.bits .or .i64 (wrap64 ((Go.bits .and .i64 a0_0 3) * 16384)) ((ji5) * 16)) (mn (mx a2 0) 15)))) = some r := by first | (rw [hji5] at H; exact H) | (simp only [hji5] at H ⊢; exact H)
  have hji5_ : (if 15 < (ji4) then 15 else (ji4)) = ji5 := hji5
  obtain ⟨ji6, hji6⟩ : ∃ j_ : Int, (mx a2 0) = j_ := ⟨_, rfl⟩
  replace H : (if a0_9 > 0 then (some (Go.bits .or .i64 (Go.bits .or .i64 (Go.bits .or .i64 (wrap64 ((Go.bits .and .i64 a0_0 3) * 16384)) ((ji5) * 16)) (mn (ji6) 15)) 1536)) else (some (Go.bits .or .i64 (Go.bits .or .i64 (wrap64 ((Go.bits .and .i64 a0_0 3) * 16384)) ((ji5) * 16)) (mn (ji6) 15)))) = some r := by first | (rw [hji6] at H; exact H) | (simp only [hji6] at H ⊢; exact H)
  (try (have hji6l : 0 ≤ ji6 := by (rw [← hji6]; unfold mx; (repeat' split) <;> omega)))
  (try (have hji6m : 0 ≤ ji6 := by omega))
  have hji6_ : (if a2 < 0 then 0 else a2) = ji6 := hji6
  obtain ⟨ji7, hji7⟩ : ∃ j_ : Int, (mn (ji6) 15) = j_ := ⟨_, rfl⟩
  replace H : (if a0_9 > 0 then (some (Go.bits .or .i64 (Go.bits .or .i64 (Go.bits .or .i64 (wrap64 ((Go.bits .and .i64 a0_0 3) * 16384)) ((ji5) * 16)) (ji7)) 1536)) else (some (Go.bits .or .i64 (Go.bits .or .i64 (wrap64 ((Go.bits .and .i64 a0_0 3) * 16384)) ((ji5) * 16)) (ji7)))) = some r := by first | (rw [hji7] at H; exact H) | (simp only [hji7] at H ⊢; exact H)
  have hji7_ : (if 15 < (ji6) then 15 else (ji6)) = ji7 := hji7
  by_cases c8 : a0_9 > 0
  · rw [if_pos c8] at H
    have c8b0 : decide (0 < a0_9) = true := decide_eq_true c8
    clear c8
    obtain rfl := Option.some.inj H
    go_enter Tryd.func12, Tryd.ntmps12
    go_wp2_with (first | ((with_reducible refine gate_dst (N := 3) rfl ?_); refine box_event ?hg (N := 3) ?hd (cs := #[.int .i64 a0_0, .int .i64 a0_1, .int .i64 a0_2, .int .i64 a0_3, .int .i64 a0_4, .int .u32 a0_5, .int .u64 a0_6, .int .i64 a0_7, .int .i64 a0_8, .int .i64 a0_9, .int .i64 a0_10]) (t := 28) ?hr ?_; (case hd => rfl); (case hg => rfl); (case hr => first | (go_simp; done) | (go_simp; rfl)); intro gb255 hg w9 hbox hb; have n0_ := Aside0.mk (below_step (by repeat (first | (with_reducible first | exact HB.out | apply below_alloc | apply pw_below_drewN | apply below_drew1) | exact HB.out)) hb); have n1_ := Aside0.mk (hbox); have n2_ := Aside0.mk ((by rw [hg]; exact (below_size (by repeat (first | (with_reducible first | exact HB.out | apply below_alloc | apply pw_below_drewN | apply below_drew1) | exact HB.out))) : w.heap.size ≤ gb255)); have n3_ := Aside0.mk ((by rw [hg]; exact (below_size (by repeat (first | (with_reducible first | exact HB.out | apply below_alloc | apply pw_below_drewN | apply below_drew1) | exact HB.out))) : w.heap.size ≤ gb255)); clear HB; have HB := n0_; have BK255 := n1_; have GW255 := n2_; have GE255 := n3_; clear n0_ n1_ n2_ n3_; clear hb hbox hg; have hcz10_0 : w9.cell? ⟨gb255, 0, none⟩ = some (.int .i64 a0_0) := (blk_cell BK255.out 0).trans rfl; have hcz10_1 : w9.cell? ⟨gb255, 1, none⟩ = some (.int .i64 a0_1) := (blk_cell BK255.out 1).trans rfl; have hcz10_2 : w9.cell? ⟨gb255, 2, none⟩ = some (.int .i64 a0_2) := (blk_cell BK255.out 2).trans rfl; have hcz10_3 : w9.cell? ⟨gb255, 3, none⟩ = some (.int .i64 a0_3) := (blk_cell BK255.out 3).trans rfl; have hcz10_4 : w9.cell? ⟨gb255, 4, none⟩ = some (.int .i64 a0_4) := (blk_cell BK255.out 4).trans rfl; have hcz10_5 : w9.cell? ⟨gb255, 5, none⟩ = some (.int .u32 a0_5) := (blk_cell BK255.out 5).trans rfl; have hcz10_6 : w9.cell? ⟨gb255, 6, none⟩ = some (.int .u64 a0_6) := (blk_cell BK255.out 6).trans rfl; have hcz10_7 : w9.cell? ⟨gb255, 7, none⟩ = some (.int .i64 a0_7) := (blk_cell BK255.out 7).trans rfl; have hcz10_8 : w9.cell? ⟨gb255, 8, none⟩ = some (.int .i64 a0_8) := (blk_cell BK255.out 8).trans rfl; have hcz10_9 : w9.cell? ⟨gb255, 9, none⟩ = some (.int .i64 a0_9) := (blk_cell BK255.out 9).trans rfl; have hcz10_10 : w9.cell? ⟨gb255, 10, none⟩ = some (.int .i64 a0_10) := (blk_cell BK255.out 10).trans rfl; have hfz10_0 := blk_frozen BK255.out 0; have hfz10_1 := blk_frozen BK255.out 1; have hfz10_2 := blk_frozen BK255.out 2; have hfz10_3 := blk_frozen BK255.out 3; have hfz10_4 := blk_frozen BK255.out 4; have hfz10_5 := blk_frozen BK255.out 5; have hfz10_6 := blk_frozen BK255.out 6; have hfz10_7 := blk_frozen BK255.out 7; have hfz10_8 := blk_frozen BK255.out 8; have hfz10_9 := blk_frozen BK255.out 9; have hfz10_10 := blk_frozen BK255.out 10))
    go_ret
    exact ⟨by first | rfl | (simp [errW_none, errW_some] <;> rfl) | (simp only [← hji4, ← hji5, ← hji6, ← hji7]; first | rfl | (simp [errW_none, errW_some] <;> rfl)) | (simp [*, errW_none, errW_some] <;> rfl), by repeat (first | (with_reducible first | exact HB.out | apply below_alloc | apply pw_below_drewN | apply below_drew1 | refine below_set ?_ GE255.out) | exact HB.out)⟩
  · rw [if_neg c8] at H
    have c8b0 : decide (0 < a0_9) = false := decide_eq_false c8
    clear c8
    obtain rfl := Option.some.inj H
    go_enter Tryd.func12, Tryd.ntmps12
    go_wp2_with (first | ((with_reducible refine gate_dst (N := 3) rfl ?_); refine box_event ?hg (N := 3) ?hd (cs := #[.int .i64 a0_0, .int .i64 a0_1, .int .i64 a0_2, .int .i64 a0_3, .int .i64 a0_4, .int .u32 a0_5, .int .u64 a0_6, .int .i64 a0_7, .int .i64 a0_8, .int .i64 a0_9, .int .i64 a0_10]) (t := 28) ?hr ?_; (case hd => rfl); (case hg => rfl); (case hr => first | (go_simp; done) | (go_simp; rfl)); intro gb255 hg w11 hbox hb; have n0_ := Aside0.mk (below_step (by repeat (first | (with_reducible first | exact HB.out | apply below_alloc | apply pw_below_drewN | apply below_drew1) | exact HB.out)) hb); have n1_ := Aside0.mk (hbox); have n2_ := Aside0.mk ((by rw [hg]; exact (below_size (by repeat (first | (with_reducible first | exact HB.out | apply below_alloc | apply pw_below_drewN | apply below_drew1) | exact HB.out))) : w.heap.size ≤ gb255)); have n3_ := Aside0.mk ((by rw [hg]; exact (below_size (by repeat (first | (with_reducible first | exact HB.out | apply below_alloc | apply pw_below_drewN | apply below_drew1) | exact HB.out))) : w.heap.size ≤ gb255)); clear HB; have HB := n0_; have BK255 := n1_; have GW255 := n2_; have GE255 := n3_; clear n0_ n1_ n2_ n3_; clear hb hbox hg; have hcz12_0 : w11.cell? ⟨gb255, 0, none⟩ = some (.int .i64 a0_0) := (blk_cell BK255.out 0).trans rfl; have hcz12_1 : w11.cell? ⟨gb255, 1, none⟩ = some (.int .i64 a0_1) := (blk_cell BK255.out 1).trans rfl; have hcz12_2 : w11.cell? ⟨gb255, 2, none⟩ = some (.int .i64 a0_2) := (blk_cell BK255.out 2).trans rfl; have hcz12_3 : w11.cell? ⟨gb255, 3, none⟩ = some (.int .i64 a0_3) := (blk_cell BK255.out 3).trans rfl; have hcz12_4 : w11.cell? ⟨gb255, 4, none⟩ = some (.int .i64 a0_4) := (blk_cell BK255.out 4).trans rfl; have hcz12_5 : w11.cell? ⟨gb255, 5, none⟩ = some (.int .u32 a0_5) := (blk_cell BK255.out 5).trans rfl; have hcz12_6 : w11.cell? ⟨gb255, 6, none⟩ = some (.int .u64 a0_6) := (blk_cell BK255.out 6).trans rfl; have hcz12_7 : w11.cell? ⟨gb255, 7, none⟩ = some (.int .i64 a0_7) := (blk_cell BK255.out 7).trans rfl; have hcz12_8 : w11.cell? ⟨gb255, 8, none⟩ = some (.int .i64 a0_8) := (blk_cell BK255.out 8).trans rfl; have hcz12_9 : w11.cell? ⟨gb255, 9, none⟩ = some (.int .i64 a0_9) := (blk_cell BK255.out 9).trans rfl; have hcz12_10 : w11.cell? ⟨gb255, 10, none⟩ = some (.int .i64 a0_10) := (blk_cell BK255.out 10).trans rfl; have hfz12_0 := blk_frozen BK255.out 0; have hfz12_1 := blk_frozen BK255.out 1; have hfz12_2 := blk_frozen BK255.out 2; have hfz12_3 := blk_frozen BK255.out 3; have hfz12_4 := blk_frozen BK255.out 4; have hfz12_5 := blk_frozen BK255.out 5; have hfz12_6 := blk_frozen BK255.out 6; have hfz12_7 := blk_frozen BK255.out 7; have hfz12_8 := blk_frozen BK255.out 8; have hfz12_9 := blk_frozen BK255.out 9; have hfz12_10 := blk_frozen BK255.out 10))
    go_ret
    exact ⟨by first | rfl | (simp [errW_none, errW_some] <;> rfl) | (simp only [← hji4, ← hji5, ← hji6, ← hji7]; first | rfl | (simp [errW_none, errW_some] <;> rfl)) | (simp [*, errW_none, errW_some] <;> rfl), by repeat (first | (with_reducible first | exact HB.out | apply below_alloc | apply pw_below_drewN | apply below_drew1 | refine below_set ?_ GE255.out) | exact HB.out)⟩

/-! ### foliotref19_cut: function 23 -/
def foliotref19_cut.f (a0 : Int) (a1 : Int) (a2 : Int) : Option (Int) := some (mx a1 (mn a0 a2))
set_option maxHeartbeats 8000000 in
set_option maxRecDepth 100000 in
theorem foliotref19_cut.calls (a0 : Int) (a1 : Int) (a2 : Int) (r : Int) (w : World) (h : foliotref19_cut.f a0 a1 a2 = some r) :
    Calls Tryd.prog 23 #[.int .i64 a0, .int .i64 a1, .int .i64 a2] w fun e w' => e = .returned (.int .i64 r) ∧ Below w.heap.size w w' := by
  have HB := Aside0.mk (Below.refl w.heap.size w)
  have H : (some (mx a1 (mn a0 a2))) = some r := h
  clear h
  obtain ⟨ji4, hji4⟩ : ∃ j_ : Int, (mn a0 a2) = j_ := ⟨_, rfl⟩
  replace H : (some (mx a1 (ji4))) = some r := by first | (rw [hji4] at H; exact H) | (simp only [hji4] at H ⊢; exact H)
  have hji4_ : (if a2 < a0 then a2 else a0) = ji4 := hji4
  obtain ⟨ji5, hji5⟩ : ∃ j_ : Int, (mx a1 (ji4)) = j_ := ⟨_, rfl⟩
  replace H : (some ji5) = some r := by first | (rw [hji5] at H; exact H) | (simp only [hji5] at H ⊢; exact H)
  have hji5_ : (if a1 < (ji4) then (ji4) else a1) = ji5 := hji5
  obtain rfl := Option.some.inj H
  go_enter Tryd.func23, Tryd.ntmps23
  go_wp2
  go_ret
  exact ⟨by first | rfl | (simp [errW_none, errW_some] <;> rfl) | (simp only [← hji4, ← hji5]; first | rfl | (simp [errW_none, errW_some] <;> rfl)) | (simp [*, errW_none, errW_some] <;> rfl), by repeat (first | (with_reducible first | exact HB.out | apply below_alloc | apply pw_below_drewN | apply below_drew1) | exact HB.out)⟩

/-! ### foliotref19_SystemStatus: function 13 -/
def foliotref19_SystemStatus.f (a0_0 : Int) (a0_1 : Int) (a0_2 : Int) (a0_3 : Int) (a0_4 : Int) (a0_5 : Int) (a0_6 : Int) (a0_7 : Int) (a0_8 : Int) (a0_9 : Int) (a0_10 : Int) (a1 : Int) (a2 : Int) : Option (Int) := (foliotref19_cut.f a1 0 15).bind fun t257 => ((foliotref19_cut.f a2 0 15).bind fun t258 => (if a0_9 > 0 then (some (wrap64 ((wrap64 ((wrap64 ((wrap64 ((Go.bits .and .i64 a0_0 3) * 16384)) + (wrap64 (t257 * 16)))) + t258)) + 1536))) else (some (wrap64 ((wrap64 ((wrap64 ((Go.bits .and .i64 a0_0 3) * 16384)) + (wrap64 (t257 * 16)))) + t258)))))
def foliotref19_SystemStatus.T1 : Bool × List (List Nat × List Nat) := (true, [([], []), ([0], [0]), ([1], [1]), ([2], [2]), ([], []), ([4], [4]), ([5], [5]), ([3, 6], [3, 6]), ([], []), ([8, 5], [8]), ([7, 9], [7, 9]), ([10, 9, 0, 1, 2, 3, 4, 5, 6, 7, 8, 9, 10], [10])])
def foliotref19_SystemStatus.B1 : List Nat := [0, 1, 3, 7, 0, 16, 48, 127, 0, 304, 1023, 2047]
theorem foliotref19_SystemStatus.tab1 : rtab .any (opsOf Tryd.f13 1) = foliotref19_SystemStatus.T1 := by kernel_rfl
theorem foliotref19_SystemStatus.bits1 : waitsOk foliotref19_SystemStatus.T1.2 foliotref19_SystemStatus.B1 = true := by kernel_rfl
set_option maxHeartbeats 8000000 in
set_option maxRecDepth 100000 in
theorem foliotref19_SystemStatus.calls (a0_0 : Int) (a0_1 : Int) (a0_2 : Int) (a0_3 : Int) (a0_4 : Int) (a0_5 : Int) (a0_6 : Int) (a0_7 : Int) (a0_8 : Int) (a0_9 : Int) (a0_10 : Int) (a1 : Int) (a2 : Int) (r : Int) (w : World) (h : foliotref19_SystemStatus.f a0_0 a0_1 a0_2 a0_3 a0_4 a0_5 a0_6 a0_7 a0_8 a0_9 a0_10 a1 a2 = some r) :
    Calls Tryd.prog 13 #[.agg #[.int .i64 a0_0, .int .i64 a0_1, .int .i64 a0_2, .int .i64 a0_3, .int .i64 a0_4, .int .u32 a0_5, .int .u64 a0_6, .int .i64 a0_7, .int .i64 a0_8, .int .i64 a0_9, .int .i64 a0_10], .int .i64 a1, .int .i64 a2] w fun e w' => e = .returned (.int .i64 r) ∧ Below w.heap.size w w' := by
  have hu28 := Tryd.underlying28
  have HB := Aside0.mk (Below.refl w.heap.size w)
  have H : ((foliotref19_cut.f a1 0 15).bind fun t257 => ((foliotref19_cut.f a2 0 15).bind fun t258 => (if a0_9 > 0 then (some (wrap64 ((wrap64 ((wrap64 ((wrap64 ((Go.bits .and .i64 a0_0 3) * 16384)) + (wrap64 (t257 * 16)))) + t258)) + 1536))) else (some (wrap64 ((wrap64 ((wrap64 ((Go.bits .and .i64 a0_0 3) * 16384)) + (wrap64 (t257 * 16)))) + t258)))))) = some r := h
  clear h
  replace H := Option.bind_eq_some_iff.mp H
  obtain ⟨t257, A40, H⟩ := H
  replace H : ((foliotref19_cut.f a2 0 15).bind fun t258 => (if a0_9 > 0 then (some (wrap64 ((wrap64 ((wrap64 ((wrap64 ((Go.bits .and .i64 a0_0 3) * 16384)) + (wrap64 (t257 * 16)))) + t258)) + 1536))) else (some (wrap64 ((wrap64 ((wrap64 ((Go.bits .and .i64 a0_0 3) * 16384)) + (wrap64 (t257 * 16)))) + t258))))) = some r := H
  have A4 := Aside0.mk A40
  clear A40
  replace H := Option.bind_eq_some_iff.mp H
  obtain ⟨t258, A50, H⟩ := H
  replace H : (if a0_9 > 0 then (some (wrap64 ((wrap64 ((wrap64 ((wrap64 ((Go.bits .and .i64 a0_0 3) * 16384)) + (wrap64 (t257 * 16)))) + t258)) + 1536))) else (some (wrap64 ((wrap64 ((wrap64 ((Go.bits .and .i64 a0_0 3) * 16384)) + (wrap64 (t257 * 16)))) + t258)))) = some r := H
  have A5 := Aside0.mk A50
  clear A50
  by_cases c6 : a0_9 > 0
  · rw [if_pos c6] at H
    have c6b0 : decide (0 < a0_9) = true := decide_eq_true c6
    clear c6
    obtain rfl := Option.some.inj H
    go_enter Tryd.func13, Tryd.ntmps13
    try go_wp2_with (first | ((with_reducible refine gate_dst (N := 3) rfl ?_); refine box_event ?hg (N := 3) ?hd (cs := #[.int .i64 a0_0, .int .i64 a0_1, .int .i64 a0_2, .int .i64 a0_3, .int .i64 a0_4, .int .u32 a0_5, .int .u64 a0_6, .int .i64 a0_7, .int .i64 a0_8, .int .i64 a0_9, .int .i64 a0_10]) (t := 28) ?hr ?_; (case hd => rfl); (case hg => rfl); (case hr => first | (go_simp; done) | (go_simp; rfl)); intro gb256 hg w7 hbox hb; have n0_ := Aside0.mk (below_step (by repeat (first | (with_reducible first | exact HB.out | apply below_alloc | apply pw_below_drewN | apply below_drew1) | exact HB.out)) hb); have n1_ := Aside0.mk (hbox); have n2_ := Aside0.mk ((by rw [hg]; exact (below_size (by repeat (first | (with_reducible first | exact HB.out | apply below_alloc | apply pw_below_drewN | apply below_drew1) | exact HB.out))) : w.heap.size ≤ gb256)); have n3_ := Aside0.mk ((by rw [hg]; exact (below_size (by repeat (first | (with_reducible first | exact HB.out | apply below_alloc | apply pw_below_drewN | apply below_drew1) | exact HB.out))) : w.heap.size ≤ gb256)); clear HB; have HB := n0_; have BK256 := n1_; have GW256 := n2_; have GE256 := n3_; clear n0_ n1_ n2_ n3_; clear hb hbox hg))
    have n0_ := Aside0.mk (blk_drew BK256.out)
    have n1_ := Aside0.mk (below_drew1 HB.out)
    clear BK256
    clear HB
    have BK256 := n0_
    have HB := n1_
    clear n0_ n1_
    refine start_ (n := 12) (S := fun w' => w'.cell? ⟨gb256, 0, none⟩ = some (.int .i64 a0_0) ∧ w'.cell? ⟨gb256, 1, none⟩ = some (.int .i64 a0_1) ∧ w'.cell? ⟨gb256, 2, none⟩ = some (.int .i64 a0_2) ∧ w'.cell? ⟨gb256, 3, none⟩ = some (.int .i64 a0_3) ∧ w'.cell? ⟨gb256, 4, none⟩ = some (.int .i64 a0_4) ∧ w'.cell? ⟨gb256, 5, none⟩ = some (.int .u32 a0_5) ∧ w'.cell? ⟨gb256, 6, none⟩ = some (.int .u64 a0_6) ∧ w'.cell? ⟨gb256, 7, none⟩ = some (.int .i64 a0_7) ∧ w'.cell? ⟨gb256, 8, none⟩ = some (.int .i64 a0_8) ∧ w'.cell? ⟨gb256, 9, none⟩ = some (.int .i64 a0_9) ∧ w'.cell? ⟨gb256, 10, none⟩ = some (.int .i64 a0_10)) (ds := []) #[false, false, false, false, false, false, false, false, false, false, false, false] (by kernel_rfl) rfl rfl ⟨(blk_cell BK256.out 0).trans rfl, (blk_cell BK256.out 1).trans rfl, (blk_cell BK256.out 2).trans rfl, (blk_cell BK256.out 3).trans rfl, (blk_cell BK256.out 4).trans rfl, (blk_cell BK256.out 5).trans rfl, (blk_cell BK256.out 6).trans rfl, (blk_cell BK256.out 7).trans rfl, (blk_cell BK256.out 8).trans rfl, (blk_cell BK256.out 9).trans rfl, (blk_cell BK256.out 10).trans rfl⟩ (fun hHeld => ?_); refine with_tabW foliotref19_SystemStatus.tab1 foliotref19_SystemStatus.bits1 (fun HT_ HW_ => ?_)
    generalize w7.drew = w8 at BK256 HB hHeld ⊢
    refine pure_ (i := 0) (N := some 8) (v := ?_) (a' := ?_) #[true, false, false, false, false, false, false, false, false, false, false, false] rfl rfl (any_of HT_.out (by kernel_rfl)) (fun _ _ _ h => h) (Or.inl ⟨by rfl, ?_⟩) ?_ ?_
    rotate_left
    · intro w'
      go_simp
      with_reducible rfl
    rotate_left
    · simp only [Act.put, List.setIfInBounds_toArray, List.set_cons_zero, List.set_cons_succ, i64_w, i32_w]
      rfl
    refine pure_ (i := 4) (N := some 12) (v := ?_) (a' := ?_) #[true, false, false, false, true, false, false, false, false, false, false, false] rfl rfl (any_of HT_.out (by kernel_rfl)) (fun _ _ _ h => h) (Or.inl ⟨by rfl, ?_⟩) ?_ ?_
    rotate_left
    · intro w'
      go_simp
      with_reducible rfl
    rotate_left
    · simp only [Act.put, List.setIfInBounds_toArray, List.set_cons_zero, List.set_cons_succ, i64_w, i32_w]
      rfl
    refine pure_ (i := 8) (N := some 16) (v := ?_) (a' := ?_) #[true, false, false, false, true, false, false, false, true, false, false, false] rfl rfl (any_of HT_.out (by kernel_rfl)) (fun _ _ _ h => h) (Or.inl ⟨by rfl, ?_⟩) ?_ ?_
    rotate_left
    · intro w'
      go_simp
      with_reducible rfl
    rotate_left
    · simp only [Act.put, List.setIfInBounds_toArray, List.set_cons_zero, List.set_cons_succ, i64_w, i32_w]
      rfl
    refine take_ (i := 1) (N := some 9) (v := ?_) (a' := ?_) #[true, true, false, false, true, false, false, false, true, false, false, false] rfl rfl (take_ofW HT_.out HW_.out (by kernel_rfl)) (fun _ _ _ h => h) (Or.inl ⟨by rfl, ?_⟩) hHeld ?_ ?_
    rotate_left
    · rintro w' ⟨s0, s1, s2, s3, s4, s5, s6, s7, s8, s9, s10⟩
      go_simp
      with_reducible rfl
    rotate_left
    · simp only [Act.put, List.setIfInBounds_toArray, List.set_cons_zero, List.set_cons_succ, i64_w, i32_w]
      rfl
    refine pure_ (i := 2) (N := some 10) (v := ?_) (a' := ?_) #[true, true, true, false, true, false, false, false, true, false, false, false] rfl rfl (any_of HT_.out (by kernel_rfl)) (fun _ _ _ h => h) (Or.inl ⟨by rfl, ?_⟩) ?_ ?_
    rotate_left
    · intro w'
      go_simp
      with_reducible rfl
    rotate_left
    · simp only [Act.put, List.setIfInBounds_toArray, List.set_cons_zero, List.set_cons_succ, i64_w, i32_w]
      rfl
    refine pure_ (i := 3) (N := some 11) (v := ?_) (a' := ?_) #[true, true, true, true, true, false, false, false, true, false, false, false] rfl rfl (any_of HT_.out (by kernel_rfl)) (fun _ _ _ h => h) (Or.inl ⟨by rfl, ?_⟩) ?_ ?_
    rotate_left
    · intro w'
      go_simp
      with_reducible rfl
    rotate_left
    · simp only [Act.put, List.setIfInBounds_toArray, List.set_cons_zero, List.set_cons_succ, i64_w, i32_w]
      rfl
    refine one_ (i := 5) (N := some 13) #[true, true, true, true, true, true, false, false, true, false, false, false] rfl rfl (one_of HT_.out (by kernel_rfl)) (by decide) (fun K hK => ?_)
    refine goes_ Tryd.func23 (by kernel_rfl) rfl #[.int .i64 a1, .int .i64 0, .int .i64 15] (by rfl) rfl rfl (by (try simp only [List.map_toArray, List.map_cons, List.map_nil]); first | done | rfl | (simp only [List.length_drop, List.length_take]; rfl)) ?_
    with_reducible refine (foliotref19_cut.calls a1 0 15 t257 _ A4.out).mono ?_
    rintro e w9 ⟨rfl, hb⟩
    refine ⟨_, rfl, ?_⟩
    have n0_ := Aside0.mk (blk_below (g := gb256) (o := .cells #[.int .i64 a0_0, .int .i64 a0_1, .int .i64 a0_2, .int .i64 a0_3, .int .i64 a0_4, .int .u32 a0_5, .int .u64 a0_6, .int .i64 a0_7, .int .i64 a0_8, .int .i64 a0_9, .int .i64 a0_10] 28 (0, 0)) (by (with_reducible repeat (first | refine blk_drewN ?_ _ | refine blk_drew ?_ | refine blk_alloc ?_ _)); exact BK256.out) hb)
    have n1_ := Aside0.mk (below_step (by repeat (first | (with_reducible first | exact HB.out | apply below_alloc | apply pw_below_drewN | apply below_drew1 | refine below_set ?_ GE256.out) | exact HB.out)) hb)
    clear BK256
    clear HB
    have BK256 := n0_
    have HB := n1_
    clear n0_ n1_
    (try clear hb)
    (try clear hb2)
    (try clear hk)
    (try clear hi)
    refine hK.out _ _ ⟨(blk_cell BK256.out 0).trans rfl, (blk_cell BK256.out 1).trans rfl, (blk_cell BK256.out 2).trans rfl, (blk_cell BK256.out 3).trans rfl, (blk_cell BK256.out 4).trans rfl, (blk_cell BK256.out 5).trans rfl, (blk_cell BK256.out 6).trans rfl, (blk_cell BK256.out 7).trans rfl, (blk_cell BK256.out 8).trans rfl, (blk_cell BK256.out 9).trans rfl, (blk_cell BK256.out 10).trans rfl⟩ (fun hHeld => ?_)
    clear hK K
    refine norm_ (a' := ?_) ?_ ?_
    rotate_left
    · show Act.put _ (some 13) _ = _
      simp only [Act.put, List.setIfInBounds_toArray, List.set_cons_zero, List.set_cons_succ, i64_w, i32_w]
      rfl
    refine pure_ (i := 6) (N := some 14) (v := ?_) (a' := ?_) #[true, true, true, true, true, true, true, false, true, false, false, false] rfl rfl (any_of HT_.out (by kernel_rfl)) (fun _ _ _ h => h) (Or.inl ⟨by rfl, ?_⟩) ?_ ?_
    rotate_left
    · intro w'
      go_simp
      with_reducible rfl
    rotate_left
    · simp only [Act.put, List.setIfInBounds_toArray, List.set_cons_zero, List.set_cons_succ, i64_w, i32_w]
      rfl
    refine pure_ (i := 7) (N := some 15) (v := ?_) (a' := ?_) #[true, true, true, true, true, true, true, true, true, false, false, false] rfl rfl (any_of HT_.out (by kernel_rfl)) (fun _ _ _ h => h) (Or.inl ⟨by rfl, ?_⟩) ?_ ?_
    rotate_left
    · intro w'
      go_simp
      with_reducible rfl
    rotate_left
    · simp only [Act.put, List.setIfInBounds_toArray, List.set_cons_zero, List.set_cons_succ, i64_w, i32_w]
      rfl
    refine one_ (i := 9) (N := some 17) #[true, true, true, true, true, true, true, true, true, true, false, false] rfl rfl (one_of HT_.out (by kernel_rfl)) (by decide) (fun K hK => ?_)
    refine goes_ Tryd.func23 (by kernel_rfl) rfl #[.int .i64 a2, .int .i64 0, .int .i64 15] (by rfl) rfl rfl (by (try simp only [List.map_toArray, List.map_cons, List.map_nil]); first | done | rfl | (simp only [List.length_drop, List.length_take]; rfl)) ?_
    with_reducible refine (foliotref19_cut.calls a2 0 15 t258 _ A5.out).mono ?_
    rintro e w10 ⟨rfl, hb⟩
    refine ⟨_, rfl, ?_⟩
    have n0_ := Aside0.mk (blk_below (g := gb256) (o := .cells #[.int .i64 a0_0, .int .i64 a0_1, .int .i64 a0_2, .int .i64 a0_3, .int .i64 a0_4, .int .u32 a0_5, .int .u64 a0_6, .int .i64 a0_7, .int .i64 a0_8, .int .i64 a0_9, .int .i64 a0_10] 28 (0, 0)) (by (with_reducible repeat (first | refine blk_drewN ?_ _ | refine blk_drew ?_ | refine blk_alloc ?_ _)); exact BK256.out) hb)
    have n1_ := Aside0.mk (below_step (by repeat (first | (with_reducible first | exact HB.out | apply below_alloc | apply pw_below_drewN | apply below_drew1 | refine below_set ?_ GE256.out) | exact HB.out)) hb)
    clear BK256
    clear HB
    have BK256 := n0_
    have HB := n1_
    clear n0_ n1_
    (try clear hb)
    (try clear hb2)
    (try clear hk)
    (try clear hi)
    refine hK.out _ _ ⟨(blk_cell BK256.out 0).trans rfl, (blk_cell BK256.out 1).trans rfl, (blk_cell BK256.out 2).trans rfl, (blk_cell BK256.out 3).trans rfl, (blk_cell BK256.out 4).trans rfl, (blk_cell BK256.out 5).trans rfl, (blk_cell BK256.out 6).trans rfl, (blk_cell BK256.out 7).trans rfl, (blk_cell BK256.out 8).trans rfl, (blk_cell BK256.out 9).trans rfl, (blk_cell BK256.out 10).trans rfl⟩ (fun hHeld => ?_)
    clear hK K
    refine norm_ (a' := ?_) ?_ ?_
    rotate_left
    · show Act.put _ (some 17) _ = _
      simp only [Act.put, List.setIfInBounds_toArray, List.set_cons_zero, List.set_cons_succ, i64_w, i32_w]
      rfl
    refine pure_ (i := 10) (N := some 18) (v := ?_) (a' := ?_) #[true, true, true, true, true, true, true, true, true, true, true, false] rfl rfl (any_of HT_.out (by kernel_rfl)) (fun _ _ _ h => h) (Or.inl ⟨by rfl, ?_⟩) ?_ ?_
    rotate_left
    · intro w'
      go_simp
      with_reducible rfl
    rotate_left
    · simp only [Act.put, List.setIfInBounds_toArray, List.set_cons_zero, List.set_cons_succ, i64_w, i32_w]
      rfl
    refine pure_ (i := 11) (N := some 7) (v := ?_) (a' := ?_) #[true, true, true, true, true, true, true, true, true, true, true, true] rfl rfl (any_of HT_.out (by kernel_rfl)) (fun _ _ _ h => h) (Or.inl ⟨by rfl, ?_⟩) ?_ ?_
    rotate_left
    · intro w'
      go_simp
      with_reducible rfl
    rotate_left
    · simp only [Act.put, List.setIfInBounds_toArray, List.set_cons_zero, List.set_cons_succ, i64_w, i32_w]
      rfl
    refine done_ (done_of HT_.out (by kernel_rfl)) ?_
    have hcz11_0 : w10.cell? ⟨gb256, 0, none⟩ = some (.int .i64 a0_0) := (blk_cell BK256.out 0).trans rfl
    have hcz11_1 : w10.cell? ⟨gb256, 1, none⟩ = some (.int .i64 a0_1) := (blk_cell BK256.out 1).trans rfl
    have hcz11_2 : w10.cell? ⟨gb256, 2, none⟩ = some (.int .i64 a0_2) := (blk_cell BK256.out 2).trans rfl
    have hcz11_3 : w10.cell? ⟨gb256, 3, none⟩ = some (.int .i64 a0_3) := (blk_cell BK256.out 3).trans rfl
    have hcz11_4 : w10.cell? ⟨gb256, 4, none⟩ = some (.int .i64 a0_4) := (blk_cell BK256.out 4).trans rfl
    have hcz11_5 : w10.cell? ⟨gb256, 5, none⟩ = some (.int .u32 a0_5) := (blk_cell BK256.out 5).trans rfl
    have hcz11_6 : w10.cell? ⟨gb256, 6, none⟩ = some (.int .u64 a0_6) := (blk_cell BK256.out 6).trans rfl
    have hcz11_7 : w10.cell? ⟨gb256, 7, none⟩ = some (.int .i64 a0_7) := (blk_cell BK256.out 7).trans rfl
    have hcz11_8 : w10.cell? ⟨gb256, 8, none⟩ = some (.int .i64 a0_8) := (blk_cell BK256.out 8).trans rfl
    have hcz11_9 : w10.cell? ⟨gb256, 9, none⟩ = some (.int .i64 a0_9) := (blk_cell BK256.out 9).trans rfl
    have hcz11_10 : w10.cell? ⟨gb256, 10, none⟩ = some (.int .i64 a0_10) := (blk_cell BK256.out 10).trans rfl
    have hfz11_0 := blk_frozen BK256.out 0
    have hfz11_1 := blk_frozen BK256.out 1
    have hfz11_2 := blk_frozen BK256.out 2
    have hfz11_3 := blk_frozen BK256.out 3
    have hfz11_4 := blk_frozen BK256.out 4
    have hfz11_5 := blk_frozen BK256.out 5
    have hfz11_6 := blk_frozen BK256.out 6
    have hfz11_7 := blk_frozen BK256.out 7
    have hfz11_8 := blk_frozen BK256.out 8
    have hfz11_9 := blk_frozen BK256.out 9
    have hfz11_10 := blk_frozen BK256.out 10
    try go_wp2
    go_ret
    exact ⟨by first | rfl | (simp [errW_none, errW_some] <;> rfl) | (simp [*, errW_none, errW_some] <;> rfl), by repeat (first | (with_reducible first | exact HB.out | apply below_alloc | apply pw_below_drewN | apply below_drew1 | refine below_set ?_ GE256.out) | exact HB.out)⟩
  · rw [if_neg c6] at H
    have c6b0 : decide (0 < a0_9) = false := decide_eq_false c6
    clear c6
    obtain rfl := Option.some.inj H
    go_enter Tryd.func13, Tryd.ntmps13
    try go_wp2_with (first | ((with_reducible refine gate_dst (N := 3) rfl ?_); refine box_event ?hg (N := 3) ?hd (cs := #[.int .i64 a0_0, .int .i64 a0_1, .int .i64 a0_2, .int .i64 a0_3, .int .i64 a0_4, .int .u32 a0_5, .int .u64 a0_6, .int .i64 a0_7, .int .i64 a0_8, .int .i64 a0_9, .int .i64 a0_10]) (t := 28) ?hr ?_; (case hd => rfl); (case hg => rfl); (case hr => first | (go_simp; done) | (go_simp; rfl)); intro gb256 hg w12 hbox hb; have n0_ := Aside0.mk (below_step (by repeat (first | (with_reducible first | exact HB.out | apply below_alloc | apply pw_below_drewN | apply below_drew1) | exact HB.out)) hb); have n1_ := Aside0.mk (hbox); have n2_ := Aside0.mk ((by rw [hg]; exact (below_size (by repeat (first | (with_reducible first | exact HB.out | apply below_alloc | apply pw_below_drewN | apply below_drew1) | exact HB.out))) : w.heap.size ≤ gb256)); have n3_ := Aside0.mk ((by rw [hg]; exact (below_size (by repeat (first | (with_reducible first | exact HB.out | apply below_alloc | apply pw_below_drewN | apply below_drew1) | exact HB.out))) : w.heap.size ≤ gb256)); clear HB; have HB := n0_; have BK256 := n1_; have GW256 := n2_; have GE256 := n3_; clear n0_ n1_ n2_ n3_; clear hb hbox hg))
    have n0_ := Aside0.mk (blk_drew BK256.out)
    have n1_ := Aside0.mk (below_drew1 HB.out)
    clear BK256
    clear HB
    have BK256 := n0_
    have HB := n1_
    clear n0_ n1_
    refine start_ (n := 12) (S := fun w' => w'.cell? ⟨gb256, 0, none⟩ = some (.int .i64 a0_0) ∧ w'.cell? ⟨gb256, 1, none⟩ = some (.int .i64 a0_1) ∧ w'.cell? ⟨gb256, 2, none⟩ = some (.int .i64 a0_2) ∧ w'.cell? ⟨gb256, 3, none⟩ = some (.int .i64 a0_3) ∧ w'.cell? ⟨gb256, 4, none⟩ = some (.int .i64 a0_4) ∧ w'.cell? ⟨gb256, 5, none⟩ = some (.int .u32 a0_5) ∧ w'.cell? ⟨gb256, 6, none⟩ = some (.int .u64 a0_6) ∧ w'.cell? ⟨gb256, 7, none⟩ = some (.int .i64 a0_7) ∧ w'.cell? ⟨gb256, 8, none⟩ = some (.int .i64 a0_8) ∧ w'.cell? ⟨gb256, 9, none⟩ = some (.int .i64 a0_9) ∧ w'.cell? ⟨gb256, 10, none⟩ = some (.int .i64 a0_10)) (ds := []) #[false, false, false, false, false, false, false, false, false, false, false, false] (by kernel_rfl) rfl rfl ⟨(blk_cell BK256.out 0).trans rfl, (blk_cell BK256.out 1).trans rfl, (blk_cell BK256.out 2).trans rfl, (blk_cell BK256.out 3).trans rfl, (blk_cell BK256.out 4).trans rfl, (blk_cell BK256.out 5).trans rfl, (blk_cell BK256.out 6).trans rfl, (blk_cell BK256.out 7).trans rfl, (blk_cell BK256.out 8).trans rfl, (blk_cell BK256.out 9).trans rfl, (blk_cell BK256.out 10).trans rfl⟩ (fun hHeld => ?_); refine with_tabW foliotref19_SystemStatus.tab1 foliotref19_SystemStatus.bits1 (fun HT_ HW_ => ?_)
    generalize w12.drew = w13 at BK256 HB hHeld ⊢
    refine pure_ (i := 0) (N := some 8) (v := ?_) (a' := ?_) #[true, false, false, false, false, false, false, false, false, false, false, false] rfl rfl (any_of HT_.out (by kernel_rfl)) (fun _ _ _ h => h) (Or.inl ⟨by rfl, ?_⟩) ?_ ?_
    rotate_left
    · intro w'
      go_simp
      with_reducible rfl
    rotate_left
    · simp only [Act.put, List.setIfInBounds_toArray, List.set_cons_zero, List.set_cons_succ, i64_w, i32_w]
      rfl
    refine pure_ (i := 4) (N := some 12) (v := ?_) (a' := ?_) #[true, false, false, false, true, false, false, false, false, false, false, false] rfl rfl (any_of HT_.out (by kernel_rfl)) (fun _ _ _ h => h) (Or.inl ⟨by rfl, ?_⟩) ?_ ?_
    rotate_left
    · intro w'
      go_simp
      with_reducible rfl
    rotate_left
    · simp only [Act.put, List.setIfInBounds_toArray, List.set_cons_zero, List.set_cons_succ, i64_w, i32_w]
      rfl
    refine pure_ (i := 8) (N := some 16) (v := ?_) (a' := ?_) #[true, false, false, false, true, false, false, false, true, false, false, false] rfl rfl (any_of HT_.out (by kernel_rfl)) (fun _ _ _ h => h) (Or.inl ⟨by rfl, ?_⟩) ?_ ?_
    rotate_left
    · intro w'
      go_simp
      with_reducible rfl
    rotate_left
    · simp only [Act.put, List.setIfInBounds_toArray, List.set_cons_zero, List.set_cons_succ, i64_w, i32_w]
      rfl
    refine take_ (i := 1) (N := some 9) (v := ?_) (a' := ?_) #[true, true, false, false, true, false, false, false, true, false, false, false] rfl rfl (take_ofW HT_.out HW_.out (by kernel_rfl)) (fun _ _ _ h => h) (Or.inl ⟨by rfl, ?_⟩) hHeld ?_ ?_
    rotate_left
    · rintro w' ⟨s0, s1, s2, s3, s4, s5, s6, s7, s8, s9, s10⟩
      go_simp
      with_reducible rfl
    rotate_left
    · simp only [Act.put, List.setIfInBounds_toArray, List.set_cons_zero, List.set_cons_succ, i64_w, i32_w]
      rfl
    refine pure_ (i := 2) (N := some 10) (v := ?_) (a' := ?_) #[true, true, true, false, true, false, false, false, true, false, false, false] rfl rfl (any_of HT_.out (by kernel_rfl)) (fun _ _ _ h => h) (Or.inl ⟨by rfl, ?_⟩) ?_ ?_
    rotate_left
    · intro w'
      go_simp
      with_reducible rfl
    rotate_left
    · simp only [Act.put, List.setIfInBounds_toArray, List.set_cons_zero, List.set_cons_succ, i64_w, i32_w]
      rfl
    refine pure_ (i := 3) (N := some 11) (v := ?_) (a' := ?_) #[true, true, true, true, true, false, false, false, true, false, false, false] rfl rfl (any_of HT_.out (by kernel_rfl)) (fun _ _ _ h => h) (Or.inl ⟨by rfl, ?_⟩) ?_ ?_
    rotate_left
    · intro w'
      go_simp
      with_reducible rfl
    rotate_left
    · simp only [Act.put, List.setIfInBounds_toArray, List.set_cons_zero, List.set_cons_succ, i64_w, i32_w]
      rfl
    refine one_ (i := 5) (N := some 13) #[true, true, true, true, true, true, false, false, true, false, false, false] rfl rfl (one_of HT_.out (by kernel_rfl)) (by decide) (fun K hK => ?_)
    refine goes_ Tryd.func23 (by kernel_rfl) rfl #[.int .i64 a1, .int .i64 0, .int .i64 15] (by rfl) rfl rfl (by (try simp only [List.map_toArray, List.map_cons, List.map_nil]); first | done | rfl | (simp only [List.length_drop, List.length_take]; rfl)) ?_
    with_reducible refine (foliotref19_cut.calls a1 0 15 t257 _ A4.out).mono ?_
    rintro e w14 ⟨rfl, hb⟩
    refine ⟨_, rfl, ?_⟩
    have n0_ := Aside0.mk (blk_below (g := gb256) (o := .cells #[.int .i64 a0_0, .int .i64 a0_1, .int .i64 a0_2, .int .i64 a0_3, .int .i64 a0_4, .int .u32 a0_5, .int .u64 a0_6, .int .i64 a0_7, .int .i64 a0_8, .int .i64 a0_9, .int .i64 a0_10] 28 (0, 0)) (by (with_reducible repeat (first | refine blk_drewN ?_ _ | refine blk_drew ?_ | refine blk_alloc ?_ _)); exact BK256.out) hb)
    have n1_ := Aside0.mk (below_step (by repeat (first | (with_reducible first | exact HB.out | apply below_alloc | apply pw_below_drewN | apply below_drew1 | refine below_set ?_ GE256.out) | exact HB.out)) hb)
    clear BK256
    clear HB
    have BK256 := n0_
    have HB := n1_
    clear n0_ n1_
    (try clear hb)
    (try clear hb2)
    (try clear hk)
    (try clear hi)
    refine hK.out _ _ ⟨(blk_cell BK256.out 0).trans rfl, (blk_cell BK256.out 1).trans rfl, (blk_cell BK256.out 2).trans rfl, (blk_cell BK256.out 3).trans rfl, (blk_cell BK256.out 4).trans rfl, (blk_cell BK256.out 5).trans rfl, (blk_cell BK256.out 6).trans rfl, (blk_cell BK256.out 7).trans rfl, (blk_cell BK256.out 8).trans rfl, (blk_cell BK256.out 9).trans rfl, (blk_cell BK256.out 10).trans rfl⟩ (fun hHeld => ?_)
    clear hK K
    refine norm_ (a' := ?_) ?_ ?_
    rotate_left
    · show Act.put _ (some 13) _ = _
      simp only [Act.put, List.setIfInBounds_toArray, List.set_cons_zero, List.set_cons_succ, i64_w, i32_w]
      rfl
    refine pure_ (i := 6) (N := some 14) (v := ?_) (a' := ?_) #[true, true, true, true, true, true, true, false, true, false, false, false] rfl rfl (any_of HT_.out (by kernel_rfl)) (fun _ _ _ h => h) (Or.inl ⟨by rfl, ?_⟩) ?_ ?_
    rotate_left
    · intro w'
      go_simp
      with_reducible rfl
    rotate_left
    · simp only [Act.put, List.setIfInBounds_toArray, List.set_cons_zero, List.set_cons_succ, i64_w, i32_w]
      rfl
    refine pure_ (i := 7) (N := some 15) (v := ?_) (a' := ?_) #[true, true, true, true, true, true, true, true, true, false, false, false] rfl rfl (any_of HT_.out (by kernel_rfl)) (fun _ _ _ h => h) (Or.inl ⟨by rfl, ?_⟩) ?_ ?_
    rotate_left
    · intro w'
      go_simp
      with_reducible rfl
    rotate_left
    · simp only [Act.put, List.setIfInBounds_toArray, List.set_cons_zero, List.set_cons_succ, i64_w, i32_w]
      rfl
    refine one_ (i := 9) (N := some 17) #[true, true, true, true, true, true, true, true, true, true, false, false] rfl rfl (one_of HT_.out (by kernel_rfl)) (by decide) (fun K hK => ?_)
    refine goes_ Tryd.func23 (by kernel_rfl) rfl #[.int .i64 a2, .int .i64 0, .int .i64 15] (by rfl) rfl rfl (by (try simp only [List.map_toArray, List.map_cons, List.map_nil]); first | done | rfl | (simp only [List.length_drop, List.length_take]; rfl)) ?_
    with_reducible refine (foliotref19_cut.calls a2 0 15 t258 _ A5.out).mono ?_
    rintro e w15 ⟨rfl, hb⟩
    refine ⟨_, rfl, ?_⟩
    have n0_ := Aside0.mk (blk_below (g := gb256) (o := .cells #[.int .i64 a0_0, .int .i64 a0_1, .int .i64 a0_2, .int .i64 a0_3, .int .i64 a0_4, .int .u32 a0_5, .int .u64 a0_6, .int .i64 a0_7, .int .i64 a0_8, .int .i64 a0_9, .int .i64 a0_10] 28 (0, 0)) (by (with_reducible repeat (first | refine blk_drewN ?_ _ | refine blk_drew ?_ | refine blk_alloc ?_ _)); exact BK256.out) hb)
    have n1_ := Aside0.mk (below_step (by repeat (first | (with_reducible first | exact HB.out | apply below_alloc | apply pw_below_drewN | apply below_drew1 | refine below_set ?_ GE256.out) | exact HB.out)) hb)
    clear BK256
    clear HB
    have BK256 := n0_
    have HB := n1_
    clear n0_ n1_
    (try clear hb)
    (try clear hb2)
    (try clear hk)
    (try clear hi)
    refine hK.out _ _ ⟨(blk_cell BK256.out 0).trans rfl, (blk_cell BK256.out 1).trans rfl, (blk_cell BK256.out 2).trans rfl, (blk_cell BK256.out 3).trans rfl, (blk_cell BK256.out 4).trans rfl, (blk_cell BK256.out 5).trans rfl, (blk_cell BK256.out 6).trans rfl, (blk_cell BK256.out 7).trans rfl, (blk_cell BK256.out 8).trans rfl, (blk_cell BK256.out 9).trans rfl, (blk_cell BK256.out 10).trans rfl⟩ (fun hHeld => ?_)
    clear hK K
    refine norm_ (a' := ?_) ?_ ?_
    rotate_left
    · show Act.put _ (some 17) _ = _
      simp only [Act.put, List.setIfInBounds_toArray, List.set_cons_zero, List.set_cons_succ, i64_w, i32_w]
      rfl
    refine pure_ (i := 10) (N := some 18) (v := ?_) (a' := ?_) #[true, true, true, true, true, true, true, true, true, true, true, false] rfl rfl (any_of HT_.out (by kernel_rfl)) (fun _ _ _ h => h) (Or.inl ⟨by rfl, ?_⟩) ?_ ?_
    rotate_left
    · intro w'
      go_simp
      with_reducible rfl
    rotate_left
    · simp only [Act.put, List.setIfInBounds_toArray, List.set_cons_zero, List.set_cons_succ, i64_w, i32_w]
      rfl
    refine pure_ (i := 11) (N := some 7) (v := ?_) (a' := ?_) #[true, true, true, true, true, true, true, true, true, true, true, true] rfl rfl (any_of HT_.out (by kernel_rfl)) (fun _ _ _ h => h) (Or.inl ⟨by rfl, ?_⟩) ?_ ?_
    rotate_left
    · intro w'
      go_simp
      with_reducible rfl
    rotate_left
    · simp only [Act.put, List.setIfInBounds_toArray, List.set_cons_zero, List.set_cons_succ, i64_w, i32_w]
      rfl
    refine done_ (done_of HT_.out (by kernel_rfl)) ?_
    have hcz16_0 : w15.cell? ⟨gb256, 0, none⟩ = some (.int .i64 a0_0) := (blk_cell BK256.out 0).trans rfl
    have hcz16_1 : w15.cell? ⟨gb256, 1, none⟩ = some (.int .i64 a0_1) := (blk_cell BK256.out 1).trans rfl
    have hcz16_2 : w15.cell? ⟨gb256, 2, none⟩ = some (.int .i64 a0_2) := (blk_cell BK256.out 2).trans rfl
    have hcz16_3 : w15.cell? ⟨gb256, 3, none⟩ = some (.int .i64 a0_3) := (blk_cell BK256.out 3).trans rfl
    have hcz16_4 : w15.cell? ⟨gb256, 4, none⟩ = some (.int .i64 a0_4) := (blk_cell BK256.out 4).trans rfl
    have hcz16_5 : w15.cell? ⟨gb256, 5, none⟩ = some (.int .u32 a0_5) := (blk_cell BK256.out 5).trans rfl
    have hcz16_6 : w15.cell? ⟨gb256, 6, none⟩ = some (.int .u64 a0_6) := (blk_cell BK256.out 6).trans rfl
    have hcz16_7 : w15.cell? ⟨gb256, 7, none⟩ = some (.int .i64 a0_7) := (blk_cell BK256.out 7).trans rfl
    have hcz16_8 : w15.cell? ⟨gb256, 8, none⟩ = some (.int .i64 a0_8) := (blk_cell BK256.out 8).trans rfl
    have hcz16_9 : w15.cell? ⟨gb256, 9, none⟩ = some (.int .i64 a0_9) := (blk_cell BK256.out 9).trans rfl
    have hcz16_10 : w15.cell? ⟨gb256, 10, none⟩ = some (.int .i64 a0_10) := (blk_cell BK256.out 10).trans rfl
    have hfz16_0 := blk_frozen BK256.out 0
    have hfz16_1 := blk_frozen BK256.out 1
    have hfz16_2 := blk_frozen BK256.out 2
    have hfz16_3 := blk_frozen BK256.out 3
    have hfz16_4 := blk_frozen BK256.out 4
    have hfz16_5 := blk_frozen BK256.out 5
    have hfz16_6 := blk_frozen BK256.out 6
    have hfz16_7 := blk_frozen BK256.out 7
    have hfz16_8 := blk_frozen BK256.out 8
    have hfz16_9 := blk_frozen BK256.out 9
    have hfz16_10 := blk_frozen BK256.out 10
    try go_wp2
    go_ret
    exact ⟨by first | rfl | (simp [errW_none, errW_some] <;> rfl) | (simp [*, errW_none, errW_some] <;> rfl), by repeat (first | (with_reducible first | exact HB.out | apply below_alloc | apply pw_below_drewN | apply below_drew1 | refine below_set ?_ GE256.out) | exact HB.out)⟩

/-! ### control_PeerStatus: function 14 -/
def control_PeerStatus.j0 : Nat → Bool → Bool → Int → Option (Int)
  | 0, _, _, _ => none
  | k + 1, x1, x2, x7 => if x1 = true then (some (Go.bits .or .i64 x7 1536)) else (if x2 = true then (some (Go.bits .or .i64 x7 1024)) else (some x7))
def control_PeerStatus.f (k : Nat) (a0 : Int) (a1 : Bool) (a2 : Bool) : Option (Int) := if a0 = 0 then (control_PeerStatus.j0 k a1 a2 32768) else (control_PeerStatus.j0 k a1 a2 (Go.bits .or .i64 32768 4096))
theorem control_PeerStatus.mono_l : ∀ k, (∀ y0 y1 y2, LeO (control_PeerStatus.j0 k y0 y1 y2) (control_PeerStatus.j0 (k + 1) y0 y1 y2))
  | 0 => fun _ _ _ r h => by simp [control_PeerStatus.j0] at h
  | k + 1 => by
    have ih0 := control_PeerStatus.mono_l k
    · intro y0 y1 y2
      unfold control_PeerStatus.j0
      repeat' first
      | (with_reducible exact ih0 _ _ _)
      | (with_reducible exact LeO.refl _)
      | (with_reducible exact LeO.none _)
      | (with_reducible refine LeO.ite ?_ ?_)
      | (with_reducible refine LeO.bind ?_ (fun _ => ?_))
      | exact ih0 _ _ _
      | exact LeO.none _
      | refine LeO.ite ?_ ?_
      | refine LeO.bind ?_ (fun _ => ?_)
theorem control_PeerStatus.mono : ∀ a0 a1 a2 k, LeO (control_PeerStatus.f k a0 a1 a2) (control_PeerStatus.f (k + 1) a0 a1 a2) := by
  intro a0 a1 a2 k
  have ih0 := control_PeerStatus.mono_l k
  unfold control_PeerStatus.f
  repeat' first
      | (with_reducible exact ih0 _ _ _)
      | (with_reducible exact LeO.refl _)
      | (with_reducible exact LeO.none _)
      | (with_reducible refine LeO.ite ?_ ?_)
      | (with_reducible refine LeO.bind ?_ (fun _ => ?_))
      | exact ih0 _ _ _
      | exact LeO.none _
      | refine LeO.ite ?_ ?_
      | refine LeO.bind ?_ (fun _ => ?_)
set_option maxHeartbeats 8000000 in
set_option maxRecDepth 100000 in
theorem control_PeerStatus.calls (k : Nat) (a0 : Int) (a1 : Bool) (a2 : Bool) (r : Int) (w : World) (h : control_PeerStatus.f k a0 a1 a2 = some r) :
    Calls Tryd.prog 14 #[.int .i64 a0, .bool a1, .bool a2] w fun e w' => e = .returned (.int .i64 r) ∧ Drawn0 w w' := by
  have H : (if a0 = 0 then (control_PeerStatus.j0 k a1 a2 32768) else (control_PeerStatus.j0 k a1 a2 (Go.bits .or .i64 32768 4096))) = some r := h
  clear h
  have HC4 := Aside0.mk H
  clear H
  go_enter Tryd.func14, Tryd.ntmps14
  go_upto_if 9 with (fail)
  go_cut [7] (fun v7 wc => ∃ (kq : Nat) (x7_3 : Int), v7 = .int .i64 x7_3 ∧ Aside0 (control_PeerStatus.j0 kq a1 a2 x7_3 = some r) ∧ Aside0 (kq ≤ k) ∧ Drawn0 w wc)
  case first =>
    have H := HC4.out
    clear HC4
    by_cases c5 : a0 = 0
    · rw [if_pos c5] at H
      have c5b0 : (a0 == 0) = true := beq_iff_eq.mpr c5
      have c5b1 : (a0 != 0) = false := bne_eq_false_iff_eq.mpr c5
      clear c5
      (first | rw [c5b0] | (simp only [i64_w, i32_w]; rw [c5b0]) | skip)
      have H' := Aside0.mk H
      clear H
      go_wp2
      go_meet
      case rel => exact ⟨_, (32768), (by first | rfl | (simp; done) | (simp [*]; done)), H', ⟨by first | omega | exact Nat.le_refl _⟩, by repeat (first | exact Drawn0.refl _ | apply Drawn0.step)⟩
    · rw [if_neg c5] at H
      have c5b0 : (a0 == 0) = false := beq_eq_false_iff_ne.mpr c5
      have c5b1 : (a0 != 0) = true := bne_iff_ne.mpr c5
      (first | rw [c5b0] | (simp only [i64_w, i32_w]; rw [c5b0]) | skip)
      have H' := Aside0.mk H
      clear H
      go_wp2
      go_meet
      case rel => exact ⟨_, (Go.bits .or .i64 32768 4096), (by first | rfl | (simp; done) | (simp [*]; done)), H', ⟨by first | omega | exact Nat.le_refl _⟩, by repeat (first | exact Drawn0.refl _ | apply Drawn0.step)⟩
  case rest =>
    clear HC4
    try clear c1
    try clear p2
    try clear c5
    try clear c5b0
    try clear c5b1
    obtain ⟨kq, x7_3, rfl, HA, HJ3, ⟨mc3, rfl⟩⟩ := hcut
    cases kq with
    | zero => exact absurd HA.out (by simp [control_PeerStatus.j0])
    | succ kj3 =>
      have H := HA.out
      clear HA
      simp only [control_PeerStatus.j0] at H
      by_cases c6 : a1 = true
      · subst c6
        have H1 : (some (Go.bits .or .i64 x7_3 1536)) = some r := by rw [if_pos rfl] at H; exact H
        clear H
        have H := H1
        clear H1
        obtain rfl := Option.some.inj H
        go_wp2
        go_ret
        exact ⟨by first | rfl | (simp; done) | (simp [*]; done), by repeat (first | exact Drawn0.refl _ | apply Drawn0.step)⟩
      · replace c6 := Bool.eq_false_iff.mpr c6
        subst c6
        have H1 : (if a2 = true then (some (Go.bits .or .i64 x7_3 1024)) else (some x7_3)) = some r := by rw [if_neg (show ¬ (false = true) by decide)] at H; exact H
        clear H
        have H := H1
        clear H1
        by_cases c7 : a2 = true
        · subst c7
          have H1 : (some (Go.bits .or .i64 x7_3 1024)) = some r := by rw [if_pos rfl] at H; exact H
          clear H
          have H := H1
          clear H1
          obtain rfl := Option.some.inj H
          go_wp2
          go_ret
          exact ⟨by first | rfl | (simp; done) | (simp [*]; done), by repeat (first | exact Drawn0.refl _ | apply Drawn0.step)⟩
        · replace c7 := Bool.eq_false_iff.mpr c7
          subst c7
          have H1 : (some x7_3) = some r := by rw [if_neg (show ¬ (false = true) by decide)] at H; exact H
          clear H
          have H := H1
          clear H1
          obtain rfl := Option.some.inj H
          go_wp2
          go_ret
          exact ⟨by first | rfl | (simp; done) | (simp [*]; done), by repeat (first | exact Drawn0.refl _ | apply Drawn0.step)⟩

/-! ### foliotref19_PeerStatus: function 15 -/
def foliotref19_PeerStatus.j0 : Nat → Bool → Bool → Int → Option (Int)
  | 0, _, _, _ => none
  | k + 1, x1, x2, x7 => if x1 = true then (some (wrap64 (x7 + 1536))) else (if x2 = true then (some (wrap64 (x7 + 1024))) else (some x7))
def foliotref19_PeerStatus.f (k : Nat) (a0 : Int) (a1 : Bool) (a2 : Bool) : Option (Int) := if a0 = 0 then (foliotref19_PeerStatus.j0 k a1 a2 32768) else (foliotref19_PeerStatus.j0 k a1 a2 (32768 + 4096))
theorem foliotref19_PeerStatus.mono_l : ∀ k, (∀ y0 y1 y2, LeO (foliotref19_PeerStatus.j0 k y0 y1 y2) (foliotref19_PeerStatus.j0 (k + 1) y0 y1 y2))
  | 0 => fun _ _ _ r h => by simp [foliotref19_PeerStatus.j0] at h
  | k + 1 => by
    have ih0 := foliotref19_PeerStatus.mono_l k
    · intro y0 y1 y2
      unfold foliotref19_PeerStatus.j0
      repeat' first
      | (with_reducible exact ih0 _ _ _)
      | (with_reducible exact LeO.refl _)
      | (with_reducible exact LeO.none _)
      | (with_reducible refine LeO.ite ?_ ?_)
      | (with_reducible refine LeO.bind ?_ (fun _ => ?_))
      | exact ih0 _ _ _
      | exact LeO.none _
      | refine LeO.ite ?_ ?_
      | refine LeO.bind ?_ (fun _ => ?_)
theorem foliotref19_PeerStatus.mono : ∀ a0 a1 a2 k, LeO (foliotref19_PeerStatus.f k a0 a1 a2) (foliotref19_PeerStatus.f (k + 1) a0 a1 a2) := by
  intro a0 a1 a2 k
  have ih0 := foliotref19_PeerStatus.mono_l k
  unfold foliotref19_PeerStatus.f
  repeat' first
      | (with_reducible exact ih0 _ _ _)
      | (with_reducible exact LeO.refl _)
      | (with_reducible exact LeO.none _)
      | (with_reducible refine LeO.ite ?_ ?_)
      | (with_reducible refine LeO.bind ?_ (fun _ => ?_))
      | exact ih0 _ _ _
      | exact LeO.none _
      | refine LeO.ite ?_ ?_
      | refine LeO.bind ?_ (fun _ => ?_)
set_option maxHeartbeats 8000000 in
set_option maxRecDepth 100000 in
theorem foliotref19_PeerStatus.calls (k : Nat) (a0 : Int) (a1 : Bool) (a2 : Bool) (r : Int) (w : World) (h : foliotref19_PeerStatus.f k a0 a1 a2 = some r) :
    Calls Tryd.prog 15 #[.int .i64 a0, .bool a1, .bool a2] w fun e w' => e = .returned (.int .i64 r) ∧ Drawn0 w w' := by
  have H : (if a0 = 0 then (foliotref19_PeerStatus.j0 k a1 a2 32768) else (foliotref19_PeerStatus.j0 k a1 a2 (32768 + 4096))) = some r := h
  clear h
  have HC4 := Aside0.mk H
  clear H
  go_enter Tryd.func15, Tryd.ntmps15
  go_upto_if 9 with (fail)
  go_cut [7] (fun v7 wc => ∃ (kq : Nat) (x7_3 : Int), v7 = .int .i64 x7_3 ∧ Aside0 (foliotref19_PeerStatus.j0 kq a1 a2 x7_3 = some r) ∧ Aside0 (kq ≤ k) ∧ Drawn0 w wc)
  case first =>
    have H := HC4.out
    clear HC4
    by_cases c5 : a0 = 0
    · rw [if_pos c5] at H
      have c5b0 : (a0 == 0) = true := beq_iff_eq.mpr c5
      have c5b1 : (a0 != 0) = false := bne_eq_false_iff_eq.mpr c5
      clear c5
      (first | rw [c5b0] | (simp only [i64_w, i32_w]; rw [c5b0]) | skip)
      have H' := Aside0.mk H
      clear H
      go_wp2
      go_meet
      case rel => exact ⟨_, (32768), (by first | rfl | (simp; done) | (simp [*]; done)), H', ⟨by first | omega | exact Nat.le_refl _⟩, by repeat (first | exact Drawn0.refl _ | apply Drawn0.step)⟩
    · rw [if_neg c5] at H
      have c5b0 : (a0 == 0) = false := beq_eq_false_iff_ne.mpr c5
      have c5b1 : (a0 != 0) = true := bne_iff_ne.mpr c5
      (first | rw [c5b0] | (simp only [i64_w, i32_w]; rw [c5b0]) | skip)
      have H' := Aside0.mk H
      clear H
      go_wp2
      go_meet
      case rel => exact ⟨_, (32768 + 4096), (by first | rfl | (simp; done) | (simp [*]; done)), H', ⟨by first | omega | exact Nat.le_refl _⟩, by repeat (first | exact Drawn0.refl _ | apply Drawn0.step)⟩
  case rest =>
    clear HC4
    try clear c1
    try clear p2
    try clear c5
    try clear c5b0
    try clear c5b1
    obtain ⟨kq, x7_3, rfl, HA, HJ3, ⟨mc3, rfl⟩⟩ := hcut
    cases kq with
    | zero => exact absurd HA.out (by simp [foliotref19_PeerStatus.j0])
    | succ kj3 =>
      have H := HA.out
      clear HA
      simp only [foliotref19_PeerStatus.j0] at H
      by_cases c6 : a1 = true
      · subst c6
        have H1 : (some (wrap64 (x7_3 + 1536))) = some r := by rw [if_pos rfl] at H; exact H
        clear H
        have H := H1
        clear H1
        obtain rfl := Option.some.inj H
        go_wp2
        go_ret
        exact ⟨by first | rfl | (simp; done) | (simp [*]; done), by repeat (first | exact Drawn0.refl _ | apply Drawn0.step)⟩
      · replace c6 := Bool.eq_false_iff.mpr c6
        subst c6
        have H1 : (if a2 = true then (some (wrap64 (x7_3 + 1024))) else (some x7_3)) = some r := by rw [if_neg (show ¬ (false = true) by decide)] at H; exact H
        clear H
        have H := H1
        clear H1
        by_cases c7 : a2 = true
        · subst c7
          have H1 : (some (wrap64 (x7_3 + 1024))) = some r := by rw [if_pos rfl] at H; exact H
          clear H
          have H := H1
          clear H1
          obtain rfl := Option.some.inj H
          go_wp2
          go_ret
          exact ⟨by first | rfl | (simp; done) | (simp [*]; done), by repeat (first | exact Drawn0.refl _ | apply Drawn0.step)⟩
        · replace c7 := Bool.eq_false_iff.mpr c7
          subst c7
          have H1 : (some x7_3) = some r := by rw [if_neg (show ¬ (false = true) by decide)] at H; exact H
          clear H
          have H := H1
          clear H1
          obtain rfl := Option.some.inj H
          go_wp2
          go_ret
          exact ⟨by first | rfl | (simp; done) | (simp [*]; done), by repeat (first | exact Drawn0.refl _ | apply Drawn0.step)⟩



end Go.Proofs.YtpclhceafigibaaDoor.PVars
