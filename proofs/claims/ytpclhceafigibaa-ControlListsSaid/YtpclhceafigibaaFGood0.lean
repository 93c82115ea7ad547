/- Toward the contract of control.Good: its closures and the three cases in which a size settles it: a variable is good just if its name has 1 to 24 bytes, all of them letters, digits, dots or underlines, and its value at most 64, all of them plain. No conditions. -/
import Derived.Test.YtpclhceafigibaaPAllx0
import Derived.Test.YtpclhceafigibaaShelf
import Derived.Test.YtpclhceafigibaaFIdx
import Derived.Deep.RegionWith
import Derived.Handy
import Derived.Lib.Hide
import Derived.Deep.QuietTactic
import Derived.BigQuiet
namespace Go.Proofs.Ytpclhceafigibaa.PAll
set_option linter.unusedVariables false
set_option linter.unusedSimpArgs false
open Go.RowKit Go.Proofs.YtpclhceafigibaaW.PrintWords Go.Proofs.YtpclhceafigibaaW.PrintLast Go.Proofs.YtpclhceafigibaaW.PrintMore
open Go.Proofs (PredAt FnGives encR)
def namedN (r : Nat) : Bool := decide ((97 ≤ r ∧ r ≤ 122) ∨ (48 ≤ r ∧ r ≤ 57) ∨ r = 46 ∨ r = 95)
def plainN (r : Nat) : Bool := decide (32 ≤ r ∧ r ≤ 126 ∧ r ≠ 34)
def namedB (b : UInt8) : Bool := namedN b.toNat
def plainB (b : UInt8) : Bool := plainN b.toNat

theorem ret_bool {a b : Bool} (h : a = b) : Ending.returned (.bool a) = .returned (.bool b) := by rw [h]
set_option maxHeartbeats 1000000 in
theorem named_calls (r : Nat) (W : World) : Calls Try.prog 26 #[.int .i32 (r : Int)] W fun e w' => e = .returned (.bool (namedN r)) ∧ W = w' := by
  go_enter Try.func26, Try.ntmps26
  go_wp2
  all_goals go_ret
  all_goals exact ⟨ret_bool (by rw [Bool.eq_iff_iff]; simp [namedN]; omega), rfl⟩
set_option maxHeartbeats 1000000 in
theorem plain_calls (r : Nat) (W : World) : Calls Try.prog 25 #[.int .i32 (r : Int)] W fun e w' => e = .returned (.bool (plainN r)) ∧ W = w' := by
  go_enter Try.func25, Try.ntmps25
  go_wp2
  all_goals go_ret
  all_goals exact ⟨ret_bool (by rw [Bool.eq_iff_iff]; simp [plainN]; omega), rfl⟩
set_option maxHeartbeats 1000000 in
theorem not_calls (g : Nat) (w : World) : Calls Try.prog 27 #[.func (.func g) #[] #[]] w fun e w' => e = .returned (.func (.func 28) #[] #[.pointer (some ⟨w.heap.size, 0, none⟩)]) ∧ w.alloc (.cells #[.func (.func g) #[] #[]] 59) = w' := by
  go_enter Try.func27, Try.ntmps27
  go_wp2
  go_ret
  exact ⟨rfl, rfl⟩
set_option maxHeartbeats 1000000 in
theorem not_named (w : World) (b : Nat) (hb : b < w.heap.size) (hc : w.cell? ⟨b, 0, none⟩ = some (.func (.func 26) #[] #[])) :
    PredAt Try.prog 28 #[.pointer (some ⟨b, 0, none⟩)] encR (fun r => !namedN r) w := fun W r hB => by
  have hc' : W.cell? ⟨b, 0, none⟩ = some (.func (.func 26) #[] #[]) := (hB.cell (p := ⟨b, 0, none⟩) hb).trans hc
  unfold FnGives
  go_enter Try.func28, Try.ntmps28
  go_wp2_with (go_at_call 26; refine (named_calls _ _).mono ?_; rintro e w' ⟨rfl, rfl⟩)
  go_ret
  exact ⟨rfl, 0, rfl⟩
set_option maxHeartbeats 1000000 in
theorem not_plain (w : World) (b : Nat) (hb : b < w.heap.size) (hc : w.cell? ⟨b, 0, none⟩ = some (.func (.func 25) #[] #[])) :
    PredAt Try.prog 28 #[.pointer (some ⟨b, 0, none⟩)] encR (fun r => !plainN r) w := fun W r hB => by
  have hc' : W.cell? ⟨b, 0, none⟩ = some (.func (.func 25) #[] #[]) := (hB.cell (p := ⟨b, 0, none⟩) hb).trans hc
  unfold FnGives
  go_enter Try.func28, Try.ntmps28
  go_wp2_with (go_at_call 25; refine (plain_calls _ _).mono ?_; rintro e w' ⟨rfl, rfl⟩)
  go_ret
  exact ⟨rfl, 0, rfl⟩
def Behind (n : Nat) (u v r : Value) (W : World) (e : Ending) (w1 : World) : Prop := e = .returned r ∧ Below W.heap.size W w1 ∧ w1.cell? ⟨n, 0, none⟩ = some u ∧ w1.cell? ⟨n, 1, none⟩ = some v ∧ n < w1.heap.size
theorem idx_named (a : ByteArray) (X : Int) (hX : Hid (Lib.idxFunc (fun r => !namedN r) true a = X)) (b n : Nat) (u v : Value) (W : World) (hb : b < W.heap.size) (hc : W.cell? ⟨b, 0, none⟩ = some (.func (.func 26) #[] #[])) (hn : n < W.heap.size) (h0 : W.cell? ⟨n, 0, none⟩ = some u) (h1 : W.cell? ⟨n, 1, none⟩ = some v) :
    Calls Try.prog 29 #[.string a, .func (.func 28) #[] #[.pointer (some ⟨b, 0, none⟩)]] W (Behind n u v (.int .i64 X) W) :=
  (Try.strings_IndexFunc 28 _ (enters_of Try.func28 (by kernel_rfl) rfl) (fun r => !namedN r) a W (not_named W b hb hc)).mono fun e w1 ⟨he, hB⟩ => by
    rw [hX.out] at he
    exact ⟨he, hB, (hB.cell (p := ⟨n, 0, none⟩) hn).trans h0, (hB.cell (p := ⟨n, 1, none⟩) hn).trans h1, by have := hB.size; omega⟩
theorem idx_plain (a : ByteArray) (X : Int) (hX : Hid (Lib.idxFunc (fun r => !plainN r) true a = X)) (b : Nat) (W : World) (hb : b < W.heap.size) (hc : W.cell? ⟨b, 0, none⟩ = some (.func (.func 25) #[] #[])) :
    Calls Try.prog 29 #[.string a, .func (.func 28) #[] #[.pointer (some ⟨b, 0, none⟩)]] W fun e w1 => e = .returned (.int .i64 X) ∧ Below W.heap.size W w1 :=
  (Try.strings_IndexFunc 28 _ (enters_of Try.func28 (by kernel_rfl) rfl) (fun r => !plainN r) a W (not_plain W b hb hc)).mono fun e w1 ⟨he, hB⟩ => by
    rw [hX.out] at he
    exact ⟨he, hB⟩
theorem belowNs {B : Nat} {a w : World} (h : Below B a w) : ∀ n, Below B a (w.drewN n)
  | 0 => h
  | n + 1 => (belowNs h n).drew
set_option maxHeartbeats 4000000 in
theorem good_0 (a b : ByteArray) (w : World) (h1 : a.size = 0) :
    Calls Try.prog 13 #[.agg #[.string a, .string b]] w fun e w' => e = .returned (.bool false) ∧ Below w.heap.size w w' := by
  have d1 : decide ((0 : Int) < (a.size : Int)) = false := decide_eq_false (by omega)
  go_enter Try.func13, Try.ntmps13
  go_wp2
  go_quiet (fail)
  all_goals go_wp2
  all_goals go_ret
  all_goals exact ⟨rfl, belowNs ((Below.refl _ w).alloc (Nat.le_refl _) _) _⟩
set_option maxHeartbeats 4000000 in
theorem good_24 (a b : ByteArray) (w : World) (h1 : 0 < a.size) (h2 : 24 < a.size) :
    Calls Try.prog 13 #[.agg #[.string a, .string b]] w fun e w' => e = .returned (.bool false) ∧ Below w.heap.size w w' := by
  have d1 : decide ((0 : Int) < (a.size : Int)) = true := decide_eq_true (by omega)
  have d2 : decide ((a.size : Int) ≤ 24) = false := decide_eq_false (by omega)
  go_enter Try.func13, Try.ntmps13
  go_wp2
  go_quiet (fail)
  all_goals go_wp2
  all_goals go_ret
  all_goals exact ⟨rfl, belowNs ((Below.refl _ w).alloc (Nat.le_refl _) _) _⟩
set_option maxHeartbeats 4000000 in
theorem good_64 (a b : ByteArray) (w : World) (h1 : 0 < a.size) (h2 : a.size ≤ 24) (h3 : 64 < b.size) :
    Calls Try.prog 13 #[.agg #[.string a, .string b]] w fun e w' => e = .returned (.bool false) ∧ Below w.heap.size w w' := by
  have d1 : decide ((0 : Int) < (a.size : Int)) = true := decide_eq_true (by omega)
  have d2 : decide ((a.size : Int) ≤ 24) = true := decide_eq_true (by omega)
  have d3 : decide ((b.size : Int) ≤ 64) = false := decide_eq_false (by omega)
  go_enter Try.func13, Try.ntmps13
  go_wp2
  go_quiet (fail)
  all_goals go_wp2
  all_goals go_ret
  all_goals exact ⟨rfl, belowNs ((Below.refl _ w).alloc (Nat.le_refl _) _) _⟩
end Go.Proofs.Ytpclhceafigibaa.PAll
