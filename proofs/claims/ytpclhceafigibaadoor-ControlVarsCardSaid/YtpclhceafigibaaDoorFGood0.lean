/- Toward the contract of control.Good: its closures and the three cases in which a size settles it: a variable is good just if its name has 1 to 24 bytes, all of them letters, digits, dots or underlines, and its value at most 64, all of them plain. No conditions. -/
import Derived.Test.YtpclhceafigibaaDoorPVarsx0
import Derived.Test.YtpclhceafigibaaDoorShelf
import Derived.Test.YtpclhceafigibaaDoorFIdx
import Derived.Deep.RegionWith
import Derived.Handy
import Derived.Lib.Hide
import Derived.Deep.QuietTactic
import Derived.BigQuiet
namespace Go.Proofs.YtpclhceafigibaaDoor.PVars
set_option linter.unusedVariables false
set_option linter.unusedSimpArgs false
open Go.RowKit Go.Proofs.YtpclhceafigibaaDoorW.PrintWords Go.Proofs.YtpclhceafigibaaDoorW.PrintLast Go.Proofs.YtpclhceafigibaaDoorW.PrintMore
open Go.Proofs (PredAt FnGives encR)
def namedN (r : Nat) : Bool := decide ((97 ≤ r ∧ r ≤ 122) ∨ (48 ≤ r ∧ r ≤ 57) ∨ r = 46 ∨ r = 95)
def plainN (r : Nat) : Bool := decide (32 ≤ r ∧ r ≤ 126 ∧ r ≠ 34)
def namedB (b : UInt8) : Bool := namedN b.toNat
def plainB (b : UInt8) : Bool := plainN b.toNat

theorem ret_bool {a b : Bool} (h : a = b) : Ending.returned (.bool a) = .returned (.bool b) := by rw [h]
set_option maxHeartbeats 1000000 in
theorem named_calls (r : Nat) (W : World) : Calls Tryd.prog 31 #[.int .i32 (r : Int)] W fun e w' => e = .returned (.bool (namedN r)) ∧ W = w' := by
  go_enter Tryd.func31, Tryd.ntmps31
  go_wp2
  all_goals go_ret
  all_goals exact ⟨ret_bool (by rw [Bool.eq_iff_iff]; simp [namedN]; omega), rfl⟩
set_option maxHeartbeats 1000000 in
theorem plain_calls (r : Nat) (W : World) : Calls Tryd.prog 30 #[.int .i32 (r : Int)] W fun e w' => e = .returned (.bool (plainN r)) ∧ W = w' := by
  go_enter Tryd.func30, Tryd.ntmps30
  go_wp2
  all_goals go_ret
  all_goals exact ⟨ret_bool (by rw [Bool.eq_iff_iff]; simp [plainN]; omega), rfl⟩
set_option maxHeartbeats 1000000 in
theorem not_calls (g : Nat) (w : World) : Calls Tryd.prog 32 #[.func (.func g) #[] #[]] w fun e w' => e = .returned (.func (.func 33) #[] #[.pointer (some ⟨w.heap.size, 0, none⟩)]) ∧ w.alloc (.cells #[.func (.func g) #[] #[]] 63) = w' := by
  go_enter Tryd.func32, Tryd.ntmps32
  go_wp2
  go_ret
  exact ⟨rfl, rfl⟩
set_option maxHeartbeats 1000000 in
theorem not_named (w : World) (b : Nat) (hb : b < w.heap.size) (hc : w.cell? ⟨b, 0, none⟩ = some (.func (.func 31) #[] #[])) :
    PredAt Tryd.prog 33 #[.pointer (some ⟨b, 0, none⟩)] encR (fun r => !namedN r) w := fun W r hB => by
  have hc' : W.cell? ⟨b, 0, none⟩ = some (.func (.func 31) #[] #[]) := (hB.cell (p := ⟨b, 0, none⟩) hb).trans hc
  unfold FnGives
  go_enter Tryd.func33, Tryd.ntmps33
  go_wp2_with (go_at_call 31; refine (named_calls _ _).mono ?_; rintro e w' ⟨rfl, rfl⟩)
  go_ret
  exact ⟨rfl, 0, rfl⟩
set_option maxHeartbeats 1000000 in
theorem not_plain (w : World) (b : Nat) (hb : b < w.heap.size) (hc : w.cell? ⟨b, 0, none⟩ = some (.func (.func 30) #[] #[])) :
    PredAt Tryd.prog 33 #[.pointer (some ⟨b, 0, none⟩)] encR (fun r => !plainN r) w := fun W r hB => by
  have hc' : W.cell? ⟨b, 0, none⟩ = some (.func (.func 30) #[] #[]) := (hB.cell (p := ⟨b, 0, none⟩) hb).trans hc
  unfold FnGives
  go_enter Tryd.func33, Tryd.ntmps33
  go_wp2_with (go_at_call 30; refine (plain_calls _ _).mono ?_; rintro e w' ⟨rfl, rfl⟩)
  go_ret
  exact ⟨rfl, 0, rfl⟩
def Behind (n : Nat) (u v r : Value) (W : World) (e : Ending) (w1 : World) : Prop := e = .returned r ∧ Below W.heap.size W w1 ∧ w1.cell? ⟨n, 0, none⟩ = some u ∧ w1.cell? ⟨n, 1, none⟩ = some v ∧ n < w1.heap.size
theorem idx_named (a : ByteArray) (X : Int) (hX : Hid (Lib.idxFunc (fun r => !namedN r) true a = X)) (b n : Nat) (u v : Value) (W : World) (hb : b < W.heap.size) (hc : W.cell? ⟨b, 0, none⟩ = some (.func (.func 31) #[] #[])) (hn : n < W.heap.size) (h0 : W.cell? ⟨n, 0, none⟩ = some u) (h1 : W.cell? ⟨n, 1, none⟩ = some v) :
    Calls Tryd.prog 34 #[.string a, .func (.func 33) #[] #[.pointer (some ⟨b, 0, none⟩)]] W (Behind n u v (.int .i64 X) W) :=
  (Tryd.strings_IndexFunc 33 _ (enters_of Tryd.func33 (by kernel_rfl) rfl) (fun r => !namedN r) a W (not_named W b hb hc)).mono fun e w1 ⟨he, hB⟩ => by
    rw [hX.out] at he
    exact ⟨he, hB, (hB.cell (p := ⟨n, 0, none⟩) hn).trans h0, (hB.cell (p := ⟨n, 1, none⟩) hn).trans h1, by have := hB.size; omega⟩
theorem idx_plain (a : ByteArray) (X : Int) (hX : Hid (Lib.idxFunc (fun r => !plainN r) true a = X)) (b : Nat) (W : World) (hb : b < W.heap.size) (hc : W.cell? ⟨b, 0, none⟩ = some (.func (.func 30) #[] #[])) :
    Calls Tryd.prog 34 #[.string a, .func (.func 33) #[] #[.pointer (some ⟨b, 0, none⟩)]] W fun e w1 => e = .returned (.int .i64 X) ∧ Below W.heap.size W w1 :=
  (Tryd.strings_IndexFunc 33 _ (enters_of Tryd.func33 (by kernel_rfl) rfl) (fun r => !plainN r) a W (not_plain W b hb hc)).mono fun e w1 ⟨he, hB⟩ => by
    rw [hX.out] at he
    exact ⟨he, hB⟩
theorem belowNs {B : Nat} {a w : World} (h : Below B a w) : ∀ n, Below B a (w.drewN n)
  | 0 => h
  | n + 1 => (belowNs h n).drew
end Go.Proofs.YtpclhceafigibaaDoor.PVars
