/- Plain lemmas: texts as lists of bytes; loops that end. Nothing of the program. -/
import Derived.Test.YtpclhceafigibaaDoorWMore
import Derived.Lib.Strings
import Derived.Lib.IndexBytes
import Derived.Lib.SmallJoins
namespace Go.Proofs.YtpclhceafigibaaDoor.U
set_option linter.unusedVariables false
set_option linter.unusedSimpArgs false
open Go.RowKit Go.Proofs.YtpclhceafigibaaDoorW.PrintWords Go.Proofs.YtpclhceafigibaaDoorW.PrintLast Go.Proofs.YtpclhceafigibaaDoorW.PrintMore

/-- A text of these bytes. -/
def B (l : List UInt8) : ByteArray := ⟨l.toArray⟩
theorem B_data (l : List UInt8) : (B l).data.toList = l := rfl
theorem B_of (s : ByteArray) : s = B s.data.toList := by
  unfold B; cases s; simp
theorem B_size (l : List UInt8) : (B l).size = l.length := by rw [Lib.size_eq, B_data]
theorem B_toList (l : List UInt8) : (B l).toList = l := by rw [Lib.toList_data, B_data]
theorem B_ext {a b : ByteArray} (h : a.data.toList = b.data.toList) : a = b := by rw [B_of a, B_of b, h]
theorem B_inj {a b : List UInt8} : B a = B b ↔ a = b := ⟨fun h => by rw [← B_data a, ← B_data b, h], fun h => by rw [h]⟩
theorem B_append (a b : List UInt8) : B a ++ B b = B (a ++ b) := B_ext (by rw [ByteArray.data_append, Array.toList_append, B_data, B_data, B_data])
theorem B_extract (l : List UInt8) (i j : Nat) : (B l).extract i j = B ((l.drop i).take (j - i)) := B_ext (by rw [Lib.extract_data, B_data, B_data])
theorem B_extract_end (l : List UInt8) (i : Nat) : (B l).extract i l.length = B (l.drop i) := B_ext (by rw [← B_size, Lib.extract_to_end, B_data, B_data])
theorem B_extract_head (l : List UInt8) (j : Nat) : (B l).extract 0 j = B (l.take j) := by rw [B_extract]; simp
theorem bt_B (l : List UInt8) (i : Nat) (h : i < l.length) : bt (B l) (i : Int) = ((l[i]).toNat : Int) := by
  unfold bt
  rw [dif_pos (by rw [B_size]; simpa using h)]
  rfl
theorem bt_lt (l : List UInt8) (i : Nat) (h : i < l.length) : (l[i]).toNat < 256 := (l[i]).toNat_lt
theorem w64 {x : Int} (h0 : -9223372036854775808 ≤ x) (h1 : x ≤ 9223372036854775807) : wrap64 x = x := by unfold wrap64; omega
theorem w64_succ (i : Nat) (h : i < 9223372036854775807) : wrap64 ((i : Int) + 1) = ((i + 1 : Nat) : Int) := by rw [w64 (by omega) (by omega)]; omega
theorem drop_cons {α : Type} (l : List α) (i : Nat) (h : i < l.length) : l.drop i = l[i] :: l.drop (i + 1) := by
  rw [List.drop_eq_getElem_cons h]
/-- It ends now. -/
theorem Ev.ends {α : Type} {g : Nat → Option α} {r : α} (h : ∀ k, g (k + 1) = some r) : Ev g r := Ev.step (f := fun _ => some r) h (Ev.now r)
theorem Ev.bindn {α β : Type} {g : Nat → Option α} {f : Nat → α → Option β} {a : α} {r : β} (h : Ev g a) (k : Ev (fun n => f n a) r) : Ev (fun n => (g n).bind (f n)) r := Ev.bind h k
/-- It is as another that it takes a step to. -/
theorem Ev.eqs {α : Type} {g f : Nat → Option α} {r : α} (h : ∀ k, g (k + 1) = f k) (k : Ev f r) : Ev g r := Ev.step h k
theorem Ev.pos {α : Type} {c : Prop} [Decidable c] {a b : Nat → Option α} {r : α} (hc : c) (h : Ev a r) : Ev (fun k => if c then a k else b k) r := by simp only [if_pos hc]; exact h
theorem Ev.neg {α : Type} {c : Prop} [Decidable c] {a b : Nat → Option α} {r : α} (hc : ¬ c) (h : Ev b r) : Ev (fun k => if c then a k else b k) r := by simp only [if_neg hc]; exact h
end Go.Proofs.YtpclhceafigibaaDoor.U
