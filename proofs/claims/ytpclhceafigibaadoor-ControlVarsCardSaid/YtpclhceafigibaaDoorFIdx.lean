/- Where a string's first rune stands that is not of a kind of ASCII signs: there is none just if every byte is of that kind. No conditions but that the kind holds ASCII signs alone. -/
import Derived.Test.YtpclhceafigibaaDoorShelf
import Derived.Laws.RangeAny
import Derived.Laws.RangeString
import Derived.Lib.IndexBytes
namespace Go.Proofs.YtpclhceafigibaaDoor.PVars
set_option linter.unusedSimpArgs false
set_option linter.unusedVariables false
theorem idx_all (q : Nat → Bool) (hq : ∀ r, 128 ≤ r → q r = false) (s : ByteArray) : ∀ f pos, s.size ≤ pos + f → ((Lib.idxFuncFrom (fun r => !q r) true s f pos < 0) ↔ (s.data.toList.drop pos).all (fun b => q b.toNat) = true) := by
  intro f
  induction f with
  | zero =>
    intro pos h
    have hd : s.data.toList.drop pos = [] := List.drop_eq_nil_of_le (by have := Lib.size_eq s; omega)
    rw [hd]
    simp [Lib.idxFuncFrom]
  | succ f ih =>
    intro pos h
    by_cases hp : pos < s.size
    · have hl : pos < s.data.toList.length := by rw [← Lib.size_eq]; exact hp
      obtain ⟨x, hx⟩ : ∃ x : UInt8, s[pos]'hp = x := ⟨_, rfl⟩
      have hxl : s.data.toList[pos]? = some x := by rw [← hx]; exact Lib.data_getElem? s pos hp
      have hd : s.data.toList.drop pos = x :: s.data.toList.drop (pos + 1) := by
        rw [List.drop_eq_getElem_cons hl]
        rw [List.getElem?_eq_getElem hl] at hxl
        rw [Option.some.inj hxl]
      rw [hd, List.all_cons]
      simp only [Lib.idxFuncFrom, hp, if_true]
      by_cases h128 : x.toNat < 128
      · have hdec := decode_ascii s pos hp (by rw [hx]; exact h128)
        rw [hx] at hdec
        simp only [hdec]
        cases hqx : q x.toNat with
        | false => simp [hqx]
        | true =>
          simp only [hqx, Bool.not_true, Bool.false_eq_true, if_false, Bool.true_and]
          exact ih (pos + 1) (by omega)
      · have hR := (decode_high s pos hp (by rw [hx]; omega)).1
        simp only [hq _ hR, hq _ (by omega : 128 ≤ x.toNat)]
        simp
    · have hd : s.data.toList.drop pos = [] := List.drop_eq_nil_of_le (by have := Lib.size_eq s; omega)
      rw [hd, Lib.idxFuncFrom_end _ _ _ _ _ hp]
      simp
theorem idxFunc_all (q : Nat → Bool) (hq : ∀ r, 128 ≤ r → q r = false) (s : ByteArray) : decide (Lib.idxFunc (fun r => !q r) true s < 0) = s.data.toList.all (fun b => q b.toNat) := by
  have := idx_all q hq s s.size 0 (by omega)
  rw [List.drop_zero] at this
  unfold Lib.idxFunc
  rw [Bool.eq_iff_iff, decide_eq_true_iff]
  exact this
end Go.Proofs.YtpclhceafigibaaDoor.PVars
