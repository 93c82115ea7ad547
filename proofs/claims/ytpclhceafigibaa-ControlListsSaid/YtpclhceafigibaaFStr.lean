/- Contracts of five functions of Go's package strings (ContainsAny at texts of ASCII, Join, IndexAny at the signs "=,", Cut at a quotation mark, IndexByte), in the form of the printed contracts. No conditions but those that stand in the functions' definitions. -/
import Derived.Test.YtpclhceafigibaaPAllx0
import Derived.Test.YtpclhceafigibaaShelf
import Derived.Test.YtpclhceafigibaaFAny
import Derived.Lib.IndexAny
import Derived.Lib.Bytealg
import Derived.Lib.Join
import Derived.Laws.RangeAny
import Derived.Lib.TrimU
import Derived.Lib.OthersKept
import Derived.Deep.LoopGhost
import Derived.Deep.QuietTactic
import Derived.BigQuiet
import Derived.Lib.IndexBytes
namespace Go.Proofs.Ytpclhceafigibaa.PAll
set_option linter.unusedVariables false
set_option linter.unusedSimpArgs false
open Go.RowKit Go.Proofs.YtpclhceafigibaaW.PrintWords Go.Proofs.YtpclhceafigibaaW.PrintLast Go.Proofs.YtpclhceafigibaaW.PrintMore

def asciiB (s : ByteArray) : Bool := s.data.toList.all fun b => decide (b.toNat < 128)
theorem asciiB_at {s : ByteArray} (h : asciiB s = true) : ∀ (j : Nat) b, s.data.toList[j]? = some b → b.toNat < 128 := fun j b hj => by
  unfold asciiB at h
  rw [List.all_eq_true] at h
  exact of_decide_eq_true (h b (List.mem_of_getElem? hj))

/-! ### ContainsAny -/
def strings_ContainsAny.f (a0 a1 : ByteArray) : Option Bool := if asciiB a0 = true ∧ asciiB a1 = true ∧ a0.size < 4294967281 ∧ a1.size < 4294967281 then some (Lib.containsAny a0.data.toList a1.data.toList) else none
theorem strings_ContainsAny.calls (a0 a1 : ByteArray) (r : Bool) (w : World) (h : strings_ContainsAny.f a0 a1 = some r) :
    Calls Try.prog 17 #[.string a0, .string a1] w fun e w' => e = .returned (.bool r) ∧ Below w.heap.size w w' := by
  unfold strings_ContainsAny.f at h
  split at h
  · rename_i hc
    cases h
    exact Try.strings_ContainsAny_laid a0 a1 w hc.2.2.1 hc.2.2.2 (asciiB_at hc.1) (asciiB_at hc.2.1)
  · cases h

/-! ### Join -/
def strings_Join.f (l0 : List ByteArray) (a1 : ByteArray) : Option ByteArray := if (Lib.join (l0.map (·.data.toList)) a1.data.toList).length ≤ 140737488355328 ∧ l0.length ≤ 140737488355328 then some ⟨(Lib.join (l0.map (·.data.toList)) a1.data.toList).toArray⟩ else none
theorem strings_Join.calls (A0 : Option Addr) (c0 : Nat) (l0 : List ByteArray) (a1 : ByteArray) (r : ByteArray) (w : World) (hr0 : Kd.C Kd.string w A0 l0.length l0) (hc0 : l0.length ≤ c0) (h : strings_Join.f l0 a1 = some r) :
    Calls Try.prog 18 #[.slice A0 l0.length c0, .string a1] w fun e w' => e = .returned (.string r) ∧ Below w.heap.size w w' := by
  unfold strings_Join.f at h
  split at h
  · rename_i hc
    cases h
    rcases Nat.eq_zero_or_pos l0.length with h0 | h0
    · have hn : l0 = [] := List.eq_nil_of_length_eq_zero h0
      subst hn
      exact (Try.strings_Join_none A0 c0 a1 w).mono fun e w' ⟨he, hw⟩ => ⟨by rw [he]; rfl, by rw [hw]; exact Below.refl _ _⟩
    · obtain ⟨ad, rfl, hcell⟩ := hr0.2.2 h0
      have at_ : ∀ (j : Nat) (x : ByteArray), l0[j]? = some x → w.cell? (ad.add j) = some (.string x) := fun j x hx => by
        obtain ⟨c, _, hk, hce⟩ := hcell j x hx
        have hk : c = [.string x] := hk
        subst hk
        have := hce 0 (.string x) rfl
        simpa [Kd.string, Kd.scalar] using this
      have h00 := at_ 0 l0[0] (List.getElem?_eq_getElem h0)
      have hsp : ad = ⟨ad.block, ad.off, none⟩ := by
        have hz : ad.add 0 = ad := by simp [Addr.add]
        rw [hz] at h00
        unfold World.cell? at h00
        cases hs : ad.spot with
        | none => cases ad; simp_all
        | some k =>
          rw [hs] at h00
          split at h00 <;> simp at h00
      have hbk : ad.block < w.heap.size := by
        have hz : ad.add 0 = ad := by simp [Addr.add]
        rw [hz] at h00
        exact World.block_lt_of_cell? w ad h00
      rw [hsp]
      refine Try.strings_Join ad.block ad.off c0 l0 a1 w (fun j x hx => ?_) hbk hc.2 hc0 hc.1
      have hz : (⟨ad.block, ad.off + j, none⟩ : Addr) = ad.add j := by
        unfold Addr.add
        split
        · rename_i hj; subst hj; rw [Nat.add_zero]; exact hsp.symm
        · rfl
      rw [hz]
      exact at_ j x hx
  · cases h

/-! ### IndexByte -/
def strings_IndexByte.f (a0 : ByteArray) (a1 : Int) : Option Int := some (Lib.indexByte a0.data.toList a1.toNat.toUInt8)
theorem strings_IndexByte.calls (a0 : ByteArray) (a1 : Int) (r : Int) (w : World) (h : strings_IndexByte.f a0 a1 = some r) :
    Calls Try.prog 23 #[.string a0, .int .u8 a1] w fun e w' => e = .returned (.int .i64 r) ∧ Drawn0 w w' := by
  cases h
  exact (Try.strings_IndexByte a0 a1 w).mono fun e w' ⟨he, hw⟩ => ⟨he, by rw [hw]; exact Drawn0.refl w⟩

/-! ### IndexAny -/
def strings_IndexAny.f (a0 a1 : ByteArray) : Option Int := if a1 = ⟨#[61, 44]⟩ ∧ a0.size < 4294967281 then some (Lib.indexAny a0.data.toList [61, 44]) else none
theorem strings_IndexAny.calls (a0 a1 : ByteArray) (r : Int) (w : World) (h : strings_IndexAny.f a0 a1 = some r) :
    Calls Try.prog 20 #[.string a0, .string a1] w fun e w' => e = .returned (.int .i64 r) ∧ Below w.heap.size w w' := by
  unfold strings_IndexAny.f at h
  split at h
  · rename_i hc
    obtain ⟨rfl, hs⟩ := hc
    cases h
    exact indexAny_calls a0 w hs
  · cases h

/-! ### Cut -/
/-- Where a byte stands in a list: what is ahead of it, and from it on. -/
theorem indexByte_cut (l : List UInt8) (c : UInt8) : (Lib.indexByte l c = -1 ∧ l.takeWhile (· != c) = l ∧ l.dropWhile (· != c) = [] ∧ l.contains c = false) ∨
    (∃ i : Nat, i < l.length ∧ Lib.indexByte l c = i ∧ l.takeWhile (· != c) = l.take i ∧ l.dropWhile (· != c) = l.drop i ∧ l.contains c = true) := by
  induction l with
  | nil => exact .inl ⟨rfl, rfl, rfl, rfl⟩
  | cons b l ih =>
    unfold Lib.indexByte
    by_cases hb : b = c
    · subst hb
      refine .inr ⟨0, by simp, by simp, by simp, by simp, by simp⟩
    · have hne : (b == c) = false := beq_eq_false_iff_ne.2 hb
      have hne' : (b != c) = true := bne_iff_ne.2 hb
      have hcb : (c == b) = false := beq_eq_false_iff_ne.2 (Ne.symm hb)
      rw [hne]
      simp only [Bool.false_eq_true, if_false]
      rcases ih with ⟨h1, h2, h3, h4⟩ | ⟨i, hi, h1, h2, h3, h4⟩
      · refine .inl ⟨by rw [h1]; rfl, by rw [List.takeWhile_cons, if_pos hne', h2], by rw [List.dropWhile_cons, if_pos hne', h3], by rw [List.contains_cons, hcb, h4]; rfl⟩
      · refine .inr ⟨i + 1, by simp; omega, ?_, by rw [List.takeWhile_cons, if_pos hne', h2]; rfl, by rw [List.dropWhile_cons, if_pos hne', h3]; rfl, by rw [List.contains_cons, hcb, h4]; rfl⟩
        rw [h1, if_neg (by rw [beq_iff_eq]; omega)]
        push_cast
        rfl
def cutQ (l : List UInt8) : List UInt8 × List UInt8 × Bool := (l.takeWhile (· != 34), (l.dropWhile (· != 34)).drop 1, l.contains 34)
def strings_Cut.f (a0 a1 : ByteArray) : Option (ByteArray × ByteArray × Bool) := if a1 = ⟨#[34]⟩ ∧ a0.size < 4294967281 then some (⟨(cutQ a0.data.toList).1.toArray⟩, ⟨(cutQ a0.data.toList).2.1.toArray⟩, (cutQ a0.data.toList).2.2) else none
theorem bytes_ext {a b : ByteArray} (h : a.data.toList = b.data.toList) : a = b := by
  cases a; cases b; simp at h; rw [h]
set_option maxHeartbeats 2000000 in
theorem cut_lite (s : ByteArray) (hs : s.size < 4294967281) (w : World) :
    Calls Try.prog 43 #[.string s, .string ⟨#[34]⟩] w fun e w' => e = .returned (.tuple #[.string ⟨(cutQ s.data.toList).1.toArray⟩, .string ⟨(cutQ s.data.toList).2.1.toArray⟩, .bool (cutQ s.data.toList).2.2]) ∧ Drawn0 w w' := by
  unfold cutQ
  rcases indexByte_cut s.data.toList 34 with ⟨h1, h2, h3, h4⟩ | ⟨i, hi, h1, h2, h3, h4⟩
  · rw [h2, h3, h4]
    go_enter Try.func43, Try.ntmps43
    go_wp2_with (go_at_call 52; refine (Try.stringslite_Index_one _ 34 _).mono ?_; rintro e w' ⟨rfl, hw⟩; rw [hw, h1])
    go_ret3
    exact ⟨rfl, Drawn0.refl w⟩
  · rw [h2, h3, h4]
    have hi' : i < s.size := by rw [Lib.size_eq]; exact hi
    have e1 : (⟨(s.data.toList.take i).toArray⟩ : ByteArray) = s.extract 0 i := bytes_ext (by rw [Lib.extract_data]; simp)
    have e2 : (⟨((s.data.toList.drop i).drop 1).toArray⟩ : ByteArray) = s.extract (i + 1) s.size := bytes_ext (by rw [Lib.extract_to_end, List.drop_drop])
    rw [e1, e2]
    have b0 : (0 : Int) ≤ (i : Int) := by omega
    have b1 : (i : Int) ≤ (s.size : Int) := by omega
    have b2 : IntKind.i64.wrap ((i : Int) + 1) = (i : Int) + 1 := by rw [IntKind.wrap_i64]; rw [Lib.size_eq] at *; omega
    have b3 : (0 : Int) ≤ (i : Int) + 1 := by omega
    have b4 : ((i : Int) + 1).toNat = i + 1 := by omega
    have b5 : (i : Int) + 1 ≤ (s.size : Int) := by omega
    go_enter Try.func43, Try.ntmps43
    go_wp2_with (go_at_call 52; refine (Try.stringslite_Index_one _ 34 _).mono ?_; rintro e w' ⟨rfl, hw⟩; rw [hw, h1])
    go_quiet (fail)
    go_wp2
    go_ret3
    exact ⟨by simp, ⟨⟨_, rfl⟩⟩⟩
set_option maxHeartbeats 2000000 in
theorem strings_Cut.calls (a0 a1 : ByteArray) (r1 r2 : ByteArray) (r3 : Bool) (w : World) (h : strings_Cut.f a0 a1 = some (r1, r2, r3)) :
    Calls Try.prog 22 #[.string a0, .string a1] w fun e w' => e = .returned (.tuple #[.string r1, .string r2, .bool r3]) ∧ Drawn0 w w' := by
  unfold strings_Cut.f at h
  split at h
  · rename_i hc
    obtain ⟨rfl, hs⟩ := hc
    simp only [Option.some.injEq, Prod.mk.injEq] at h
    obtain ⟨rfl, rfl, rfl⟩ := h
    have hC := cut_lite a0 hs
    go_enter Try.func22, Try.ntmps22
    go_wp2_with (go_at_call 43; refine (hC _).mono ?_; rintro e w' ⟨rfl, ⟨n, rfl⟩⟩)
    go_ret3
    exact ⟨rfl, ⟨⟨_, rfl⟩⟩⟩
  · cases h
end Go.Proofs.Ytpclhceafigibaa.PAll
