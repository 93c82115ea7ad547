/- Contracts of two functions of Go's package strings (ContainsAny at texts of ASCII, Join), in the form of the printed contracts. No conditions but those that stand in the functions' definitions. -/
import Derived.Test.YtpclhceafigibaaDoorPVarsx0
import Derived.Test.YtpclhceafigibaaDoorShelf
import Derived.Lib.IndexAny
import Derived.Lib.Bytealg
import Derived.Lib.Join
import Derived.Laws.RangeAny
import Derived.Lib.TrimU
import Derived.Lib.OthersKept
import Derived.Deep.LoopGhost
import Derived.Deep.QuietTactic
import Derived.BigQuiet
import Derived.Lib.IndexBytes
namespace Go.Proofs.YtpclhceafigibaaDoor.PVars
set_option linter.unusedVariables false
set_option linter.unusedSimpArgs false
open Go.RowKit Go.Proofs.YtpclhceafigibaaDoorW.PrintWords Go.Proofs.YtpclhceafigibaaDoorW.PrintLast Go.Proofs.YtpclhceafigibaaDoorW.PrintMore

def asciiB (s : ByteArray) : Bool := s.data.toList.all fun b => decide (b.toNat < 128)
theorem asciiB_at {s : ByteArray} (h : asciiB s = true) : ∀ (j : Nat) b, s.data.toList[j]? = some b → b.toNat < 128 := fun j b hj => by
  unfold asciiB at h
  rw [List.all_eq_true] at h
  exact of_decide_eq_true (h b (List.mem_of_getElem? hj))

/-! ### ContainsAny -/
def strings_ContainsAny.f (a0 a1 : ByteArray) : Option Bool := if asciiB a0 = true ∧ asciiB a1 = true ∧ a0.size < 4294967281 ∧ a1.size < 4294967281 then some (Lib.containsAny a0.data.toList a1.data.toList) else none
theorem strings_ContainsAny.calls (a0 a1 : ByteArray) (r : Bool) (w : World) (h : strings_ContainsAny.f a0 a1 = some r) :
    Calls Tryd.prog 25 #[.string a0, .string a1] w fun e w' => e = .returned (.bool r) ∧ Below w.heap.size w w' := by
  unfold strings_ContainsAny.f at h
  split at h
  · rename_i hc
    cases h
    exact Tryd.strings_ContainsAny_laid a0 a1 w hc.2.2.1 hc.2.2.2 (asciiB_at hc.1) (asciiB_at hc.2.1)
  · cases h

/-! ### Join -/
def strings_Join.f (l0 : List ByteArray) (a1 : ByteArray) : Option ByteArray := if (Lib.join (l0.map (·.data.toList)) a1.data.toList).length ≤ 140737488355328 ∧ l0.length ≤ 140737488355328 then some ⟨(Lib.join (l0.map (·.data.toList)) a1.data.toList).toArray⟩ else none
theorem strings_Join.calls (A0 : Option Addr) (c0 : Nat) (l0 : List ByteArray) (a1 : ByteArray) (r : ByteArray) (w : World) (hr0 : Kd.C Kd.string w A0 l0.length l0) (hc0 : l0.length ≤ c0) (h : strings_Join.f l0 a1 = some r) :
    Calls Tryd.prog 26 #[.slice A0 l0.length c0, .string a1] w fun e w' => e = .returned (.string r) ∧ Below w.heap.size w w' := by
  unfold strings_Join.f at h
  split at h
  · rename_i hc
    cases h
    rcases Nat.eq_zero_or_pos l0.length with h0 | h0
    · have hn : l0 = [] := List.eq_nil_of_length_eq_zero h0
      subst hn
      exact (Tryd.strings_Join_none A0 c0 a1 w).mono fun e w' ⟨he, hw⟩ => ⟨by rw [he]; rfl, by rw [hw]; exact Below.refl _ _⟩
    · obtain ⟨ad, rfl, hcell⟩ := hr0.2.2 h0
      have at_ : ∀ (j : Nat) (x : ByteArray), l0[j]? = some x → w.cell? (ad.add j) = some (.string x) := fun j x hx => by
        obtain ⟨c, _, hk, hce⟩ := hcell j x hx
        have hk : c = [.string x] := hk
        subst hk
        have := hce 0 (.string x) rfl
        simpa [Kd.string, Kd.scalar] using this
      have h00 := at_ 0 l0[0] (List.getElem?_eq_getElem h0)
      have hsp : ad = ⟨ad.block, ad.off, none⟩ := by
        have hz : ad.add 0 = ad := by simp [Addr.add]
        rw [hz] at h00
        unfold World.cell? at h00
        cases hs : ad.spot with
        | none => cases ad; simp_all
        | some k =>
          rw [hs] at h00
          split at h00 <;> simp at h00
      have hbk : ad.block < w.heap.size := by
        have hz : ad.add 0 = ad := by simp [Addr.add]
        rw [hz] at h00
        exact World.block_lt_of_cell? w ad h00
      rw [hsp]
      refine Tryd.strings_Join ad.block ad.off c0 l0 a1 w (fun j x hx => ?_) hbk hc.2 hc0 hc.1
      have hz : (⟨ad.block, ad.off + j, none⟩ : Addr) = ad.add j := by
        unfold Addr.add
        split
        · rename_i hj; subst hj; rw [Nat.add_zero]; exact hsp.symm
        · rfl
      rw [hz]
      exact at_ j x hx
  · cases h

end Go.Proofs.YtpclhceafigibaaDoor.PVars
