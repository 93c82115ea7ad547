/- strings.IndexAny at the signs "=," over whatever bytes: the bytes of a rune beyond ASCII are none of the signs. No conditions but those of the definition. -/
import Derived.Test.YtpclhceafigibaaFRune
import Derived.Lib.TrimUEq
import Derived.Lib.IndexAny
namespace Go.Proofs.Ytpclhceafigibaa.PAll
set_option linter.unusedVariables false
set_option linter.unusedSimpArgs false
open Go.RowKit Go.Proofs.YtpclhceafigibaaW.PrintWords Go.Proofs.YtpclhceafigibaaW.PrintLast Go.Proofs.YtpclhceafigibaaW.PrintMore
theorem width_cases (n b0 b1 b2 b3 : Nat) (h : 128 ≤ b0) : (Lib.decodeN n b0 b1 b2 b3).2 = 1 ∨ ((Lib.decodeN n b0 b1 b2 b3).2 = 2 ∧ 128 ≤ b1) ∨ ((Lib.decodeN n b0 b1 b2 b3).2 = 3 ∧ 128 ≤ b1 ∧ 128 ≤ b2) ∨ ((Lib.decodeN n b0 b1 b2 b3).2 = 4 ∧ 128 ≤ b1 ∧ 128 ≤ b2 ∧ 128 ≤ b3) := by
  unfold Lib.decodeN
  repeat' split
  all_goals simp at *
  all_goals omega
theorem width_high (s : ByteArray) (i : Nat) (hi : i < s.size) (x : UInt8) (hx : s.data.toList[i]? = some x) (h : 128 ≤ x.toNat) :
    ∀ (j : Nat) b, i ≤ j → j < i + (Utf8.decode s i).2 → s.data.toList[j]? = some b → 128 ≤ b.toNat := by
  intro j b hij hj hb
  rw [Lib.decode_N] at hj
  have g0 : s.data.toList.getD i 0 = x := by rw [List.getD_eq_getElem?_getD, hx]; rfl
  have gj : ∀ k, j = k → s.data.toList.getD k 0 = b := fun k hk => by subst hk; rw [List.getD_eq_getElem?_getD, hb]; rfl
  rw [g0] at hj
  have hw := width_cases (s.data.toList.length - i) x.toNat (s.data.toList.getD (i + 1) 0).toNat (s.data.toList.getD (i + 2) 0).toNat (s.data.toList.getD (i + 3) 0).toNat h
  rcases (show j = i ∨ j = i + 1 ∨ j = i + 2 ∨ j = i + 3 by rcases hw with h1 | h1 | h1 | h1 <;> omega) with e | e | e | e
  · subst e; rw [hx] at hb; cases hb; exact h
  · have := gj _ e; rw [this] at hw hj; rcases hw with h1 | h1 | h1 | h1 <;> omega
  · have := gj _ e; rw [this] at hw hj; rcases hw with h1 | h1 | h1 | h1 <;> omega
  · have := gj _ e; rw [this] at hw hj; rcases hw with h1 | h1 | h1 | h1 <;> omega
theorem noany_high {s : ByteArray} {i : Nat} (hi : i < s.size) {x : UInt8} (hx : s.data.toList[i]? = some x) (h : 128 ≤ x.toNat) (hn : Lib.NoAny s.data.toList [61, 44] i) : Lib.NoAny s.data.toList [61, 44] (i + (Utf8.decode s i).2) := by
  intro j b hj hb
  by_cases hji : j < i
  · exact hn j b hji hb
  · have := width_high s i hi x hx h j b (by omega) hj hb
    rw [List.contains_eq_mem]
    simp
    constructor
    · rintro rfl; revert this; decide
    · rintro rfl; revert this; decide
set_option maxHeartbeats 8000000 in
set_option maxRecDepth 1000000 in
theorem indexAny_short (s : ByteArray) (w : World) (h8 : s.size ≤ 8) :
    Calls Try.prog 20 #[.string s, .string eqc] w fun e w' => e = .returned (.int .i64 (Lib.indexAny s.data.toList [61, 44])) ∧ Below w.heap.size w w' := by
  have hemp : eqc.toList.isEmpty = false := by rw [Lib.toList_data]; rfl
  have hn1 : ((eqc.size : Int) == 1) = false := rfl
  have h8z : decide ((8 : Int) < (s.size : Int)) = false := decide_eq_false (by omega)
  go_enter Try.func20, Try.ntmps20
  go_wp2_with (go_at_call 39; refine (Try.strings_shouldUseASCIISet _ _).mono ?_; rintro e w' ⟨rfl, hw⟩; rw [hw, h8z])
  go_loopg [9, 10] s.size (fun g _ _ wx => ∃ i : Nat, s.size ≤ i + g ∧ wx.heap[w.heap.size]? = some (.stringIter s i) ∧ Below w.heap.size w wx ∧ Lib.NoAny s.data.toList [61, 44] i)
  case atStart => exact ⟨0, by omega, World.iter_heap w s 0, (Below.refl _ w).alloc (Nat.le_refl _) _, Lib.NoAny.zero _ _⟩
  case round =>
    obtain ⟨i, hig, hit, hbw, hno⟩ := hrel
    have HN : Aside (Lib.NoAny s.data.toList [61, 44] i) := hno
    clear hno
    by_cases hi : i < s.size
    · obtain ⟨x, hx⟩ : ∃ x : UInt8, s[i]'hi = x := ⟨_, rfl⟩
      have hxl : s.data.toList[i]? = some x := by rw [← hx]; exact Lib.data_getElem? s i hi
      obtain ⟨g, rfl⟩ : ∃ g', gk = g' + 1 := ⟨gk - 1, by omega⟩
      have hnx : ∀ ty, (Instr.next (.pointer (some ⟨w.heap.size, 0, none⟩)) true ty).run Try.prog wr = _ := fun ty => Lib.run_next_any_at wr w.heap.size s i ty hit hi
      have hwd := Lib.width_pos s i
      obtain ⟨R, hR⟩ : ∃ R, (Utf8.decode s i).1 = R := ⟨_, rfl⟩
      obtain ⟨K, hK⟩ : ∃ K, (Utf8.decode s i).2 = K := ⟨_, rfl⟩
      rw [hR, hK] at hnx
      rw [hK] at hwd
      have hit2 := Lib.iterAt_heap wr w.heap.size s i (i + K) hit
      have hbw2 := Lib.below_iterAt hbw (k := w.heap.size) (Nat.le_refl _) s (i + K)
      obtain ⟨W, hWd⟩ : ∃ W, wr.iterAt w.heap.size s (i + K) = W := ⟨_, rfl⟩
      rw [hWd] at hnx hit2 hbw2
      have hltW : w.heap.size < W.heap.size := (Array.getElem?_eq_some_iff.1 hit2).1
      have Hx : Aside (s.data.toList[i]? = some x) := hxl
      by_cases hx128 : x.toNat < 128
      · have hd := decode_ascii s i hi (by rw [hx]; exact hx128)
        rw [hx] at hd
        rw [hd] at hR hK
        cases hR
        cases hK
        clear hxl hx hWd hd
        have hcon := Lib.contains_iff_indexByte [61, 44] x
        have hback : ((x.toNat : Int)).toNat.toUInt8 = x := by simp
        have hq : eqc.data.toList = [61, 44] := rfl
        cases hin : ([61, 44] : List UInt8).contains x
        · rw [hin] at hcon
          have hlt : ¬ ((0 : Int) ≤ Lib.indexByte [61, 44] x) := of_decide_eq_false hcon.symm
          clear hcon
          go_wp2_with (go_at_call 38; refine (Try.strings_IndexRune_ascii _ _ _ (by omega) (by omega)).mono ?_; rintro e w' ⟨rfl, hw⟩; rw [hw, hback, hq])
          go_roundg g
          case measure => omega
          case rel => exact ⟨i + 1, by omega, hit2, hbw2, HN.out.succ Hx.out hin⟩
        · rw [hin] at hcon
          have hge : (0 : Int) ≤ Lib.indexByte [61, 44] x := of_decide_eq_true hcon.symm
          clear hcon
          go_wp2_with (go_at_call 38; refine (Try.strings_IndexRune_ascii _ _ _ (by omega) (by omega)).mono ?_; rintro e w' ⟨rfl, hw⟩; rw [hw, hback, hq])
          go_ret
          exact ⟨by rw [Lib.indexAny_hit HN.out Hx.out hin]; rfl, hbw2⟩
      · have hR128 := (decode_high s i hi (by rw [hx]; omega)).1
        rw [hR] at hR128
        have HN2 : Aside (Lib.NoAny s.data.toList [61, 44] (i + K)) := by have := noany_high hi hxl (by omega) HN.out; rwa [hK] at this
        clear hxl hx hWd hR hK
        go_wp2_with (go_at_call 38; refine (idxRune_high _ (by omega) _).mono ?_; rintro e w' ⟨rfl, hbc⟩)
        go_roundg g
        case measure => omega
        case rel => exact ⟨i + K, by omega, (hbc.block _ hltW).trans hit2, (hbw2.trans (hbc.mono hbw2.size)), HN2.out⟩
    · have hnx : ∀ ty, (Instr.next (.pointer (some ⟨w.heap.size, 0, none⟩)) true ty).run Try.prog wr = _ := fun ty => Lib.run_next_end_at wr w.heap.size s i ty hit hi
      go_wp2
      go_ret
      exact ⟨by rw [Lib.indexAny_none (fun j b hj hb => HN.out j b (by have := Lib.size_eq s; omega) hb)]; rfl, hbw⟩
theorem indexAny_calls (s : ByteArray) (w : World) (hs : s.size < 4294967281) :
    Calls Try.prog 20 #[.string s, .string ⟨#[61, 44]⟩] w fun e w' => e = .returned (.int .i64 (Lib.indexAny s.data.toList [61, 44])) ∧ Below w.heap.size w w' := by
  by_cases h8 : s.size ≤ 8
  · exact indexAny_short s w h8
  · refine (Try.strings_IndexAny_long (fun w => by kernel_rfl) s ⟨#[61, 44]⟩ w (by decide) (by omega) hs (by decide) (fun j b hb => ?_)).mono fun e w' ⟨h1, h2⟩ => ⟨h1, ?_⟩
    · rcases j with _ | _ | j
      · cases hb; decide
      · cases hb; decide
      · cases hb
    · rw [h2]
      exact ((Below.refl _ _).alloc (Nat.le_refl _) _).alloc (by simp) _
end Go.Proofs.Ytpclhceafigibaa.PAll
