/- strings.IndexRune at the signs "=," and a rune that is no ASCII sign: it is not there (-1). The library's own text is walked. No conditions but that the rune is at least 128. -/
import Derived.Test.YtpclhceafigibaaPAllx0
import Derived.Test.YtpclhceafigibaaShelf
import Derived.Laws.RangeAny
import Derived.Laws.Runes
import Derived.Laws.RangeString
import Derived.Deep.LoopGhost
import Derived.Lib.IndexBytes
import Derived.WalkMore
import Derived.Deep.QuietTactic
import Derived.BigQuiet
namespace Go.Proofs.Ytpclhceafigibaa.PAll
set_option linter.unusedVariables false
set_option linter.unusedSimpArgs false
open Go.RowKit Go.Proofs.YtpclhceafigibaaW.PrintWords Go.Proofs.YtpclhceafigibaaW.PrintLast Go.Proofs.YtpclhceafigibaaW.PrintMore
theorem belowN (w : World) : ∀ n, Below w.heap.size w (w.drewN n)
  | 0 => Below.refl _ _
  | n + 1 => (belowN w n).drew
def eqc : ByteArray := ⟨#[61, 44]⟩
theorem eqc_size : eqc.size = 2 := rfl
set_option maxHeartbeats 2000000 in
set_option maxRecDepth 1000000 in
theorem idxRune_bad (r : Int) (h0 : 128 ≤ r) (h1 : r ≠ 65533) (hv : Lib.validRune r = false) (w : World) :
    Calls Try.prog 38 #[.string eqc, .int .i32 r] w fun e w' => e = .returned (.int .i64 (-1)) ∧ Below w.heap.size w w' := by
  have c1 : ¬ (r < 128) := by omega
  have c2 : (r == 65533) = false := beq_eq_false_iff_ne.2 h1
  go_enter Try.func38, Try.ntmps38
  go_wp2_with (go_at_call 48; refine (Try.utf8_ValidRune _ _).mono ?_; rintro e w' ⟨rfl, hw⟩; rw [hw, hv])
  go_ret
  exact ⟨rfl, Below.refl _ _⟩
set_option maxHeartbeats 2000000 in
set_option maxRecDepth 1000000 in
theorem idxRune_long (r : Int) (h0 : 128 ≤ r) (h1 : r ≠ 65533) (hv : Lib.validRune r = true) (h3 : 3 ≤ (Utf8.encode r).size) (h4 : (Utf8.encode r).size ≤ 4) (w : World) :
    Calls Try.prog 38 #[.string eqc, .int .i32 r] w fun e w' => e = .returned (.int .i64 (-1)) ∧ Below w.heap.size w w' := by
  have c1 : ¬ (r < 128) := by omega
  have c2 : (r == 65533) = false := beq_eq_false_iff_ne.2 h1
  obtain ⟨S, hS⟩ : ∃ S, Utf8.encode r = S := ⟨_, rfl⟩
  rw [hS] at h3 h4
  have cv : ∀ W, (convert 21 9 (.int .i32 r)).run Try.prog W = .ok (.string S) W := fun W => by rw [run_convert_int_string W 21 9 .i32 r (by kernel_rfl) Try.underlying9, hS]
  have d1 : IntKind.i64.wrap ((S.size : Int) - 1) = (S.size : Int) - 1 := wrap_small _ (by omega) (by omega)
  have es : (eqc.size : Int) = 2 := rfl
  have d2 : decide ((S.size : Int) - 1 < 2) = false := decide_eq_false (by omega)
  clear hS
  go_enter Try.func38, Try.ntmps38
  go_wp2_with (go_at_call 48; refine (Try.utf8_ValidRune _ _).mono ?_; rintro e w' ⟨rfl, hw⟩; rw [hw, hv])
  go_step3
  go_wp2_with (go_at_call 48; refine (Try.utf8_ValidRune _ _).mono ?_; rintro e w' ⟨rfl, hw⟩; rw [hw, hv])
  go_loopg [9, 10] 1 (fun g s9 s10 wx => s9 = .int .i64 ((S.size : Int) - 1) ∧ wx = w)
  case atStart => exact ⟨rfl, rfl⟩
  case round =>
    obtain ⟨rfl, rfl⟩ := hrel
    go_wp2
    rw [Exit.noGoto_ret]
    go_ret
    exact ⟨rfl, Below.refl _ _⟩
set_option maxHeartbeats 2000000 in
set_option maxRecDepth 1000000 in
theorem idxRune_two (r : Int) (h0 : 128 ≤ r) (h1 : r ≠ 65533) (hv : Lib.validRune r = true) (h3 : (Utf8.encode r).size = 2) (hb : ∀ h : 1 < (Utf8.encode r).size, 128 ≤ ((Utf8.encode r)[1]'h).toNat) (w : World) :
    Calls Try.prog 38 #[.string eqc, .int .i32 r] w fun e w' => e = .returned (.int .i64 (-1)) ∧ Below w.heap.size w w' := by
  have c1 : ¬ (r < 128) := by omega
  have c2 : (r == 65533) = false := beq_eq_false_iff_ne.2 h1
  obtain ⟨S, hS⟩ : ∃ S, Utf8.encode r = S := ⟨_, rfl⟩
  rw [hS] at h3
  have cv : ∀ W, (convert 21 9 (.int .i32 r)).run Try.prog W = .ok (.string S) W := fun W => by rw [run_convert_int_string W 21 9 .i32 r (by kernel_rfl) Try.underlying9, hS]
  subst hS
  obtain ⟨S, hS⟩ : ∃ S, Utf8.encode r = S := ⟨_, rfl⟩
  rw [hS] at h3 cv
  simp only [hS] at hb
  have hlt : 1 < S.size := by omega
  obtain ⟨x, hx⟩ : ∃ x : UInt8, S[1]'hlt = x := ⟨_, rfl⟩
  have hx128 : 128 ≤ x.toNat := by rw [← hx]; exact hb hlt
  have d0 : (S.size : Int) = 2 := by omega
  have es : (eqc.size : Int) = 2 := rfl
  have w2 : IntKind.i64.wrap 2 = 2 := by decide
  have hn : ∀ c, Lib.indexByte (eqc.extract (2 : Int).toNat eqc.size).data.toList c = -1 := fun _ => rfl
  have hn2 : ∀ c, Lib.indexByte (eqc.extract 2 eqc.size).data.toList c = -1 := fun _ => rfl
  have i1 : ∀ h, eqc[1]'h = 44 := fun _ => rfl
  have i2 : ∀ h, S[1]'h = x := fun _ => hx
  have e1 : ((44 : Int) == (x.toNat : Int)) = false := beq_eq_false_iff_ne.2 (by omega)
  clear hS hb
  go_enter Try.func38, Try.ntmps38
  go_wp2_with (first | (go_at_call 48; refine (Try.utf8_ValidRune _ _).mono ?_; rintro e w' ⟨rfl, hw⟩; rw [hw, hv]) | (go_at_call 23; refine (Try.strings_IndexByte _ _ _).mono ?_; rintro e w' ⟨rfl, hw⟩; rw [hw]))
  go_step3
  go_wp2_with (go_at_call 23; refine (Try.strings_IndexByte _ _ _).mono ?_; rintro e w' ⟨rfl, hw⟩; rw [hw])
  go_loopg [9, 10] 1 (fun g s9 s10 wx => s9 = .int .i64 1 ∧ wx = w)
  case atStart => exact ⟨rfl, rfl⟩
  case round =>
    obtain ⟨rfl, rfl⟩ := hrel
    go_wp2
    go_step3
    go_wp2
    go_quiet (fail)
    go_wp2
    go_quiet (first | (go_at_call 23; exact (Try.strings_IndexByte _ _ _).mono fun e w' h => ⟨h.1, _, h.2⟩))
    go_wp2
    rw [Exit.noGoto_ret]
    go_wp2
    rw [Exit.noGoto_ret]
    go_wp2
    go_ret
    exact ⟨rfl, belowN _ _⟩
set_option maxHeartbeats 2000000 in
set_option maxRecDepth 1000000 in
theorem idxRune_err (w : World) :
    Calls Try.prog 38 #[.string eqc, .int .i32 65533] w fun e w' => e = .returned (.int .i64 (-1)) ∧ Below w.heap.size w w' := by
  go_enter Try.func38, Try.ntmps38
  go_wp2
  go_loopg [] 2 (fun g wx => ∃ i : Nat, i + g = 2 ∧ wx = w.iter eqc i)
  case atStart => exact ⟨0, by omega, rfl⟩
  case round =>
    obtain ⟨i, hig, rfl⟩ := hrel
    cases gk with
    | zero =>
      obtain rfl : i = 2 := by omega
      have hnx := fun ty => run_next_end (P := Try.prog) w eqc 2 ty (by decide)
      go_wp2
      go_ret
      exact ⟨rfl, (Below.refl _ _).alloc (Nat.le_refl _) _⟩
    | succ g =>
      have hi : i < eqc.size := by rw [eqc_size]; omega
      have hh : (eqc[i]'hi).toNat < 128 := by
        rcases (show i = 0 ∨ i = 1 by omega) with rfl | rfl
        · show (61 : UInt8).toNat < 128; decide
        · show (44 : UInt8).toNat < 128; decide
      obtain ⟨x, hx⟩ : ∃ x : UInt8, eqc[i]'hi = x := ⟨_, rfl⟩
      have hnx := fun ty => run_next_ascii (P := Try.prog) w eqc i ty hi hh
      rw [hx] at hnx hh
      have e1 : ((x.toNat : Int) == 65533) = false := beq_eq_false_iff_ne.2 (by omega)
      clear hx
      go_wp2
      go_roundg g
      case measure => omega
      case rel => exact ⟨i + 1, by omega, rfl⟩
theorem idxRune_high (r : Int) (h0 : 128 ≤ r) (w : World) :
    Calls Try.prog 38 #[.string eqc, .int .i32 r] w fun e w' => e = .returned (.int .i64 (-1)) ∧ Below w.heap.size w w' := by
  by_cases h1 : r = 65533
  · subst h1; exact idxRune_err w
  cases hv : Lib.validRune r with
  | false => exact idxRune_bad r h0 h1 hv w
  | true =>
    have hf := encode_facts r ((validRune_eq r).trans hv) h0
    by_cases h2 : (Utf8.encode r).size = 2
    · exact idxRune_two r h0 h1 hv h2 (fun h => by have := hf.2.2 (by omega); simpa [h2] using this) w
    · exact idxRune_long r h0 h1 hv (by omega) hf.2.1 w
end Go.Proofs.Ytpclhceafigibaa.PAll
