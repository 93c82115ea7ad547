/- Numbers and addresses, plainly: the document's digits are the library's. -/
import Derived.Test.YtpclhceafigibaaDoorU1
import Derived.Test.YtpclhceafigibaaDoorPVarsx7
import Derived.Lib.ItoaMem
import Derived.Laws.BitsLemmas
import Derived.Laws.BitsAllLaws
namespace Go.Proofs.YtpclhceafigibaaDoor.U
set_option linter.unusedVariables false
set_option linter.unusedSimpArgs false
open Go.RowKit Go.Proofs.YtpclhceafigibaaDoorW.PrintWords Go.Proofs.YtpclhceafigibaaDoorW.PrintLast Go.Proofs.YtpclhceafigibaaDoorW.PrintMore Go.Proofs.YtpclhceafigibaaDoor.PVars

abbrev D (u : Nat) : List UInt8 := Lib.decDigits u
theorem dec_len (u : Nat) (h : u < 18446744073709551616) : (D u).length ≤ 20 := by
  rw [Lib.decDigits_length]
  by_cases h0 : u = 0
  · subst h0; unfold Lib.nDigits; simp
  · have := Lib.numDigits_eq u (by omega) h; split at this <;> omega
theorem ten_at (d : Nat) (h : d < 10) : (⟨#[48, 49, 50, 51, 52, 53, 54, 55, 56, 57]⟩ : ByteArray).extract d (d + 1) = B [UInt8.ofNat (48 + d)] := by
  match d, h with
  | 0, _ => rfl
  | 1, _ => rfl
  | 2, _ => rfl
  | 3, _ => rfl
  | 4, _ => rfl
  | 5, _ => rfl
  | 6, _ => rfl
  | 7, _ => rfl
  | 8, _ => rfl
  | 9, _ => rfl
theorem dec_small (u : Nat) (h : u < 10) : D u = [UInt8.ofNat (48 + u)] := by
  unfold D Lib.decDigits; rw [dif_pos h]
theorem dec_step (u : Nat) (h : ¬ u < 10) : D u = D (u / 10) ++ [UInt8.ofNat (48 + u % 10)] := by
  conv => lhs; unfold D Lib.decDigits
  rw [dif_neg h]
theorem u64_self {x : Int} (h0 : 0 ≤ x) (h1 : x < 18446744073709551616) : IntKind.u64.wrap x = x := by rw [IntKind.wrap_u64]; omega
theorem nat_small (u : Nat) (hu : u < 10) : Ev (fun k => foliotref19_natural.f k (u : Int)) (B (D u)) := by
  refine Ev.ends fun k => ?_
  rw [foliotref19_natural.f, u64_self (x := (u : Int) + 1) (by omega) (by omega), if_pos (by omega), if_pos (by omega), if_pos (by omega), if_pos (by omega), dec_small u hu]
  rw [show ((u : Int)).toNat = u by omega, show ((u : Int) + 1).toNat = u + 1 by omega, ten_at u hu]
theorem nat_ev : ∀ (f u : Nat), u ≤ f → u < 18446744073709551616 → Ev (fun k => foliotref19_natural.f k (u : Int)) (B (D u)) := by
  intro f
  induction f with
  | zero =>
    intro u h0 h1
    exact nat_small u (by omega)
  | succ f ih =>
    intro u h0 h1
    by_cases hu : u < 10
    · exact nat_small u hu
    · have hq : IntKind.u64.wrap (Int.tdiv (u : Int) 10) = ((u / 10 : Nat) : Int) := by
        rw [Int.tdiv_eq_ediv_of_nonneg (by omega), u64_self (by omega) (by omega)]; omega
      have hm : Int.tmod (u : Int) 10 = ((u % 10 : Nat) : Int) := by
        rw [Int.tmod_eq_emod_of_nonneg (by omega)]; omega
      have hd := dec_len (u / 10) (by omega)
      have h9 : u % 10 < 10 := Nat.mod_lt _ (by omega)
      apply Ev.step
      · intro k; rw [foliotref19_natural.f, if_neg (show ¬ (u : Int) < 10 by omega), hq, hm, u64_self (x := ((u % 10 : Nat) : Int) + 1) (by omega) (by omega), show (((u % 10 : Nat) : Int)).toNat = u % 10 by omega, show (((u % 10 : Nat) : Int) + 1).toNat = u % 10 + 1 by omega, ten_at _ h9]
      refine Ev.bind (ih (u / 10) (by omega) (by omega)) ?_
      refine Ev.pos (by omega) (Ev.pos (by omega) (Ev.pos (by omega) (Ev.pos (by rw [B_size, B_size]; simp; omega) ?_)))
      rw [B_append, ← dec_step u hu]
      exact Ev.now _
theorem natural_ev (u : Nat) (h : u < 18446744073709551616) : Ev (fun k => foliotref19_natural.f k (u : Int)) (B (D u)) := nat_ev u u (Nat.le_refl _) h
theorem dig_small (u : Nat) (hu : u < 10) : Ev (fun k => foliotref05_digits.f k (u : Int)) (B (D u)) := by
  refine Ev.ends fun k => ?_
  rw [foliotref05_digits.f, w64 (x := (u : Int) + 1) (by omega) (by omega), if_pos (by omega), if_pos (by omega), if_pos (by omega), if_pos (by omega), dec_small u hu]
  rw [show ((u : Int)).toNat = u by omega, show ((u : Int) + 1).toNat = u + 1 by omega, ten_at u hu]
theorem dig_ev : ∀ (f u : Nat), u ≤ f → u < 9223372036854775807 → Ev (fun k => foliotref05_digits.f k (u : Int)) (B (D u)) := by
  intro f
  induction f with
  | zero =>
    intro u h0 h1
    exact dig_small u (by omega)
  | succ f ih =>
    intro u h0 h1
    by_cases hu : u < 10
    · exact dig_small u hu
    · have hq : wrap64 (Int.tdiv (u : Int) 10) = ((u / 10 : Nat) : Int) := by
        rw [Int.tdiv_eq_ediv_of_nonneg (by omega), w64 (by omega) (by omega)]; omega
      have hm : Int.tmod (u : Int) 10 = ((u % 10 : Nat) : Int) := by
        rw [Int.tmod_eq_emod_of_nonneg (by omega)]; omega
      have hd := dec_len (u / 10) (by omega)
      have h9 : u % 10 < 10 := Nat.mod_lt _ (by omega)
      apply Ev.step
      · intro k; rw [foliotref05_digits.f, if_neg (show ¬ (u : Int) < 10 by omega), hq, hm, w64 (x := ((u % 10 : Nat) : Int) + 1) (by omega) (by omega), show (((u % 10 : Nat) : Int)).toNat = u % 10 by omega, show (((u % 10 : Nat) : Int) + 1).toNat = u % 10 + 1 by omega, ten_at _ h9]
      refine Ev.bind (ih (u / 10) (by omega) (by omega)) ?_
      refine Ev.pos (by omega) (Ev.pos (by omega) (Ev.pos (by omega) (Ev.pos (by rw [B_size, B_size]; simp; omega) ?_)))
      rw [B_append, ← dec_step u hu]
      exact Ev.now _
theorem digits_ev (u : Nat) (h : u < 9223372036854775807) : Ev (fun k => foliotref05_digits.f k (u : Int)) (B (D u)) := dig_ev u u (Nat.le_refl _) h

/-- A number's text. -/
abbrev I (n : Int) : List UInt8 := Lib.itoa n
def is64 (n : Int) : Prop := -9223372036854775808 ≤ n ∧ n ≤ 9223372036854775807
theorem number_prog (n : Int) (h : is64 n) : control_Number.f n = some (B (I n)) := by
  unfold control_Number.f strconv_Itoa.f
  rw [if_pos (show _ ∧ _ from h)]; rfl
theorem number_ref (n : Int) (h : is64 n) : Ev (fun k => foliotref19_Number.f k n) (B (I n)) := by
  unfold is64 at h
  by_cases hn : n < 0
  · obtain ⟨u, rfl⟩ : ∃ u : Nat, n = -(u : Int) := ⟨n.natAbs, by omega⟩
    have hu : 1 ≤ u := by omega
    have e : IntKind.u64.wrap (IntKind.u64.wrap (wrap64 (-(wrap64 (-(u : Int) + 1)))) + 1) = (u : Int) := by
      rw [w64 (x := -(u : Int) + 1) (by omega) (by omega), w64 (by omega) (by omega), u64_self (x := -(-(u : Int) + 1)) (by omega) (by omega), u64_self (by omega) (by omega)]; omega
    simp only [foliotref19_Number.f, e]
    refine Ev.pos hn (Ev.bind (natural_ev u (by omega)) (Ev.pos (by have := dec_len u (by omega); rw [B_size]; omega) ?_))
    rw [show (⟨#[45]⟩ : ByteArray) = B [45] from rfl, B_append, show I (-(u : Int)) = 45 :: D u from Lib.itoa_neg u hu]
    exact Ev.now _
  · obtain ⟨u, rfl⟩ : ∃ u : Nat, n = (u : Int) := ⟨n.toNat, by omega⟩
    simp only [foliotref19_Number.f, u64_self (x := (u : Int)) (by omega) (by omega)]
    refine Ev.neg hn (Ev.bind (natural_ev u (by omega)) ?_)
    rw [show I (u : Int) = D u from Lib.itoa_nonneg u]
    exact Ev.now _
theorem formatUint_prog (u : Nat) (h : u < 18446744073709551616) : strconv_FormatUint.f (u : Int) 10 = some (B (D u)) := by
  unfold strconv_FormatUint.f
  rw [if_pos ⟨rfl, by omega, by omega⟩]; rfl

/-! ### addresses -/
def addrS (a : Nat) : List UInt8 := D (a / 16777216) ++ ([46] ++ (D (a / 65536 % 256) ++ ([46] ++ (D (a / 256 % 256) ++ ([46] ++ D (a % 256))))))
theorem u32_and255 (x : Nat) (h : x < 4294967296) : Go.bits .and .u32 (x : Int) 255 = ((x % 256 : Nat) : Int) := by
  have := u32_and_nat x 255 h (by omega)
  rw [show ((255 : Nat) : Int) = 255 from rfl] at this
  rw [this, show (255 : Nat) = 2 ^ 8 - 1 from rfl, Nat.and_two_pow_sub_one_eq_mod]
theorem part_prog (a s : Nat) (ha : a < 4294967296) (hs : s ≤ 32) : wrap64 (Go.bits .and .u32 (shr .u32 (a : Int) (IntKind.u64.wrap (s : Int))) 255) = ((a / 2 ^ s % 256 : Nat) : Int) := by
  have e : shr .u32 (a : Int) (IntKind.u64.wrap (s : Int)) = ((a / 2 ^ s : Nat) : Int) := by
    unfold shr
    rw [u64_self (by omega) (by omega), show ((s : Int)).toNat = s by omega, show min s (IntKind.u32.bits) = s from Nat.min_eq_left hs]
    push_cast; rfl
  have hd : a / 2 ^ s ≤ a := Nat.div_le_self _ _
  rw [e, u32_and255 _ (by omega)]
  have : a / 2 ^ s % 256 < 256 := Nat.mod_lt _ (by omega)
  exact w64 (by omega) (by omega)
theorem itoa_small (u : Nat) (h : u < 256) : strconv_Itoa.f (u : Int) = some (B (D u)) := by
  unfold strconv_Itoa.f
  rw [if_pos ⟨by omega, by omega⟩, Lib.itoa_nonneg]; rfl
theorem addr_step (a s d : Nat) (x3 : List ByteArray) (hs : s ≤ 24) (hx : x3.length ≤ 4) (hd : d < 256) (hp : wrap64 (Go.bits .and .u32 (shr .u32 (a : Int) (IntKind.u64.wrap (s : Int))) 255) = (d : Int)) (k : Nat) :
    conf_PrintAddr.l0 (k + 1) (a : Int) x3 (s : Int) = conf_PrintAddr.l0 k (a : Int) (x3 ++ [B (D d)]) ((s : Int) - 8) := by
  rw [conf_PrintAddr.l0, if_pos (by omega), if_pos (by rw [u64_self (by omega) (by omega)]; omega), hp, itoa_small d hd]
  simp only [Option.bind_some]
  rw [if_pos (by omega), w64 (by omega) (by omega)]
theorem addr_prog (a : Nat) (ha : a < 4294967296) : Ev (fun k => conf_PrintAddr.f k (a : Int)) (B (addrS a)) := by
  have m24 : a / 2 ^ 24 % 256 = a / 16777216 := by omega
  have p24 := part_prog a 24 ha (by omega)
  rw [m24] at p24
  have p16 := part_prog a 16 ha (by omega)
  have p8 := part_prog a 8 ha (by omega)
  have p0 := part_prog a 0 ha (by omega)
  simp only [conf_PrintAddr.f]
  refine Ev.step (fun k => addr_step a 24 _ [] (by omega) (by simp) (by omega) p24 k) ?_
  refine Ev.step (fun k => addr_step a 16 _ [B (D (a / 16777216))] (by omega) (by simp) (Nat.mod_lt _ (by omega)) p16 k) ?_
  refine Ev.step (fun k => addr_step a 8 _ [B (D (a / 16777216)), B (D (a / 2 ^ 16 % 256))] (by omega) (by simp) (Nat.mod_lt _ (by omega)) p8 k) ?_
  refine Ev.step (fun k => addr_step a 0 _ [B (D (a / 16777216)), B (D (a / 2 ^ 16 % 256)), B (D (a / 2 ^ 8 % 256))] (by omega) (by simp) (Nat.mod_lt _ (by omega)) p0 k) ?_
  show Ev (fun k => conf_PrintAddr.l0 k (a : Int) [B (D (a / 16777216)), B (D (a / 2 ^ 16 % 256)), B (D (a / 2 ^ 8 % 256)), B (D (a / 2 ^ 0 % 256))] (-8)) _
  refine Ev.ends fun k => ?_
  have l24 := dec_len (a / 16777216) (by omega)
  have l16 := dec_len (a / 2 ^ 16 % 256) (by omega)
  have l8 := dec_len (a / 2 ^ 8 % 256) (by omega)
  have l0 := dec_len (a / 2 ^ 0 % 256) (by omega)
  have ej : Lib.join [D (a / 16777216), D (a / 2 ^ 16 % 256), D (a / 2 ^ 8 % 256), D (a / 2 ^ 0 % 256)] [46] = addrS a := by
    simp [Lib.join, List.intercalate, addrS]
  have ef : strings_Join.f [B (D (a / 16777216)), B (D (a / 2 ^ 16 % 256)), B (D (a / 2 ^ 8 % 256)), B (D (a / 2 ^ 0 % 256))] (B [46]) = some (B (addrS a)) := by
    unfold strings_Join.f
    simp only [List.map_cons, List.map_nil, B_data]
    rw [if_pos, ej]
    · rfl
    · rw [ej]; refine ⟨?_, by simp⟩
      simp only [addrS, List.length_append, List.length_cons, List.length_nil]
      have e16 : a / 65536 % 256 = a / 2 ^ 16 % 256 := rfl
      have e8 : a / 256 % 256 = a / 2 ^ 8 % 256 := rfl
      have e0 : a % 256 = a / 2 ^ 0 % 256 := by simp
      rw [e16, e8, e0]; omega
  rw [conf_PrintAddr.l0, if_neg (by omega), show (⟨#[46]⟩ : ByteArray) = B [46] from rfl, ef]
  rfl
theorem addr_ref (a : Nat) (ha : a < 4294967296) : Ev (fun k => foliotref05_PrintAddr.f k (a : Int)) (B (addrS a)) := by
  have e1 : wrap64 ((a : Int) / 16777216) = ((a / 16777216 : Nat) : Int) := by rw [w64 (by omega) (by omega)]; omega
  have e2 : Int.tmod (wrap64 ((a : Int) / 65536)) 256 = ((a / 65536 % 256 : Nat) : Int) := by rw [w64 (by omega) (by omega), Int.tmod_eq_emod_of_nonneg (by omega)]; omega
  have e3 : Int.tmod (wrap64 ((a : Int) / 256)) 256 = ((a / 256 % 256 : Nat) : Int) := by rw [w64 (by omega) (by omega), Int.tmod_eq_emod_of_nonneg (by omega)]; omega
  have e4 : Int.tmod (wrap64 (a : Int)) 256 = ((a % 256 : Nat) : Int) := by rw [w64 (by omega) (by omega), Int.tmod_eq_emod_of_nonneg (by omega)]; omega
  have l1 := dec_len (a / 16777216) (by omega)
  have l2 := dec_len (a / 65536 % 256) (by omega)
  have l3 := dec_len (a / 256 % 256) (by omega)
  have l4 := dec_len (a % 256) (by omega)
  simp only [foliotref05_PrintAddr.f, e1, e2, e3, e4, show (⟨#[46]⟩ : ByteArray) = B [46] from rfl]
  refine Ev.bind (digits_ev _ (by omega)) (Ev.pos (by rw [B_size]; omega) (Ev.bind (digits_ev _ (by omega)) (Ev.pos (by simp only [B_append, B_size, List.length_append, List.length_cons, List.length_nil]; omega) (Ev.pos (by simp only [B_append, B_size, List.length_append, List.length_cons, List.length_nil]; omega) (Ev.bind (digits_ev _ (by omega)) (Ev.pos (by simp only [B_append, B_size, List.length_append, List.length_cons, List.length_nil]; omega) (Ev.pos (by simp only [B_append, B_size, List.length_append, List.length_cons, List.length_nil]; omega) (Ev.bind (digits_ev _ (by omega)) (Ev.pos (by simp only [B_append, B_size, List.length_append, List.length_cons, List.length_nil]; omega) ?_)))))))))
  rw [B_append, B_append, B_append, B_append, B_append, B_append]
  rw [show (((((D (a / 16777216) ++ [46]) ++ D (a / 65536 % 256)) ++ [46]) ++ D (a / 256 % 256)) ++ [46]) ++ D (a % 256) = addrS a by simp [addrS]]
  exact Ev.now _
end Go.Proofs.YtpclhceafigibaaDoor.U
