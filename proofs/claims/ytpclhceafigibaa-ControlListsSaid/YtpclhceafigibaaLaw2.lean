/- The row of ControlLists, proved: the arguments opened, the printed contract, the plain law, the row shut. -/
import Derived.Test.YtpclhceafigibaaRows
import Derived.Test.YtpclhceafigibaaU9
import Derived.Deep.SlicePairs
import Derived.WalkKit
import Derived.ProofKit
import Derived.OpenShut
import Derived.ShutString
import Derived.ChangeOld
import Derived.Below
import Derived.SizedLaws
import Derived.Carry
namespace Go.Proofs.Ytpclhceafigibaa.LawL
set_option linter.unusedSimpArgs false
open Go.ChangeShapes Go.WideShapes Go.ChangeAt Go.RowKit
open Go.ChangeMaps (open_string shut_string)
open Go.Proofs.Ytpclhceafigibaa.PAll Go.Proofs.YtpclhceafigibaaW.PrintWords
set_option linter.unusedVariables false
theorem own : ownKnob Try.prog.godebug = none := by kernel_rfl
theorem laidOut : laidOutB Try.prog = true := by kernel_rfl
theorem vars_rows {W : World} (x : Addr) (len : Nat) (hn : len ≤ 9223372036854775807) (V0 V1 : Nat → Value)
    (h : ∀ i, i < len → W.cell? (x.add (i * 2)) = some (V0 i) ∧ W.cell? (x.add (i * 2 + 1)) = some (V1 i) ∧ ∃ s : S39, V0 i = .string s.f0 ∧ V1 i = .string s.f1) :
    ∃ l : List S39, l.length = len ∧ Kd.C k39 W (some x) len l := by
  obtain ⟨q, hq⟩ : ∃ q : Nat → S39, ∀ i, i < len → V0 i = .string (q i).f0 ∧ V1 i = .string (q i).f1 :=
    ⟨fun i => if hi : i < len then (h i hi).2.2.choose else z39, fun i hi => by
      simp only [dif_pos hi]
      exact (h i hi).2.2.choose_spec⟩
  refine ⟨(List.range len).map q, by simp, by simp, hn, fun _ => ⟨x, rfl, fun j p hp => ?_⟩⟩
  rw [List.getElem?_map] at hp
  have hj : j < len := by
    cases hr : (List.range len)[j]? with
    | none => rw [hr] at hp; cases hp
    | some y => have := (List.getElem?_eq_some_iff.1 hr).1; simpa using this
  rw [List.getElem?_range hj] at hp
  cases hp
  refine ⟨[.string (q j).f0, .string (q j).f1], rfl, k39_mk W (q j), fun i u hu => ?_⟩
  obtain ⟨c0, c1, _⟩ := h j hj
  obtain ⟨e0, e1⟩ := hq j hj
  match i, hu with
  | 0, hu => cases hu; rw [← e0]; exact c0
  | 1, hu => cases hu; rw [← e1]; exact c1
theorem open_vars {H : Type} {enc : TypeId × Value → H} {W : World} {a : Option Addr} {len cap : Nat} {d : DataW H} {ps : List MemPlace} {ts : List TypeId} {ds : List (DataW H)} {j : Nat}
    (hsz : (DataW.weightsEach Try.prog ts ds).all (· ≤ reachBytes) = true) (ht : ts[j]? = some 22) (hd : ds[j]? = some d)
    (h : DataW.Trod enc Try.prog W 0 (fun _ => true) true 22 (.slice a len cap) d ps) : ∃ l : List S39, l.length = len ∧ len ≤ cap ∧ len ≤ 4398046511103 ∧ Kd.C k39 W a len l := by
  obtain ⟨fuel, hf⟩ := h
  rcases Go.Deep.open_slice_pairs Try.underlying22 Try.underlying39 (by kernel_rfl) rfl rfl (by kernel_rfl) (by kernel_rfl) hf with ⟨hcs, _⟩ | ⟨x, l, c, m, n, V0, V1, D0, D1, P0, P1, hcs, _, hl, hm, hmm, hx, hcell⟩
  · simp [Value.cells] at hcs
    obtain ⟨rfl, rfl, rfl⟩ := hcs
    exact ⟨[], rfl, Nat.le_refl _, by omega, rfl, by omega, fun h => absurd h (by omega)⟩
  · simp [Value.cells] at hcs
    obtain ⟨rfl, rfl, rfl⟩ := hcs
    obtain ⟨hx, _⟩ := Prod.mk.inj hx
    subst hx
    have z := sized_slice hsz ht hd Try.underlying22
    have hb : Try.prog.bytesOf 39 = 32 := by kernel_rfl
    rw [hb] at z
    simp only [List.length_map, List.length_range] at z
    have hr : reachBytes = 140737488351232 := rfl
    rw [hr] at z
    have hlm : len ≤ m := by rw [hmm]; split <;> omega
    have hlen : len ≤ 4398046511103 := by omega
    obtain ⟨l, h1, h2⟩ := vars_rows (W := W) x len (by omega) V0 V1 fun i hi => by
      obtain ⟨c0, c1, t0, t1⟩ := hcell i (by omega)
      obtain ⟨s0, e0, _⟩ := DataW.trod_string (by kernel_rfl) t0
      obtain ⟨s1, e1, _⟩ := DataW.trod_string (by kernel_rfl) t1
      exact ⟨c0, c1, ⟨s0, s1⟩, List.head_eq_of_cons_eq e0, List.head_eq_of_cons_eq e1⟩
    exact ⟨l, h1, hl, hlen, h2⟩
end Go.Proofs.Ytpclhceafigibaa.LawL
namespace Go.Proofs.Ytpclhceafigibaa.controlLists
set_option linter.unusedSimpArgs false
open Go.ChangeShapes Go.WideShapes Go.ChangeAt Go.RowKit
open Go.ChangeMaps (open_string shut_string)
open Go.Proofs.Ytpclhceafigibaa.PAll Go.Proofs.Ytpclhceafigibaa.LawL
set_option linter.unusedVariables false
set_option maxRecDepth 100000 in
theorem lifted (os : Os) (started : os.Started) (H : Type) (enc : TypeId × Value → H) :
    ReturnsInHanded {} Try.checked os 4 .any (Rows.controlListsSpec.pre6 enc Try.prog Try.f4 Rows.controlListsRow.domain false) (Rows.controlListsSpec.post enc Try.prog Try.f4 false true false false) := by
  refine returnsInHanded_of_change_sized (C := Try.checked) own started (by kernel_rfl) Try.func4
    (ChangeSpec.witness6 (enc := enc) (C := Try.checked) false ⟨#[], #[.slice none 0 0, .slice none 0 0, .string ByteArray.empty], []⟩ 8 (by kernel_rfl) (by kernel_rfl) (by kernel_rfl) (by kernel_rfl)) ?_
  intro W base args ds gs before hval0 hW hcnd hsz0 _
  have hsz : (DataW.weightsEach Try.prog (Try.f4.params.toList ++ Rows.controlListsSpec.plain.varTypes Try.prog) (ds ++ gs)).all (· ≤ reachBytes) = true := hsz0
  have hval : ∀ (j : Nat) t v, Try.f4.params[j]? = some t → args[j]? = some v → Value.okWide Try.prog W .any base t v := hval0
  have hW' := hW
  obtain ⟨p, q, hA0, hV, rfl, hfz, hnd⟩ := hW
  have hA : DataW.TrodAll enc Try.prog W 0 (fun _ => true) true Try.f4.params.toList args.toList ds p := hA0
  rw [Try.params4] at hA hval hsz
  obtain ⟨v0, vs0, d0, ds0, p0, q0, hargs, rfl, rfl, h0, r0⟩ := trodAll_cons hA
  obtain ⟨v1, vs1, d1, ds1, p1, q1, rfl, rfl, rfl, h1, r1⟩ := trodAll_cons r0
  obtain ⟨v2, vs2, d2, ds2, p2, q2, rfl, rfl, rfl, h2, r2⟩ := trodAll_cons r1
  obtain ⟨rfl, rfl, rfl⟩ := trodAll_nil r2
  obtain rfl : args = #[v0, v1, v2] := by cases args; simp_all
  obtain ⟨rfl, rfl⟩ := trodVars_none hV
  obtain ⟨a0, len0, cap0, rfl⟩ := okWide_slice Try.underlying22 (hval 0 22 v0 rfl rfl)
  obtain ⟨a1, len1, cap1, rfl⟩ := okWide_slice Try.underlying22 (hval 1 22 v1 rfl rfl)
  have k0 := h0
  have k1 := h1
  have lt0 : ∀ x ∈ p0, x.block < W.heap.size := by obtain ⟨m, hm⟩ := k0; exact DataW.trod_lt m _ _ _ hm
  have lt1 : ∀ x ∈ p1, x.block < W.heap.size := by obtain ⟨m, hm⟩ := k1; exact DataW.trod_lt m _ _ _ hm
  obtain ⟨l0, e0, w0, n0, c0⟩ := open_vars hsz (j := 0) rfl rfl h0
  obtain ⟨l1, e1, w1, n1, c1⟩ := open_vars hsz (j := 1) rfl rfl h1
  obtain ⟨a2, rfl, rfl, rfl, y2⟩ := open_string Try.underlying9 (hval 2 9 v2 rfl rfl) h2
  clear hA0 hval0 hsz0 hsz
  subst e0
  subst e1
  obtain ⟨K, hK⟩ := U.lists l0 l1 n0 n1 a2
  refine (foliotlaw19_ControlLists.calls K a0 cap0 l0 a1 cap1 l1 a2 true W c0 w0 c1 w1 (hK K (Nat.le_refl _))).mono fun e W' ⟨he, bel⟩ => ?_
  subst he
  exact ⟨_, rfl, _, _, _, [], _, [], hW', trodAll_mk1 (shut_bool Try.underlying4 _), (trodAll_cons_mk (Below.trod laidOut (by kernel_rfl) (of_decide_eq_true (by kernel_rfl)) k0 bel lt0) (trodAll_cons_mk (Below.trod laidOut (by kernel_rfl) (of_decide_eq_true (by kernel_rfl)) k1 bel lt1) (trodAll_cons_mk (shut_string Try.underlying9 y2) trodAll_mk0))), rfl, bel.frame _, fun h => by cases h⟩
theorem over : Rows.controlListsRow.holds Try.pinned (OpenSpec.ofChange Rows.controlListsSpec) :=
  OpenClaim.holds_of_wide 4 Try.f4 rfl rfl rfl rfl rfl rfl rfl ⟨rfl, rfl, rfl, rfl, rfl⟩ rfl rfl rfl rfl rfl (by kernel_rfl) Try.func4 (by kernel_rfl)
    (of_decide_eq_true (by kernel_rfl)) (by unfold Func.isWrapper; first | (rw [if_pos (by decide +kernel)]; kernel_rfl) | (rw [if_neg (by decide +kernel)]; exact ⟨rfl, rfl⟩))
    (fun os started H enc _ => lifted os started H enc)
theorem proved : Rows.ControlListsSaid := over
#print axioms proved
end Go.Proofs.Ytpclhceafigibaa.controlLists
namespace Go.Proofs.Ytpclhceafigibaa
/-- The row, under a short name, for the claim. -/
theorem controlLists_holds : Rows.ControlListsSaid := controlLists.proved
end Go.Proofs.Ytpclhceafigibaa
