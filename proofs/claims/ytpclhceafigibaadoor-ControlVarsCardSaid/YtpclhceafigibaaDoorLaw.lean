/- The row and the tied card of ControlVars, proved: the arguments opened, the printed contract, the plain law, the row shut, the card closed over the given tie. No condition of ours; the row's own: three tables of the library lie as their initialisers lay them (tied). -/
import Derived.Test.YtpclhceafigibaaDoorRows
import Derived.Test.YtpclhceafigibaaDoorTie
import Derived.Test.YtpclhceafigibaaDoorCards
import Derived.Test.YtpclhceafigibaaDoorVS
import Derived.WalkKit
import Derived.ProofKit
import Derived.OpenShut
import Derived.ChangeOld
import Derived.Below
import Derived.Carry
import Derived.LaidMore
import Derived.Lib.LaidTab
import Derived.Stop.Joined
import Derived.Stop.LaidErr
import Derived.SevenTiedAt
namespace Go.Proofs.YtpclhceafigibaaDoor.Law
set_option linter.unusedSimpArgs false
set_option linter.unusedVariables false
open Go.ChangeShapes Go.WideShapes Go.ChangeAt Go.RowKit
open Go.Proofs.YtpclhceafigibaaDoor.PVars
theorem own : ownKnob Tryd.prog.godebug = none := by kernel_rfl
theorem laidOut : laidOutB Tryd.prog = true := by kernel_rfl
theorem gPow : Tryd.prog.globalNamed "internal/strconv.uint64pow10" = some 0 := by kernel_rfl
theorem tPow : (Tryd.prog.globals[0]?).map (·.type) = some 94 := by kernel_rfl
/-- What the condition gives: the table of powers of ten. -/
theorem of_laid {W : World} (h : laidMetH Tryd.prog Rows.controlVarsRow.laid W) : GWorld W := by
  rw [MakeChecks.laidMetH_plain _ _ _ (by kernel_rfl)] at h
  have h2 : laidMet Tryd.prog [("internal/strconv.uint64pow10", Lib.tabData .u64 Lib.pow10Tab)] W := h.tail.tail
  exact ⟨Lib.tabIs_of_head gPow tPow Tryd.underlying94 Tryd.underlying24 (by kernel_rfl) (by kernel_rfl) h2⟩
theorem door_met (os : Os) (args : Array Value) : laidMetH Tryd.prog Rows.controlVarsRow.laid ((World.doorLaid Tryd.prog 24 os).forCall (fun _ _ => 0) ⟨#[], args, []⟩).memory :=
  laidMetH_of_parts3 (fuel := 8) (laidMet_of_run' 8 (by kernel_rfl) (by kernel_rfl)) (by kernel_rfl) (by kernel_rfl)

/-! ### an aggregate by value, cell by cell -/
theorem agg_cells {P : Program} {w : World} {r : Reach} {base : Nat} {t : TypeId} {v : Value} {ts : List TypeId} (hd : (match P.underlying t with | some (.struct _) | some (.array _ _) => true | _ => false) = true)
    (hts : P.cellTypes P.depth t = some ts) (hl : P.cellsOf t = ts.length) (h : Value.okWide P w r base t v) : ∃ cs : List Value, v = .agg cs.toArray ∧ cs.length = ts.length ∧ ∀ (i : Nat) (u : TypeId) (x : Value), ts[i]? = some u → cs[i]? = some x → Cell.okWide P w r base u x := by
  have h' : ∃ cs, v = .agg cs ∧ cs.size = P.cellsOf t ∧ Row.okWide P w r base t cs := by
    unfold Value.okWide at h
    split at hd
    · rename_i e; rw [e] at h; exact h
    · rename_i e; rw [e] at h; exact h
    · cases hd
  obtain ⟨cs, rfl, hs, ts', hts', _, hc⟩ := h'
  obtain rfl := Option.some.inj (hts.symm.trans hts')
  refine ⟨cs.toList, by simp, by simpa [hl] using hs, fun i u x hu hx => ?_⟩
  have hi : i < ts.length := by
    rcases Nat.lt_or_ge i ts.length with hi | hi
    · exact hi
    · rw [List.getElem?_eq_none hi] at hu; cases hu
  obtain ⟨u', hu', hk⟩ := hc i x (by simpa using hx)
  rw [Nat.mod_eq_of_lt hi] at hu'
  obtain rfl := Option.some.inj (hu.symm.trans hu')
  exact hk
theorem int_cell {P : Program} {w : World} {r : Reach} {base : Nat} {u : TypeId} {k : IntKind} {v : Value} (hu : P.underlying u = some (.int k)) (h : Cell.okWide P w r base u v) : ∃ n, v = .int k n ∧ k.min ≤ n ∧ n ≤ k.max := by
  unfold Cell.okWide at h
  rw [hu] at h
  cases v <;> simp [Cell.ok, hu] at h
  obtain ⟨rfl, h⟩ := h
  exact ⟨_, rfl, h⟩
theorem bool_cell {P : Program} {w : World} {r : Reach} {base : Nat} {u : TypeId} {v : Value} (hu : P.underlying u = some .bool) (h : Cell.okWide P w r base u v) : ∃ b, v = .bool b := by
  unfold Cell.okWide at h
  rw [hu] at h
  cases v <;> simp [Cell.ok, hu] at h
  exact ⟨_, rfl⟩
theorem list_11 {α : Type} : ∀ l : List α, l.length = 11 → ∃ c0 c1 c2 c3 c4 c5 c6 c7 c8 c9 c10 : α, l = [c0, c1, c2, c3, c4, c5, c6, c7, c8, c9, c10]
  | [c0, c1, c2, c3, c4, c5, c6, c7, c8, c9, c10], _ => ⟨c0, c1, c2, c3, c4, c5, c6, c7, c8, c9, c10, rfl⟩
theorem list_12 {α : Type} : ∀ l : List α, l.length = 12 → ∃ c0 c1 c2 c3 c4 c5 c6 c7 c8 c9 c10 c11 : α, l = [c0, c1, c2, c3, c4, c5, c6, c7, c8, c9, c10, c11]
  | [c0, c1, c2, c3, c4, c5, c6, c7, c8, c9, c10, c11], _ => ⟨c0, c1, c2, c3, c4, c5, c6, c7, c8, c9, c10, c11, rfl⟩
theorem list_6 {α : Type} : ∀ l : List α, l.length = 6 → ∃ c0 c1 c2 c3 c4 c5 : α, l = [c0, c1, c2, c3, c4, c5]
  | [c0, c1, c2, c3, c4, c5], _ => ⟨c0, c1, c2, c3, c4, c5, rfl⟩
theorem list_4 {α : Type} : ∀ l : List α, l.length = 4 → ∃ c0 c1 c2 c3 : α, l = [c0, c1, c2, c3]
  | [c0, c1, c2, c3], _ => ⟨c0, c1, c2, c3, rfl⟩
theorem list_2 {α : Type} : ∀ l : List α, l.length = 2 → ∃ c0 c1 : α, l = [c0, c1]
  | [c0, c1], _ => ⟨c0, c1, rfl⟩
theorem cells28 : Tryd.prog.cellTypes Tryd.prog.depth 28 = some [3, 3, 3, 22, 22, 23, 25, 22, 22, 3, 26] := by kernel_rfl
theorem cells30 : Tryd.prog.cellTypes Tryd.prog.depth 30 = some [3, 23, 3, 3, 3, 4, 4, 4, 3, 4, 22, 3] := by kernel_rfl
theorem cells32 : Tryd.prog.cellTypes Tryd.prog.depth 32 = some [22, 22, 22, 22, 25, 4] := by kernel_rfl
theorem cells33 : Tryd.prog.cellTypes Tryd.prog.depth 33 = some [3, 3, 3, 3] := by kernel_rfl
theorem cells34 : Tryd.prog.cellTypes Tryd.prog.depth 34 = some [4, 4] := by kernel_rfl
end Go.Proofs.YtpclhceafigibaaDoor.Law
namespace Go.Proofs.YtpclhceafigibaaDoor.controlVars
set_option linter.unusedSimpArgs false
set_option linter.unusedVariables false
open Go.ChangeShapes Go.WideShapes Go.ChangeAt Go.RowKit
open Go.Proofs.YtpclhceafigibaaDoor.PVars Go.Proofs.YtpclhceafigibaaDoor.Law
set_option maxRecDepth 100000 in
set_option maxHeartbeats 1000000 in
theorem lifted (os : Os) (started : os.Started) (H : Type) (enc : TypeId × Value → H) :
    ReturnsInHanded {} Tryd.checked os 3 .any (fun w args => (Rows.controlVarsSpec.pre enc Tryd.prog Tryd.f3 [] false w args ∧ laidMetH Tryd.prog Rows.controlVarsRow.laid w) ∧ sizedMet enc Tryd.prog Tryd.f3 (OpenSpec.ofChange Rows.controlVarsSpec) false w args)
      (Rows.controlVarsSpec.post enc Tryd.prog Tryd.f3 false true false false) := by
  refine returnsInHanded_of_change_and (C := Tryd.checked) (X := fun w _ => laidMetH Tryd.prog Rows.controlVarsRow.laid w) (fun _ _ _ hh h => h.of_heap hh) own started (by kernel_rfl) Tryd.func3
    (ChangeSpec.witness_shaped (enc := enc) (C := Tryd.checked) (os := os) (X := fun w _ => laidMetH Tryd.prog Rows.controlVarsRow.laid w) false (World.doorLaid Tryd.prog 24 os) #[.agg #[.int .i64 0, .int .i64 0, .int .i64 0, .int .i64 0, .int .i64 0, .int .u32 0, .int .u64 0, .int .i64 0, .int .i64 0, .int .i64 0, .int .i64 0], .agg #[.int .i64 0, .int .u32 0, .int .i64 0, .int .i64 0, .int .i64 0, .bool false, .bool false, .bool false, .int .i64 0, .bool false, .int .i64 0, .int .i64 0], .agg #[.int .i64 0, .int .i64 0, .int .i64 0, .int .i64 0, .int .u64 0, .bool false], .agg #[.int .i64 0, .int .i64 0, .int .i64 0, .int .i64 0], .agg #[.bool false, .bool false]] 8 rfl (World.shaped_of_RefB (by kernel_rfl) (by kernel_rfl)) (by kernel_rfl) (by kernel_rfl) (by kernel_rfl) (door_met os _)) ?_
  intro W base args ds gs before hval0 hW _ _ hL _
  have hval : ∀ (j : Nat) t v, Tryd.f3.params[j]? = some t → args[j]? = some v → Value.okWide Tryd.prog W .any base t v := hval0
  have hW' := hW
  obtain ⟨p, q, hA0, hV, rfl, hfz, hnd⟩ := hW
  have hA : DataW.TrodAll enc Tryd.prog W 0 (fun _ => true) true Tryd.f3.params.toList args.toList ds p := hA0
  rw [Tryd.params3] at hA hval
  obtain ⟨v0, vs0, d0, ds0, p0, q0, hargs, rfl, rfl, h0, r0⟩ := trodAll_cons hA
  obtain ⟨v1, vs1, d1, ds1, p1, q1, rfl, rfl, rfl, h1, r1⟩ := trodAll_cons r0
  obtain ⟨v2, vs2, d2, ds2, p2, q2, rfl, rfl, rfl, h2, r2⟩ := trodAll_cons r1
  obtain ⟨v3, vs3, d3, ds3, p3, q3, rfl, rfl, rfl, h3, r3⟩ := trodAll_cons r2
  obtain ⟨v4, vs4, d4, ds4, p4, q4, rfl, rfl, rfl, h4, r4⟩ := trodAll_cons r3
  obtain ⟨rfl, rfl, rfl⟩ := trodAll_nil r4
  obtain rfl : args = #[v0, v1, v2, v3, v4] := by cases args; simp_all
  obtain ⟨rfl, rfl⟩ := trodVars_none hV
  have hG := of_laid hL
  have lt0 : ∀ x ∈ p0, x.block < W.heap.size := by have k := h0; obtain ⟨m, hm⟩ := k; exact DataW.trod_lt m _ _ _ hm
  have lt1 : ∀ x ∈ p1, x.block < W.heap.size := by have k := h1; obtain ⟨m, hm⟩ := k; exact DataW.trod_lt m _ _ _ hm
  have lt2 : ∀ x ∈ p2, x.block < W.heap.size := by have k := h2; obtain ⟨m, hm⟩ := k; exact DataW.trod_lt m _ _ _ hm
  have lt3 : ∀ x ∈ p3, x.block < W.heap.size := by have k := h3; obtain ⟨m, hm⟩ := k; exact DataW.trod_lt m _ _ _ hm
  have lt4 : ∀ x ∈ p4, x.block < W.heap.size := by have k := h4; obtain ⟨m, hm⟩ := k; exact DataW.trod_lt m _ _ _ hm
  obtain ⟨cs0, rfl, hl0, hc0⟩ := agg_cells (by kernel_rfl) cells28 (by kernel_rfl) (hval 0 28 v0 rfl rfl)
  obtain ⟨x0_0, x0_1, x0_2, x0_3, x0_4, x0_5, x0_6, x0_7, x0_8, x0_9, x0_10, rfl⟩ := list_11 cs0 hl0
  obtain ⟨a0_0, rfl, l0_0, m0_0⟩ := int_cell Tryd.underlying3 (hc0 0 3 _ rfl rfl)
  obtain ⟨a0_1, rfl, l0_1, m0_1⟩ := int_cell Tryd.underlying3 (hc0 1 3 _ rfl rfl)
  obtain ⟨a0_2, rfl, l0_2, m0_2⟩ := int_cell Tryd.underlying3 (hc0 2 3 _ rfl rfl)
  obtain ⟨a0_3, rfl, l0_3, m0_3⟩ := int_cell Tryd.underlying22 (hc0 3 22 _ rfl rfl)
  obtain ⟨a0_4, rfl, l0_4, m0_4⟩ := int_cell Tryd.underlying22 (hc0 4 22 _ rfl rfl)
  obtain ⟨a0_5, rfl, l0_5, m0_5⟩ := int_cell Tryd.underlying23 (hc0 5 23 _ rfl rfl)
  obtain ⟨a0_6, rfl, l0_6, m0_6⟩ := int_cell Tryd.underlying25 (hc0 6 25 _ rfl rfl)
  obtain ⟨a0_7, rfl, l0_7, m0_7⟩ := int_cell Tryd.underlying22 (hc0 7 22 _ rfl rfl)
  obtain ⟨a0_8, rfl, l0_8, m0_8⟩ := int_cell Tryd.underlying22 (hc0 8 22 _ rfl rfl)
  obtain ⟨a0_9, rfl, l0_9, m0_9⟩ := int_cell Tryd.underlying3 (hc0 9 3 _ rfl rfl)
  obtain ⟨a0_10, rfl, l0_10, m0_10⟩ := int_cell Tryd.underlying26 (hc0 10 26 _ rfl rfl)
  obtain ⟨cs1, rfl, hl1, hc1⟩ := agg_cells (by kernel_rfl) cells30 (by kernel_rfl) (hval 1 30 v1 rfl rfl)
  obtain ⟨x1_0, x1_1, x1_2, x1_3, x1_4, x1_5, x1_6, x1_7, x1_8, x1_9, x1_10, x1_11, rfl⟩ := list_12 cs1 hl1
  obtain ⟨a1_0, rfl, l1_0, m1_0⟩ := int_cell Tryd.underlying3 (hc1 0 3 _ rfl rfl)
  obtain ⟨a1_1, rfl, l1_1, m1_1⟩ := int_cell Tryd.underlying23 (hc1 1 23 _ rfl rfl)
  obtain ⟨a1_2, rfl, l1_2, m1_2⟩ := int_cell Tryd.underlying3 (hc1 2 3 _ rfl rfl)
  obtain ⟨a1_3, rfl, l1_3, m1_3⟩ := int_cell Tryd.underlying3 (hc1 3 3 _ rfl rfl)
  obtain ⟨a1_4, rfl, l1_4, m1_4⟩ := int_cell Tryd.underlying3 (hc1 4 3 _ rfl rfl)
  obtain ⟨a1_5, rfl⟩ := bool_cell Tryd.underlying4 (hc1 5 4 _ rfl rfl)
  obtain ⟨a1_6, rfl⟩ := bool_cell Tryd.underlying4 (hc1 6 4 _ rfl rfl)
  obtain ⟨a1_7, rfl⟩ := bool_cell Tryd.underlying4 (hc1 7 4 _ rfl rfl)
  obtain ⟨a1_8, rfl, l1_8, m1_8⟩ := int_cell Tryd.underlying3 (hc1 8 3 _ rfl rfl)
  obtain ⟨a1_9, rfl⟩ := bool_cell Tryd.underlying4 (hc1 9 4 _ rfl rfl)
  obtain ⟨a1_10, rfl, l1_10, m1_10⟩ := int_cell Tryd.underlying22 (hc1 10 22 _ rfl rfl)
  obtain ⟨a1_11, rfl, l1_11, m1_11⟩ := int_cell Tryd.underlying3 (hc1 11 3 _ rfl rfl)
  obtain ⟨cs2, rfl, hl2, hc2⟩ := agg_cells (by kernel_rfl) cells32 (by kernel_rfl) (hval 2 32 v2 rfl rfl)
  obtain ⟨x2_0, x2_1, x2_2, x2_3, x2_4, x2_5, rfl⟩ := list_6 cs2 hl2
  obtain ⟨a2_0, rfl, l2_0, m2_0⟩ := int_cell Tryd.underlying22 (hc2 0 22 _ rfl rfl)
  obtain ⟨a2_1, rfl, l2_1, m2_1⟩ := int_cell Tryd.underlying22 (hc2 1 22 _ rfl rfl)
  obtain ⟨a2_2, rfl, l2_2, m2_2⟩ := int_cell Tryd.underlying22 (hc2 2 22 _ rfl rfl)
  obtain ⟨a2_3, rfl, l2_3, m2_3⟩ := int_cell Tryd.underlying22 (hc2 3 22 _ rfl rfl)
  obtain ⟨a2_4, rfl, l2_4, m2_4⟩ := int_cell Tryd.underlying25 (hc2 4 25 _ rfl rfl)
  obtain ⟨a2_5, rfl⟩ := bool_cell Tryd.underlying4 (hc2 5 4 _ rfl rfl)
  obtain ⟨cs3, rfl, hl3, hc3⟩ := agg_cells (by kernel_rfl) cells33 (by kernel_rfl) (hval 3 33 v3 rfl rfl)
  obtain ⟨x3_0, x3_1, x3_2, x3_3, rfl⟩ := list_4 cs3 hl3
  obtain ⟨a3_0, rfl, l3_0, m3_0⟩ := int_cell Tryd.underlying3 (hc3 0 3 _ rfl rfl)
  obtain ⟨a3_1, rfl, l3_1, m3_1⟩ := int_cell Tryd.underlying3 (hc3 1 3 _ rfl rfl)
  obtain ⟨a3_2, rfl, l3_2, m3_2⟩ := int_cell Tryd.underlying3 (hc3 2 3 _ rfl rfl)
  obtain ⟨a3_3, rfl, l3_3, m3_3⟩ := int_cell Tryd.underlying3 (hc3 3 3 _ rfl rfl)
  obtain ⟨cs4, rfl, hl4, hc4⟩ := agg_cells (by kernel_rfl) cells34 (by kernel_rfl) (hval 4 34 v4 rfl rfl)
  obtain ⟨x4_0, x4_1, rfl⟩ := list_2 cs4 hl4
  obtain ⟨a4_0, rfl⟩ := bool_cell Tryd.underlying4 (hc4 0 4 _ rfl rfl)
  obtain ⟨a4_1, rfl⟩ := bool_cell Tryd.underlying4 (hc4 1 4 _ rfl rfl)
  clear hA0 hval0 hval hc0 hc1 hc2 hc3 hc4
  simp only [IntKind.min, IntKind.max] at l0_0 m0_0 l0_1 m0_1 l0_2 m0_2 l0_3 m0_3 l0_4 m0_4 l0_5 m0_5 l0_6 m0_6 l0_7 m0_7 l0_8 m0_8 l0_9 m0_9 l0_10 m0_10 l1_0 m1_0 l1_1 m1_1 l1_2 m1_2 l1_3 m1_3 l1_4 m1_4 l1_8 m1_8 l1_10 m1_10 l1_11 m1_11 l2_0 m2_0 l2_1 m2_1 l2_2 m2_2 l2_3 m2_3 l2_4 m2_4 l3_0 m3_0 l3_1 m3_1 l3_2 m3_2 l3_3 m3_3
  obtain ⟨u0_5, rfl⟩ : ∃ u : Nat, a0_5 = (u : Int) := ⟨a0_5.toNat, by simp [IntKind.signed] at l0_5; omega⟩
  obtain ⟨u0_6, rfl⟩ : ∃ u : Nat, a0_6 = (u : Int) := ⟨a0_6.toNat, by simp [IntKind.signed] at l0_6; omega⟩
  obtain ⟨u1_1, rfl⟩ : ∃ u : Nat, a1_1 = (u : Int) := ⟨a1_1.toNat, by simp [IntKind.signed] at l1_1; omega⟩
  obtain ⟨K, hK⟩ := U.vars a0_0 a0_1 a0_2 a0_3 a0_4 u0_5 u0_6 a0_7 a0_8 a0_9 a0_10 ⟨l0_0, m0_0⟩ ⟨l0_1, m0_1⟩ ⟨l0_2, m0_2⟩ ⟨l0_3, m0_3⟩ ⟨l0_4, m0_4⟩ (by have h_ : (u0_5 : Int) ≤ 4294967295 := m0_5; omega) (by have h_ : (u0_6 : Int) ≤ 18446744073709551615 := m0_6; omega) ⟨l0_7, m0_7⟩ ⟨l0_8, m0_8⟩ ⟨l0_9, m0_9⟩ ⟨l0_10, m0_10⟩ a1_0 u1_1 a1_2 a1_3 a2_0 a2_1 a2_2 a2_3 a3_0 a3_1 a3_2 a3_3 ⟨l1_0, m1_0⟩ (by have h_ : (u1_1 : Int) ≤ 4294967295 := m1_1; omega) ⟨l1_2, m1_2⟩ ⟨l1_3, m1_3⟩ ⟨l2_0, m2_0⟩ ⟨l2_1, m2_1⟩ ⟨l2_2, m2_2⟩ ⟨l2_3, m2_3⟩ ⟨l3_0, m3_0⟩ ⟨l3_1, m3_1⟩ ⟨l3_2, m3_2⟩ a1_4 a1_5 a1_6 a1_7 a1_8 a1_9 a1_10 a1_11 a2_4 a2_5 a4_0 a4_1 
  refine (foliotlaw19_ControlVars.calls K a0_0 a0_1 a0_2 a0_3 a0_4 _ _ a0_7 a0_8 a0_9 a0_10 a1_0 _ a1_2 a1_3 a1_4 a1_5 a1_6 a1_7 a1_8 a1_9 a1_10 a1_11 a2_0 a2_1 a2_2 a2_3 a2_4 a2_5 a3_0 a3_1 a3_2 a3_3 a4_0 a4_1 true W hG (hK K (Nat.le_refl _))).mono fun e W' ⟨he, bel⟩ => ?_
  subst he
  exact ⟨_, rfl, _, _, _, [], _, [], hW', trodAll_mk1 (shut_bool Tryd.underlying4 _), (trodAll_cons_mk (Below.trod laidOut (by kernel_rfl) (of_decide_eq_true (by kernel_rfl)) h0 bel lt0) (trodAll_cons_mk (Below.trod laidOut (by kernel_rfl) (of_decide_eq_true (by kernel_rfl)) h1 bel lt1) (trodAll_cons_mk (Below.trod laidOut (by kernel_rfl) (of_decide_eq_true (by kernel_rfl)) h2 bel lt2) (trodAll_cons_mk (Below.trod laidOut (by kernel_rfl) (of_decide_eq_true (by kernel_rfl)) h3 bel lt3) (trodAll_cons_mk (Below.trod laidOut (by kernel_rfl) (of_decide_eq_true (by kernel_rfl)) h4 bel lt4) trodAll_mk0))))), rfl, bel.frame _, fun h => by cases h⟩
theorem over : Rows.ControlVarsSaid :=
  OpenClaim.holds_of_wide 3 Tryd.f3 rfl rfl rfl rfl rfl rfl rfl ⟨rfl, rfl, rfl, rfl, rfl⟩ rfl rfl rfl rfl rfl (by kernel_rfl) Tryd.func3 (by kernel_rfl)
    (of_decide_eq_true (by kernel_rfl)) (by unfold Func.isWrapper; first | (rw [if_pos (by decide +kernel)]; kernel_rfl) | (rw [if_neg (by decide +kernel)]; exact ⟨rfl, rfl⟩))
    (fun os started H enc _ => lifted os started H enc)
theorem proved : Rows.ControlVarsCardSaid :=
  Claim7.holds_tied_plain_at .later [] [.data, .data, .data] true (true, "0fd095605ec529025c3eb831117a42ca9c477135ffce8bffacada76f9e7c20b7") false
    over (fun _ h => by cases h) (by kernel_rfl) (fun _ h => by cases h) controlVars_row_tie rfl ⟨rfl, rfl⟩ (by kernel_rfl) rfl
    (fun f fn hf hfn => by
      obtain rfl : f = 3 := Option.some.inj ((show Tryd.prog.funcNamed "foliot/foliotlaw19.ControlVars" = some 3 by kernel_rfl).symm.trans hf) |>.symm
      obtain rfl : fn = Tryd.f3 := (Option.some.inj (Tryd.func3.symm.trans hfn)).symm
      exact ⟨by kernel_rfl, fun j t ht => by
        rw [Tryd.params3] at ht
        match j, ht with
        | 0, ht => cases ht; exact (show Tryd.prog.wantsStandIn 28 = false by kernel_rfl)
        | 1, ht => cases ht; exact (show Tryd.prog.wantsStandIn 30 = false by kernel_rfl)
        | 2, ht => cases ht; exact (show Tryd.prog.wantsStandIn 32 = false by kernel_rfl)
        | 3, ht => cases ht; exact (show Tryd.prog.wantsStandIn 33 = false by kernel_rfl)
        | 4, ht => cases ht; exact (show Tryd.prog.wantsStandIn 34 = false by kernel_rfl)
        | j + 5, ht => simp at ht⟩)
    (by kernel_rfl)
#print axioms proved
end Go.Proofs.YtpclhceafigibaaDoor.controlVars
namespace Go.Proofs.YtpclhceafigibaaDoor
/-- The card, under a short name, for the claim. -/
theorem controlVars_holds : Rows.ControlVarsCardSaid := controlVars.proved
end Go.Proofs.YtpclhceafigibaaDoor
