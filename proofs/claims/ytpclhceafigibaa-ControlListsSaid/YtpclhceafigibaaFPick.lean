/- The contract of control.Pick: all variables, or those that are named, in the order of the names. -/
import Derived.Test.YtpclhceafigibaaFClone
namespace Go.Proofs.Ytpclhceafigibaa.PAll
set_option linter.unusedVariables false
set_option linter.unusedSimpArgs false
open Go.RowKit Go.Proofs.YtpclhceafigibaaW.PrintWords Go.Proofs.YtpclhceafigibaaW.PrintLast Go.Proofs.YtpclhceafigibaaW.PrintMore
def pickAll (l : List S39) : List S39 → Option (List S39)
  | [] => some []
  | v :: r => (l.find? fun x => x.f0.data.toList == v.f0.data.toList).bind fun x => (pickAll l r).map (x :: ·)
def control_Pick.f (l0 l1 : List S39) : Option (List S39 × Bool) :=
  if l0.length ≤ 1048576 ∧ l1.length ≤ 1048576 then some (if l1.length = 0 then (l0, true) else match pickAll l0 l1 with | some r => (r, true) | none => ([], false)) else none
def pickOf : Option (List S39) → List S39 × Bool
  | some r => (r, true)
  | none => ([], false)
theorem toList_same (b c : ByteArray) : (b.toList == c.toList) = (b.data.toList == c.data.toList) := by rw [Lib.toList_data, Lib.toList_data]
theorem IdxPost.of_none {p : S39 → Bool} {l : List S39} {r : Int} (h : IdxPost p l r) (hf : l.find? p = none) : r = -1 := by
  rcases h with ⟨h, _⟩ | ⟨i, hi, _, h⟩
  · exact h
  · rw [hf] at h; cases h
theorem IdxPost.of_some {p : S39 → Bool} {l : List S39} {r : Int} {x : S39} (h : IdxPost p l r) (hf : l.find? p = some x) : ∃ (i : Nat) (hi : i < l.length), r = i ∧ x = l[i] := by
  rcases h with ⟨_, h⟩ | ⟨i, hi, e, h⟩
  · rw [hf] at h; cases h
  · rw [hf] at h; exact ⟨i, hi, e, Option.some.inj h⟩
set_option maxHeartbeats 8000000 in
theorem pick_some (A0 : Option Addr) (c0 : Nat) (l0 : List S39) (A1 : Option Addr) (c1 : Nat) (l1 : List S39) (w : World) (hr0 : Kd.C k39 w A0 l0.length l0) (hc0 : l0.length ≤ c0) (hr1 : Kd.C k39 w A1 l1.length l1) (hc1 : l1.length ≤ c1) (hl0 : l0.length ≤ 1048576) (hl1 : l1.length ≤ 1048576) (hz : ¬ l1.length = 0) (R : List S39 × Bool) (hR : R = pickOf (pickAll l0 l1)) :
    Calls Try.prog 15 #[.slice A0 l0.length c0, .slice A1 l1.length c1] w fun e w' => ∃ v0_ : Value, e = .returned (.tuple #[v0_, .bool R.2]) ∧ Kd.R k39 39 w' w.heap.size (fun _ => True) v0_ R.1 ∧ Below w.heap.size w w' := by
  have HC0 := Aside0.mk hr0
  have HC1 := Aside0.mk hr1
  have HL0 := Aside0.mk hl0
  have HL1 := Aside0.mk hl1
  have HK0 := Aside0.mk hc0
  have HRR := Aside0.mk hR
  have hzb : decide (l1.length = 0) = false := decide_eq_false hz
  have hzi : ((l1.length : Int) == 0) = false := beq_eq_false_iff_ne.2 (by omega)
  clear hr0 hr1 hl0 hc0 hR hz
  go_enter Try.func15, Try.ntmps15
  go_wp2
  go_loopg [6, 8, 9, 17] l1.length (fun gg v6 _ _ v17 wr => ∃ (out : List S39) (i : Nat), v17 = .int .i64 i ∧ Aside0 (i ≤ l1.length) ∧ Aside0 (l1.length - i ≤ gg) ∧ Aside0 (out.length ≤ i) ∧ Aside0 (R = pickOf ((pickAll l0 (l1.drop i)).map (out ++ ·))) ∧ Aside0 (Kd.R k39 39 wr w.heap.size (fun _ => True) v6 out) ∧ Aside0 (Below w.heap.size w wr))
  case atStart => exact ⟨[], 0, rfl, ⟨Nat.zero_le _⟩, ⟨by omega⟩, ⟨Nat.zero_le _⟩, ⟨by rw [HRR.out, List.drop_zero]; cases pickAll l0 l1 <;> rfl⟩, ⟨Kd.R_nil _ _ _ _ _⟩, ⟨Below.refl _ _⟩⟩
  case round =>
    obtain ⟨out, i, rfl, HI, HG, HO, HA, HOut, HB⟩ := hrel
    by_cases hlt : i < l1.length
    · have hltz : (i : Int) < (l1.length : Int) := by omega
      obtain ⟨ad, e0, hx0, hx1⟩ := at_T39 HC1.out (i : Int) (by omega) hltz
      cases e0
      rw [rdT l1 i hlt, Int.toNat_natCast] at hx0 hx1
      replace hx0 := (HB.out.cell (World.block_lt_of_cell? w _ hx0)).trans hx0
      replace hx1 := (HB.out.cell (World.block_lt_of_cell? w _ hx1)).trans hx1
      have HA2 := HA.out
      rw [drop_cons_ l1 i hlt, pickAll] at HA2
      obtain ⟨y, hy⟩ : ∃ y, y = l1[i] := ⟨_, rfl⟩
      rw [← hy] at hx0 hx1 HA2
      have hpe : (fun x : S39 => x.f0.toList == y.f0.toList) = (fun x => x.f0.data.toList == y.f0.data.toList) := by funext x; exact toList_same _ _
      rw [← hpe] at HA2
      clear hpe
      cases hfx : l0.find? (fun x => x.f0.toList == y.f0.toList) with
      | none =>
        rw [hfx] at HA2
        have h1 : R.1 = [] := by rw [HA2]; rfl
        have h2 : R.2 = false := by rw [HA2]; rfl
        have HF := Aside0.mk hfx
        have H1 := Aside0.mk h1
        have H2 := Aside0.mk h2
        clear HA2 hfx h1 h2
        go_wp2_with (first | (go_at_call 33; (with_reducible refine (indexFunc_calls A0 c0 l0 _ (fun x => x.f0.toList == y.f0.toList) #[.pointer (some ⟨wr.heap.size, 0, none⟩)] ?s1 HK0.out HL0.out ?s2).mono ?_); (case s1 => exact Kd.C_below HC0.out (HB.out.alloc HB.out.size _)); (case s2 => exact clo_pick y.f0 y.f1 wr.heap.size _ (by simp) (by go_simp) (by go_simp)); rintro e w2 ⟨r, rfl, hI, hb⟩; obtain rfl := hI.of_none HF.out; have HB2 := Aside0.mk ((HB.out.alloc HB.out.size _).trans (hb.mono (by have := HB.out.size; simp; omega))); have HOut2 := Aside0.mk (Kd.R_below (Kd.R_alloc HOut.out _) hb); clear hb))
        rw [H1.out, H2.out]
        go_ret2
        exact ⟨_, rfl, Kd.R_nil _ _ _ _ _, HB2.out⟩
      | some x =>
        rw [hfx] at HA2
        have HF := Aside0.mk hfx
        have HA4 := Aside0.mk HA2
        clear HA2 hfx
        go_wp2_with (first | (go_at_call 33; (with_reducible refine (indexFunc_calls A0 c0 l0 _ (fun x => x.f0.toList == y.f0.toList) #[.pointer (some ⟨wr.heap.size, 0, none⟩)] ?s1 HK0.out HL0.out ?s2).mono ?_); (case s1 => exact Kd.C_below HC0.out (HB.out.alloc HB.out.size _)); (case s2 => exact clo_pick y.f0 y.f1 wr.heap.size _ (by simp) (by go_simp) (by go_simp)); rintro e w2 ⟨r, rfl, hI, hb⟩; obtain ⟨j, hj, rfl, hxj⟩ := hI.of_some HF.out; have hj0 : 0 ≤ (j : Int) := Int.natCast_nonneg j; have hjz : (j : Int) < (l0.length : Int) := Int.ofNat_lt.2 hj; obtain ⟨ad0, e0, hz0, hz1⟩ := at_T39 HC0.out (j : Int) hj0 hjz; cases e0; rw [rdT l0 j hj, Int.toNat_natCast, ← hxj] at hz0 hz1; clear hxj hj; have HB2 := Aside0.mk ((HB.out.alloc HB.out.size _).trans (hb.mono (by have := HB.out.size; simp; omega))); have HOut2 := Aside0.mk (Kd.R_below (Kd.R_alloc HOut.out _) hb); clear hb; replace hz0 := (HB2.out.cell (World.block_lt_of_cell? w _ hz0)).trans hz0; replace hz1 := (HB2.out.cell (World.block_lt_of_cell? w _ hz1)).trans hz1) | ((with_reducible refine gate_builtin (b := .append) (xs := #[.tmp 26, .tmp 31]) rfl ?_); at_builtin; refine Kd.R_append k39 (w0 := w) w.heap.size rfl (.tmp 26) (.tmp 31) 22 39 (.agg #[(.string ⟨#[]⟩), (.string ⟨#[]⟩)]) 32 rfl Try.underlying22 info39 rfl (by decide) (by omega) u6 out x [.string x.f0, .string x.f1] (fun _ => True) (fun _ => False) rfl rfl ?aP (fun _ hk => hk.elim) ?aF ?aO ?aB ?aS ?aL ?_; (case aP => exact k39_mkM _ _ _ _); (case aB => exact (by repeat (first | (with_reducible first | exact HB2.out | apply below_alloc | apply pw_below_drewN | apply below_drew1) | exact HB2.out))); (case aF => exact (fun _ _ => trivial)); (case aO => exact (by (with_reducible repeat (first | apply Kd.R_alloc | apply Kd.R_drewN | apply Kd.R_drew)); exact HOut2.out)); (case aS => exact (below_size (by repeat (first | (with_reducible first | exact HB2.out | apply below_alloc | apply pw_below_drewN | apply below_drew1) | exact HB2.out)))); (case aL => have := HO.out; have := HI.out; have := HL1.out; omega); intro v207 w7 ho hb hg hat; have HO3 := Aside0.mk ho; have HB3 := Aside0.mk hb; clear ho hb hg hat))
        go_roundg (l1.length - (i + 1))
        case measure => have := HG.out; omega
        case rel => exact ⟨out ++ [x], i + 1, by go_num, ⟨by omega⟩, ⟨Nat.le_refl _⟩, ⟨by have := HO.out; simp; omega⟩, ⟨by rw [HA4.out]; cases pickAll l0 (l1.drop (i + 1)) <;> simp [pickOf]⟩, ⟨HO3.out⟩, ⟨HB3.out⟩⟩
    · have hltz : ¬ (i : Int) < (l1.length : Int) := by omega
      have hz : l1.length ≤ i := by omega
      have hRR := HA.out
      rw [List.drop_of_length_le hz] at hRR
      simp only [pickAll, Option.map_some, pickOf, List.append_nil] at hRR
      have HZ := Aside0.mk hRR
      clear hRR
      go_wp2
      go_ret2
      have h1 : R.1 = out := by rw [HZ.out]
      have h2 : R.2 = true := by rw [HZ.out]
      rw [h1, h2]
      exact ⟨_, rfl, HOut.out, HB.out⟩
set_option maxHeartbeats 4000000 in
theorem control_Pick.calls (A0 : Option Addr) (c0 : Nat) (l0 : List S39) (A1 : Option Addr) (c1 : Nat) (l1 : List S39) (r1 : List S39) (r2 : Bool) (w : World) (hr0 : Kd.C k39 w A0 l0.length l0) (hc0 : l0.length ≤ c0) (hr1 : Kd.C k39 w A1 l1.length l1) (hc1 : l1.length ≤ c1) (h : control_Pick.f l0 l1 = some (r1, r2)) :
    Calls Try.prog 15 #[.slice A0 l0.length c0, .slice A1 l1.length c1] w fun e w' => ∃ v0_ : Value, e = .returned (.tuple #[v0_, .bool r2]) ∧ Kd.R k39 39 w' w.heap.size (fun _ => True) v0_ r1 ∧ Below w.heap.size w w' := by
  unfold control_Pick.f at h
  split at h
  · rename_i hl
    by_cases hz : l1.length = 0
    · rw [if_pos hz] at h
      simp only [Option.some.injEq, Prod.mk.injEq] at h
      obtain ⟨rfl, rfl⟩ := h
      have hC := clone_calls A0 c0 l0 w hr0 hc0 hl.1
      have HR1 := Aside0.mk hr1
      clear hr0 hr1 hl hc0
      obtain rfl : l1 = [] := List.eq_nil_of_length_eq_zero hz
      simp only [List.length_nil] at hz hc1 ⊢
      clear hz
      go_enter Try.func15, Try.ntmps15
      go_wp2_with (go_at_call 32; (with_reducible refine hC.mono ?_); rintro e w2 ⟨v, rfl, ho, hb⟩; have HO := Aside0.mk ho; have HB := Aside0.mk hb; clear ho hb)
      go_ret2
      exact ⟨_, rfl, HO.out, HB.out⟩
    · rw [if_neg hz] at h
      have e : pickOf (pickAll l0 l1) = (r1, r2) := by
        have := Option.some.inj h
        rw [← this]
        cases pickAll l0 l1 <;> rfl
      exact pick_some A0 c0 l0 A1 c1 l1 w hr0 hc0 hr1 hc1 hl.1 hl.2 hz (r1, r2) e.symm
  · cases h
end Go.Proofs.Ytpclhceafigibaa.PAll
