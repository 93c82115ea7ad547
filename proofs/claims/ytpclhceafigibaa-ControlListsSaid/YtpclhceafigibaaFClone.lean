/- The contracts of slices.Clone and slices.IndexFunc at a list of variables. -/
import Derived.Test.YtpclhceafigibaaFClo
import Derived.WalkSpells
namespace Go.Proofs.Ytpclhceafigibaa.PAll
set_option linter.unusedVariables false
set_option linter.unusedSimpArgs false
open Go.RowKit Go.Proofs.YtpclhceafigibaaW.PrintWords Go.Proofs.YtpclhceafigibaaW.PrintLast Go.Proofs.YtpclhceafigibaaW.PrintMore

set_option maxHeartbeats 2000000 in
theorem clone_calls (A : Option Addr) (c : Nat) (l : List S39) (w : World) (hC : Kd.C k39 w A l.length l) (hc : l.length ≤ c) (hl : l.length ≤ 1048576) :
    Calls Try.prog 32 #[.slice A l.length c] w fun e w' => ∃ v : Value, e = .returned v ∧ Kd.R k39 39 w' w.heap.size (fun _ => True) v l ∧ Below w.heap.size w w' := by
  have HC := Aside0.mk hC
  have HL := Aside0.mk hl
  have heq := Lib.run_eql_slice_nil (P := Try.prog) w 22 39 A l.length c 0 0 Try.underlying22
  clear hC hl
  cases A with
  | none =>
    have h0 : l.length = 0 := by
      rcases Nat.eq_zero_or_pos l.length with h0 | h0
      · exact h0
      · obtain ⟨ad, h, _⟩ := HC.out.2.2 h0
        cases h
    obtain rfl : l = [] := List.eq_nil_of_length_eq_zero h0
    simp only [List.length_nil] at heq ⊢
    go_enter Try.func32, Try.ntmps32
    go_wp2
    go_ret
    exact ⟨_, rfl, Kd.R_nil _ _ _ _ _, Below.refl _ _⟩
  | some ad =>
    go_enter Try.func32, Try.ntmps32
    go_wp2_with (first | ((with_reducible refine gate_dst (N := 5) rfl ?_); refine Kd.R_lit k39 _ 39 ?hg (N := 5) ?hd (xs := ([] : List (S39))) (inner := []) (ok := fun _ => True) (okp := fun _ => True) ?hr ?hp (fun _ hk => hk) trivial (Below.refl _ _) (Nat.le_refl _) (by simp) ?_; (case hd => rfl); (case hg => rfl); (case hr => first | (go_simp; done) | (go_simp; rfl)); (case hp => exact (Reps.none _ _)); intro v203 w2 ho3 hb hg_ hnew_; clear hg_ hnew_; have HO := Aside0.mk ho3; have HB := Aside0.mk hb; clear ho3 hb) | ((with_reducible refine gate_builtin (b := .append) (xs := #[.tmp 5, .tmp 6]) rfl ?_); at_builtin; refine Kd.R_append_rows k39 (Rr := k39.K w) (w0 := w) w.heap.size rfl (.tmp 5) (.tmp 6) 22 39 (.agg #[(.string ⟨#[]⟩), (.string ⟨#[]⟩)]) 32 rfl Try.underlying22 info39 rfl (by decide) (by omega) v203 [] l (some ad) l.length c (fun _ => True) (fun _ => False) rfl rfl ?aO ?aR ?aK (fun _ hk => hk.elim) (fun _ _ => trivial) ?aB ?aS ?aL ?_; (case aO => exact HO.out); (case aR => exact ReadsRow.imp_ HC.out HB.out (fun _ _ h => h)); (case aK => intro x cs hx; rw [k39_open hx]; exact k39_mkM _ _ _ _); (case aB => exact HB.out); (case aS => exact HB.out.size); (case aL => have := HL.out; simp; omega); intro v207 w7 ho hb hg hat; have HO2 := Aside0.mk ho; have HB2 := Aside0.mk hb; clear ho hb hg hat))
    go_ret
    exact ⟨_, rfl, HO2.out, HB2.out⟩

/-- What an index tells: the first one that is so, or none. -/
def IdxPost (p : S39 → Bool) (l : List S39) (r : Int) : Prop := (r = -1 ∧ l.find? p = none) ∨ ∃ (i : Nat) (h : i < l.length), r = i ∧ l.find? p = some l[i]
theorem drop_cons_ {α : Type} (l : List α) (k : Nat) (h : k < l.length) : l.drop k = l[k] :: l.drop (k + 1) := by rw [List.drop_eq_getElem_cons h]
theorem rdT (l : List S39) (k : Nat) (h : k < l.length) : rd_T39 l (k : Int) = l[k] := by
  unfold rd_T39; rw [Int.toNat_natCast, List.getD_eq_getElem?_getD, List.getElem?_eq_getElem h]; rfl
set_option maxHeartbeats 4000000 in
theorem indexFunc_calls (A : Option Addr) (c : Nat) (l : List S39) (w : World) (p : S39 → Bool) (lb : Array Value) (hC : Kd.C k39 w A l.length l) (hc : l.length ≤ c) (hl : l.length ≤ 1048576)
    (hp : PredBelow Try.prog 34 lb (fun x : S39 => .agg (encV x).toArray) p w) :
    Calls Try.prog 33 #[.slice A l.length c, .func (.func 34) #[] lb] w fun e w' => ∃ r : Int, e = .returned (.int .i64 r) ∧ IdxPost p l r ∧ Below w.heap.size w w' := by
  have HC := Aside0.mk hC
  have HL := Aside0.mk hl
  have HP := Aside0.mk hp
  clear hC hp
  go_enter Try.func33, Try.ntmps33
  go_wp2
  go_loopg [5, 8] l.length (fun gg _ s8 wr => ∃ kk : Nat, kk ≤ l.length ∧ l.length - kk ≤ gg ∧ s8 = .int .i64 kk ∧ Aside0 (Below w.heap.size w wr) ∧ Aside0 (l.find? p = (l.drop kk).find? p))
  case atStart => exact ⟨0, Nat.zero_le _, by omega, rfl, ⟨Below.refl _ w⟩, ⟨by rw [List.drop_zero]⟩⟩
  case round =>
    obtain ⟨kk, hkk, hg, rfl, BW, FA⟩ := hrel
    by_cases hlt : kk < l.length
    · have hltz : (kk : Int) < (l.length : Int) := by omega
      obtain ⟨ad, e0, hx0, hx1⟩ := at_T39 HC.out (kk : Int) (by omega) hltz
      cases e0
      rw [rdT l kk hlt, Int.toNat_natCast] at hx0 hx1
      replace hx0 := (BW.out.cell (World.block_lt_of_cell? w _ hx0)).trans hx0
      replace hx1 := (BW.out.cell (World.block_lt_of_cell? w _ hx1)).trans hx1
      have hcall := HP.out wr l[kk] BW.out
      have FB := FA.out
      rw [drop_cons_ l kk hlt, List.find?_cons] at FB
      obtain ⟨y, hy⟩ : ∃ y, y = l[kk] := ⟨_, rfl⟩
      rw [← hy] at hx0 hx1 hcall FB
      have HY := Aside0.mk hy
      clear hy
      unfold encV at hcall
      cases hq : p y with
      | true =>
        rw [hq] at hcall FB
        have FB' := Aside0.mk FB
        clear FB hq
        go_wp2_with (go_at_call 34; (with_reducible refine hcall.mono ?_); rintro e w' ⟨rfl, hb'⟩)
        go_ret
        exact ⟨_, rfl, .inr ⟨kk, hlt, rfl, by rw [FB'.out, HY.out]⟩, hb'⟩
      | false =>
        rw [hq] at hcall FB
        have FB' := Aside0.mk FB
        clear FB hq
        go_wp2_with (go_at_call 34; (with_reducible refine hcall.mono ?_); rintro e w' ⟨rfl, hb'⟩)
        go_roundg (l.length - (kk + 1))
        case measure => omega
        case rel => exact ⟨kk + 1, by omega, by omega, by go_num, ⟨hb'⟩, ⟨FB'.out⟩⟩
    · have hltz : ¬ (kk : Int) < (l.length : Int) := by omega
      have hz : l.length ≤ kk := by omega
      go_wp2
      go_ret
      exact ⟨_, rfl, .inl ⟨rfl, by rw [FA.out, List.drop_of_length_le hz]; rfl⟩, BW.out⟩
end Go.Proofs.Ytpclhceafigibaa.PAll
