/- The document's Read, plainly: it comes to the same function of lists. -/
import Derived.Test.YtpclhceafigibaaU4
namespace Go.Proofs.Ytpclhceafigibaa.U
set_option linter.unusedVariables false
set_option linter.unusedSimpArgs false
open Go.RowKit Go.Proofs.YtpclhceafigibaaW.PrintWords Go.Proofs.YtpclhceafigibaaW.PrintLast Go.Proofs.YtpclhceafigibaaW.PrintMore Go.Proofs.Ytpclhceafigibaa.PAll

theorem tw_all (p : UInt8 → Bool) : ∀ l : List UInt8, (∀ x ∈ l, p x = true) → l.takeWhile p = l
  | [], _ => rfl
  | b :: l, h => by rw [List.takeWhile_cons, if_pos (h b (by simp)), tw_all p l fun x hx => h x (by simp [hx])]
theorem one_l1 (s : List UInt8) (hs : s.length < 4294967281) (a : Nat) (nm v0 : ByteArray) : ∀ d i : Nat, i + d = s.length → a + 1 ≤ i →
    Ev (fun k => foliotref19_one.l1 k (B s) (a : Int) (i : Int) nm v0) (nm, B ((s.drop (a + 1)).take (i - (a + 1) + ((s.drop i).takeWhile noQuote).length)), B (((s.drop i).dropWhile noQuote).drop 1))
  | 0, i, h, ha => by
    refine Ev.ends fun k => ?_
    rw [foliotref19_one.l1, B_size, w64_succ a (by omega), w64_succ i (by omega), if_neg (by omega), if_pos (by omega), if_pos (by omega), if_pos (by omega)]
    have hm : mn ((i + 1 : Nat) : Int) (s.length : Int) = (s.length : Int) := by unfold mn; rw [if_pos (by omega)]
    rw [hm, if_pos (by omega), if_pos (by omega)]
    simp only [Int.toNat_natCast, B_extract_end]
    simp only [B_extract]
    rw [show s.drop i = [] from List.drop_of_length_le (by omega), List.drop_length]
    simp
  | d + 1, i, h, ha => by
    have hi : i < s.length := by omega
    have hb := bt_B s i hi
    have h34 : ((s[i].toNat : Int) = 34) ↔ s[i] = 34 := by rw [← UInt8.toNat_inj]; simp; omega
    have hc := drop_cons s i hi
    by_cases hq : s[i] = 34
    · refine Ev.ends fun k => ?_
      have hm : mn ((i + 1 : Nat) : Int) (s.length : Int) = ((i + 1 : Nat) : Int) := by unfold mn; rw [if_neg (by omega)]
      rw [foliotref19_one.l1, B_size, w64_succ a (by omega), w64_succ i (by omega), if_pos (by omega), if_pos (by omega), hb, if_pos (h34.2 hq), if_pos (by omega), if_pos (by omega), if_pos (by omega), hm, if_pos (by omega), if_pos (by omega)]
      simp only [Int.toNat_natCast, B_extract_end]
      simp only [B_extract]
      rw [hc, List.takeWhile_cons, List.dropWhile_cons]
      simp [noQuote, hq]
    · have hn : noQuote s[i] = true := bne_iff_ne.2 hq
      rw [hc, List.takeWhile_cons, List.dropWhile_cons, if_pos hn, if_pos hn]
      have := one_l1 s hs a nm v0 d (i + 1) (by omega) (by omega)
      have e : i + 1 - (a + 1) + ((s.drop (i + 1)).takeWhile noQuote).length = i - (a + 1) + (s[i] :: (s.drop (i + 1)).takeWhile noQuote).length := by rw [List.length_cons]; omega
      rw [e] at this
      refine Ev.eqs (fun k => ?_) this
      rw [foliotref19_one.l1, B_size, if_pos (by omega), if_pos (by omega), hb, if_neg (fun h => hq (h34.1 h)), w64_succ i (by omega)]
theorem one_l2 (s : List UInt8) (hs : s.length < 4294967281) (a : Nat) (nm v0 : ByteArray) : ∀ d i : Nat, i + d = s.length → a ≤ i →
    Ev (fun k => foliotref19_one.l2 k (B s) (a : Int) (i : Int) nm v0) (nm, B ((s.drop a).take (i - a + ((s.drop i).takeWhile noComma).length)), B ((s.drop i).dropWhile noComma))
  | 0, i, h, ha => by
    refine Ev.ends fun k => ?_
    rw [foliotref19_one.l2, B_size, if_neg (by omega), if_pos (by omega), if_pos (by omega), if_pos (by omega), if_pos (by omega)]
    simp only [Int.toNat_natCast, B_extract_end]
    simp only [B_extract]
    rw [show s.drop i = [] from List.drop_of_length_le (by omega)]
    simp
  | d + 1, i, h, ha => by
    have hi : i < s.length := by omega
    have hb := bt_B s i hi
    have h44 : ((s[i].toNat : Int) = 44) ↔ s[i] = 44 := by rw [← UInt8.toNat_inj]; simp; omega
    have hc := drop_cons s i hi
    by_cases hq : s[i] = 44
    · refine Ev.ends fun k => ?_
      rw [foliotref19_one.l2, B_size, if_pos (by omega), if_pos (by omega), hb, if_pos (h44.2 hq), if_pos (by omega), if_pos (by omega), if_pos (by omega)]
      simp only [Int.toNat_natCast, B_extract_end]
      simp only [B_extract]
      rw [hc, List.takeWhile_cons, List.dropWhile_cons]
      simp [noComma, hq]
    · have hn : noComma s[i] = true := bne_iff_ne.2 hq
      rw [hc, List.takeWhile_cons, List.dropWhile_cons, if_pos hn, if_pos hn]
      have := one_l2 s hs a nm v0 d (i + 1) (by omega) (by omega)
      have e : i + 1 - a + ((s.drop (i + 1)).takeWhile noComma).length = i - a + (s[i] :: (s.drop (i + 1)).takeWhile noComma).length := by rw [List.length_cons]; omega
      rw [e] at this
      refine Ev.eqs (fun k => ?_) this
      rw [foliotref19_one.l2, B_size, if_pos (by omega), if_pos (by omega), hb, if_neg (fun h => hq (h44.1 h)), w64_succ i (by omega)]

def outO (s : List UInt8) : ByteArray × ByteArray × ByteArray := (B (oneS s).1.1, B (oneS s).1.2, B (oneS s).2)
/-- Behind the name. -/
theorem one_j1 (s : List UInt8) (hs : s.length < 4294967281) (n : Nat) (hn : (s.takeWhile inName).length = n) (v0 : ByteArray) :
    Ev (fun k => foliotref19_one.j1 k (B s) (n : Int) v0 (⟨#[]⟩ : ByteArray)) (outO s) := by
  have hlen := len_tw inName s
  rw [hn] at hlen
  have htake : s.take n = s.takeWhile inName := by rw [← hn]; exact take_tw inName s
  have hdrop : s.drop n = s.dropWhile inName := by rw [← hn, drop_tw]
  have hnil : s.takeWhile inName ++ s.dropWhile inName = s := takeWhile_append_drop inName s
  apply Ev.step
  · intro k; rw [foliotref19_one.j1]
  simp only [B_size, if_pos (show (0 : Int) ≤ (n : Int) by omega), if_pos (show (n : Int) ≤ (s.length : Int) by omega), Int.toNat_natCast, B_extract_head, htake]
  cases hd : s.dropWhile inName with
  | nil =>
    rw [hd] at hlen hnil hdrop
    have h1 : outO s = (B (s.takeWhile inName), B [], B []) := by
      unfold outO oneS; rw [hd]
      simp only [List.append_nil] at hnil
      rw [hnil]
    rw [h1]
    simp only [if_pos (show (n : Int) = (s.length : Int) by simp at hlen; omega)]
    apply Ev.step
    · intro k; rw [foliotref19_one.j2]
    simp only [if_true, B_size, if_pos (show (0 : Int) ≤ (n : Int) by omega), if_pos (show (n : Int) ≤ (s.length : Int) by omega), Int.toNat_natCast, B_extract_end, hdrop]
    exact Ev.now _
  | cons c r =>
    rw [hd] at hlen hdrop
    rw [List.length_cons] at hlen
    have hdrop1 : s.drop (n + 1) = r := by rw [← List.drop_drop, hdrop]; rfl
    have hat : s[n]'(by omega) = c := by
      have := drop_cons s n (by omega)
      rw [hdrop] at this
      exact (List.cons.inj this).1.symm
    have hbt : bt (B s) (n : Int) = (c.toNat : Int) := by rw [bt_B s n (by omega), hat]
    -- the sign behind the name is '=' or ','
    have hin : inName c = false := by
      have := List.head?_dropWhile_not inName s
      rw [hd] at this
      simpa using this
    have hc44 : ((c.toNat : Int) == 44) = (c == 44) := by rw [Bool.eq_iff_iff]; simp [← UInt8.toNat_inj]; omega
    simp only [if_neg (show ¬ (n : Int) = (s.length : Int) by omega), if_pos (show (n : Int) < (s.length : Int) by omega), hbt, hc44]
    apply Ev.step
    · intro k; rw [foliotref19_one.j2]
    by_cases hc : c = 44
    · have h1 : outO s = (B (s.takeWhile inName), B [], B (c :: r)) := by
        unfold outO oneS; rw [hd]; simp [hc]
      rw [h1]
      simp only [hc, BEq.rfl, if_true, B_size, if_pos (show (0 : Int) ≤ (n : Int) by omega), if_pos (show (n : Int) ≤ (s.length : Int) by omega), Int.toNat_natCast, B_extract_end, hdrop]
      exact Ev.now _
    · have hc61 : c = 61 := by
        unfold inName at hin
        simp only [Bool.and_eq_false_iff, bne_eq_false_iff_eq] at hin
        rcases hin with h | h
        · exact h
        · exact absurd h hc
      simp only [beq_eq_false_iff_ne.2 hc, Bool.false_eq_true, if_false, B_size, w64_succ n (by omega)]
      cases r with
      | nil =>
        have h1 : outO s = (B (s.takeWhile inName), B [], B []) := by
          unfold outO oneS; rw [hd]; simp [hc61]
        rw [h1]
        simp only [List.length_nil] at hlen
        simp only [if_neg (show ¬ (((n + 1 : Nat) : Int) < (s.length : Int)) by omega)]
        apply Ev.step
        · intro k; rw [foliotref19_one.j3]
        simp only [Bool.false_eq_true, if_false]
        have := one_l2 s hs (n + 1) (B (s.takeWhile inName)) (⟨#[]⟩ : ByteArray) 0 (n + 1) (by omega) (by omega)
        rw [hdrop1] at this
        simpa using this
      | cons d q =>
        simp only [List.length_cons] at hlen
        have hat1 : s[n + 1]'(by omega) = d := by
          have := drop_cons s (n + 1) (by omega)
          rw [hdrop1] at this
          exact (List.cons.inj this).1.symm
        have hbt1 : bt (B s) ((n + 1 : Nat) : Int) = (d.toNat : Int) := by rw [bt_B s (n + 1) (by omega), hat1]
        have hd34 : ((d.toNat : Int) == 34) = (d == 34) := by rw [Bool.eq_iff_iff]; simp [← UInt8.toNat_inj]; omega
        simp only [if_pos (show (((n + 1 : Nat) : Int) < (s.length : Int)) by omega), if_pos (show (0 : Int) ≤ ((n + 1 : Nat) : Int) by omega), hbt1, hd34]
        apply Ev.step
        · intro k; rw [foliotref19_one.j3]
        by_cases hq : d = 34
        · have h1 : outO s = (B (s.takeWhile inName), B (q.takeWhile noQuote), B ((q.dropWhile noQuote).drop 1)) := by
            unfold outO oneS; rw [hd]; simp [hc61, hq]
          rw [h1]
          have hdrop2 : s.drop (n + 1 + 1) = q := by rw [← List.drop_drop, hdrop1]; rfl
          simp only [hq, BEq.rfl, if_true, w64_succ (n + 1) (by omega)]
          have := one_l1 s hs (n + 1) (B (s.takeWhile inName)) (⟨#[]⟩ : ByteArray) q.length (n + 1 + 1) (by omega) (by omega)
          rw [hdrop2, Nat.sub_self, Nat.zero_add, take_tw] at this
          exact this
        · have h1 : outO s = (B (s.takeWhile inName), B ((d :: q).takeWhile noComma), B ((d :: q).dropWhile noComma)) := by
            unfold outO oneS; rw [hd]; simp [hc61, hq]
          rw [h1]
          simp only [beq_eq_false_iff_ne.2 hq, Bool.false_eq_true, if_false]
          have := one_l2 s hs (n + 1) (B (s.takeWhile inName)) (⟨#[]⟩ : ByteArray) (q.length + 1) (n + 1) (by omega) (by omega)
          rw [hdrop1, Nat.sub_self, Nat.zero_add, take_tw] at this
          exact this
theorem one_l0 (s : List UInt8) (hs : s.length < 4294967281) (v0 : ByteArray) : ∀ d i : Nat, i + d = s.length → (s.take i).all inName = true →
    Ev (fun k => foliotref19_one.l0 k (B s) (i : Int) v0 (⟨#[]⟩ : ByteArray)) (outO s)
  | 0, i, h, ha => by
    have htw : s.takeWhile inName = s := by
      rw [List.take_of_length_le (by omega)] at ha
      exact tw_all inName s (fun x hx => List.all_eq_true.1 ha x hx)
    refine Ev.eqs (fun k => ?_) (one_j1 s hs i (by rw [htw]; omega) v0)
    rw [foliotref19_one.l0, B_size, if_neg (by omega)]
  | d + 1, i, h, ha => by
    have hi : i < s.length := by omega
    have hb := bt_B s i hi
    have h61 : ((s[i].toNat : Int) = 61) ↔ s[i] = 61 := by rw [← UInt8.toNat_inj]; simp; omega
    have h44 : ((s[i].toNat : Int) = 44) ↔ s[i] = 44 := by rw [← UInt8.toNat_inj]; simp; omega
    have htw : inName s[i] = false → (s.takeWhile inName).length = i := fun hf => by
      have e : s = s.take i ++ s[i] :: s.drop (i + 1) := by rw [← drop_cons s i hi, List.take_append_drop]
      conv => lhs; rw [e]
      rw [List.takeWhile_append_of_pos (fun x hx => List.all_eq_true.1 ha x hx), List.takeWhile_cons, hf]
      simp
      omega
    by_cases hn : inName s[i] = true
    · have hne : s[i] ≠ 61 ∧ s[i] ≠ 44 := by
        unfold inName at hn
        rw [Bool.and_eq_true, bne_iff_ne, bne_iff_ne] at hn
        exact hn
      refine Ev.eqs (fun k => ?_) (one_l0 s hs v0 d (i + 1) (by omega) (by rw [List.take_succ_eq_append_getElem hi, List.all_append, ha]; simp [hn]))
      rw [foliotref19_one.l0, B_size, if_pos (by omega), if_pos (by omega), hb, if_neg (fun h => hne.1 (h61.1 h)), if_neg (fun h => hne.2 (h44.1 h)), w64_succ i (by omega)]
    · have hf : inName s[i] = false := by simpa using hn
      refine Ev.eqs (fun k => ?_) (one_j1 s hs i (htw hf) v0)
      rw [foliotref19_one.l0, B_size, if_pos (by omega), if_pos (by omega), hb]
      by_cases h6 : s[i] = 61
      · rw [if_pos (h61.2 h6)]
      · have h4 : s[i] = 44 := by
          unfold inName at hf
          simp only [Bool.and_eq_false_iff, bne_eq_false_iff_eq] at hf
          rcases hf with h | h
          · exact absurd h h6
          · exact h
        rw [if_neg (fun h => h6 (h61.1 h)), if_pos (h44.2 h4)]
theorem one_ev (s : List UInt8) (hs : s.length < 4294967281) : Ev (fun k => foliotref19_one.f k (B s)) (outO s) :=
  one_l0 s hs (⟨#[]⟩ : ByteArray) s.length 0 (by omega) rfl

/-! ### the document's Read -/
def outR (s : List UInt8) (acc : List S41) : Option (List NV) → List S41 × Int
  | none => ([], 21)
  | some l => if resP [] ((acc ++ l.map mk41).map v41) = (B s, 0) then (acc ++ l.map mk41, 0) else ([], 21)
theorem outR_cons (s : List UInt8) (acc : List S41) (p : NV) (o : Option (List NV)) : outR s acc (o.map (p :: ·)) = outR s (acc ++ [mk41 p]) o := by
  cases o with
  | none => rfl
  | some l => simp only [Option.map_some, outR, List.map_cons, List.append_assoc, List.singleton_append]
def sized (acc : List S41) : Prop := ∀ x ∈ acc, x.f0.size ≤ 140737488351232 ∧ x.f1.size ≤ 140737488351232
theorem finR_ev (s : List UInt8) (acc : List S41) (ha : acc.length ≤ 1048576) (hz : sized acc) :
    Ev (fun k => (foliotref19_List.f k acc).bind fun bt => if bt.2 = 0 then (if bt.1.toList = s then some (acc, 0) else some (([] : List S41), 21)) else some (([] : List S41), 21))
      (outR s acc (some [])) := by
  have e : outR s acc (some []) = if resP [] (acc.map v41) = (B s, 0) then (acc, 0) else ([], 21) := by simp only [outR, List.map_nil, List.append_nil]
  rw [e]
  refine Ev.bind (list_ref_f acc ha hz) ?_
  by_cases h1 : (resP [] (acc.map v41)).2 = 0
  · simp only [if_pos h1]
    by_cases h2 : (resP [] (acc.map v41)).1.toList = s
    · rw [if_pos ((resP_eq _ s).2 ⟨h1, h2⟩)]
      simp only [if_pos h2]
      exact Ev.now _
    · rw [if_neg (fun h => h2 ((resP_eq _ s).1 h).2)]
      simp only [if_neg h2]
      exact Ev.now _
  · rw [if_neg (fun h => h1 ((resP_eq _ s).1 h).1)]
    simp only [if_neg h1]
    exact Ev.now _
end Go.Proofs.Ytpclhceafigibaa.U
