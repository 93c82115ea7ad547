/- What is told of the system and of an association, and the two states, plainly; the statement. -/
import Derived.Test.YtpclhceafigibaaDoorVN
import Derived.Test.YtpclhceafigibaaDoorVL
namespace Go.Proofs.YtpclhceafigibaaDoor.U
set_option linter.unusedVariables false
set_option linter.unusedSimpArgs false
open Go.RowKit Go.Proofs.YtpclhceafigibaaDoorW.PrintWords Go.Proofs.YtpclhceafigibaaDoorW.PrintLast Go.Proofs.YtpclhceafigibaaDoorW.PrintMore Go.Proofs.YtpclhceafigibaaDoor.PVars

def sysL (a0 a1 a2 a3 a4 : Int) (a5 a6 : Nat) (a7 a8 a9 a10 : Int) : List S51 := [(⟨(⟨#[108, 101, 97, 112]⟩ : ByteArray), B (I a0)⟩ : S51), (⟨(⟨#[115, 116, 114, 97, 116, 117, 109]⟩ : ByteArray), B (I a1)⟩ : S51), (⟨(⟨#[112, 114, 101, 99, 105, 115, 105, 111, 110]⟩ : ByteArray), B (I (-20))⟩ : S51), (⟨(⟨#[114, 111, 111, 116, 100, 101, 108, 97, 121]⟩ : ByteArray), B (I a3)⟩ : S51), (⟨(⟨#[114, 111, 111, 116, 100, 105, 115, 112]⟩ : ByteArray), B (I a4)⟩ : S51), (⟨(⟨#[114, 101, 102, 105, 100]⟩ : ByteArray), B (addrS a5)⟩ : S51), (⟨(⟨#[114, 101, 102, 116, 105, 109, 101]⟩ : ByteArray), B (D a6)⟩ : S51), (⟨(⟨#[112, 101, 101, 114]⟩ : ByteArray), B (I a9)⟩ : S51), (⟨(⟨#[116, 99]⟩ : ByteArray), B (I a2)⟩ : S51), (⟨(⟨#[111, 102, 102, 115, 101, 116]⟩ : ByteArray), B (I a7)⟩ : S51), (⟨(⟨#[102, 114, 101, 113, 117, 101, 110, 99, 121]⟩ : ByteArray), B (I a10)⟩ : S51), (⟨(⟨#[115, 121, 115, 95, 106, 105, 116, 116, 101, 114]⟩ : ByteArray), B (I a8)⟩ : S51)]
def peerL (b0 : Int) (b1 : Nat) (b2 b3 c0 c1 c2 c3 n0 n1 : Int) : List S51 := [(⟨(⟨#[115, 114, 99, 97, 100, 114]⟩ : ByteArray), B (addrS b1)⟩ : S51), (⟨(⟨#[107, 105, 110, 100]⟩ : ByteArray), B (I b0)⟩ : S51), (⟨(⟨#[115, 116, 114, 97, 116, 117, 109]⟩ : ByteArray), B (I n1)⟩ : S51), (⟨(⟨#[114, 101, 97, 99, 104]⟩ : ByteArray), B (I n0)⟩ : S51), (⟨(⟨#[104, 112, 111, 108, 108]⟩ : ByteArray), B (I b3)⟩ : S51), (⟨(⟨#[107, 101, 121]⟩ : ByteArray), B (I b2)⟩ : S51), (⟨(⟨#[111, 102, 102, 115, 101, 116]⟩ : ByteArray), B (I c0)⟩ : S51), (⟨(⟨#[100, 101, 108, 97, 121]⟩ : ByteArray), B (I c1)⟩ : S51), (⟨(⟨#[100, 105, 115, 112, 101, 114, 115, 105, 111, 110]⟩ : ByteArray), B (I c2)⟩ : S51), (⟨(⟨#[106, 105, 116, 116, 101, 114]⟩ : ByteArray), B (I c3)⟩ : S51)]

theorem put_ev (l : List S54) (n v : ByteArray) (h : l.length < 4398046511104) : Ev (fun _ => foliotref19_put.f l n v) (l ++ [(⟨n, v⟩ : S54)]) := by
  simp only [foliotref19_put.f, if_pos h]; exact Ev.now _
theorem sys_prog (a0 a1 a2 a3 a4 : Int) (a5 a6 : Nat) (a7 a8 a9 a10 : Int) (h0 : is64 a0) (h1 : is64 a1) (h2 : is64 a2) (h3 : is64 a3) (h4 : is64 a4) (h5 : a5 < 4294967296) (h6 : a6 < 18446744073709551616) (h7 : is64 a7) (h8 : is64 a8) (h9 : is64 a9) (h10 : is64 a10) :
    Ev (fun k => control_SystemVars.f k a0 a1 a2 a3 a4 (a5 : Int) (a6 : Int) a7 a8 a9 a10) (sysL a0 a1 a2 a3 a4 a5 a6 a7 a8 a9 a10) := by
  have h20 : is64 (-20) := by unfold is64; omega
  simp only [control_SystemVars.f, number_prog _ h0, number_prog _ h1, number_prog _ h2, number_prog _ h3, number_prog _ h4, number_prog _ h7, number_prog _ h8, number_prog _ h9, number_prog _ h10, number_prog _ h20, formatUint_prog _ h6, Option.bind_some]
  exact Ev.bind (addr_prog a5 h5) (Ev.now _)
theorem peer_prog (b0 : Int) (b1 : Nat) (b2 b3 : Int) (c0 c1 c2 c3 n0 n1 : Int) (h0 : is64 b0) (h1 : b1 < 4294967296) (h2 : is64 b2) (h3 : is64 b3) (g0 : is64 c0) (g1 : is64 c1) (g2 : is64 c2) (g3 : is64 c3) (i0 : is64 n0) (i1 : is64 n1)
    (b4 : Int) (b5 b6 b7 : Bool) (b8 : Int) (b9 : Bool) (b10 b11 c4 : Int) (c5 : Bool) :
    Ev (fun k => control_PeerVars.f k b0 (b1 : Int) b2 b3 b4 b5 b6 b7 b8 b9 b10 b11 c0 c1 c2 c3 c4 c5 n0 n1) (peerL b0 b1 b2 b3 c0 c1 c2 c3 n0 n1) := by
  simp only [control_PeerVars.f, number_prog _ h0, number_prog _ h2, number_prog _ h3, number_prog _ g0, number_prog _ g1, number_prog _ g2, number_prog _ g3, number_prog _ i0, number_prog _ i1, Option.bind_some]
  exact Ev.bind (addr_prog b1 h1) (Ev.now _)
theorem sys_ref (a0 a1 a2 a3 a4 : Int) (a5 a6 : Nat) (a7 a8 a9 a10 : Int) (h0 : is64 a0) (h1 : is64 a1) (h2 : is64 a2) (h3 : is64 a3) (h4 : is64 a4) (h5 : a5 < 4294967296) (h6 : a6 < 18446744073709551616) (h7 : is64 a7) (h8 : is64 a8) (h9 : is64 a9) (h10 : is64 a10) :
    Ev (fun k => foliotref19_SystemVars.f k a0 a1 a2 a3 a4 (a5 : Int) (a6 : Int) a7 a8 a9 a10) ((sysL a0 a1 a2 a3 a4 a5 a6 a7 a8 a9 a10).map to54) := by
  have h20 : is64 (-20) := by unfold is64; omega
  simp only [foliotref19_SystemVars.f]
  refine Ev.bind (number_ref _ h0) (Ev.bind (put_ev _ _ _ (by simp)) (Ev.bind (number_ref _ h1) (Ev.bind (put_ev _ _ _ (by simp)) (Ev.bind (number_ref _ h20) (Ev.bind (put_ev _ _ _ (by simp)) (Ev.bind (number_ref _ h3) (Ev.bind (put_ev _ _ _ (by simp)) (Ev.bind (number_ref _ h4) (Ev.bind (put_ev _ _ _ (by simp)) (Ev.bind (addr_ref _ h5) (Ev.bind (put_ev _ _ _ (by simp)) (Ev.bind (natural_ev _ h6) (Ev.bind (put_ev _ _ _ (by simp)) (Ev.bind (number_ref _ h9) (Ev.bind (put_ev _ _ _ (by simp)) (Ev.bind (number_ref _ h2) (Ev.bind (put_ev _ _ _ (by simp)) (Ev.bind (number_ref _ h7) (Ev.bind (put_ev _ _ _ (by simp)) (Ev.bind (number_ref _ h10) (Ev.bind (put_ev _ _ _ (by simp)) (Ev.bind (number_ref _ h8) (Ev.bind (put_ev _ _ _ (by simp)) ?_)))))))))))))))))))))))
  exact Ev.now _
theorem peer_ref (b0 : Int) (b1 : Nat) (b2 b3 : Int) (c0 c1 c2 c3 n0 n1 : Int) (h0 : is64 b0) (h1 : b1 < 4294967296) (h2 : is64 b2) (h3 : is64 b3) (g0 : is64 c0) (g1 : is64 c1) (g2 : is64 c2) (g3 : is64 c3) (i0 : is64 n0) (i1 : is64 n1)
    (b4 : Int) (b5 b6 b7 : Bool) (b8 : Int) (b9 : Bool) (b10 b11 c4 : Int) (c5 : Bool) :
    Ev (fun k => foliotref19_PeerVars.f k b0 (b1 : Int) b2 b3 b4 b5 b6 b7 b8 b9 b10 b11 c0 c1 c2 c3 c4 c5 n0 n1) ((peerL b0 b1 b2 b3 c0 c1 c2 c3 n0 n1).map to54) := by
  simp only [foliotref19_PeerVars.f]
  refine Ev.bind (addr_ref _ h1) (Ev.bind (put_ev _ _ _ (by simp)) (Ev.bind (number_ref _ h0) (Ev.bind (put_ev _ _ _ (by simp)) (Ev.bind (number_ref _ i1) (Ev.bind (put_ev _ _ _ (by simp)) (Ev.bind (number_ref _ i0) (Ev.bind (put_ev _ _ _ (by simp)) (Ev.bind (number_ref _ h3) (Ev.bind (put_ev _ _ _ (by simp)) (Ev.bind (number_ref _ h2) (Ev.bind (put_ev _ _ _ (by simp)) (Ev.bind (number_ref _ g0) (Ev.bind (put_ev _ _ _ (by simp)) (Ev.bind (number_ref _ g1) (Ev.bind (put_ev _ _ _ (by simp)) (Ev.bind (number_ref _ g2) (Ev.bind (put_ev _ _ _ (by simp)) (Ev.bind (number_ref _ g3) (Ev.bind (put_ev _ _ _ (by simp)) ?_)))))))))))))))))))
  exact Ev.now _

/-! ### they may be written -/
theorem D_plain : ∀ (f u : Nat), u ≤ f → (D u).all plainB = true := by
  intro f
  induction f with
  | zero => intro u h; obtain rfl : u = 0 := by omega
            rw [dec_small 0 (by omega)]; decide
  | succ f ih =>
    intro u h
    have one : ∀ d, d < 10 → plainB (UInt8.ofNat (48 + d)) = true := by
      intro d hd
      unfold plainB plainN
      rw [decide_eq_true_eq, UInt8.toNat_ofNat']
      omega
    by_cases hu : u < 10
    · rw [dec_small u hu, List.all_cons, one u hu]; rfl
    · rw [dec_step u hu, List.all_append, ih (u / 10) (by omega)]
      rw [List.all_cons, one _ (Nat.mod_lt _ (by omega))]; rfl
theorem I_good (n : Int) (h : is64 n) : (I n).length ≤ 64 ∧ (I n).all plainB = true := by
  unfold is64 at h
  by_cases hn : n < 0
  · obtain ⟨u, rfl⟩ : ∃ u : Nat, n = -(u : Int) := ⟨n.natAbs, by omega⟩
    rw [show I (-(u : Int)) = 45 :: D u from Lib.itoa_neg u (by omega)]
    have := dec_len u (by omega)
    exact ⟨by simp; omega, by rw [List.all_cons, D_plain u u (Nat.le_refl _)]; decide⟩
  · obtain ⟨u, rfl⟩ : ∃ u : Nat, n = (u : Int) := ⟨n.toNat, by omega⟩
    rw [show I (u : Int) = D u from Lib.itoa_nonneg u]
    have := dec_len u (by omega)
    exact ⟨by omega, D_plain u u (Nat.le_refl _)⟩
theorem D_good (u : Nat) (h : u < 18446744073709551616) : (D u).length ≤ 64 ∧ (D u).all plainB = true := ⟨by have := dec_len u h; omega, D_plain u u (Nat.le_refl _)⟩
theorem D_three (u : Nat) (h : u < 1000) : (D u).length ≤ 3 := by
  by_cases h1 : u < 10
  · rw [dec_small u h1]; simp
  · rw [dec_step u h1]
    by_cases h2 : u / 10 < 10
    · rw [dec_small _ h2]; simp
    · rw [dec_step _ h2, dec_small _ (by omega)]; simp
theorem addr_good (a : Nat) (h : a < 4294967296) : (addrS a).length ≤ 64 ∧ (addrS a).all plainB = true := by
  have l1 := D_three (a / 16777216) (by omega)
  have l2 := D_three (a / 65536 % 256) (by omega)
  have l3 := D_three (a / 256 % 256) (by omega)
  have l4 := D_three (a % 256) (by omega)
  unfold addrS
  refine ⟨by simp only [List.length_append, List.length_cons, List.length_nil]; omega, ?_⟩
  simp only [List.all_append, D_plain _ _ (Nat.le_refl _), Bool.true_and, Bool.and_true]
  decide
def nameOk (n : List UInt8) : Bool := decide (0 < n.length) && decide (n.length ≤ 24) && n.all namedB
theorem good_mk (n : ByteArray) (v : List UInt8) (hn : nameOk n.data.toList = true) (h : v.length ≤ 64 ∧ v.all plainB = true) : goodS (v51 ⟨n, B v⟩) = true := by
  unfold nameOk at hn
  simp only [Bool.and_eq_true] at hn
  unfold goodS v51
  have hd : decide (v.length ≤ 64) = true := decide_eq_true h.1
  simp only [B_data, hn.1.1, hn.1.2, hn.2, h.2, Bool.true_and, Bool.and_true]
  exact hd
theorem sys_good (a0 a1 a2 a3 a4 : Int) (a5 a6 : Nat) (a7 a8 a9 a10 : Int) (h0 : is64 a0) (h1 : is64 a1) (h2 : is64 a2) (h3 : is64 a3) (h4 : is64 a4) (h5 : a5 < 4294967296) (h6 : a6 < 18446744073709551616) (h7 : is64 a7) (h8 : is64 a8) (h9 : is64 a9) (h10 : is64 a10) :
    ((sysL a0 a1 a2 a3 a4 a5 a6 a7 a8 a9 a10).map v51).all goodS = true := by
  have h20 : is64 (-20) := by unfold is64; omega
  simp only [sysL, List.map_cons, List.map_nil, List.all_cons, List.all_nil, Bool.and_true, Bool.and_eq_true]
  refine ⟨good_mk _ _ (by decide) (I_good _ h0), good_mk _ _ (by decide) (I_good _ h1), good_mk _ _ (by decide) (I_good _ h20), good_mk _ _ (by decide) (I_good _ h3), good_mk _ _ (by decide) (I_good _ h4), good_mk _ _ (by decide) (addr_good _ h5), good_mk _ _ (by decide) (D_good _ h6), good_mk _ _ (by decide) (I_good _ h9), good_mk _ _ (by decide) (I_good _ h2), good_mk _ _ (by decide) (I_good _ h7), good_mk _ _ (by decide) (I_good _ h10), good_mk _ _ (by decide) (I_good _ h8)⟩
theorem peer_good (b0 : Int) (b1 : Nat) (b2 b3 : Int) (c0 c1 c2 c3 n0 n1 : Int) (h0 : is64 b0) (h1 : b1 < 4294967296) (h2 : is64 b2) (h3 : is64 b3) (g0 : is64 c0) (g1 : is64 c1) (g2 : is64 c2) (g3 : is64 c3) (i0 : is64 n0) (i1 : is64 n1) :
    ((peerL b0 b1 b2 b3 c0 c1 c2 c3 n0 n1).map v51).all goodS = true := by
  simp only [peerL, List.map_cons, List.map_nil, List.all_cons, List.all_nil, Bool.and_true, Bool.and_eq_true]
  refine ⟨good_mk _ _ (by decide) (addr_good _ h1), good_mk _ _ (by decide) (I_good _ h0), good_mk _ _ (by decide) (I_good _ i1), good_mk _ _ (by decide) (I_good _ i0), good_mk _ _ (by decide) (I_good _ h3), good_mk _ _ (by decide) (I_good _ h2), good_mk _ _ (by decide) (I_good _ g0), good_mk _ _ (by decide) (I_good _ g1), good_mk _ _ (by decide) (I_good _ g2), good_mk _ _ (by decide) (I_good _ g3)⟩

/-! ### the states -/
theorem i64_and3 (n : Int) : Go.bits .and .i64 n 3 = n % 4 := by
  have h3 : (BitVec.ofInt 64 3).toNat = 2 ^ 2 - 1 := by decide
  have key : (BitVec.ofInt 64 n &&& BitVec.ofInt 64 3).toNat = (n % ((2 ^ 64 : Nat) : Int)).toNat % 2 ^ 2 := by
    rw [BitVec.toNat_and, BitVec.toNat_ofInt, h3, Nat.and_two_pow_sub_one_eq_mod]
  show IntKind.i64.wrap ((BitVec.ofInt 64 n &&& BitVec.ofInt 64 3).toNat : Nat) = n % 4
  rw [key, IntKind.wrap_i64]
  omega
def orB (x y : Int) : Int := Go.bits .or .i64 x y
theorem sys_bits : ∀ (A : Fin 4) (E C : Fin 16), orB (orB ((A.val : Int) * 16384) ((E.val : Int) * 16)) (C.val : Int) = (A.val : Int) * 16384 + (E.val : Int) * 16 + (C.val : Int) ∧
    orB ((A.val : Int) * 16384 + (E.val : Int) * 16 + (C.val : Int)) 1536 = (A.val : Int) * 16384 + (E.val : Int) * 16 + (C.val : Int) + 1536 := by decide +kernel
theorem sys_bits' (A E C : Int) (hA : 0 ≤ A ∧ A < 4) (hE : 0 ≤ E ∧ E < 16) (hC : 0 ≤ C ∧ C < 16) : orB (orB (A * 16384) (E * 16)) C = A * 16384 + E * 16 + C ∧ orB (A * 16384 + E * 16 + C) 1536 = A * 16384 + E * 16 + C + 1536 := by
  obtain ⟨a, rfl⟩ : ∃ a : Nat, A = a := ⟨A.toNat, by omega⟩
  obtain ⟨e, rfl⟩ : ∃ a : Nat, E = a := ⟨E.toNat, by omega⟩
  obtain ⟨c, rfl⟩ : ∃ a : Nat, C = a := ⟨C.toNat, by omega⟩
  exact sys_bits ⟨a, by omega⟩ ⟨e, by omega⟩ ⟨c, by omega⟩
theorem sys_state (a0 a1 a2 a3 a4 a5 a6 a7 a8 a9 a10 x y : Int) : ∃ r, control_SystemStatus.f a0 a1 a2 a3 a4 a5 a6 a7 a8 a9 a10 x y = some r ∧ foliotref19_SystemStatus.f a0 a1 a2 a3 a4 a5 a6 a7 a8 a9 a10 x y = some r := by
  have hA : 0 ≤ Go.bits .and .i64 a0 3 ∧ Go.bits .and .i64 a0 3 < 4 := by rw [i64_and3]; omega
  have hE : 0 ≤ mn (mx x 0) 15 ∧ mn (mx x 0) 15 < 16 := by unfold mn mx; split <;> split <;> omega
  have hC : 0 ≤ mn (mx y 0) 15 ∧ mn (mx y 0) 15 < 16 := by unfold mn mx; split <;> split <;> omega
  have eE : mx 0 (mn x 15) = mn (mx x 0) 15 := by
    unfold mn mx
    repeat' split
    all_goals omega
  have eC : mx 0 (mn y 15) = mn (mx y 0) 15 := by
    unfold mn mx
    repeat' split
    all_goals omega
  simp only [control_SystemStatus.f, foliotref19_SystemStatus.f, foliotref19_cut.f, Option.bind_some, eE, eC]
  generalize Go.bits .and .i64 a0 3 = A at hA ⊢
  generalize mn (mx x 0) 15 = E at hE ⊢
  generalize mn (mx y 0) 15 = C at hC ⊢
  obtain ⟨k1, k2⟩ := sys_bits' A E C hA hE hC
  unfold orB at k1 k2
  rw [w64 (x := A * 16384) (by omega) (by omega), w64 (x := E * 16) (by omega) (by omega), w64 (x := A * 16384 + E * 16) (by omega) (by omega), w64 (x := A * 16384 + E * 16 + C) (by omega) (by omega), w64 (x := A * 16384 + E * 16 + C + 1536) (by omega) (by omega), k1, k2]
  split
  · exact ⟨_, rfl, rfl⟩
  · exact ⟨_, rfl, rfl⟩
theorem peer_bits : orB 32768 4096 = 36864 ∧ orB 32768 1536 = 34304 ∧ orB 32768 1024 = 33792 ∧ orB 36864 1536 = 38400 ∧ orB 36864 1024 = 37888 := by decide +kernel
theorem peer_state (n : Int) (x y : Bool) : ∃ r, Ev (fun k => control_PeerStatus.f k n x y) r ∧ Ev (fun k => foliotref19_PeerStatus.f k n x y) r := by
  obtain ⟨p0, p1, p2, p3, p4⟩ := peer_bits
  unfold orB at p0 p1 p2 p3 p4
  simp only [control_PeerStatus.f, foliotref19_PeerStatus.f, p0]
  by_cases hn : n = 0
  · simp only [if_pos hn]
    cases x
    · cases y
      · exact ⟨32768, Ev.ends fun k => by simp [control_PeerStatus.j0], Ev.ends fun k => by simp [foliotref19_PeerStatus.j0]⟩
      · exact ⟨33792, Ev.ends fun k => by simp [control_PeerStatus.j0, p2], Ev.ends fun k => by simp [foliotref19_PeerStatus.j0, wrap64]⟩
    · exact ⟨34304, Ev.ends fun k => by simp [control_PeerStatus.j0, p1], Ev.ends fun k => by simp [foliotref19_PeerStatus.j0, wrap64]⟩
  · simp only [if_neg hn]
    cases x
    · cases y
      · exact ⟨36864, Ev.ends fun k => by simp [control_PeerStatus.j0], Ev.ends fun k => by simp [foliotref19_PeerStatus.j0]⟩
      · exact ⟨37888, Ev.ends fun k => by simp [control_PeerStatus.j0, p4], Ev.ends fun k => by simp [foliotref19_PeerStatus.j0, wrap64]⟩
    · exact ⟨38400, Ev.ends fun k => by simp [control_PeerStatus.j0, p3], Ev.ends fun k => by simp [foliotref19_PeerStatus.j0, wrap64]⟩

theorem to51_54 (l : List S51) : (l.map to54).map to51 = l := by rw [List.map_map]; exact (List.map_congr_left (fun _ _ => rfl)).trans (List.map_id l)
/-- ControlVars, plainly. -/
theorem vars (a0 a1 a2 a3 a4 : Int) (a5 a6 : Nat) (a7 a8 a9 a10 : Int) (h0 : is64 a0) (h1 : is64 a1) (h2 : is64 a2) (h3 : is64 a3) (h4 : is64 a4) (h5 : a5 < 4294967296) (h6 : a6 < 18446744073709551616) (h7 : is64 a7) (h8 : is64 a8) (h9 : is64 a9) (h10 : is64 a10)
    (b0 : Int) (b1 : Nat) (b2 b3 : Int) (c0 c1 c2 c3 n0 n1 n2 n3 : Int) (k0 : is64 b0) (k1 : b1 < 4294967296) (k2 : is64 b2) (k3 : is64 b3) (g0 : is64 c0) (g1 : is64 c1) (g2 : is64 c2) (g3 : is64 c3) (i0 : is64 n0) (i1 : is64 n1) (i2 : is64 n2)
    (b4 : Int) (b5 b6 b7 : Bool) (b8 : Int) (b9 : Bool) (b10 b11 c4 : Int) (c5 : Bool) (f0 f1 : Bool) :
    Ev (fun k => foliotlaw19_ControlVars.f k a0 a1 a2 a3 a4 (a5 : Int) (a6 : Int) a7 a8 a9 a10 b0 (b1 : Int) b2 b3 b4 b5 b6 b7 b8 b9 b10 b11 c0 c1 c2 c3 c4 c5 n0 n1 n2 n3 f0 f1) true := by
  have S1 := sys_prog a0 a1 a2 a3 a4 a5 a6 a7 a8 a9 a10 h0 h1 h2 h3 h4 h5 h6 h7 h8 h9 h10
  have S2 := sys_ref a0 a1 a2 a3 a4 a5 a6 a7 a8 a9 a10 h0 h1 h2 h3 h4 h5 h6 h7 h8 h9 h10
  have S3 := sys_good a0 a1 a2 a3 a4 a5 a6 a7 a8 a9 a10 h0 h1 h2 h3 h4 h5 h6 h7 h8 h9 h10
  have P1 := peer_prog b0 b1 b2 b3 c0 c1 c2 c3 n0 n1 k0 k1 k2 k3 g0 g1 g2 g3 i0 i1 b4 b5 b6 b7 b8 b9 b10 b11 c4 c5
  have P2 := peer_ref b0 b1 b2 b3 c0 c1 c2 c3 n0 n1 k0 k1 k2 k3 g0 g1 g2 g3 i0 i1 b4 b5 b6 b7 b8 b9 b10 b11 c4 c5
  have P3 := peer_good b0 b1 b2 b3 c0 c1 c2 c3 n0 n1 k0 k1 k2 k3 g0 g1 g2 g3 i0 i1
  have ls : (sysL a0 a1 a2 a3 a4 a5 a6 a7 a8 a9 a10).length = 12 := rfl
  have lp : (peerL b0 b1 b2 b3 c0 c1 c2 c3 n0 n1).length = 10 := rfl
  generalize sysL a0 a1 a2 a3 a4 a5 a6 a7 a8 a9 a10 = L at S1 S2 S3 ls
  generalize peerL b0 b1 b2 b3 c0 c1 c2 c3 n0 n1 = M at P1 P2 P3 lp
  have O1 := ours_f (L.map to54) (by rw [List.length_map]; omega)
  have O2 := ours_f (M.map to54) (by rw [List.length_map]; omega)
  rw [to51_54] at O1 O2
  have Q1 := same_f L L (by omega) rfl
  have Q2 := same_f M M (by omega) rfl
  have W1 := list_prog L (by omega) S3
  have W2 := list_prog M (by omega) P3
  obtain ⟨r, R1, R2⟩ := sys_state a0 a1 a2 a3 a4 (a5 : Int) (a6 : Int) a7 a8 a9 a10 n2 n3
  obtain ⟨s, T1, T2⟩ := peer_state n0 f0 f1
  have e1 : (resP [] (L.map v51)).2 = 0 := by unfold resP; rw [if_pos S3]
  have e2 : (resP [] (M.map v51)).2 = 0 := by unfold resP; rw [if_pos P3]
  simp only [foliotlaw19_ControlVars.f, number_prog _ i2, Option.bind_some]
  refine Ev.bind S1 (Ev.bind P1 (Ev.bind S2 (Ev.bind O1 (Ev.bind Q1 (Ev.pos rfl (Ev.bind P2 (Ev.bind O2 (Ev.bind Q2 (Ev.pos rfl (Ev.bind (number_ref _ i2) ?_))))))))))
  rw [show ((B (I n2)).toList != (B (I n2)).toList) = false from bne_self_eq_false _]
  apply Ev.step
  · intro k; rw [foliotlaw19_ControlVars.j0]
  simp only [R1, R2, Option.bind_some, Bool.false_eq_true, if_false, if_true]
  refine Ev.bind T1 (Ev.bind T2 ?_)
  rw [bne_self_eq_false]
  apply Ev.step
  · intro k; rw [foliotlaw19_ControlVars.j1]
  refine Ev.neg (by simp) (Ev.bind W1 (Ev.bind W2 (Ev.pos e1 ?_)))
  rw [e2]
  exact Ev.now _
end Go.Proofs.YtpclhceafigibaaDoor.U
