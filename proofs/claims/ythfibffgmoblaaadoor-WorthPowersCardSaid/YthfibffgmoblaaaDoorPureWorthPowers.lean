/- WorthPowers' plain law: for any worth by numbers, without a tag, and any two powers the law's function answers true. No conditions beyond the sizes that every row has. -/
import Derived.Test.YthfibffgmoblaaaDoorPWorthPowersx
import Derived.Test.YthfibffgmoblaaaDoorWo5p
import Derived.Test.YthfibffgmoblaaaDoorWo3
namespace Go.Proofs.YthfibffgmoblaaaDoor.Pure
open Go.RowKit Go.Proofs.YthfibffgmoblaaaDoor Go.Proofs.YthfibffgmoblaaaDoor.Fr Go.Proofs.YthfibffgmoblaaaDoor.Tx Go.Proofs.YthfibffgmoblaaaDoor.Wh Go.Proofs.YthfibffgmoblaaaDoor.Di Go.Proofs.YthfibffgmoblaaaDoor.Wo Go.Proofs.YthfibffgmoblaaaDoor.PB Go.Proofs.YthfibffgmoblaaaDoor.PC Go.Proofs.YthfibffgmoblaaaDoor.PD Go.Proofs.YthfibffgmoblaaaDoor.PO Go.Proofs.YthfibffgmoblaaaDoor.PQ Go.Proofs.YthfibffgmoblaaaDoor.PR Go.Proofs.YthfibffgmoblaaaDoor.PS Go.Proofs.YthfibffgmoblaaaDoor.PT Go.Proofs.YthfibffgmoblaaaDoor.PX Go.Proofs.YthfibffgmoblaaaDoorW.PrintWords Go.Proofs.YthfibffgmoblaaaDoorW.PrintLast Go.Proofs.YthfibffgmoblaaaDoorW.PrintMore Go.Proofs.YthfibffgmoblaaaDoor.PWorthPowers
set_option linter.unusedVariables false
theorem one_pow_ : ∀ K : Nat, (1 : Rat) ^ K = 1
  | 0 => Rat.pow_zero _
  | K + 1 => by rw [Rat.pow_succ, one_pow_ K, Rat.mul_one]
theorem pow_add_ (v : Rat) (a : Nat) : ∀ b : Nat, v ^ (a + b) = v ^ a * v ^ b
  | 0 => by rw [Nat.add_zero, Rat.pow_zero, Rat.mul_one]
  | b + 1 => by rw [← Nat.add_assoc, Rat.pow_succ, pow_add_ v a b, Rat.pow_succ, Rat.mul_assoc]
/-- A power of a number: of 0, of any other. -/
def Pn (n d t : Int) (M : Nat) (r : R4) : Prop := (n = 0 ∧ ((M = 0 ∧ r = (1, 1, 0, 0)) ∨ (0 < M ∧ r = (0, 1, 0, 0)))) ∨ (RightP n d t ∧ Enc (val n d t ^ M) r)
theorem Pn.of {n d t : Int} (hr : RD n d t = true) (id : I64 d) {M : Nat} (hM : M ≤ 99) {r : R4} (p : PowS n d t (M : Int) r) : Pn n d t M r := by
  rcases p with ⟨h, _⟩ | ⟨_, _, h, _⟩ | ⟨_, _, h, e⟩ | ⟨_, _, h0, h, e⟩ | ⟨_, _, h0, h, e⟩
  · exact absurd ⟨hr, by omega⟩ h
  · omega
  · obtain rfl : M = 0 := by omega
    rcases RD_cases hr id with ⟨z, _⟩ | R
    · exact .inl ⟨z, .inl ⟨rfl, e⟩⟩
    · exact .inr ⟨R, by rw [Rat.pow_zero, ← one_val, e]; exact one_right.enc⟩
  · exact .inl ⟨h, .inr ⟨by omega, e⟩⟩
  · rcases RD_cases hr id with ⟨z, _⟩ | R
    · exact absurd z h
    · unfold pv at e
      rw [if_pos (by omega), Int.toNat_natCast] at e
      exact .inr ⟨R, e⟩
theorem Pn.unique {n d t : Int} {M : Nat} {r r' : R4} (h : Pn n d t M r) (h' : Pn n d t M r') : r = r' := by
  rcases h with ⟨z, h⟩ | ⟨R, h⟩
  · rcases h' with ⟨z', h'⟩ | ⟨R', h'⟩
    · rcases h with ⟨a, rfl⟩ | ⟨a, rfl⟩ <;> rcases h' with ⟨b, rfl⟩ | ⟨b, rfl⟩ <;> first | rfl | omega
    · exact absurd z R'.nz
  · rcases h' with ⟨z', h'⟩ | ⟨R', h'⟩
    · exact absurd z' R.nz
    · exact Enc.unique h h'
theorem Pn.err {n d t : Int} {M : Nat} {r : R4} (h : Pn n d t M r) : r.2.2.2 = 0 ∨ r.2.2.2 = 10 := by
  rcases h with ⟨_, ⟨_, rfl⟩ | ⟨_, rfl⟩⟩ | ⟨R, h⟩
  · exact Or.inl rfl
  · exact Or.inl rfl
  · rcases h.err with z | rfl
    · exact Or.inl z
    · exact Or.inr rfl
theorem Pn.pow {n d t x y z : Int} {I K : Nat} {r : R4} (h : Pn n d t I (x, y, z, 0)) (g : Pn x y z K r) : Pn n d t (I * K) r := by
  rcases h with ⟨z0, ⟨rfl, h⟩ | ⟨hI, h⟩⟩ | ⟨R, h⟩
  · simp only [Prod.mk.injEq] at h
    obtain ⟨rfl, rfl, rfl, _⟩ := h
    refine .inl ⟨z0, .inl ⟨by omega, ?_⟩⟩
    rcases g with ⟨q, _⟩ | ⟨_, q⟩
    · exact absurd q (by decide)
    · rw [one_val] at q
      have e1 : (1 : Rat) ^ K = val 1 1 0 := by rw [one_val, one_pow_]
      rw [e1] at q
      exact Enc.unique q one_right.enc
  · simp only [Prod.mk.injEq] at h
    obtain ⟨rfl, rfl, rfl, _⟩ := h
    rcases g with ⟨_, ⟨rfl, q⟩ | ⟨hK, q⟩⟩ | ⟨R, _⟩
    · exact .inl ⟨z0, .inl ⟨by omega, q⟩⟩
    · exact .inl ⟨z0, .inr ⟨Nat.mul_pos hI hK, q⟩⟩
    · exact absurd rfl R.nz
  · have RX := h.right
    rcases g with ⟨q, _⟩ | ⟨_, q⟩
    · exact absurd q RX.1.nz
    · rw [RX.2] at q
      refine .inr ⟨R, ?_⟩
      have e : val n d t ^ (I * K) = (val n d t ^ I) ^ K := by
        clear q h RX
        induction K with
        | zero => rw [Nat.mul_zero, Rat.pow_zero, Rat.pow_zero]
        | succ K ih => rw [Nat.mul_succ, pow_add_, ih, Rat.pow_succ]
      rw [e]
      exact q
theorem Pn.next {n d t x y z : Int} (hr : RD n d t = true) {i : Nat} (h : Pn n d t i (x, y, z, 0)) {r : R4} (m : MulS x y z n d t r) : Pn n d t (i + 1) r := by
  rcases h with ⟨z0, h⟩ | ⟨R, e⟩
  · have rx : RD x y z = true := by
      rcases h with ⟨_, h⟩ | ⟨_, h⟩ <;> (simp only [Prod.mk.injEq] at h; obtain ⟨rfl, rfl, rfl, _⟩ := h; decide)
    exact Or.inl ⟨z0, Or.inr ⟨by omega, m.unique (Or.inr (Or.inl ⟨rx, hr, Or.inr z0, rfl⟩))⟩⟩
  · have RX := e.right
    refine Or.inr ⟨R, ?_⟩
    rcases m with ⟨h, _⟩ | ⟨_, _, h, _⟩ | ⟨_, _, _, h⟩
    · exact absurd ⟨RX.1.rd, hr⟩ h
    · exact absurd h (fun c => c.elim RX.1.nz R.nz)
    · rw [RX.2] at h; rw [Rat.pow_succ]; exact h
theorem Pn.over {n d t : Int} {i K : Nat} {r r' : R4} (h : Pn n d t i r) (h' : Pn n d t K r') (hi : i ≤ K) (o : r.2.2.2 ≠ 0) : r'.2.2.2 ≠ 0 := by
  rcases h with ⟨_, ⟨_, rfl⟩ | ⟨_, rfl⟩⟩ | ⟨R, h⟩
  · exact absurd rfl o
  · exact absurd rfl o
  · rcases h' with ⟨z, _⟩ | ⟨_, h'⟩
    · exact absurd z R.nz
    · exact enc_pow_over hi h h' R rfl o
theorem Pn.start {n d t : Int} (h : RD n d t = true) (id : I64 d) : Pn n d t 0 (1, 1, 0, 0) := by
  rcases RD_cases h id with ⟨z, _⟩ | R
  · exact Or.inl ⟨z, Or.inl ⟨rfl, rfl⟩⟩
  · exact Or.inr ⟨R, by rw [Rat.pow_zero, ← one_val]; exact one_right.enc⟩
theorem times_bd {a : W11} {m p : Int} (h : bd m (ds a)) {n : Int} (hn : -p ≤ n ∧ n ≤ p) : bd (m * p) [a.2.2.2.1 * n, a.2.2.2.2.1 * n, a.2.2.2.2.2.1 * n, a.2.2.2.2.2.2.1 * n, a.2.2.2.2.2.2.2.1 * n, a.2.2.2.2.2.2.2.2.1 * n, a.2.2.2.2.2.2.2.2.2.1 * n] := bd_mul h hn
theorem ok_of {a : W11} {u v w M : Int} (hb : bd 99 [a.2.2.2.1 * M, a.2.2.2.2.1 * M, a.2.2.2.2.2.1 * M, a.2.2.2.2.2.2.1 * M, a.2.2.2.2.2.2.2.1 * M, a.2.2.2.2.2.2.2.2.1 * M, a.2.2.2.2.2.2.2.2.2.1 * M]) (hr : RD u v w = true) (i1 : I64 u) (i2 : I64 v) : Ok (u, v, w, a.2.2.2.1 * M, a.2.2.2.2.1 * M, a.2.2.2.2.2.1 * M, a.2.2.2.2.2.2.1 * M, a.2.2.2.2.2.2.2.1 * M, a.2.2.2.2.2.2.2.2.1 * M, a.2.2.2.2.2.2.2.2.2.1 * M, 0) := by
  refine ⟨?_, rfl, i1, i2⟩
  show (RD u v w && (allR [a.2.2.2.1 * M, a.2.2.2.2.1 * M, a.2.2.2.2.2.1 * M, a.2.2.2.2.2.2.1 * M, a.2.2.2.2.2.2.2.1 * M, a.2.2.2.2.2.2.2.2.1 * M, a.2.2.2.2.2.2.2.2.2.1 * M] && (decide ((0 : Int) ≤ 0) && decide ((0 : Int) ≤ 99)))) = true
  rw [hr, (bd_iff _).2 hb]
  rfl
theorem comb_val {r : R4} {d : D8} (hr : r.2.2.2 = 0) (hd : d.2.2.2.2.2.2.2 = true) : comb r d = (r.1, r.2.1, r.2.2.1, d.1, d.2.1, d.2.2.1, d.2.2.2.1, d.2.2.2.2.1, d.2.2.2.2.2.1, d.2.2.2.2.2.2.1, 0, 0) := by
  unfold comb
  rw [if_pos hr, if_pos hd]
theorem l0_end (f e10 : Int) (j K : Int) (x0 x1 x2 x3 x4 x5 x6 x7 x8 x9 x10 x11 x12 x13 x14 x15 x16 x17 x18 x19 x20 x21 x22 x23 x24 x25 x26 x27 x28 x29 x30 x31 x32 x33 x34 x35 x36 x37 x38 x39 x40 x41 x42 x43 : Int) (hf : f = 10) (k : Nat) : drachmlaw04_WorthPowers.l0 (k + 1) true K 0 f f 10 j x0 x1 x2 x3 x4 x5 x6 x7 x8 x9 x10 x11 x12 x13 x14 x15 x16 x17 x18 x19 x20 x21 x22 x23 x24 x25 x26 x27 x28 x29 x30 x31 x32 x33 x34 x35 x36 x37 x38 x39 x40 x41 x42 x43 = some true := by
  subst hf
  simp only [drachmlaw04_WorthPowers.l0]
  by_cases h : j < K
  · rw [if_pos h]; simp
  · rw [if_neg h]; simp
theorem loop_ev {a : W11} (hb : bd 9 (ds a)) {I : Nat} (hI : I ≤ 3) {n d t : Int} (hr : RD n d t = true) (i1 : I64 n) (i2 : I64 d) {K : Nat} (hK : K ≤ 3) {ry : R4} (hy : Pn n d t K ry) :
    ∀ (g j : Nat) (u v w : Int), j + g = K → RD u v w = true → I64 u → I64 v → Pn n d t j (u, v, w, 0) → Ev (fun k => drachmlaw04_WorthPowers.l0 k true (K : Int) 0 (comb ry (a.2.2.2.1 * ((I * K : Nat) : Int), a.2.2.2.2.1 * ((I * K : Nat) : Int), a.2.2.2.2.2.1 * ((I * K : Nat) : Int), a.2.2.2.2.2.2.1 * ((I * K : Nat) : Int), a.2.2.2.2.2.2.2.1 * ((I * K : Nat) : Int), a.2.2.2.2.2.2.2.2.1 * ((I * K : Nat) : Int), a.2.2.2.2.2.2.2.2.2.1 * ((I * K : Nat) : Int), true)).2.2.2.2.2.2.2.2.2.2.2 (comb ry (a.2.2.2.1 * ((I * K : Nat) : Int), a.2.2.2.2.1 * ((I * K : Nat) : Int), a.2.2.2.2.2.1 * ((I * K : Nat) : Int), a.2.2.2.2.2.2.1 * ((I * K : Nat) : Int), a.2.2.2.2.2.2.2.1 * ((I * K : Nat) : Int), a.2.2.2.2.2.2.2.2.1 * ((I * K : Nat) : Int), a.2.2.2.2.2.2.2.2.2.1 * ((I * K : Nat) : Int), true)).2.2.2.2.2.2.2.2.2.2.2 0 (j : Int) n d t (a.2.2.2.1 * (I : Int)) (a.2.2.2.2.1 * (I : Int)) (a.2.2.2.2.2.1 * (I : Int)) (a.2.2.2.2.2.2.1 * (I : Int)) (a.2.2.2.2.2.2.2.1 * (I : Int)) (a.2.2.2.2.2.2.2.2.1 * (I : Int)) (a.2.2.2.2.2.2.2.2.2.1 * (I : Int)) 0 (comb ry (a.2.2.2.1 * ((I * K : Nat) : Int), a.2.2.2.2.1 * ((I * K : Nat) : Int), a.2.2.2.2.2.1 * ((I * K : Nat) : Int), a.2.2.2.2.2.2.1 * ((I * K : Nat) : Int), a.2.2.2.2.2.2.2.1 * ((I * K : Nat) : Int), a.2.2.2.2.2.2.2.2.1 * ((I * K : Nat) : Int), a.2.2.2.2.2.2.2.2.2.1 * ((I * K : Nat) : Int), true)).1 (comb ry (a.2.2.2.1 * ((I * K : Nat) : Int), a.2.2.2.2.1 * ((I * K : Nat) : Int), a.2.2.2.2.2.1 * ((I * K : Nat) : Int), a.2.2.2.2.2.2.1 * ((I * K : Nat) : Int), a.2.2.2.2.2.2.2.1 * ((I * K : Nat) : Int), a.2.2.2.2.2.2.2.2.1 * ((I * K : Nat) : Int), a.2.2.2.2.2.2.2.2.2.1 * ((I * K : Nat) : Int), true)).2.1 (comb ry (a.2.2.2.1 * ((I * K : Nat) : Int), a.2.2.2.2.1 * ((I * K : Nat) : Int), a.2.2.2.2.2.1 * ((I * K : Nat) : Int), a.2.2.2.2.2.2.1 * ((I * K : Nat) : Int), a.2.2.2.2.2.2.2.1 * ((I * K : Nat) : Int), a.2.2.2.2.2.2.2.2.1 * ((I * K : Nat) : Int), a.2.2.2.2.2.2.2.2.2.1 * ((I * K : Nat) : Int), true)).2.2.1 (comb ry (a.2.2.2.1 * ((I * K : Nat) : Int), a.2.2.2.2.1 * ((I * K : Nat) : Int), a.2.2.2.2.2.1 * ((I * K : Nat) : Int), a.2.2.2.2.2.2.1 * ((I * K : Nat) : Int), a.2.2.2.2.2.2.2.1 * ((I * K : Nat) : Int), a.2.2.2.2.2.2.2.2.1 * ((I * K : Nat) : Int), a.2.2.2.2.2.2.2.2.2.1 * ((I * K : Nat) : Int), true)).2.2.2.1 (comb ry (a.2.2.2.1 * ((I * K : Nat) : Int), a.2.2.2.2.1 * ((I * K : Nat) : Int), a.2.2.2.2.2.1 * ((I * K : Nat) : Int), a.2.2.2.2.2.2.1 * ((I * K : Nat) : Int), a.2.2.2.2.2.2.2.1 * ((I * K : Nat) : Int), a.2.2.2.2.2.2.2.2.1 * ((I * K : Nat) : Int), a.2.2.2.2.2.2.2.2.2.1 * ((I * K : Nat) : Int), true)).2.2.2.2.1 (comb ry (a.2.2.2.1 * ((I * K : Nat) : Int), a.2.2.2.2.1 * ((I * K : Nat) : Int), a.2.2.2.2.2.1 * ((I * K : Nat) : Int), a.2.2.2.2.2.2.1 * ((I * K : Nat) : Int), a.2.2.2.2.2.2.2.1 * ((I * K : Nat) : Int), a.2.2.2.2.2.2.2.2.1 * ((I * K : Nat) : Int), a.2.2.2.2.2.2.2.2.2.1 * ((I * K : Nat) : Int), true)).2.2.2.2.2.1 (comb ry (a.2.2.2.1 * ((I * K : Nat) : Int), a.2.2.2.2.1 * ((I * K : Nat) : Int), a.2.2.2.2.2.1 * ((I * K : Nat) : Int), a.2.2.2.2.2.2.1 * ((I * K : Nat) : Int), a.2.2.2.2.2.2.2.1 * ((I * K : Nat) : Int), a.2.2.2.2.2.2.2.2.1 * ((I * K : Nat) : Int), a.2.2.2.2.2.2.2.2.2.1 * ((I * K : Nat) : Int), true)).2.2.2.2.2.2.1 (comb ry (a.2.2.2.1 * ((I * K : Nat) : Int), a.2.2.2.2.1 * ((I * K : Nat) : Int), a.2.2.2.2.2.1 * ((I * K : Nat) : Int), a.2.2.2.2.2.2.1 * ((I * K : Nat) : Int), a.2.2.2.2.2.2.2.1 * ((I * K : Nat) : Int), a.2.2.2.2.2.2.2.2.1 * ((I * K : Nat) : Int), a.2.2.2.2.2.2.2.2.2.1 * ((I * K : Nat) : Int), true)).2.2.2.2.2.2.2.1 (comb ry (a.2.2.2.1 * ((I * K : Nat) : Int), a.2.2.2.2.1 * ((I * K : Nat) : Int), a.2.2.2.2.2.1 * ((I * K : Nat) : Int), a.2.2.2.2.2.2.1 * ((I * K : Nat) : Int), a.2.2.2.2.2.2.2.1 * ((I * K : Nat) : Int), a.2.2.2.2.2.2.2.2.1 * ((I * K : Nat) : Int), a.2.2.2.2.2.2.2.2.2.1 * ((I * K : Nat) : Int), true)).2.2.2.2.2.2.2.2.1 (comb ry (a.2.2.2.1 * ((I * K : Nat) : Int), a.2.2.2.2.1 * ((I * K : Nat) : Int), a.2.2.2.2.2.1 * ((I * K : Nat) : Int), a.2.2.2.2.2.2.1 * ((I * K : Nat) : Int), a.2.2.2.2.2.2.2.1 * ((I * K : Nat) : Int), a.2.2.2.2.2.2.2.2.1 * ((I * K : Nat) : Int), a.2.2.2.2.2.2.2.2.2.1 * ((I * K : Nat) : Int), true)).2.2.2.2.2.2.2.2.2.1 (comb ry (a.2.2.2.1 * ((I * K : Nat) : Int), a.2.2.2.2.1 * ((I * K : Nat) : Int), a.2.2.2.2.2.1 * ((I * K : Nat) : Int), a.2.2.2.2.2.2.1 * ((I * K : Nat) : Int), a.2.2.2.2.2.2.2.1 * ((I * K : Nat) : Int), a.2.2.2.2.2.2.2.2.1 * ((I * K : Nat) : Int), a.2.2.2.2.2.2.2.2.2.1 * ((I * K : Nat) : Int), true)).2.2.2.2.2.2.2.2.2.2.1 (comb ry (a.2.2.2.1 * ((I * K : Nat) : Int), a.2.2.2.2.1 * ((I * K : Nat) : Int), a.2.2.2.2.2.1 * ((I * K : Nat) : Int), a.2.2.2.2.2.2.1 * ((I * K : Nat) : Int), a.2.2.2.2.2.2.2.1 * ((I * K : Nat) : Int), a.2.2.2.2.2.2.2.2.1 * ((I * K : Nat) : Int), a.2.2.2.2.2.2.2.2.2.1 * ((I * K : Nat) : Int), true)).1 (comb ry (a.2.2.2.1 * ((I * K : Nat) : Int), a.2.2.2.2.1 * ((I * K : Nat) : Int), a.2.2.2.2.2.1 * ((I * K : Nat) : Int), a.2.2.2.2.2.2.1 * ((I * K : Nat) : Int), a.2.2.2.2.2.2.2.1 * ((I * K : Nat) : Int), a.2.2.2.2.2.2.2.2.1 * ((I * K : Nat) : Int), a.2.2.2.2.2.2.2.2.2.1 * ((I * K : Nat) : Int), true)).2.1 (comb ry (a.2.2.2.1 * ((I * K : Nat) : Int), a.2.2.2.2.1 * ((I * K : Nat) : Int), a.2.2.2.2.2.1 * ((I * K : Nat) : Int), a.2.2.2.2.2.2.1 * ((I * K : Nat) : Int), a.2.2.2.2.2.2.2.1 * ((I * K : Nat) : Int), a.2.2.2.2.2.2.2.2.1 * ((I * K : Nat) : Int), a.2.2.2.2.2.2.2.2.2.1 * ((I * K : Nat) : Int), true)).2.2.1 (comb ry (a.2.2.2.1 * ((I * K : Nat) : Int), a.2.2.2.2.1 * ((I * K : Nat) : Int), a.2.2.2.2.2.1 * ((I * K : Nat) : Int), a.2.2.2.2.2.2.1 * ((I * K : Nat) : Int), a.2.2.2.2.2.2.2.1 * ((I * K : Nat) : Int), a.2.2.2.2.2.2.2.2.1 * ((I * K : Nat) : Int), a.2.2.2.2.2.2.2.2.2.1 * ((I * K : Nat) : Int), true)).2.2.2.1 (comb ry (a.2.2.2.1 * ((I * K : Nat) : Int), a.2.2.2.2.1 * ((I * K : Nat) : Int), a.2.2.2.2.2.1 * ((I * K : Nat) : Int), a.2.2.2.2.2.2.1 * ((I * K : Nat) : Int), a.2.2.2.2.2.2.2.1 * ((I * K : Nat) : Int), a.2.2.2.2.2.2.2.2.1 * ((I * K : Nat) : Int), a.2.2.2.2.2.2.2.2.2.1 * ((I * K : Nat) : Int), true)).2.2.2.2.1 (comb ry (a.2.2.2.1 * ((I * K : Nat) : Int), a.2.2.2.2.1 * ((I * K : Nat) : Int), a.2.2.2.2.2.1 * ((I * K : Nat) : Int), a.2.2.2.2.2.2.1 * ((I * K : Nat) : Int), a.2.2.2.2.2.2.2.1 * ((I * K : Nat) : Int), a.2.2.2.2.2.2.2.2.1 * ((I * K : Nat) : Int), a.2.2.2.2.2.2.2.2.2.1 * ((I * K : Nat) : Int), true)).2.2.2.2.2.1 (comb ry (a.2.2.2.1 * ((I * K : Nat) : Int), a.2.2.2.2.1 * ((I * K : Nat) : Int), a.2.2.2.2.2.1 * ((I * K : Nat) : Int), a.2.2.2.2.2.2.1 * ((I * K : Nat) : Int), a.2.2.2.2.2.2.2.1 * ((I * K : Nat) : Int), a.2.2.2.2.2.2.2.2.1 * ((I * K : Nat) : Int), a.2.2.2.2.2.2.2.2.2.1 * ((I * K : Nat) : Int), true)).2.2.2.2.2.2.1 (comb ry (a.2.2.2.1 * ((I * K : Nat) : Int), a.2.2.2.2.1 * ((I * K : Nat) : Int), a.2.2.2.2.2.1 * ((I * K : Nat) : Int), a.2.2.2.2.2.2.1 * ((I * K : Nat) : Int), a.2.2.2.2.2.2.2.1 * ((I * K : Nat) : Int), a.2.2.2.2.2.2.2.2.1 * ((I * K : Nat) : Int), a.2.2.2.2.2.2.2.2.2.1 * ((I * K : Nat) : Int), true)).2.2.2.2.2.2.2.1 (comb ry (a.2.2.2.1 * ((I * K : Nat) : Int), a.2.2.2.2.1 * ((I * K : Nat) : Int), a.2.2.2.2.2.1 * ((I * K : Nat) : Int), a.2.2.2.2.2.2.1 * ((I * K : Nat) : Int), a.2.2.2.2.2.2.2.1 * ((I * K : Nat) : Int), a.2.2.2.2.2.2.2.2.1 * ((I * K : Nat) : Int), a.2.2.2.2.2.2.2.2.2.1 * ((I * K : Nat) : Int), true)).2.2.2.2.2.2.2.2.1 (comb ry (a.2.2.2.1 * ((I * K : Nat) : Int), a.2.2.2.2.1 * ((I * K : Nat) : Int), a.2.2.2.2.2.1 * ((I * K : Nat) : Int), a.2.2.2.2.2.2.1 * ((I * K : Nat) : Int), a.2.2.2.2.2.2.2.1 * ((I * K : Nat) : Int), a.2.2.2.2.2.2.2.2.1 * ((I * K : Nat) : Int), a.2.2.2.2.2.2.2.2.2.1 * ((I * K : Nat) : Int), true)).2.2.2.2.2.2.2.2.2.1 (comb ry (a.2.2.2.1 * ((I * K : Nat) : Int), a.2.2.2.2.1 * ((I * K : Nat) : Int), a.2.2.2.2.2.1 * ((I * K : Nat) : Int), a.2.2.2.2.2.2.1 * ((I * K : Nat) : Int), a.2.2.2.2.2.2.2.1 * ((I * K : Nat) : Int), a.2.2.2.2.2.2.2.2.1 * ((I * K : Nat) : Int), a.2.2.2.2.2.2.2.2.2.1 * ((I * K : Nat) : Int), true)).2.2.2.2.2.2.2.2.2.2.1 u v w (a.2.2.2.1 * ((I * j : Nat) : Int)) (a.2.2.2.2.1 * ((I * j : Nat) : Int)) (a.2.2.2.2.2.1 * ((I * j : Nat) : Int)) (a.2.2.2.2.2.2.1 * ((I * j : Nat) : Int)) (a.2.2.2.2.2.2.2.1 * ((I * j : Nat) : Int)) (a.2.2.2.2.2.2.2.2.1 * ((I * j : Nat) : Int)) (a.2.2.2.2.2.2.2.2.2.1 * ((I * j : Nat) : Int)) 0) true := by
  have hIK : ∀ j, j ≤ 3 → ((I * j : Nat) : Int) ≤ 9 := fun j hj => by
    have : I * j ≤ 3 * 3 := Nat.mul_le_mul hI hj
    omega
  intro g
  induction g with
  | zero =>
    intro j u v w hj hru iu iv hp
    obtain rfl : j = K := by omega
    obtain rfl : ry = (u, v, w, 0) := hy.unique hp
    refine Ev.step (f := fun _ => some true) (fun k => ?_) (Ev.now _)
    simp only [drachmlaw04_WorthPowers.l0]
    rw [if_neg (by omega)]
    simp [comb]
  | succ g ih =>
    intro j u v w hj hru iu iv hp
    have b1 := times_bd hb (show -(9 : Int) ≤ ((I * j : Nat) : Int) ∧ ((I * j : Nat) : Int) ≤ 9 from ⟨by omega, hIK j (by omega)⟩)
    have b2 := times_bd hb (show -(3 : Int) ≤ (I : Int) ∧ (I : Int) ≤ 3 by omega)
    have okP : Ok (u, v, w, a.2.2.2.1 * ((I * j : Nat) : Int), a.2.2.2.2.1 * ((I * j : Nat) : Int), a.2.2.2.2.2.1 * ((I * j : Nat) : Int), a.2.2.2.2.2.2.1 * ((I * j : Nat) : Int), a.2.2.2.2.2.2.2.1 * ((I * j : Nat) : Int), a.2.2.2.2.2.2.2.2.1 * ((I * j : Nat) : Int), a.2.2.2.2.2.2.2.2.2.1 * ((I * j : Nat) : Int), 0) := ok_of (bd_mono b1 (by decide)) hru iu iv
    have okX : Ok (n, d, t, a.2.2.2.1 * (I : Int), a.2.2.2.2.1 * (I : Int), a.2.2.2.2.2.1 * (I : Int), a.2.2.2.2.2.2.1 * (I : Int), a.2.2.2.2.2.2.2.1 * (I : Int), a.2.2.2.2.2.2.2.2.1 * (I : Int), a.2.2.2.2.2.2.2.2.2.1 * (I : Int), 0) := ok_of (bd_mono b2 (by decide)) hr i1 i2
    obtain ⟨r, m, e⟩ := mul_ok okP okX
    have hd : addD (u, v, w, a.2.2.2.1 * ((I * j : Nat) : Int), a.2.2.2.2.1 * ((I * j : Nat) : Int), a.2.2.2.2.2.1 * ((I * j : Nat) : Int), a.2.2.2.2.2.2.1 * ((I * j : Nat) : Int), a.2.2.2.2.2.2.2.1 * ((I * j : Nat) : Int), a.2.2.2.2.2.2.2.2.1 * ((I * j : Nat) : Int), a.2.2.2.2.2.2.2.2.2.1 * ((I * j : Nat) : Int), 0) (n, d, t, a.2.2.2.1 * (I : Int), a.2.2.2.2.1 * (I : Int), a.2.2.2.2.2.1 * (I : Int), a.2.2.2.2.2.2.1 * (I : Int), a.2.2.2.2.2.2.2.1 * (I : Int), a.2.2.2.2.2.2.2.2.1 * (I : Int), a.2.2.2.2.2.2.2.2.2.1 * (I : Int), 0) = (a.2.2.2.1 * ((I * (j + 1) : Nat) : Int), a.2.2.2.2.1 * ((I * (j + 1) : Nat) : Int), a.2.2.2.2.2.1 * ((I * (j + 1) : Nat) : Int), a.2.2.2.2.2.2.1 * ((I * (j + 1) : Nat) : Int), a.2.2.2.2.2.2.2.1 * ((I * (j + 1) : Nat) : Int), a.2.2.2.2.2.2.2.2.1 * ((I * (j + 1) : Nat) : Int), a.2.2.2.2.2.2.2.2.2.1 * ((I * (j + 1) : Nat) : Int), true) := by
      have b3 := times_bd hb (show -(9 : Int) ≤ ((I * (j + 1) : Nat) : Int) ∧ ((I * (j + 1) : Nat) : Int) ≤ 9 from ⟨by omega, hIK (j + 1) (by omega)⟩)
      have e1 : ∀ q : Int, q * ((I * j : Nat) : Int) + q * (I : Int) = q * ((I * (j + 1) : Nat) : Int) := fun q => by rw [← Int.mul_add, Nat.mul_succ, Int.natCast_add]
      unfold addD
      rw [add_val (bd_mono b1 (by decide)) (bd_mono b2 (by decide))]
      simp only [e1]
      rw [eachP_ok _ _ _ _ _ _ _ (bd_mono b3 (by decide))]
      rfl
    rw [hd] at e
    have o := m.out
    have hp' := hp.next hr m
    refine Ev.step (fun k => Eq.trans (b := if (j : Int) < (K : Int) then _ else _) rfl ((if_pos (by omega)).trans (if_pos rfl))) (e.bind ?_)
    by_cases z : r.2.2.2 = 0
    · rw [comb_val z rfl]
      have h := ih (j + 1) r.1 r.2.1 r.2.2.1 (by omega) (by rw [o.rd, z]; rfl) o.i1 o.i2 (by rw [show r = (r.1, r.2.1, r.2.2.1, 0) from by rw [← z]] at hp'; exact hp')
      have hw : wrap64 ((j : Int) + 1) = ((j + 1 : Nat) : Int) := by rw [wrap_in (by omega) (by omega)]; rfl
      rw [hw]
      exact h
    · have hz : r.2.2.2 = 10 := hp'.err.resolve_left z
      have hc : comb r (a.2.2.2.1 * ((I * (j + 1) : Nat) : Int), a.2.2.2.2.1 * ((I * (j + 1) : Nat) : Int), a.2.2.2.2.2.1 * ((I * (j + 1) : Nat) : Int), a.2.2.2.2.2.2.1 * ((I * (j + 1) : Nat) : Int), a.2.2.2.2.2.2.2.1 * ((I * (j + 1) : Nat) : Int), a.2.2.2.2.2.2.2.2.1 * ((I * (j + 1) : Nat) : Int), a.2.2.2.2.2.2.2.2.2.1 * ((I * (j + 1) : Nat) : Int), true) = noW 10 := comb_err (fun q => z q.1) (.inr hz)
      rw [hc]
      have hy0 : ry.2.2.2 ≠ 0 := hp'.over hy (by omega) z
      have hcy : (comb ry (a.2.2.2.1 * ((I * K : Nat) : Int), a.2.2.2.2.1 * ((I * K : Nat) : Int), a.2.2.2.2.2.1 * ((I * K : Nat) : Int), a.2.2.2.2.2.2.1 * ((I * K : Nat) : Int), a.2.2.2.2.2.2.2.1 * ((I * K : Nat) : Int), a.2.2.2.2.2.2.2.2.1 * ((I * K : Nat) : Int), a.2.2.2.2.2.2.2.2.2.1 * ((I * K : Nat) : Int), true)) = noW 10 := comb_err (fun q => hy0 q.1) hy.err
      exact Ev.step (f := fun _ => some true) (fun k => l0_end _ 0 _ _ _ _ _ _ _ _ _ _ _ _ _ _ _ _ _ _ _ _ _ _ _ _ _ _ _ _ _ _ _ _ _ _ _ _ _ _ _ _ _ _ _ _ _ _ (by rw [hcy]; rfl) k) (Ev.now _)
theorem four (n : Int) : ∃ I : Nat, I ≤ 3 ∧ Int.tmod (wrap64 ((Int.tmod n 4) + 4)) 4 = (I : Int) := by
  have h1 := Int.tmod_lt_of_pos n (show (0 : Int) < 4 by decide)
  have h2 := Int.lt_tmod_of_pos n (show (0 : Int) < 4 by decide)
  have hw : wrap64 (Int.tmod n 4 + 4) = Int.tmod n 4 + 4 := wrap_in (by omega) (by omega)
  have h3 := Int.tmod_nonneg 4 (show 0 ≤ Int.tmod n 4 + 4 by omega)
  have h4 := Int.tmod_lt_of_pos (Int.tmod n 4 + 4) (show (0 : Int) < 4 by decide)
  rw [hw]
  exact ⟨(Int.tmod (Int.tmod n 4 + 4) 4).toNat, by omega, by omega⟩
theorem make_one {r : R4} (s : MakeS 1 1 0 r) : r = (1, 1, 0, 0) := by
  have e : Ev (fun k => frac_Make.f k 1 1 0) (1, 1, 0, 0) := Ev.of (k := 60) (fun k => frac_Make.mono _ _ _ k) (by decide +kernel)
  obtain ⟨r', e', s'⟩ := FMake_ev (num := 1) (den := 1) (ten := 0) (by unfold I64; omega) (by unfold I64; omega)
  obtain rfl := s.unique s'
  obtain ⟨K, hK⟩ := e
  obtain ⟨K', hK'⟩ := e'
  have h1 := hK (K + K') (by omega)
  have h2 := hK' (K + K') (by omega)
  rw [h1] at h2
  exact (Option.some.inj h2).symm
theorem timD_val {a : W11} (h : bd 99 (ds a)) {n : Int} (hn : -99 ≤ n ∧ n ≤ 99) (hb : bd 99 [a.2.2.2.1 * n, a.2.2.2.2.1 * n, a.2.2.2.2.2.1 * n, a.2.2.2.2.2.2.1 * n, a.2.2.2.2.2.2.2.1 * n, a.2.2.2.2.2.2.2.2.1 * n, a.2.2.2.2.2.2.2.2.2.1 * n]) : timD a n = (a.2.2.2.1 * n, a.2.2.2.2.1 * n, a.2.2.2.2.2.1 * n, a.2.2.2.2.2.2.1 * n, a.2.2.2.2.2.2.2.1 * n, a.2.2.2.2.2.2.2.2.1 * n, a.2.2.2.2.2.2.2.2.2.1 * n, true) := by
  unfold timD
  rw [times_val h hn, eachP_ok _ _ _ _ _ _ _ hb]
  rfl
theorem WorthPowers : drachmlaw04_WorthPowers.Pure := by
  intro a0 a1 a2 a3 a4 a5 a6 a7 a8 a9 a10 n1 n2 h0 h1 h2 h3 h4 h5 h6 h7 h8 h9 h10 h11 h12
  obtain ⟨a, p1, s1, z1⟩ := Spec_ev a0 a1 a2 a3 a4 a5 a6 a7 a8 a9 0 (i64_of h0) (i64_of h1)
  have ka := s1.ok (z1 rfl)
  obtain ⟨I, hI, eI⟩ := four n1
  obtain ⟨K, hK, eK⟩ := four n2
  obtain ⟨rx, px, e1⟩ := pow_ok ka (I : Int) (by omega)
  have qx := Pn.of s1.rd s1.o.2 (by omega) px
  have b1 := times_bd s1.b (show -(3 : Int) ≤ (I : Int) ∧ (I : Int) ≤ 3 by omega)
  rw [timD_val (bd_mono s1.b (by decide)) (by omega) (bd_mono b1 (by decide))] at e1
  have hIK : I * K ≤ 3 * 3 := Nat.mul_le_mul hI hK
  have hwIK : wrap64 ((I : Int) * (K : Int)) = ((I * K : Nat) : Int) := by rw [← Int.natCast_mul]; exact wrap_in (by omega) (by omega)
  obtain ⟨rz, pz, e3⟩ := pow_ok ka ((I * K : Nat) : Int) (by omega)
  have b3 := times_bd s1.b (show -(9 : Int) ≤ ((I * K : Nat) : Int) ∧ ((I * K : Nat) : Int) ≤ 9 by omega)
  rw [timD_val (bd_mono s1.b (by decide)) (by omega) (bd_mono b3 (by decide))] at e3
  have qz := Pn.of s1.rd s1.o.2 (by omega) pz
  obtain ⟨o, so, e5⟩ := WOf_ev 1 (by unfold I64; omega)
  obtain rfl := make_one so
  rw [comb_val rfl rfl] at e5
  refine Ev.rounds ?_
  unfold drachmlaw04_WorthPowers.f
  rw [eI, eK, hwIK]
  refine awake_ev.bind (p1.bind (e1.bind ?_))
  by_cases z : rx.2.2.2 = 0
  · have out := (show Pn a.1 a.2.1 a.2.2.1 I rx from qx)
    have gx : rx = (rx.1, rx.2.1, rx.2.2.1, 0) := by rw [← z]
    obtain ⟨n, d, t, er⟩ := rx
    simp only at z
    subst z
    have op := px.out
    have hr : RD n d t = true := by have := op.rd; exact this
    rw [comb_val rfl rfl]
    have okX : Ok (n, d, t, a.2.2.2.1 * (I : Int), a.2.2.2.2.1 * (I : Int), a.2.2.2.2.2.1 * (I : Int), a.2.2.2.2.2.2.1 * (I : Int), a.2.2.2.2.2.2.2.1 * (I : Int), a.2.2.2.2.2.2.2.2.1 * (I : Int), a.2.2.2.2.2.2.2.2.2.1 * (I : Int), 0) := ok_of (bd_mono b1 (by decide)) hr op.i1 op.i2
    obtain ⟨ry, py, e2⟩ := pow_ok okX (K : Int) (by omega)
    have qy := Pn.of hr op.i2 (by omega) py
    have hd : timD (n, d, t, a.2.2.2.1 * (I : Int), a.2.2.2.2.1 * (I : Int), a.2.2.2.2.2.1 * (I : Int), a.2.2.2.2.2.2.1 * (I : Int), a.2.2.2.2.2.2.2.1 * (I : Int), a.2.2.2.2.2.2.2.2.1 * (I : Int), a.2.2.2.2.2.2.2.2.2.1 * (I : Int), 0) (K : Int) = (a.2.2.2.1 * ((I * K : Nat) : Int), a.2.2.2.2.1 * ((I * K : Nat) : Int), a.2.2.2.2.2.1 * ((I * K : Nat) : Int), a.2.2.2.2.2.2.1 * ((I * K : Nat) : Int), a.2.2.2.2.2.2.2.1 * ((I * K : Nat) : Int), a.2.2.2.2.2.2.2.2.1 * ((I * K : Nat) : Int), a.2.2.2.2.2.2.2.2.2.1 * ((I * K : Nat) : Int), true) := by
      have e1 : ∀ q : Int, q * (I : Int) * (K : Int) = q * ((I * K : Nat) : Int) := fun q => by rw [Int.mul_assoc, ← Int.natCast_mul]
      unfold timD
      rw [times_val (bd_mono b1 (by decide)) (by omega)]
      simp only [e1]
      rw [eachP_ok _ _ _ _ _ _ _ (bd_mono b3 (by decide))]
      rfl
    rw [hd] at e2
    obtain rfl : ry = rz := (qx.pow qy).unique qz
    refine e2.bind (e3.bind (e5.bind ?_))
    have h := loop_ev s1.b hI hr op.i1 op.i2 hK qy K 0 1 1 0 (by omega) (by decide) (by unfold I64; omega) (by unfold I64; omega) (Pn.start hr op.i2)
    simp only [Nat.mul_zero, Int.natCast_zero, Int.mul_zero] at h
    exact h
  · have hc : comb rx (a.2.2.2.1 * (I : Int), a.2.2.2.2.1 * (I : Int), a.2.2.2.2.2.1 * (I : Int), a.2.2.2.2.2.2.1 * (I : Int), a.2.2.2.2.2.2.2.1 * (I : Int), a.2.2.2.2.2.2.2.2.1 * (I : Int), a.2.2.2.2.2.2.2.2.2.1 * (I : Int), true) = noW 10 := comb_err (fun q => z q.1) qx.err
    rw [hc]
    obtain ⟨ry, _, e2⟩ := WPow_ev (0, 0, 0, 0, 0, 0, 0, 0, 0, 0, 0) (K : Int) ⟨by show I64 0; unfold I64; omega, by show I64 0; unfold I64; omega⟩
    refine e2.bind (e3.bind (e5.bind ?_))
    obtain ⟨rm, _, e6⟩ := WMul_ev (1, 1, 0, 0, 0, 0, 0, 0, 0, 0, 0) (0, 0, 0, 0, 0, 0, 0, 0, 0, 0, 0) ⟨by show I64 1; unfold I64; omega, by show I64 1; unfold I64; omega⟩ ⟨by show I64 0; unfold I64; omega, by show I64 0; unfold I64; omega⟩
    rw [show mayW (1, 1, 0, 0, 0, 0, 0, 0, 0, 0, 0) (0, 0, 0, 0, 0, 0, 0, 0, 0, 0, 0) (comb rm _) = noW 1 from (if_pos (by decide)).trans (if_neg (by decide))] at e6
    by_cases hK0 : (0 : Int) < (K : Int)
    · refine Ev.step (fun k => Eq.trans (b := if (0 : Int) < (K : Int) then _ else _) rfl ((if_pos hK0).trans (if_pos rfl))) (e6.bind ?_)
      refine Ev.step (f := fun _ => some true) (fun k => ?_) (Ev.now _)
      refine Eq.trans (b := if wrap64 (0 + 1) < (K : Int) then _ else _) rfl ?_
      by_cases hK1 : wrap64 (0 + 1) < (K : Int)
      · exact (if_pos hK1).trans rfl
      · exact (if_neg hK1).trans rfl
    · exact Ev.step (f := fun _ => some true) (fun k => Eq.trans (b := if (0 : Int) < (K : Int) then _ else _) rfl ((if_neg hK0).trans rfl)) (Ev.now _)
end Go.Proofs.YthfibffgmoblaaaDoor.Pure
