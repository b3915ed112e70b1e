/- Laws of what is made: an error or a right frac; with the other sign; one. Conditions stand in each theorem. -/
import Derived.Test.YthfibffgmoblaaaDoorFr7
import Derived.OpenShut
import Derived.Test.YthfibffgmoblaaaDoorFr5b
namespace Go.Proofs.YthfibffgmoblaaaDoor.Fr
open Go.RowKit Go.Proofs.YthfibffgmoblaaaDoor.Wh Go.Proofs.YthfibffgmoblaaaDoor.PB Go.Proofs.YthfibffgmoblaaaDoor.PC Go.Proofs.YthfibffgmoblaaaDoor.PD Go.Proofs.YthfibffgmoblaaaDoorW.PrintWords Go.Proofs.YthfibffgmoblaaaDoorW.PrintLast Go.Proofs.YthfibffgmoblaaaDoorW.PrintMore
set_option linter.unusedVariables false
theorem i64_of {x : Int} (h : (Lit.int .i64 x).wf = true) : I64 x := by
  have := bounds_i64 h
  unfold I64
  omega
theorem RightP.rd {n d t : Int} (h : RightP n d t) : RD n d t = true := (RD_right h.nz h.fd.i64).2 h
theorem RD_cases {n d t : Int} (h : RD n d t = true) (id : I64 d) : (n = 0 ∧ d = 1 ∧ t = 0) ∨ RightP n d t := by
  by_cases z : n = 0
  · exact Or.inl ⟨z, zero_right h z⟩
  · exact Or.inr ((RD_right z id).1 h)
/-- an outcome: a right frac, or zeros and an error -/
structure Out (r : R4) : Prop where
  rd : RD r.1 r.2.1 r.2.2.1 = (r.2.2.2 == 0)
  i1 : I64 r.1
  i2 : I64 r.2.1
  it : -1000 ≤ r.2.2.1 ∧ r.2.2.1 ≤ 1000
  er : r.2.2.2 = 0 ∨ (r.1 = 0 ∧ r.2.1 = 0 ∧ r.2.2.1 = 0)
theorem out_err (e : Int) (h : e ≠ 0) : Out (0, 0, 0, e) := ⟨by simp [RD, h], by unfold I64; simp, by unfold I64; simp, by simp, Or.inr ⟨rfl, rfl, rfl⟩⟩
theorem out_zero : Out (0, 1, 0, 0) := ⟨by decide, by unfold I64; simp, by unfold I64; simp, by simp, Or.inl rfl⟩
theorem out_one : Out (1, 1, 0, 0) := ⟨by decide, by unfold I64; simp, by unfold I64; simp, by simp, Or.inl rfl⟩
theorem Enc.out {v : Rat} {r : R4} (h : Enc v r) : Out r := by
  rcases h.err with e | rfl
  · obtain ⟨n, d, t, er⟩ := r
    simp only at e
    subst e
    have R := h.right.1
    exact ⟨by rw [R.rd]; rfl, R.fn.i64, R.fd.i64, ⟨R.lo, R.hi⟩, Or.inl rfl⟩
  · exact out_err 10 (by decide)
theorem MakeS.out {num den ten : Int} {r : R4} (h : MakeS num den ten r) : Out r := by
  rcases h with ⟨_, rfl⟩ | ⟨_, _, _, rfl⟩ | ⟨_, _, _, _, rfl⟩ | ⟨_, _, _, _, h⟩
  · exact out_err 1 (by decide)
  · exact out_err 11 (by decide)
  · exact out_zero
  · exact h.out
theorem MulS.out {n d t n' d' t' : Int} {r : R4} (h : MulS n d t n' d' t' r) : Out r := by
  rcases h with ⟨_, rfl⟩ | ⟨_, _, _, rfl⟩ | ⟨_, _, _, h⟩
  · exact out_err 1 (by decide)
  · exact out_zero
  · exact h.out
theorem MulS.comm {n d t n' d' t' : Int} {r : R4} (h : MulS n d t n' d' t' r) : MulS n' d' t' n d t r := by
  rcases h with ⟨a, rfl⟩ | ⟨a, b, c, rfl⟩ | ⟨a, b, c, h⟩
  · exact Or.inl ⟨fun h => a ⟨h.2, h.1⟩, rfl⟩
  · exact Or.inr (Or.inl ⟨b, a, c.symm, rfl⟩)
  · exact Or.inr (Or.inr ⟨b, a, fun z => c z.symm, by rw [Rat.mul_comm]; exact h⟩)
theorem nm_neg (u s t : Int) : nm (-u) s t = -nm u s t := by unfold nm; rw [Int.neg_mul, Int.neg_mul]
theorem Enc.neg {v : Rat} {r : R4} (h : Enc v r) : Enc (-v) (-r.1, r.2.1, r.2.2.1, r.2.2.2) := by
  obtain ⟨u, d, s, t, nf, e, rfl⟩ := h
  refine ⟨-u, d, s, t, ⟨nf.hu.neg, nf.hd, nf.pos, by rw [Int.natAbs_neg]; exact nf.co⟩, ?_, ?_⟩
  · rw [← e]; unfold ev; rw [Rat.intCast_neg, Rat.div_def, Rat.div_def]; grind
  · unfold enc
    rw [nm_neg]
    have : Fit (-nm u s t) ↔ Fit (nm u s t) := by unfold Fit; omega
    by_cases c : Fit (nm u s t) ∧ Fit d ∧ -1000 ≤ lw s t ∧ lw s t ≤ 1000
    · rw [if_pos c, if_pos ⟨this.2 c.1, c.2⟩]
    · rw [if_neg c, if_neg (fun z => c ⟨this.1 z.1, z.2⟩)]; rfl
theorem one_right : RightP 1 1 0 := ⟨by decide, by decide, by decide, by decide, by decide, by decide, by decide, by decide, by decide, by decide⟩
theorem one_val : val 1 1 0 = 1 := by unfold val; rw [Rat.zpow_zero, Rat.intCast_one]; grind
theorem inv_pow (v : Rat) (n : Nat) : (v ^ n)⁻¹ = (v⁻¹) ^ n := by
  induction n with
  | zero => rw [Rat.pow_zero, Rat.pow_zero]; grind
  | succ n ih => rw [Rat.pow_succ, Rat.pow_succ, Rat.inv_mul_rev, ih, Rat.mul_comm]
theorem eq3 (a b c : Int) : (a == a && (b == b && (c == c))) = true := by simp
theorem ne3 (a b c : Int) : (!(a == a) || (!(b == b) || (!(c == c)))) = false := by simp
/-- a power that is too great: so are all behind it -/
theorem enc_pow_over {v : Rat} {i j : Nat} (h : i ≤ j) {r r' : R4} (e : Enc (v ^ i) r) (e' : Enc (v ^ j) r') {n d t : Int} (hv : RightP n d t) (hval : val n d t = v) (o : r.2.2.2 ≠ 0) : r'.2.2.2 ≠ 0 := by
  obtain ⟨u, s, t', nf, ev1, _⟩ := hv.form
  have p1 := nf_pow nf i
  have p2 := nf_pow nf j
  rw [ev1, hval] at p1 p2
  have q1 : r = enc (u ^ i) (d ^ i) (s * i) (t' * i) := Enc.unique e ⟨_, _, _, _, p1.1, p1.2, rfl⟩
  have q2 : r' = enc (u ^ j) (d ^ j) (s * j) (t' * j) := Enc.unique e' ⟨_, _, _, _, p2.1, p2.2, rfl⟩
  intro z
  rw [q2] at z
  have := enc_pow_le nf.hu.ne nf.pos h z
  rw [← q1] at this
  exact o this
end Go.Proofs.YthfibffgmoblaaaDoor.Fr
namespace Go.Proofs.YthfibffgmoblaaaDoor.Fr
open Go.RowKit Go.Proofs.YthfibffgmoblaaaDoor.Wh Go.Proofs.YthfibffgmoblaaaDoor.PB Go.Proofs.YthfibffgmoblaaaDoor.PC Go.Proofs.YthfibffgmoblaaaDoor.PD Go.Proofs.YthfibffgmoblaaaDoorW.PrintWords Go.Proofs.YthfibffgmoblaaaDoorW.PrintLast Go.Proofs.YthfibffgmoblaaaDoorW.PrintMore
set_option linter.unusedVariables false
theorem DivS.out {n d t n' d' t' : Int} {r : R4} (h : DivS n d t n' d' t' r) : Out r := by
  rcases h with ⟨_, rfl⟩ | ⟨_, _, _, rfl⟩ | ⟨_, _, _, _, rfl⟩ | ⟨_, _, _, _, h⟩
  · exact out_err 1 (by decide)
  · exact out_err 11 (by decide)
  · exact out_zero
  · exact h.out
end Go.Proofs.YthfibffgmoblaaaDoor.Fr
