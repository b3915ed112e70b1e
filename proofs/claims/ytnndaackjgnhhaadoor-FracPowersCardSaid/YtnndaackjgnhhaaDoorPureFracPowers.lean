/- FracPowers' plain law: for any number and power the law's function answers true. Its conditions: none beyond the sizes that every row has. -/
import Derived.Test.YtnndaackjgnhhaaDoorPFracPowersx2
import Derived.Test.YtnndaackjgnhhaaDoorV1
namespace Go.Proofs.YtnndaackjgnhhaaDoor.Pure
open Go.RowKit Go.Proofs.YtnndaackjgnhhaaDoor.PFracPowers Go.Proofs.YtnndaackjgnhhaaDoor.Fr Go.Proofs.YtnndaackjgnhhaaDoor.Wh Go.Proofs.YtnndaackjgnhhaaDoor.PB Go.Proofs.YtnndaackjgnhhaaDoor.PC Go.Proofs.YtnndaackjgnhhaaDoor.PD Go.Proofs.YtnndaackjgnhhaaDoorW.PrintWords Go.Proofs.YtnndaackjgnhhaaDoorW.PrintLast
set_option linter.unusedVariables false
/-- the product of i of them -/
def St (n d t : Int) (i : Nat) (r : R4) : Prop := (n = 0 ∧ ((i = 0 ∧ r = (1, 1, 0, 0)) ∨ (0 < i ∧ r = (0, 1, 0, 0)))) ∨ (RightP n d t ∧ Enc (val n d t ^ i) r)
theorem St.start {n d t : Int} (h : RD n d t = true) (id : I64 d) : St n d t 0 (1, 1, 0, 0) := by
  rcases RD_cases h id with ⟨z, _⟩ | R
  · exact Or.inl ⟨z, Or.inl ⟨rfl, rfl⟩⟩
  · exact Or.inr ⟨R, by rw [Rat.pow_zero, ← one_val]; exact one_right.enc⟩
theorem St.next {n d t x y z : Int} (hr : RD n d t = true) {i : Nat} (h : St n d t i (x, y, z, 0)) {r : R4} (m : MulS x y z n d t r) : St n d t (i + 1) r := by
  rcases h with ⟨z0, h⟩ | ⟨R, e⟩
  · have rx : RD x y z = true := by
      rcases h with ⟨_, h⟩ | ⟨_, h⟩ <;> (simp only [Prod.mk.injEq] at h; obtain ⟨rfl, rfl, rfl, _⟩ := h; decide)
    exact Or.inl ⟨z0, Or.inr ⟨by omega, m.unique (Or.inr (Or.inl ⟨rx, hr, Or.inr z0, rfl⟩))⟩⟩
  · have RX := e.right
    refine Or.inr ⟨R, ?_⟩
    rcases m with ⟨h, _⟩ | ⟨_, _, h, _⟩ | ⟨_, _, _, h⟩
    · exact absurd ⟨RX.1.rd, hr⟩ h
    · exact absurd h (fun c => c.elim RX.1.nz R.nz)
    · rw [RX.2] at h; rw [Rat.pow_succ]; exact h
/-- how the loop ends: with the power, or refused as it is -/
def Done (n d t : Int) (M : Nat) (e x y z : Int) : Prop := (e = 0 ∧ St n d t M (x, y, z, 0)) ∨ (e = 10 ∧ RightP n d t ∧ ∃ i r, i ≤ M ∧ Enc (val n d t ^ i) r ∧ r.2.2.2 ≠ 0)
theorem Done.pow {n d t : Int} {M : Nat} {e x y z : Int} (h : Done n d t M e x y z) (hr : RD n d t = true) (hM : M ≤ 12) {r : R4} (p : PowS n d t M r) : e = r.2.2.2 ∧ (e = 0 → r = (x, y, z, 0)) := by
  rcases h with ⟨rfl, h⟩ | ⟨rfl, R, i, q, hi, en, ov⟩
  · have key : r = (x, y, z, 0) := by
      rcases h with ⟨z0, h⟩ | ⟨R, en⟩
      · rcases h with ⟨rfl, h⟩ | ⟨h0, h⟩
        · rw [h]; exact p.unique (Or.inr (Or.inr (Or.inl ⟨hr, by omega, by omega, rfl⟩)))
        · rw [h]; exact p.unique (Or.inr (Or.inr (Or.inr (Or.inl ⟨hr, by omega, by omega, z0, rfl⟩))))
      · by_cases h0 : M = 0
        · subst h0
          have : r = (1, 1, 0, 0) := p.unique (Or.inr (Or.inr (Or.inl ⟨hr, by omega, by omega, rfl⟩)))
          rw [this]
          rw [Rat.pow_zero, ← one_val] at en
          exact Enc.unique one_right.enc en
        · refine p.unique (Or.inr (Or.inr (Or.inr (Or.inr ⟨hr, by omega, by omega, R.nz, ?_⟩))))
          unfold pv; rw [if_pos (by omega), Int.toNat_natCast]; exact en
    exact ⟨by rw [key], fun _ => key⟩
  · have h0 : M ≠ 0 := fun h0 => by
      obtain rfl : i = 0 := by omega
      rw [Rat.pow_zero, ← one_val] at en
      rw [Enc.unique en one_right.enc] at ov
      exact ov rfl
    have er : Enc (val n d t ^ M) r := by
      rcases p with ⟨h, _⟩ | ⟨_, _, h, _⟩ | ⟨_, _, h, _⟩ | ⟨_, _, _, h, _⟩ | ⟨_, _, _, _, h⟩
      · exact absurd ⟨hr, by omega⟩ h
      · omega
      · omega
      · exact absurd h R.nz
      · unfold pv at h; rw [if_pos (by omega), Int.toNat_natCast] at h; exact h
    have := enc_pow_over hi en er R rfl ov
    rcases er.err with z | z
    · exact absurd z this
    · rw [z]; exact ⟨rfl, fun h => absurd h (by decide)⟩
theorem j1_ev {n d t : Int} {M : Nat} {e x y z : Int} (h : Done n d t M e x y z) (hr : RD n d t = true) (hM : M ≤ 12) (i1 : I64 n) (i2 : I64 d) : Ev (fun k => drachmlaw02_FracPowers.j1 k true M e n d t x y z) true := by
  obtain ⟨r, e1, s1⟩ := FPow_ev (t := t) (m := M) i1 i2
  obtain ⟨q, e2, s2⟩ := FPow_ev (t := t) (m := -(M : Int)) i1 i2
  obtain ⟨he, hx⟩ := h.pow hr hM s1
  have o := s1.out
  obtain ⟨v, e3, s3⟩ := FDiv_ev (n := 1) (d := 1) (t := 0) (t' := r.2.2.1) (by unfold I64; omega) (by unfold I64; omega) o.i1 o.i2
  have main : Ev (fun k => drachmlaw02_FracPowers.j2 k true M r.2.2.2 q.2.2.2 false n d t r.1 r.2.1 r.2.2.1 q.1 q.2.1 q.2.2.1) true := by
    by_cases h0 : M = 0
    · subst h0
      have hr1 : r = (1, 1, 0, 0) := s1.unique (Or.inr (Or.inr (Or.inl ⟨hr, by omega, by omega, rfl⟩)))
      have hq1 : q = (1, 1, 0, 0) := s2.unique (Or.inr (Or.inr (Or.inl ⟨hr, by omega, by omega, rfl⟩)))
      subst hr1 hq1
      refine Ev.step (f := fun _ => some true) (fun k => ?_) (Ev.now _)
      rw [drachmlaw02_FracPowers.j2, if_neg (by decide), if_pos (by omega), if_pos rfl, if_pos (by decide)]
      rfl
    · by_cases n0 : n = 0
      · obtain ⟨rfl, rfl⟩ := zero_right hr n0
        subst n0
        have hr1 : r = (0, 1, 0, 0) := s1.unique (Or.inr (Or.inr (Or.inr (Or.inl ⟨hr, by omega, by omega, rfl, rfl⟩))))
        have hq1 : q = (0, 0, 0, 11) := s2.unique (Or.inr (Or.inl ⟨hr, by omega, by omega, rfl, rfl⟩))
        subst hr1 hq1
        refine Ev.step (f := fun _ => some true) (fun k => ?_) (Ev.now _)
        rw [drachmlaw02_FracPowers.j2, if_neg (by decide), if_neg (by omega), if_pos rfl, if_pos rfl, if_pos (by decide)]
        rfl
      · have R := (RD_right n0 i2).1 hr
        refine Ev.step (f := fun k => (frac_Div.f k 1 1 0 r.1 r.2.1 r.2.2.1).bind fun bt122 => if r.2.2.2 = 0 then (if bt122.2.2.2 = q.2.2.2 then (some (bt122.1 == q.1 && (bt122.2.1 == q.2.1 && (bt122.2.2.1 == q.2.2.1)))) else (none)) else (some true)) (fun k => ?_) (e3.bind (Ev.congr (f := fun _ => some true) (fun k => ?_) (Ev.now _)))
        · rw [drachmlaw02_FracPowers.j2, if_neg (by decide), if_neg (by omega), if_neg n0]
          simp only [if_true]
        · by_cases z : r.2.2.2 = 0
          · rw [if_pos z]
            have er : Enc (val n d t ^ M) r := by
              rcases s1 with ⟨h, _⟩ | ⟨_, _, h, _⟩ | ⟨_, _, h, _⟩ | ⟨_, _, _, h, _⟩ | ⟨_, _, _, _, h⟩
              · exact absurd ⟨hr, by omega⟩ h
              · omega
              · omega
              · exact absurd h n0
              · unfold pv at h; rw [if_pos (by omega), Int.toNat_natCast] at h; exact h
            have eq' : Enc ((val n d t)⁻¹ ^ M) q := by
              rcases s2 with ⟨h, _⟩ | ⟨_, _, _, h, _⟩ | ⟨_, _, h, _⟩ | ⟨_, _, h, _⟩ | ⟨_, _, _, _, h⟩
              · exact absurd ⟨hr, by omega⟩ h
              · exact absurd h n0
              · omega
              · omega
              · unfold pv at h; rw [if_neg (by omega), Int.neg_neg, Int.toNat_natCast] at h; exact h
            obtain ⟨a, b, c, er0⟩ := r
            simp only at z
            subst z
            have RX := er.right
            have ev' : Enc (val 1 1 0 * (val a b c)⁻¹) v := by
              rcases s3 with ⟨h, _⟩ | ⟨_, _, h, _⟩ | ⟨_, _, _, h, _⟩ | ⟨_, _, _, _, h⟩
              · exact absurd ⟨by decide, RX.1.rd⟩ h
              · exact absurd h RX.1.nz
              · exact absurd h (by decide)
              · exact h
            rw [one_val, Rat.one_mul, RX.2, inv_pow] at ev'
            obtain rfl := Enc.unique ev' eq'
            rw [if_pos rfl, eq3]
          · rw [if_neg z]
  refine Ev.step (f := fun k => (frac_Pow.f k n d t M).bind fun bt112 => ((frac_Pow.f k n d t (-(M : Int))).bind fun bt117 => (if e = bt112.2.2.2 then (if e = 0 then (drachmlaw02_FracPowers.j2 k true M bt112.2.2.2 bt117.2.2.2 (!(x == bt112.1) || (!(y == bt112.2.1) || (!(z == bt112.2.2.1)))) n d t bt112.1 bt112.2.1 bt112.2.2.1 bt117.1 bt117.2.1 bt117.2.2.1) else (drachmlaw02_FracPowers.j2 k true M bt112.2.2.2 bt117.2.2.2 false n d t bt112.1 bt112.2.1 bt112.2.2.1 bt117.1 bt117.2.1 bt117.2.2.1)) else (drachmlaw02_FracPowers.j2 k true M bt112.2.2.2 bt117.2.2.2 true n d t bt112.1 bt112.2.1 bt112.2.2.1 bt117.1 bt117.2.1 bt117.2.2.1)))) (fun k => ?_) (e1.bind (e2.bind (Ev.congr (fun k => ?_) main)))
  · rw [drachmlaw02_FracPowers.j1, w64 (x := -(M : Int)) (by omega) (by omega)]
  · rw [if_pos he]
    by_cases z : e = 0
    · rw [if_pos z]
      have := hx z
      subst this
      rw [ne3]
    · rw [if_neg z]
theorem loop_ev {n d t : Int} (hr : RD n d t = true) (i1 : I64 n) (i2 : I64 d) (M : Nat) (hM : M ≤ 12) : ∀ (j i : Nat) (x y z : Int), i + j = M → I64 x → I64 y → St n d t i (x, y, z, 0) → Ev (fun k => drachmlaw02_FracPowers.l0 k true M 0 i n d t x y z) true
  | 0, i, x, y, z, hi, jx, jy, h => by
    obtain rfl : i = M := by omega
    refine Ev.step (fun k => ?_) (j1_ev (Or.inl ⟨rfl, h⟩) hr hM i1 i2)
    rw [drachmlaw02_FracPowers.l0, if_neg (by omega)]
  | j + 1, i, x, y, z, hi, jx, jy, h => by
    obtain ⟨r, e1, s1⟩ := FMul_ev (t := z) (t' := t) jx jy i1 i2
    have nx := h.next hr s1
    refine Ev.step (f := fun k => (frac_Mul.f k x y z n d t).bind fun bt108 => drachmlaw02_FracPowers.l0 k true M bt108.2.2.2 ((i + 1 : Nat) : Int) n d t bt108.1 bt108.2.1 bt108.2.2.1) (fun k => ?_) (e1.bind ?_)
    · rw [drachmlaw02_FracPowers.l0, if_pos (by omega), if_pos rfl, wsucc (by omega)]
    · by_cases g : r.2.2.2 = 0
      · have o := s1.out
        obtain ⟨a, b, c, er⟩ := r
        simp only at g
        subst g
        exact loop_ev hr i1 i2 M hM j (i + 1) a b c (by omega) o.i1 o.i2 nx
      · have dn : Done n d t M r.2.2.2 r.1 r.2.1 r.2.2.1 := by
          rcases nx with ⟨_, ⟨_, e⟩ | ⟨_, e⟩⟩ | ⟨R, en⟩
          · rw [e] at g; exact absurd rfl g
          · rw [e] at g; exact absurd rfl g
          · rcases en.err with z | z
            · exact absurd z g
            · exact Or.inr ⟨by rw [z], R, i + 1, r, by omega, en, g⟩
        refine Ev.step (fun k => ?_) (j1_ev dn hr hM i1 i2)
        rw [drachmlaw02_FracPowers.l0]
        by_cases c : ((i + 1 : Nat) : Int) < (M : Int)
        · rw [if_pos c, if_neg g]
        · rw [if_neg c]
theorem FracPowers : drachmlaw02_FracPowers.Pure := by
  intro a b c m h1 h2 h3 h4
  obtain ⟨n, d, t, p1, r1, j1, j2, _⟩ := Spec_ev (c := c) (i64_of h1) (i64_of h2)
  obtain ⟨M, hM, bM⟩ : ∃ M : Nat, Int.tmod (wrap64 (Int.tmod m 13 + 13)) 13 = M ∧ M ≤ 12 := by
    have p := Int.tmod_lt_of_pos m (show (0 : Int) < 13 by decide)
    have q := Int.lt_tmod_of_pos m (show (0 : Int) < 13 by decide)
    rw [w64 (x := Int.tmod m 13 + 13) (by omega) (by omega)]
    generalize Int.tmod m 13 = v at *
    have p2 := Int.tmod_lt_of_pos (v + 13) (show (0 : Int) < 13 by decide)
    have q2 := Int.tmod_nonneg 13 (show 0 ≤ v + 13 by omega)
    obtain ⟨M, e⟩ := Int.eq_ofNat_of_zero_le q2
    exact ⟨M, e, by omega⟩
  have l := loop_ev r1 j1 j2 M bM M 0 1 1 0 (by omega) (by unfold I64; omega) (by unfold I64; omega) (St.start r1 j2)
  obtain ⟨K0, a0⟩ := awake_ev
  obtain ⟨K1, a1⟩ := p1
  obtain ⟨K2, a2⟩ := l
  refine ⟨K0 + K1 + K2, ?_⟩
  generalize hK : K0 + K1 + K2 = K
  have a0 := a0 K (by omega)
  have a1 := a1 K (by omega)
  have a2 := a2 K (by omega)
  simp only at a0 a1 a2
  unfold drachmlaw02_FracPowers.f
  rw [a0, bs_, a1, bs_, hM]
  exact a2
end Go.Proofs.YtnndaackjgnhhaaDoor.Pure
