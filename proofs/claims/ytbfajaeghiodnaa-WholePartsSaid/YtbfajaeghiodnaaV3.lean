/- Plain closed forms of common divisors and what is split. Conditions: the arguments are 64-bit numbers. -/
import Derived.Test.YtbfajaeghiodnaaV2
namespace Go.Proofs.Ytbfajaeghiodnaa
open Go.RowKit Go.Proofs.YtbfajaeghiodnaaW.PrintWords Go.Proofs.YtbfajaeghiodnaaW.PrintLast Go.Proofs.YtbfajaeghiodnaaW.PrintMore

def gcdF (a b : Int) : Int := if -9223372036854775807 ≤ a ∧ -9223372036854775807 ≤ b then (Int.gcd a b : Int) else 0
theorem gcd_ev (m y : Nat) : Ev (fun k => PBase.whole_gcd_uint64.f k (m : Int) (y : Int)) (Nat.gcd m y : Int) := by
  have key : ∀ (n m y : Nat), y ≤ n → Ev (fun k => PBase.whole_gcd_uint64.l0 k (m : Int) (y : Int)) (Nat.gcd m y : Int) := by
    intro n
    induction n with
    | zero =>
      intro m y hy
      obtain rfl : y = 0 := by omega
      refine Ev.step (f := fun _ => some (m : Int)) (fun k => ?_) (by rw [Nat.gcd_zero_right]; exact Ev.now _)
      simp only [PBase.whole_gcd_uint64.l0]
      rw [if_pos (by rfl)]
    | succ n ih =>
      intro m y hy
      by_cases h0 : y = 0
      · subst h0
        refine Ev.step (f := fun _ => some (m : Int)) (fun k => ?_) (by rw [Nat.gcd_zero_right]; exact Ev.now _)
        simp only [PBase.whole_gcd_uint64.l0]
        rw [if_pos (by rfl)]
      · have hlt : m % y < y := Nat.mod_lt _ (by omega)
        rw [Nat.gcd_comm, Nat.gcd_rec, Nat.gcd_comm]
        refine Ev.step (fun k => ?_) (ih y (m % y) (by omega))
        simp only [PBase.whole_gcd_uint64.l0]
        rw [if_neg (by omega), Int.tmod_eq_emod_of_nonneg (by omega)]
        rfl
  exact key y m y (Nat.le_refl _)
theorem gcdF_le (a b : Int) (ha : I64 a) (hb : I64 b) : 0 ≤ gcdF a b ∧ gcdF a b ≤ 9223372036854775807 := by
  obtain ⟨a1, a2⟩ := ha
  obtain ⟨b1, b2⟩ := hb
  unfold gcdF
  split
  · by_cases h0 : a = 0
    · subst h0; rw [Int.gcd_zero_left]; omega
    · have := Nat.le_of_dvd (by omega) (Nat.gcd_dvd_left a.natAbs b.natAbs)
      change Int.gcd a b ≤ _ at this
      omega
  · omega
theorem Gcd_ev (a b : Int) (ha : I64 a) (hb : I64 b) : Ev (fun k => PBase.whole_Gcd.f k a b) (gcdF a b) := by
  have hle := gcdF_le a b ha hb
  obtain ⟨a1, a2⟩ := ha
  obtain ⟨b1, b2⟩ := hb
  have hf := fit_ev [a, b] (by simp)
  have hall : ([a, b].all fits = true) ↔ (-9223372036854775807 ≤ a ∧ -9223372036854775807 ≤ b) := by simp [fits]
  by_cases h : -9223372036854775807 ≤ a ∧ -9223372036854775807 ≤ b
  · rw [hall.2 h] at hf
    unfold gcdF at hle ⊢
    rw [if_pos h] at hle ⊢
    refine Ev.congr (fun k => rfl) (hf.bind (Ev.congr (f := fun k => (PBase.whole_gcd_uint64.f k (a.natAbs : Int) (b.natAbs : Int)).bind fun t => some (wrap64 t)) (fun k => ?_) ((gcd_ev _ _).bind (Ev.congr (f := fun _ => some (Int.gcd a b : Int)) (fun k => ?_) (Ev.now _)))))
    · rw [if_pos rfl, size_eq a h.1 a2, bs_, size_eq b h.2 b2, bs_]
    · change some (wrap64 (Int.gcd a b : Int)) = _
      rw [w64 (by omega) (by omega)]
  · have hfa : [a, b].all fits = false := by
      cases e : [a, b].all fits
      · rfl
      · exact absurd (hall.1 e) h
    rw [hfa] at hf
    refine Ev.congr (fun k => rfl) (hf.bind (Ev.congr (f := fun _ => some (gcdF a b)) (fun k => ?_) (Ev.now _)))
    rw [if_neg (by decide)]
    unfold gcdF
    rw [if_neg h]
theorem refGcd_ev (a b : Int) (ha : I64 a) (hb : I64 b) : Ev (fun k => PBase.drachmref01_Gcd.f k a b) (gcdF a b) := by
  obtain ⟨a1, a2⟩ := ha
  obtain ⟨b1, b2⟩ := hb
  have key : ∀ (n m y : Nat), y ≤ n → Ev (fun k => PBase.drachmref01_Gcd.l0 k (m : Int) (y : Int)) (Nat.gcd m y : Int) := by
    intro n
    induction n with
    | zero =>
      intro m y hy
      obtain rfl : y = 0 := by omega
      refine Ev.step (f := fun _ => some (m : Int)) (fun k => ?_) (by rw [Nat.gcd_zero_right]; exact Ev.now _)
      simp only [PBase.drachmref01_Gcd.l0]
      rw [if_neg (by omega)]
    | succ n ih =>
      intro m y hy
      by_cases h0 : y = 0
      · subst h0
        refine Ev.step (f := fun _ => some (m : Int)) (fun k => ?_) (by rw [Nat.gcd_zero_right]; exact Ev.now _)
        simp only [PBase.drachmref01_Gcd.l0]
        rw [if_neg (by omega)]
      · have hlt : m % y < y := Nat.mod_lt _ (by omega)
        rw [Nat.gcd_comm, Nat.gcd_rec, Nat.gcd_comm]
        refine Ev.step (fun k => ?_) (ih y (m % y) (by omega))
        simp only [PBase.drachmref01_Gcd.l0]
        rw [if_pos (by omega), if_neg (by omega), Int.tmod_eq_emod_of_nonneg (by omega)]
        rfl
  by_cases h : -9223372036854775807 ≤ a ∧ -9223372036854775807 ≤ b
  · unfold gcdF
    rw [if_pos h]
    refine Ev.congr (f := fun k => PBase.drachmref01_Gcd.j0 k a b false) (fun k => ?_) (Ev.step (fun k => ?_) (key b.natAbs a.natAbs b.natAbs (Nat.le_refl _)))
    · unfold PBase.drachmref01_Gcd.f
      rw [refFits_eq, bs_, refFits_eq, bs_]
      unfold fits
      rw [decide_eq_true h.1, decide_eq_true h.2, if_pos rfl]
      rfl
    · simp only [PBase.drachmref01_Gcd.j0]
      rw [if_neg (by decide), refsize_eq a h.1 a2, bs_, refsize_eq b h.2 b2, bs_]
  · have hz : gcdF a b = 0 := by unfold gcdF; rw [if_neg h]
    rw [hz]
    refine Ev.congr (f := fun k => PBase.drachmref01_Gcd.j0 k a b true) (fun k => ?_) (Ev.step (f := fun _ => some 0) (fun k => ?_) (Ev.now _))
    · unfold PBase.drachmref01_Gcd.f
      rw [refFits_eq, bs_, refFits_eq, bs_]
      unfold fits
      by_cases h1 : -9223372036854775807 ≤ a
      · rw [decide_eq_true h1, decide_eq_false (show ¬ -9223372036854775807 ≤ b by omega), if_pos rfl]
        rfl
      · rw [decide_eq_false h1, if_neg (by decide)]
    · simp only [PBase.drachmref01_Gcd.j0]
      rw [if_pos trivial]

/-! What is split: how often, and what is left. -/
theorem tdiv_lt {x by' : Int} (hx : x ≠ 0) (hb : 2 ≤ by') (hd : Int.tmod x by' = 0) : (Int.tdiv x by').natAbs < x.natAbs ∧ Int.tdiv x by' ≠ 0 ∧ Int.tdiv x by' * by' = x := by
  have h := Int.mul_tdiv_add_tmod x by'
  rw [hd, Int.add_zero] at h
  have h3 : Int.tdiv x by' * by' = x := by rw [Int.mul_comm]; exact h
  have h2 : Int.tdiv x by' ≠ 0 := fun e => by rw [e] at h3; omega
  refine ⟨?_, h2, h3⟩
  have h4 : x.natAbs = (Int.tdiv x by').natAbs * by'.natAbs := by rw [← Int.natAbs_mul, h3]
  rw [h4]
  have h5 : 2 ≤ by'.natAbs := by omega
  have h6 : (Int.tdiv x by').natAbs * 2 ≤ (Int.tdiv x by').natAbs * by'.natAbs := Nat.mul_le_mul_left _ h5
  omega
def splitL : Nat → Int → Int → Int → Int × Int
  | 0, x, _, k => (k, x)
  | n + 1, x, b, k => if Int.tmod x b = 0 then splitL n (Int.tdiv x b) b (k + 1) else (k, x)
def splitF (n b : Int) : Int × Int := if n = 0 ∨ b < 2 ∨ n < -9223372036854775807 then (0, n) else splitL n.natAbs n b 0
theorem tdiv_in {x b : Int} (hx : I64 x) (hb : 2 ≤ b) (h0 : x ≠ 0) (hd : Int.tmod x b = 0) : I64 (Int.tdiv x b) := by
  have := tdiv_lt h0 hb hd
  obtain ⟨x1, x2⟩ := hx
  unfold I64
  omega
theorem splitL_ev (b : Int) (hb : 2 ≤ b) : ∀ (n : Nat) (x k : Int), x ≠ 0 → x.natAbs ≤ n → I64 x → 0 ≤ k → k + n ≤ 9223372036854775807 → Ev (fun f => PBase.whole_Split.l0 f x b k) (splitL n x b k) := by
  intro n
  induction n with
  | zero => intro x k h0 hn; omega
  | succ n ih =>
    intro x k h0 hn hx hk hkn
    unfold splitL
    by_cases hd : Int.tmod x b = 0
    · have ht := tdiv_lt h0 hb hd
      rw [if_pos hd]
      refine Ev.step (fun f => ?_) (ih (Int.tdiv x b) (k + 1) ht.2.1 (by omega) (tdiv_in hx hb h0 hd) (by omega) (by omega))
      have hi := tdiv_in hx hb h0 hd
      simp only [PBase.whole_Split.l0]
      rw [if_neg (by omega), if_pos hd, w64 (x := Int.tdiv x b) hi.1 hi.2, w64 (x := k + 1) (by omega) (by omega)]
    · rw [if_neg hd]
      refine Ev.step (f := fun _ => some (k, x)) (fun f => ?_) (Ev.now _)
      simp only [PBase.whole_Split.l0]
      rw [if_neg (by omega), if_neg hd]
theorem refSplitL_ev (b : Int) (hb : 2 ≤ b) : ∀ (n : Nat) (x k : Int), x ≠ 0 → x.natAbs ≤ n → I64 x → 0 ≤ k → k + n ≤ 9223372036854775807 → Ev (fun f => PBase.drachmref01_Split.l0 f b k x) (splitL n x b k) := by
  intro n
  induction n with
  | zero => intro x k h0 hn; omega
  | succ n ih =>
    intro x k h0 hn hx hk hkn
    unfold splitL
    by_cases hd : Int.tmod x b = 0
    · have ht := tdiv_lt h0 hb hd
      rw [if_pos hd]
      refine Ev.step (fun f => ?_) (ih (Int.tdiv x b) (k + 1) ht.2.1 (by omega) (tdiv_in hx hb h0 hd) (by omega) (by omega))
      have hi := tdiv_in hx hb h0 hd
      simp only [PBase.drachmref01_Split.l0]
      rw [if_neg (by omega), if_pos hd, w64 (x := Int.tdiv x b) hi.1 hi.2, w64 (x := k + 1) (by omega) (by omega)]
    · rw [if_neg hd]
      refine Ev.step (f := fun _ => some (k, x)) (fun f => ?_) (Ev.now _)
      simp only [PBase.drachmref01_Split.l0]
      rw [if_neg (by omega), if_neg hd]
theorem Split_ev (n b : Int) (hn : I64 n) : Ev (fun k => PBase.whole_Split.f k n b) (splitF n b) := by
  have hn' := hn
  obtain ⟨n1, n2⟩ := hn
  unfold splitF
  by_cases h : n = 0 ∨ b < 2 ∨ n < -9223372036854775807
  · rw [if_pos h]
    refine Ev.congr (f := fun k => PBase.whole_Split.j0 k n b true) (fun k => ?_) (Ev.step (f := fun _ => some (0, n)) (fun k => ?_) (Ev.now _))
    · unfold PBase.whole_Split.f
      by_cases h1 : n = 0
      · rw [if_pos h1]
      · rw [if_neg h1]
        by_cases h2 : b < 2
        · rw [if_pos h2]
        · rw [if_neg h2, Fits_eq, bs_]
          unfold fits
          rw [decide_eq_false (by omega)]
          rfl
    · simp only [PBase.whole_Split.j0]
      rw [if_pos trivial]
  · rw [if_neg h]
    refine Ev.congr (f := fun k => PBase.whole_Split.j0 k n b false) (fun k => ?_) (Ev.step (fun k => ?_) (splitL_ev b (by omega) n.natAbs n 0 (by omega) (Nat.le_refl _) hn' (by omega) (by omega)))
    · unfold PBase.whole_Split.f
      rw [if_neg (by omega), if_neg (by omega), Fits_eq, bs_]
      unfold fits
      rw [decide_eq_true (by omega)]
      rfl
    · simp only [PBase.whole_Split.j0]
      rw [if_neg (by decide)]
theorem refSplit_ev (n b : Int) (hn : I64 n) : Ev (fun k => PBase.drachmref01_Split.f k n b) (splitF n b) := by
  have hn' := hn
  obtain ⟨n1, n2⟩ := hn
  unfold splitF
  by_cases h : n = 0 ∨ b < 2 ∨ n < -9223372036854775807
  · rw [if_pos h]
    refine Ev.congr (f := fun k => PBase.drachmref01_Split.j0 k b true 0 n) (fun k => ?_) (Ev.step (f := fun _ => some (0, n)) (fun k => ?_) (Ev.now _))
    · unfold PBase.drachmref01_Split.f
      rw [refFits_eq, bs_]
      unfold fits
      by_cases h1 : -9223372036854775807 ≤ n
      · rw [decide_eq_true h1, if_pos rfl]
        by_cases h2 : n = 0
        · rw [if_pos h2]
        · rw [if_neg h2, decide_eq_true (by omega)]
      · rw [decide_eq_false h1, if_neg (by decide)]
    · simp only [PBase.drachmref01_Split.j0]
      rw [if_pos trivial]
  · rw [if_neg h]
    refine Ev.congr (f := fun k => PBase.drachmref01_Split.j0 k b false 0 n) (fun k => ?_) (Ev.step (fun k => ?_) (refSplitL_ev b (by omega) n.natAbs n 0 (by omega) (Nat.le_refl _) hn' (by omega) (by omega)))
    · unfold PBase.drachmref01_Split.f
      rw [refFits_eq, bs_]
      unfold fits
      rw [decide_eq_true (by omega), if_pos rfl, if_neg (by omega), decide_eq_false (by omega)]
    · simp only [PBase.drachmref01_Split.j0]
      rw [if_neg (by decide)]
theorem awake_ev : Ev (fun k => PBase.drachmlaw01_awake.f k) true := by
  have m := Mul_ev 4611686018427387904 2 (by unfold I64; omega) (by unfold I64; omega)
  have a := Add_ev 9223372036854775807 (-1) (by unfold I64; omega) (by unfold I64; omega)
  have s := Split_ev 40 2 (by unfold I64; omega)
  have g := Gcd_ev (-12) 18 (by unfold I64; omega) (by unfold I64; omega)
  rw [show mulF 4611686018427387904 2 = (0, false) by decide] at m
  rw [show addF 9223372036854775807 (-1) = (9223372036854775806, true) by decide] at a
  rw [show splitF 40 2 = (3, 5) by decide] at s
  rw [show gcdF (-12) 18 = 6 by decide] at g
  refine Ev.congr (fun k => rfl) (m.bind (a.bind (s.bind (Ev.congr (f := fun k => (PBase.whole_Gcd.f k (-12) 18).bind fun t129 => if t129 = 6 then some true else some false) (fun k => ?_) (g.bind (Ev.congr (f := fun _ => some true) (fun k => ?_) (Ev.now _)))))))
  · rw [if_neg (by decide), if_pos rfl, if_pos rfl]
    congr 1
  · rw [if_pos rfl]
end Go.Proofs.Ytbfajaeghiodnaa
