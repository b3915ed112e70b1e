/- Plain closed forms of layer 1's functions: products, divisors, what is split. Conditions: the arguments are 64-bit numbers. -/
import Derived.Test.YtnndaackjgnhhaaDoorPBx
import Derived.Laws.BitsAllLaws
namespace Go.Proofs.YtnndaackjgnhhaaDoor.Wh
open Go.RowKit Go.Proofs.YtnndaackjgnhhaaDoorW.PrintWords Go.Proofs.YtnndaackjgnhhaaDoorW.PrintLast Go.Proofs.YtnndaackjgnhhaaDoorW.PrintMore

/-- As Option.bind_some, but no law that holds by sight: else the kernel compares what the two sides bind. -/
theorem bs_ {α β : Type} (a : α) (f : α → Option β) : (some a).bind f = f a := by
  have h : ∀ o : Option α, o = some a → o.bind f = f a := fun o ho => by cases ho; rfl
  exact h _ rfl
theorem w64 {x : Int} (h : -9223372036854775808 ≤ x) (h2 : x ≤ 9223372036854775807) : wrap64 x = x := by unfold wrap64; omega
theorem wsucc {n : Nat} (h : n < 1000000000000) : wrap64 ((n : Int) + 1) = ((n + 1 : Nat) : Int) := by rw [w64 (by omega) (by omega)]; omega
/-- A 64-bit number. -/
def I64 (x : Int) : Prop := -9223372036854775808 ≤ x ∧ x ≤ 9223372036854775807
def fits (x : Int) : Bool := decide (-9223372036854775807 ≤ x)
theorem Fits_eq (x : Int) : PB.whole_Fits.f x = some (fits x) := rfl
theorem refFits_eq (x : Int) : PB.drachmref01_Fits.f x = some (fits x) := rfl
theorem fit_loop (l : List Int) (hl : l.length ≤ 1000) : ∀ (d i k : Nat), i + d = l.length → d < k → PB.whole_fit.l0 k l l.length i = some ((l.drop i).all fits) := by
  intro d
  induction d with
  | zero =>
    intro i k hi hk
    obtain ⟨k, rfl⟩ : ∃ m, k = m + 1 := ⟨k - 1, by omega⟩
    simp only [PB.whole_fit.l0]
    rw [if_neg (by omega), List.drop_of_length_le (by omega)]
    rfl
  | succ d ih =>
    intro i k hi hk
    obtain ⟨k, rfl⟩ : ∃ m, k = m + 1 := ⟨k - 1, by omega⟩
    have hlt : i < l.length := by omega
    simp only [PB.whole_fit.l0]
    rw [if_pos (by omega), if_pos (by omega), if_pos (by omega), Fits_eq, bs_, wsucc (by omega), ih (i + 1) k (by omega) (by omega), List.drop_eq_getElem_cons hlt, List.all_cons, show rd l i = l[i] from by simp [rd, hlt]]
    cases fits l[i] <;> rfl
theorem fit_ev (l : List Int) (hl : l.length ≤ 1000) : Ev (fun k => PB.whole_fit.f k l) (l.all fits) :=
  Ev.of (k := l.length + 1) (fun k => PB.whole_fit.mono l k) (fit_loop l hl l.length 0 _ (by omega) (by omega))


theorem u64w (n : Int) : IntKind.u64.wrap n = n % 18446744073709551616 := IntKind.wrap_u64 n
theorem u64in {n : Int} (h0 : 0 ≤ n) (h1 : n < 18446744073709551616) : IntKind.u64.wrap n = n := by rw [u64w]; omega
theorem mask32 (a : Int) (h0 : 0 ≤ a) (h1 : a < 18446744073709551616) : Go.bits .and .u64 a 4294967295 = a % 4294967296 := by
  rw [u64_and a 4294967295 h0 h1 (by omega) (by omega)]
  obtain ⟨A, rfl⟩ := Int.eq_ofNat_of_zero_le h0
  have h := Nat.and_two_pow_sub_one_eq_mod A 32
  rw [Int.toNat_natCast, show (4294967295 : Int).toNat = 2 ^ 32 - 1 from rfl, h]
  omega
/-- The product's parts. -/
theorem parts (x1 x0 y1 y0 : Int) : (4294967296 * x1 + x0) * (4294967296 * y1 + y0) = (x1 * y1) * 18446744073709551616 + (x1 * y0 + x0 * y1) * 4294967296 + x0 * y0 := by grind
theorem part_le {x y : Int} (hx : 0 ≤ x) (hx2 : x ≤ 4294967295) (hy : 0 ≤ y) (hy2 : y ≤ 4294967295) : 0 ≤ x * y ∧ x * y ≤ 18446744065119617025 :=
  ⟨Int.mul_nonneg hx hy, by have := Int.mul_le_mul hx2 hy2 hy (by decide); omega⟩
theorem hi_lo (p11 p10 p01 p00 : Int) :
    p11 + (p10 + p00 / 4294967296) / 4294967296 + ((p10 + p00 / 4294967296) % 4294967296 + p01) / 4294967296 = (p11 * 18446744073709551616 + (p10 + p01) * 4294967296 + p00) / 18446744073709551616 := by
  omega
theorem Mul64_eq (a b : Int) (ha : 0 ≤ a) (ha2 : a < 18446744073709551616) (hb : 0 ≤ b) (hb2 : b < 18446744073709551616) : PB.bits_Mul64.f a b = some ((a * b) / 18446744073709551616, (a * b) % 18446744073709551616) := by
  unfold PB.bits_Mul64.f
  have hx := part_le (x := a / 4294967296) (y := b / 4294967296) (by omega) (by omega) (by omega) (by omega)
  have hy := part_le (x := a / 4294967296) (y := b % 4294967296) (by omega) (by omega) (by omega) (by omega)
  have hz := part_le (x := a % 4294967296) (y := b / 4294967296) (by omega) (by omega) (by omega) (by omega)
  have hw := part_le (x := a % 4294967296) (y := b % 4294967296) (by omega) (by omega) (by omega) (by omega)
  have hab : a * b ≤ 340282366920938463426481119284349108225 := by
    have := Int.mul_le_mul (show a ≤ 18446744073709551615 by omega) (show b ≤ 18446744073709551615 by omega) hb (by decide)
    omega
  have hp := parts (a / 4294967296) (a % 4294967296) (b / 4294967296) (b % 4294967296)
  rw [Int.mul_ediv_add_emod, Int.mul_ediv_add_emod] at hp
  rw [hp] at hab
  rw [mask32 a ha ha2, mask32 b hb hb2]
  have hlo : IntKind.u64.wrap (a * b) = (a * b) % 18446744073709551616 := u64w _
  rw [hlo]
  clear hlo
  have key := hi_lo (a / 4294967296 * (b / 4294967296)) (a / 4294967296 * (b % 4294967296)) (a % 4294967296 * (b / 4294967296)) (a % 4294967296 * (b % 4294967296))
  have hbd := hab
  rw [← hp] at key
  rw [← key]
  clear key hp hab
  generalize a / 4294967296 * (b / 4294967296) = p11 at *
  generalize a / 4294967296 * (b % 4294967296) = p10 at *
  generalize a % 4294967296 * (b / 4294967296) = p01 at *
  generalize a % 4294967296 * (b % 4294967296) = p00 at *
  rw [u64in (n := p11) (by omega) (by omega), u64in (n := p10) (by omega) (by omega), u64in (n := p01) (by omega) (by omega), u64in (n := p00) (by omega) (by omega)]
  rw [u64in (n := p10 + p00 / 4294967296) (by omega) (by omega), mask32 (p10 + p00 / 4294967296) (by omega) (by omega)]
  rw [u64in (n := (p10 + p00 / 4294967296) % 4294967296 + p01) (by omega) (by omega), u64in (n := p11 + (p10 + p00 / 4294967296) / 4294967296) (by omega) (by omega)]
  rw [u64in (n := p11 + (p10 + p00 / 4294967296) / 4294967296 + ((p10 + p00 / 4294967296) % 4294967296 + p01) / 4294967296) (by omega) (by have := hi_lo p11 p10 p01 p00; omega)]
/-! Products. -/
def mulF (a b : Int) : Int × Bool := if -9223372036854775807 ≤ a ∧ -9223372036854775807 ≤ b ∧ -9223372036854775807 ≤ a * b ∧ a * b ≤ 9223372036854775807 then (a * b, true) else (0, false)
theorem size_eq (a : Int) (ha : -9223372036854775807 ≤ a) (ha2 : a ≤ 9223372036854775807) : PB.whole_size.f a = some (a.natAbs : Int) := by
  unfold PB.whole_size.f
  by_cases h : a < 0
  · rw [if_pos h, w64 (by omega) (by omega), u64in (by omega) (by omega)]; congr 1; omega
  · rw [if_neg h, u64in (by omega) (by omega)]; congr 1; omega
theorem refsize_eq (a : Int) (ha : -9223372036854775807 ≤ a) (ha2 : a ≤ 9223372036854775807) : PB.drachmref01_size.f a = some (a.natAbs : Int) := by
  unfold PB.drachmref01_size.f
  by_cases h : a < 0
  · rw [if_pos h, w64 (by omega) (by omega)]; congr 1; omega
  · rw [if_neg h]; congr 1; omega
theorem abs_cases (a b : Int) : ((a < 0 ↔ b < 0) ∧ ((a.natAbs : Int) * (b.natAbs : Int)) = a * b) ∨ (¬ (a < 0 ↔ b < 0) ∧ ((a.natAbs : Int) * (b.natAbs : Int)) = -(a * b)) := by
  by_cases h1 : a < 0 <;> by_cases h2 : b < 0
  · left; refine ⟨by simp [h1, h2], ?_⟩; rw [show (a.natAbs : Int) = -a by omega, show (b.natAbs : Int) = -b by omega, Int.neg_mul_neg]
  · right; refine ⟨by simp [h1, h2], ?_⟩; rw [show (a.natAbs : Int) = -a by omega, show (b.natAbs : Int) = b by omega, Int.neg_mul]
  · right; refine ⟨by simp [h1, h2], ?_⟩; rw [show (a.natAbs : Int) = a by omega, show (b.natAbs : Int) = -b by omega, Int.mul_neg]
  · left; refine ⟨by simp [h1, h2], ?_⟩; rw [show (a.natAbs : Int) = a by omega, show (b.natAbs : Int) = b by omega]
theorem abs_mul_le (a b : Int) (ha : I64 a) (hb : I64 b) : 0 ≤ (a.natAbs : Int) * (b.natAbs : Int) ∧ (a.natAbs : Int) * (b.natAbs : Int) ≤ 85070591730234615865843651857942052864 := by
  obtain ⟨a1, a2⟩ := ha
  obtain ⟨b1, b2⟩ := hb
  refine ⟨Int.mul_nonneg (by omega) (by omega), ?_⟩
  have := Int.mul_le_mul (show (a.natAbs : Int) ≤ 9223372036854775808 by omega) (show (b.natAbs : Int) ≤ 9223372036854775808 by omega) (by omega) (by decide)
  omega
def mulTail (k : Nat) (a b p : Int) : Option (Int × Bool) :=
  if p / 18446744073709551616 > 0 then (PB.whole_Mul.j0 k a b (p % 18446744073709551616) true) else (PB.whole_Mul.j0 k a b (p % 18446744073709551616) (decide (p % 18446744073709551616 > 9223372036854775807)))
theorem Mul_ev (a b : Int) (ha : I64 a) (hb : I64 b) : Ev (fun k => PB.whole_Mul.f k a b) (mulF a b) := by
  have hm := abs_mul_le a b ha hb
  obtain ⟨a1, a2⟩ := ha
  obtain ⟨b1, b2⟩ := hb
  have hf := fit_ev [a, b] (by simp)
  have hall : ([a, b].all fits = true) ↔ (-9223372036854775807 ≤ a ∧ -9223372036854775807 ≤ b) := by simp [fits]
  by_cases h : -9223372036854775807 ≤ a ∧ -9223372036854775807 ≤ b
  · rw [hall.2 h] at hf
    have hs := abs_cases a b
    have hk : ∀ k, ((PB.whole_size.f a).bind fun t111 => ((PB.whole_size.f b).bind fun t112 => ((PB.bits_Mul64.f t111 t112).bind fun bt113 => (if bt113.1 > 0 then (PB.whole_Mul.j0 k a b bt113.2 true) else (PB.whole_Mul.j0 k a b bt113.2 (decide (bt113.2 > 9223372036854775807))))))) =
        mulTail k a b ((a.natAbs : Int) * (b.natAbs : Int)) := by
      intro k
      rw [size_eq a h.1 a2, bs_, size_eq b h.2 b2, bs_, Mul64_eq _ _ (by omega) (by omega) (by omega) (by omega), bs_]
      rfl
    refine Ev.congr (fun k => rfl) (hf.bind (Ev.congr (f := fun k => mulTail k a b ((a.natAbs : Int) * (b.natAbs : Int))) (fun k => by rw [if_pos rfl]; exact hk k) ?_))
    clear hk
    unfold mulTail
    generalize (a.natAbs : Int) * (b.natAbs : Int) = p at *
    unfold mulF
    by_cases hp : p ≤ 9223372036854775807
    · have hy : -9223372036854775807 ≤ a ∧ -9223372036854775807 ≤ b ∧ -9223372036854775807 ≤ a * b ∧ a * b ≤ 9223372036854775807 := by omega
      rw [if_pos hy]
      refine Ev.congr (f := fun k => PB.whole_Mul.j0 k a b p false) (fun k => ?_) (Ev.step (f := fun _ => some (a * b, true)) (fun k => ?_) (Ev.now _))
      · rw [if_neg (by omega), show p % 18446744073709551616 = p by omega, decide_eq_false (by omega)]
      · simp only [PB.whole_Mul.j0]
        rw [if_neg (by decide), w64 (x := p) (by omega) (by omega)]
        by_cases g : (a < 0 ↔ b < 0)
        · have hg : (decide (a < 0) != decide (b < 0)) = false := by rw [bne_eq_false_iff_eq, decide_eq_decide]; exact g
          rw [hg, if_neg (by decide), show p = a * b by omega]
        · have hg : (decide (a < 0) != decide (b < 0)) = true := by rw [bne_iff_ne, ne_eq, decide_eq_decide]; exact g
          rw [if_pos hg, w64 (by omega) (by omega), show -p = a * b by omega]
    · rw [if_neg (by omega)]
      refine Ev.congr (f := fun k => PB.whole_Mul.j0 k a b (p % 18446744073709551616) true) (fun k => ?_) (Ev.step (f := fun _ => some (0, false)) (fun k => ?_) (Ev.now _))
      · by_cases g : p / 18446744073709551616 > 0
        · rw [if_pos g]
        · rw [if_neg g, decide_eq_true (by omega)]
      · simp only [PB.whole_Mul.j0]
        rw [if_pos trivial]
  · have hfa : [a, b].all fits = false := by
      cases e : [a, b].all fits
      · rfl
      · exact absurd (hall.1 e) h
    rw [hfa] at hf
    refine Ev.congr (fun k => rfl) (hf.bind (Ev.congr (f := fun _ => some (mulF a b)) (fun k => ?_) (Ev.now _)))
    rw [if_neg (by decide)]
    unfold mulF
    rw [if_neg (by omega)]
theorem abs_div (a b : Int) (h : a ≠ 0) : (b.natAbs : Int) > 9223372036854775807 / (a.natAbs : Int) ↔ (a.natAbs : Int) * (b.natAbs : Int) > 9223372036854775807 := by
  have h0 : 0 < (a.natAbs : Int) := by omega
  have := Int.ediv_lt_iff_lt_mul (a := 9223372036854775807) (b := (b.natAbs : Int)) h0
  rw [Int.mul_comm]
  omega
theorem refMul_ev (a b : Int) (ha : I64 a) (hb : I64 b) : Ev (fun k => PB.drachmref01_Mul.f k a b) (mulF a b) := by
  have hm := abs_mul_le a b ha hb
  have hs := abs_cases a b
  obtain ⟨a1, a2⟩ := ha
  obtain ⟨b1, b2⟩ := hb
  by_cases h : -9223372036854775807 ≤ a ∧ -9223372036854775807 ≤ b
  · refine Ev.congr (f := fun k => PB.drachmref01_Mul.j0 k a b false) (fun k => ?_) (Ev.step (f := fun _ => some (mulF a b)) (fun k => ?_) (Ev.now _))
    · unfold PB.drachmref01_Mul.f
      rw [refFits_eq, bs_, refFits_eq, bs_]
      unfold fits
      rw [decide_eq_true h.1, decide_eq_true h.2, if_pos rfl]
      rfl
    · simp only [PB.drachmref01_Mul.j0]
      rw [if_neg (by decide)]
      by_cases h0 : a = 0
      · subst h0
        rw [if_pos rfl, Int.zero_mul]
        unfold mulF
        rw [Int.zero_mul, if_pos (by omega), w64 (by omega) (by omega)]
      · rw [if_neg h0, refsize_eq b h.2 b2, bs_, refsize_eq a h.1 a2, bs_, if_neg (by omega), Int.tdiv_eq_ediv_of_nonneg (by decide)]
        have hd : 0 ≤ 9223372036854775807 / (a.natAbs : Int) ∧ 9223372036854775807 / (a.natAbs : Int) ≤ 9223372036854775807 := ⟨Int.ediv_nonneg (by decide) (by omega), Int.ediv_le_self _ (by decide)⟩
        rw [w64 (by omega) (by omega)]
        have hq := abs_div a b h0
        unfold mulF
        generalize (a.natAbs : Int) * (b.natAbs : Int) = p at *
        by_cases g : (b.natAbs : Int) > 9223372036854775807 / (a.natAbs : Int)
        · have := hq.1 g
          rw [if_pos g, if_neg (by omega)]
        · have : ¬ p > 9223372036854775807 := fun e => g (hq.2 e)
          rw [if_neg g, if_pos (by omega), w64 (by omega) (by omega)]
  · have hz : mulF a b = (0, false) := by unfold mulF; rw [if_neg (by omega)]
    rw [hz]
    refine Ev.congr (f := fun k => PB.drachmref01_Mul.j0 k a b true) (fun k => ?_) (Ev.step (f := fun _ => some (0, false)) (fun k => ?_) (Ev.now _))
    · unfold PB.drachmref01_Mul.f
      rw [refFits_eq, bs_, refFits_eq, bs_]
      unfold fits
      by_cases h1 : -9223372036854775807 ≤ a
      · rw [decide_eq_true h1, decide_eq_false (show ¬ -9223372036854775807 ≤ b by omega), if_pos rfl]
        rfl
      · rw [decide_eq_false h1, if_neg (by decide)]
    · simp only [PB.drachmref01_Mul.j0]
      rw [if_pos trivial]

def gcdF (a b : Int) : Int := if -9223372036854775807 ≤ a ∧ -9223372036854775807 ≤ b then (Int.gcd a b : Int) else 0
theorem gcd_ev (m y : Nat) : Ev (fun k => PB.whole_gcd_uint64.f k (m : Int) (y : Int)) (Nat.gcd m y : Int) := by
  have key : ∀ (n m y : Nat), y ≤ n → Ev (fun k => PB.whole_gcd_uint64.l0 k (m : Int) (y : Int)) (Nat.gcd m y : Int) := by
    intro n
    induction n with
    | zero =>
      intro m y hy
      obtain rfl : y = 0 := by omega
      refine Ev.step (f := fun _ => some (m : Int)) (fun k => ?_) (by rw [Nat.gcd_zero_right]; exact Ev.now _)
      simp only [PB.whole_gcd_uint64.l0]
      rw [if_pos (by rfl)]
    | succ n ih =>
      intro m y hy
      by_cases h0 : y = 0
      · subst h0
        refine Ev.step (f := fun _ => some (m : Int)) (fun k => ?_) (by rw [Nat.gcd_zero_right]; exact Ev.now _)
        simp only [PB.whole_gcd_uint64.l0]
        rw [if_pos (by rfl)]
      · have hlt : m % y < y := Nat.mod_lt _ (by omega)
        rw [Nat.gcd_comm, Nat.gcd_rec, Nat.gcd_comm]
        refine Ev.step (fun k => ?_) (ih y (m % y) (by omega))
        simp only [PB.whole_gcd_uint64.l0]
        rw [if_neg (by omega), Int.tmod_eq_emod_of_nonneg (by omega)]
        rfl
  exact key y m y (Nat.le_refl _)
theorem gcdF_le (a b : Int) (ha : I64 a) (hb : I64 b) : 0 ≤ gcdF a b ∧ gcdF a b ≤ 9223372036854775807 := by
  obtain ⟨a1, a2⟩ := ha
  obtain ⟨b1, b2⟩ := hb
  unfold gcdF
  split
  · by_cases h0 : a = 0
    · subst h0; rw [Int.gcd_zero_left]; omega
    · have := Nat.le_of_dvd (by omega) (Nat.gcd_dvd_left a.natAbs b.natAbs)
      change Int.gcd a b ≤ _ at this
      omega
  · omega
theorem Gcd_ev (a b : Int) (ha : I64 a) (hb : I64 b) : Ev (fun k => PB.whole_Gcd.f k a b) (gcdF a b) := by
  have hle := gcdF_le a b ha hb
  obtain ⟨a1, a2⟩ := ha
  obtain ⟨b1, b2⟩ := hb
  have hf := fit_ev [a, b] (by simp)
  have hall : ([a, b].all fits = true) ↔ (-9223372036854775807 ≤ a ∧ -9223372036854775807 ≤ b) := by simp [fits]
  by_cases h : -9223372036854775807 ≤ a ∧ -9223372036854775807 ≤ b
  · rw [hall.2 h] at hf
    unfold gcdF at hle ⊢
    rw [if_pos h] at hle ⊢
    refine Ev.congr (fun k => rfl) (hf.bind (Ev.congr (f := fun k => (PB.whole_gcd_uint64.f k (a.natAbs : Int) (b.natAbs : Int)).bind fun t => some (wrap64 t)) (fun k => ?_) ((gcd_ev _ _).bind (Ev.congr (f := fun _ => some (Int.gcd a b : Int)) (fun k => ?_) (Ev.now _)))))
    · rw [if_pos rfl, size_eq a h.1 a2, bs_, size_eq b h.2 b2, bs_]
    · change some (wrap64 (Int.gcd a b : Int)) = _
      rw [w64 (by omega) (by omega)]
  · have hfa : [a, b].all fits = false := by
      cases e : [a, b].all fits
      · rfl
      · exact absurd (hall.1 e) h
    rw [hfa] at hf
    refine Ev.congr (fun k => rfl) (hf.bind (Ev.congr (f := fun _ => some (gcdF a b)) (fun k => ?_) (Ev.now _)))
    rw [if_neg (by decide)]
    unfold gcdF
    rw [if_neg h]
theorem refGcd_ev (a b : Int) (ha : I64 a) (hb : I64 b) : Ev (fun k => PB.drachmref01_Gcd.f k a b) (gcdF a b) := by
  obtain ⟨a1, a2⟩ := ha
  obtain ⟨b1, b2⟩ := hb
  have key : ∀ (n m y : Nat), y ≤ n → Ev (fun k => PB.drachmref01_Gcd.l0 k (m : Int) (y : Int)) (Nat.gcd m y : Int) := by
    intro n
    induction n with
    | zero =>
      intro m y hy
      obtain rfl : y = 0 := by omega
      refine Ev.step (f := fun _ => some (m : Int)) (fun k => ?_) (by rw [Nat.gcd_zero_right]; exact Ev.now _)
      simp only [PB.drachmref01_Gcd.l0]
      rw [if_neg (by omega)]
    | succ n ih =>
      intro m y hy
      by_cases h0 : y = 0
      · subst h0
        refine Ev.step (f := fun _ => some (m : Int)) (fun k => ?_) (by rw [Nat.gcd_zero_right]; exact Ev.now _)
        simp only [PB.drachmref01_Gcd.l0]
        rw [if_neg (by omega)]
      · have hlt : m % y < y := Nat.mod_lt _ (by omega)
        rw [Nat.gcd_comm, Nat.gcd_rec, Nat.gcd_comm]
        refine Ev.step (fun k => ?_) (ih y (m % y) (by omega))
        simp only [PB.drachmref01_Gcd.l0]
        rw [if_pos (by omega), if_neg (by omega), Int.tmod_eq_emod_of_nonneg (by omega)]
        rfl
  by_cases h : -9223372036854775807 ≤ a ∧ -9223372036854775807 ≤ b
  · unfold gcdF
    rw [if_pos h]
    refine Ev.congr (f := fun k => PB.drachmref01_Gcd.j0 k a b false) (fun k => ?_) (Ev.step (fun k => ?_) (key b.natAbs a.natAbs b.natAbs (Nat.le_refl _)))
    · unfold PB.drachmref01_Gcd.f
      rw [refFits_eq, bs_, refFits_eq, bs_]
      unfold fits
      rw [decide_eq_true h.1, decide_eq_true h.2, if_pos rfl]
      rfl
    · simp only [PB.drachmref01_Gcd.j0]
      rw [if_neg (by decide), refsize_eq a h.1 a2, bs_, refsize_eq b h.2 b2, bs_]
  · have hz : gcdF a b = 0 := by unfold gcdF; rw [if_neg h]
    rw [hz]
    refine Ev.congr (f := fun k => PB.drachmref01_Gcd.j0 k a b true) (fun k => ?_) (Ev.step (f := fun _ => some 0) (fun k => ?_) (Ev.now _))
    · unfold PB.drachmref01_Gcd.f
      rw [refFits_eq, bs_, refFits_eq, bs_]
      unfold fits
      by_cases h1 : -9223372036854775807 ≤ a
      · rw [decide_eq_true h1, decide_eq_false (show ¬ -9223372036854775807 ≤ b by omega), if_pos rfl]
        rfl
      · rw [decide_eq_false h1, if_neg (by decide)]
    · simp only [PB.drachmref01_Gcd.j0]
      rw [if_pos trivial]

/-! What is split: how often, and what is left. -/
theorem tdiv_lt {x by' : Int} (hx : x ≠ 0) (hb : 2 ≤ by') (hd : Int.tmod x by' = 0) : (Int.tdiv x by').natAbs < x.natAbs ∧ Int.tdiv x by' ≠ 0 ∧ Int.tdiv x by' * by' = x := by
  have h := Int.mul_tdiv_add_tmod x by'
  rw [hd, Int.add_zero] at h
  have h3 : Int.tdiv x by' * by' = x := by rw [Int.mul_comm]; exact h
  have h2 : Int.tdiv x by' ≠ 0 := fun e => by rw [e] at h3; omega
  refine ⟨?_, h2, h3⟩
  have h4 : x.natAbs = (Int.tdiv x by').natAbs * by'.natAbs := by rw [← Int.natAbs_mul, h3]
  rw [h4]
  have h5 : 2 ≤ by'.natAbs := by omega
  have h6 : (Int.tdiv x by').natAbs * 2 ≤ (Int.tdiv x by').natAbs * by'.natAbs := Nat.mul_le_mul_left _ h5
  omega
def splitL : Nat → Int → Int → Int → Int × Int
  | 0, x, _, k => (k, x)
  | n + 1, x, b, k => if Int.tmod x b = 0 then splitL n (Int.tdiv x b) b (k + 1) else (k, x)
def splitF (n b : Int) : Int × Int := if n = 0 ∨ b < 2 ∨ n < -9223372036854775807 then (0, n) else splitL n.natAbs n b 0
theorem tdiv_in {x b : Int} (hx : I64 x) (hb : 2 ≤ b) (h0 : x ≠ 0) (hd : Int.tmod x b = 0) : I64 (Int.tdiv x b) := by
  have := tdiv_lt h0 hb hd
  obtain ⟨x1, x2⟩ := hx
  unfold I64
  omega
theorem splitL_ev (b : Int) (hb : 2 ≤ b) : ∀ (n : Nat) (x k : Int), x ≠ 0 → x.natAbs ≤ n → I64 x → 0 ≤ k → k + n ≤ 9223372036854775807 → Ev (fun f => PB.whole_Split.l0 f x b k) (splitL n x b k) := by
  intro n
  induction n with
  | zero => intro x k h0 hn; omega
  | succ n ih =>
    intro x k h0 hn hx hk hkn
    unfold splitL
    by_cases hd : Int.tmod x b = 0
    · have ht := tdiv_lt h0 hb hd
      rw [if_pos hd]
      refine Ev.step (fun f => ?_) (ih (Int.tdiv x b) (k + 1) ht.2.1 (by omega) (tdiv_in hx hb h0 hd) (by omega) (by omega))
      have hi := tdiv_in hx hb h0 hd
      simp only [PB.whole_Split.l0]
      rw [if_neg (by omega), if_pos hd, w64 (x := Int.tdiv x b) hi.1 hi.2, w64 (x := k + 1) (by omega) (by omega)]
    · rw [if_neg hd]
      refine Ev.step (f := fun _ => some (k, x)) (fun f => ?_) (Ev.now _)
      simp only [PB.whole_Split.l0]
      rw [if_neg (by omega), if_neg hd]
theorem refSplitL_ev (b : Int) (hb : 2 ≤ b) : ∀ (n : Nat) (x k : Int), x ≠ 0 → x.natAbs ≤ n → I64 x → 0 ≤ k → k + n ≤ 9223372036854775807 → Ev (fun f => PB.drachmref01_Split.l0 f b k x) (splitL n x b k) := by
  intro n
  induction n with
  | zero => intro x k h0 hn; omega
  | succ n ih =>
    intro x k h0 hn hx hk hkn
    unfold splitL
    by_cases hd : Int.tmod x b = 0
    · have ht := tdiv_lt h0 hb hd
      rw [if_pos hd]
      refine Ev.step (fun f => ?_) (ih (Int.tdiv x b) (k + 1) ht.2.1 (by omega) (tdiv_in hx hb h0 hd) (by omega) (by omega))
      have hi := tdiv_in hx hb h0 hd
      simp only [PB.drachmref01_Split.l0]
      rw [if_neg (by omega), if_pos hd, w64 (x := Int.tdiv x b) hi.1 hi.2, w64 (x := k + 1) (by omega) (by omega)]
    · rw [if_neg hd]
      refine Ev.step (f := fun _ => some (k, x)) (fun f => ?_) (Ev.now _)
      simp only [PB.drachmref01_Split.l0]
      rw [if_neg (by omega), if_neg hd]
theorem Split_ev (n b : Int) (hn : I64 n) : Ev (fun k => PB.whole_Split.f k n b) (splitF n b) := by
  have hn' := hn
  obtain ⟨n1, n2⟩ := hn
  unfold splitF
  by_cases h : n = 0 ∨ b < 2 ∨ n < -9223372036854775807
  · rw [if_pos h]
    refine Ev.congr (f := fun k => PB.whole_Split.j0 k n b true) (fun k => ?_) (Ev.step (f := fun _ => some (0, n)) (fun k => ?_) (Ev.now _))
    · unfold PB.whole_Split.f
      by_cases h1 : n = 0
      · rw [if_pos h1]
      · rw [if_neg h1]
        by_cases h2 : b < 2
        · rw [if_pos h2]
        · rw [if_neg h2, Fits_eq, bs_]
          unfold fits
          rw [decide_eq_false (by omega)]
          rfl
    · simp only [PB.whole_Split.j0]
      rw [if_pos trivial]
  · rw [if_neg h]
    refine Ev.congr (f := fun k => PB.whole_Split.j0 k n b false) (fun k => ?_) (Ev.step (fun k => ?_) (splitL_ev b (by omega) n.natAbs n 0 (by omega) (Nat.le_refl _) hn' (by omega) (by omega)))
    · unfold PB.whole_Split.f
      rw [if_neg (by omega), if_neg (by omega), Fits_eq, bs_]
      unfold fits
      rw [decide_eq_true (by omega)]
      rfl
    · simp only [PB.whole_Split.j0]
      rw [if_neg (by decide)]
theorem refSplit_ev (n b : Int) (hn : I64 n) : Ev (fun k => PB.drachmref01_Split.f k n b) (splitF n b) := by
  have hn' := hn
  obtain ⟨n1, n2⟩ := hn
  unfold splitF
  by_cases h : n = 0 ∨ b < 2 ∨ n < -9223372036854775807
  · rw [if_pos h]
    refine Ev.congr (f := fun k => PB.drachmref01_Split.j0 k b true 0 n) (fun k => ?_) (Ev.step (f := fun _ => some (0, n)) (fun k => ?_) (Ev.now _))
    · unfold PB.drachmref01_Split.f
      rw [refFits_eq, bs_]
      unfold fits
      by_cases h1 : -9223372036854775807 ≤ n
      · rw [decide_eq_true h1, if_pos rfl]
        by_cases h2 : n = 0
        · rw [if_pos h2]
        · rw [if_neg h2, decide_eq_true (by omega)]
      · rw [decide_eq_false h1, if_neg (by decide)]
    · simp only [PB.drachmref01_Split.j0]
      rw [if_pos trivial]
  · rw [if_neg h]
    refine Ev.congr (f := fun k => PB.drachmref01_Split.j0 k b false 0 n) (fun k => ?_) (Ev.step (fun k => ?_) (refSplitL_ev b (by omega) n.natAbs n 0 (by omega) (Nat.le_refl _) hn' (by omega) (by omega)))
    · unfold PB.drachmref01_Split.f
      rw [refFits_eq, bs_]
      unfold fits
      rw [decide_eq_true (by omega), if_pos rfl, if_neg (by omega), decide_eq_false (by omega)]
    · simp only [PB.drachmref01_Split.j0]
      rw [if_neg (by decide)]
end Go.Proofs.YtnndaackjgnhhaaDoor.Wh
