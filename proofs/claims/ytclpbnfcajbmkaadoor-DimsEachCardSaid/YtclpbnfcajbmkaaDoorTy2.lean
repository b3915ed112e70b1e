/- Reading the text of seven numbers: both readers come to the numbers. No conditions but those in each theorem. -/
import Derived.Test.YtclpbnfcajbmkaaDoorDi9
import Derived.Test.YtclpbnfcajbmkaaDoorDi10
namespace Go.Proofs.YtclpbnfcajbmkaaDoor.Di
open Go Go.RowKit Go.Proofs Go.Proofs.YtclpbnfcajbmkaaDoor Go.Proofs.YtclpbnfcajbmkaaDoor.PB Go.Proofs.YtclpbnfcajbmkaaDoorW.PrintWords Go.Proofs.YtclpbnfcajbmkaaDoorW.PrintLast Go.Proofs.YtclpbnfcajbmkaaDoorW.PrintMore
set_option linter.unusedSimpArgs false
set_option linter.unusedVariables false
/-- The pairs of a row of powers. -/
def Pairs (l : List (Nat × Int)) : Prop := ∀ x ∈ l, x.1 < 7 ∧ -99 ≤ x.2 ∧ x.2 ≤ 99
def setAll (l : List (Nat × Int)) (f : Nat → Int) : Nat → Int := l.foldl (fun f x => upd f x.1 x.2) f
theorem itoa_tab : ((List.range 199).map fun (i : Nat) => ((Lib.itoa ((i : Int) - 99)).all nl, (match Lib.atoiAll (Lib.itoa ((i : Int) - 99)) with | .ok v => decide (v = (i : Int) - 99) | _ => false))) = ((List.range 199).map fun _ => (true, true)) := by kernel_rfl
theorem itoa_facts (v : Int) (h0 : -99 ≤ v) (h1 : v ≤ 99) : (Lib.itoa v).all nl = true ∧ Lib.atoiAll (Lib.itoa v) = .ok v := by
  have h := congrArg (fun l => l[(v + 99).toNat]?) itoa_tab
  simp only [List.getElem?_map, List.getElem?_range (show (v + 99).toNat < 199 by omega), Option.map_some] at h
  have e : (((v + 99).toNat : Nat) : Int) - 99 = v := by omega
  rw [e] at h
  have h := Option.some.inj h
  simp only [Prod.mk.injEq] at h
  refine ⟨h.1, ?_⟩
  have h2 := h.2
  split at h2
  · rename_i x hx
    rw [hx, of_decide_eq_true h2]
  · cases h2
theorem letter_nl (i : Nat) (h : i < 7) : nl (letter i) = false ∧ Lib.indexByte [109, 115, 103, 114, 107, 99, 100] (letter i) = (i : Int) := by
  have : i = 0 ∨ i = 1 ∨ i = 2 ∨ i = 3 ∨ i = 4 ∨ i = 5 ∨ i = 6 := by omega
  rcases this with rfl | rfl | rfl | rfl | rfl | rfl | rfl <;> exact ⟨rfl, rfl⟩
theorem take_all {p : UInt8 → Bool} : ∀ (a b : List UInt8), a.all p = true → (b = [] ∨ ∃ c t, b = c :: t ∧ p c = false) → (a ++ b).takeWhile p = a ∧ (a ++ b).dropWhile p = b
  | [], b, _, hb => by
    rcases hb with rfl | ⟨c, t, rfl, hc⟩
    · exact ⟨rfl, rfl⟩
    · rw [List.nil_append, List.takeWhile_cons, List.dropWhile_cons, hc]
      exact ⟨rfl, rfl⟩
  | c :: a, b, ha, hb => by
    rw [List.all_cons, Bool.and_eq_true] at ha
    have ih := take_all a b ha.2 hb
    rw [List.cons_append, List.takeWhile_cons, List.dropWhile_cons, ha.1]
    simp only [if_true]
    exact ⟨by rw [ih.1], ih.2⟩
theorem dtx_cons (x : Nat × Int) (l : List (Nat × Int)) : dtx (x :: l) = letter x.1 :: (Lib.itoa x.2 ++ dtx l) := by simp [dtx]
theorem dtx_head : ∀ l, Pairs l → (dtx l = [] ∨ ∃ c t, dtx l = c :: t ∧ nl c = false)
  | [], _ => .inl rfl
  | x :: l, h => .inr ⟨_, _, dtx_cons x l, (letter_nl x.1 (h x (List.mem_cons_self ..)).1).1⟩
/-- The program's reader. -/
theorem rdL_dtx : ∀ l, Pairs l → ∀ k f, (dtx l).length ≤ k → rdL k (dtx l) f = some (setAll l f)
  | [], _, k, f, _ => by cases k <;> rfl
  | x :: l, h, k, f, hk => by
    have hx := h x (List.mem_cons_self ..)
    have hl : Pairs l := fun y hy => h y (List.mem_cons_of_mem _ hy)
    have hi := itoa_facts x.2 hx.2.1 hx.2.2
    have ht := take_all (p := nl) (Lib.itoa x.2) (dtx l) hi.1 (dtx_head l hl)
    rw [dtx_cons] at hk ⊢
    cases k with
    | zero => simp at hk
    | succ k =>
      rw [rdL, ht.1, ht.2, hi.2, (letter_nl x.1 hx.1).2]
      simp only [if_neg (show ¬ ((x.1 : Int) < 0) by omega), Int.toNat_natCast]
      rw [rdL_dtx l hl k _ (by simp at hk; omega)]
      rfl
theorem upd_same (f : Nat → Int) (b : Nat) (x y : Int) : upd (upd f b x) b y = upd f b y := by
  funext q
  unfold upd
  split <;> rfl
theorem upd_at (f : Nat → Int) (b : Nat) (x : Int) : upd f b x b = x := by simp [upd]
/-- The digits of a small number. -/
def dig (u : Nat) : List UInt8 := if u < 10 then [UInt8.ofNat (48 + u)] else [UInt8.ofNat (48 + u / 10), UInt8.ofNat (48 + u % 10)]
theorem dig_tab : ((List.range 199).map fun (i : Nat) => Lib.itoa ((i : Int) - 99)) = ((List.range 199).map fun (i : Nat) => if i < 99 then 45 :: dig (99 - i) else dig (i - 99)) := by kernel_rfl
theorem itoa_dig (v : Int) (h0 : -99 ≤ v) (h1 : v ≤ 99) : Lib.itoa v = if v < 0 then 45 :: dig v.natAbs else dig v.natAbs := by
  have h := congrArg (fun l => l[(v + 99).toNat]?) dig_tab
  simp only [List.getElem?_map, List.getElem?_range (show (v + 99).toNat < 199 by omega), Option.map_some] at h
  have e : (((v + 99).toNat : Nat) : Int) - 99 = v := by omega
  rw [e] at h
  rw [Option.some.inj h]
  by_cases hv : v < 0
  · rw [if_pos hv, if_pos (by omega), show 99 - (v + 99).toNat = v.natAbs from by omega]
  · rw [if_neg hv, if_neg (by omega), show (v + 99).toNat - 99 = v.natAbs from by omega]
theorem digit_nat (d : Nat) (h : d < 10) : ((UInt8.ofNat (48 + d)).toNat : Int) = 48 + d := by
  rw [UInt8.toNat_ofNat']
  omega
theorem rrL_digit (d : Nat) (hd : d < 10) (t : List UInt8) (b : Nat) (sg : Int) (f : Nat → Int) (hf : -99 ≤ f b ∧ f b ≤ 99) (hs : sg = 1 ∨ sg = -1) :
    rrL (UInt8.ofNat (48 + d) :: t) b sg f = rrL t b sg (upd f b (f b * 10 + sg * d)) := by
  have hn := digit_nat d hd
  rw [rrL, hn, if_neg (by omega), if_pos (by omega), if_pos hf, show (48 + (d : Int)) - 48 = d from by omega]
  rw [wrap_small (sg * d) (by rcases hs with rfl | rfl <;> omega) (by rcases hs with rfl | rfl <;> omega), wrap_small _ (by rcases hs with rfl | rfl <;> omega) (by rcases hs with rfl | rfl <;> omega)]
theorem rrL_dig (u : Nat) (hu : u ≤ 99) (t : List UInt8) (b : Nat) (sg : Int) (f : Nat → Int) (hf : f b = 0) (hs : sg = 1 ∨ sg = -1) : rrL (dig u ++ t) b sg f = rrL t b sg (upd f b (sg * u)) := by
  unfold dig
  by_cases h : u < 10
  · rw [if_pos h, List.cons_append, List.nil_append, rrL_digit u h t b sg f (by omega) hs, hf, Int.zero_mul, Int.zero_add]
  · rw [if_neg h, List.cons_append, List.cons_append, List.nil_append, rrL_digit (u / 10) (by omega) _ b sg f (by omega) hs, hf, Int.zero_mul, Int.zero_add,
      rrL_digit (u % 10) (by omega) t b sg _ (by rw [upd_at]; rcases hs with rfl | rfl <;> omega) hs, upd_at, upd_same]
    congr 2
    rcases hs with rfl | rfl <;> omega
theorem rrL_itoa (v : Int) (h0 : -99 ≤ v) (h1 : v ≤ 99) (t : List UInt8) (b : Nat) (f : Nat → Int) (hf : f b = 0) : ∃ sg, rrL (Lib.itoa v ++ t) b 1 f = rrL t b sg (upd f b v) := by
  rw [itoa_dig v h0 h1]
  by_cases hv : v < 0
  · refine ⟨-1, ?_⟩
    rw [if_pos hv, List.cons_append, rrL, if_pos (by decide), rrL_dig _ (by omega) t b (-1) f hf (.inr rfl)]
    congr 2
    omega
  · refine ⟨1, ?_⟩
    rw [if_neg hv, rrL_dig _ (by omega) t b 1 f hf (.inl rfl)]
    congr 2
    omega
/-- Places that rise. -/
def Rise : Nat → List (Nat × Int) → Prop
  | _, [] => True
  | m, x :: l => m ≤ x.1 ∧ Rise (x.1 + 1) l
/-- The document's reader. -/
theorem rrL_dtx : ∀ l m, Pairs l → Rise m l → ∀ b sg f, (∀ q, m ≤ q → f q = 0) → rrL (dtx l) b sg f = some (setAll l f)
  | [], _, _, _, b, sg, f, _ => rfl
  | x :: l, m, h, hr, b, sg, f, hz => by
    have hx := h x (List.mem_cons_self ..)
    have hl : Pairs l := fun y hy => h y (List.mem_cons_of_mem _ hy)
    obtain ⟨s2, e⟩ := rrL_itoa x.2 hx.2.1 hx.2.2 (dtx l) x.1 f (hz x.1 hr.1)
    have hn : ¬ ((letter x.1).toNat : Int) = 45 ∧ ¬ (48 ≤ ((letter x.1).toNat : Int) ∧ ((letter x.1).toNat : Int) ≤ 57) := by
      have hx1 := hx.1
      have : x.1 = 0 ∨ x.1 = 1 ∨ x.1 = 2 ∨ x.1 = 3 ∨ x.1 = 4 ∨ x.1 = 5 ∨ x.1 = 6 := by omega
      rcases this with e | e | e | e | e | e | e <;> rw [e] <;> decide
    rw [dtx_cons, rrL, if_neg hn.1, if_neg hn.2, (letter_nl x.1 hx.1).2, if_neg (by omega), Int.toNat_natCast, e, rrL_dtx l (x.1 + 1) hl hr.2 x.1 s2 _ (by
      intro q hq
      show (if q = x.1 then x.2 else f q) = 0
      rw [if_neg (by omega)]
      exact hz q (by have := hr.1; omega))]
    rfl
end Go.Proofs.YtclpbnfcajbmkaaDoor.Di
