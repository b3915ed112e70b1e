/- The text of seven numbers by the document is the text by the program. No conditions but those in each theorem. -/
import Derived.Test.YtclpbnfcajbmkaaDoorPBx
import Derived.KernelRfl
namespace Go.Proofs.YtclpbnfcajbmkaaDoor.Di
open Go Go.RowKit Go.Proofs Go.Proofs.YtclpbnfcajbmkaaDoor Go.Proofs.YtclpbnfcajbmkaaDoor.PB Go.Proofs.YtclpbnfcajbmkaaDoorW.PrintWords Go.Proofs.YtclpbnfcajbmkaaDoorW.PrintLast Go.Proofs.YtclpbnfcajbmkaaDoorW.PrintMore
set_option linter.unusedSimpArgs false
theorem lift_mono {α : Type} {F : Nat → Option α} (h : ∀ k, LeO (F k) (F (k + 1))) {k : Nat} {v : α} (hk : F k = some v) : ∀ d, F (k + d) = some v
  | 0 => hk
  | d + 1 => h (k + d) v (lift_mono h hk d)
theorem digits_tab : ((List.range 199).map fun (i : Nat) => drachmref03_digits.f 4 ((i : Int) - 99)) = ((List.range 199).map fun (i : Nat) => some (ByteArray.mk (Lib.itoa ((i : Int) - 99)).toArray)) := by kernel_rfl
theorem digits_val (v : Int) (h0 : -99 ≤ v) (h1 : v ≤ 99) (k : Nat) (hk : 4 ≤ k) : drachmref03_digits.f k v = some ⟨(Lib.itoa v).toArray⟩ := by
  obtain ⟨d, rfl⟩ : ∃ d, k = 4 + d := ⟨k - 4, by omega⟩
  refine lift_mono (drachmref03_digits.mono v) ?_ d
  have h := congrArg (fun l => l[(v + 99).toNat]?) digits_tab
  simp only [List.getElem?_map, List.getElem?_range (show (v + 99).toNat < 199 by omega), Option.map_some] at h
  have e : (((v + 99).toNat : Nat) : Int) - 99 = v := by omega
  rw [e] at h
  exact Option.some.inj h
theorem wrap_small (x : Int) (h0 : -9223372036854775808 ≤ x) (h1 : x ≤ 9223372036854775807) : wrap64 x = x := by
  unfold wrap64 
  omega
theorem rd7 (f : Nat → Int) (j : Nat) (h : j < 7) : rd (L7 f) (j : Int) = f j := by
  have : j = 0 ∨ j = 1 ∨ j = 2 ∨ j = 3 ∨ j = 4 ∨ j = 5 ∨ j = 6 := by omega
  rcases this with rfl | rfl | rfl | rfl | rfl | rfl | rfl <;> rfl
theorem cut_letter (j : Nat) (h : j < 7) : (ByteArray.mk #[109, 115, 103, 114, 107, 99, 100]).extract j (j + 1) = ⟨#[letter j]⟩ := by
  have : j = 0 ∨ j = 1 ∨ j = 2 ∨ j = 3 ∨ j = 4 ∨ j = 5 ∨ j = 6 := by omega
  rcases this with rfl | rfl | rfl | rfl | rfl | rfl | rfl <;> rfl
theorem app_mk (a b : List UInt8) : (ByteArray.mk a.toArray) ++ (ByteArray.mk b.toArray) = ⟨(a ++ b).toArray⟩ := by
  apply ByteArray.ext
  simp
theorem l0_step (f : Nat → Int) (hR : allR (L7 f) = true) (k : Nat) (hk : 4 ≤ k) (j : Nat) (hj : j < 7) (s : List UInt8) (hs : s.length ≤ 1000) :
    drachmref03_Text.l0 (k + 1) ⟨s.toArray⟩ (j : Int) (f 0) (f 1) (f 2) (f 3) (f 4) (f 5) (f 6) =
      drachmref03_Text.l0 k ⟨(if f j = 0 then s else s ++ letter j :: Lib.itoa (f j)).toArray⟩ ((j + 1 : Nat) : Int) (f 0) (f 1) (f 2) (f 3) (f 4) (f 5) (f 6) := by
  have hb := (allR_iff f).1 hR j hj
  have hl := Lib.itoa_length_le (f j) (by omega) (by omega)
  have hw : wrap64 ((j : Int) + 1) = ((j + 1 : Nat) : Int) := by rw [wrap_small _ (by omega) (by omega)]; omega
  rw [drachmref03_Text.l0, if_pos (by omega), if_pos (by omega), rd7 f j hj, hw]
  by_cases h0 : f j = 0
  · rw [if_pos h0, if_pos h0]
  · rw [if_neg h0, if_neg h0, if_pos (by omega), if_pos (by omega), Int.toNat_natCast, Int.toNat_natCast, cut_letter j hj, digits_val _ hb.1 hb.2 k hk, if_pos (by show s.length + 1 ≤ _; omega), Option.bind_some]
    have e : (ByteArray.mk s.toArray) ++ (ByteArray.mk #[letter j]) = ⟨(s ++ [letter j]).toArray⟩ := app_mk s [letter j]
    rw [e, app_mk, if_pos (by show (s ++ [letter j]).length + (Lib.itoa (f j)).length ≤ _; simp only [List.length_append, List.length_cons, List.length_nil]; omega)]
    simp
theorem dtx_nz (f : Nat → Int) (j : Nat) (hj : j < 7) : dtx (nz (L7 f) (j + 1)) = if f j = 0 then dtx (nz (L7 f) j) else dtx (nz (L7 f) j) ++ letter j :: Lib.itoa (f j) := by
  have e : (L7 f)[j]?.getD 0 = f j := by
    have : j = 0 ∨ j = 1 ∨ j = 2 ∨ j = 3 ∨ j = 4 ∨ j = 5 ∨ j = 6 := by omega
    rcases this with rfl | rfl | rfl | rfl | rfl | rfl | rfl <;> rfl
  show dtx (if (L7 f)[j]?.getD 0 = 0 then nz (L7 f) j else nz (L7 f) j ++ [(j, (L7 f)[j]?.getD 0)]) = _
  rw [e]
  split
  · rfl
  · rw [dtx_snoc]; simp
theorem dtx_len (f : Nat → Int) (hR : allR (L7 f) = true) : ∀ j, j ≤ 7 → (dtx (nz (L7 f) j)).length ≤ 22 * j
  | 0, _ => Nat.le_refl _
  | j + 1, h => by
    have ih := dtx_len f hR j (by omega)
    have hb := (allR_iff f).1 hR j (by omega)
    have hl := Lib.itoa_length_le (f j) (by omega) (by omega)
    rw [dtx_nz f j (by omega)]
    split
    · omega
    · simp; omega
theorem l0_upto (f : Nat → Int) (hR : allR (L7 f) = true) (k : Nat) (hk : 4 ≤ k) : ∀ j, j ≤ 7 → drachmref03_Text.l0 (k + 7) ⟨#[]⟩ 0 (f 0) (f 1) (f 2) (f 3) (f 4) (f 5) (f 6) =
      drachmref03_Text.l0 (k + (7 - j)) ⟨(dtx (nz (L7 f) j)).toArray⟩ (j : Int) (f 0) (f 1) (f 2) (f 3) (f 4) (f 5) (f 6)
  | 0, _ => rfl
  | j + 1, h => by
    rw [l0_upto f hR k hk j (by omega), show k + (7 - j) = (k + (7 - (j + 1))) + 1 from by omega, l0_step f hR _ (by omega) j (by omega) _ (by have := dtx_len f hR j (by omega); omega), dtx_nz f j (by omega)]
def textOf (f : Nat → Int) : ByteArray := if allR (L7 f) = true then ⟨(dtx (nz (L7 f) 7)).toArray⟩ else ⟨#[]⟩
theorem refText_val (f : Nat → Int) (k : Nat) (hk : 12 ≤ k) : drachmref03_Text.f k (f 0) (f 1) (f 2) (f 3) (f 4) (f 5) (f 6) = some (textOf f) := by
  unfold drachmref03_Text.f drachmref03_Right.f textOf
  rw [Option.bind_some]
  cases hR : allR (L7 f) with
  | false => rfl
  | true =>
    simp only [if_true]
    obtain ⟨d, rfl⟩ : ∃ d, k = d + 1 + 7 := ⟨k - 8, by omega⟩
    rw [l0_upto f hR (d + 1) (by omega) 7 (by omega)]
    show drachmref03_Text.l0 (d + 1) _ _ _ _ _ _ _ _ _ = _
    rw [drachmref03_Text.l0, if_neg (by decide)]
theorem dimsText_val (f : Nat → Int) : dims_Text.f (f 0) (f 1) (f 2) (f 3) (f 4) (f 5) (f 6) = some (textOf f) := rfl
end Go.Proofs.YtclpbnfcajbmkaaDoor.Di
