/- What both readers tell. No conditions but those in each theorem. -/
import Derived.Test.YtclpbnfcajbmkaaDoorTy2
namespace Go.Proofs.YtclpbnfcajbmkaaDoor.Di
open Go Go.RowKit Go.Proofs Go.Proofs.YtclpbnfcajbmkaaDoor Go.Proofs.YtclpbnfcajbmkaaDoor.PB Go.Proofs.YtclpbnfcajbmkaaDoorW.PrintWords Go.Proofs.YtclpbnfcajbmkaaDoorW.PrintLast Go.Proofs.YtclpbnfcajbmkaaDoorW.PrintMore
set_option linter.unusedSimpArgs false
set_option linter.unusedVariables false
def cutF (f : Nat → Int) (k : Nat) : Nat → Int := fun q => if q < k then f q else 0
theorem L7_at (f : Nat → Int) (j : Nat) (h : j < 7) : (L7 f)[j]?.getD 0 = f j := by
  have : j = 0 ∨ j = 1 ∨ j = 2 ∨ j = 3 ∨ j = 4 ∨ j = 5 ∨ j = 6 := by omega
  rcases this with rfl | rfl | rfl | rfl | rfl | rfl | rfl <;> rfl
theorem nz_next (f : Nat → Int) (k : Nat) (h : k < 7) : nz (L7 f) (k + 1) = if f k = 0 then nz (L7 f) k else nz (L7 f) k ++ [(k, f k)] := by
  show (if (L7 f)[k]?.getD 0 = 0 then nz (L7 f) k else nz (L7 f) k ++ [(k, (L7 f)[k]?.getD 0)]) = _
  rw [L7_at f k h]
theorem rise_snoc : ∀ (l : List (Nat × Int)) (m k : Nat) (v : Int), Rise m l → (∀ x ∈ l, x.1 < k) → m ≤ k → Rise m (l ++ [(k, v)])
  | [], m, k, v, _, _, h => ⟨h, trivial⟩
  | x :: l, m, k, v, hr, hl, h => ⟨hr.1, rise_snoc l (x.1 + 1) k v hr.2 (fun y hy => hl y (List.mem_cons_of_mem _ hy)) (hl x (List.mem_cons_self ..))⟩
theorem nz_facts (f : Nat → Int) (hR : allR (L7 f) = true) : ∀ k, k ≤ 7 → Pairs (nz (L7 f) k) ∧ Rise 0 (nz (L7 f) k) ∧ (∀ x ∈ nz (L7 f) k, x.1 < k) ∧ setAll (nz (L7 f) k) (fun _ => 0) = cutF f k
  | 0, _ => ⟨fun x h => (by cases h), trivial, fun x h => (by cases h), by funext q; show (0 : Int) = if q < 0 then f q else 0; rw [if_neg (by omega)]⟩
  | k + 1, h => by
    obtain ⟨h1, h2, h3, h4⟩ := nz_facts f hR k (by omega)
    have hb := (allR_iff f).1 hR k (by omega)
    rw [nz_next f k (by omega)]
    split
    · rename_i h0
      refine ⟨h1, h2, fun x hx => by have := h3 x hx; omega, ?_⟩
      rw [h4]
      funext q
      unfold cutF
      by_cases hq : q < k
      · rw [if_pos hq, if_pos (by omega)]
      · rw [if_neg hq]
        by_cases hq1 : q < k + 1
        · rw [if_pos hq1, show q = k from by omega, h0]
        · rw [if_neg hq1]
    · refine ⟨?_, rise_snoc _ 0 k _ h2 h3 (by omega), ?_, ?_⟩
      · intro x hx
        rw [List.mem_append, List.mem_singleton] at hx
        rcases hx with hx | rfl
        · exact h1 x hx
        · exact ⟨by show k < 7; omega, hb⟩
      · intro x hx
        rw [List.mem_append, List.mem_singleton] at hx
        rcases hx with hx | rfl
        · have := h3 x hx; omega
        · show k < k + 1; omega
      · unfold setAll at h4 ⊢
        rw [List.foldl_append, h4]
        funext q
        show (if q = k then f k else cutF f k q) = cutF f (k + 1) q
        unfold cutF
        by_cases hq : q = k
        · rw [if_pos hq, if_pos (by omega), hq]
        · rw [if_neg hq]
          by_cases hq1 : q < k
          · rw [if_pos hq1, if_pos (by omega)]
          · rw [if_neg hq1, if_neg (by omega)]
theorem L7_cut (f : Nat → Int) : L7 (cutF f 7) = L7 f := rfl
theorem out8_cut (f : Nat → Int) (b : Bool) : out8 (cutF f 7, b) = out8 (f, b) := rfl
theorem read_yes (f : Nat → Int) (hR : allR (L7 f) = true) (k : Nat) (hk : (dtx (nz (L7 f) 7)).length ≤ k) : rdOut (dtx (nz (L7 f) 7)) (rdL k (dtx (nz (L7 f) 7)) fun _ => 0) = (cutF f 7, true) := by
  obtain ⟨h1, h2, h3, h4⟩ := nz_facts f hR 7 (Nat.le_refl _)
  rw [rdL_dtx _ h1 k _ hk, h4]
  exact if_pos ⟨hR, rfl⟩
theorem ref_yes (f : Nat → Int) (hR : allR (L7 f) = true) : rdOut (dtx (nz (L7 f) 7)) (rrL (dtx (nz (L7 f) 7)) 0 1 fun _ => 0) = (cutF f 7, true) := by
  obtain ⟨h1, h2, h3, h4⟩ := nz_facts f hR 7 (Nat.le_refl _)
  rw [rrL_dtx _ 0 h1 h2 0 1 _ (fun q _ => rfl), h4]
  exact if_pos ⟨hR, rfl⟩
theorem out_cases (s : List UInt8) (R : Option (Nat → Int)) : (∃ f, allR (L7 f) = true ∧ dtx (nz (L7 f) 7) = s ∧ rdOut s R = (f, true)) ∨ rdOut s R = (fun _ => 0, false) := by
  cases R with
  | none => exact .inr rfl
  | some f =>
    by_cases h : allR (L7 f) = true ∧ dtx (nz (L7 f) 7) = s
    · exact .inl ⟨f, h.1, h.2, if_pos h⟩
    · exact .inr (if_neg h)
/-- Both readers tell the same. -/
theorem both_read (s : List UInt8) : rdOut s (rdL s.length s fun _ => 0) = rdOut s (rrL s 0 1 fun _ => 0) := by
  by_cases h : ∃ f, allR (L7 f) = true ∧ dtx (nz (L7 f) 7) = s
  · obtain ⟨f, hR, rfl⟩ := h
    rw [read_yes f hR _ (Nat.le_refl _), ref_yes f hR]
  · rcases out_cases s (rdL s.length s fun _ => 0) with ⟨f, h1, h2, _⟩ | h1
    · exact absurd ⟨f, h1, h2⟩ h
    · rcases out_cases s (rrL s 0 1 fun _ => 0) with ⟨f, h3, h4, _⟩ | h3
      · exact absurd ⟨f, h3, h4⟩ h
      · rw [h1, h3]
def readV (s : ByteArray) : (Nat → Int) × Bool := rdOut s.data.toList (rdL s.size s.data.toList fun _ => 0)
theorem dimsRead_val (s : ByteArray) (h : s.size ≤ 281474976710656) : dims_Read.f s = some (out8 (readV s)) := by
  unfold dims_Read.f readV
  rw [if_pos h]
  rfl
theorem refRead_val (s : ByteArray) (h : s.size ≤ 281474976710656) : drachmref03_Read.f s = some (out8 (readV s)) := by
  unfold drachmref03_Read.f readV
  rw [if_pos h]
  exact congrArg (fun x => some (out8 x)) (both_read s.data.toList).symm
theorem readV_text (f : Nat → Int) (hR : allR (L7 f) = true) : readV (textOf f) = (cutF f 7, true) := by
  unfold textOf readV
  rw [if_pos hR]
  exact read_yes f hR _ (Nat.le_refl _)
theorem readV_cases (s : ByteArray) : (∃ f, allR (L7 f) = true ∧ textOf f = s ∧ readV s = (f, true)) ∨ readV s = (fun _ => 0, false) := by
  rcases out_cases s.data.toList (rdL s.size s.data.toList fun _ => 0) with ⟨f, h1, h2, h3⟩ | h
  · refine .inl ⟨f, h1, ?_, h3⟩
    unfold textOf
    rw [if_pos h1, h2]
  · exact .inr h
theorem textOf_size (f : Nat → Int) : (textOf f).size ≤ 200 := by
  unfold textOf
  split
  · rename_i h
    have := dtx_len f h 7 (Nat.le_refl _)
    show (dtx (nz (L7 f) 7)).length ≤ 200
    omega
  · decide
theorem fn7_0 (a0 a1 a2 a3 a4 a5 a6 : Int) : L7 (fn7 a0 a1 a2 a3 a4 a5 a6) = [a0, a1, a2, a3, a4, a5, a6] := rfl
theorem text_fn (a0 a1 a2 a3 a4 a5 a6 : Int) : dims_Text.f a0 a1 a2 a3 a4 a5 a6 = some (textOf (fn7 a0 a1 a2 a3 a4 a5 a6)) := rfl
theorem reftext_fn (a0 a1 a2 a3 a4 a5 a6 : Int) (k : Nat) (hk : 12 ≤ k) : drachmref03_Text.f k a0 a1 a2 a3 a4 a5 a6 = some (textOf (fn7 a0 a1 a2 a3 a4 a5 a6)) := refText_val (fn7 a0 a1 a2 a3 a4 a5 a6) k hk
theorem tm_range (m x : Int) (h : 0 ≤ m) : -m ≤ tm m x ∧ tm m x ≤ m := by
  unfold tm
  have h1 := Int.tmod_lt_of_pos x (show 0 < m + 1 by omega)
  have h2 : -(m + 1) < Int.tmod x (m + 1) := by
    have := Int.tmod_lt_of_pos (-x) (show 0 < m + 1 by omega)
    rw [Int.neg_tmod] at this
    omega
  omega
theorem all7 {a0 a1 a2 a3 a4 a5 a6 : Int} (h0 : -99 ≤ a0 ∧ a0 ≤ 99) (h1 : -99 ≤ a1 ∧ a1 ≤ 99) (h2 : -99 ≤ a2 ∧ a2 ≤ 99) (h3 : -99 ≤ a3 ∧ a3 ≤ 99) (h4 : -99 ≤ a4 ∧ a4 ≤ 99) (h5 : -99 ≤ a5 ∧ a5 ≤ 99) (h6 : -99 ≤ a6 ∧ a6 ≤ 99) : allR [a0, a1, a2, a3, a4, a5, a6] = true := by
  simp [allR, h0, h1, h2, h3, h4, h5, h6]
theorem all7_of {a0 a1 a2 a3 a4 a5 a6 : Int} (h : allR [a0, a1, a2, a3, a4, a5, a6] = true) : (-99 ≤ a0 ∧ a0 ≤ 99) ∧ (-99 ≤ a1 ∧ a1 ≤ 99) ∧ (-99 ≤ a2 ∧ a2 ≤ 99) ∧ (-99 ≤ a3 ∧ a3 ≤ 99) ∧ (-99 ≤ a4 ∧ a4 ≤ 99) ∧ (-99 ≤ a5 ∧ a5 ≤ 99) ∧ (-99 ≤ a6 ∧ a6 ≤ 99) := by
  simpa [allR] using h
theorem tm_99 (a0 a1 a2 a3 a4 a5 a6 m : Int) (h : 0 ≤ m) (h9 : m ≤ 99) : allR [tm m a0, tm m a1, tm m a2, tm m a3, tm m a4, tm m a5, tm m a6] = true := by
  have t := fun x => tm_range m x h
  refine all7 ?_ ?_ ?_ ?_ ?_ ?_ ?_
  · have := t a0; omega
  · have := t a1; omega
  · have := t a2; omega
  · have := t a3; omega
  · have := t a4; omega
  · have := t a5; omega
  · have := t a6; omega
end Go.Proofs.YtclpbnfcajbmkaaDoor.Di
