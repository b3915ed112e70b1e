/- How a frac's text is written, by both. Conditions: 64-bit numbers. -/
import Derived.Test.YthfibffgmoblaaaDoorTx2
import Derived.Test.YthfibffgmoblaaaDoorFr4r
import Derived.Test.YthfibffgmoblaaaDoorFr5
import Derived.Test.YthfibffgmoblaaaDoorPEx
import Derived.Test.YthfibffgmoblaaaDoorPTx
namespace Go.Proofs.YthfibffgmoblaaaDoor.Tx
open Go.RowKit Go.Lib Go.Proofs.YthfibffgmoblaaaDoor.Fr Go.Proofs.YthfibffgmoblaaaDoor.Wh Go.Proofs.YthfibffgmoblaaaDoor.PB Go.Proofs.YthfibffgmoblaaaDoor.PC Go.Proofs.YthfibffgmoblaaaDoor.PE Go.Proofs.YthfibffgmoblaaaDoor.PT Go.Proofs.YthfibffgmoblaaaDoorW.PrintWords Go.Proofs.YthfibffgmoblaaaDoorW.PrintLast Go.Proofs.YthfibffgmoblaaaDoorW.PrintMore
set_option linter.unusedVariables false
theorem one_ (x : Int) (u : Nat) (h : u < 10) (e : x = 48 + u) : strOfNums [wrap64 x % 256] = B [UInt8.ofNat (48 + u)] := by
  subst e
  rw [w64 (by omega) (by omega)]
  unfold strOfNums B
  rw [List.map_singleton]
  congr 4
  omega
theorem digits_loop : ∀ (u : Nat) (r : List UInt8), u ≤ 9223372036854775807 → r.length + (decDigits u).length ≤ 1000 → Ev (fun k => drachmref02_digits.l0 k (u : Int) (B r)) (B (decDigits u ++ r)) := by
  intro u
  induction u using Nat.strongRecOn with
  | ind u ih =>
    intro r hu hr
    by_cases h : u < 10
    · refine Ev.step (f := fun _ => some (B (decDigits u ++ r))) (fun k => ?_) (Ev.now _)
      simp only [drachmref02_digits.l0]
      unfold decDigits at hr ⊢
      rw [dif_pos h] at hr ⊢
      rw [if_neg (by omega), bs_, one_ _ u h (by omega), B_size, B_size, if_pos (by simp at hr ⊢; omega), B_app]
    · have hm : u % 10 < 10 := Nat.mod_lt _ (by omega)
      have ed : decDigits u = decDigits (u / 10) ++ [UInt8.ofNat (48 + u % 10)] := by
        conv => lhs; unfold decDigits
        rw [dif_neg h]
      rw [ed, List.length_append, List.length_singleton] at hr
      rw [ed, List.append_assoc]
      refine Ev.step (fun k => ?_) (ih (u / 10) (by omega) ([UInt8.ofNat (48 + u % 10)] ++ r) (by omega) (by simp; omega))
      simp only [drachmref02_digits.l0]
      have e1 : Int.tmod (u : Int) 10 = ((u % 10 : Nat) : Int) := by rw [Int.tmod_eq_emod_of_nonneg (by omega)]; omega
      have e2 : Int.tdiv (u : Int) 10 = ((u / 10 : Nat) : Int) := by rw [Int.tdiv_eq_ediv_of_nonneg (by omega)]; omega
      rw [if_pos (by omega), bs_, e1, e2, one_ _ (u % 10) hm (by omega), B_size, B_size, if_pos (by simp; omega), B_app, w64 (by omega) (by omega)]
theorem digits_ev (u : Nat) (hu : u ≤ 9223372036854775807) : Ev (fun k => drachmref02_digits.f k (u : Int)) (B (decDigits u)) := by
  have := digits_loop u [] hu (by have := dec_len u hu; simp; omega)
  rw [List.append_nil] at this
  exact this
theorem signed_ev {n : Int} (h : Fit n) : Ev (fun k => drachmref02_signed.f k n) (B (itoa n)) := by
  unfold Fit at h
  by_cases hn : n < 0
  · obtain ⟨u, rfl⟩ : ∃ u : Nat, n = -(u : Int) := ⟨n.natAbs, by omega⟩
    have hl := dec_len u (by omega)
    refine Ev.congr (f := fun k => (drachmref02_digits.f k (u : Int)).bind fun t107 => (if 1 + t107.size ≤ 9223372036854775807 then (some ((⟨#[45]⟩ : ByteArray) ++ t107)) else (none))) (fun k => ?_) ((digits_ev u (by omega)).bind (Ev.congr (f := fun _ => some (B (itoa (-(u : Int))))) (fun k => ?_) (Ev.now _)))
    · unfold drachmref02_signed.f
      rw [if_pos hn, w64 (by omega) (by omega), Int.neg_neg]
    · rw [B_size, if_pos (by omega), itoa_neg u (by omega)]
      rw [show (⟨#[45]⟩ : ByteArray) = B [45] from rfl, B_app]
      rfl
  · obtain ⟨u, rfl⟩ : ∃ u : Nat, n = (u : Int) := ⟨n.toNat, by omega⟩
    refine Ev.congr (f := fun k => (drachmref02_digits.f k (u : Int)).bind fun t108 => some t108) (fun k => ?_) ((digits_ev u (by omega)).bind (by rw [itoa_nonneg]; exact Ev.now _))
    unfold drachmref02_signed.f
    rw [if_neg hn]
theorem RText_ev {n d t : Int} (i : I64 n) (id : I64 d) : Ev (fun k => drachmref02_Text.f k n d t) (B (text n d t)) := by
  obtain ⟨K, hK⟩ := refRight_ev (t := t) i id
  unfold text
  by_cases hr : RD n d t = true
  · rw [hr] at hK
    rw [if_pos hr]
    obtain ⟨fn, fd, ft, hd⟩ := RD_fit hr id
    obtain ⟨K1, h1⟩ := signed_ev fn
    obtain ⟨K2, h2⟩ := signed_ev ft
    obtain ⟨u, rfl⟩ : ∃ u : Nat, d = (u : Int) := ⟨d.toNat, by omega⟩
    obtain ⟨K3, h3⟩ := digits_ev u (by unfold Fit at fd; omega)
    have l1 := itoa_len fn
    have l2 := itoa_len ft
    have l3 := dec_len u (by unfold Fit at fd; omega)
    refine ⟨K + K1 + K2 + K3, fun k hk => ?_⟩
    show drachmref02_Text.f k n (u : Int) t = _
    simp only at hK h1 h2 h3
    unfold drachmref02_Text.f txt
    rw [hK k (by omega), bs_, if_pos rfl, h1 k (by omega), bs_, h2 k (by omega), h3 k (by omega)]
    simp only [bs_, show (⟨#[101]⟩ : ByteArray) = B [101] from rfl, show (⟨#[47]⟩ : ByteArray) = B [47] from rfl, B_app, B_size, List.length_append, List.length_singleton]
    rw [itoa_nonneg]
    by_cases hd1 : (u : Int) = 1
    · by_cases ht : t = 0
      · simp [hd1, ht]
      · rw [if_pos hd1, if_neg ht, if_pos (by omega), if_pos (by omega), if_pos hd1, if_neg ht]
        simp
    · by_cases ht : t = 0
      · rw [if_neg hd1, if_pos (by omega), if_pos (by omega), if_pos ht, if_neg hd1, if_pos ht]
        simp
      · rw [if_neg hd1, if_pos (by omega), if_pos (by omega), if_neg ht, if_pos (by omega), if_pos (by omega), if_neg hd1, if_neg ht]
        simp
  · rw [show RD n d t = false from by simpa using hr] at hK
    rw [if_neg hr]
    refine ⟨K, fun k hk => ?_⟩
    show drachmref02_Text.f k n d t = _
    simp only at hK
    unfold drachmref02_Text.f
    rw [hK k hk, bs_, if_neg (by simp)]
    rfl
end Go.Proofs.YthfibffgmoblaaaDoor.Tx
