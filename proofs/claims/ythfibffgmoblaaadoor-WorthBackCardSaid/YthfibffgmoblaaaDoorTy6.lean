/- Sums and products of dims, as they are told. No conditions but those in each theorem. -/
import Derived.Test.YthfibffgmoblaaaDoorTy3
import Derived.Test.YthfibffgmoblaaaDoorDi5
namespace Go.Proofs.YthfibffgmoblaaaDoor.Di
open Go Go.RowKit Go.Proofs Go.Proofs.YthfibffgmoblaaaDoor Go.Proofs.YthfibffgmoblaaaDoorW.PrintWords Go.Proofs.YthfibffgmoblaaaDoorW.PrintLast Go.Proofs.YthfibffgmoblaaaDoorW.PrintMore
set_option linter.unusedSimpArgs false
set_option linter.unusedVariables false
def bd (m : Int) (l : List Int) : Prop := ∀ x ∈ l, -m ≤ x ∧ x ≤ m
theorem bd_iff (l : List Int) : allR l = true ↔ bd 99 l := by
  simp only [allR, bd, List.all_eq_true, Bool.and_eq_true, decide_eq_true_eq]
theorem bd_mono {m p : Int} {l : List Int} (h : bd m l) (hm : m ≤ p) : bd p l := fun x hx => by have := h x hx; omega
theorem mb {a b m p : Int} (h : -m ≤ a ∧ a ≤ m) (k : -p ≤ b ∧ b ≤ p) : -(m * p) ≤ a * b ∧ a * b ≤ m * p := by
  have hm : 0 ≤ m := by omega
  have hp : 0 ≤ p := by omega
  have h1 : a.natAbs ≤ m.toNat := by omega
  have h2 : b.natAbs ≤ p.toNat := by omega
  have h3 := Nat.mul_le_mul h1 h2
  rw [← Int.natAbs_mul] at h3
  have h4 : ((m.toNat * p.toNat : Nat) : Int) = m * p := by rw [Int.natCast_mul, Int.toNat_of_nonneg hm, Int.toNat_of_nonneg hp]
  omega
theorem bd7 {m a0 a1 a2 a3 a4 a5 a6 : Int} (h : bd m [a0, a1, a2, a3, a4, a5, a6]) : (-m ≤ a0 ∧ a0 ≤ m) ∧ (-m ≤ a1 ∧ a1 ≤ m) ∧ (-m ≤ a2 ∧ a2 ≤ m) ∧ (-m ≤ a3 ∧ a3 ≤ m) ∧ (-m ≤ a4 ∧ a4 ≤ m) ∧ (-m ≤ a5 ∧ a5 ≤ m) ∧ (-m ≤ a6 ∧ a6 ≤ m) := ⟨h a0 (by simp), h a1 (by simp), h a2 (by simp), h a3 (by simp), h a4 (by simp), h a5 (by simp), h a6 (by simp)⟩
theorem bd_mul {m p n a0 a1 a2 a3 a4 a5 a6 : Int} (h : bd m [a0, a1, a2, a3, a4, a5, a6]) (hn : -p ≤ n ∧ n ≤ p) : bd (m * p) [a0 * n, a1 * n, a2 * n, a3 * n, a4 * n, a5 * n, a6 * n] := by
  obtain ⟨h0, h1, h2, h3, h4, h5, h6⟩ := bd7 h
  intro x hx
  simp only [List.mem_cons, List.not_mem_nil, or_false] at hx
  rcases hx with rfl | rfl | rfl | rfl | rfl | rfl | rfl <;> exact mb ‹_› hn
theorem bd_add {m p a0 a1 a2 a3 a4 a5 a6 b0 b1 b2 b3 b4 b5 b6 : Int} (h : bd m [a0, a1, a2, a3, a4, a5, a6]) (k : bd p [b0, b1, b2, b3, b4, b5, b6]) : bd (m + p) [a0 + b0, a1 + b1, a2 + b2, a3 + b3, a4 + b4, a5 + b5, a6 + b6] := by
  obtain ⟨h0, h1, h2, h3, h4, h5, h6⟩ := bd7 h
  obtain ⟨k0, k1, k2, k3, k4, k5, k6⟩ := bd7 k
  intro x hx
  simp only [List.mem_cons, List.not_mem_nil, or_false] at hx
  rcases hx with rfl | rfl | rfl | rfl | rfl | rfl | rfl <;> omega
theorem eachP_ok (a0 a1 a2 a3 a4 a5 a6 : Int) (h : bd 99 [a0, a1, a2, a3, a4, a5, a6]) : eachP true a0 a1 a2 a3 a4 a5 a6 = (a0, a1, a2, a3, a4, a5, a6, true) := if_pos ⟨rfl, (bd_iff _).2 h⟩
theorem eachP_no (a0 a1 a2 a3 a4 a5 a6 : Int) (h : ¬ bd 99 [a0, a1, a2, a3, a4, a5, a6]) : eachP true a0 a1 a2 a3 a4 a5 a6 = (0, 0, 0, 0, 0, 0, 0, false) := if_neg (fun k => h ((bd_iff _).1 k.2))
theorem wrap_bd {x : Int} {m : Int} (h : -m ≤ x ∧ x ≤ m) (hm : m ≤ 1000000) : wrap64 x = x := wrap_small x (by omega) (by omega)
theorem times_val {n a0 a1 a2 a3 a4 a5 a6 : Int} (h : bd 99 [a0, a1, a2, a3, a4, a5, a6]) (hn : -99 ≤ n ∧ n ≤ 99) : dims_Times.f a0 a1 a2 a3 a4 a5 a6 n = some (eachP true (a0 * n) (a1 * n) (a2 * n) (a3 * n) (a4 * n) (a5 * n) (a6 * n)) := by
  obtain ⟨h0, h1, h2, h3, h4, h5, h6⟩ := bd7 (bd_mul h hn)
  unfold dims_Times.f
  rw [(bd_iff _).2 h, show few a0 a1 a2 a3 a4 a5 a6 n = true by unfold few; simp [hn.1, hn.2], wrap_bd h0 (by decide), wrap_bd h1 (by decide), wrap_bd h2 (by decide), wrap_bd h3 (by decide), wrap_bd h4 (by decide), wrap_bd h5 (by decide), wrap_bd h6 (by decide)]
  rfl
theorem add_val {a0 a1 a2 a3 a4 a5 a6 b0 b1 b2 b3 b4 b5 b6 : Int} (h : bd 99 [a0, a1, a2, a3, a4, a5, a6]) (k : bd 99 [b0, b1, b2, b3, b4, b5, b6]) : dims_Add.f a0 a1 a2 a3 a4 a5 a6 b0 b1 b2 b3 b4 b5 b6 = some (eachP true (a0 + b0) (a1 + b1) (a2 + b2) (a3 + b3) (a4 + b4) (a5 + b5) (a6 + b6)) := by
  obtain ⟨h0, h1, h2, h3, h4, h5, h6⟩ := bd7 (bd_add h k)
  unfold dims_Add.f
  rw [(bd_iff _).2 h, (bd_iff _).2 k, wrap_bd h0 (by decide), wrap_bd h1 (by decide), wrap_bd h2 (by decide), wrap_bd h3 (by decide), wrap_bd h4 (by decide), wrap_bd h5 (by decide), wrap_bd h6 (by decide)]
  rfl
theorem sub_val {a0 a1 a2 a3 a4 a5 a6 b0 b1 b2 b3 b4 b5 b6 : Int} (h : bd 99 [a0, a1, a2, a3, a4, a5, a6]) (k : bd 99 [b0, b1, b2, b3, b4, b5, b6]) : dims_Sub.f a0 a1 a2 a3 a4 a5 a6 b0 b1 b2 b3 b4 b5 b6 = some (eachP true (a0 - b0) (a1 - b1) (a2 - b2) (a3 - b3) (a4 - b4) (a5 - b5) (a6 - b6)) := by
  obtain ⟨h0, h1, h2, h3, h4, h5, h6⟩ := bd7 h
  obtain ⟨k0, k1, k2, k3, k4, k5, k6⟩ := bd7 k
  unfold dims_Sub.f
  rw [(bd_iff _).2 h, (bd_iff _).2 k, wrap_small (a0 - b0) (by omega) (by omega), wrap_small (a1 - b1) (by omega) (by omega), wrap_small (a2 - b2) (by omega) (by omega), wrap_small (a3 - b3) (by omega) (by omega), wrap_small (a4 - b4) (by omega) (by omega), wrap_small (a5 - b5) (by omega) (by omega), wrap_small (a6 - b6) (by omega) (by omega)]
  rfl
theorem times_ok {m p n a0 a1 a2 a3 a4 a5 a6 : Int} (h : bd m [a0, a1, a2, a3, a4, a5, a6]) (hn : -p ≤ n ∧ n ≤ p) (hm : m ≤ 99) (hp : p ≤ 99) (hmp : m * p ≤ 99) : dims_Times.f a0 a1 a2 a3 a4 a5 a6 n = some (a0 * n, a1 * n, a2 * n, a3 * n, a4 * n, a5 * n, a6 * n, true) := by
  rw [times_val (bd_mono h hm) (by omega), eachP_ok _ _ _ _ _ _ _ (bd_mono (bd_mul h hn) hmp)]
theorem add_ok {m p a0 a1 a2 a3 a4 a5 a6 b0 b1 b2 b3 b4 b5 b6 : Int} (h : bd m [a0, a1, a2, a3, a4, a5, a6]) (k : bd p [b0, b1, b2, b3, b4, b5, b6]) (hm : m ≤ 99) (hp : p ≤ 99) (hmp : m + p ≤ 99) : dims_Add.f a0 a1 a2 a3 a4 a5 a6 b0 b1 b2 b3 b4 b5 b6 = some (a0 + b0, a1 + b1, a2 + b2, a3 + b3, a4 + b4, a5 + b5, a6 + b6, true) := by
  rw [add_val (bd_mono h hm) (bd_mono k hp), eachP_ok _ _ _ _ _ _ _ (bd_mono (bd_add h k) hmp)]
theorem add_comm_val {a0 a1 a2 a3 a4 a5 a6 b0 b1 b2 b3 b4 b5 b6 : Int} (h : bd 99 [a0, a1, a2, a3, a4, a5, a6]) (k : bd 99 [b0, b1, b2, b3, b4, b5, b6]) : dims_Add.f a0 a1 a2 a3 a4 a5 a6 b0 b1 b2 b3 b4 b5 b6 = dims_Add.f b0 b1 b2 b3 b4 b5 b6 a0 a1 a2 a3 a4 a5 a6 := by
  rw [add_val h k, add_val k h, Int.add_comm a0 b0, Int.add_comm a1 b1, Int.add_comm a2 b2, Int.add_comm a3 b3, Int.add_comm a4 b4, Int.add_comm a5 b5, Int.add_comm a6 b6]

end Go.Proofs.YthfibffgmoblaaaDoor.Di
