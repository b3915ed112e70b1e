import Derived.Test.YtkogfbgeepgjgaaV2
namespace Go.Proofs.Ytkogfbgeepgjgaa
open Go.RowKit Go.Proofs.YtkogfbgeepgjgaaW.PrintWords Go.Proofs.YtkogfbgeepgjgaaW.PrintLast Go.Proofs.YtkogfbgeepgjgaaW.PrintMore
open V (L L_cons L_nil_left L_nil_right)

def DD (a b : ByteArray) (i k : Nat) : Int := L ((bytesOf a).take i).reverse ((bytesOf b).take k).reverse
theorem DD_le (a b : ByteArray) (i k : Nat) : 0 ≤ DD a b i k ∧ DD a b i k ≤ (max a.size b.size : Nat) := by
  have := V.L_high ((bytesOf a).take i).reverse ((bytesOf b).take k).reverse
  have h1 := bytesOf_length a
  have h2 := bytesOf_length b
  simp at this
  unfold DD
  omega
theorem DD_zero_left (a b : ByteArray) (k : Nat) (h : k ≤ b.size) : DD a b 0 k = k := by
  have := bytesOf_length b
  unfold DD; rw [List.take_zero, List.reverse_nil, L_nil_left]; simp; omega
theorem DD_zero_right (a b : ByteArray) (i : Nat) (h : i ≤ a.size) : DD a b i 0 = i := by
  have := bytesOf_length a
  unfold DD; rw [List.take_zero, List.reverse_nil, L_nil_right]; simp; omega
theorem DD_succ (a b : ByteArray) (i k : Nat) (hi : i < a.size) (hk : k < b.size) :
    DD a b (i + 1) (k + 1) = mn (DD a b i k + if bt a i = bt b k then 0 else 1) (mn (DD a b i (k + 1) + 1) (DD a b (i + 1) k + 1)) := by
  have h1 := bytesOf_length a
  have h2 := bytesOf_length b
  unfold DD
  rw [take_rev _ _ (by omega), take_rev _ _ (by omega), L_cons, rd_bytesOf, rd_bytesOf]
  unfold mn
  by_cases e : bt a i = bt b k
  · rw [if_pos e, if_pos e]; (repeat' split) <;> omega
  · rw [if_neg e, if_neg e]; (repeat' split) <;> omega
/-- What the table holds when row i is filled up to k. -/
structure Tab (a b : ByteArray) (i k : Nat) (xs : List Int) : Prop where
  len : xs.length = (a.size + 1) * (b.size + 1)
  done : ∀ i' k', i' < i → k' ≤ b.size → rd xs ((i' * (b.size + 1) + k' : Nat) : Int) = DD a b i' k'
  row : ∀ k', k' < k → rd xs ((i * (b.size + 1) + k' : Nat) : Int) = DD a b i k'
theorem idx_lt {n w i k : Nat} (hi : i ≤ n) (hk : k < w) : i * w + k < (n + 1) * w := by
  have h1 : i * w ≤ n * w := Nat.mul_le_mul_right _ hi
  rw [Nat.add_mul]
  omega
theorem idx_ne {w i i' k k' : Nat} (hi : i' < i) (hk : k' < w) : i' * w + k' ≠ i * w + k := by
  have h1 : (i' + 1) * w ≤ i * w := Nat.mul_le_mul_right _ hi
  rw [Nat.add_mul] at h1
  omega
theorem Tab.put {a b : ByteArray} {i k : Nat} {xs : List Int} (h : Tab a b i k xs) (hi : i ≤ a.size) (hk : k ≤ b.size) : Tab a b i (k + 1) (xs.set (i * (b.size + 1) + k) (DD a b i k)) := by
  refine ⟨by rw [List.length_set]; exact h.len, fun i' k' h1 h2 => ?_, fun k' h1 => ?_⟩
  · rw [rd_set _ _ _ _ (by rw [h.len]; exact idx_lt (by omega) (by omega)), if_neg (Ne.symm (idx_ne h1 (by omega)))]
    exact h.done i' k' h1 h2
  · rw [rd_set _ _ _ _ (by rw [h.len]; exact idx_lt hi (by omega))]
    by_cases e : k = k'
    · subst e; rw [if_pos rfl]
    · rw [if_neg (by omega)]; exact h.row k' (by omega)
theorem wsub1 {n : Nat} (h : n < 1000000000000) : wrap64 (((n + 1 : Nat) : Int) - 1) = (n : Int) := by rw [w64 (by omega) (by omega)]; omega
theorem wsucc {n : Nat} (h : n < 1000000000000) : wrap64 ((n : Int) + 1) = ((n + 1 : Nat) : Int) := by rw [w64 (by omega) (by omega)]; omega
theorem wmul {i w : Nat} (h : i * w < 1000000000000) : wrap64 ((i : Int) * (w : Int)) = ((i * w : Nat) : Int) := by rw [← Int.natCast_mul, w64 (by omega) (by omega)]
theorem wps {p K : Nat} (h : p + K < 1000000000000) : wrap64 (wrap64 ((p : Int) + ((K + 1 : Nat) : Int)) - 1) = ((p + K : Nat) : Int) := by
  rw [w64 (x := (p : Int) + ((K + 1 : Nat) : Int)) (by omega) (by omega), w64 (by omega) (by omega)]; omega
theorem wp {p K : Nat} (h : p + K < 1000000000000) : wrap64 ((p : Int) + ((K + 1 : Nat) : Int)) = ((p + (K + 1) : Nat) : Int) := by rw [w64 (by omega) (by omega)]; omega
theorem step_l1 (a b : ByteArray) (ha : a.size ≤ 1000) (hb : b.size ≤ 1000) (i k : Nat) (xs : List Int) (h : Tab a b i k xs) (hi : i ≤ a.size) (hk : k ≤ b.size) (f : Nat) :
    PBase.drachmref16_Distance.l1 (f + 1) a b xs ((b.size + 1 : Nat) : Int) i k = PBase.drachmref16_Distance.l1 f a b (xs.set (i * (b.size + 1) + k) (DD a b i k)) ((b.size + 1 : Nat) : Int) i ((k + 1 : Nat) : Int) := by
  have hlen := h.len
  have hN : (a.size + 1) * (b.size + 1) ≤ 1001 * 1001 := Nat.mul_le_mul (by omega) (by omega)
  have hlt : i * (b.size + 1) + k < (a.size + 1) * (b.size + 1) := idx_lt hi (by omega)
  simp only [PBase.drachmref16_Distance.l1]
  rw [if_pos (by omega)]
  by_cases h0 : i = 0
  · subst h0
    rw [if_pos (by omega), if_pos (by omega), if_pos (by omega), wsucc (by omega), DD_zero_left a b k hk]
    simp only [Int.toNat_natCast, Nat.zero_mul, Nat.zero_add]
  · rw [if_neg (by omega), wmul (by omega)]
    by_cases k0 : k = 0
    · subst k0
      rw [if_pos (by omega), if_pos (by omega), if_pos (by omega), wsucc (by omega), DD_zero_right a b i hi]
      simp only [Int.toNat_natCast, Nat.add_zero]
    · rw [if_neg (by omega)]
      obtain ⟨I, rfl⟩ : ∃ m, i = m + 1 := ⟨i - 1, by omega⟩
      obtain ⟨K, rfl⟩ : ∃ m, k = m + 1 := ⟨k - 1, by omega⟩
      have hq : (I + 1) * (b.size + 1) = I * (b.size + 1) + (b.size + 1) := Nat.succ_mul _ _
      have d1 := h.done I K (by omega) (by omega)
      have d2 := h.done I (K + 1) (by omega) (by omega)
      have d3 := h.row K (by omega)
      have l1 := DD_le a b I K
      have l2 := DD_le a b I (K + 1)
      have l3 := DD_le a b (I + 1) K
      have hd := DD_succ a b I K (by omega) (by omega)
      rw [wsub1 (n := I) (by omega), wmul (i := I) (by omega), wsub1 (n := K) (by omega)]
      generalize I * (b.size + 1) = p at *
      generalize (I + 1) * (b.size + 1) = q at *
      rw [wps (p := p) (by omega), wp (p := p) (by omega), wps (p := q) (by omega), wp (p := q) (by omega), wsucc (by omega), d1, d2, d3]
      rw [w64 (x := DD a b I (K + 1) + 1) (by omega) (by omega), w64 (x := DD a b (I + 1) K + 1) (by omega) (by omega), w64 (x := DD a b I K + 1) (by omega) (by omega)]
      rw [if_pos (show (0 : Int) ≤ ((p + K : Nat) : Int) by omega), if_pos (show ((p + K : Nat) : Int) < (xs.length : Int) by omega), if_pos (show (0 : Int) ≤ (I : Int) by omega), if_pos (show (I : Int) < (a.size : Int) by omega), if_pos (show (0 : Int) ≤ (K : Int) by omega), if_pos (show (K : Int) < (b.size : Int) by omega)]
      rw [hd]
      by_cases e : bt a I = bt b K
      · rw [if_pos e, if_pos e, Int.add_zero]
        rw [if_pos (show (0 : Int) ≤ ((p + (K + 1) : Nat) : Int) by omega), if_pos (show ((p + (K + 1) : Nat) : Int) < (xs.length : Int) by omega), if_pos (show (0 : Int) ≤ ((q + K : Nat) : Int) by omega), if_pos (show ((q + K : Nat) : Int) < (xs.length : Int) by omega), if_pos (show (0 : Int) ≤ ((q + (K + 1) : Nat) : Int) by omega), if_pos (show ((q + (K + 1) : Nat) : Int) < (xs.length : Int) by omega)]
        rw [Int.toNat_natCast]
      · rw [if_neg e, if_neg e]
        rw [if_pos (show (0 : Int) ≤ ((p + (K + 1) : Nat) : Int) by omega), if_pos (show ((p + (K + 1) : Nat) : Int) < (xs.length : Int) by omega), if_pos (show (0 : Int) ≤ ((q + K : Nat) : Int) by omega), if_pos (show ((q + K : Nat) : Int) < (xs.length : Int) by omega), if_pos (show (0 : Int) ≤ ((q + (K + 1) : Nat) : Int) by omega), if_pos (show ((q + (K + 1) : Nat) : Int) < (xs.length : Int) by omega)]
        rw [Int.toNat_natCast]
theorem l1_ev (a b : ByteArray) (ha : a.size ≤ 1000) (hb : b.size ≤ 1000) (i : Nat) (hi : i ≤ a.size) (r : Int) (hnext : ∀ xs, Tab a b (i + 1) 0 xs → Ev (fun f => PBase.drachmref16_Distance.l0 f a b xs ((b.size + 1 : Nat) : Int) ((i + 1 : Nat) : Int)) r) :
    ∀ (d k : Nat) (xs : List Int), k + d = b.size + 1 → Tab a b i k xs → Ev (fun f => PBase.drachmref16_Distance.l1 f a b xs ((b.size + 1 : Nat) : Int) i k) r := by
  intro d
  induction d with
  | zero =>
    intro k xs hk h
    obtain rfl : k = b.size + 1 := by omega
    refine Ev.step (fun f => ?_) (hnext xs ⟨h.len, fun i' k' h1 h2 => ?_, fun k' h1 => by omega⟩)
    · simp only [PBase.drachmref16_Distance.l1]
      rw [if_neg (by omega), wsucc (by omega)]
    · by_cases e : i' = i
      · subst e; exact h.row k' (by omega)
      · exact h.done i' k' (by omega) h2
  | succ d ih =>
    intro k xs hk h
    exact Ev.step (fun f => step_l1 a b ha hb i k xs h hi (by omega) f) (ih (k + 1) _ (by omega) (h.put hi (by omega)))
theorem l0_ev (a b : ByteArray) (ha : a.size ≤ 1000) (hb : b.size ≤ 1000) : ∀ (d i : Nat) (xs : List Int), i + d = a.size + 1 → Tab a b i 0 xs → Ev (fun f => PBase.drachmref16_Distance.l0 f a b xs ((b.size + 1 : Nat) : Int) i) (DD a b a.size b.size) := by
  intro d
  induction d with
  | zero =>
    intro i xs hi h
    obtain rfl : i = a.size + 1 := by omega
    have hlen := h.len
    have hN : (a.size + 1) * (b.size + 1) ≤ 1001 * 1001 := Nat.mul_le_mul (by omega) (by omega)
    have hlt : a.size * (b.size + 1) + b.size < (a.size + 1) * (b.size + 1) := idx_lt (Nat.le_refl _) (by omega)
    have hr := h.done a.size b.size (by omega) (Nat.le_refl _)
    refine Ev.step (f := fun _ => some (DD a b a.size b.size)) (fun f => ?_) (Ev.now _)
    simp only [PBase.drachmref16_Distance.l0]
    rw [if_neg (by omega), ← Int.natCast_mul, w64 (x := ((a.size * (b.size + 1) : Nat) : Int)) (by omega) (by omega), w64 (by omega) (by omega), ← Int.natCast_add, if_pos (by omega), if_pos (by omega), hr]
  | succ d ih =>
    intro i xs hi h
    refine Ev.step (f := fun f => PBase.drachmref16_Distance.l1 f a b xs ((b.size + 1 : Nat) : Int) i ((0 : Nat) : Int)) (fun f => ?_) (l1_ev a b ha hb i (by omega) _ (fun xs' h' => ih (i + 1) xs' (by omega) h') (b.size + 1) 0 xs (by omega) h)
    simp only [PBase.drachmref16_Distance.l0]
    rw [if_pos (by omega)]
    rfl
theorem refDist_ev (a b : ByteArray) (ha : a.size ≤ 1000) (hb : b.size ≤ 1000) : Ev (fun f => PBase.drachmref16_Distance.f f a b) (dL a b) := by
  have hN : (a.size + 1) * (b.size + 1) ≤ 1001 * 1001 := Nat.mul_le_mul (by omega) (by omega)
  have e : DD a b a.size b.size = (dL a b : Int) := by
    have h1 := bytesOf_length a
    have h2 := bytesOf_length b
    unfold DD dL
    rw [List.take_of_length_le (by omega), List.take_of_length_le (by omega), V.L_rev]
  rw [← e]
  refine Ev.congr (fun f => ?_) (l0_ev a b ha hb (a.size + 1) 0 (List.replicate ((a.size + 1) * (b.size + 1)) 0) (by omega) ⟨by simp, fun i' k' h => by omega, fun k' h => by omega⟩)
  unfold PBase.drachmref16_Distance.f
  rw [w64 (x := (a.size : Int) + 1) (by omega) (by omega), w64 (x := (b.size : Int) + 1) (by omega) (by omega)]
  rw [show ((a.size : Int) + 1) * ((b.size : Int) + 1) = (((a.size + 1) * (b.size + 1) : Nat) : Int) from by rw [Int.natCast_mul]; rfl]
  rw [w64 (by omega) (by omega), if_pos (by omega), Int.toNat_natCast, if_pos (by omega)]
  rfl
end Go.Proofs.Ytkogfbgeepgjgaa
