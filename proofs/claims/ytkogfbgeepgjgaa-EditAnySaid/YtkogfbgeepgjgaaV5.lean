import Derived.Test.YtkogfbgeepgjgaaV4
namespace Go.Proofs.Ytkogfbgeepgjgaa
open Go.RowKit Go.Proofs.YtkogfbgeepgjgaaW.PrintWords Go.Proofs.YtkogfbgeepgjgaaW.PrintLast

theorem minL_le_foldl : ∀ (l : List Int) (x : Int), l.foldl mn x ≤ x
  | [], x => Int.le_refl x
  | y :: l, x => Int.le_trans (minL_le_foldl l (mn x y)) (by unfold mn; split <;> omega)
theorem minL_le_mem : ∀ (l : List Int) (x y : Int), y ∈ l → l.foldl mn x ≤ y
  | z :: l, x, y, h => by
    rcases List.mem_cons.1 h with rfl | h
    · exact Int.le_trans (minL_le_foldl l (mn x y)) (by unfold mn; split <;> omega)
    · exact minL_le_mem l _ y h
theorem minL_le (l : List Int) (i : Nat) (h : i < l.length) : minL l ≤ rd l i := by
  unfold minL
  cases l with
  | nil => simp at h
  | cons x l =>
    rw [List.drop_one, List.tail_cons]
    cases i with
    | zero => exact minL_le_foldl l x
    | succ i =>
      have h' : i < l.length := by simpa using h
      rw [rd_nat _ _ h, List.getElem_cons_succ]
      exact minL_le_mem l _ _ (List.getElem_mem h')
theorem foldl_ge : ∀ (l : List Int) (x m : Int), m ≤ x → (∀ y ∈ l, m ≤ y) → m ≤ l.foldl mn x
  | [], x, m, h, _ => h
  | y :: l, x, m, h, hl => foldl_ge l (mn x y) m (by unfold mn; have := hl y (by simp); split <;> omega) (fun z hz => hl z (by simp [hz]))
theorem minL_ge (l : List Int) (m : Int) (h0 : 0 < l.length) (h : ∀ i : Nat, i < l.length → m ≤ rd l i) : m ≤ minL l := by
  unfold minL
  refine foldl_ge _ _ _ (h 0 h0) (fun y hy => ?_)
  obtain ⟨i, hi, rfl⟩ := List.getElem_of_mem hy
  rw [List.length_drop] at hi
  rw [List.getElem_drop]
  have := h (1 + i) (by omega)
  rwa [rd_nat _ _ (by omega)] at this
/-- The least number never falls. -/
theorem minL_rowL (A q : List Int) (c : Int) : minL (rowL A q) ≤ minL (rowL A (c :: q)) := by
  refine minL_ge _ _ (by rw [rowL_length]; omega) (fun i hi => ?_)
  rw [rowL_length] at hi
  rw [rd_rowL _ _ _ (by omega)]
  suffices h : ∃ j, j ≤ A.length ∧ V.L (A.take j).reverse q ≤ V.L (A.take i).reverse (c :: q) by
    obtain ⟨j, hj, h⟩ := h
    have := minL_le (rowL A q) j (by rw [rowL_length]; omega)
    rw [rd_rowL _ _ _ hj] at this
    omega
  revert hi
  induction i with
  | zero =>
    intro _
    refine ⟨0, by omega, ?_⟩
    rw [List.take_zero, List.reverse_nil, V.L_nil_left, V.L_nil_left]; simp
  | succ i ih =>
    intro hi
    obtain ⟨j, hj, h⟩ := ih (by omega)
    rw [take_rev _ _ (by omega), V.L_cons]
    have k1 : V.L (A.take i).reverse q ≤ V.L (A.take i).reverse q + if rd A i = c then 0 else 1 := Nat.le_add_right _ _
    by_cases h1 : V.L (A.take i).reverse q + (if rd A i = c then 0 else 1) ≤ min (V.L (A.take i).reverse (c :: q) + 1) (V.L (rd A i :: (A.take i).reverse) q + 1)
    · exact ⟨i, by omega, by omega⟩
    · by_cases h2 : V.L (A.take i).reverse (c :: q) ≤ V.L (rd A i :: (A.take i).reverse) q
      · exact ⟨j, hj, by omega⟩
      · refine ⟨i + 1, by omega, ?_⟩
        rw [take_rev _ _ (by omega)]
        omega
theorem minL_rows (a : ByteArray) (ha : a.size ≤ 1000) : ∀ (cs q : List Int), q.length + cs.length ≤ 1000 → minL (rowL (bytesOf a) q) ≤ minL (rowL (bytesOf a) (cs.reverse ++ q))
  | [], q, _ => Int.le_refl _
  | c :: cs, q, h => by
    have := minL_rows a ha cs (c :: q) (by simp at h ⊢; omega)
    rw [List.reverse_cons, List.append_assoc]
    exact Int.le_trans (minL_rowL _ _ _) this
theorem wloop_eq (a : ByteArray) (kk : Int) (ha : a.size ≤ 1000) : ∀ (cs q : List Int), q.length + cs.length ≤ 1000 →
    wloop a kk cs (rowL (bytesOf a) q) = if (V.L (bytesOf a).reverse (cs.reverse ++ q) : Int) ≤ kk then ((V.L (bytesOf a).reverse (cs.reverse ++ q) : Int), true) else (0, false)
  | [], q, h => by
    have hla := bytesOf_length a
    unfold wloop
    rw [rd_rowL _ _ _ (by omega), List.take_of_length_le (by omega), List.reverse_nil, List.nil_append]
    by_cases e : (V.L (bytesOf a).reverse q : Int) > kk
    · rw [if_pos e, if_neg (by omega)]
    · rw [if_neg e, if_pos (by omega)]
  | c :: cs, q, h => by
    have hla := bytesOf_length a
    unfold wloop
    rw [rowNext_rowL a q c (by omega) (by simp at h; omega)]
    by_cases e : minL (rowL (bytesOf a) q) > kk
    · rw [if_pos e]
      have h1 := minL_rows a ha (c :: cs) q h
      have h2 := minL_le (rowL (bytesOf a) ((c :: cs).reverse ++ q)) a.size (by rw [rowL_length]; omega)
      rw [rd_rowL _ _ _ (by omega), List.take_of_length_le (by omega)] at h2
      rw [if_neg (by omega)]
    · rw [if_neg e, wloop_eq a kk ha cs (c :: q) (by simp at h ⊢; omega)]
      simp
theorem within_eq (a b : ByteArray) (kk : Int) (ha : a.size ≤ 900) (hb : b.size ≤ 900) : edit_Within.f a b kk = some (if (dL a b : Int) ≤ kk then ((dL a b : Int), true) else (0, false)) := by
  have hla := bytesOf_length a
  have hlb := bytesOf_length b
  unfold edit_Within.f within
  rw [if_pos (by omega), if_pos (by omega), ← hla, iota_rowL, wloop_eq a kk (by omega) _ _ (by simp; omega), List.append_nil, V.L_rev]
  rfl
end Go.Proofs.Ytkogfbgeepgjgaa
