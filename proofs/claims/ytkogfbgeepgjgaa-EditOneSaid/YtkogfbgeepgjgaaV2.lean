import Derived.Test.YtkogfbgeepgjgaaG
import Derived.Test.YtkogfbgeepgjgaaV1
namespace Go.Proofs.Ytkogfbgeepgjgaa
open Go.RowKit Go.Proofs.YtkogfbgeepgjgaaW.PrintWords Go.Proofs.YtkogfbgeepgjgaaW.PrintLast Go.Proofs.YtkogfbgeepgjgaaW.PrintMore
open V (L L_cons L_nil_left L_nil_right)

/-- Element i of the row behind one byte more. -/
def E (s : ByteArray) (l : List Int) (c : Int) : Nat → Int
  | 0 => wrap64 (rd l 0 + 1)
  | i + 1 => mn (mn (chg s l c i) (wrap64 (rd l ((i : Int) + 1) + 1))) (wrap64 (E s l c i + 1))
theorem E_succ (s : ByteArray) (l : List Int) (c : Int) (i : Nat) : E s l c (i + 1) = mn (mn (chg s l c i) (wrap64 (rd l ((i : Int) + 1) + 1))) (wrap64 (E s l c i + 1)) := rfl
def eRow (s : ByteArray) (l : List Int) (c : Int) (n : Nat) : List Int := (List.range n).map (E s l c)
theorem eRow_length (s : ByteArray) (l : List Int) (c : Int) (n : Nat) : (eRow s l c n).length = n := by simp [eRow]
theorem rd_nat (l : List Int) (i : Nat) (h : i < l.length) : rd l i = l[i] := by simp [rd, h]
theorem rd_eRow (s : ByteArray) (l : List Int) (c : Int) (n i : Nat) (h : i < n) : rd (eRow s l c n) i = E s l c i := by
  rw [rd_nat _ _ (by rw [eRow_length]; exact h)]; simp [eRow]
theorem ext_rd {a b : List Int} (hl : a.length = b.length) (h : ∀ i : Nat, i < a.length → rd a i = rd b i) : a = b := by
  apply List.ext_getElem hl
  intro i h1 h2
  have := h i h1
  rwa [rd_nat a i h1, rd_nat b i h2] at this
theorem rd_set (l : List Int) (i j : Nat) (v : Int) (h : j < l.length) : rd (l.set i v) j = if i = j then v else rd l j := by
  simp only [rd, Int.toNat_natCast, List.getD_eq_getElem?_getD, List.getElem?_set]
  by_cases e : i = j
  · subst e; simp [h]
  · simp [e]
theorem nloop_eq (s : ByteArray) (l : List Int) (c : Int) : ∀ (d i : Nat) (o : List Int), i + d = s.size → o.length = s.size + 1 → (∀ j, j ≤ i → rd o j = E s l c j) → nloop s l c d o i = eRow s l c (s.size + 1) := by
  intro d
  induction d with
  | zero =>
    intro i o hi hl h
    unfold nloop
    refine ext_rd (by rw [eRow_length, hl]) (fun j hj => ?_)
    rw [rd_eRow _ _ _ _ _ (by omega)]
    exact h j (by omega)
  | succ d ih =>
    intro i o hi hl h
    unfold nloop
    rw [show ((i : Int) + 1).toNat = i + 1 from by omega, show ((i : Int) + 1) = ((i + 1 : Nat) : Int) from by omega]
    refine ih (i + 1) _ (by omega) (by rw [List.length_set]; exact hl) (fun j hj => ?_)
    rw [rd_set _ _ _ _ (by omega)]
    by_cases e : i + 1 = j
    · rw [if_pos e, ← e]
      unfold nstep
      rw [h i (by omega)]
      rfl
    · rw [if_neg e]; exact h j (by omega)
theorem rowNext_eq (s : ByteArray) (l : List Int) (c : Int) (hl : l.length = s.size + 1) : rowNext s l c = eRow s l c (s.size + 1) := by
  unfold rowNext
  refine nloop_eq s l c s.size 0 _ (by omega) (by simpa using hl) (fun j hj => ?_)
  obtain rfl : j = 0 := by omega
  rw [rd_set _ _ _ _ (by simp; omega), if_pos rfl]
  rfl
theorem mn_assoc (a b c : Int) : mn (mn a b) c = mn a (mn b c) := by unfold mn; (repeat' split) <;> omega
theorem refNext_loop (s : ByteArray) (l : List Int) (c : Int) (hl : l.length = s.size + 1) (hs : s.size ≤ 1000000) : ∀ (d i k : Nat), i + d = s.size + 1 → 1 ≤ i → d < k →
    PBase.drachmref16_Next.l0 k s l c (eRow s l c i) i = some (eRow s l c (s.size + 1)) := by
  intro d
  induction d with
  | zero =>
    intro i k hi h1 hk
    obtain ⟨k, rfl⟩ : ∃ m, k = m + 1 := ⟨k - 1, by omega⟩
    simp only [PBase.drachmref16_Next.l0]
    rw [if_neg (by omega)]
    obtain rfl : i = s.size + 1 := by omega
    rfl
  | succ d ih =>
    intro i k hi h1 hk
    obtain ⟨k, rfl⟩ : ∃ m, k = m + 1 := ⟨k - 1, by omega⟩
    obtain ⟨i, rfl⟩ : ∃ m, i = m + 1 := ⟨i - 1, by omega⟩
    have e1 : wrap64 (((i + 1 : Nat) : Int) - 1) = (i : Int) := by rw [w64 (by omega) (by omega)]; omega
    have e2 : wrap64 (((i + 1 : Nat) : Int) + 1) = ((i + 2 : Nat) : Int) := by rw [w64 (by omega) (by omega)]; omega
    have hE : ∀ v, v = E s l c (i + 1) → eRow s l c (i + 1) ++ [v] = eRow s l c (i + 1 + 1) := by
      rintro v rfl
      simp only [eRow, List.range_succ (n := i + 1), List.map_append, List.map_cons, List.map_nil]
    simp only [PBase.drachmref16_Next.l0]
    rw [e1, e2, eRow_length, if_pos (by omega), if_pos (by omega), if_pos (by omega), if_pos (by omega)]
    have hrd : rd (eRow s l c (i + 1)) i = E s l c i := rd_eRow _ _ _ _ _ (by omega)
    by_cases hc : bt s i = c
    · rw [if_pos hc, if_pos (by omega), if_pos (by omega), if_pos (by omega), hE _ ?_]
      · exact ih (i + 1 + 1) k (by omega) (by omega) (by omega)
      · rw [hrd, ← mn_assoc, E_succ]; unfold chg; rw [if_pos hc]; rfl
    · rw [if_neg hc, if_pos (by omega), if_pos (by omega), if_pos (by omega), hE _ ?_]
      · exact ih (i + 1 + 1) k (by omega) (by omega) (by omega)
      · rw [hrd, ← mn_assoc, E_succ]; unfold chg; rw [if_neg hc]; rfl
theorem refNext_eq (s : ByteArray) (l : List Int) (c : Int) (hl : l.length = s.size + 1) (hs : s.size ≤ 1000000) : PBase.drachmref16_Next.f (s.size + 2) s l c = some (eRow s l c (s.size + 1)) := by
  unfold PBase.drachmref16_Next.f
  rw [w64 (by omega) (by omega), if_pos (by omega), if_pos (by omega)]
  exact refNext_loop s l c hl hs s.size 1 _ (by omega) (by omega) (by omega)

/-- The row of A's beginnings against a list. -/
def rowL (A q : List Int) : List Int := (List.range (A.length + 1)).map fun i => (L (A.take i).reverse q : Int)
theorem rowL_length (A q : List Int) : (rowL A q).length = A.length + 1 := by simp [rowL]
theorem rd_rowL (A q : List Int) (i : Nat) (h : i ≤ A.length) : rd (rowL A q) i = (L (A.take i).reverse q : Int) := by
  rw [rd_nat _ _ (by rw [rowL_length]; omega)]; simp [rowL]
theorem take_rev (A : List Int) (i : Nat) (h : i < A.length) : (A.take (i + 1)).reverse = rd A i :: (A.take i).reverse := by
  rw [List.take_succ_eq_append_getElem h, List.reverse_append, rd_nat A i h]; rfl
theorem iota_rowL (A : List Int) : iota (A.length + 1) = rowL A [] := by
  refine ext_rd (by rw [iota_length, rowL_length]) (fun i hi => ?_)
  rw [iota_length] at hi
  rw [rd_iota _ _ hi, rd_rowL _ _ _ (by omega), L_nil_right]
  simp; omega
theorem E_rowL (s : ByteArray) (q : List Int) (c : Int) (hs : s.size ≤ 1000000) (hq : q.length ≤ 1000000000) : ∀ i, i ≤ s.size → E s (rowL (bytesOf s) q) c i = (L ((bytesOf s).take i).reverse (c :: q) : Int) := by
  have hlen := bytesOf_length s
  have hb : ∀ i, i ≤ s.size → L ((bytesOf s).take i).reverse q ≤ 1000000000 := fun i hi => Nat.le_trans (V.L_high _ _) (by simp; omega)
  intro i
  induction i with
  | zero =>
    intro _
    unfold E
    rw [show (0 : Int) = ((0 : Nat) : Int) from rfl, rd_rowL _ _ _ (by omega), List.take_zero, List.reverse_nil, L_nil_left, L_nil_left, w64 (by omega) (by omega)]
    simp
  | succ i ih =>
    intro hi
    unfold E
    have h2 := hb (i + 1) hi
    have h1 := hb i (by omega)
    have h3 := V.L_cons_right_le c ((bytesOf s).take i).reverse q
    rw [ih (by omega), show ((i : Int) + 1) = ((i + 1 : Nat) : Int) from by omega, rd_rowL _ _ _ (by omega), w64 (x := (L ((bytesOf s).take (i + 1)).reverse q : Int) + 1) (by omega) (by omega), w64 (x := (L ((bytesOf s).take i).reverse (c :: q) : Int) + 1) (by omega) (by omega)]
    unfold chg
    rw [rd_rowL _ _ _ (by omega), w64 (x := (L ((bytesOf s).take i).reverse q : Int) + 1) (by omega) (by omega), take_rev _ _ (by omega), rd_bytesOf, L_cons]
    unfold mn
    by_cases e : bt s i = c
    · rw [if_pos e, if_pos e]; (repeat' split) <;> omega
    · rw [if_neg e, if_neg e]; (repeat' split) <;> omega
theorem rowNext_rowL (s : ByteArray) (q : List Int) (c : Int) (hs : s.size ≤ 1000000) (hq : q.length ≤ 1000000000) : rowNext s (rowL (bytesOf s) q) c = rowL (bytesOf s) (c :: q) := by
  have hlen := bytesOf_length s
  rw [rowNext_eq _ _ _ (by rw [rowL_length, hlen])]
  refine ext_rd (by rw [eRow_length, rowL_length, hlen]) (fun i hi => ?_)
  rw [eRow_length] at hi
  rw [rd_eRow _ _ _ _ _ hi, rd_rowL _ _ _ (by omega), E_rowL s q c hs hq i (by omega)]
theorem rowsAfter_rowL (s : ByteArray) (hs : s.size ≤ 1000000) : ∀ (cs q : List Int), q.length + cs.length ≤ 1000000000 → rowsAfter s (rowL (bytesOf s) q) cs = rowL (bytesOf s) (cs.reverse ++ q)
  | [], q, _ => rfl
  | c :: cs, q, h => by
    show rowsAfter s (rowNext s (rowL (bytesOf s) q) c) cs = _
    rw [rowNext_rowL s q c hs (by simp at h; omega), rowsAfter_rowL s hs cs (c :: q) (by simp at h ⊢; omega)]
    simp
/-- The distance. -/
def dL (a b : ByteArray) : Nat := L (bytesOf a) (bytesOf b)
theorem dist_eq (a b : ByteArray) (ha : a.size ≤ 999999) (hb : b.size ≤ 999999) : dist a b = dL a b := by
  have hla := bytesOf_length a
  have hlb := bytesOf_length b
  unfold dist dL
  rw [show a.size + 1 = (bytesOf a).length + 1 from by rw [hla], iota_rowL, rowsAfter_rowL a (by omega) _ _ (by simp; omega), List.append_nil, rd_rowL _ _ _ (by omega), List.take_of_length_le (by omega), V.L_rev]
end Go.Proofs.Ytkogfbgeepgjgaa
