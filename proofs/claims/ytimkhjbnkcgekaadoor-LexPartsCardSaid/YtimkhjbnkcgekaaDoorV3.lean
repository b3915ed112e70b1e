/- Chapter 7's plain laws: what the reference's Kind, Raise and Plain come to. No conditions beyond those that stand in each theorem. -/
import Derived.Test.YtimkhjbnkcgekaaDoorV2
namespace Go.Proofs.YtimkhjbnkcgekaaDoor.V3
open Go.RowKit Go.Proofs.YtimkhjbnkcgekaaDoor.PB Go.Proofs.YtimkhjbnkcgekaaDoorW.PrintWords Go.Proofs.YtimkhjbnkcgekaaDoorW.PrintLast
theorem j3_ref (k : Nat) (c : Int) (l x1 : Bool) (x2 x3 x4 x5 x6 : Int) : drachmref07_Kind.j3 (k + 1) c l x1 x2 x3 x4 x5 x6 = some (if l = true then 3 else if c = 40 then 7 else if c = 41 then 8
  else if c = x2 then 4 else if c = x3 then 5 else if c = x4 then 6 else if c = x5 then 9 else if c = x6 then 10 else 0) := by
  rw [drachmref07_Kind.j3]
  repeat' split
  all_goals simp_all
theorem j2_ref (k : Nat) (c : Int) (l x1 : Bool) (x2 x3 x4 x5 x6 : Int) : drachmref07_Kind.j2 (k + 2) c l x1 x2 x3 x4 x5 x6 = some (if l = true then 2 else if c = 43 ∨ c = 45 then 3 else if c = 40 then 7 else if c = 41 then 8
  else if c = x2 then 4 else if c = x3 then 5 else if c = x4 then 6 else if c = x5 then 9 else if c = x6 then 10 else 0) := by
  rw [drachmref07_Kind.j2, j3_ref, j3_ref]
  cases l with
  | true => rfl
  | false =>
    by_cases a : c = 43
    · simp [a]
    · by_cases b : c = 45
      · simp [b]
      · simp [a, b]
theorem j1_ref (k : Nat) (c : Int) (l x1 : Bool) (x2 x3 x4 x5 x6 : Int) : drachmref07_Kind.j1 (k + 3) c l x1 x2 x3 x4 x5 x6 = some (if l = true then 1 else if 48 ≤ c ∧ c ≤ 57 then 2 else if c = 43 ∨ c = 45 then 3 else if c = 40 then 7 else if c = 41 then 8
  else if c = x2 then 4 else if c = x3 then 5 else if c = x4 then 6 else if c = x5 then 9 else if c = x6 then 10 else 0) := by
  rw [drachmref07_Kind.j1, j2_ref, j2_ref]
  cases l with
  | true => rfl
  | false =>
    by_cases a : c ≥ 48
    · by_cases b : c ≤ 57 <;> simp [a, b]
    · simp [a]
theorem j0_ref (k : Nat) (c : Int) (l x1 : Bool) (x2 x3 x4 x5 x6 : Int) : drachmref07_Kind.j0 (k + 4) c l x1 x2 x3 x4 x5 x6 = some (if l = true then 0 else if letter c then 1 else if 48 ≤ c ∧ c ≤ 57 then 2 else if c = 43 ∨ c = 45 then 3 else if c = 40 then 7 else if c = 41 then 8
  else if c = x2 then 4 else if c = x3 then 5 else if c = x4 then 6 else if c = x5 then 9 else if c = x6 then 10 else 0) := by
  rw [drachmref07_Kind.j0]
  simp only [j1_ref, if_true]
  generalize (if 48 ≤ c ∧ c ≤ 57 then (2 : Int) else if c = 43 ∨ c = 45 then 3 else if c = 40 then 7 else if c = 41 then 8
    else if c = x2 then 4 else if c = x3 then 5 else if c = x4 then 6 else if c = x5 then 9 else if c = x6 then 10 else 0) = T
  cases l with
  | true => simp
  | false =>
    have last : (if (c == 93) = true then (1 : Int) else T) = if c = 93 then 1 else T := by simp
    simp only [last, Bool.false_eq_true, if_false]
    by_cases L : letter c
    · rw [if_pos L]
      unfold letter at L
      repeat' split
      all_goals first | rfl | (exfalso; omega)
    · rw [if_neg L]
      unfold letter at L
      repeat' split
      all_goals first | rfl | (exfalso; omega)
theorem of_two (n : Int) {x} (hx : style_Of.f n = some x) : drachmref07_Of.f n = some (x.1, x.2.1, x.2.2.1, x.2.2.2.1, x.2.2.2.2.1, x.2.2.2.2.2.1) ∧ (x.2.2.2.2.2.2 = true ↔ 1 ≤ n ∧ n ≤ 5) ∧ (x.2.1 = 0 ↔ x.2.2.2.2.2.2 = false) := by
  unfold style_Of.f at hx
  unfold drachmref07_Of.f
  repeat' split at hx
  all_goals (obtain rfl := Option.some.inj hx)
  all_goals simp_all
  omega
theorem kind_ref (k : Nat) (n c : Int) {x} (hx : style_Of.f n = some x) : drachmref07_Kind.f (k + 4) n c = some (kindP x c) := by
  obtain ⟨h1, _, h3⟩ := of_two n hx
  unfold drachmref07_Kind.f
  rw [h1, bs_]
  obtain ⟨x1, x2, x3, x4, x5, x6, x7⟩ := x
  simp only at h3 ⊢
  unfold kindP
  simp only
  by_cases z : x2 = 0
  · rw [if_pos z, j0_ref, if_pos rfl, if_pos (Or.inl (h3.1 z))]
  · have z' : ¬ (x7 = false) := fun h => z (h3.2 h)
    rw [if_neg z, j0_ref]
    by_cases y : c = 0
    · simp [y]
    · rw [if_neg (show ¬ ((c == 0) = true) by simpa using y), if_neg (show ¬ (x7 = false ∨ c = 0) from fun h => h.elim z' y)]
theorem son_append (a b : List Int) : strOfNums (a ++ b) = strOfNums a ++ strOfNums b := by
  refine Go.WideShapes.bytes_inj ?_
  simp [strOfNums]
theorem son_size (a : List Int) : (strOfNums a).size = a.length := by
  rw [← data_length]; simp [strOfNums]
theorem take_map (f : Int → Int) (s : ByteArray) (i : Nat) (h : i < s.size) : ((bytesOf s).take (i + 1)).map f = ((bytesOf s).take i).map f ++ [f (bt s (i : Int))] := by
  have h' : i < (bytesOf s).length := by rw [bytesOf_length]; exact h
  rw [List.take_succ_eq_append_getElem h', List.map_append, ← rd_bytesOf]
  simp [rd, h']
theorem raise_loop (fold : Bool) (s : ByteArray) (hs : s.size ≤ 1000) : ∀ (d i : Nat), i + d = s.size → ∀ k, d < k → drachmref07_Raise.l0 k s fold (strOfNums (((bytesOf s).take i).map (up fold))) (i : Int) = some (strOfNums ((bytesOf s).map (up fold)))
  | 0, i, hi, k, hk => by
    obtain ⟨k, rfl⟩ : ∃ m, k = m + 1 := ⟨k - 1, by omega⟩
    rw [drachmref07_Raise.l0, if_neg (by omega), List.take_of_length_le (by rw [bytesOf_length]; omega)]
  | d + 1, i, hi, k, hk => by
    obtain ⟨k, rfl⟩ : ∃ m, k = m + 1 := ⟨k - 1, by omega⟩
    have ih := raise_loop fold s hs d (i + 1) (by omega) k (by omega)
    have hw : wrap64 ((i : Int) + 1) = ((i + 1 : Nat) : Int) := by rw [w64 (by omega) (by omega)]; omega
    have r := bt_range s (i : Int)
    have hsz : ∀ z : Int, (strOfNums (((bytesOf s).take i).map (up fold))).size + (strOfNums [z]).size ≤ 9223372036854775807 := fun z => by
      rw [son_size, son_size, List.length_map, List.length_take, bytesOf_length]; simp; omega
    rw [take_map _ _ _ (by omega), son_append, ← hw] at ih
    generalize hc : bt s (i : Int) = c at *
    generalize hA : strOfNums (((bytesOf s).take i).map (up fold)) = A at *
    rw [drachmref07_Raise.l0, if_pos (by omega), if_pos (by omega), hc]
    simp only [bs_, hsz, if_true]
    cases fold with
    | false =>
      rw [if_neg (by decide)]
      rw [up_false] at ih
      exact ih
    | true =>
      rw [if_pos rfl]
      by_cases a : c ≥ 97
      · by_cases b : c ≤ 122
        · have e : up true c = (c - 32) % 256 := by rw [up, if_pos ⟨rfl, a, b⟩]; omega
          rw [if_pos a, if_pos b, ← e]; exact ih
        · have e : up true c = c := by rw [up, if_neg (by omega)]
          rw [if_pos a, if_neg b]; rw [e] at ih; exact ih
      · have e : up true c = c := by rw [up, if_neg (by omega)]
        rw [if_neg a]; rw [e] at ih; exact ih
theorem raise_ref (n : Int) (s : ByteArray) (hs : s.size ≤ 1000) {x} (hx : style_Of.f n = some x) (k : Nat) (hk : s.size < k) : drachmref07_Raise.f k n s = some (strOfNums ((bytesOf s).map (up x.1))) := by
  obtain ⟨h1, _, h3⟩ := of_two n hx
  unfold drachmref07_Raise.f
  rw [h1, bs_]
  exact raise_loop x.1 s hs s.size 0 (by omega) k hk
theorem raise_f (n : Int) (s : ByteArray) (h : s.size ≤ 1000) {x} (hx : style_Of.f n = some x) : style_Raise.f n s = some (strOfNums ((bytesOf s).map (up x.1))) := by
  unfold style_Raise.f
  rw [if_pos (by omega), hx]
  rfl
theorem drop_cons (s : ByteArray) (i : Nat) (h : i < s.size) : (bytesOf s).drop i = bt s (i : Int) :: (bytesOf s).drop (i + 1) := by
  have h' : i < (bytesOf s).length := by rw [bytesOf_length]; exact h
  rw [List.drop_eq_getElem_cons h', ← rd_bytesOf]
  simp [rd, h']
theorem plain_loop (s : ByteArray) (hs : s.size ≤ 1000) (x1 : Bool) (x2 x3 x4 x5 x6 : Int) : ∀ (d i : Nat), i + d = s.size → ∀ k, d < k → drachmref07_Plain.l0 k s (i : Int) x1 x2 x3 x4 x5 x6 = some (((bytesOf s).drop i).all (okb x5 x6) && x5 != 0)
  | 0, i, hi, k, hk => by
    obtain ⟨k, rfl⟩ : ∃ m, k = m + 1 := ⟨k - 1, by omega⟩
    rw [drachmref07_Plain.l0, if_neg (by omega), List.drop_eq_nil_of_le (by rw [bytesOf_length]; omega)]
    simp
  | d + 1, i, hi, k, hk => by
    obtain ⟨k, rfl⟩ : ∃ m, k = m + 1 := ⟨k - 1, by omega⟩
    have ih := plain_loop s hs x1 x2 x3 x4 x5 x6 d (i + 1) (by omega) k (by omega)
    have hw : wrap64 ((i : Int) + 1) = ((i + 1 : Nat) : Int) := by rw [w64 (by omega) (by omega)]; omega
    rw [drop_cons s i (by omega), List.all_cons, drachmref07_Plain.l0, if_pos (by omega), if_pos (by omega), hw, ih]
    generalize bt s (i : Int) = c
    generalize ((bytesOf s).drop (i + 1)).all (okb x5 x6) = R
    by_cases a : c < 32
    · rw [if_pos a]; have : okb x5 x6 c = false := by simp [okb]; omega
      rw [this]; simp
    · rw [if_neg a]
      by_cases b : c > 126
      · rw [if_pos b]; have : okb x5 x6 c = false := by simp [okb]; omega
        rw [this]; simp
      · rw [if_neg b]
        by_cases e : c = x5
        · rw [if_pos e]; have : okb x5 x6 c = false := by simp [okb, e]
          rw [this]; simp
        · rw [if_neg e]
          by_cases f : c = x6
          · rw [if_pos f]; have : okb x5 x6 c = false := by simp [okb, f]
            rw [this]; simp
          · rw [if_neg f]; have : okb x5 x6 c = true := by simp [okb, e, f]; omega
            rw [this]; simp
theorem plain_ref (n : Int) (s : ByteArray) (hs : s.size ≤ 1000) {x} (hx : style_Of.f n = some x) (k : Nat) (hk : s.size < k) : drachmref07_Plain.f k n s = some ((bytesOf s).all (okb x.2.2.2.2.1 x.2.2.2.2.2.1) && x.2.2.2.2.1 != 0) := by
  obtain ⟨h1, _, h3⟩ := of_two n hx
  unfold drachmref07_Plain.f
  rw [h1, bs_]
  have := plain_loop s hs x.1 x.2.1 x.2.2.1 x.2.2.2.1 x.2.2.2.2.1 x.2.2.2.2.2.1 s.size 0 (by omega) k hk
  rw [List.drop_zero] at this
  exact this
end Go.Proofs.YtimkhjbnkcgekaaDoor.V3
