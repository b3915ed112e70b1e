/- Between texts and lists of bytes: what lex.next's walk asks. Plain. -/
import Derived.Test.YtimkhjbnkcgekaaDoorLx1
import Derived.Lib.ParseIntB
namespace Go.Proofs.YtimkhjbnkcgekaaDoor.Lx
open Go Go.RowKit Go.Lib Go.Proofs.YtimkhjbnkcgekaaDoor.V3 Go.Proofs.YtimkhjbnkcgekaaDoorW.PrintWords Go.Proofs.YtimkhjbnkcgekaaDoorW.PrintLast
set_option linter.unusedVariables false
def tkV : Option Tk → Value
  | none => .agg #[.int .i64 0, .int .i64 0, .string ⟨#[]⟩, .int .i64 0]
  | some t => .agg #[.int .i64 t.k, .int .i64 0, .string (strOfNums t.t), .int .i64 t.v]
def tkN : Option Tk → Int
  | none => 0
  | some t => t.n
theorem next_eq (x : Sty) (B : List Int) (h : B ≠ []) : nextL x B =
    if kindP x (B.getD 0 0) = 0 ∨ kindP x (B.getD 0 0) = 10 then none
    else if kindP x (B.getD 0 0) = 1 then some ⟨1, (B.takeWhile (kp_ x 1)).map (up x.1), 0, (B.takeWhile (kp_ x 1)).length⟩
    else if kindP x (B.getD 0 0) = 2 then match numL (B.takeWhile (kp_ x 2)) with
      | none => none
      | some v => some ⟨2, B.takeWhile (kp_ x 2), v, (B.takeWhile (kp_ x 2)).length⟩
    else if kindP x (B.getD 0 0) = 9 then
      if (B.tail.takeWhile (· != x.close_)).length < B.tail.length ∧ (B.tail.takeWhile (· != x.close_)).all (okb x.open_ x.close_) = true then some ⟨9, B.tail.takeWhile (· != x.close_), 0, (B.tail.takeWhile (· != x.close_)).length + 2⟩ else none
    else some ⟨kindP x (B.getD 0 0), [B.getD 0 0], 0, 1⟩ := by
  cases B with
  | nil => exact absurd rfl h
  | cons b r => rfl
theorem bytesOf_extract (s : ByteArray) (i j : Nat) : bytesOf (s.extract i j) = ((bytesOf s).take j).drop i := by
  unfold bytesOf
  rw [show (s.extract i j).data.toList = (s.data.toList.take j).drop i from by simp [ByteArray.data_extract, Array.toList_extract, List.extract, List.drop_take]]
  rw [List.map_drop, List.map_take]
theorem son_bytesOf (s : ByteArray) : strOfNums (bytesOf s) = s := inj (bytes_of_nums _ (bytes_bounds s))
theorem toInt_nat (c : UInt8) : (c.toNat : Int) = (c.toNat : Nat) := rfl
theorem digit_kind {x : Sty} {c : Int} (h : kindP x c = 2) : 48 ≤ c ∧ c ≤ 57 := by
  unfold kindP at h
  by_cases a : x.2.2.2.2.2.2 = false ∨ c = 0
  · rw [if_pos a] at h; cases h
  rw [if_neg a] at h
  by_cases b : letter c
  · rw [if_pos b] at h; cases h
  rw [if_neg b] at h
  by_cases d : 48 ≤ c ∧ c ≤ 57
  · exact d
  rw [if_neg d] at h
  repeat' split at h
  all_goals cases h
theorem valOf_ge : ∀ (l : List Int) (a : Int), (∀ c ∈ l, 48 ≤ c ∧ c ≤ 57) → 0 ≤ a → a ≤ valOf l a
  | [], a, _, _ => Int.le_refl _
  | c :: l, a, h, h0 => by
    have hc := h c (List.mem_cons_self ..)
    have := valOf_ge l (a * 10 + (c - 48)) (fun d hd => h d (List.mem_cons_of_mem _ hd)) (by omega)
    rw [valOf]
    omega
/-- A row of digits is read to its number, if an unsigned word of 64 bits holds it; else it is out of range. -/
theorem parseM_digits : ∀ (l : List UInt8) (a : Nat), (∀ c ∈ l.map (fun b => (b.toNat : Int)), 48 ≤ c ∧ c ≤ 57) → a ≤ 18446744073709551615 →
    parseUintM 18446744073709551615 a l = if valOf (l.map fun b => (b.toNat : Int)) a ≤ 18446744073709551615 then .ok (valOf (l.map fun b => (b.toNat : Int)) a).toNat else .range
  | [], a, _, ha => by
    show NumEnd.ok a = _
    rw [List.map_nil, valOf, if_pos (by omega)]
    simp
  | c :: l, a, h, ha => by
    have hc := h (c.toNat : Int) (by simp)
    have hr : ∀ d ∈ l.map (fun b => (b.toNat : Int)), 48 ≤ d ∧ d ≤ 57 := fun d hd => h d (by rw [List.map_cons]; exact List.mem_cons_of_mem _ hd)
    rw [parseUintM, if_pos (by omega), List.map_cons, valOf]
    have e : (a : Int) * 10 + ((c.toNat : Int) - 48) = ((a * 10 + (c.toNat - 48) : Nat) : Int) := by omega
    rw [e]
    have hge := valOf_ge (l.map fun b => (b.toNat : Int)) ((a * 10 + (c.toNat - 48) : Nat) : Int) hr (by omega)
    by_cases h1 : 1844674407370955162 ≤ a
    · rw [if_pos h1, if_neg (by omega)]
    · rw [if_neg h1]
      by_cases h2 : 18446744073709551615 < a * 10 + (c.toNat - 48)
      · rw [if_pos h2, if_neg (by omega)]
      · rw [if_neg h2]
        exact parseM_digits l _ hr (by omega)
theorem parse_digits (s : ByteArray) (h0 : s.size ≠ 0) (h : ∀ c ∈ bytesOf s, 48 ≤ c ∧ c ≤ 57) : parseIntB 64 s.data.toList = match numL (bytesOf s) with | none => .range | some v => .ok v := by
  obtain ⟨c, l, hl⟩ : ∃ c l, s.data.toList = c :: l := List.exists_cons_of_ne_nil (fun e => h0 (by rw [← data_length, e]; rfl))
  have hb : bytesOf s = (c :: l).map (fun b => (b.toNat : Int)) := by unfold bytesOf; rw [hl]
  rw [hb] at h ⊢
  have hc := h (c.toNat : Int) (by simp)
  have hp := parseM_digits (c :: l) 0 h (by omega)
  have hge := valOf_ge _ 0 h (by omega)
  rw [hl]
  unfold parseIntB
  simp only
  rw [if_neg (by omega)]
  unfold parseUintB
  rw [if_neg (by simp)]
  rw [show (2 : Nat) ^ 64 - 1 = 18446744073709551615 from rfl, hp]
  unfold numL
  have e0 : ((0 : Nat) : Int) = 0 := rfl
  rw [e0]
  generalize valOf ((c :: l).map fun b => (b.toNat : Int)) 0 = v at hge ⊢
  have e : ¬ c.toNat = 45 := by omega
  simp only [e, not_false_eq_true, true_and, if_false, false_and]
  by_cases h1 : v ≤ 18446744073709551615
  · rw [if_pos h1]
    simp only
    by_cases h2 : v ≤ 9223372036854775807
    · rw [if_neg (by omega), if_pos h2]
      simp only
      congr 1
      omega
    · rw [if_pos (by omega), if_neg h2]
  · rw [if_neg h1, if_neg (by omega)]
theorem idx_take (l : List UInt8) (d : UInt8) : (indexByte l d = -1 ∧ (l.map fun b => (b.toNat : Int)).takeWhile (· != (d.toNat : Int)) = l.map fun b => (b.toNat : Int)) ∨ ∃ k : Nat, indexByte l d = (k : Int) ∧ k < l.length ∧ ((l.map fun b => (b.toNat : Int)).takeWhile (· != (d.toNat : Int))).length = k := by
  induction l with
  | nil => exact .inl ⟨rfl, rfl⟩
  | cons b l ih =>
    rw [List.map_cons, List.takeWhile_cons, indexByte]
    by_cases h : b = d
    · subst h
      right
      refine ⟨0, by simp, by simp, by simp⟩
    · have hb : (b == d) = false := beq_eq_false_iff_ne.2 h
      have hn : ((b.toNat : Int) != (d.toNat : Int)) = true := by
        rw [bne_iff_ne]
        intro e
        exact h (UInt8.toNat_inj.1 (Int.ofNat_inj.1 e))
      rw [hb, hn]
      simp only [if_true, Bool.false_eq_true, if_false]
      rcases ih with ⟨h1, h2⟩ | ⟨k, h1, h2, h3⟩
      · left
        rw [h1, h2]
        exact ⟨rfl, rfl⟩
      · right
        refine ⟨k + 1, ?_, by rw [List.length_cons]; omega, by simp [h3]⟩
        rw [h1, if_neg (by simp)]
        rfl
theorem sty_ok {n : Int} {x : Sty} (h : style_Of.f n = some x) : 0 ≤ x.close_ ∧ x.close_ ≤ 255 ∧ (x.open_ ≠ 0 → x.open_ ≠ x.close_) := by
  unfold style_Of.f at h
  unfold Sty.open_ Sty.close_
  repeat' split at h
  all_goals (obtain rfl := Option.some.inj h; simp)
theorem note_cut (s : ByteArray) (d : Int) (h0 : 0 ≤ d) (h1 : d ≤ 255) (hne : bytesOf s ≠ []) (hd : (bytesOf s).getD 0 0 ≠ d) :
    (indexByte s.data.toList d.toNat.toUInt8 = -1 ∧ ¬ ((bytesOf s).tail.takeWhile (· != d)).length < (bytesOf s).tail.length) ∨
    ∃ k : Nat, indexByte s.data.toList d.toNat.toUInt8 = (k : Int) ∧ 1 ≤ k ∧ k ≤ s.size ∧ ((bytesOf s).tail.takeWhile (· != d)).length < (bytesOf s).tail.length ∧ ((bytesOf s).tail.takeWhile (· != d)).length + 1 = k ∧ bytesOf (s.extract 1 k) = (bytesOf s).tail.takeWhile (· != d) := by
  have hd8 : ((d.toNat.toUInt8.toNat : Nat) : Int) = d := by
    have : d.toNat.toUInt8.toNat = d.toNat % 256 := by simp
    omega
  have hi := idx_take s.data.toList d.toNat.toUInt8
  rw [hd8] at hi
  change (_ ∧ (bytesOf s).takeWhile (· != d) = bytesOf s) ∨ ∃ k : Nat, _ ∧ _ ∧ ((bytesOf s).takeWhile (· != d)).length = k at hi
  have hlen : (bytesOf s).length = s.data.toList.length := by unfold bytesOf; rw [List.length_map]
  have hsz := bytesOf_length s
  simp only [bytesOf_extract]
  cases hB : bytesOf s with
  | nil => exact absurd hB hne
  | cons b r =>
    rw [hB] at hi hd hlen hsz
    have hb : (b != d) = true := bne_iff_ne.2 hd
    rw [List.takeWhile_cons, if_pos hb] at hi
    rcases hi with ⟨h2, h3⟩ | ⟨k, h2, h3, h4⟩
    · left
      refine ⟨h2, ?_⟩
      have := (List.cons.inj h3).2
      show ¬ (r.takeWhile (· != d)).length < r.length
      rw [this]; omega
    · right
      rw [List.length_cons] at h4 hlen hsz
      refine ⟨k, h2, by omega, by omega, ?_, h4, ?_⟩
      · show (r.takeWhile (· != d)).length < r.length
        omega
      · rw [← h4, List.take_succ_cons, List.drop_succ_cons, List.drop_zero]
        exact takeWhile_take _ _
theorem tw_ne {x : Sty} {B : List Int} {k : Int} (h : B ≠ []) (hk : kindP x (B.getD 0 0) = k) : 0 < (B.takeWhile (kp_ x k)).length := by
  cases B with
  | nil => exact absurd rfl h
  | cons b r =>
    have hb : kp_ x k b = true := by simpa [kp_] using hk
    rw [List.takeWhile_cons, if_pos hb]; simp
theorem tw_digits {x : Sty} {B : List Int} : ∀ c ∈ B.takeWhile (kp_ x 2), 48 ≤ c ∧ c ≤ 57 := fun c hc => digit_kind (by have := takeWhile_all _ _ c hc; simpa [kp_] using this)
theorem take_one {B : List Int} (h : B ≠ []) : B.take 1 = [B.getD 0 0] := by
  cases B with
  | nil => exact absurd rfl h
  | cons b r => rfl
end Go.Proofs.YtimkhjbnkcgekaaDoor.Lx
