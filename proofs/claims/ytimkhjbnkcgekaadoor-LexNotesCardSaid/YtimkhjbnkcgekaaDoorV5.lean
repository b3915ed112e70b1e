/- Chapter 8's plain laws: what the document's functions come to. No conditions beyond those that stand in each theorem. -/
import Derived.Test.YtimkhjbnkcgekaaDoorV4
namespace Go.Proofs.YtimkhjbnkcgekaaDoor.Lx
open Go Go.RowKit Go.Proofs.YtimkhjbnkcgekaaDoor Go.Proofs.YtimkhjbnkcgekaaDoor.PB Go.Proofs.YtimkhjbnkcgekaaDoor.PC Go.Proofs.YtimkhjbnkcgekaaDoor.PQ Go.Proofs.YtimkhjbnkcgekaaDoor.V3 Go.Proofs.YtimkhjbnkcgekaaDoorW.PrintWords Go.Proofs.YtimkhjbnkcgekaaDoorW.PrintLast
set_option linter.unusedVariables false
theorem getD_drop (B : List Int) (a i : Nat) : (B.drop a).getD i 0 = B.getD (a + i) 0 := by
  rw [List.getD_eq_getElem?_getD, List.getD_eq_getElem?_getD, List.getElem?_drop]
theorem bt_getD (s : ByteArray) (i : Nat) : bt s (i : Int) = (bytesOf s).getD i 0 := by
  have := rd_bytesOf s (i : Int)
  rw [rd, Int.toNat_natCast] at this
  exact this.symm
theorem goes_from {n : Int} {s : ByteArray} (hs : s.size ≤ 1000) {x : Sty} (hx : style_Of.f n = some x) (a : Nat) (kind : Int) : ∀ (d i : Nat), a + i + d = s.size → i ≤ (((bytesOf s).drop a).takeWhile (kp_ x kind)).length → ∀ k, d + 8 < k →
    drachmref08_goes.l0 k n s (a : Int) kind (i : Int) = some ((((bytesOf s).drop a).takeWhile (kp_ x kind)).length : Int)
  | 0, i, hi, hw, k, hk => by
    obtain ⟨k, rfl⟩ : ∃ m, k = m + 1 := ⟨k - 1, by omega⟩
    have h1 := takeWhile_len (kp_ x kind) ((bytesOf s).drop a)
    rw [List.length_drop, bytesOf_length] at h1
    rw [drachmref08_goes.l0, w64 (x := (a : Int) + i) (by omega) (by omega), if_neg (by omega)]
    congr 1; omega
  | d + 1, i, hi, hw, k, hk => by
    obtain ⟨k, rfl⟩ : ∃ m, k = m + 5 := ⟨k - 5, by omega⟩
    have hb : bt s ((a : Int) + i) = ((bytesOf s).drop a).getD i 0 := by
      rw [getD_drop, ← bt_getD]; congr 1
    rw [show k + 5 = (k + 4) + 1 from rfl, drachmref08_goes.l0, w64 (x := (a : Int) + i) (by omega) (by omega), if_pos (by omega), if_pos (by omega), kind_ref k n _ hx, bs_, hb]
    by_cases hlt : i < (((bytesOf s).drop a).takeWhile (kp_ x kind)).length
    · have ht := tw_in (kp_ x kind) 0 _ i hlt
      have ih := goes_from hs hx a kind d (i + 1) (by omega) hlt (k + 4) (by omega)
      rw [if_pos (by simpa [kp_] using ht), w64 (by omega) (by omega)]
      exact ih
    · have he : (((bytesOf s).drop a).takeWhile (kp_ x kind)).length = i := by omega
      have ht := tw_out (kp_ x kind) 0 ((bytesOf s).drop a) (by rw [he, List.length_drop, bytesOf_length]; omega)
      rw [he] at ht ⊢
      rw [if_neg (by simpa [kp_] using ht)]
theorem goes_eq {n : Int} {s : ByteArray} (hs : s.size ≤ 1000) {x : Sty} (hx : style_Of.f n = some x) (a : Nat) (ha : a ≤ s.size) (kind : Int) (k : Nat) (hk : 1008 < k) :
    drachmref08_goes.f k n s (a : Int) kind = some ((((bytesOf s).drop a).takeWhile (kp_ x kind)).length : Int) := by
  unfold drachmref08_goes.f
  exact goes_from hs hx a kind (s.size - a) 0 (by omega) (Nat.zero_le _) k (by omega)
theorem number_from {s : ByteArray} (hs : s.size ≤ 1000) (hd : ∀ c ∈ bytesOf s, 48 ≤ c ∧ c ≤ 57) : ∀ (d i : Nat) (acc : Int), i + d = s.size → 0 ≤ acc → acc ≤ 9223372036854775807 → ∀ k, d < k →
    drachmref08_number.l0 k s acc (i : Int) = some (if valOf ((bytesOf s).drop i) acc ≤ 9223372036854775807 then (valOf ((bytesOf s).drop i) acc, true) else (0, false))
  | 0, i, acc, hi, h0, h1, k, hk => by
    obtain ⟨k, rfl⟩ : ∃ m, k = m + 1 := ⟨k - 1, by omega⟩
    rw [drachmref08_number.l0, if_neg (by omega), List.drop_eq_nil_of_le (by rw [bytesOf_length]; omega), valOf, if_pos h1]
  | d + 1, i, acc, hi, h0, h1, k, hk => by
    obtain ⟨k, rfl⟩ : ∃ m, k = m + 1 := ⟨k - 1, by omega⟩
    have hdr := drop_cons s i (by omega)
    have hc := hd (bt s (i : Int)) (by
      have : bt s (i : Int) ∈ (bytesOf s).drop i := by rw [hdr]; exact List.mem_cons_self ..
      exact List.mem_of_mem_drop this)
    have hr : ∀ c ∈ (bytesOf s).drop (i + 1), 48 ≤ c ∧ c ≤ 57 := fun c h => hd c (List.mem_of_mem_drop h)
    rw [drachmref08_number.l0, if_pos (by omega), if_pos (by omega), hdr, valOf]
    generalize bt s (i : Int) = c at hc
    have hm : (c - 48) % 256 = c - 48 := by omega
    rw [hm]
    by_cases hg : acc > (9223372036854775807 - (c - 48)) / 10
    · have hge := valOf_ge ((bytesOf s).drop (i + 1)) (acc * 10 + (c - 48)) hr (by omega)
      rw [if_pos hg, if_neg (by omega)]
    · rw [if_neg hg, w64 (x := acc * 10) (by omega) (by omega), w64 (x := acc * 10 + (c - 48)) (by omega) (by omega), w64 (by omega) (by omega)]
      exact number_from hs hd d (i + 1) (acc * 10 + (c - 48)) (by omega) (by omega) (by omega) k (by omega)
theorem number_eq {s : ByteArray} (hs : s.size ≤ 1000) (hd : ∀ c ∈ bytesOf s, 48 ≤ c ∧ c ≤ 57) (k : Nat) (hk : 1000 < k) : drachmref08_number.f k s = some (match numL (bytesOf s) with | none => (0, false) | some v => (v, true)) := by
  unfold drachmref08_number.f numL
  have := number_from hs hd s.size 0 0 (by omega) (by omega) (by omega) k (by omega)
  rw [List.drop_zero] at this
  rw [show ((0 : Nat) : Int) = 0 from rfl] at this
  rw [this]
  split <;> rfl
abbrev G5 := Int × Int × ByteArray × Int × Int
def z5 : G5 := (0, 0, (⟨#[]⟩ : ByteArray), 0, 0)
theorem note_from {n : Int} {s : ByteArray} (hs : s.size ≤ 1000) {x : Sty} (hx : style_Of.f n = some x) (ho : x.open_ ≠ 0) (a : Nat) (ha : a < s.size) (T : List Int) (hT : ((bytesOf s).drop (a + 1)).takeWhile (· != x.close_) = T) : ∀ (d i : Nat), a + 1 + i + d = s.size → i ≤ T.length → ∀ k, d + 1010 < k →
    drachmref08_note.l0 k n s (a : Int) ((a + 1 + i : Nat) : Int) = some (if T.length < ((bytesOf s).drop (a + 1)).length ∧ T.all (okb x.open_ x.close_) = true then (9, (a : Int), strOfNums T, 0, ((T.length + 2 : Nat) : Int)) else z5) := by
  obtain ⟨h1, _, _⟩ := of_two n hx
  have hTl : T.length ≤ s.size - (a + 1) := by rw [← hT, ← bytesOf_length, ← List.length_drop]; exact takeWhile_len _ _
  have hln : ((bytesOf s).drop (a + 1)).length = s.size - (a + 1) := by rw [List.length_drop, bytesOf_length]
  have hj1 : ∀ k, 1005 < k → drachmref08_note.j1 k n s (a : Int) ((a + 1 + T.length : Nat) : Int) = some (if T.length < ((bytesOf s).drop (a + 1)).length ∧ T.all (okb x.open_ x.close_) = true then (9, (a : Int), strOfNums T, 0, ((T.length + 2 : Nat) : Int)) else z5) := by
    intro k hk
    obtain ⟨k, rfl⟩ : ∃ m, k = m + 1 := ⟨k - 1, by omega⟩
    rw [drachmref08_note.j1, hln]
    by_cases hlt : T.length < s.size - (a + 1)
    · have hex : bytesOf (s.extract (a + 1) (a + 1 + T.length)) = T := by
        rw [bytesOf_extract, List.drop_take, show a + 1 + T.length - (a + 1) = T.length by omega]
        rw [← hT]
        exact takeWhile_take _ _
      have hsx : s.extract (a + 1) (a + 1 + T.length) = strOfNums T := by rw [← son_bytesOf (s.extract (a + 1) (a + 1 + T.length)), hex]
      rw [if_neg (by omega), w64 (x := (a : Int) + 1) (by omega) (by omega), if_pos (by omega), if_pos (by omega), if_pos (by omega)]
      rw [show ((a : Int) + 1).toNat = a + 1 by omega, Int.toNat_natCast, hsx, plain_ref n (strOfNums T) (by rw [son_size]; omega) hx k (by rw [son_size]; omega), bs_]
      rw [show bytesOf (strOfNums T) = T by rw [← hsx, hex]]
      have hob : (x.2.2.2.2.1 != 0) = true := bne_iff_ne.2 ho
      rw [hob, Bool.and_true]
      show (if T.all (okb x.open_ x.close_) = true then _ else _) = _
      by_cases hal : T.all (okb x.open_ x.close_) = true
      · rw [if_pos hal, if_pos ⟨hlt, hal⟩, w64 (x := ((a + 1 + T.length : Nat) : Int) + 1) (by omega) (by omega), w64 (by omega) (by omega)]
        rw [show ((a + 1 + T.length : Nat) : Int) + 1 - (a : Int) = ((T.length + 2 : Nat) : Int) by omega]
      · rw [if_neg hal, if_neg (fun h => hal h.2)]; rfl
    · rw [if_pos (by omega), if_neg (fun h => hlt h.1)]; rfl
  intro d
  induction d with
  | zero =>
    intro i hi hw k hk
    obtain ⟨k, rfl⟩ : ∃ m, k = m + 1 := ⟨k - 1, by omega⟩
    rw [drachmref08_note.l0, if_neg (by omega), show a + 1 + i = a + 1 + T.length by omega]
    exact hj1 k (by omega)
  | succ d ih =>
    intro i hi hw k hk
    obtain ⟨k, rfl⟩ : ∃ m, k = m + 1 := ⟨k - 1, by omega⟩
    have hb : bt s ((a + 1 + i : Nat) : Int) = ((bytesOf s).drop (a + 1)).getD i 0 := by rw [getD_drop, ← bt_getD]
    rw [drachmref08_note.l0, if_pos (by omega), if_pos (by omega), h1, bs_, hb]
    by_cases hlt : i < T.length
    · have ht := tw_in (· != x.close_) 0 ((bytesOf s).drop (a + 1)) i (by rw [hT]; exact hlt)
      have hz : ((bytesOf s).drop (a + 1)).getD i 0 ≠ x.close_ := by simpa only [bne_iff_ne] using ht
      rw [if_neg (show ¬ ((bytesOf s).drop (a + 1)).getD i 0 = x.2.2.2.2.2.1 from hz), w64 (by omega) (by omega)]
      exact ih (i + 1) (by omega) hlt k (by omega)
    · have he : T.length = i := by omega
      have ht := tw_out (· != x.close_) 0 ((bytesOf s).drop (a + 1)) (by rw [hT, he, hln]; omega)
      rw [hT, he] at ht
      have hz : ((bytesOf s).drop (a + 1)).getD i 0 = x.close_ := by simpa only [bne_eq_false_iff_eq] using ht
      rw [if_pos (show ((bytesOf s).drop (a + 1)).getD i 0 = x.2.2.2.2.2.1 from hz), ← he]
      exact hj1 k (by omega)
def got (a : Nat) : Option Tk → G5
  | none => z5
  | some t => (t.k, (a : Int), strOfNums t.t, t.v, (t.n : Int))
theorem cutN (s : ByteArray) (a m : Nat) (T : List Int) (h : ((bytesOf s).drop a).take m = T) : s.extract a (a + m) = strOfNums T := by
  rw [← h, ← son_bytesOf (s.extract a (a + m)), bytesOf_extract, List.drop_take, show a + m - a = m by omega]
theorem next_ref {n : Int} {s : ByteArray} (hs : s.size ≤ 1000) {x : Sty} (hx : style_Of.f n = some x) (a : Nat) (ha : a < s.size) (k : Nat) (hk : 2100 < k) :
    drachmref08_Next.f k n s (a : Int) = some (got a (nextL x ((bytesOf s).drop a))) := by
  obtain ⟨k, rfl⟩ : ∃ m, k = m + 5 := ⟨k - 5, by omega⟩
  have hB : (bytesOf s).drop a = bt s (a : Int) :: (bytesOf s).drop (a + 1) := drop_cons s a ha
  have hne : (bytesOf s).drop a ≠ [] := by rw [hB]; simp
  have hg0 : ((bytesOf s).drop a).getD 0 0 = bt s (a : Int) := by rw [hB]; rfl
  have htl : ((bytesOf s).drop a).tail = (bytesOf s).drop (a + 1) := by rw [hB]; rfl
  have hE := next_eq x _ hne
  rw [hg0, htl] at hE
  have hlen : ((bytesOf s).drop a).length = s.size - a := by rw [List.length_drop, bytesOf_length]
  unfold drachmref08_Next.f
  rw [if_pos (by omega), if_pos (by omega), kind_ref (k + 1) n _ hx, bs_]
  generalize hq : kindP x (bt s (a : Int)) = q at hE
  by_cases h0 : q = 0
  · subst h0
    rw [if_pos rfl, hE, if_pos (Or.inl rfl), drachmref08_Next.j0, if_pos (by decide)]; rfl
  rw [if_neg h0]
  by_cases h10 : q = 10
  · subst h10
    rw [hE, if_pos (Or.inr rfl), drachmref08_Next.j0, if_pos (by decide)]; rfl
  rw [if_neg (fun h => h.elim h0 h10)] at hE
  rw [drachmref08_Next.j0, if_neg (by simpa using h10)]
  by_cases h1 : q = 1
  · subst h1
    rw [if_pos rfl] at hE
    have hL := takeWhile_len (kp_ x 1) ((bytesOf s).drop a)
    have hT := takeWhile_take (kp_ x 1) ((bytesOf s).drop a)
    rw [if_pos rfl, goes_eq hs hx a (by omega) 1 (k + 4) (by omega), bs_, hE]
    generalize ((bytesOf s).drop a).takeWhile (kp_ x 1) = L at hL hT
    rw [if_pos (by omega), w64 (by omega) (by omega), if_pos (by omega), if_pos (by omega), Int.toNat_natCast, show ((a : Int) + (L.length : Int)).toNat = a + L.length by omega, cutN s a L.length L hT]
    rw [raise_ref n (strOfNums L) (by rw [son_size]; omega) hx (k + 4) (by rw [son_size]; omega), bs_]
    rw [show bytesOf (strOfNums L) = L by rw [← cutN s a L.length L hT, bytesOf_extract, List.drop_take, show a + L.length - a = L.length by omega]; exact hT]
    rfl
  rw [if_neg h1] at hE ⊢
  by_cases h2 : q = 2
  · subst h2
    rw [if_pos rfl] at hE
    have hL := takeWhile_len (kp_ x 2) ((bytesOf s).drop a)
    have hT := takeWhile_take (kp_ x 2) ((bytesOf s).drop a)
    have hD := tw_digits (x := x) (B := (bytesOf s).drop a)
    rw [if_pos rfl, goes_eq hs hx a (by omega) 2 (k + 4) (by omega), bs_, hE]
    generalize ((bytesOf s).drop a).takeWhile (kp_ x 2) = L at hL hT hD
    have hbl : bytesOf (strOfNums L) = L := by rw [← cutN s a L.length L hT, bytesOf_extract, List.drop_take, show a + L.length - a = L.length by omega]; exact hT
    rw [if_pos (by omega), w64 (by omega) (by omega), if_pos (by omega), if_pos (by omega), Int.toNat_natCast, show ((a : Int) + (L.length : Int)).toNat = a + L.length by omega, cutN s a L.length L hT]
    rw [number_eq (s := strOfNums L) (by rw [son_size]; omega) (by rw [hbl]; exact hD) (k + 4) (by omega), bs_, hbl]
    cases numL L with
    | none => rfl
    | some v => rfl
  rw [if_neg h2] at hE ⊢
  by_cases h9 : q = 9
  · subst h9
    rw [if_pos rfl] at hE ⊢
    have ho := kind_open hq
    unfold drachmref08_note.f
    have hN := note_from hs hx ho.2 a ha _ rfl (s.size - (a + 1)) 0 (by omega) (Nat.zero_le _) (k + 4) (by omega)
    rw [w64 (x := (a : Int) + 1) (by omega) (by omega)]
    rw [show ((a + 1 + 0 : Nat) : Int) = (a : Int) + 1 by omega] at hN
    rw [hN, bs_, hE]
    split <;> rfl
  rw [if_neg h9] at hE ⊢
  rw [if_pos (by omega), if_pos (by omega), kind_ref k n _ hx, bs_, hq, w64 (by omega) (by omega), if_pos (by omega), if_pos (by omega), Int.toNat_natCast, show ((a : Int) + 1).toNat = a + 1 by omega, hE]
  rw [cutN s a 1 [bt s (a : Int)] (by rw [hB]; rfl)]
  rfl
theorem each_from {n : Int} {s : ByteArray} (hs : s.size ≤ 1000) {x : Sty} (hx : style_Of.f n = some x) : ∀ (d a : Nat) (l : List S31), a + d = s.size → l.length ≤ a → ∀ k, d + 2200 < k →
    drachmref08_Each.l0 k n s l (a : Int) = some (l ++ (toks x d a ((bytesOf s).drop a)).1, ((toks x d a ((bytesOf s).drop a)).2 : Int)) := by
  intro d
  induction d using Nat.strongRecOn with
  | ind d ih =>
    intro a l hd hl k hk
    obtain ⟨k, rfl⟩ : ∃ m, k = m + 1 := ⟨k - 1, by omega⟩
    rw [drachmref08_Each.l0]
    cases d with
    | zero => rw [if_neg (by omega), toks, List.append_nil]
    | succ d =>
      rw [if_pos (by omega), next_ref hs hx a (by omega) k (by omega), bs_]
      cases hn : nextL x ((bytesOf s).drop a) with
      | none =>
        rw [toks_none hn, List.append_nil]
        rfl
      | some t =>
        obtain ⟨h1, h2⟩ := next_pos hn
        rw [List.length_drop, bytesOf_length] at h2
        refine (if_neg (show ¬ ((t.n : Int) = 0) by omega)).trans ?_
        refine (if_pos (show l.length < 3518437208883 by omega)).trans ?_
        show drachmref08_Each.l0 k n s (l ++ [mkT a t]) (wrap64 ((a : Int) + (t.n : Int))) = _
        rw [w64 (by omega) (by omega), toks_some hn, List.drop_drop]
        have := ih (d + 1 - t.n) (by omega) (a + t.n) (l ++ [mkT a t]) (by omega) (by rw [List.length_append, List.length_singleton]; omega) k (by omega)
        rw [show ((a : Int) + (t.n : Int)) = ((a + t.n : Nat) : Int) by omega]
        rw [this]
        rw [toks_fuel (d + 1 - t.n) d (a + t.n) _ (by rw [List.length_drop, bytesOf_length]; omega) (by rw [List.length_drop, bytesOf_length]; omega), List.append_assoc]
        rfl
theorem each_ref {n : Int} {s : ByteArray} (hs : s.size ≤ 1000) {x : Sty} (hx : style_Of.f n = some x) (k : Nat) (hk : 3300 < k) :
    drachmref08_Each.f k n s = some (all x (bytesOf s), (endOf x (bytesOf s) : Int)) := by
  unfold drachmref08_Each.f
  have := each_from hs hx s.size 0 [] (by omega) (by simp) k (by omega)
  rw [List.drop_zero, List.nil_append] at this
  unfold all endOf
  rw [bytesOf_length]
  exact this
theorem lex_ref {n : Int} {s : ByteArray} (hs : s.size ≤ 1000) {x : Sty} (hx : style_Of.f n = some x) (k : Nat) (hk : 3400 < k) :
    drachmref08_Lex.f k n s = some (lexP x s) := by
  obtain ⟨k, rfl⟩ : ∃ m, k = m + 1 := ⟨k - 1, by omega⟩
  obtain ⟨_, h5, _⟩ := of_two n hx
  have hle := endOf_le x (bytesOf s)
  rw [bytesOf_length] at hle
  unfold drachmref08_Lex.f
  by_cases hi : 1 ≤ n ∧ n ≤ 5
  · have ht := h5.2 hi
    rw [if_neg (by omega), show decide (n > 5) = false from decide_eq_false (by omega), drachmref08_Lex.j0, if_neg (by decide)]
    by_cases h255 : 255 < s.size
    · rw [if_pos (by omega), lexP_long ht h255]
    · rw [if_neg (by omega), each_ref hs hx k (by omega), bs_]
      simp only
      by_cases he : endOf x (bytesOf s) < s.size
      · rw [if_pos (by omega), lexP_bad ht (by omega) he]
      · rw [if_neg (by omega), lexP_ok ht (by omega) (by omega)]
  · have hf : x.2.2.2.2.2.2 = false := by
      cases hc : x.2.2.2.2.2.2 with
      | false => rfl
      | true => exact absurd (h5.1 hc) hi
    rw [lexP_none hf]
    by_cases h1 : n < 1
    · rw [if_pos h1, drachmref08_Lex.j0, if_pos rfl]
    · rw [if_neg h1, show decide (n > 5) = true from decide_eq_true (by omega), drachmref08_Lex.j0, if_pos rfl]
end Go.Proofs.YtimkhjbnkcgekaaDoor.Lx
