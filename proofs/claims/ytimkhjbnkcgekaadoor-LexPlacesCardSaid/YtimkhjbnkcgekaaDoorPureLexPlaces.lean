/- LexPlaces' plain law: for any notation and any text the law's function answers true. No conditions beyond the sizes that every row has. -/
import Derived.Test.YtimkhjbnkcgekaaDoorPLexPlacesx
import Derived.Test.YtimkhjbnkcgekaaDoorV4
import Derived.Test.YtimkhjbnkcgekaaDoorLx4
namespace Go.Proofs.YtimkhjbnkcgekaaDoor.Pure
set_option linter.unusedVariables false
open Go Go.RowKit Go.Proofs.YtimkhjbnkcgekaaDoor Go.Proofs.YtimkhjbnkcgekaaDoor.Lx Go.Proofs.YtimkhjbnkcgekaaDoor.PLexPlaces Go.Proofs.YtimkhjbnkcgekaaDoor.PB Go.Proofs.YtimkhjbnkcgekaaDoor.PC Go.Proofs.YtimkhjbnkcgekaaDoor.PQ Go.Proofs.YtimkhjbnkcgekaaDoor.V3 Go.Proofs.YtimkhjbnkcgekaaDoorW.PrintWords Go.Proofs.YtimkhjbnkcgekaaDoorW.PrintLast
theorem rd_mid (pre rest : List S31) (t : S31) : rd_T31 (pre ++ t :: rest) ((pre.length : Nat) : Int) = t := by
  unfold rd_T31
  rw [Int.toNat_natCast, List.getD_eq_getElem?_getD, List.getElem?_append_right (Nat.le_refl _), Nat.sub_self]
  rfl
def lastK : List S31 → Option Int
  | l => l.getLast?.map (·.f0)
theorem lastK_snoc (l : List S31) (t : S31) : lastK (l ++ [t]) = some t.f0 := by unfold lastK; simp
theorem rd_last {pre : List S31} (h : pre ≠ []) (rest : List S31) : ∃ p, rd_T31 (pre ++ rest) (((pre.length : Nat) : Int) - 1) = p ∧ lastK pre = some p.f0 := by
  obtain ⟨q, p, rfl⟩ : ∃ q p, pre = q ++ [p] := ⟨pre.dropLast, pre.getLast h, (List.dropLast_concat_getLast h).symm⟩
  refine ⟨p, ?_, lastK_snoc q p⟩
  rw [List.append_assoc, List.singleton_append, List.length_append, List.length_singleton, show ((q.length + 1 : Nat) : Int) - 1 = ((q.length : Nat) : Int) by omega]
  exact rd_mid q rest p
theorem wA (a b : Nat) (h : a + b ≤ 100000) : wrap64 ((a : Int) + (b : Int)) = ((a + b : Nat) : Int) := by rw [w64 (by omega) (by omega)]; omega
theorem wS (a : Nat) (h : a ≤ 100000) : wrap64 ((a : Int) - 1) = (a : Int) - 1 := w64 (by omega) (by omega)
theorem loop (s : ByteArray) (hs : s.size ≤ 120) : ∀ (rest pre : List S31) (a : Nat), Chain a (lastK pre) rest → a + sumT rest ≤ s.size → pre.length + rest.length ≤ 1000 → ∀ k, rest.length < k →
    drachmlaw08_LexPlaces.l0 k s true (a : Int) (pre ++ rest) ((pre.length : Nat) : Int) = some true
  | [], pre, a, hc, hsum, hl, k, hk => by
    obtain ⟨k, rfl⟩ : ∃ m, k = m + 1 := ⟨k - 1, by omega⟩
    rw [drachmlaw08_LexPlaces.l0, if_neg (by simp), if_pos rfl]
    congr 1
    exact decide_eq_true (by rw [sumT] at hsum; omega)
  | t :: rest, pre, a, ⟨c1, c2, c3, c4, c5⟩, hsum, hl, k, hk => by
    obtain ⟨k, rfl⟩ : ∃ m, k = m + 1 := ⟨k - 1, by omega⟩
    rw [List.length_cons] at hl hk
    rw [sumT] at hsum
    have ih := loop s hs rest (pre ++ [t]) (a + sizeT t) (by rw [lastK_snoc]; exact c5) (by omega) (by rw [List.length_append, List.length_singleton]; omega) k (by omega)
    rw [List.append_assoc, List.singleton_append, List.length_append, List.length_singleton] at ih
    have hrd := rd_mid pre rest t
    rw [drachmlaw08_LexPlaces.l0]
    have hL : ((pre.length : Nat) : Int) < (((pre ++ t :: rest).length : Nat) : Int) := by rw [List.length_append, List.length_cons]; omega
    have hp : pre ≠ [] → ∃ p, rd_T31 (pre ++ t :: rest) (((pre.length : Nat) : Int) - 1) = p ∧ (t.f0 = p.f0 → ¬ t.f0 ≤ 2) := by
      intro h
      obtain ⟨p, h1, h2⟩ := rd_last h (t :: rest)
      exact ⟨p, h1, fun e => c4 _ h2 e⟩
    rw [if_pos hL, if_pos (by omega), hrd, show wrap64 (((pre.length : Nat) : Int) + 1) = ((pre.length + 1 : Nat) : Int) from wA pre.length 1 (by omega), wS pre.length (by omega)]
    generalize hR : drachmlaw08_LexPlaces.l0 k s true ((a + sizeT t : Nat) : Int) (pre ++ t :: rest) ((pre.length + 1 : Nat) : Int) = R at ih
    have tail : ∀ (m : Int), m = ((a + sizeT t : Nat) : Int) → (if ((pre.length : Nat) : Int) > 0 then (if 0 ≤ ((pre.length : Nat) : Int) - 1 then (if ((pre.length : Nat) : Int) - 1 < (((pre ++ t :: rest).length : Nat) : Int) then (if t.f0 = (rd_T31 (pre ++ t :: rest) (((pre.length : Nat) : Int) - 1)).f0 then (if t.f0 ≤ 2 then (none) else (if t.f0 = 2 then drachmlaw08_LexPlaces.l0 k s true m (pre ++ t :: rest) ((pre.length + 1 : Nat) : Int) else (if t.f3 = 0 then drachmlaw08_LexPlaces.l0 k s true m (pre ++ t :: rest) ((pre.length + 1 : Nat) : Int) else none))) else (if t.f0 = 2 then drachmlaw08_LexPlaces.l0 k s true m (pre ++ t :: rest) ((pre.length + 1 : Nat) : Int) else (if t.f3 = 0 then drachmlaw08_LexPlaces.l0 k s true m (pre ++ t :: rest) ((pre.length + 1 : Nat) : Int) else none))) else none) else none) else (if t.f0 = 2 then drachmlaw08_LexPlaces.l0 k s true m (pre ++ t :: rest) ((pre.length + 1 : Nat) : Int) else (if t.f3 = 0 then drachmlaw08_LexPlaces.l0 k s true m (pre ++ t :: rest) ((pre.length + 1 : Nat) : Int) else none)) : Option Bool) = some true := by
      intro m hm
      subst hm
      rw [hR, ih]
      have hlast : (if t.f0 = 2 then some true else (if t.f3 = 0 then some true else none)) = some true := by
        by_cases h2 : t.f0 = 2
        · rw [if_pos h2]
        · rw [if_neg h2, if_pos (c3 h2)]
      rw [hlast]
      by_cases h0 : ((pre.length : Nat) : Int) > 0
      · obtain ⟨p, hp1, hp2⟩ := hp (fun e => by rw [e] at h0; simp at h0)
        rw [if_pos h0, if_pos (by omega), if_pos (by omega), hp1]
        by_cases he : t.f0 = p.f0
        · rw [if_pos he, if_neg (hp2 he)]
        · rw [if_neg he]
      · rw [if_neg h0]
    by_cases h9 : t.f0 = 9
    · have hsz : sizeT t = t.f2.size + 2 := if_pos h9
      rw [if_pos h9, if_pos c1, show wrap64 ((t.f2.size : Int) + 2) = ((t.f2.size + 2 : Nat) : Int) from wA t.f2.size 2 (by omega), ← hsz, wA a (sizeT t) (by omega), if_neg (by omega), if_neg (by omega)]
      exact tail _ rfl
    · have hsz : sizeT t = t.f2.size := if_neg h9
      rw [if_neg h9, if_pos c1, ← hsz, wA a (sizeT t) (by omega), if_neg (by omega), if_neg (by omega)]
      exact tail _ rfl
theorem LexPlaces : drachmlaw08_LexPlaces.Pure := by
  intro n a _ _
  obtain ⟨r, er, h0, h1⟩ := rest_eq n 5 (by omega) (by omega)
  obtain ⟨s, es, hs⟩ := short_eq a 120 (by omega)
  obtain ⟨x, hx⟩ : ∃ x : Sty, style_Of.f (1 + r) = some x := of_some _
  have hl := all_length x (bytesOf s)
  have he := endOf_le x (bytesOf s)
  rw [bytesOf_length] at hl he
  refine ⟨2000, ?_⟩
  unfold drachmlaw08_LexPlaces.f
  rw [awake_true, bs_, er, bs_, es, bs_, w64 (by omega) (by omega), each_f _ s (by omega) hx, bs_]
  exact loop s (by omega) (all x (bytesOf s)) [] 0 (chain_all x _) (by rw [sum_all]; omega) (by simp; omega) 2000 (by omega)
end Go.Proofs.YtimkhjbnkcgekaaDoor.Pure
