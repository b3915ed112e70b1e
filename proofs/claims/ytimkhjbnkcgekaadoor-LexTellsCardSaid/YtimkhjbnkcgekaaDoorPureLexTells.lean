/- LexTells' plain law: for any notation, any two texts and any count the law's function answers true. No conditions. -/
import Derived.Test.YtimkhjbnkcgekaaDoorPLexTellsx
import Derived.Test.YtimkhjbnkcgekaaDoorV5
namespace Go.Proofs.YtimkhjbnkcgekaaDoor.Pure
open Go Go.RowKit Go.Proofs.YtimkhjbnkcgekaaDoor Go.Proofs.YtimkhjbnkcgekaaDoor.Lx Go.Proofs.YtimkhjbnkcgekaaDoor.PLexTells Go.Proofs.YtimkhjbnkcgekaaDoor.PB Go.Proofs.YtimkhjbnkcgekaaDoor.PC Go.Proofs.YtimkhjbnkcgekaaDoor.PQ Go.Proofs.YtimkhjbnkcgekaaDoor.V3 Go.Proofs.YtimkhjbnkcgekaaDoorW.PrintWords Go.Proofs.YtimkhjbnkcgekaaDoorW.PrintLast
theorem lexP_len (x : Sty) (s : ByteArray) : (lexP x s).1.length ≤ s.size := by
  have := all_length x (bytesOf s)
  rw [bytesOf_length] at this
  unfold lexP
  repeat' split
  all_goals simp [this]
theorem tells_true (n : Int) (s : ByteArray) (hs : s.size ≤ 1000) (k : Nat) (hk : 3500 < k) : drachmlaw08_tells.f k n s = some true := by
  obtain ⟨x, hx⟩ := of_some n
  have h1 := lexP_len x s
  have h2 := all_length x (bytesOf s)
  rw [bytesOf_length] at h2
  unfold drachmlaw08_tells.f
  rw [lex_f n s hs hx, bs_, lex_ref hs hx k (by omega), bs_, same_refl _ (by omega) k (by omega), bs_, each_f n s hs hx, bs_, each_ref hs hx k (by omega), bs_]
  simp only
  rw [same_refl _ (by omega) k (by omega), bs_]
  simp
theorem loop (n often r : Int) (hr : drachmlaw08_rest.f often 6 = some r) (h0 : 0 ≤ r) (h1 : r < 6) (s : ByteArray) (hs : s.size ≤ 120) : ∀ (d i : Nat) (l : ByteArray), (i : Int) + d = r + 1 → l.size ≤ 120 * i → ∀ k, 3600 + d < k →
    drachmlaw08_LexTells.l0 k n often true s l (i : Int) = some true
  | 0, i, l, hi, hl, k, hk => by
    obtain ⟨k, rfl⟩ : ∃ m, k = m + 1 := ⟨k - 1, by omega⟩
    obtain ⟨q, hq, q0, q1⟩ := rest_eq n 8 (by omega) (by omega)
    rw [drachmlaw08_LexTells.l0, hr, bs_, if_neg (by omega), if_pos rfl, tells_true n s (by omega) k (by omega), bs_, if_pos rfl, hq, bs_, tells_true _ s (by omega) k (by omega), bs_, if_pos rfl, tells_true _ l (by omega) k (by omega), bs_]
  | d + 1, i, l, hi, hl, k, hk => by
    obtain ⟨k, rfl⟩ : ∃ m, k = m + 1 := ⟨k - 1, by omega⟩
    have ih := loop n often r hr h0 h1 s hs d (i + 1) (l ++ s) (by omega) (by rw [ByteArray.size_append]; omega) k (by omega)
    rw [drachmlaw08_LexTells.l0, hr, bs_, if_pos (by omega), if_pos (by omega), w64 (by omega) (by omega)]
    exact ih
theorem LexTells : drachmlaw08_LexTells.Pure := by
  intro n a b often _ _ _ _
  obtain ⟨s, es, hs⟩ := short_eq a 60 (by omega)
  obtain ⟨t, et, ht⟩ := short_eq b 60 (by omega)
  obtain ⟨r, er, h0, h1⟩ := rest_eq often 6 (by omega) (by omega)
  refine ⟨4000, ?_⟩
  unfold drachmlaw08_LexTells.f
  rw [awake_true, bs_, es, bs_, et, bs_, if_pos (by omega)]
  exact loop n often r er h0 h1 (s ++ t) (by rw [ByteArray.size_append]; omega) (r + 1).toNat 0 _ (by omega) (Nat.zero_le _) 4000 (by omega)
end Go.Proofs.YtimkhjbnkcgekaaDoor.Pure
