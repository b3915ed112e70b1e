/- LexBack's plain law: for any notation and any text the law's function answers true. No conditions beyond the sizes that every row has. -/
import Derived.Test.YtimkhjbnkcgekaaDoorPLexBackx
import Derived.Test.YtimkhjbnkcgekaaDoorV4
import Derived.Test.YtimkhjbnkcgekaaDoorLx4
namespace Go.Proofs.YtimkhjbnkcgekaaDoor.Pure
set_option linter.unusedVariables false
open Go Go.RowKit Go.Proofs.YtimkhjbnkcgekaaDoor Go.Proofs.YtimkhjbnkcgekaaDoor.Lx Go.Proofs.YtimkhjbnkcgekaaDoor.PLexBack Go.Proofs.YtimkhjbnkcgekaaDoor.PB Go.Proofs.YtimkhjbnkcgekaaDoor.PC Go.Proofs.YtimkhjbnkcgekaaDoor.PQ Go.Proofs.YtimkhjbnkcgekaaDoor.V3 Go.Proofs.YtimkhjbnkcgekaaDoorW.PrintWords Go.Proofs.YtimkhjbnkcgekaaDoorW.PrintLast
theorem sty_fold {n : Int} {x : Sty} (hx : style_Of.f n = some x) (h : x.1 = true) : n = 2 ∨ n = 4 := by
  unfold style_Of.f at hx
  repeat' split at hx
  all_goals (obtain rfl := Option.some.inj hx)
  all_goals first | (left; assumption) | (right; assumption) | (simp at h)
theorem bt_getD' (s : ByteArray) (i : Nat) : bt s (i : Int) = (bytesOf s).getD i 0 := by
  have := rd_bytesOf s (i : Int)
  rw [rd, Int.toNat_natCast] at this
  exact this.symm
theorem same_some (l : List S31) (hl : l.length ≤ 100000) (k : Nat) (hk : l.length < k) : ∃ b, drachmref08_Same.f k [] l = some b := by
  cases l with
  | nil => exact ⟨true, same_refl [] (by simp) k hk⟩
  | cons t l =>
    refine ⟨false, ?_⟩
    unfold drachmref08_Same.f
    rw [if_neg (by simp; omega)]
theorem loop {m : Int} (hm : 1 ≤ m ∧ m ≤ 5) {x : Sty} (hx : style_Of.f m = some x) (s t : ByteArray) (hs : s.size ≤ 120) (hts : t.size = endOf x (bytesOf s))
    (hrel : ∀ i, i < t.size → Rel x ((bytesOf s).getD i 0) ((bytesOf t).getD i 0)) : ∀ (d i : Nat), i + d = t.size → ∀ k, 300 + d < k →
    drachmlaw08_LexBack.l0 k s true m (all x (bytesOf s)) t (i : Int) = some true
  | 0, i, hi, k, hk => by
    obtain ⟨k, rfl⟩ : ∃ m, k = m + 1 := ⟨k - 1, by omega⟩
    have hle := endOf_le x (bytesOf s)
    have hal := all_length x (bytesOf s)
    rw [bytesOf_length] at hle hal
    have hst := is_style hm hx
    rw [drachmlaw08_LexBack.l0, if_neg (by omega), lex_f m s (by omega) hx, bs_]
    by_cases he : endOf x (bytesOf s) < s.size
    · obtain ⟨b, hb⟩ := same_some (all x (bytesOf s)) (by omega) k (by omega)
      rw [lexP_bad hst (by omega) he]
      simp only
      rw [hb, bs_, if_neg (by decide), if_pos trivial, if_pos trivial, if_pos (by omega)]
      rfl
    · rw [lexP_ok hst (by omega) (by omega)]
      simp only
      rw [same_refl _ (by omega) k (by omega), bs_, if_pos trivial, if_pos rfl, if_pos trivial]
      congr 1
      rw [beq_iff_eq]
      omega
  | d + 1, i, hi, k, hk => by
    obtain ⟨k, rfl⟩ : ∃ m, k = m + 1 := ⟨k - 1, by omega⟩
    have hle := endOf_le x (bytesOf s)
    rw [bytesOf_length] at hle
    have ih := loop hm hx s t hs hts hrel d (i + 1) (by omega) k (by omega)
    have hr := hrel i (by omega)
    have hb := bt_range s (i : Int)
    rw [← bt_getD', ← bt_getD'] at hr
    rw [drachmlaw08_LexBack.l0, if_pos (by omega), if_pos (by omega), if_pos (by omega), w64 (by omega) (by omega)]
    rw [show ((i + 1 : Nat) : Int) = (i : Int) + 1 by omega] at ih
    rw [ih]
    generalize bt s (i : Int) = c at hr hb
    generalize bt t (i : Int) = e at hr
    by_cases hec : e = c
    · rw [if_pos hec]
    · rw [if_neg hec]
      rcases hr with hr | hr
      · exact absurd hr hec
      · unfold up at hr
        by_cases hf : x.1 = true ∧ 97 ≤ c ∧ c ≤ 122
        · rw [if_pos hf] at hr
          have hmod : (c - 32) % 256 = c - 32 := by omega
          rw [hmod]
          rcases sty_fold hx hf.1 with h2 | h4
          · rw [if_pos h2, if_neg (by omega), if_neg (by omega), if_pos hr]
          · rw [if_neg (by omega), if_pos h4, if_neg (by omega), if_neg (by omega), if_pos hr]
        · rw [if_neg hf] at hr
          exact absurd hr hec
theorem LexBack : drachmlaw08_LexBack.Pure := by
  intro n a _ _
  obtain ⟨r, er, h0, h1⟩ := rest_eq n 5 (by omega) (by omega)
  obtain ⟨s, es, hs⟩ := short_eq a 120 (by omega)
  refine ⟨1000, ?_⟩
  unfold drachmlaw08_LexBack.f
  rw [awake_true, bs_, er, bs_, es, bs_, w64 (by omega) (by omega)]
  generalize hm : 1 + r = m
  have hm5 : 1 ≤ m ∧ m ≤ 5 := by omega
  obtain ⟨x, hx⟩ : ∃ x : Sty, style_Of.f m = some x := of_some m
  have hal := all_length x (bytesOf s)
  have hle := endOf_le x (bytesOf s)
  rw [bytesOf_length] at hal hle
  obtain ⟨j1, j2, j3, _⟩ := join_toks (x := x) (bytesOf s).length 0 (bytesOf s) (Nat.le_refl _) (bytes_bounds s)
  rw [Nat.zero_add] at j1
  change (joinL x (all x (bytesOf s))).length = endOf x (bytesOf s) at j1
  change toks x (bytesOf s).length 0 (joinL x (all x (bytesOf s))) = _ at j2
  change ∀ i, i < (joinL x (all x (bytesOf s))).length → Rel x ((bytesOf s).getD i 0) ((joinL x (all x (bytesOf s))).getD i 0) at j3
  have hj : lex_Join.f m (all x (bytesOf s)) = some (strOfNums (joinL x (all x (bytesOf s)))) := by
    unfold lex_Join.f
    rw [hx, bs_, if_pos ⟨by omega, by omega⟩]
  have so := sty_ok hx
  have hb := joinL_bounds (sty_open hx) ⟨so.1, so.2.1⟩ (all x (bytesOf s))
  rw [each_f m s (by omega) hx, bs_, hj, bs_]
  generalize joinL x (all x (bytesOf s)) = J at j1 j2 j3 hb
  have hbt : bytesOf (strOfNums J) = J := bytes_of_nums J hb
  have hsz : (strOfNums J).size = J.length := son_size J
  have haj : all x J = all x (bytesOf s) := by
    unfold all
    rw [toks_fuel J.length (bytesOf s).length 0 J (Nat.le_refl _) (by rw [bytesOf_length]; omega), j2]
  rw [each_f m (strOfNums J) (by omega) hx, bs_, hbt, haj, same_refl _ (by omega) 1000 (by omega), bs_, if_pos rfl, drachmlaw08_LexBack.j0, if_neg (by simp; omega)]
  exact loop hm5 hx s (strOfNums J) (by omega) (by rw [hsz, j1]) (by rw [hsz, hbt]; exact j3) (strOfNums J).size 0 (by omega) 999 (by omega)
end Go.Proofs.YtimkhjbnkcgekaaDoor.Pure
