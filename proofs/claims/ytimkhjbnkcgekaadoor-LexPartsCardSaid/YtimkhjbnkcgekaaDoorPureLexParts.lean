/- LexParts' plain law: for any notation and any two texts the law's function answers true. No conditions. -/
import Derived.Test.YtimkhjbnkcgekaaDoorPLexPartsx
import Derived.Test.YtimkhjbnkcgekaaDoorV4
import Derived.Test.YtimkhjbnkcgekaaDoorLx4
namespace Go.Proofs.YtimkhjbnkcgekaaDoor.Pure
set_option linter.unusedVariables false
open Go Go.RowKit Go.Proofs.YtimkhjbnkcgekaaDoor Go.Proofs.YtimkhjbnkcgekaaDoor.Lx Go.Proofs.YtimkhjbnkcgekaaDoor.PLexParts Go.Proofs.YtimkhjbnkcgekaaDoor.PB Go.Proofs.YtimkhjbnkcgekaaDoor.PC Go.Proofs.YtimkhjbnkcgekaaDoor.PQ Go.Proofs.YtimkhjbnkcgekaaDoor.V3 Go.Proofs.YtimkhjbnkcgekaaDoorW.PrintWords Go.Proofs.YtimkhjbnkcgekaaDoorW.PrintLast
theorem sty_div {n : Int} (h : 1 ≤ n ∧ n ≤ 5) {x : Sty} (hx : style_Of.f n = some x) : x.2.2.1 = 47 ∧ kindP x 47 = 5 := by
  have h5 : n = 1 ∨ n = 2 ∨ n = 3 ∨ n = 4 ∨ n = 5 := by omega
  rcases h5 with rfl | rfl | rfl | rfl | rfl <;> (obtain rfl := Option.some.inj hx; decide)
theorem all_parts {x : Sty} (h5 : kindP x 47 = 5) (B C : List Int) (he : endOf x B = B.length) : all x (B ++ 47 :: C) = all x B ++ ⟨5, (B.length : Int), strOfNums [47], 0⟩ :: (all x C).map (shiftT (B.length + 1)) := by
  have hn : nextL x (47 :: C) = some ⟨5, [47], 0, 1⟩ := by
    rw [nextL_cons, h5, if_neg (by decide), if_neg (by decide), if_neg (by decide), if_neg (by decide)]
  unfold all
  unfold endOf at he
  rw [(toks_app (R := 47 :: C) (fun c hc => by
    obtain rfl : (47 : Int) = c := Option.some.inj hc
    rw [h5]; exact ⟨by decide, by decide⟩) B.length 0 B (Nat.le_refl _) (by omega) _ (by rw [List.length_append]; exact Nat.le_refl _)).1]
  rw [List.length_cons, toks_some hn]
  simp only [List.drop_succ_cons, List.drop_zero]
  have := toks_shift (x := x) (B.length + 1) C.length 0 C
  rw [show 0 + B.length + 1 = 0 + (B.length + 1) by omega, this]
  congr 2
  unfold mkT
  simp
theorem wA (a b : Nat) (h : a + b ≤ 100000) : wrap64 ((a : Int) + (b : Int)) = ((a + b : Nat) : Int) := by rw [w64 (by omega) (by omega)]; omega
theorem wS (z : Int) (h : -100000 ≤ z ∧ z ≤ 100000) : wrap64 z = z := w64 (by omega) (by omega)
theorem small_at {x : Sty} : ∀ (d a : Nat) (B : List Int) (t : S31), t ∈ (toks x d a B).1 → 0 ≤ t.f1 ∧ t.f1 ≤ ((a + B.length : Nat) : Int) := by
  intro d
  induction d with
  | zero => intro a B t h; simp [toks] at h
  | succ d ih =>
    intro a B t h
    cases hn : nextL x B with
    | none => rw [toks_none hn] at h; simp at h
    | some u =>
      rw [toks_some hn] at h
      obtain ⟨h1, h2⟩ := next_pos hn
      rcases List.mem_cons.1 h with rfl | h
      · show 0 ≤ (a : Int) ∧ (a : Int) ≤ _
        omega
      · have := ih _ _ t h
        rw [List.length_drop] at this
        omega
theorem rd_split (la : List S31) (m : S31) (lb : List S31) (i : Nat) (hi : i < lb.length) : rd_T31 (la ++ m :: lb) ((la.length + 1 + i : Nat) : Int) = rd_T31 lb ((i : Nat) : Int) := by
  unfold rd_T31
  rw [Int.toNat_natCast, Int.toNat_natCast, List.getD_eq_getElem?_getD, List.getD_eq_getElem?_getD, List.getElem?_append_right (by omega), show la.length + 1 + i - la.length = i + 1 by omega, List.getElem?_cons_succ]
theorem rd_map (c : Nat) (l : List S31) (i : Nat) (hi : i < l.length) : rd_T31 (l.map (shiftT c)) ((i : Nat) : Int) = shiftT c (rd_T31 l ((i : Nat) : Int)) := by
  unfold rd_T31
  rw [Int.toNat_natCast, List.getD_eq_getElem?_getD, List.getD_eq_getElem?_getD, List.getElem?_map, List.getElem?_eq_getElem hi]
  rfl
theorem rd_mem (l : List S31) (i : Nat) (hi : i < l.length) : rd_T31 l ((i : Nat) : Int) ∈ l := by
  unfold rd_T31
  rw [Int.toNat_natCast, List.getD_eq_getElem?_getD, List.getElem?_eq_getElem hi]
  exact List.getElem_mem hi
theorem loop (s : ByteArray) (hs : s.size ≤ 60) (la lb : List S31) (m : S31) (ha : la.length ≤ 60) (hb : lb.length ≤ 60) (hat : ∀ t ∈ lb, 0 ≤ t.f1 ∧ t.f1 ≤ 60) : ∀ (d i : Nat), i + d = lb.length → ∀ k, 200 + d < k →
    drachmlaw08_LexParts.l0 k true s la lb (la ++ m :: lb.map (shiftT (s.size + 1))) ((i : Nat) : Int) = some true
  | 0, i, hi, k, hk => by
    obtain ⟨k, rfl⟩ : ∃ m, k = m + 1 := ⟨k - 1, by omega⟩
    rw [drachmlaw08_LexParts.l0, if_neg (by omega), if_pos rfl, if_pos (by omega), if_pos (by rw [List.length_append]; omega), Int.toNat_natCast, List.take_left, same_refl la (by omega) k (by omega)]
    rfl
  | d + 1, i, hi, k, hk => by
    obtain ⟨k, rfl⟩ : ∃ m, k = m + 1 := ⟨k - 1, by omega⟩
    have ih := loop s hs la lb m ha hb hat d (i + 1) (by omega) k (by omega)
    have hlen : (la ++ m :: lb.map (shiftT (s.size + 1))).length = la.length + 1 + lb.length := by rw [List.length_append, List.length_cons, List.length_map]; omega
    have hr := rd_split la m (lb.map (shiftT (s.size + 1))) i (by rw [List.length_map]; omega)
    rw [rd_map _ _ _ (by omega)] at hr
    have hm := hat _ (rd_mem lb i (by omega))
    rw [drachmlaw08_LexParts.l0, if_pos (by omega), show wrap64 (((la.length : Nat) : Int) + 1) = ((la.length + 1 : Nat) : Int) from wA la.length 1 (by omega), wA (la.length + 1) i (by omega), if_pos (by omega), if_pos (by omega), if_pos (by omega), hr]
    generalize rd_T31 lb ((i : Nat) : Int) = t at hm
    have h1 : wrap64 (wrap64 ((shiftT (s.size + 1) t).f1 - (s.size : Int)) - 1) = t.f1 := by
      show wrap64 (wrap64 (t.f1 + ((s.size + 1 : Nat) : Int) - (s.size : Int)) - 1) = t.f1
      rw [show wrap64 (t.f1 + ((s.size + 1 : Nat) : Int) - (s.size : Int)) = t.f1 + 1 from by rw [wS _ (by omega)]; omega, wS _ (by omega)]
      omega
    rw [h1, if_neg (by simp [shiftT]), show wrap64 (((i : Nat) : Int) + 1) = ((i + 1 : Nat) : Int) from wA i 1 (by omega)]
    exact ih
theorem LexParts : drachmlaw08_LexParts.Pure := by
  intro n a b _ _ _
  obtain ⟨r, er, h0, h1⟩ := rest_eq n 5 (by omega) (by omega)
  obtain ⟨s, es, hs⟩ := short_eq a 60 (by omega)
  obtain ⟨t, et, ht⟩ := short_eq b 60 (by omega)
  refine ⟨1000, ?_⟩
  unfold drachmlaw08_LexParts.f
  rw [awake_true, bs_, er, bs_, es, bs_, et, bs_, w64 (by omega) (by omega)]
  generalize hm : 1 + r = m
  have hm5 : 1 ≤ m ∧ m ≤ 5 := by omega
  obtain ⟨x, hx⟩ : ∃ x : Sty, style_Of.f m = some x := of_some m
  obtain ⟨ho, _, _⟩ := of_two m hx
  obtain ⟨hd1, hd5⟩ := sty_div hm5 hx
  have hst := is_style hm5 hx
  have hle := endOf_le x (bytesOf s)
  have hla := all_length x (bytesOf s)
  have hlb := all_length x (bytesOf t)
  rw [bytesOf_length] at hle hla hlb
  rw [lex_f m s (by omega) hx, bs_]
  by_cases he : endOf x (bytesOf s) < s.size
  · rw [lexP_bad hst (by omega) he]
    simp
  · have he2 : endOf x (bytesOf s) = (bytesOf s).length := by rw [bytesOf_length]; omega
    rw [lexP_ok hst (by omega) (by rw [he2, bytesOf_length])]
    simp only
    rw [if_pos trivial, each_f m t (by omega) hx, bs_, ho, bs_, bs_]
    simp only [hd1]
    have z1 : (strOfNums [(47 : Int)]).size = 1 := son_size _
    rw [if_pos (by omega), if_pos (by rw [ByteArray.size_append, z1]; omega)]
    have hB : bytesOf ((s ++ strOfNums [(47 : Int)]) ++ t) = bytesOf s ++ 47 :: bytesOf t := by
      rw [app, app, bytes_of_nums [(47 : Int)] (by simp), List.append_assoc]; rfl
    rw [each_f m _ (by rw [ByteArray.size_append, ByteArray.size_append, z1]; omega) hx, bs_, hB, all_parts hd5 _ _ he2, bytesOf_length]
    have hat : ∀ u ∈ all x (bytesOf t), 0 ≤ u.f1 ∧ u.f1 ≤ 60 := by
      intro u hu
      have := small_at _ _ _ u hu
      rw [bytesOf_length] at this
      omega
    generalize all x (bytesOf s) = la at hla
    generalize all x (bytesOf t) = lb at hlb hat
    have hrd : rd_T31 (la ++ (⟨5, (s.size : Int), strOfNums [47], 0⟩ : S31) :: lb.map (shiftT (s.size + 1))) ((la.length : Nat) : Int) = ⟨5, (s.size : Int), strOfNums [47], 0⟩ := by
      unfold rd_T31
      rw [Int.toNat_natCast, List.getD_eq_getElem?_getD, List.getElem?_append_right (Nat.le_refl _), Nat.sub_self]
      rfl
    have hlen : (la ++ (⟨5, (s.size : Int), strOfNums [47], 0⟩ : S31) :: lb.map (shiftT (s.size + 1))).length = la.length + 1 + lb.length := by rw [List.length_append, List.length_cons, List.length_map]; omega
    rw [show wrap64 (((la.length : Nat) : Int) + 1) = ((la.length + 1 : Nat) : Int) from wA la.length 1 (by omega), wA (la.length + 1) lb.length (by omega), if_pos (by rw [hlen]), if_pos (by omega), if_pos (by rw [hlen]; omega), hrd]
    simp only
    rw [if_pos trivial, drachmlaw08_LexParts.j0, if_neg (by simp)]
    exact loop s (by omega) la lb _ (by omega) (by omega) hat lb.length 0 (by omega) 999 (by omega)
end Go.Proofs.YtimkhjbnkcgekaaDoor.Pure
