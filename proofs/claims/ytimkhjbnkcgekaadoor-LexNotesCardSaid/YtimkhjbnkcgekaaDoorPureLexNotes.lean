/- LexNotes' plain law: for any notation and any text the law's function answers true. No conditions beyond the sizes that every row has. -/
import Derived.Test.YtimkhjbnkcgekaaDoorPLexNotesx
import Derived.Test.YtimkhjbnkcgekaaDoorV5
import Derived.Test.YtimkhjbnkcgekaaDoorLx4
namespace Go.Proofs.YtimkhjbnkcgekaaDoor.Pure
set_option linter.unusedVariables false
open Go Go.RowKit Go.Proofs.YtimkhjbnkcgekaaDoor Go.Proofs.YtimkhjbnkcgekaaDoor.Lx Go.Proofs.YtimkhjbnkcgekaaDoor.PLexNotes Go.Proofs.YtimkhjbnkcgekaaDoor.PB Go.Proofs.YtimkhjbnkcgekaaDoor.PC Go.Proofs.YtimkhjbnkcgekaaDoor.PQ Go.Proofs.YtimkhjbnkcgekaaDoor.V3 Go.Proofs.YtimkhjbnkcgekaaDoorW.PrintWords Go.Proofs.YtimkhjbnkcgekaaDoorW.PrintLast
/-- The five styles, what the law asks of them. -/
theorem sty_notes {n : Int} (h : 1 ≤ n ∧ n ≤ 5) {x : Sty} (hx : style_Of.f n = some x) : kindP x 109 = 1 ∧ (x.open_ = 0 → kindP x x.open_ = 0) ∧ (x.open_ ≠ 0 → kindP x x.open_ = 9) ∧ 0 ≤ x.open_ ∧ x.open_ ≤ 255 ∧ 0 ≤ x.close_ ∧ x.close_ ≤ 255 := by
  have h5 : n = 1 ∨ n = 2 ∨ n = 3 ∨ n = 4 ∨ n = 5 := by omega
  rcases h5 with rfl | rfl | rfl | rfl | rfl <;> (obtain rfl := Option.some.inj hx; decide)
theorem notes_text (x : Sty) (s : ByteArray) (ho : 0 ≤ x.open_ ∧ x.open_ ≤ 255) (hc : 0 ≤ x.close_ ∧ x.close_ ≤ 255) : bytesOf ((((⟨#[109]⟩ : ByteArray) ++ strOfNums [x.open_]) ++ s) ++ strOfNums [x.close_]) = 109 :: x.open_ :: (bytesOf s ++ [x.close_]) := by
  rw [app, app, app, bytes_of_nums [x.open_] (by simpa using ho), bytes_of_nums [x.close_] (by simpa using hc)]
  rfl
/-- The law's text: what stands in it. -/
theorem notes_zero {x : Sty} (h109 : kindP x 109 = 1) (h0 : kindP x x.open_ = 0) (r : List Int) : all x (109 :: x.open_ :: r) = [⟨1, 0, strOfNums [up x.1 109], 0⟩] ∧ endOf x (109 :: x.open_ :: r) = 1 := by
  have hn : nextL x (109 :: x.open_ :: r) = some ⟨1, [up x.1 109], 0, 1⟩ := by
    rw [nextL_cons, h109, if_neg (by decide), if_pos rfl]
    have : (109 :: x.open_ :: r).takeWhile (kp_ x 1) = [109] := by
      rw [List.takeWhile_cons, if_pos (by simp [kp_, h109]), List.takeWhile_cons, if_neg (by simp [kp_, h0])]
    rw [this]; rfl
  have hn2 : nextL x (x.open_ :: r) = none := by rw [nextL_cons, h0, if_pos (Or.inl rfl)]
  unfold all endOf
  rw [List.length_cons, toks_some hn]
  simp only [List.drop_succ_cons, List.drop_zero]
  rw [toks_none hn2]
  exact ⟨rfl, rfl⟩
theorem notes_nine {x : Sty} (h109 : kindP x 109 = 1) (h9 : kindP x x.open_ = 9) (hoc : x.open_ ≠ x.close_) (B : List Int) :
    (B.all (okb x.open_ x.close_) = true ∧ all x (109 :: x.open_ :: (B ++ [x.close_])) = [⟨1, 0, strOfNums [up x.1 109], 0⟩, ⟨9, 1, strOfNums B, 0⟩] ∧ endOf x (109 :: x.open_ :: (B ++ [x.close_])) = B.length + 3) ∨
    (B.all (okb x.open_ x.close_) = false ∧ (endOf x (109 :: x.open_ :: (B ++ [x.close_])) = 1 ∨ ∃ T l, all x (109 :: x.open_ :: (B ++ [x.close_])) = ⟨1, 0, strOfNums [up x.1 109], 0⟩ :: ⟨9, 1, strOfNums T, 0⟩ :: l ∧ T.length < B.length)) := by
  have hn : nextL x (109 :: x.open_ :: (B ++ [x.close_])) = some ⟨1, [up x.1 109], 0, 1⟩ := by
    rw [nextL_cons, h109, if_neg (by decide), if_pos rfl]
    have : (109 :: x.open_ :: (B ++ [x.close_])).takeWhile (kp_ x 1) = [109] := by
      rw [List.takeWhile_cons, if_pos (by simp [kp_, h109]), List.takeWhile_cons, if_neg (by simp [kp_, h9])]
    rw [this]; rfl
  have hn2 := nextL_cons x x.open_ (B ++ [x.close_])
  rw [h9, if_neg (by decide), if_neg (by decide), if_neg (by decide), if_pos rfl] at hn2
  unfold all endOf
  rw [List.length_cons, toks_some hn]
  simp only [List.drop_succ_cons, List.drop_zero, List.length_cons]
  by_cases hin : ∀ c ∈ B, (c != x.close_) = true
  · have htw : (B ++ [x.close_]).takeWhile (· != x.close_) = B := takeWhile_app _ _ (fun c hc => by simp at hc; subst hc; simp) _ hin
    rw [htw] at hn2
    cases ha : B.all (okb x.open_ x.close_) with
    | true =>
      left
      rw [if_pos ⟨by simp, ha⟩] at hn2
      refine ⟨rfl, ?_⟩
      rw [toks_some hn2]
      simp only [List.drop_succ_cons]
      rw [List.drop_eq_nil_of_le (by simp), toks_none rfl]
      refine ⟨rfl, ?_⟩
      simp only
      omega
    | false =>
      right
      refine ⟨rfl, .inl ?_⟩
      rw [if_neg (fun h => by rw [ha] at h; exact absurd h.2 (by decide))] at hn2
      rw [toks_none hn2]
  · right
    have hex : ∃ c ∈ B, c = x.close_ := by
      refine Classical.byContradiction fun h => hin fun c hc => bne_iff_ne.2 fun e => h ⟨c, hc, e⟩
    obtain ⟨c, hc, rfl⟩ := hex
    have ha : B.all (okb x.open_ x.close_) = false := by
      rw [List.all_eq_false]
      exact ⟨_, hc, by simp [okb]⟩
    refine ⟨ha, ?_⟩
    have hlt : ((B ++ [x.close_]).takeWhile (· != x.close_)).length < B.length := by
      refine Classical.byContradiction fun h => ?_
      have htk := takeWhile_take (· != x.close_) (B ++ [x.close_])
      have : ∀ e ∈ B, (e != x.close_) = true := by
        intro e he
        refine takeWhile_all (· != x.close_) (B ++ [x.close_]) e ?_
        rw [← htk]
        have hB : B = (B ++ [x.close_]).take B.length := by rw [List.take_left]
        have := List.take_subset_take_left (B ++ [x.close_]) (show B.length ≤ ((B ++ [x.close_]).takeWhile (· != x.close_)).length by omega)
        rw [← hB] at this
        exact this he
      have := this _ hc
      simp at this
    by_cases hok : ((B ++ [x.close_]).takeWhile (· != x.close_)).all (okb x.open_ x.close_) = true
    · right
      rw [if_pos ⟨by rw [List.length_append]; omega, hok⟩] at hn2
      rw [toks_some hn2]
      exact ⟨_, _, rfl, hlt⟩
    · left
      rw [if_neg (fun h => hok h.2)] at hn2
      rw [toks_none hn2]
theorem LexNotes : drachmlaw08_LexNotes.Pure := by
  intro n a _ _
  obtain ⟨r, er, h0, h1⟩ := rest_eq n 5 (by omega) (by omega)
  obtain ⟨s, es, hs⟩ := short_eq a 100 (by omega)
  refine ⟨4000, ?_⟩
  unfold drachmlaw08_LexNotes.f
  rw [awake_true, bs_, er, bs_, es, bs_, w64 (by omega) (by omega)]
  generalize hm : 1 + r = m
  have hm5 : 1 ≤ m ∧ m ≤ 5 := by omega
  obtain ⟨x, hx⟩ : ∃ x : Sty, style_Of.f m = some x := of_some m
  obtain ⟨ho, _, _⟩ := of_two m hx
  obtain ⟨k109, ko0, ko9, o0, o1, c0, c1⟩ := sty_notes hm5 hx
  obtain ⟨_, _, hoc⟩ := sty_ok hx
  have hst := is_style hm5 hx
  rw [ho, bs_, bs_]
  have z1 : (strOfNums [x.open_]).size = 1 := son_size _
  have z2 : (strOfNums [x.close_]).size = 1 := son_size _
  have z3 : ((⟨#[109]⟩ : ByteArray) ++ strOfNums [x.open_]).size = 2 := by rw [ByteArray.size_append, z1]; rfl
  have z4 : (((⟨#[109]⟩ : ByteArray) ++ strOfNums [x.open_]) ++ s).size = 2 + s.size := by rw [ByteArray.size_append, z3]
  have hT := notes_text x s ⟨o0, o1⟩ ⟨c0, c1⟩
  have z5' : ((((⟨#[109]⟩ : ByteArray) ++ strOfNums [x.open_]) ++ s) ++ strOfNums [x.close_]).size = s.size + 3 := by rw [ByteArray.size_append, z4, z2]; omega
  refine (if_pos (show 1 + (strOfNums [x.open_]).size ≤ 9223372036854775807 by omega)).trans ?_
  refine (if_pos (show ((⟨#[109]⟩ : ByteArray) ++ strOfNums [x.open_]).size + s.size ≤ 9223372036854775807 by rw [z3]; omega)).trans ?_
  refine (bs_ _ _).trans ?_
  refine (if_pos (show (((⟨#[109]⟩ : ByteArray) ++ strOfNums [x.open_]) ++ s).size + (strOfNums [x.close_]).size ≤ 9223372036854775807 by rw [z4, z2]; omega)).trans ?_
  generalize hU : (((⟨#[109]⟩ : ByteArray) ++ strOfNums [x.open_]) ++ s) ++ strOfNums [x.close_] = U at hT z5'
  have hLex : lex_Lex.f m ((((⟨#[109]⟩ : ByteArray) ++ strOfNums [x.open_]) ++ s) ++ strOfNums [x.close_]) = some (lexP x U) := by rw [hU]; exact lex_f m U (by omega) hx
  refine (congrArg (fun o => Option.bind o _) hLex).trans ?_
  rw [bs_, plain_ref m s (by omega) hx 4000 (by omega), bs_]
  have hbl := bytesOf_length s
  by_cases hz : x.open_ = 0
  · obtain ⟨e1, e2⟩ := notes_zero k109 (ko0 hz) (bytesOf s ++ [x.close_])
    rw [← hT] at e1 e2
    rw [lexP_bad hst (by omega) (by rw [e2]; omega), e2]
    have hz' : (x.2.2.2.2.1 != 0) = false := bne_eq_false_iff_eq.2 hz
    rw [hz', Bool.and_false]
    simp [show x.2.2.2.2.1 = 0 from hz]
  · have hz' : (x.2.2.2.2.1 != 0) = true := bne_iff_ne.2 hz
    rw [hz', Bool.and_true]
    show (if (bytesOf s).all (okb x.open_ x.close_) = true then _ else _) = _
    rcases notes_nine k109 (ko9 hz) (hoc hz) (bytesOf s) with ⟨a1, a2, a3⟩ | ⟨a1, a2⟩
    · rw [← hT] at a2 a3
      rw [a1, lexP_ok hst (by omega) (by rw [a3, hbl, z5']), a2]
      simp [rd_T31, son_bytesOf]
    · rw [a1]
      have hnz : ¬ x.2.2.2.2.1 = 0 := hz
      rcases a2 with a2 | ⟨T, l, a2, a3⟩
      · rw [← hT] at a2
        rw [lexP_bad hst (by omega) (by rw [a2]; omega)]
        simp [hnz]
      · rw [← hT] at a2
        by_cases he : endOf x (bytesOf U) < U.size
        · rw [lexP_bad hst (by omega) he]
          simp [hnz]
        · have hle := endOf_le x (bytesOf U)
          rw [bytesOf_length] at hle
          rw [lexP_ok hst (by omega) (by omega), a2]
          have hne : ¬ ((strOfNums T).toList = s.toList) := by
            intro e
            have e2 := congrArg List.length e
            rw [Go.ByteArray.toList_eq, Go.ByteArray.toList_eq, data_length, data_length, son_size] at e2
            omega
          simp [hnz, rd_T31, hne]
          omega
end Go.Proofs.YtimkhjbnkcgekaaDoor.Pure
