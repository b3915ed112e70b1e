/- The tokens of a text: how they stand one behind the other; texts put together; texts that were joined again. Plain. -/
import Derived.Test.YtimkhjbnkcgekaaDoorLx3
namespace Go.Proofs.YtimkhjbnkcgekaaDoor.Lx
open Go Go.RowKit Go.Proofs.YtimkhjbnkcgekaaDoor.PC Go.Proofs.YtimkhjbnkcgekaaDoor.V3 Go.Proofs.YtimkhjbnkcgekaaDoorW.PrintWords Go.Proofs.YtimkhjbnkcgekaaDoorW.PrintLast
set_option linter.unusedVariables false
theorem kind_nonneg (x : Sty) (c : Int) : 0 ≤ kindP x c := by
  unfold kindP
  repeat' split
  all_goals decide
/-- Tokens stand one behind the other from a place on; p: the kind ahead of them. -/
def Chain : Nat → Option Int → List S31 → Prop
  | _, _, [] => True
  | a, p, t :: l => t.f1 = (a : Int) ∧ 0 < sizeT t ∧ (t.f0 ≠ 2 → t.f3 = 0) ∧ (∀ k, p = some k → t.f0 = k → ¬ t.f0 ≤ 2) ∧ Chain (a + sizeT t) (some t.f0) l
theorem chain_toks {x : Sty} : ∀ (d a : Nat) (p : Option Int) (B : List Int), (∀ k c, p = some k → k = 1 ∨ k = 2 → B.head? = some c → kindP x c ≠ k) → Chain a p (toks x d a B).1 := by
  intro d
  induction d with
  | zero => intro a p B h; trivial
  | succ d ih =>
    intro a p B h
    cases hn : nextL x B with
    | none => rw [toks_none hn]; trivial
    | some t =>
      obtain ⟨h1, h2⟩ := next_pos hn
      rw [toks_some hn]
      have hsz := size_mk hn a
      cases B with
      | nil => simp [nextL] at hn
      | cons b r =>
        obtain ⟨n1, n2, n3, n4, _⟩ := next_says hn
        refine ⟨rfl, by rw [hsz]; exact h1, fun h' => n4 h', ?_, ?_⟩
        · intro k hp he hle
          have hk0 := kind_nonneg x b
          change t.k = k at he
          change t.k ≤ 2 at hle
          have : k = 1 ∨ k = 2 := by omega
          exact h k b hp this rfl (by rw [← n1, he])
        · rw [hsz]
          refine ih (a + t.n) (some t.k) ((b :: r).drop t.n) (fun k c hp hk hc => ?_)
          obtain rfl : t.k = k := Option.some.inj hp
          exact next_max hn hk c hc
theorem chain_all (x : Sty) (B : List Int) : Chain 0 none (all x B) := chain_toks _ _ _ _ (fun k c h => by cases h)
/-- A text whose tokens reach its end, and another one behind it that makes the last token no longer. -/
theorem toks_app {x : Sty} {R : List Int} (hR : ∀ c, R.head? = some c → kindP x c ≠ 1 ∧ kindP x c ≠ 2) : ∀ (d a : Nat) (B : List Int), B.length ≤ d → (toks x d a B).2 = a + B.length → ∀ d', B.length + R.length ≤ d' →
    (toks x d' a (B ++ R)).1 = (toks x d a B).1 ++ (toks x R.length (a + B.length) R).1 ∧ (toks x d' a (B ++ R)).2 = (toks x R.length (a + B.length) R).2 := by
  intro d
  induction d with
  | zero =>
    intro a B hd he d' hd'
    obtain rfl : B = [] := List.eq_nil_of_length_eq_zero (by omega)
    rw [toks_fuel d' R.length a ([] ++ R) (by simpa using hd') (by simp)]
    exact ⟨rfl, rfl⟩
  | succ d ih =>
    intro a B hd he d' hd'
    cases hn : nextL x B with
    | none =>
      rw [toks_none hn] at he ⊢
      obtain rfl : B = [] := List.eq_nil_of_length_eq_zero (by simp only at he; omega)
      rw [toks_fuel d' R.length a ([] ++ R) (by simpa using hd') (by simp)]
      exact ⟨rfl, rfl⟩
    | some t =>
      obtain ⟨h1, h2⟩ := next_pos hn
      rw [toks_some hn] at he ⊢
      have hx : nextL x (B ++ R) = some t := by
        have hs : B ++ R = B.take t.n ++ (B.drop t.n ++ R) := by rw [← List.append_assoc, List.take_append_drop]
        rw [hs]
        refine next_app hn (fun hk c hc => ?_)
        cases hdr : B.drop t.n with
        | nil =>
          rw [hdr] at hc
          have := hR c hc
          rcases hk with hk | hk <;> rw [hk]
          · exact this.1
          · exact this.2
        | cons e r =>
          rw [hdr] at hc
          exact next_max hn hk c (by rw [hdr]; exact hc)
      obtain ⟨d', rfl⟩ : ∃ e, d' = e + 1 := ⟨d' - 1, by omega⟩
      rw [toks_some hx, List.drop_append_of_le_length h2]
      have hdl : (B.drop t.n).length = B.length - t.n := List.length_drop ..
      have := ih (a + t.n) (B.drop t.n) (by omega) (by rw [hdl]; simp only at he; omega) d' (by omega)
      rw [hdl, show a + t.n + (B.length - t.n) = a + B.length by omega] at this
      exact ⟨by rw [this.1]; rfl, this.2⟩
def shiftT (c : Nat) (t : S31) : S31 := ⟨t.f0, t.f1 + (c : Int), t.f2, t.f3⟩
theorem toks_shift {x : Sty} (c : Nat) : ∀ (d a : Nat) (B : List Int), (toks x d (a + c) B).1 = (toks x d a B).1.map (shiftT c) := by
  intro d
  induction d with
  | zero => intro a B; rfl
  | succ d ih =>
    intro a B
    cases hn : nextL x B with
    | none => rw [toks_none hn, toks_none hn]; rfl
    | some t =>
      rw [toks_some hn, toks_some hn]
      simp only [List.map_cons]
      rw [show a + c + t.n = a + t.n + c by omega, ih]
      congr 1
/-! ### What was joined again -/
def pieceT (x : Sty) (t : S31) : List Int := if t.f0 = 9 then x.open_ :: bytesOf t.f2 ++ [x.close_] else bytesOf t.f2
def joinL (x : Sty) (l : List S31) : List Int := l.flatMap (pieceT x)
/-- d stands where c stood: it is it, or its capital. -/
def Rel (x : Sty) (c d : Int) : Prop := d = c ∨ d = up x.1 c
theorem text_bytes {x : Sty} {B : List Int} {t : Tk} (h : nextL x B = some t) (hB : ∀ c ∈ B, 0 ≤ c ∧ c ≤ 255) : bytesOf (strOfNums t.t) = t.t := by
  cases B with
  | nil => simp [nextL] at h
  | cons b r =>
    obtain ⟨_, _, _, _, h9, _, h1, h2⟩ := next_says h
    refine bytes_of_nums _ ?_
    by_cases e1 : t.k = 1
    · rw [h1 e1]
      intro c hc
      obtain ⟨e, he, rfl⟩ := List.mem_map.1 hc
      have := hB e (List.mem_of_mem_take he)
      exact up_bounds _ _ this.1 this.2
    · by_cases e9 : t.k = 9
      · intro c hc
        have : c ∈ (b :: r).take t.n := by rw [(h9 e9).2]; simp [hc]
        exact hB c (List.mem_of_mem_take this)
      · rw [h2 e1 e9]
        exact fun c hc => hB c (List.mem_of_mem_take hc)
theorem up_map (x : Sty) (l : List Int) : (l.map (up x.1)).map (up x.1) = l.map (up x.1) := by
  rw [List.map_map]
  exact List.map_congr_left (fun c _ => up_up x.1 c)
theorem takeWhile_map (x : Sty) (k : Int) : ∀ l : List Int, (∀ c ∈ l, 0 ≤ c ∧ c ≤ 255) → (l.map (up x.1)).takeWhile (kp_ x k) = (l.takeWhile (kp_ x k)).map (up x.1)
  | [], _ => rfl
  | c :: l, h => by
    have hc := h c (List.mem_cons_self ..)
    have e : kp_ x k (up x.1 c) = kp_ x k c := by unfold kp_; rw [kind_up _ _ _ hc.1 hc.2]
    rw [List.map_cons, List.takeWhile_cons, List.takeWhile_cons, e]
    split
    · rw [List.map_cons, takeWhile_map x k l (fun c hc => h c (List.mem_cons_of_mem _ hc))]
    · rfl
/-- The token that stands at a beginning stands there again when it is written anew. -/
theorem next_piece {x : Sty} {B R : List Int} {t : Tk} (h : nextL x B = some t) (hB : ∀ c ∈ B, 0 ≤ c ∧ c ≤ 255) (a : Nat) (hR : t.k = 1 ∨ t.k = 2 → ∀ c, R.head? = some c → kindP x c ≠ t.k) :
    (pieceT x (mkT a t)).length = t.n ∧ nextL x (pieceT x (mkT a t) ++ R) = some t ∧ (pieceT x (mkT a t) = B.take t.n ∨ pieceT x (mkT a t) = (B.take t.n).map (up x.1)) := by
  have ht := text_bytes h hB
  have hn := next_pos h
  have hl : (B.take t.n).length = t.n := by rw [List.length_take]; omega
  cases B with
  | nil => simp [nextL] at h
  | cons b r =>
    obtain ⟨s1, _, _, _, h9, _, h1, h2⟩ := next_says h
    unfold pieceT mkT
    simp only [ht]
    by_cases e9 : t.k = 9
    · rw [if_pos e9, ← (h9 e9).2]
      exact ⟨hl, next_app h (fun hk => by omega), .inl rfl⟩
    · rw [if_neg e9]
      by_cases e1 : t.k = 1
      · have hh := h
        rw [nextL_cons] at hh
        rw [s1] at e1
        rw [if_neg (by omega), if_pos e1] at hh
        have ht1 := congrArg Tk.t (Option.some.inj hh)
        have hv1 := congrArg Tk.v (Option.some.inj hh)
        have hn1 := congrArg Tk.n (Option.some.inj hh)
        have hk1 := congrArg Tk.k (Option.some.inj hh)
        simp only at ht1 hv1 hn1 hk1
        have hw : (b :: r).takeWhile (kp_ x 1) = (b :: r).take t.n := by rw [← hn1, takeWhile_take]
        have htt : t.t = ((b :: r).take t.n).map (up x.1) := by rw [← hw, ht1]
        refine ⟨by rw [htt, List.length_map, hl], ?_, .inr htt⟩
        have hall : ∀ c ∈ t.t, kp_ x 1 c = true := by
          intro c hc
          rw [← ht1] at hc
          obtain ⟨e, he, rfl⟩ := List.mem_map.1 hc
          have hb := hB e ((List.takeWhile_sublist _).subset he)
          unfold kp_
          rw [kind_up _ _ _ hb.1 hb.2]
          exact takeWhile_all _ _ e he
        have htw : (t.t ++ R).takeWhile (kp_ x 1) = t.t := takeWhile_app _ R (fun c hc => by
          have := hR (.inl hk1.symm) c hc
          rw [← hk1] at this
          simpa [kp_] using this) _ hall
        obtain ⟨e, w, hew⟩ : ∃ e w, t.t = e :: w := List.exists_cons_of_ne_nil (fun e => by
          have := congrArg List.length htt
          rw [e, List.length_map, hl] at this
          simp at this
          omega)
        have he1 : kindP x e = 1 := by have := hall e (by rw [hew]; exact List.mem_cons_self ..); simpa [kp_] using this
        rw [hew] at htw ⊢
        rw [List.cons_append] at htw ⊢
        rw [nextL_cons, he1, if_neg (by decide), if_pos rfl, htw, ← hew, htt, up_map, List.length_map, hl, ← htt]
        obtain ⟨k0, t0, v0, n0⟩ := t
        simp only at hk1 hv1
        subst hk1 hv1
        rfl
      · rw [h2 e1 e9]
        exact ⟨hl, next_app h hR, .inl rfl⟩
/-- The text of tokens has the same tokens; byte by byte it is what was there, or its capital. -/
theorem join_toks {x : Sty} : ∀ (d a : Nat) (B : List Int), B.length ≤ d → (∀ c ∈ B, 0 ≤ c ∧ c ≤ 255) →
    a + (joinL x (toks x d a B).1).length = (toks x d a B).2 ∧ toks x d a (joinL x (toks x d a B).1) = toks x d a B ∧ (∀ i, i < (joinL x (toks x d a B).1).length → Rel x (B.getD i 0) ((joinL x (toks x d a B).1).getD i 0)) ∧ (∀ c, (joinL x (toks x d a B).1).head? = some c → ∃ e, B.head? = some e ∧ kindP x c = kindP x e) := by
  intro d
  induction d with
  | zero =>
    intro a B hd hB
    refine ⟨rfl, rfl, fun i hi => by simp [toks, joinL] at hi, fun c hc => by simp [toks, joinL] at hc⟩
  | succ d ih =>
    intro a B hd hB
    cases hn : nextL x B with
    | none =>
      rw [toks_none hn]
      refine ⟨rfl, toks_none rfl _ _, fun i hi => by simp [joinL] at hi, fun c hc => by simp [joinL] at hc⟩
    | some t =>
      obtain ⟨h1, h2⟩ := next_pos hn
      obtain ⟨i1, i2, i3, i4⟩ := ih (a + t.n) (B.drop t.n) (by rw [List.length_drop]; omega) (fun c hc => hB c (List.mem_of_mem_drop hc))
      rw [toks_some hn]
      simp only
      have hj : joinL x (mkT a t :: (toks x d (a + t.n) (B.drop t.n)).1) = pieceT x (mkT a t) ++ joinL x (toks x d (a + t.n) (B.drop t.n)).1 := rfl
      rw [hj]
      obtain ⟨p1, p2, p3⟩ := next_piece (R := joinL x (toks x d (a + t.n) (B.drop t.n)).1) hn hB a (fun hk c hc => by
        obtain ⟨e, he, hke⟩ := i4 c hc
        rw [hke]
        exact next_max hn hk e he)
      generalize joinL x (toks x d (a + t.n) (B.drop t.n)).1 = J at i1 i2 i3 i4 p2 ⊢
      generalize hP : pieceT x (mkT a t) = P at p1 p2 p3 ⊢
      have hdrop : (P ++ J).drop t.n = J := by rw [← p1, List.drop_left]
      have hrel : ∀ i, i < P.length → Rel x (B.getD i 0) (P.getD i 0) := by
        intro i hi
        have hti : (B.take t.n)[i]? = B[i]? := List.getElem?_take_of_lt (by omega)
        have hbi : i < B.length := by omega
        rcases p3 with p3 | p3
        · left; rw [p3, List.getD_eq_getElem?_getD, List.getD_eq_getElem?_getD, hti]
        · right
          rw [p3, List.getD_eq_getElem?_getD, List.getD_eq_getElem?_getD, List.getElem?_map, hti, List.getElem?_eq_getElem hbi]
          rfl
      refine ⟨by rw [List.length_append, p1]; omega, by rw [toks_some p2, hdrop, i2], ?_, ?_⟩
      · intro i hi
        by_cases hlt : i < P.length
        · rw [List.getD_eq_getElem?_getD (l := P ++ J), List.getElem?_append_left hlt, ← List.getD_eq_getElem?_getD]
          exact hrel i hlt
        · rw [List.getD_eq_getElem?_getD (l := P ++ J), List.getElem?_append_right (by omega), ← List.getD_eq_getElem?_getD]
          have := i3 (i - P.length) (by rw [List.length_append] at hi; omega)
          rw [List.getD_eq_getElem?_getD (l := B.drop t.n), List.getElem?_drop, show t.n + (i - P.length) = i by omega, ← List.getD_eq_getElem?_getD] at this
          exact this
      · intro c hc
        cases B with
        | nil => simp [nextL] at hn
        | cons b r =>
          refine ⟨b, rfl, ?_⟩
          have h0 := hrel 0 (by omega)
          have hP0 : P.getD 0 0 = c := by
            cases P with
            | nil => simp at p1; omega
            | cons e w => simpa using hc
          have hbb := hB b (List.mem_cons_self ..)
          rw [hP0] at h0
          rcases h0 with h0 | h0
          · rw [h0]; rfl
          · rw [h0]; exact kind_up _ _ _ hbb.1 hbb.2
end Go.Proofs.YtimkhjbnkcgekaaDoor.Lx
