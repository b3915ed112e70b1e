/- A frac is read of its own text alone, by both. Conditions: a text of at most 1000 bytes. -/
import Derived.Test.YtnndaackjgnhhaaDoorTx3
import Derived.Test.YtnndaackjgnhhaaDoorH5
import Derived.Lib.ParseIntBTie
namespace Go.Proofs.YtnndaackjgnhhaaDoor.Tx
open Go.RowKit Go.Lib Go.Proofs.YtnndaackjgnhhaaDoor.Fr Go.Proofs.YtnndaackjgnhhaaDoor.Wh Go.Proofs.YtnndaackjgnhhaaDoor.PB Go.Proofs.YtnndaackjgnhhaaDoor.PC Go.Proofs.YtnndaackjgnhhaaDoor.PE Go.Proofs.YtnndaackjgnhhaaDoor.PT Go.Proofs.YtnndaackjgnhhaaDoorW.PrintWords Go.Proofs.YtnndaackjgnhhaaDoorW.PrintLast Go.Proofs.YtnndaackjgnhhaaDoorW.PrintMore
set_option linter.unusedVariables false
abbrev Q4 := Int × Int × Int × Int
theorem Fit_i64 {x : Int} (h : Fit x) : I64 x := by unfold Fit at h; unfold I64; omega
/-- What a reading of l may tell. -/
def Good (l : List UInt8) (r : Q4) : Prop := r = (0, 0, 0, 20) ∨ (r.2.2.2 = 0 ∧ I64 r.1 ∧ I64 r.2.1 ∧ RD r.1 r.2.1 r.2.2.1 = true ∧ txt r.1 r.2.1 r.2.2.1 = l)
theorem txt_ne (n d t : Int) : txt n d t ≠ [] := by
  unfold txt
  intro h
  exact itoa_ne n (List.append_eq_nil_iff.1 h).1
/-- The end of the document's reading. -/
def tailF (k : Nat) (s : ByteArray) (n d t e : Int) : Option Q4 := if e = (s.size : Int) then (if (s.size : Int) = 0 then (some (0, 0, 0, 20)) else ((drachmref02_Text.f k n d t).bind fun t125 => (if t125.toList = s.toList then (some (n, d, t, 0)) else (some (0, 0, 0, 20))))) else (some (0, 0, 0, 20))
def tailP (l : List UInt8) (n d t e : Int) : Q4 := if e = (l.length : Int) ∧ l ≠ [] ∧ text n d t = l then (n, d, t, 0) else (0, 0, 0, 20)
theorem tail_ev (l : List UInt8) {n d : Int} (t e : Int) (i : I64 n) (id : I64 d) : Ev (fun k => tailF k (B l) n d t e) (tailP l n d t e) := by
  obtain ⟨K, hK⟩ := RText_ev (t := t) i id
  refine ⟨K, fun k hk => ?_⟩
  show tailF k (B l) n d t e = _
  simp only at hK
  unfold tailF tailP
  rw [B_size]
  by_cases he : e = (l.length : Int)
  · rw [if_pos he]
    by_cases hl : l = []
    · subst hl
      rw [if_pos (by simp), if_neg (by simp)]
    · have := List.length_pos_iff.2 hl
      rw [if_neg (by omega), hK k hk, bs_, B_list, B_list]
      by_cases ht : text n d t = l
      · rw [if_pos ht, if_pos ⟨he, hl, ht⟩]
      · rw [if_neg ht, if_neg (fun h => ht h.2.2)]
  · rw [if_neg he, if_neg (fun h => he h.1)]
theorem tail_good {l : List UInt8} {n d t e : Int} (i : I64 n) (id : I64 d) : Good l (tailP l n d t e) := by
  unfold tailP
  split
  · rename_i h
    obtain ⟨_, h1, h2⟩ := h
    right
    unfold text at h2
    split at h2
    · exact ⟨rfl, i, id, by assumption, h2⟩
    · exact absurd h2.symm h1
  · exact Or.inl rfl
def j2P (l : List UInt8) (b : Bool) (n d t : Int) (e : Nat) : Q4 := if b = true then tailP l n d (rdF l (e + 1)).1 (rdF l (e + 1)).2 else tailP l n d t e
theorem j2_ev (l : List UInt8) (hl : l.length ≤ 1000) (b : Bool) {n d : Int} (t y : Int) (e : Nat) (i : I64 n) (id : I64 d) (he : b = true → e < l.length) : Ev (fun k => drachmref02_Read.j2 k (B l) b n d t y (e : Int)) (j2P l b n d t e) := by
  unfold j2P
  cases b with
  | true =>
    have he := he rfl
    rw [if_pos rfl]
    refine Ev.step (f := fun k => (drachmref02_read.f k (B l) ((e + 1 : Nat) : Int)).bind fun bt123 => tailF k (B l) n d bt123.1 bt123.2) (fun k => ?_) ((read_ev l hl (e + 1) (by omega)).bind (tail_ev l _ _ i id))
    simp only [drachmref02_Read.j2]
    rw [if_pos trivial, w64 (by omega) (by omega)]
    rfl
  | false =>
    rw [if_neg (by simp)]
    refine Ev.step (f := fun k => tailF k (B l) n d t (e : Int)) (fun k => ?_) (tail_ev l _ _ i id)
    simp only [drachmref02_Read.j2]
    rw [if_neg (by simp)]
    rfl
def j1P (l : List UInt8) (n d t : Int) (e : Int) : Q4 := if 0 ≤ e then j2P l (l[e.toNat]? == some 101) n d t e.toNat else (0, 0, 0, 20)
theorem j1_ev (l : List UInt8) (hl : l.length ≤ 1000) {n d : Int} (t y e : Int) (i : I64 n) (id : I64 d) (he : e = -1 ∨ ∃ q : Nat, e = (q : Int) ∧ q ≤ l.length) : Ev (fun k => drachmref02_Read.j1 k (B l) n d t y e) (j1P l n d t e) := by
  unfold j1P
  rcases he with rfl | ⟨q, rfl, hq⟩
  · rw [if_neg (by omega)]
    refine Ev.step (f := fun k => drachmref02_Read.j2 k (B l) false n d t y (-1)) (fun k => ?_) (Ev.step (f := fun k => tailF k (B l) n d t (-1)) (fun k => ?_) ?_)
    · simp only [drachmref02_Read.j1]
      rw [if_neg (by omega)]
    · simp only [drachmref02_Read.j2]
      rw [if_neg (by simp)]
      rfl
    · refine Ev.congr (f := fun _ => some (0, 0, 0, 20)) (fun k => ?_) (Ev.now _)
      unfold tailF
      rw [if_neg (by omega)]
  · rw [if_pos (by omega)]
    simp only [Int.toNat_natCast]
    by_cases hlt : q < l.length
    · have hb : (bt (B l) (q : Int) == 101) = (l[q]? == some 101) := by
        rw [bt_B l q hlt, List.getElem?_eq_getElem hlt]
        have hc := l[q].toNat_lt
        rw [Bool.eq_iff_iff]
        simp only [beq_iff_eq, Option.some.injEq]
        constructor
        · intro h; exact UInt8.toNat_inj.1 (by rw [show (101 : UInt8).toNat = 101 from rfl]; omega)
        · intro h; rw [h]; rfl
      refine Ev.step (f := fun k => drachmref02_Read.j2 k (B l) (l[q]? == some 101) n d t y (q : Int)) (fun k => ?_) (j2_ev l hl _ t y q i id (fun _ => hlt))
      simp only [drachmref02_Read.j1]
      rw [if_pos (by omega), B_size, if_pos (by omega), if_pos (by omega), hb]
    · rw [List.getElem?_eq_none (by omega)]
      refine Ev.step (f := fun k => drachmref02_Read.j2 k (B l) false n d t y (q : Int)) (fun k => ?_) (j2_ev l hl false t y q i id (fun h => by cases h))
      simp only [drachmref02_Read.j1]
      rw [if_pos (by omega), B_size, if_neg (by omega)]
theorem j2_good (l : List UInt8) (hl : l.length ≤ 1000) (b : Bool) {n d : Int} (t : Int) (e : Nat) (i : I64 n) (id : I64 d) : Good l (j2P l b n d t e) := by
  unfold j2P
  split <;> exact tail_good i id
theorem j1_good (l : List UInt8) (hl : l.length ≤ 1000) {n d : Int} (t e : Int) (i : I64 n) (id : I64 d) : Good l (j1P l n d t e) := by
  unfold j1P
  split
  · exact j2_good l hl _ t _ i id
  · exact Or.inl rfl
def readP (l : List UInt8) : Q4 :=
  let x := rdF l 0
  if 0 ≤ x.2 ∧ l[x.2.toNat]? = some 47 then j1P l x.1 (rdF l (x.2.toNat + 1)).1 0 (rdF l (x.2.toNat + 1)).2 else j1P l x.1 1 0 x.2
theorem RRead_ev (l : List UInt8) (hl : l.length ≤ 1000) : Ev (fun k => drachmref02_Read.f k (B l)) (readP l) := by
  have h0 := read_ev l hl 0 (by omega)
  obtain ⟨f1, b1⟩ := rdF_bounds l 0 (by omega)
  unfold readP
  obtain ⟨⟨n, e⟩, hx⟩ : ∃ p, rdF l 0 = p := ⟨_, rfl⟩
  rw [hx] at h0 f1 b1 ⊢
  simp only at f1 b1 ⊢
  have i1 : I64 1 := by unfold I64; omega
  unfold drachmref02_Read.f
  refine Ev.bind h0 ?_
  simp only
  rcases b1 with rfl | ⟨q, rfl, hq, hql⟩
  · rw [if_neg (by omega)]
    refine Ev.congr (f := fun k => drachmref02_Read.j0 k (B l) false n 1 0 n (-1)) (fun k => ?_) (Ev.step (f := fun k => drachmref02_Read.j1 k (B l) n 1 0 n (-1)) (fun k => ?_) (j1_ev l hl 0 n (-1) (Fit_i64 f1) i1 (Or.inl rfl)))
    · rw [if_neg (by omega)]
    · simp only [drachmref02_Read.j0]
      rw [if_neg (by simp)]
  · simp only [Int.toNat_natCast]
    by_cases hlt : q < l.length
    · have hb : (bt (B l) (q : Int) == 47) = decide (l[q]? = some 47) := by
        rw [bt_B l q hlt, List.getElem?_eq_getElem hlt]
        have hc := l[q].toNat_lt
        rw [Bool.eq_iff_iff]
        simp only [beq_iff_eq, decide_eq_true_eq, Option.some.injEq]
        constructor
        · intro h; exact UInt8.toNat_inj.1 (by rw [show (47 : UInt8).toNat = 47 from rfl]; omega)
        · intro h; rw [h]; rfl
      refine Ev.congr (f := fun k => drachmref02_Read.j0 k (B l) (decide (l[q]? = some 47)) n 1 0 n (q : Int)) (fun k => ?_) ?_
      · rw [if_pos (by omega), B_size, if_pos (by omega), if_pos (by omega), hb]
      · by_cases h47 : l[q]? = some 47
        · rw [if_pos ⟨by omega, h47⟩, decide_eq_true h47]
          have b2 := rdF_bounds l (q + 1) (by omega)
          refine Ev.step (f := fun k => (drachmref02_read.f k (B l) ((q + 1 : Nat) : Int)).bind fun bt121 => drachmref02_Read.j1 k (B l) n bt121.1 0 bt121.1 bt121.2) (fun k => ?_) ((read_ev l hl (q + 1) (by omega)).bind (j1_ev l hl 0 _ _ (Fit_i64 f1) (Fit_i64 b2.1) ?_))
          · simp only [drachmref02_Read.j0]
            rw [if_pos trivial, w64 (by omega) (by omega)]
            rfl
          · rcases b2.2 with h | ⟨q', h, _, h2⟩
            · exact Or.inl h
            · exact Or.inr ⟨q', h, h2⟩
        · rw [if_neg (fun h => h47 h.2), decide_eq_false h47]
          refine Ev.step (f := fun k => drachmref02_Read.j1 k (B l) n 1 0 n (q : Int)) (fun k => ?_) (j1_ev l hl 0 n _ (Fit_i64 f1) i1 (Or.inr ⟨q, rfl, hql⟩))
          simp only [drachmref02_Read.j0]
          rw [if_neg (by simp)]
    · have h47 : ¬ l[q]? = some 47 := by rw [List.getElem?_eq_none (by omega)]; simp
      rw [if_neg (fun h => h47 h.2)]
      refine Ev.congr (f := fun k => drachmref02_Read.j0 k (B l) false n 1 0 n (q : Int)) (fun k => ?_) (Ev.step (f := fun k => drachmref02_Read.j1 k (B l) n 1 0 n (q : Int)) (fun k => ?_) (j1_ev l hl 0 n _ (Fit_i64 f1) i1 (Or.inr ⟨q, rfl, hql⟩)))
      · rw [if_pos (by omega), B_size, if_neg (by omega)]
      · simp only [drachmref02_Read.j0]
        rw [if_neg (by simp)]
theorem readP_good (l : List UInt8) (hl : l.length ≤ 1000) : Good l (readP l) := by
  obtain ⟨f1, b1⟩ := rdF_bounds l 0 (by omega)
  have i1 : I64 1 := by unfold I64; omega
  unfold readP
  simp only
  split
  · rename_i h
    have : (rdF l 0).2.toNat + 1 ≤ l.length := by
      rcases Nat.lt_or_ge (rdF l 0).2.toNat l.length with h' | h'
      · omega
      · rw [List.getElem?_eq_none h'] at h; cases h.2
    exact j1_good l hl 0 _ (Fit_i64 f1) (Fit_i64 (rdF_bounds l _ this).1)
  · exact j1_good l hl 0 _ (Fit_i64 f1) i1
theorem readP_txt {n d t : Int} (hr : RD n d t = true) (id : I64 d) : readP (txt n d t) = (n, d, t, 0) := by
  obtain ⟨fn, fd, ft, hd⟩ := RD_fit hr id
  have tx : text n d t = txt n d t := by unfold text; rw [if_pos hr]
  have tl : ∀ e : Int, e = ((txt n d t).length : Int) → tailP (txt n d t) n d t e = (n, d, t, 0) := by
    intro e he
    unfold tailP
    rw [if_pos ⟨he, txt_ne n d t, tx⟩]
  -- the first number
  have hlen : ∀ x : Int, ((itoa x).length : Int) ≥ 0 := fun x => by omega
  have r1 : rdF (txt n d t) 0 = (n, ((itoa n).length : Int)) := by
    have := rdF_itoa (p := []) (r := (if d = 1 then [] else 47 :: itoa d) ++ (if t = 0 then [] else 101 :: itoa t)) fn (by
      intro c hc
      by_cases h1 : d = 1
      · by_cases h2 : t = 0
        · simp [h1, h2] at hc
        · simp [h1, h2] at hc; subst hc; decide
      · simp [h1] at hc; subst hc; decide)
    simpa [txt] using this
  unfold readP
  simp only [r1]
  simp only [Int.toNat_natCast]
  by_cases h1 : d = 1
  · subst h1
    have e0 : txt n 1 t = itoa n ++ (if t = 0 then [] else 101 :: itoa t) := by simp [txt]
    rw [if_neg (by
      rw [e0]
      rintro ⟨_, h⟩
      by_cases h2 : t = 0
      · simp [h2] at h
      · simp [h2] at h)]
    unfold j1P
    rw [if_pos (by omega)]
    simp only [Int.toNat_natCast]
    by_cases h2 : t = 0
    · subst h2
      unfold j2P
      rw [if_neg (by rw [e0]; simp)]
      exact tl _ (by rw [e0]; simp)
    · unfold j2P
      rw [if_pos (by rw [e0]; simp [h2])]
      have r3 : rdF (txt n 1 t) ((itoa n).length + 1) = (t, (((itoa n).length + 1 + (itoa t).length : Nat) : Int)) := by
        have := rdF_itoa (p := itoa n ++ [101]) (r := []) ft (by intro c hc; cases hc)
        rw [e0, if_neg h2]
        simpa using this
      rw [r3]
      exact tl _ (by rw [e0, if_neg h2]; simp; omega)
  · have e0 : txt n d t = itoa n ++ (47 :: itoa d ++ (if t = 0 then [] else 101 :: itoa t)) := by simp [txt, h1]
    rw [if_pos ⟨by omega, by rw [e0]; simp⟩]
    have r2 : rdF (txt n d t) ((itoa n).length + 1) = (d, (((itoa n).length + 1 + (itoa d).length : Nat) : Int)) := by
      have := rdF_itoa (p := itoa n ++ [47]) (r := if t = 0 then [] else 101 :: itoa t) fd (by
        intro c hc
        by_cases h2 : t = 0
        · simp [h2] at hc
        · simp [h2] at hc; subst hc; decide)
      rw [e0]
      simpa using this
    rw [r2]
    unfold j1P
    rw [if_pos (by simp only; omega)]
    simp only [Int.toNat_natCast]
    have at2 : (txt n d t)[(itoa n).length + 1 + (itoa d).length]? = (if t = 0 then [] else 101 :: itoa t)[0]? := by
      rw [e0, List.getElem?_append_right (by omega), show (itoa n).length + 1 + (itoa d).length - (itoa n).length = (itoa d).length + 1 from by omega, List.cons_append, List.getElem?_cons_succ, List.getElem?_append_right (Nat.le_refl _), Nat.sub_self]
    rw [at2]
    by_cases h2 : t = 0
    · subst h2
      unfold j2P
      rw [if_neg (by simp)]
      exact tl _ (by rw [e0]; simp; omega)
    · unfold j2P
      rw [if_pos (by simp [h2])]
      have r3 : rdF (txt n d t) ((itoa n).length + 1 + (itoa d).length + 1) = (t, (((itoa n).length + 1 + (itoa d).length + 1 + (itoa t).length : Nat) : Int)) := by
        have := rdF_itoa (p := itoa n ++ (47 :: itoa d) ++ [101]) (r := []) ft (by intro c hc; cases hc)
        rw [e0, if_neg h2]
        have e5 : (itoa n ++ (47 :: itoa d) ++ [101]).length = (itoa n).length + 1 + (itoa d).length + 1 := by simp; omega
        rw [e5] at this
        simpa using this
      rw [r3]
      exact tl _ (by rw [e0, if_neg h2]; simp; omega)
end Go.Proofs.YtnndaackjgnhhaaDoor.Tx
