/- A worth's text tells all of it. No conditions beyond those in each theorem. -/
import Derived.Test.YthfibffgmoblaaaDoorWo2
import Derived.Test.YthfibffgmoblaaaDoorTy2
namespace Go.Proofs.YthfibffgmoblaaaDoor.Wo
open Go.RowKit Go.Lib Go.Proofs.YthfibffgmoblaaaDoor Go.Proofs.YthfibffgmoblaaaDoor.Fr Go.Proofs.YthfibffgmoblaaaDoor.Tx Go.Proofs.YthfibffgmoblaaaDoor.Wh Go.Proofs.YthfibffgmoblaaaDoor.Di Go.Proofs.YthfibffgmoblaaaDoorW.PrintWords
set_option linter.unusedVariables false
theorem take_split {p : UInt8 → Bool} {a a' b b' : List UInt8} (ha : a.all p = true) (ha' : a'.all p = true) (hb : b = [] ∨ ∃ c t, b = c :: t ∧ p c = false) (hb' : b' = [] ∨ ∃ c t, b' = c :: t ∧ p c = false) (h : a ++ b = a' ++ b') : a = a' ∧ b = b' := by
  have h1 := take_all a b ha hb
  have h2 := take_all a' b' ha' hb'
  rw [h] at h1
  exact ⟨h1.1.symm.trans h2.1, h1.2.symm.trans h2.2⟩
theorem mem_nz (a : List Int) : ∀ k (x : Nat × Int), x ∈ nz a k ↔ x.1 < k ∧ x.2 = a[x.1]?.getD 0 ∧ x.2 ≠ 0
  | 0, x => by simp [nz]
  | k + 1, x => by
    have ih := mem_nz a k x
    unfold nz
    obtain ⟨i, v⟩ := x
    split
    · rename_i h
      rw [ih]
      simp only
      constructor
      · rintro ⟨h1, h2, h3⟩; exact ⟨by omega, h2, h3⟩
      · rintro ⟨h1, h2, h3⟩
        refine ⟨?_, h2, h3⟩
        rcases Nat.lt_or_ge i k with q | q
        · exact q
        · obtain rfl : i = k := by omega
          exact absurd (h2.trans h) h3
    · rename_i h
      rw [List.mem_append, ih, List.mem_singleton]
      simp only [Prod.mk.injEq]
      constructor
      · rintro (⟨h1, h2, h3⟩ | ⟨h1, h2⟩)
        · exact ⟨by omega, h2, h3⟩
        · subst h1 h2; exact ⟨by omega, rfl, h⟩
      · rintro ⟨h1, h2, h3⟩
        rcases Nat.lt_or_ge i k with q | q
        · exact .inl ⟨q, h2, h3⟩
        · obtain rfl : i = k := by omega
          exact .inr ⟨rfl, h2⟩
theorem nz_pairs (a : List Int) (h : allR a = true) : Pairs (nz a 7) := by
  intro x hx
  obtain ⟨h1, h2, h3⟩ := (mem_nz a 7 x).1 hx
  have := allR_at a h x.1
  rw [← h2] at this
  exact ⟨h1, this.1, this.2⟩
theorem dtx_inj : ∀ l l', Pairs l → Pairs l' → dtx l = dtx l' → l = l'
  | [], [], _, _, _ => rfl
  | [], y :: l', _, _, h => by rw [dtx_cons] at h; simp [dtx] at h
  | x :: l, [], _, _, h => by rw [dtx_cons] at h; simp [dtx] at h
  | x :: l, y :: l', hp, hp', h => by
    rw [dtx_cons, dtx_cons, List.cons.injEq] at h
    obtain ⟨h1, h2⟩ := h
    have px := hp x (by simp)
    have py := hp' y (by simp)
    have hl : Pairs l := fun z hz => hp z (List.mem_cons_of_mem _ hz)
    have hl' : Pairs l' := fun z hz => hp' z (List.mem_cons_of_mem _ hz)
    have i1 := (letter_nl x.1 px.1).2
    have i2 := (letter_nl y.1 py.1).2
    rw [h1, i2] at i1
    have f1 := itoa_facts x.2 px.2.1 px.2.2
    have f2 := itoa_facts y.2 py.2.1 py.2.2
    obtain ⟨e1, e2⟩ := take_split f1.1 f2.1 (dtx_head l hl) (dtx_head l' hl') h2
    have e3 := f1.2
    rw [e1, f2.2] at e3
    have e4 : y.2 = x.2 := by injection e3
    have e5 := dtx_inj l l' hl hl' e2
    rw [e5]
    congr 1
    obtain ⟨a, b⟩ := x
    obtain ⟨c, d⟩ := y
    simp only at i1 e4
    congr 1
    · omega
    · exact e4.symm
theorem itoa_inj {x y : Int} (hx : Fit x) (hy : Fit y) (h : itoa x = itoa y) : x = y := by
  have h1 := parse_itoa (n := x) (by unfold Fit at hx; omega) (by unfold Fit at hx; omega)
  have h2 := parse_itoa (n := y) (by unfold Fit at hy; omega) (by unfold Fit at hy; omega)
  rw [h, h2] at h1
  injection h1 with h1
  exact h1.symm
theorem itoa_all {x : Int} (b : UInt8) (hb : b ≠ 45) (hd : ¬ Dg b) : (itoa x).all (fun c => c != b) = true := by
  rw [List.all_eq_true]
  intro c hc
  exact bne_iff_ne.2 (itoa_no hc b hb hd)
theorem itoa_all2 {x : Int} : (itoa x).all (fun c => c != 47 && c != 101) = true := by
  rw [List.all_eq_true]
  intro c hc
  have h1 := itoa_no hc 47 (by decide) (by decide)
  have h2 := itoa_no hc 101 (by decide) (by decide)
  simp [h1, h2]
theorem txt_inj {n d t n' d' t' : Int} (fn : Fit n) (fd : Fit d) (ft : Fit t) (fn' : Fit n') (fd' : Fit d') (ft' : Fit t') (h : txt n d t = txt n' d' t') : n = n' ∧ d = d' ∧ t = t' := by
  have eE : ∀ t : Int, (if t = 0 then ([] : List UInt8) else 101 :: itoa t) = [] ∨ ∃ c r, (if t = 0 then ([] : List UInt8) else 101 :: itoa t) = c :: r ∧ (c != 47 && c != 101) = false := by
    intro t
    by_cases h : t = 0
    · rw [if_pos h]; exact .inl rfl
    · rw [if_neg h]; exact .inr ⟨101, itoa t, rfl, rfl⟩
  have eD : ∀ d t : Int, ((if d = 1 then ([] : List UInt8) else 47 :: itoa d) ++ (if t = 0 then [] else 101 :: itoa t)) = [] ∨ ∃ c r, ((if d = 1 then ([] : List UInt8) else 47 :: itoa d) ++ (if t = 0 then [] else 101 :: itoa t)) = c :: r ∧ (c != 47 && c != 101) = false := by
    intro d t
    by_cases h : d = 1
    · rw [if_pos h, List.nil_append]; exact eE t
    · rw [if_neg h]; exact .inr ⟨47, _, rfl, rfl⟩
  have last : ∀ {t t' : Int}, Fit t → Fit t' → (if t = 0 then ([] : List UInt8) else 101 :: itoa t) = (if t' = 0 then [] else 101 :: itoa t') → t = t' := by
    intro t t' f f' h
    by_cases h1 : t = 0
    · by_cases h2 : t' = 0
      · omega
      · rw [if_pos h1, if_neg h2] at h; cases h
    · by_cases h2 : t' = 0
      · rw [if_neg h1, if_pos h2] at h; cases h
      · rw [if_neg h1, if_neg h2] at h
        injection h with _ h
        exact itoa_inj f f' h
  unfold txt at h
  obtain ⟨h1, h2⟩ := take_split itoa_all2 itoa_all2 (eD d t) (eD d' t') h
  refine ⟨itoa_inj fn fn' h1, ?_⟩
  by_cases d1 : d = 1
  · by_cases d2 : d' = 1
    · rw [if_pos d1, if_pos d2] at h2
      exact ⟨by omega, last ft ft' h2⟩
    · rw [if_pos d1, if_neg d2] at h2
      exfalso
      by_cases h0 : t = 0
      · rw [if_pos h0] at h2; cases h2
      · rw [if_neg h0] at h2
        simp only [List.nil_append, List.cons_append, List.cons.injEq] at h2
        exact absurd h2.1 (by decide)
  · by_cases d2 : d' = 1
    · rw [if_neg d1, if_pos d2] at h2
      exfalso
      by_cases h0 : t' = 0
      · rw [if_pos h0] at h2; cases h2
      · rw [if_neg h0] at h2
        simp only [List.nil_append, List.cons_append, List.cons.injEq] at h2
        exact absurd h2.1 (by decide)
    · rw [if_neg d1, if_neg d2] at h2
      simp only [List.cons_append, List.cons.injEq, true_and] at h2
      obtain ⟨h3, h4⟩ := take_split itoa_all2 itoa_all2 (eE t) (eE t') h2
      exact ⟨itoa_inj fd fd' h3, last ft ft' h4⟩
theorem txt_all {n d t : Int} : (txt n d t).all (fun c => c != 32) = true := by
  unfold txt
  have h := fun x : Int => itoa_all (x := x) 32 (by decide) (by decide)
  rw [List.all_append, List.all_append, h]
  by_cases h1 : d = 1
  · by_cases h2 : t = 0
    · rw [if_pos h1, if_pos h2]; rfl
    · rw [if_pos h1, if_neg h2, List.all_cons, h]; rfl
  · by_cases h2 : t = 0
    · rw [if_neg h1, if_pos h2, List.all_cons, h]; rfl
    · rw [if_neg h1, if_neg h2, List.all_cons, h, List.all_cons, h]; rfl
theorem letter_no {i : Nat} (h : i < 7) : letter i ≠ 32 ∧ letter i ≠ 35 := by
  have hk : i = 0 ∨ i = 1 ∨ i = 2 ∨ i = 3 ∨ i = 4 ∨ i = 5 ∨ i = 6 := by omega
  rcases hk with rfl | rfl | rfl | rfl | rfl | rfl | rfl <;> decide
theorem dtx_all : ∀ l, Pairs l → (dtx l).all (fun c => c != 32) = true
  | [], _ => rfl
  | x :: l, hp => by
    rw [dtx_cons, List.all_cons, List.all_append, itoa_all 32 (by decide) (by decide), dtx_all l (fun z hz => hp z (List.mem_cons_of_mem _ hz))]
    simp [(letter_no (hp x (by simp)).1).1]
theorem dtx_first {l : List (Nat × Int)} (hp : Pairs l) {r : List UInt8} : dtx l ≠ 35 :: r := by
  cases l with
  | nil => simp [dtx]
  | cons x l =>
    rw [dtx_cons]
    intro h
    rw [List.cons.injEq] at h
    exact (letter_no (hp x (by simp)).1).2 h.1
theorem tz_inj {a b : W11} (ha : 0 ≤ tg a ∧ tg a ≤ 99) (hb : 0 ≤ tg b ∧ tg b ≤ 99) (h : tz a = tz b) : tg a = tg b := by
  unfold tz at h
  by_cases h1 : tg a = 0
  · by_cases h2 : tg b = 0
    · omega
    · rw [if_pos h1, if_neg h2] at h; cases h
  · by_cases h2 : tg b = 0
    · rw [if_neg h1, if_pos h2] at h; cases h
    · rw [if_neg h1, if_neg h2] at h
      simp only [List.cons.injEq, true_and] at h
      exact itoa_inj (fit99 ha) (fit99 hb) h
theorem tz_head (a : W11) : tz a = [] ∨ ∃ c t, tz a = c :: t ∧ (c != (32 : UInt8)) = false := by
  unfold tz
  by_cases h : tg a = 0
  · rw [if_pos h]; exact .inl rfl
  · rw [if_neg h]; exact .inr ⟨32, _, rfl, rfl⟩
theorem wtx_inj {a b : W11} (ha : RT a = true) (hb : RT b = true) (ia : O64 a) (ib : O64 b) (h : wtx a = wtx b) : (a.1 = b.1 ∧ a.2.1 = b.2.1 ∧ a.2.2.1 = b.2.2.1) ∧ ds a = ds b ∧ tg a = tg b := by
  unfold wtx at h
  rw [if_pos ha, if_pos hb] at h
  obtain ⟨r1, A1, t1⟩ := RT_parts ha
  obtain ⟨r2, A2, t2⟩ := RT_parts hb
  have P1 := nz_pairs _ A1
  have P2 := nz_pairs _ A2
  have hd : ∀ x : W11, ((if dz x = [] then ([] : List UInt8) else 32 :: dz x) ++ tz x) = [] ∨ ∃ c t, ((if dz x = [] then ([] : List UInt8) else 32 :: dz x) ++ tz x) = c :: t ∧ (c != (32 : UInt8)) = false := by
    intro x
    by_cases h : dz x = []
    · rw [if_pos h, List.nil_append]; exact tz_head x
    · rw [if_neg h]; exact .inr ⟨32, _, rfl, rfl⟩
  obtain ⟨h1, h2⟩ := take_split txt_all txt_all (hd a) (hd b) h
  obtain ⟨f1, f2, f3, _⟩ := RD_fit r1 ia.2
  obtain ⟨g1, g2, g3, _⟩ := RD_fit r2 ib.2
  refine ⟨txt_inj f1 f2 f3 g1 g2 g3 h1, ?_⟩
  have fin : dz a = dz b → tz a = tz b → ds a = ds b ∧ tg a = tg b := by
    intro h3 h4
    refine ⟨?_, tz_inj t1 t2 h4⟩
    have h5 := dtx_inj _ _ P1 P2 h3
    have h6 : ∀ i, i < 7 → (ds a)[i]?.getD 0 = (ds b)[i]?.getD 0 := by
      intro i hi
      by_cases z : (ds a)[i]?.getD 0 = 0
      · by_cases z' : (ds b)[i]?.getD 0 = 0
        · rw [z, z']
        · have := (mem_nz (ds b) 7 (i, (ds b)[i]?.getD 0)).2 ⟨hi, rfl, z'⟩
          rw [← h5] at this
          have := (mem_nz (ds a) 7 _).1 this
          exact absurd (this.2.1.trans z) z'
      · have := (mem_nz (ds a) 7 (i, (ds a)[i]?.getD 0)).2 ⟨hi, rfl, z⟩
        rw [h5] at this
        exact ((mem_nz (ds b) 7 _).1 this).2.1
    have q0 := h6 0 (by decide)
    have q1 := h6 1 (by decide)
    have q2 := h6 2 (by decide)
    have q3 := h6 3 (by decide)
    have q4 := h6 4 (by decide)
    have q5 := h6 5 (by decide)
    have q6 := h6 6 (by decide)
    unfold ds at q0 q1 q2 q3 q4 q5 q6 ⊢
    simp only [List.getElem?_cons_zero, List.getElem?_cons_succ, Option.getD_some] at q0 q1 q2 q3 q4 q5 q6
    rw [q0, q1, q2, q3, q4, q5, q6]
  by_cases z1 : dz a = []
  · by_cases z2 : dz b = []
    · rw [if_pos z1, if_pos z2] at h2
      exact fin (z1.trans z2.symm) h2
    · rw [if_pos z1, if_neg z2, List.nil_append] at h2
      exfalso
      unfold tz at h2
      by_cases h0 : tg a = 0
      · rw [if_pos h0] at h2; cases h2
      · rw [if_neg h0] at h2
        simp only [List.cons_append, List.cons.injEq, true_and] at h2
        cases hz : dz b with
        | nil => exact z2 hz
        | cons c r =>
          rw [hz] at h2
          simp only [List.cons_append, List.cons.injEq] at h2
          exact dtx_first P2 (r := r) (by rw [h2.1]; exact hz)
  · by_cases z2 : dz b = []
    · rw [if_neg z1, if_pos z2, List.nil_append] at h2
      exfalso
      have h2 := h2.symm
      unfold tz at h2
      by_cases h0 : tg b = 0
      · rw [if_pos h0] at h2; cases h2
      · rw [if_neg h0] at h2
        simp only [List.cons_append, List.cons.injEq, true_and] at h2
        cases hz : dz a with
        | nil => exact z1 hz
        | cons c r =>
          rw [hz] at h2
          simp only [List.cons_append, List.cons.injEq] at h2
          exact dtx_first P1 (r := r) (by rw [h2.1]; exact hz)
    · rw [if_neg z1, if_neg z2] at h2
      simp only [List.cons_append, List.cons.injEq, true_and] at h2
      obtain ⟨h3, h4⟩ := take_split (p := fun c => c != 32) (dtx_all _ P1) (dtx_all _ P2) (tz_head a) (tz_head b) h2
      exact fin h3 h4
end Go.Proofs.YthfibffgmoblaaaDoor.Wo
