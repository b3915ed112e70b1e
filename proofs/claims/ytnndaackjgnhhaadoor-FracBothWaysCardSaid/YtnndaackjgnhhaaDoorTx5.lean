/- frac.Read tells what the document's answer tells. Conditions: a text of at most 1000 bytes. -/
import Derived.Test.YtnndaackjgnhhaaDoorTx4
namespace Go.Proofs.YtnndaackjgnhhaaDoor.Tx
open Go.RowKit Go.Lib Go.Proofs.YtnndaackjgnhhaaDoor.Fr Go.Proofs.YtnndaackjgnhhaaDoor.Wh Go.Proofs.YtnndaackjgnhhaaDoor.PB Go.Proofs.YtnndaackjgnhhaaDoor.PC Go.Proofs.YtnndaackjgnhhaaDoor.PE Go.Proofs.YtnndaackjgnhhaaDoor.PT Go.Proofs.YtnndaackjgnhhaaDoorW.PrintWords Go.Proofs.YtnndaackjgnhhaaDoorW.PrintLast Go.Proofs.YtnndaackjgnhhaaDoorW.PrintMore
set_option linter.unusedVariables false
theorem ib_no : ∀ (l : List UInt8) (c : UInt8), c ∉ l → indexByte l c = -1
  | [], _, _ => rfl
  | b :: l, c, h => by
    have hb : (b == c) = false := by
      rw [beq_eq_false_iff_ne]
      rintro rfl
      exact h (List.mem_cons_self ..)
    have := ib_no l c (fun hm => h (List.mem_cons_of_mem _ hm))
    simp [indexByte, hb, this]
theorem ib_at : ∀ (p r : List UInt8) (c : UInt8), c ∉ p → indexByte (p ++ c :: r) c = p.length
  | [], r, c, _ => by simp [indexByte]
  | b :: p, r, c, h => by
    have hb : (b == c) = false := by
      rw [beq_eq_false_iff_ne]
      rintro rfl
      exact h (List.mem_cons_self ..)
    have := ib_at p r c (fun hm => h (List.mem_cons_of_mem _ hm))
    have h1 : ¬ ((p.length : Int) = -1) := by omega
    simp [indexByte, hb, this, h1]
theorem idx_eq (l : List UInt8) (c : UInt8) : stringslite_Index.f (B l) ⟨#[c]⟩ = some (indexByte l c) := by
  simp [stringslite_Index.f, B_data]
theorem cut_no (l : List UInt8) (c : UInt8) (h : c ∉ l) : strings_Cut.f (B l) ⟨#[c]⟩ = some (B l, B [], false) := by
  unfold strings_Cut.f stringslite_Cut.f
  rw [idx_eq, ib_no l c h, bs_, if_neg (by omega), bs_]
  rfl
theorem cut_at (p r : List UInt8) (c : UInt8) (h : c ∉ p) (hl : (p ++ c :: r).length ≤ 1000) : strings_Cut.f (B (p ++ c :: r)) ⟨#[c]⟩ = some (B p, B r, true) := by
  unfold strings_Cut.f stringslite_Cut.f
  have hl2 := hl
  rw [List.length_append, List.length_cons] at hl2
  have e1 : ((⟨#[c]⟩ : ByteArray).size : Int) = 1 := rfl
  rw [idx_eq, ib_at p r c h, bs_, if_pos (by omega), if_pos (by omega), B_size, if_pos (by rw [List.length_append]; omega), e1, w64 (by omega) (by omega), if_pos (by omega), if_pos (by rw [List.length_append, List.length_cons]; omega), bs_, B_ext, B_ext]
  have e2 : ((p.length : Int) + 1).toNat = p.length + 1 := by omega
  rw [e2]
  simp only [Int.toNat_natCast, Nat.sub_zero, List.drop_zero, Option.some.injEq, Prod.mk.injEq, and_true]
  refine ⟨?_, ?_⟩
  · rw [List.take_left]
  · congr 1
    rw [List.drop_append, List.drop_of_length_le (by omega), List.nil_append, show p.length + 1 - p.length = 1 from by omega, List.drop_succ_cons, List.drop_zero]
    rw [List.take_of_length_le (by rw [List.length_append, List.length_cons]; omega)]
theorem cut_ex (l : List UInt8) (c : UInt8) (hl : l.length ≤ 1000) : ∃ a b h, strings_Cut.f (B l) ⟨#[c]⟩ = some (B a, B b, h) ∧ a.length ≤ 1000 ∧ b.length ≤ 1000 := by
  by_cases hm : c ∈ l
  · obtain ⟨p, r, rfl, hp⟩ := List.eq_append_cons_of_mem hm
    refine ⟨p, r, true, cut_at p r c hp hl, ?_, ?_⟩ <;> (rw [List.length_append, List.length_cons] at hl; omega)
  · exact ⟨l, [], false, cut_no l c hm, hl, by simp⟩
theorem parsed?_B (l : List UInt8) (hl : l.length ≤ 1000) : parsed? (B l) = some (parsed (B l)) := by
  unfold parsed?
  rw [B_size, if_pos (by omega)]
theorem parsed_ok {l : List UInt8} (h : (parsed (B l)).2 = true) : I64 (parsed (B l)).1 := by
  unfold parsed at h ⊢
  rw [B_data] at h ⊢
  cases hp : parseIntB 64 l
  · rename_i v
    have := parseIntB_bounds hp
    show I64 v
    unfold I64
    omega
  · rw [hp] at h; cases h
  · rw [hp] at h; cases h
theorem parsed_itoa {x : Int} (h : Fit x) : parsed (B (itoa x)) = (x, true) := by
  unfold parsed
  unfold Fit at h
  rw [B_data, parse_itoa (by omega) (by omega)]
/-- The end of frac.Read. -/
def endF (k : Nat) (s : ByteArray) (n m t : Int × Bool) : Option Q4 := if (n.2 && m.2 && t.2) = true then (frac_Text.f k n.1 m.1 t.1).bind fun x => if x.toList = s.toList then some (n.1, m.1, t.1, 0) else some (0, 0, 0, 20) else some (0, 0, 0, 20)
theorem end_ev (l : List UInt8) (n m t : Int × Bool) (i : n.2 = true → I64 n.1) (id : m.2 = true → I64 m.1) (hl : l ≠ []) : ∃ r, Ev (fun k => endF k (B l) n m t) r ∧ Good l r ∧ ((n.2 && m.2 && t.2) = true → text n.1 m.1 t.1 = l → r = (n.1, m.1, t.1, 0)) := by
  by_cases h : (n.2 && m.2 && t.2) = true
  · have h' := h
    rw [Bool.and_eq_true, Bool.and_eq_true] at h'
    obtain ⟨⟨h1, h2⟩, h3⟩ := h'
    obtain ⟨K, hK⟩ := FText_ev (t := t.1) (i h1) (id h2)
    refine ⟨if text n.1 m.1 t.1 = l then (n.1, m.1, t.1, 0) else (0, 0, 0, 20), ⟨K, fun k hk => ?_⟩, ?_, fun _ ht => if_pos ht⟩
    · show endF k (B l) n m t = _
      simp only at hK
      unfold endF
      rw [if_pos h, hK k hk, bs_, B_list, B_list]
      by_cases ht : text n.1 m.1 t.1 = l
      · rw [if_pos ht, if_pos ht]
      · rw [if_neg ht, if_neg ht]
    · split
      · rename_i ht
        right
        unfold text at ht
        split at ht
        · exact ⟨rfl, i h1, id h2, by assumption, ht⟩
        · exact absurd ht.symm hl
      · exact Or.inl rfl
  · refine ⟨(0, 0, 0, 20), ⟨0, fun k _ => ?_⟩, Or.inl rfl, fun h' => absurd h' h⟩
    show endF k (B l) n m t = _
    unfold endF
    rw [if_neg h]
theorem FRead_ev (l : List UInt8) (hl : l.length ≤ 1000) : ∃ r, Ev (fun k => frac_Read.f k (B l)) r ∧ Good l r := by
  obtain ⟨rest, ten, has, e1, l1, l2⟩ := cut_ex l 101 hl
  obtain ⟨num, den, by_, e2, l3, l4⟩ := cut_ex rest 47 l1
  have i1 : I64 1 := by unfold I64; omega
  have hx : ∀ k, frac_Read.f k (B l) = endF k (B l) (parsed (B num)) (if by_ = true then parsed (B den) else (1, true)) (if has = true then parsed (B ten) else (0, true)) := by
    intro k
    unfold frac_Read.f endF
    rw [e1, bs_, e2, bs_, parsed?_B num l3, bs_, parsed?_B den l4, parsed?_B ten l2]
    cases by_ <;> cases has <;> simp
  have iden : ∀ b : Bool, (if b = true then parsed (B den) else (1, true)).2 = true → I64 (if b = true then parsed (B den) else (1, true)).1 := by
    intro b h
    cases b with
    | true => simp only [if_true] at h ⊢; exact parsed_ok h
    | false => simpa using i1
  by_cases hne : l = []
  · subst hne
    refine ⟨(0, 0, 0, 20), Ev.congr hx ⟨0, fun k _ => ?_⟩, Or.inl rfl⟩
    have hn : num = [] := by
      rw [cut_no [] 101 (by simp)] at e1
      simp only [Option.some.injEq, Prod.mk.injEq] at e1
      have : rest = [] := by
        have := congrArg (fun b => b.data.toList) e1.1
        simpa [B_data] using this.symm
      subst this
      rw [cut_no [] 47 (by simp)] at e2
      simp only [Option.some.injEq, Prod.mk.injEq] at e2
      have := congrArg (fun b => b.data.toList) e2.1
      simpa [B_data] using this.symm
    subst hn
    show endF k (B []) _ _ _ = _
    unfold endF
    rw [if_neg (by
      have : parsed (B []) = (0, false) := by unfold parsed; rw [B_data]; rfl
      rw [this]
      simp)]
  · obtain ⟨r, e, g, _⟩ := end_ev l (parsed (B num)) (if by_ = true then parsed (B den) else (1, true)) (if has = true then parsed (B ten) else (0, true)) parsed_ok (iden by_) hne
    exact ⟨r, Ev.congr hx e, g⟩
theorem no47 {x : Int} : (47 : UInt8) ∉ itoa x := fun h => itoa_no h 47 (by decide) (by decide) rfl
theorem no101 {x : Int} : (101 : UInt8) ∉ itoa x := fun h => itoa_no h 101 (by decide) (by decide) rfl
theorem txt_len {n d t : Int} (hr : RD n d t = true) (id : I64 d) : (txt n d t).length ≤ 65 := by
  obtain ⟨fn, fd, ft, hd⟩ := RD_fit hr id
  have l1 := itoa_len fn
  have l2 := itoa_len ft
  have l3 := itoa_len fd
  unfold txt
  by_cases h1 : d = 1
  · by_cases h2 : t = 0
    · simp [h1, h2]; omega
    · simp [h1, h2]; omega
  · by_cases h2 : t = 0
    · simp [h1, h2]; omega
    · simp [h1, h2]; omega
theorem FRead_txt {n d t : Int} (hr : RD n d t = true) (i : I64 n) (id : I64 d) : Ev (fun k => frac_Read.f k (B (txt n d t))) (n, d, t, 0) := by
  obtain ⟨fn, fd, ft, hd⟩ := RD_fit hr id
  have tx : text n d t = txt n d t := by unfold text; rw [if_pos hr]
  have hl := txt_len hr id
  have hlen : ∀ x, (itoa x).length ≤ (txt n d t).length → (itoa x).length ≤ 1000 := fun x h => by omega
  have fin : ∀ r, Ev (fun k => endF k (B (txt n d t)) (n, true) (d, true) (t, true)) r → r = (n, d, t, 0) → Ev (fun k => endF k (B (txt n d t)) (n, true) (d, true) (t, true)) (n, d, t, 0) := fun r h e => e ▸ h
  obtain ⟨r, e, _, hr2⟩ := end_ev (txt n d t) (n, true) (d, true) (t, true) (fun _ => i) (fun _ => id) (txt_ne n d t)
  have e := fin r e (hr2 rfl tx)
  refine Ev.congr (fun k => ?_) e
  have l1 := itoa_len fn
  have l2 := itoa_len ft
  have l3 := itoa_len fd
  have step : ∀ (rest : List UInt8) (ten : List UInt8) (has : Bool), strings_Cut.f (B (txt n d t)) ⟨#[101]⟩ = some (B rest, B ten, has) → rest = itoa n ++ (if d = 1 then [] else 47 :: itoa d) → (has = true → ten = itoa t) → (has = false → t = 0) → ten.length ≤ 1000 →
      frac_Read.f k (B (txt n d t)) = endF k (B (txt n d t)) (n, true) (d, true) (t, true) := by
    intro rest ten has e1 hrest h1 h2 hten
    have et : (if has = true then parsed? (B ten) else some (0, true)) = some (t, true) := by
      cases has with
      | true => rw [if_pos rfl, h1 rfl, parsed?_B _ (by omega), parsed_itoa ft]
      | false => rw [if_neg (by simp), h2 rfl]
    unfold frac_Read.f endF
    rw [e1, bs_]
    by_cases hd1 : d = 1
    · subst hd1
      rw [if_pos rfl, List.append_nil] at hrest
      subst hrest
      rw [cut_no _ 47 no47, bs_, parsed?_B _ (by omega), bs_]
      simp only [et, parsed_itoa fn, Bool.false_eq_true, if_false, bs_]
    · rw [if_neg hd1] at hrest
      subst hrest
      rw [cut_at _ _ 47 no47 (by simp; omega), bs_, parsed?_B _ (by omega), bs_, parsed?_B (itoa d) (by omega)]
      simp only [et, parsed_itoa fn, parsed_itoa fd, if_true, bs_]
  by_cases ht : t = 0
  · have e0 : txt n d t = itoa n ++ (if d = 1 then [] else 47 :: itoa d) := by simp [txt, ht]
    refine step _ [] false (by
      refine cut_no _ 101 ?_
      rw [e0]
      intro hm
      rcases List.mem_append.1 hm with h | h
      · exact no101 h
      · split at h
        · cases h
        · rcases List.mem_cons.1 h with h | h
          · exact absurd h (by decide)
          · exact no101 h) e0 (fun h => by cases h) (fun _ => ht) (by simp)
  · have e0 : txt n d t = (itoa n ++ (if d = 1 then [] else 47 :: itoa d)) ++ 101 :: itoa t := by simp [txt, ht]
    refine step (itoa n ++ (if d = 1 then [] else 47 :: itoa d)) (itoa t) true (by
      rw [e0]
      refine cut_at _ _ 101 ?_ (by rw [← e0]; omega)
      intro hm
      rcases List.mem_append.1 hm with h | h
      · exact no101 h
      · split at h
        · cases h
        · rcases List.mem_cons.1 h with h | h
          · exact absurd h (by decide)
          · exact no101 h) rfl (fun _ => rfl) (fun h => by cases h) (by omega)
/-- WHAT BOTH TELL OF A TEXT: one and the same. -/
theorem both_read (l : List UInt8) (hl : l.length ≤ 1000) : ∃ r, Ev (fun k => frac_Read.f k (B l)) r ∧ Ev (fun k => drachmref02_Read.f k (B l)) r ∧ Good l r := by
  obtain ⟨r, e, g⟩ := FRead_ev l hl
  have e' := RRead_ev l hl
  have g' := readP_good l hl
  have uniq : ∀ {a b : Q4}, a.2.2.2 = 0 → b = (a.1, a.2.1, a.2.2.1, 0) → a = b := by
    rintro ⟨a1, a2, a3, a4⟩ b h rfl
    simp only at h
    subst h
    rfl
  rcases g with rfl | ⟨h0, i1, i2, h1, h2⟩
  · rcases g' with h | ⟨h0, i1, i2, h1, h2⟩
    · rw [h] at e'
      exact ⟨_, e, e', Or.inl rfl⟩
    · -- the document reads it: so does frac.Read
      have e2 := FRead_txt h1 i1 i2
      rw [h2] at e2
      obtain ⟨K1, k1⟩ := e
      obtain ⟨K2, k2⟩ := e2
      have a1 := k1 (K1 + K2) (by omega)
      have a2 := k2 (K1 + K2) (by omega)
      simp only at a1 a2
      rw [a1] at a2
      simp only [Option.some.injEq, Prod.mk.injEq] at a2
      omega
  · have e2 := readP_txt h1 i2
    rw [h2] at e2
    rw [e2] at e'
    have hu := uniq h0 rfl
    exact ⟨r, e, by rw [hu]; exact e', Or.inr ⟨h0, i1, i2, h1, h2⟩⟩
end Go.Proofs.YtnndaackjgnhhaaDoor.Tx
