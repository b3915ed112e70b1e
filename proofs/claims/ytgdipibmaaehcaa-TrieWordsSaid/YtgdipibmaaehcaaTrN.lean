/- What a trie tells, in plain lists: its words by their bytes, each once, with its first number. Conditions: those in each theorem. -/
import Derived.Test.YtgdipibmaaehcaaTrL
import Derived.Test.YtgdipibmaaehcaaTrM
namespace Go.Proofs.Ytgdipibmaaehcaa.Tr
open Go Go.RowKit
set_option linter.unusedVariables false
set_option linter.unusedSimpArgs false
theorem app_lt (a : Str) {x y : Str} (h : x < y) : a ++ x < a ++ y := by
  induction a with
  | nil => exact h
  | cons c a ih => rw [List.cons_append, List.cons_append, List.cons_lt_cons_iff]; exact .inr ⟨rfl, ih⟩
theorem app_lt_self (a : Str) (u : UInt8) (r : Str) : a < a ++ u :: r := by
  have h : ([] : Str) < u :: r := List.nil_lt_cons u r
  have := app_lt a h
  rwa [List.append_nil] at this
theorem byteOf_lt {c d : Int} (h0 : 0 ≤ c) (h1 : c < d) (h2 : d ≤ 255) : byteOf c < byteOf d := by
  rw [UInt8.lt_iff_toNat_lt]
  have a := byteOf_nat h0 (by omega)
  have b := byteOf_nat (c := d) (by omega) h2
  omega
theorem own1_mem {P : List Str} {wd : List Int} {s : ByteArray} {y : Wt} (h : y ∈ own1 P wd s) : y.1 = s ∧ ∃ i, pos P (strOf s) = some i ∧ wd.getD i 0 ≠ -1 ∧ y.2 = wd.getD i 0 := by
  unfold own1 at h
  cases e : pos P (strOf s) with
  | none => rw [e] at h; cases h
  | some i =>
    rw [e] at h
    by_cases hw : wd.getD i 0 = -1
    · simp only [hw, if_pos] at h; cases h
    · simp only [hw, if_neg, not_false_iff] at h
      simp only [List.mem_singleton] at h
      subst h
      exact ⟨rfl, i, rfl, hw, rfl⟩
theorem tell_mem {P : List Str} {wd : List Int} : ∀ (d : Nat) (s : ByteArray) (y : Wt), y ∈ tell P wd d s → (∃ r, strOf y.1 = strOf s ++ r) ∧ ∃ i, pos P (strOf y.1) = some i ∧ wd.getD i 0 ≠ -1 ∧ y.2 = wd.getD i 0
  | 0, s, y, h => by cases h
  | d + 1, s, y, h => by
    rcases List.mem_append.1 h with h | h
    · obtain ⟨e, i, h1, h2, h3⟩ := own1_mem h
      rw [e]
      exact ⟨⟨[], by simp⟩, i, h1, h2, h3⟩
    · obtain ⟨c, hc, hy⟩ := List.mem_flatMap.1 h
      obtain ⟨⟨r, hr⟩, rest⟩ := tell_mem d _ y hy
      refine ⟨⟨byteOf c :: r, ?_⟩, rest⟩
      rw [hr, strOf_push, List.append_assoc]; rfl
theorem mem_tell {P : List Str} (hg : Good P) {wd : List Int} : ∀ (d : Nat) (s x : ByteArray) (r : Str) (i : Nat), strOf x = strOf s ++ r → r.length < d → pos P (strOf x) = some i → wd.getD i 0 ≠ -1 → (x, wd.getD i 0) ∈ tell P wd d s
  | 0, s, x, r, i, _, h, _, _ => by omega
  | d + 1, s, x, [], i, he, h, hp, hw => by
    rw [List.append_nil] at he
    have hx := strOf_inj he
    subst hx
    refine List.mem_append_left _ ?_
    unfold own1
    rw [hp]
    simp only [hw, if_neg, not_false_iff]
    exact List.mem_singleton.2 rfl
  | d + 1, s, x, u :: r, i, he, h, hp, hw => by
    refine List.mem_append_right _ (List.mem_flatMap.2 ⟨(u.toNat : Int), ?_, ?_⟩)
    · have hb : byteOf (u.toNat : Int) = u := by unfold byteOf; simp
      have hx := List.mem_of_getElem? (pos_some _ _ _ hp).1
      rw [he] at hx
      have hk : strOf s ++ [u] ∈ P := hg.pre r _ (by simpa using hx)
      rw [kidsC_mem]
      refine ⟨by omega, by have := u.toNat_lt; omega, ?_⟩
      unfold kidF
      rw [hb]
      cases e : pos P (strOf s ++ [u]) with
      | none => exact absurd hk ((pos_none _ _).1 e)
      | some k => rfl
    · refine mem_tell hg d _ x r i ?_ (by simp at h; omega) hp hw
      rw [he, strOf_push]
      have hb : byteOf (u.toNat : Int) = u := by unfold byteOf; simp
      rw [hb]; simp
theorem tell_rise {P : List Str} {wd : List Int} : ∀ (d : Nat) (s : ByteArray), (tell P wd d s).Pairwise (fun x y => strOf x.1 < strOf y.1)
  | 0, s => List.Pairwise.nil
  | d + 1, s => by
    show (own1 P wd s ++ _).Pairwise _
    rw [List.pairwise_append]
    refine ⟨?_, ?_, ?_⟩
    · unfold own1
      cases pos P (strOf s) with
      | none => exact List.Pairwise.nil
      | some i =>
        by_cases hw : wd.getD i 0 = -1
        · simp only [hw, if_pos]; exact List.Pairwise.nil
        · simp only [hw, if_neg, not_false_iff]; exact List.pairwise_singleton _ _
    · rw [List.pairwise_flatMap]
      refine ⟨fun c _ => tell_rise d _, (kidsC_lt _).imp_of_mem ?_⟩
      intro c e hc he hlt x hx y hy
      obtain ⟨⟨r, hr⟩, _⟩ := tell_mem d _ x hx
      obtain ⟨⟨r', hr'⟩, _⟩ := tell_mem d _ y hy
      rw [hr, hr', strOf_push, strOf_push, List.append_assoc, List.append_assoc]
      refine app_lt _ ?_
      have a := (kidsC_mem _ _).1 hc
      have b := (kidsC_mem _ _).1 he
      show byteOf c :: r < byteOf e :: r'
      rw [List.cons_lt_cons_iff]
      exact .inl (byteOf_lt a.1 hlt b.2.1)
    · intro x hx y hy
      obtain ⟨e, _⟩ := own1_mem hx
      obtain ⟨c, _, hy⟩ := List.mem_flatMap.1 hy
      obtain ⟨⟨r, hr⟩, _⟩ := tell_mem d _ y hy
      rw [e, hr, strOf_push, List.append_assoc]
      exact app_lt_self _ _ _
/-- What a trie of words tells is what the document says. -/
theorem tell_all {xs out : List ByteArray} (h6 : ∀ x ∈ xs, x.size ≤ 6) (hr : Rise out) (hm : ∀ s, s ∈ out ↔ s ∈ xs) :
    tell (nodes (xs.map strOf)) ((nodes (xs.map strOf)).map (find (xs.map strOf))) 7 ⟨#[]⟩ = out.map fun s => (s, find (xs.map strOf) (strOf s)) := by
  obtain ⟨P, hP⟩ : ∃ P, nodes (xs.map strOf) = P := ⟨_, rfl⟩
  have hg : Good P := hP ▸ (nodes_good _).1
  have hin : ∀ x ∈ xs, strOf x ∈ P := fun x hx => hP ▸ (nodes_good _).2 _ (List.mem_map_of_mem hx)
  rw [hP]
  have hv : ∀ (x : Str) (i : Nat), pos P x = some i → (P.map (find (xs.map strOf))).getD i 0 = find (xs.map strOf) x := fun x i h => by
    rw [List.getD_eq_getElem?_getD, List.getElem?_map, (pos_some _ _ _ h).1]; rfl
  have h1 := tell_rise (P := P) (wd := P.map (find (xs.map strOf))) 7 ⟨#[]⟩
  have h2 : (out.map fun s => (s, find (xs.map strOf) (strOf s))).Pairwise (fun x y => strOf x.1 < strOf y.1) := List.pairwise_map.2 ((List.pairwise_map.1 hr).imp fun h => h)
  have irr : ∀ {l : List Wt}, l.Pairwise (fun x y => strOf x.1 < strOf y.1) → l.Nodup := fun h => h.imp fun {a b} hab e => by rw [e] at hab; exact List.lt_irrefl _ hab
  refine List.Perm.eq_of_pairwise (le := fun x y : Wt => strOf x.1 < strOf y.1) (fun a b _ _ x y => absurd y (List.lt_asymm x)) h1 h2 ?_
  refine (List.perm_ext_iff_of_nodup (irr h1) (irr h2)).2 fun y => ?_
  rw [List.mem_map]
  constructor
  · intro hy
    obtain ⟨_, i, a, b, c⟩ := tell_mem 7 _ y hy
    rw [hv _ _ a] at b c
    have hl : strOf y.1 ∈ xs.map strOf := Classical.byContradiction fun h => b (find_neg.2 h)
    obtain ⟨z, hz, e⟩ := List.mem_map.1 hl
    have := strOf_inj e
    subst this
    exact ⟨y.1, (hm _).2 hz, by rw [← c]⟩
  · rintro ⟨s, hs, rfl⟩
    have hx := (hm s).1 hs
    obtain ⟨i, hi⟩ : ∃ i, pos P (strOf s) = some i := by
      cases e : pos P (strOf s) with
      | none => exact absurd (hin s hx) ((pos_none _ _).1 e)
      | some i => exact ⟨i, rfl⟩
    have hne : (P.map (find (xs.map strOf))).getD i 0 ≠ -1 := by
      rw [hv _ _ hi]
      intro e
      exact (find_neg.1 e) (List.mem_map_of_mem hx)
    have := mem_tell hg (wd := P.map (find (xs.map strOf))) 7 ⟨#[]⟩ s (strOf s) i rfl (by rw [strOf_len]; have := h6 s hx; omega) hi hne
    rwa [hv _ _ hi] at this
end Go.Proofs.Ytgdipibmaaehcaa.Tr
