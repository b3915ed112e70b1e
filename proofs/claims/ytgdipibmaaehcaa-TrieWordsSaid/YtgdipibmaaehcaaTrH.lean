/- A node's children one by one against what TrieChildren asks, in plain lists. Conditions: those in each theorem. -/
import Derived.Test.YtgdipibmaaehcaaTrG
namespace Go.Proofs.Ytgdipibmaaehcaa.Tr
open Go Go.RowKit
set_option linter.unusedVariables false
set_option linter.unusedSimpArgs false
/-- The last byte, what has been seen, how many there were. -/
abbrev KSt := Int × List Bool × Int
/-- Is there a child between two bytes? -/
def gap (f : Int → Option Nat) (a b : Int) : Bool := (List.range 256).any fun x : Nat => decide (a < (x : Int)) && (decide ((x : Int) < b) && (f (x : Int)).isSome)
theorem gap_false {f : Int → Option Nat} {a b : Int} : gap f a b = false ↔ ∀ x : Int, 0 ≤ x → x ≤ 255 → a < x → x < b → f x = none := by
  unfold gap
  rw [List.any_eq_false]
  constructor
  · intro h x h0 h1 h2 h3
    have := h x.toNat (List.mem_range.2 (by omega))
    rw [Int.toNat_of_nonneg h0] at this
    simp only [decide_eq_true h2, decide_eq_true h3, Bool.true_and] at this
    cases e : f x with
    | none => rfl
    | some k => rw [e] at this; simp at this
  · intro h x hx
    rw [List.mem_range] at hx
    by_cases h2 : a < (x : Int)
    · by_cases h3 : (x : Int) < b
      · rw [h x (by omega) (by omega) h2 h3]; simp
      · simp [h3]
    · simp [h2]
/-- One child against what is asked. -/
def chk (f : Int → Option Nat) (st : KSt) (y : Int × Nat) : Option KSt := if y.1 ≤ st.1 ∨ y.2 = 0 ∨ st.2.1.getD y.2 false = true ∨ gap f st.1 y.1 = true then none else some (y.1, st.2.1.set y.2 true, st.2.2 + 1)
def chks (f : Int → Option Nat) : KSt → List (Int × Nat) → Option KSt
  | st, [] => some st
  | st, y :: ys => (chk f st y).bind fun st => chks f st ys
theorem chks_snoc (f : Int → Option Nat) : ∀ (ys : List (Int × Nat)) (st : KSt) (y : Int × Nat), chks f st (ys ++ [y]) = (chks f st ys).bind fun s => chk f s y
  | [], st, y => by
    show (chk f st y).bind (fun st => some st) = (some st).bind fun s => chk f s y
    rw [Option.bind_some]
    cases chk f st y <;> rfl
  | x :: ys, st, y => by
    show (chk f st x).bind (fun st => chks f st (ys ++ [y])) = ((chk f st x).bind fun st => chks f st ys).bind _
    cases chk f st x with
    | none => rfl
    | some s => exact chks_snoc f ys s y
theorem chk_inv {f : Int → Option Nat} {st st' : KSt} {y : Int × Nat} (h : chk f st y = some st') : st' = (y.1, st.2.1.set y.2 true, st.2.2 + 1) ∧ ¬ y.1 ≤ st.1 ∧ ¬ y.2 = 0 ∧ st.2.1.getD y.2 false = false ∧ gap f st.1 y.1 = false := by
  unfold chk at h
  by_cases c : y.1 ≤ st.1 ∨ y.2 = 0 ∨ st.2.1.getD y.2 false = true ∨ gap f st.1 y.1 = true
  · rw [if_pos c] at h; cases h
  · rw [if_neg c] at h
    simp only [not_or] at c
    cases h
    exact ⟨rfl, c.1, c.2.1, by simpa using c.2.2.1, by simpa using c.2.2.2⟩
theorem chks_inv {f : Int → Option Nat} {N : Nat} : ∀ (ys : List (Int × Nat)) {st st' : KSt}, chks f st ys = some st' → (∀ y ∈ ys, 0 ≤ y.1 ∧ y.1 ≤ 255) → -1 ≤ st.1 ∧ st.1 ≤ 255 → st.2.1.length = N → -1 ≤ st'.1 ∧ st'.1 ≤ 255 ∧ st'.2.1.length = N ∧ st'.2.2 = st.2.2 + (ys.length : Int)
  | [], st, st', h, _, hl, hn => by cases h; exact ⟨hl.1, hl.2, hn, by simp⟩
  | y :: ys, st, st', h, hy, hl, hn => by
    change (chk f st y).bind (fun st => chks f st ys) = some st' at h
    cases e : chk f st y with
    | none => rw [e] at h; cases h
    | some s =>
      rw [e] at h
      obtain ⟨rfl, _⟩ := chk_inv e
      have hy1 := hy y (by simp)
      obtain ⟨a, b, c, d⟩ := chks_inv (N := N) ys (st := (y.1, st.2.1.set y.2 true, st.2.2 + 1)) h (fun z hz => hy z (by simp [hz])) ⟨by show -1 ≤ y.1; omega, hy1.2⟩ (by rw [← hn]; exact List.length_set)
      refine ⟨a, b, c, ?_⟩
      rw [d]
      simp only [List.length_cons]
      omega
theorem count_set {l : List Bool} {k : Nat} (h : k < l.length) (h2 : l.getD k false = false) : (l.set k true).count true = l.count true + 1 := by
  induction l generalizing k with
  | nil => simp at h
  | cons b l ih =>
    cases k with
    | zero => simp at h2; subst h2; simp [List.count_cons]
    | succ k =>
      have := ih (k := k) (by simpa using h) (by simpa using h2)
      simp only [List.set_cons_succ, List.count_cons, this]
      omega
theorem getD_set (l : List Bool) (k j : Nat) (h : k < l.length) : (l.set k true).getD j false = (l.getD j false || decide (k = j)) := by
  rw [List.getD_eq_getElem?_getD, List.getD_eq_getElem?_getD, List.getElem?_set]
  by_cases e : k = j
  · subst e; simp [h]
  · simp [e]
theorem filter_lt_tail {l : List Int} (hl : l.Pairwise (· < ·)) {a y : Int} {T : List Int} (h : l.filter (fun c => decide (a < c)) = y :: T) : l.filter (fun c => decide (y < c)) = T ∧ a < y ∧ (∀ c ∈ l, a < c → y ≤ c) ∧ y ∈ l := by
  have hm : y ∈ l.filter (fun c => decide (a < c)) := by rw [h]; simp
  obtain ⟨hm1, hm2⟩ := List.mem_filter.1 hm
  have ha : a < y := of_decide_eq_true hm2
  have hp : (y :: T).Pairwise (· < ·) := by rw [← h]; exact hl.filter _
  obtain ⟨hp1, _⟩ := List.pairwise_cons.1 hp
  refine ⟨?_, ha, fun c hc hac => ?_, hm1⟩
  · have e : l.filter (fun c => decide (y < c)) = (l.filter (fun c => decide (a < c))).filter (fun c => decide (y < c)) := by
      rw [List.filter_filter]
      refine List.filter_congr fun c _ => ?_
      by_cases h1 : y < c
      · simp [h1, show a < c by omega]
      · simp [h1]
    rw [e, h, List.filter_cons, if_neg (by simp)]
    exact List.filter_eq_self.2 fun c hc => decide_eq_true (hp1 c hc)
  · have : c ∈ y :: T := by rw [← h]; exact List.mem_filter.2 ⟨hc, decide_eq_true hac⟩
    rcases List.mem_cons.1 this with rfl | hc2
    · exact Int.le_refl _
    · exact Int.le_of_lt (hp1 c hc2)
theorem chks_ok {f : Int → Option Nat} (hinj : ∀ c d k, f c = some k → f d = some k → 0 ≤ c → c ≤ 255 → 0 ≤ d → d ≤ 255 → c = d) (hpos : ∀ c k, f c = some k → k ≠ 0) :
    ∀ (ys : List (Int × Nat)) (a : Int) (seen : List Bool) (m : Int), (∀ y ∈ ys, f y.1 = some y.2) → (ys.map (·.1)) <+: (kidsC f).filter (fun c => decide (a < c)) → (∀ c k, 0 ≤ c → c ≤ 255 → a < c → f c = some k → seen.getD k false = false ∧ k < seen.length) →
      ∃ st, chks f (a, seen, m) ys = some st ∧ (∀ k, st.2.1.getD k false = (seen.getD k false || ys.any (fun y => decide (y.2 = k)))) ∧ st.2.1.count true = seen.count true + ys.length ∧ st.2.1.length = seen.length
  | [], a, seen, m, _, _, _ => ⟨(a, seen, m), rfl, fun k => by simp, by simp, rfl⟩
  | y :: ys, a, seen, m, hf, hp, hs => by
    obtain ⟨T0, hT0⟩ := hp
    rw [List.map_cons, List.cons_append] at hT0
    obtain ⟨e1, e2, e3, e4⟩ := filter_lt_tail (kidsC_lt f) hT0.symm
    have hy := hf y (by simp)
    obtain ⟨y0, y1, _⟩ := (kidsC_mem f y.1).1 e4
    obtain ⟨s1, s2⟩ := hs y.1 y.2 y0 y1 e2 hy
    have hg : gap f a y.1 = false := gap_false.2 fun x x0 x1 x2 x3 => by
      cases e : f x with
      | none => rfl
      | some k =>
        have := e3 x ((kidsC_mem f x).2 ⟨x0, x1, by rw [e]; rfl⟩) x2
        omega
    have hc : chk f (a, seen, m) y = some (y.1, seen.set y.2 true, m + 1) := by
      unfold chk
      rw [if_neg]
      simp only [not_or]
      exact ⟨by omega, hpos y.1 y.2 hy, by rw [s1]; simp, by rw [hg]; simp⟩
    obtain ⟨st, h1, h2, h3, h4⟩ := chks_ok hinj hpos ys y.1 (seen.set y.2 true) (m + 1) (fun z hz => hf z (by simp [hz])) ⟨T0, e1.symm⟩ (fun c k c0 c1 c2 ck => by
      obtain ⟨r1, r2⟩ := hs c k c0 c1 (by omega) ck
      refine ⟨?_, by rw [List.length_set]; exact r2⟩
      rw [getD_set _ _ _ s2, r1]
      have hne : y.2 ≠ k := fun e => by have := hinj c y.1 k ck (e ▸ hy) c0 c1 y0 y1; omega
      simp [hne])
    refine ⟨st, by show (chk f _ y).bind _ = _; rw [hc]; exact h1, fun k => ?_, ?_, by rw [h4, List.length_set]⟩
    · rw [h2, getD_set _ _ _ s2, List.any_cons, Bool.or_assoc]
    · rw [h3, count_set s2 s1, List.length_cons]; omega
theorem kid_inj {P : List Str} {p q : Str} {c d : Int} {k : Nat} (h : kidF P p c = some k) (h' : kidF P q d = some k) (c0 : 0 ≤ c) (c1 : c ≤ 255) (d0 : 0 ≤ d) (d1 : d ≤ 255) : p = q ∧ c = d := by
  have a := (pos_some _ _ _ h).1
  have b := (pos_some _ _ _ h').1
  rw [a] at b
  have e := Option.some.inj b
  obtain ⟨e1, e2⟩ := List.append_inj' e rfl
  exact ⟨e1, byteOf_inj c0 c1 d0 d1 (by simpa using e2)⟩
theorem kid_pos {P : List Str} (hg : Good P) {p : Str} {c : Int} {k : Nat} (h : kidF P p c = some k) : k ≠ 0 := fun e => by
  have a := (pos_some _ _ _ h).1
  rw [e, hg.nil] at a
  have := Option.some.inj a
  simp at this
theorem kid_lt {P : List Str} {p : Str} {c : Int} {k : Nat} (h : kidF P p c = some k) : k < P.length := (pos_some _ _ _ h).2.1
/-- What is seen ahead of node i: the children of those ahead of it. -/
structure SeenAt (P : List Str) (i : Nat) (seen : List Bool) (m : Int) : Prop where
  len : seen.length = P.length
  at_ : ∀ k, seen.getD k false = true ↔ ∃ j p c, j < i ∧ P[j]? = some p ∧ 0 ≤ c ∧ c ≤ 255 ∧ kidF P p c = some k
  many : m = (seen.count true : Int)
theorem SeenAt.start (P : List Str) : SeenAt P 0 (List.replicate P.length false) 0 := by
  refine ⟨by simp, fun k => ⟨fun h => ?_, fun ⟨j, _, _, h, _⟩ => absurd h (Nat.not_lt_zero _)⟩, by simp [List.count_replicate]⟩
  rw [List.getD_eq_getElem?_getD, List.getElem?_replicate] at h
  by_cases hk : k < P.length <;> simp [hk] at h
theorem SeenAt.fresh {P : List Str} (hg : Good P) {i : Nat} {seen : List Bool} {m : Int} (h : SeenAt P i seen m) {p : Str} (hp : P[i]? = some p) {c : Int} {k : Nat} (c0 : 0 ≤ c) (c1 : c ≤ 255) (hk : kidF P p c = some k) : seen.getD k false = false ∧ k < seen.length := by
  refine ⟨?_, by rw [h.len]; exact kid_lt hk⟩
  cases e : seen.getD k false with
  | false => rfl
  | true =>
    obtain ⟨j, q, d, hj, hq, d0, d1, hd⟩ := (h.at_ k).1 e
    obtain ⟨rfl, _⟩ := kid_inj hk hd c0 c1 d0 d1
    have a := pos_at hg.nd hp
    have b := pos_at hg.nd hq
    rw [a] at b
    cases b
    omega
theorem SeenAt.step {P : List Str} (hg : Good P) {i : Nat} {seen : List Bool} {m : Int} (h : SeenAt P i seen m) {p : Str} (hp : P[i]? = some p) {ys : List (Int × Nat)} (hy : ∀ y ∈ ys, 0 ≤ y.1 ∧ y.1 ≤ 255 ∧ kidF P p y.1 = some y.2) (he : ys.map (·.1) = kidsC (kidF P p)) :
    ∃ st, chks (kidF P p) (-1, seen, m) ys = some st ∧ SeenAt P (i + 1) st.2.1 st.2.2 := by
  have hfil : (kidsC (kidF P p)).filter (fun c => decide (-1 < c)) = kidsC (kidF P p) := List.filter_eq_self.2 fun c hc => decide_eq_true (by have := (kidsC_mem _ _).1 hc; omega)
  obtain ⟨st, h1, h2, h3, h4⟩ := chks_ok (f := kidF P p) (fun c d k hc hd c0 c1 d0 d1 => (kid_inj hc hd c0 c1 d0 d1).2) (fun c k hk => kid_pos hg hk) ys (-1) seen m (fun y hy' => (hy y hy').2.2) (by rw [hfil, he]; exact List.prefix_refl _) (fun c k c0 c1 _ hk => h.fresh hg hp c0 c1 hk)
  obtain ⟨_, _, _, h5⟩ := chks_inv (N := seen.length) ys h1 (fun y hy' => ⟨(hy y hy').1, (hy y hy').2.1⟩) ⟨by show (-1 : Int) ≤ -1; omega, by show (-1 : Int) ≤ 255; omega⟩ rfl
  refine ⟨st, h1, by rw [h4, h.len], fun k => ?_, by rw [h5, h3]; show m + _ = _; rw [h.many]; push_cast; rfl⟩
  rw [h2, Bool.or_eq_true, h.at_, List.any_eq_true]
  constructor
  · rintro (⟨j, q, c, hj, r⟩ | ⟨y, hy1, hy2⟩)
    · exact ⟨j, q, c, by omega, r⟩
    · have := hy y hy1
      rw [of_decide_eq_true hy2] at this
      exact ⟨i, p, y.1, by omega, hp, this⟩
  · rintro ⟨j, q, c, hj, hq, c0, c1, hc⟩
    by_cases e : j < i
    · exact .inl ⟨j, q, c, e, hq, c0, c1, hc⟩
    · obtain rfl : j = i := by omega
      rw [hp] at hq; cases hq
      have hm : c ∈ ys.map (·.1) := by rw [he]; exact (kidsC_mem _ _).2 ⟨c0, c1, by rw [hc]; rfl⟩
      obtain ⟨y, hy1, rfl⟩ := List.mem_map.1 hm
      have := (hy y hy1).2.2
      rw [hc] at this
      exact .inr ⟨y, hy1, decide_eq_true (Option.some.inj this).symm⟩
/-- A part of the children fails nowhere. -/
theorem SeenAt.part {P : List Str} (hg : Good P) {i : Nat} {seen : List Bool} {m : Int} (h : SeenAt P i seen m) {p : Str} (hp : P[i]? = some p) {ys : List (Int × Nat)} (hy : ∀ y ∈ ys, 0 ≤ y.1 ∧ y.1 ≤ 255 ∧ kidF P p y.1 = some y.2) (he : ys.map (·.1) <+: kidsC (kidF P p)) :
    ∃ st, chks (kidF P p) (-1, seen, m) ys = some st := by
  have hfil : (kidsC (kidF P p)).filter (fun c => decide (-1 < c)) = kidsC (kidF P p) := List.filter_eq_self.2 fun c hc => decide_eq_true (by have := (kidsC_mem _ _).1 hc; omega)
  obtain ⟨st, h1, _⟩ := chks_ok (f := kidF P p) (fun c d k hc hd c0 c1 d0 d1 => (kid_inj hc hd c0 c1 d0 d1).2) (fun c k hk => kid_pos hg hk) ys (-1) seen m (fun y hy' => (hy y hy').2.2) (by rw [hfil]; exact he) (fun c k c0 c1 _ hk => h.fresh hg hp c0 c1 hk)
  exact ⟨st, h1⟩
theorem count_all : ∀ (l : List Bool), (∀ k, k < l.length → l.getD k false = true) → l.count true = l.length
  | [], _ => rfl
  | b :: l, h => by
    have h0 := h 0 (by simp)
    simp at h0; subst h0
    have := count_all l (fun k hk => by have := h (k + 1) (by simpa using hk); simpa using this)
    simp [List.count_cons, this]
theorem SeenAt.done {P : List Str} (hg : Good P) {seen : List Bool} {m : Int} (h : SeenAt P P.length seen m) : m = (P.length : Int) - 1 := by
  have hP : 0 < P.length := (List.getElem?_eq_some_iff.1 hg.nil).1
  have h0 : seen.getD 0 false = false := by
    cases e : seen.getD 0 false with
    | false => rfl
    | true =>
      obtain ⟨j, q, c, _, _, _, _, hc⟩ := (h.at_ 0).1 e
      exact absurd rfl (kid_pos hg hc)
  have h1 : ∀ k, 0 < k → k < P.length → seen.getD k false = true := fun k k0 k1 => by
    obtain ⟨x, hx⟩ : ∃ x, P[k]? = some x := ⟨_, List.getElem?_eq_getElem k1⟩
    have hne : x ≠ [] := fun e => by
      rw [e] at hx
      have := pos_at hg.nd hx
      rw [pos_at hg.nd hg.nil] at this
      cases this; omega
    obtain ⟨p, u, rfl⟩ : ∃ p u, x = p ++ [u] := ⟨x.dropLast, x.getLast hne, (List.dropLast_concat_getLast hne).symm⟩
    have hp := hg.cl p u (List.mem_of_getElem? hx)
    obtain ⟨j, hj⟩ := List.mem_iff_getElem?.1 hp
    refine (h.at_ k).2 ⟨j, p, (u.toNat : Int), (List.getElem?_eq_some_iff.1 hj).1, hj, by omega, by have := u.toNat_lt; omega, ?_⟩
    unfold kidF byteOf
    rw [Int.toNat_natCast, show u.toNat.toUInt8 = u from by simp]
    exact pos_at hg.nd hx
  rw [h.many]
  cases hs : seen with
  | nil => have := h.len; rw [hs] at this; simp at this; omega
  | cons b l =>
    rw [hs] at h0
    simp at h0; subst h0
    have hl : l.length + 1 = P.length := by rw [← h.len, hs]; rfl
    have := count_all l (fun k hk => by have := h1 (k + 1) (by omega) (by omega); rw [hs] at this; simpa using this)
    simp [List.count_cons, this]
    omega
theorem nodes_len : ∀ (ws P : List Str) (m : Nat), (∀ w ∈ ws, w.length ≤ m) → (nodesFrom P ws).length ≤ P.length + ws.length * m
  | [], P, m, _ => by simp [nodesFrom]
  | w :: ws, P, m, h => by
    have a := nodes_len ws (addW P [] w) m (fun x hx => h x (by simp [hx]))
    have b := addW_len w P []
    have c := h w (by simp)
    show (nodesFrom (addW P [] w) ws).length ≤ _
    rw [List.length_cons, Nat.succ_mul]
    omega
end Go.Proofs.Ytgdipibmaaehcaa.Tr
