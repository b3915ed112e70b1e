/- A value of a type that holds only numbers, bools and texts (structs and arrays of these, nested): what its cells are, out of its reading. Conditions: the type's own rows are laid without gaps (a closed fact: 'leafs'). -/
import Derived.OpenShut
import Derived.ChangeSame
import Derived.ProofKit
import Derived.Below
import Derived.LaidLaws
namespace Go.Proofs.YtimkhjbnkcgekaaDoor.Flat
open Go Go.RowKit
set_option linter.unusedVariables false

inductive LK where
  | i (k : IntKind)
  | b
  | s
def LK.ok : LK → Value → Prop
  | .i k, v => ∃ n, v = .int k n ∧ (Lit.int k n).wf = true
  | .b, v => ∃ x, v = .bool x
  | .s, v => ∃ s : ByteArray, v = .string s ∧ s.size ≤ maxLen
def allOk : List LK → List Value → Prop
  | [], [] => True
  | k :: ks, v :: vs => k.ok v ∧ allOk ks vs
  | _, _ => False
def pieces (g : TypeId → Option (List LK)) (c : TypeId → Nat) (tot : Nat) : Nat → List (Nat × TypeId) → Option (List LK)
  | a, [] => if a = tot then some [] else none
  | a, (o, u) :: r => if o = a then (g u).bind fun l => if l.length = c u then (pieces g c tot (a + l.length) r).map (l ++ ·) else none else none
def leafs (P : Program) : Nat → TypeId → Option (List LK)
  | 0, _ => none
  | f + 1, t => match P.underlying t with
    | some .bool => some [.b]
    | some (.int k) => some [.i k]
    | some .string => some [.s]
    | some (.struct fs) => pieces (leafs P f) P.cellsOf (P.cellsOf t) 0 (fs.toList.map fun x => (x.offset, x.type))
    | some (.array n e) => pieces (leafs P f) P.cellsOf (P.cellsOf t) 0 ((List.range n).map fun i => (i * P.cellsOf e, e))
    | _ => none
mutual
def vals {H : Type} : DataW H → List Value
  | .lit (.bool b) => [.bool b]
  | .lit (.int k n) => [.int k n]
  | .lit (.string l) => [.string ⟨l.toArray⟩]
  | .agg ds => valsAll ds
  | _ => []
def valsAll {H : Type} : List (DataW H) → List Value
  | [] => []
  | d :: r => vals d ++ valsAll r
end
theorem allOk_length : ∀ {ks : List LK} {cs : List Value}, allOk ks cs → cs.length = ks.length
  | [], [], _ => rfl
  | _ :: ks, _ :: cs, h => by simp [allOk_length h.2]
  | [], _ :: _, h => h.elim
  | _ :: _, [], h => h.elim
theorem allOk_append : ∀ {ks ks' : List LK} {cs cs' : List Value}, allOk ks cs → allOk ks' cs' → allOk (ks ++ ks') (cs ++ cs')
  | [], _, [], _, _, h' => h'
  | _ :: ks, _, _ :: cs, _, h, h' => ⟨h.1, allOk_append h.2 h'⟩
  | [], _, _ :: _, _, h, _ => h.elim
  | _ :: _, _, [], _, h, _ => h.elim
theorem allOk_nil {cs : List Value} (h : allOk [] cs) : cs = [] := by cases cs with | nil => rfl | cons _ _ => exact h.elim
theorem allOk_i {k : IntKind} {ks : List LK} {cs : List Value} (h : allOk (.i k :: ks) cs) : ∃ n r, cs = .int k n :: r ∧ (Lit.int k n).wf = true ∧ allOk ks r := by
  cases cs with
  | nil => exact h.elim
  | cons v r => obtain ⟨⟨n, rfl, hn⟩, hr⟩ := h; exact ⟨n, r, rfl, hn, hr⟩
theorem allOk_b {ks : List LK} {cs : List Value} (h : allOk (.b :: ks) cs) : ∃ n r, cs = .bool n :: r ∧ allOk ks r := by
  cases cs with
  | nil => exact h.elim
  | cons v r => obtain ⟨⟨n, rfl⟩, hr⟩ := h; exact ⟨n, r, rfl, hr⟩
theorem allOk_s {ks : List LK} {cs : List Value} (h : allOk (.s :: ks) cs) : ∃ (n : ByteArray) (r : List Value), cs = .string n :: r ∧ n.size ≤ maxLen ∧ allOk ks r := by
  cases cs with
  | nil => exact h.elim
  | cons v r => obtain ⟨⟨n, rfl, hn⟩, hr⟩ := h; exact ⟨n, r, rfl, hn, hr⟩
variable {H : Type} {enc : TypeId × Value → H} {P : Program} {w : World} {base : Nat} {sp : Nat → Bool} {held : Bool}
theorem parts {g : TypeId → Option (List LK)} {tot n : Nat} {cs : List Value} (IH : ∀ t ks cs d p, g t = some ks → DataW.trod enc P w base sp held n t cs = some (d, p) → allOk ks cs ∧ p = [] ∧ cs = vals d) (hc : cs.length = tot) :
    ∀ (ps : List (Nat × TypeId)) (a : Nat) (xs : List (DataW H × List MemPlace)) (ks : List LK), pieces g P.cellsOf tot a ps = some ks → xs.length = ps.length →
      (∀ (i o : Nat) (u : TypeId), ps[i]? = some (o, u) → DataW.trod enc P w base sp held n u ((cs.drop o).take (P.cellsOf u)) = xs[i]?) →
      allOk ks (cs.drop a) ∧ xs.flatMap (·.2) = [] ∧ cs.drop a = valsAll (xs.map (·.1))
  | [], a, xs, ks, h, hl, hx => by
    have hxs : xs = [] := List.length_eq_zero_iff.mp (by simpa using hl)
    subst hxs
    unfold pieces at h
    split at h
    · rename_i ha
      cases h
      have : cs.drop a = [] := List.drop_eq_nil_of_le (by omega)
      rw [this]
      exact ⟨trivial, rfl, by simp [valsAll]⟩
    · cases h
  | (o, u) :: r, a, xs, ks, h, hl, hx => by
    cases xs with
    | nil => simp at hl
    | cons x xs =>
      unfold pieces at h
      split at h
      · rename_i ho
        subst ho
        rw [Option.bind_eq_some_iff] at h
        obtain ⟨l, hg, h⟩ := h
        split at h
        · rename_i hlen
          rw [Option.map_eq_some_iff] at h
          obtain ⟨ks', h', rfl⟩ := h
          have h0 := hx 0 o u rfl
          obtain ⟨h1, h2, h3⟩ := IH u l _ x.1 x.2 hg h0
          have hl' := allOk_length h1
          obtain ⟨r1, r2, r3⟩ := parts IH hc r (o + l.length) xs ks' h' (by simpa using hl) (fun i o' u' hi => by simpa using hx (i + 1) o' u' (by simpa using hi))
          have hsplit : cs.drop o = (cs.drop o).take (P.cellsOf u) ++ cs.drop (o + l.length) := by
            rw [hlen, ← List.drop_drop, List.take_append_drop]
          refine ⟨?_, ?_, ?_⟩
          · rw [hsplit]; exact allOk_append h1 r1
          · rw [List.flatMap_cons, h2, r2]; rfl
          · rw [List.map_cons, valsAll, ← h3, ← r3]; exact hsplit
        · cases h
      · cases h
theorem flat : ∀ (f : Nat) (t : TypeId) (ks : List LK) (fuel : Nat) (cs : List Value) (d : DataW H) (p : List MemPlace), leafs P f t = some ks → DataW.trod enc P w base sp held fuel t cs = some (d, p) → allOk ks cs ∧ p = [] ∧ cs = vals d
  | 0, _, _, _, _, _, _, h, _ => by cases h
  | f + 1, t, ks, fuel, cs, d, p, h, ht => by
    unfold leafs at h
    split at h
    · rename_i hu
      cases h
      obtain ⟨b, rfl, hx⟩ := DataW.trod_bool hu ht
      cases hx
      exact ⟨⟨⟨b, rfl⟩, trivial⟩, rfl, rfl⟩
    · rename_i k hu
      cases h
      obtain ⟨n, rfl, hx, hw⟩ := DataW.trod_int hu ht
      cases hx
      exact ⟨⟨⟨n, rfl, hw⟩, trivial⟩, rfl, rfl⟩
    · rename_i hu
      cases h
      obtain ⟨s, rfl, hx, hw⟩ := DataW.trod_string hu ht
      cases hx
      refine ⟨⟨⟨s, rfl, hw⟩, trivial⟩, rfl, ?_⟩
      cases s; simp [vals]
    · rename_i fs hu
      obtain ⟨xs, n, rfl, hx, hl, hlen, hf⟩ := DataW.trod_struct hu ht
      cases hx
      have := parts (fun t ks cs d p => flat f t ks n cs d p) hl _ 0 xs ks h (by simpa using hlen) (fun i o u hi => by
        simp only [List.getElem?_map, Option.map_eq_some_iff, Array.getElem?_toList] at hi
        obtain ⟨x, hx, he⟩ := hi
        cases he
        exact hf i x hx)
      simpa [vals] using this
    · rename_i n e hu
      obtain ⟨xs, m, rfl, hx, hl, hlen, hf⟩ := DataW.trod_array hu ht
      cases hx
      have := parts (fun t ks cs d p => flat f t ks m cs d p) hl _ 0 xs ks h (by simpa using hlen) (fun i o u hi => by
        simp only [List.getElem?_map, Option.map_eq_some_iff] at hi
        obtain ⟨x, hx, he⟩ := hi
        cases he
        obtain ⟨hlt, rfl⟩ := List.getElem?_eq_some_iff.mp hx
        have hi' : i < n := by simpa using hlt
        simpa using hf i hi')
      simpa [vals] using this
    · cases h
/-- An argument of a flat struct's or array's type, opened. -/
theorem open_flat {f : Nat} {t : TypeId} {ks : List LK} {v : Value} {d : DataW H} {p : List MemPlace} (hk : leafs P f t = some ks) (hv : ∃ cs, v = .agg cs ∧ cs.size = P.cellsOf t) (h : DataW.Trod enc P w base sp held t v d p) :
    ∃ cs, v = .agg cs ∧ allOk ks cs.toList ∧ p = [] := by
  obtain ⟨cs, rfl, _⟩ := hv
  obtain ⟨fuel, hf⟩ := h
  obtain ⟨h1, h2, _⟩ := flat f t ks fuel _ d p hk hf
  exact ⟨cs, rfl, h1, h2⟩
theorem agg_struct {r : Reach} {b0 : Nat} {t : TypeId} {fs : Array Field} {v : Value} (ht : P.underlying t = some (.struct fs)) (h : Value.okWide P w r b0 t v) : ∃ cs, v = .agg cs ∧ cs.size = P.cellsOf t := by
  simp only [Value.okWide, ht] at h
  obtain ⟨cs, h1, h2, _⟩ := h
  exact ⟨cs, h1, h2⟩
theorem agg_array {r : Reach} {b0 : Nat} {t n : Nat} {e : TypeId} {v : Value} (ht : P.underlying t = some (.array n e)) (h : Value.okWide P w r b0 t v) : ∃ cs, v = .agg cs ∧ cs.size = P.cellsOf t := by
  simp only [Value.okWide, ht] at h
  obtain ⟨cs, h1, h2, _⟩ := h
  exact ⟨cs, h1, h2⟩
/-! ### variables that the row lists -/
/-- A variable's block, as it was laid. -/
def FlatVar (g : Nat) (cs : List Value) (w : World) : Prop := ∃ t, w.heap[g]? = some (.cells cs.toArray t (0, 0))
theorem FlatVar.below {g : Nat} {cs : List Value} {w w' : World} (h : FlatVar g cs w) (hb : Below w.heap.size w w') : FlatVar g cs w' := by
  obtain ⟨t, h⟩ := h
  have hg : g < w.heap.size := by
    rcases Nat.lt_or_ge g w.heap.size with h1 | h1
    · exact h1
    · rw [Array.getElem?_eq_none h1] at h; cases h
  exact ⟨t, (hb.block g hg).trans h⟩
theorem laidVars_mem {n : String} {d : DataW Unit} : ∀ {l : List (String × DataW Unit)} {ps : List MemPlace}, DataW.LaidVars P w l ps → (n, d) ∈ l →
    ∃ g t cs fuel p, P.globalNamed n = some g ∧ (P.globals[g]?).map (·.type) = some t ∧ w.var? P n = some cs ∧ DataW.trod (fun _ => ()) P w 0 (fun _ => true) false fuel t cs.toList = some (d, p) ∧ ∀ x ∈ MemPlace.row ⟨g, 0, none⟩ cs.size, x ∈ ps
  | [], _, _, hm => by cases hm
  | (n', d') :: r, ps, h, hm => by
    obtain ⟨g, t, cs, fuel, p, q, h1, h2, h3, h4, h5, rfl⟩ := h
    rcases List.mem_cons.1 hm with e | hm
    · cases e
      exact ⟨g, t, cs, fuel, p, h1, h2, h3, h4, fun x hx => by simp [hx]⟩
    · obtain ⟨g, t, cs, fuel, p, h1, h2, h3, h4, h6⟩ := laidVars_mem h5 hm
      exact ⟨g, t, cs, fuel, p, h1, h2, h3, h4, fun x hx => by simp [h6 x hx]⟩
theorem FlatVar.of_laid {l : List (String × DataW Unit)} {n : String} {d : DataW Unit} {g : Nat} {t : TypeId} {v : Value} {vs : List Value} (f : Nat) (hm : laidMet P l w) (hd : (n, d) ∈ l) (hg : P.globalNamed n = some g)
    (ht : (P.globals[g]?).map (·.type) = some t) (hk' : (leafs P f t).isSome = true) (hv : vals d = v :: vs) : FlatVar g (v :: vs) w := by
  obtain ⟨ks, hk⟩ := Option.isSome_iff_exists.1 hk'
  obtain ⟨ps, hl, _, hcell⟩ := hm
  obtain ⟨g', t', cs, fuel, p, h1, h2, h3, h4, h5⟩ := laidVars_mem hl hd
  obtain rfl : g = g' := Option.some.inj (hg.symm.trans h1)
  obtain rfl : t = t' := Option.some.inj (ht.symm.trans h2)
  obtain ⟨_, _, hcs⟩ := flat f t ks fuel _ d p hk h4
  rw [hv] at hcs
  have hsz : 0 < cs.size := by rw [← Array.length_toList, hcs]; simp
  obtain ⟨⟨c, ty, hb⟩, _⟩ := hcell g 0 (h5 _ (by unfold MemPlace.row; exact List.mem_map.2 ⟨0, List.mem_range.2 hsz, rfl⟩))
  unfold World.var? at h3
  rw [hg, Option.bind_some, hb] at h3
  obtain rfl := Option.some.inj h3
  refine ⟨ty, ?_⟩
  rw [hb, ← hcs]
/-- A listed variable that holds an error of the library's. -/
def IVar (g : Nat) (w : World) : Prop := ∃ te pe t, w.heap[g]? = some (.cells #[.iface te pe] t (0, 0))
theorem IVar.below {g : Nat} {w w' : World} (h : IVar g w) (hb : Below w.heap.size w w') : IVar g w' := by
  obtain ⟨te, pe, t, h⟩ := h
  exact ⟨te, pe, t, (hb.block g (Array.getElem?_eq_some_iff.1 h).1).trans h⟩
theorem IVar.of_laid {l : List (String × DataW Unit)} {n nm : String} {d : DataW Unit} {g : Nat} {ti : TypeId} {ms : Array (String × TypeId)} (hm : laidMet P l w) (hd : (n, .iface nm d) ∈ l) (hg : P.globalNamed n = some g)
    (ht : (P.globals[g]?).map (·.type) = some ti) (hi : P.underlying ti = some (.interface ms)) : IVar g w := by
  obtain ⟨ps, hl, _, hcell⟩ := hm
  obtain ⟨g', t', cs, fuel, p, h1, h2, h3, h4, h5⟩ := laidVars_mem hl hd
  obtain rfl : g = g' := Option.some.inj (hg.symm.trans h1)
  obtain rfl : ti = t' := Option.some.inj (ht.symm.trans h2)
  obtain ⟨f1, u, v, hcs, _, _⟩ := iface_of_trod hi h4
  have hsz : 0 < cs.size := by rw [← Array.length_toList, hcs]; simp
  obtain ⟨⟨c, ty, hb⟩, _⟩ := hcell g 0 (h5 _ (by unfold MemPlace.row; exact List.mem_map.2 ⟨0, List.mem_range.2 hsz, rfl⟩))
  unfold World.var? at h3
  rw [hg, Option.bind_some, hb] at h3
  obtain rfl := Option.some.inj h3
  refine ⟨u, v, ty, ?_⟩
  rw [hb, ← hcs]
theorem IVar.read {g : Nat} (h : IVar g w) : ∃ ev, w.cell? ⟨g, 0, none⟩ = some ev ∧ (ev = .nilIface ∨ ∃ te pe, ev = .iface te pe) := by
  obtain ⟨te, pe, t, h⟩ := h
  exact ⟨.iface te pe, by simp [World.cell?, h], Or.inr ⟨te, pe, rfl⟩⟩
end Go.Proofs.YtimkhjbnkcgekaaDoor.Flat
