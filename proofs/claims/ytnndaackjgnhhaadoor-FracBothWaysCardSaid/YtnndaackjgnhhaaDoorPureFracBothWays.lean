/- FracBothWays' plain law: for any number's form, any text and any byte put elsewhere the law's function answers true. Its conditions: none beyond the sizes that every row has. -/
import Derived.Test.YtnndaackjgnhhaaDoorPFracBothWaysx2
import Derived.Test.YtnndaackjgnhhaaDoorV1
import Derived.Test.YtnndaackjgnhhaaDoorTx5
namespace Go.Proofs.YtnndaackjgnhhaaDoor.Pure
open Go.RowKit Go.Proofs.YtnndaackjgnhhaaDoor.PFracBothWays Go.Proofs.YtnndaackjgnhhaaDoor.Tx Go.Proofs.YtnndaackjgnhhaaDoor.Fr Go.Proofs.YtnndaackjgnhhaaDoor.Wh Go.Proofs.YtnndaackjgnhhaaDoor.PB Go.Proofs.YtnndaackjgnhhaaDoor.PC Go.Proofs.YtnndaackjgnhhaaDoor.PD Go.Proofs.YtnndaackjgnhhaaDoor.PE Go.Proofs.YtnndaackjgnhhaaDoor.PT Go.Proofs.YtnndaackjgnhhaaDoorW.PrintWords Go.Proofs.YtnndaackjgnhhaaDoorW.PrintLast
set_option linter.unusedSimpArgs false
/-- What is read, told again, is the text. -/
def again (l : List UInt8) (r : Q4) : Nat → Option Bool := fun k => if r.2.2.2 = 0 then ((frac_Text.f k r.1 r.2.1 r.2.2.1).bind fun t124 => (some (t124.toList == (B l).toList))) else (some true)
theorem again_ev {l : List UInt8} {r : Q4} (g : Tx.Good l r) : Ev (again l r) true := by
  obtain ⟨r1, r2, r3, r4⟩ := r
  rcases g with h | ⟨h0, i1, i2, h1, h2⟩
  · cases h
    exact Ev.congr (f := fun _ => some true) (fun k => by unfold again; rw [if_neg (by simp)]) (Ev.now _)
  · simp only at h0 i1 i2 h1 h2
    subst h0
    refine Ev.congr (f := fun k => (frac_Text.f k r1 r2 r3).bind fun t124 => (some (t124.toList == (B l).toList))) (fun k => by unfold again; rw [if_pos rfl]) ((FText_ev i1 i2).bind (Ev.congr (f := fun _ => some true) (fun k => ?_) (Ev.now _)))
    rw [B_list, B_list]
    unfold text
    rw [if_pos h1, h2]
    simp
theorem j1_ev2 (lo l1 : List UInt8) (ho : lo.length ≤ 1000) (h1 : l1.length ≤ 1000) : Ev (fun k => drachmlaw02_both.j1 k (B l1) true (B lo)) true := by
  obtain ⟨⟨a1, a2, a3, a4⟩, ea, ga⟩ := FRead_ev lo ho
  obtain ⟨⟨b1, b2, b3, b4⟩, eb, gb⟩ := FRead_ev l1 h1
  have fin := again_ev gb
  refine Ev.step (f := fun k => (frac_Read.f k (B lo)).bind fun bt112 => ((frac_Read.f k (B l1)).bind fun bt117 => (if bt112.2.2.2 = 0 then ((frac_Text.f k bt112.1 bt112.2.1 bt112.2.2.1).bind fun t122 => (if t122.toList = (B lo).toList then ((frac_Right.f k bt112.1 bt112.2.1 bt112.2.2.1).bind fun t123 => (if t123 = true then again l1 bt117 k else (none))) else (none))) else again l1 bt117 k))) (fun k => ?_) (ea.bind (eb.bind ?_))
  · simp only [drachmlaw02_both.j1, if_true]
    rfl
  · simp only
    rcases ga with h | ⟨h0, i1, i2, h3, h2⟩
    · cases h
      exact Ev.congr (f := again l1 (b1, b2, b3, b4)) (fun k => by rw [if_neg (by simp)]) fin
    · simp only at h0 i1 i2 h3 h2
      subst h0
      refine Ev.congr (f := fun k => (frac_Text.f k a1 a2 a3).bind fun t122 => (if t122.toList = (B lo).toList then ((frac_Right.f k a1 a2 a3).bind fun t123 => (if t123 = true then again l1 (b1, b2, b3, b4) k else (none))) else (none))) (fun k => by rw [if_pos rfl]) ((FText_ev i1 i2).bind (Ev.congr (f := fun k => (frac_Right.f k a1 a2 a3).bind fun t123 => (if t123 = true then again l1 (b1, b2, b3, b4) k else (none))) (fun k => ?_) ((Right_ev i1 i2).bind (Ev.congr (f := again l1 (b1, b2, b3, b4)) (fun k => ?_) fin))))
      · rw [B_list, B_list]
        unfold text
        rw [if_pos h3, h2, if_pos rfl]
      · rw [h3, if_pos rfl]
theorem one_B (x : Int) : ∃ c, strOfNums [x] = B [c] := ⟨_, rfl⟩
theorem j0_ev2 (l tl : List UInt8) (x2 x3 : Int) (hl : l.length ≤ 140737488351232) (h1 : 1 ≤ tl.length) (h2 : tl.length ≤ 65) : Ev (fun k => drachmlaw02_both.j0 k (B l) x2 x3 true (B tl) false) true := by
  obtain ⟨i, hi⟩ : ∃ i, Int.tmod (wrap64 ((Int.tmod x2 (tl.length : Int)) + (tl.length : Int))) (tl.length : Int) = i := ⟨_, rfl⟩
  have hb : 0 ≤ i ∧ i < (tl.length : Int) := by
    have p1 := Int.tmod_lt_of_pos x2 (b := (tl.length : Int)) (by omega)
    have p2 := Int.lt_tmod_of_pos x2 (b := (tl.length : Int)) (by omega)
    rw [← hi, w64 (by omega) (by omega), Int.tmod_eq_emod_of_nonneg (by omega)]
    exact ⟨Int.emod_nonneg _ (by omega), Int.emod_lt_of_pos _ (by omega)⟩
  obtain ⟨c, hc⟩ := one_B x3
  obtain ⟨u, rfl⟩ : ∃ u : Nat, i = (u : Int) := ⟨i.toNat, by omega⟩
  obtain ⟨l1, e1, hl1⟩ : ∃ l1 : List UInt8, (if (l.length : Int) > 60 then (B l).extract 0 60 else B l) = B l1 ∧ l1.length ≤ 1000 := by
    by_cases h : (l.length : Int) > 60
    · exact ⟨_, by rw [if_pos h, B_ext], by simp; omega⟩
    · exact ⟨l, by rw [if_neg h], by omega⟩
  obtain ⟨K, hK⟩ := j1_ev2 (((tl.take u) ++ [c]) ++ tl.drop (u + 1)) l1 (by simp; omega) hl1
  refine ⟨K + 1, fun k hk => ?_⟩
  obtain ⟨k, rfl⟩ : ∃ m, k = m + 1 := ⟨k - 1, by omega⟩
  have hk := hK k (by omega)
  have ez : (B tl).extract 0 u = B (tl.take u) := by rw [B_ext]; simp
  have ey : (B tl).extract (u + 1) tl.length = B (tl.drop (u + 1)) := by rw [B_ext, List.take_of_length_le (by simp)]
  have e5 : ((u : Int) + 1).toNat = u + 1 := by omega
  show drachmlaw02_both.j0 (k + 1) (B l) x2 x3 true (B tl) false = some true
  simp only [drachmlaw02_both.j0, bs_, hc, B_size, hi, Bool.false_eq_true, if_false]
  rw [if_neg (by omega), if_pos (by omega), if_pos (by omega), Int.toNat_natCast, ez, w64 (by omega) (by omega), e5, ey]
  simp only [B_app, B_size, List.length_append, List.length_take, List.length_drop, List.length_singleton]
  rw [if_pos (by omega), if_pos (by omega), if_pos (by omega), if_pos (by omega)]
  by_cases h : (l.length : Int) > 60
  · rw [if_pos h] at e1
    rw [if_pos h, if_pos (by omega), if_pos (by omega), e1]
    exact hk
  · rw [if_neg h] at e1
    rw [if_neg h, e1]
    exact hk
theorem FracBothWays : drachmlaw02_FracBothWays.Pure := by
  intro a b c s x y h1 h2 h3 hs h4 h5
  have i1 := i64_of h1
  have i2 := i64_of h2
  obtain ⟨n, d, t, e1, rd, j1, j2, _, _⟩ := Spec_ev (c := c) i1 i2
  have hl := txt_len rd j2
  have h0 := List.length_pos_iff.2 (txt_ne n d t)
  have tx : text n d t = txt n d t := by unfold text; rw [if_pos rd]
  have e2 := FText_ev (t := t) j1 j2
  rw [tx] at e2
  have e3 := FRead_txt rd j1 j2
  have e4 := j0_ev2 s.data.toList (txt n d t) x (y % 256) (by rw [← B_size, ← B_of]; exact hs) (by omega) hl
  rw [← B_of] at e4
  obtain ⟨K0, a0⟩ := awake_ev
  obtain ⟨K1, a1⟩ := e1
  obtain ⟨K2, a2⟩ := e2
  obtain ⟨K3, a3⟩ := e3
  obtain ⟨K4, a4⟩ := e4
  refine ⟨K0 + K1 + K2 + K3 + K4, ?_⟩
  generalize hK : K0 + K1 + K2 + K3 + K4 = K
  have a0 := a0 K (by omega)
  have a1 := a1 K (by omega)
  have a2 := a2 K (by omega)
  have a3 := a3 K (by omega)
  have a4 := a4 K (by omega)
  simp only at a0 a1 a2 a3 a4
  unfold drachmlaw02_FracBothWays.f drachmlaw02_both.f
  rw [a1, bs_, a0, bs_, a2, bs_, a3, bs_, if_pos rfl, if_neg (by simp), show (((B (txt n d t)).size : Int) == 0) = false from by rw [B_size, beq_eq_false_iff_ne]; omega, a4]
  rfl
end Go.Proofs.YtnndaackjgnhhaaDoor.Pure
