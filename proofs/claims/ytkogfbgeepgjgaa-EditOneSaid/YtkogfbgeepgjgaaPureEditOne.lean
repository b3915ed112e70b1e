/- EditOne's plain law: for any two texts, any two numbers and any byte the law's function answers true. Its conditions: none beyond the sizes that every row has. -/
import Derived.Test.YtkogfbgeepgjgaaPEditOnex2
import Derived.Test.YtkogfbgeepgjgaaV4
namespace Go.Proofs.Ytkogfbgeepgjgaa.Pure.One
open Go.RowKit Go.Proofs.Ytkogfbgeepgjgaa.PEditOne Go.Proofs.YtkogfbgeepgjgaaW.PrintWords Go.Proofs.YtkogfbgeepgjgaaW.PrintLast
theorem inj {a b : ByteArray} (h : bytesOf a = bytesOf b) : a = b := by
  refine Go.WideShapes.bytes_inj ?_
  unfold bytesOf at h
  refine List.map_inj_right (f := fun c : UInt8 => (c.toNat : Int)) (fun x y hxy => ?_) |>.1 h
  exact UInt8.toNat_inj.1 (Int.ofNat_inj.1 hxy)
theorem app (a b : ByteArray) : bytesOf (a ++ b) = bytesOf a ++ bytesOf b := by
  unfold bytesOf; simp
theorem ext (a : ByteArray) (i j : Nat) : bytesOf (a.extract i j) = ((bytesOf a).take j).drop i := by
  unfold bytesOf
  simp only [← List.map_take, ← List.map_drop]
  congr 1
  simp [List.drop_take]
theorem one (c : Int) : ∃ d, bytesOf (strOfNums [c]) = [d] := ⟨_, rfl⟩
theorem L_ins (p q : List Int) (c : Int) : V.L (p ++ q) (p ++ c :: q) ≤ 1 := by
  rw [V.L_append_same]
  have := V.L_cons_right_le c q q
  rw [(V.L_zero q q).2 rfl] at this
  exact this
theorem L_del (p q : List Int) (c : Int) : V.L (p ++ c :: q) (p ++ q) ≤ 1 := by rw [V.L_symm]; exact L_ins p q c
theorem L_sub (p q : List Int) (c d : Int) : V.L (p ++ c :: q) (p ++ d :: q) ≤ 1 := by
  rw [V.L_append_same]
  have := V.L_sub_le c d q q
  rw [(V.L_zero q q).2 rfl] at this
  exact this
theorem mid (s : ByteArray) (n : Nat) (h : n < s.size) : ∃ c, bytesOf s = (bytesOf s).take n ++ c :: (bytesOf s).drop (n + 1) := by
  have hl := bytesOf_length s
  refine ⟨(bytesOf s)[n]'(by omega), ?_⟩
  rw [← List.drop_eq_getElem_cons (by omega), List.take_append_drop]
theorem end_ (k : Nat) (s t x : ByteArray) (hs : s.size ≤ 24) (ht : t.size ≤ 100) (y : ByteArray) (h : dL s t ≤ 1) : drachmlaw16_EditOne.j0 (k + 2) true s t y x = some true := by
  obtain ⟨z, ez, hz⟩ := short_eq x
  have hd : ∀ n : Int, n = (dL s t : Int) → drachmlaw16_EditOne.j1 (k + 1) true s t n y x = some true := by
    intro n hn
    have e1 : dL (z ++ s) (z ++ t) = dL s t := by unfold dL; rw [app, app, V.L_append_same]
    have e2 : dL (s ++ z) (t ++ z) = dL s t := by unfold dL; rw [app, app, V.L_same_append]
    rw [drachmlaw16_EditOne.j1, ez, Option.bind_some, if_pos rfl, edit_Distance_f s t (by omega) (by omega), Option.bind_some, if_pos hn.symm, if_pos (by omega), if_pos (by omega),
      edit_Distance_f _ _ (by rw [ByteArray.size_append]; omega) (by rw [ByteArray.size_append]; omega), Option.bind_some, e1, if_pos hn.symm, if_pos (by omega), if_pos (by omega),
      edit_Distance_f _ _ (by rw [ByteArray.size_append]; omega) (by rw [ByteArray.size_append]; omega), Option.bind_some, e2, hn]
    simp
  rw [drachmlaw16_EditOne.j0]
  have hz0 : dL s t = 0 ↔ bytesOf s = bytesOf t := V.L_zero _ _
  by_cases e : s.toList = t.toList
  · rw [if_pos e]
    refine hd _ ?_
    have : bytesOf s = bytesOf t := by unfold bytesOf; rw [← Go.ByteArray.toList_eq, ← Go.ByteArray.toList_eq, e]
    rw [hz0.2 this]; rfl
  · rw [if_neg e]
    refine hd _ ?_
    have : dL s t ≠ 0 := fun h0 => e (by rw [inj (hz0.1 h0)])
    omega
theorem place (n : Int) (m : Nat) (hm : m ≤ 24) : ∃ j : Nat, j ≤ m ∧ Int.tmod (wrap64 ((wrap64 ((Int.tmod n (wrap64 ((m : Int) + 1))) + (m : Int))) + 1)) (wrap64 ((m : Int) + 1)) = (j : Int) := by
  rw [w64 (x := (m : Int) + 1) (by omega) (by omega)]
  have h1 : -(m : Int) ≤ Int.tmod n ((m : Int) + 1) ∧ Int.tmod n ((m : Int) + 1) ≤ m := by
    have a := Int.tmod_lt_of_pos n (b := (m : Int) + 1) (by omega)
    have b := Int.lt_tmod_of_pos n (b := (m : Int) + 1) (by omega)
    omega
  generalize Int.tmod n ((m : Int) + 1) = q at h1
  rw [w64 (x := q + m) (by omega) (by omega), w64 (x := q + m + 1) (by omega) (by omega)]
  have h2 := Int.tmod_lt_of_pos (q + m + 1) (b := (m : Int) + 1) (by omega)
  have h3 := Int.tmod_nonneg ((m : Int) + 1) (a := q + m + 1) (by omega)
  exact ⟨(Int.tmod (q + m + 1) ((m : Int) + 1)).toNat, by omega, by omega⟩
theorem EditOne : drachmlaw16_EditOne.Pure := by
  intro a0 a1 n0 n1 c _ _ _ _ _
  obtain ⟨s, es, hs⟩ := short_eq a0
  obtain ⟨j, hj, ej⟩ := place n0 s.size hs
  refine ⟨2, ?_⟩
  unfold drachmlaw16_EditOne.f drachmlaw16_awake.f
  rw [awake_true, Option.bind_some, es, Option.bind_some, ej, if_neg (by rw [w64 (x := (s.size : Int) + 1) (by omega) (by omega)]; omega)]
  have hw : wrap64 ((j : Int) + 1) = ((j + 1 : Nat) : Int) := by rw [w64 (x := (j : Int) + 1) (by omega) (by omega)]; omega
  rw [hw]
  have self : dL s s ≤ 1 := by
    have : dL s s = 0 := (V.L_zero _ _).2 rfl
    omega
  obtain ⟨d, hd⟩ := one c
  have hsz : (strOfNums [c]).size = 1 := by rw [← bytesOf_length, hd]; rfl
  have tn : ∀ i : Nat, ((i : Int)).toNat = i := fun i => rfl
  rw [tn, tn, Option.bind_some, Option.bind_some]
  have lp : (s.extract 0 j).size = j := by rw [ByteArray.size_extract]; omega
  have lq : (s.extract (j + 1) s.size).size = s.size - (j + 1) := by rw [ByteArray.size_extract]; omega
  have lr : (s.extract j s.size).size = s.size - j := by rw [ByteArray.size_extract]; omega
  have lall : (bytesOf s).length = s.size := bytesOf_length s
  have bp : bytesOf (s.extract 0 j) = (bytesOf s).take j := by rw [ext s 0 j]; rfl
  have bq : bytesOf (s.extract (j + 1) s.size) = (bytesOf s).drop (j + 1) := by rw [ext s (j + 1) s.size, List.take_of_length_le (by omega)]
  have br : bytesOf (s.extract j s.size) = (bytesOf s).drop j := by rw [ext s j s.size, List.take_of_length_le (by omega)]
  by_cases m0 : Int.tmod (wrap64 ((Int.tmod n1 3) + 3)) 3 = 0
  · rw [if_pos m0]
    by_cases l : (j : Int) < (s.size : Int)
    · rw [if_pos l, if_pos (by omega), if_pos (by omega), if_pos (by omega), if_pos (by omega), if_pos (by omega)]
      refine end_ 0 s _ a1 hs (by rw [ByteArray.size_append]; omega) a0 ?_
      obtain ⟨x, hx⟩ := mid s j (by omega)
      unfold dL
      rw [app, bp, bq]
      generalize (bytesOf s).take j = p at *
      generalize (bytesOf s).drop (j + 1) = q at *
      rw [hx]
      exact L_del p q x
    · rw [if_neg l]
      exact end_ 0 s s a1 hs (by omega) a0 self
  · rw [if_neg m0]
    by_cases m1 : Int.tmod (wrap64 ((Int.tmod n1 3) + 3)) 3 = 1
    · rw [if_pos m1, if_pos (by omega), if_pos (by omega), if_pos (by omega), if_pos (by rw [ByteArray.size_append]; omega)]
      refine end_ 0 s _ a1 hs (by rw [ByteArray.size_append, ByteArray.size_append]; omega) a0 ?_
      unfold dL
      rw [app, app, bp, br, hd]
      have hx := (List.take_append_drop j (bytesOf s)).symm
      generalize (bytesOf s).take j = p at *
      generalize (bytesOf s).drop j = q at *
      rw [hx, List.append_assoc]
      exact L_ins p q d
    · rw [if_neg m1]
      by_cases l : (j : Int) < (s.size : Int)
      · rw [if_pos l, if_pos (by omega), if_pos (by omega), if_pos (by omega), if_pos (by omega), if_pos (by omega), if_pos (by rw [ByteArray.size_append]; omega)]
        refine end_ 0 s _ a1 hs (by rw [ByteArray.size_append, ByteArray.size_append]; omega) a0 ?_
        obtain ⟨x, hx⟩ := mid s j (by omega)
        unfold dL
        rw [app, app, bp, bq, hd]
        generalize (bytesOf s).take j = p at *
        generalize (bytesOf s).drop (j + 1) = q at *
        rw [hx, List.append_assoc]
        exact L_sub p q x d
      · rw [if_neg l]
        exact end_ 0 s s a1 hs (by omega) a0 self
end Go.Proofs.Ytkogfbgeepgjgaa.Pure.One
namespace Go.Proofs.Ytkogfbgeepgjgaa.Pure
theorem EditOne : PEditOne.drachmlaw16_EditOne.Pure := One.EditOne
end Go.Proofs.Ytkogfbgeepgjgaa.Pure
