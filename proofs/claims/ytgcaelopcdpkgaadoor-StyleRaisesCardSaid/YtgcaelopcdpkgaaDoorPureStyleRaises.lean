/- StyleRaises' plain law: for any number and any text the law's function answers true. Its conditions: none beyond the sizes that every row has. -/
import Derived.Test.YtgcaelopcdpkgaaDoorPStyleRaisesx1
import Derived.Test.YtgcaelopcdpkgaaDoorV2
namespace Go.Proofs.YtgcaelopcdpkgaaDoor.Pure
open Go.RowKit Go.Proofs.YtgcaelopcdpkgaaDoor.PStyleRaises Go.Proofs.YtgcaelopcdpkgaaDoorW.PrintWords Go.Proofs.YtgcaelopcdpkgaaDoorW.PrintLast
theorem ups_ok (fold : Bool) (s : ByteArray) : bytesOf (strOfNums ((bytesOf s).map (up fold))) = (bytesOf s).map (up fold) := by
  refine bytes_of_nums _ fun c hc => ?_
  obtain ⟨b, hb, rfl⟩ := List.mem_map.1 hc
  have := bytes_bounds s b hb
  exact up_bounds fold b this.1 this.2
theorem raise_f (n : Int) (s : ByteArray) (h : s.size ≤ 1000) {x} (hx : style_Of.f n = some x) : style_Raise.f n s = some (strOfNums ((bytesOf s).map (up x.1))) := by
  unfold style_Raise.f
  rw [if_pos (by omega), hx]
  rfl
theorem ups_size (fold : Bool) (s : ByteArray) : (strOfNums ((bytesOf s).map (up fold))).size = s.size := by
  rw [← bytesOf_length, ups_ok, List.length_map, bytesOf_length]
theorem ups_false (s : ByteArray) : strOfNums ((bytesOf s).map (up false)) = s := by
  refine inj ?_
  rw [ups_ok]
  exact (List.map_congr_left (fun c _ => up_false c)).trans (List.map_id _)
theorem bt_up (fold : Bool) (s : ByteArray) (i : Nat) (h : i < s.size) : bt (strOfNums ((bytesOf s).map (up fold))) (i : Int) = up fold (bt s (i : Int)) := by
  rw [← rd_bytesOf, ← rd_bytesOf, ups_ok]
  have h' : i < (bytesOf s).length := by rw [bytesOf_length]; exact h
  simp [rd, h']
theorem out_of (n : Int) (h : ¬ (n ≥ 1 ∧ n ≤ 5)) : style_Of.f n = some (false, 0, 0, 0, 0, 0, false) := by
  unfold style_Of.f
  rw [if_neg (by omega), if_neg (by omega), if_neg (by omega), if_neg (by omega), if_neg (by omega)]
theorem loop (s : ByteArray) (hs : s.size ≤ 1000) (n0 n : Int) {x} (hx : style_Of.f n = some x) : ∀ (d i : Nat), i + d = s.size → ∀ k,
    drachmlaw07_StyleRaises.l0 (k + 2 * d + 10) n0 s true n (strOfNums ((bytesOf s).map (up x.1))) (i : Int) x.1 x.2.1 x.2.2.1 x.2.2.2.1 x.2.2.2.2.1 x.2.2.2.2.2.1 = some true
  | 0, i, hi, k => by
    rw [drachmlaw07_StyleRaises.l0, if_neg (by omega), if_pos rfl]
    by_cases a : n0 ≥ 1
    · by_cases b : n0 ≤ 5
      · rw [if_pos a, if_pos b]
      · rw [if_pos a, if_neg b, raise_f n0 s hs (out_of n0 (by omega)), bs_, ups_false]; simp
    · rw [if_neg a, raise_f n0 s hs (out_of n0 (by omega)), bs_, ups_false]; simp
  | d + 1, i, hi, k => by
    have hlt : i < s.size := by omega
    have ih := loop s hs n0 n hx d (i + 1) (by omega) k
    have r := bt_range s (i : Int)
    have e := bt_up x.1 s i hlt
    have u := up_bounds x.1 (bt s (i : Int)) r.1 r.2
    have hk1 := kind_f (k + 2 * d + 4) n (bt s (i : Int)) hx r.1 r.2
    have hk2 := kind_f (k + 2 * d + 4) n (up x.1 (bt s (i : Int))) hx u.1 u.2
    rw [kind_up x.1 _ x r.1 r.2] at hk2
    have hw : wrap64 ((i : Int) + 1) = ((i + 1 : Nat) : Int) := by rw [w64 (by omega) (by omega)]; omega
    have hz := ups_size x.1 s
    generalize ht : strOfNums ((bytesOf s).map (up x.1)) = t at *
    have step : ∀ b : Bool, b = decide (97 ≤ bt s (i : Int) ∧ bt s (i : Int) ≤ 122) →
        drachmlaw07_StyleRaises.j2 (k + 2 * d + 11) n0 s true n t (i : Int) b x.1 x.2.1 x.2.2.1 x.2.2.2.1 x.2.2.2.2.1 x.2.2.2.2.2.1 = some true := by
      intro b hb
      rw [drachmlaw07_StyleRaises.j2, e, hk1, hk2, bs_, bs_, if_pos rfl, hw, ih]
      have c1 : (0 : Int) ≤ (i : Int) := by omega
      have c2 : (i : Int) < (t.size : Int) := by omega
      have c3 : (i : Int) < (s.size : Int) := by omega
      cases b with
      | true =>
        have hb' := of_decide_eq_true hb.symm
        have hne : ((x.1 != (up x.1 (bt s (i : Int)) != bt s (i : Int))) = true) = False := by
          cases hf : x.1 with
          | true =>
            have : up true (bt s (i : Int)) = bt s (i : Int) - 32 := if_pos ⟨rfl, hb'.1, hb'.2⟩
            rw [this]
            have : (bt s (i : Int) - 32 != bt s (i : Int)) = true := by simp; omega
            rw [this]; simp
          | false => rw [up_false]; simp
        simp only [if_true, c1, c2, c3, hne, if_false]
      | false =>
        have hb' := of_decide_eq_false hb.symm
        have : up x.1 (bt s (i : Int)) = bt s (i : Int) := if_neg (fun h => hb' h.2)
        rw [this]
        simp [c1, c2, c3]
    rw [show k + 2 * (d + 1) + 10 = (k + 2 * d + 11) + 1 from by omega, drachmlaw07_StyleRaises.l0, if_pos (by omega), if_pos (by omega)]
    by_cases a : bt s (i : Int) ≥ 97
    · rw [if_pos a]; exact step _ (by simp [a])
    · rw [if_neg a]; exact step _ (by simp; omega)
theorem StyleRaises : drachmlaw07_StyleRaises.Pure := by
  intro n a _ _
  obtain ⟨r, er, h0, h1⟩ := rest_eq n 5 (by omega) (by omega)
  obtain ⟨s, es, hs⟩ := short_eq a
  obtain ⟨x, hx⟩ := of_some (wrap64 (1 + r))
  refine ⟨2 * s.size + 11, ?_⟩
  have l := loop s (by omega) n (wrap64 (1 + r)) hx s.size 0 (by omega) 0
  have hz := ups_size x.1 s
  have e2 : strOfNums ((bytesOf (strOfNums ((bytesOf s).map (up x.1)))).map (up x.1)) = strOfNums ((bytesOf s).map (up x.1)) := by
    rw [ups_ok, List.map_map]
    congr 1
    exact List.map_congr_left (fun c _ => up_up x.1 c)
  unfold drachmlaw07_StyleRaises.f
  rw [show 2 * s.size + 11 = (2 * s.size + 1) + 10 from by omega, awake_true, bs_, es, bs_, er, bs_, raise_f _ s (by omega) hx, bs_, hx, bs_, raise_f _ _ (by rw [hz]; omega) hx, bs_, e2, if_pos rfl, if_pos (by rw [hz])]
  have j : drachmlaw07_StyleRaises.j0 (2 * s.size + 1 + 10) n s true (wrap64 (1 + r)) (strOfNums ((bytesOf s).map (up x.1))) false x.1 x.2.1 x.2.2.1 x.2.2.2.1 x.2.2.2.2.1 x.2.2.2.2.2.1 = some true := by
    rw [drachmlaw07_StyleRaises.j0, if_neg (by decide)]
    rw [show 0 + 2 * s.size + 10 = 2 * s.size + 10 from by omega] at l
    exact l
  cases hf : x.1 with
  | true => rw [hf] at j; rw [if_pos rfl]; exact j
  | false =>
    rw [if_neg (by decide)]
    rw [hf] at j
    rw [ups_false] at j ⊢
    have : (s.toList != s.toList) = false := by simp
    rw [this]
    exact j
end Go.Proofs.YtgcaelopcdpkgaaDoor.Pure
