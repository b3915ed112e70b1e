/- EditMetric's plain law: for any three texts the law's function answers true. Its conditions: none beyond the sizes that every row has. -/
import Derived.Test.YtkogfbgeepgjgaaPEditMetricx2
import Derived.Test.YtkogfbgeepgjgaaV4
namespace Go.Proofs.Ytkogfbgeepgjgaa.Pure
open Go.RowKit Go.Proofs.Ytkogfbgeepgjgaa.PEditMetric Go.Proofs.YtkogfbgeepgjgaaW.PrintWords Go.Proofs.YtkogfbgeepgjgaaW.PrintLast

theorem bytesOf_inj {a b : ByteArray} (h : bytesOf a = bytesOf b) : a = b := by
  refine Go.WideShapes.bytes_inj ?_
  unfold bytesOf at h
  refine List.map_inj_right (f := fun c : UInt8 => (c.toNat : Int)) (fun x y hxy => ?_) |>.1 h
  exact UInt8.toNat_inj.1 (Int.ofNat_inj.1 hxy)
theorem toList_bytes {a b : ByteArray} : (a.toList == b.toList) = decide (bytesOf a = bytesOf b) := by
  rw [Bool.eq_iff_iff, beq_iff_eq, decide_eq_true_iff, Go.ByteArray.toList_eq, Go.ByteArray.toList_eq]
  constructor
  · intro h; unfold bytesOf; rw [h]
  · intro h; rw [bytesOf_inj h]
theorem EditMetric : drachmlaw16_EditMetric.Pure := by
  intro a0 a1 a2 _ _ _
  obtain ⟨a, ea, ha⟩ := short_eq a0
  obtain ⟨b, eb, hb⟩ := short_eq a1
  obtain ⟨c, ec, hc⟩ := short_eq a2
  unfold drachmlaw16_EditMetric.f drachmlaw16_awake.f
  rw [awake_true, Option.bind_some, ea, Option.bind_some, eb, Option.bind_some, ec, Option.bind_some]
  rw [edit_Distance_f a b (by omega) (by omega), edit_Distance_f b c (by omega) (by omega), edit_Distance_f a c (by omega) (by omega), edit_Distance_f b a (by omega) (by omega)]
  simp only [Option.bind_some]
  have hla := bytesOf_length a
  have hlb := bytesOf_length b
  have hsym : dL b a = dL a b := V.L_symm _ _
  have htri : dL a c ≤ dL a b + dL b c := V.L_triangle _ _ _
  have hz : dL a b = 0 ↔ bytesOf a = bytesOf b := V.L_zero _ _
  have hlow := V.L_low (bytesOf a) (bytesOf b)
  have hhigh := V.L_high (bytesOf a) (bytesOf b)
  have hbc := V.L_high (bytesOf b) (bytesOf c)
  have hlc := bytesOf_length c
  change (bytesOf a).length ≤ (bytesOf b).length + dL a b ∧ (bytesOf b).length ≤ (bytesOf a).length + dL a b at hlow
  change dL a b ≤ _ at hhigh
  change dL b c ≤ _ at hbc
  rw [hla, hlb] at hlow hhigh
  rw [hlb, hlc] at hbc
  have hb0 : (((dL a b : Int) == 0) == (a.toList == b.toList)) = true := by
    rw [toList_bytes]
    by_cases h : dL a b = 0
    · rw [h, decide_eq_true (hz.1 h)]; rfl
    · rw [decide_eq_false (fun e => h (hz.2 e))]
      have : ((dL a b : Int) == 0) = false := by simpa using h
      rw [this]; rfl
  rw [hsym, hb0, if_pos rfl, w64 (x := (a.size : Int) - b.size) (by omega) (by omega), w64 (x := (dL a b : Int) + dL b c) (by omega) (by omega), w64 (x := -((a.size : Int) - b.size)) (by omega) (by omega)]
  have hm : (dL a b : Int) ≤ mx (a.size : Int) (b.size : Int) := by unfold mx; split <;> omega
  rw [decide_eq_true hm]
  simp only [if_true]
  by_cases h : (a.size : Int) - b.size < 0
  · rw [if_pos h, if_pos (by omega), if_pos (by omega)]
  · rw [if_neg h, if_pos (by omega), if_pos (by omega)]
end Go.Proofs.Ytkogfbgeepgjgaa.Pure
