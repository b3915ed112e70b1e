/- drachmref03.Read: how the document reads a text. No conditions. -/
import Derived.Test.YtclpbnfcajbmkaaDoorTy1
namespace Go.Proofs.YtclpbnfcajbmkaaDoor.Di
open Go Go.RowKit Go.Shelf Go.Proofs Go.Proofs.YtclpbnfcajbmkaaDoor Go.Proofs.YtclpbnfcajbmkaaDoor.PB Go.Proofs.YtclpbnfcajbmkaaDoor.Bu Go.Proofs.YtclpbnfcajbmkaaDoor.Sq Go.Proofs.YtclpbnfcajbmkaaDoorW.PrintWords Go.Proofs.YtclpbnfcajbmkaaDoorW.PrintLast Go.Proofs.YtclpbnfcajbmkaaDoorW.PrintMore
attribute [local go_sem] max2_int min2_int max_two min_two max_three min_three max_four min_four   -- for this text's walks alone
set_option linter.unusedVariables false
set_option linter.unusedSimpArgs false
def rrL : List UInt8 → Nat → Int → (Nat → Int) → Option (Nat → Int)
  | [], _, _, f => some f
  | c :: t, b, sg, f =>
    if (c.toNat : Int) = 45 then rrL t b (-1) f
    else if 48 ≤ (c.toNat : Int) ∧ (c.toNat : Int) ≤ 57 then (if -99 ≤ f b ∧ f b ≤ 99 then rrL t b sg (upd f b (wrap64 (f b * 10 + wrap64 (sg * ((c.toNat : Int) - 48))))) else none)
    else if Lib.indexByte [109, 115, 103, 114, 107, 99, 100] c < 0 then none else rrL t (Lib.indexByte [109, 115, 103, 114, 107, 99, 100] c).toNat 1 f
theorem letter_eq (c : UInt8) (k : Nat) (h : k < 7) : ((letter k).toNat : Int) = (c.toNat : Int) ↔ Lib.indexByte [109, 115, 103, 114, 107, 99, 100] c = (k : Int) := by
  have e : ((letter k).toNat : Int) = (c.toNat : Int) ↔ letter k = c := by
    constructor
    · intro h
      exact UInt8.toNat_inj.1 (by omega)
    · rintro rfl; rfl
  rw [e]
  constructor
  · rintro rfl
    have : k = 0 ∨ k = 1 ∨ k = 2 ∨ k = 3 ∨ k = 4 ∨ k = 5 ∨ k = 6 := by omega
    rcases this with rfl | rfl | rfl | rfl | rfl | rfl | rfl <;> rfl
  · intro hi
    have := (Lib.indexByte_some hi).1
    have hk : k = 0 ∨ k = 1 ∨ k = 2 ∨ k = 3 ∨ k = 4 ∨ k = 5 ∨ k = 6 := by omega
    rcases hk with rfl | rfl | rfl | rfl | rfl | rfl | rfl <;> exact Option.some.inj this
/-- What the inner loop has come to behind k letters. -/
def inner (c : UInt8) (b : Nat) (k : Nat) : Nat × Bool := if 0 ≤ Lib.indexByte [109, 115, 103, 114, 107, 99, 100] c ∧ Lib.indexByte [109, 115, 103, 114, 107, 99, 100] c < (k : Int) then ((Lib.indexByte [109, 115, 103, 114, 107, 99, 100] c).toNat, true) else (b, false)
theorem inner_hit (c : UInt8) (b k : Nat) (h : Lib.indexByte [109, 115, 103, 114, 107, 99, 100] c = (k : Int)) : inner c b (k + 1) = (k, true) := by
  unfold inner
  rw [if_pos (by omega), h, Int.toNat_natCast]
theorem inner_miss (c : UInt8) (b k : Nat) (h : Lib.indexByte [109, 115, 103, 114, 107, 99, 100] c ≠ (k : Int)) : inner c b (k + 1) = inner c b k := by
  unfold inner
  by_cases hc : 0 ≤ Lib.indexByte [109, 115, 103, 114, 107, 99, 100] c ∧ Lib.indexByte [109, 115, 103, 114, 107, 99, 100] c < (k : Int)
  · rw [if_pos (by omega), if_pos hc]
  · rw [if_neg (by omega), if_neg hc]
theorem inner_end (c : UInt8) (b : Nat) : inner c b 7 = if Lib.indexByte [109, 115, 103, 114, 107, 99, 100] c < 0 then (b, false) else ((Lib.indexByte [109, 115, 103, 114, 107, 99, 100] c).toNat, true) := by
  have := index_lt c
  unfold inner
  by_cases h : Lib.indexByte [109, 115, 103, 114, 107, 99, 100] c < 0
  · rw [if_pos h, if_neg (by omega)]
  · rw [if_neg h, if_pos (by omega)]
set_option maxHeartbeats 8000000 in
set_option maxRecDepth 100000 in
theorem refRead (s : ByteArray) (hs : s.size ≤ 281474976710656) (w : World) : Calls Tryd.prog 17 #[.string s] w fun e W => e = .returned (.agg (A8 (rdOut s.data.toList (rrL s.data.toList 0 1 fun _ => 0)).1 (rdOut s.data.toList (rrL s.data.toList 0 1 fun _ => 0)).2)) ∧ Below w.heap.size w W := by
  have hu40 := Tryd.underlying40
  obtain ⟨R, hR⟩ : ∃ R, rrL s.data.toList 0 1 (fun _ => 0) = R := ⟨_, rfl⟩
  rw [hR]
  have HR := Aside0.mk hR
  clear hR
  go_enter Tryd.func17, Tryd.ntmps17
  go_wp2_with (first
    | ((with_reducible refine gate_dst (N := 2) rfl ?_); refine box_event ?hg (N := 2) ?hd (cs := Z8) (t := 40) ?hr ?_; (case hd => rfl); (case hg => rfl); (case hr => first | (go_simp; done) | (go_simp; rfl)); intro gr hg_ wr_ hbox hb; have Gr := Aside0.mk (bsz (bl (Below.refl _ _)) hg_ : w.heap.size ≤ gr); have HB := Aside0.mk hb; have Br := Aside0.mk hbox; clear hbox hb hg_)
    | ((with_reducible refine gate_dst (N := 3) rfl ?_); refine box_event ?hg (N := 3) ?hd (cs := A7 fun _ => 0) (t := 23) ?hr ?_; (case hd => rfl); (case hg => rfl); (case hr => first | (go_simp; done) | (go_simp; rfl)); intro gd hg_ wd_ hbox hb; have Gd := Aside0.mk (bsz (bl HB.out) hg_ : w.heap.size ≤ gd); have Nrd := Aside0.mk (nlt (kp Br.out) hg_ : gr ≠ gd); have Ndr := Aside0.mk (ngt (kp Br.out) hg_ : gd ≠ gr); replace Br := Aside0.mk (blk_below (kp Br.out) hb); replace HB := Aside0.mk (below_step (bl HB.out) hb); have Bd := Aside0.mk hbox; obtain ⟨cd0_, cd1_, cd2_, cd3_, cd4_, cd5_, cd6_⟩ := hc7 Bd.out; obtain ⟨fd0_, fd1_, fd2_, fd3_, fd4_, fd5_, fd6_⟩ := hf7 Bd.out; clear hbox hb hg_))
  clear cd0_ cd1_ cd2_ cd3_ cd4_ cd5_ cd6_ fd0_ fd1_ fd2_ fd3_ fd4_ fd5_ fd6_
  go_loopw [4, 5, 6] (fun vb vs vi wr => ∃ (b k : Nat) (sg : Int) (f : Nat → Int), vb = .int .i64 b ∧ vs = .int .i64 sg ∧ vi = .int .i64 k ∧ b < 7 ∧ k ≤ s.size ∧ Aside0 (rrL (s.data.toList.drop k) b sg f = R) ∧ Aside0 (wr.heap[gr]? = some (.cells Z8 40 (0, 0))) ∧ Aside0 (wr.heap[gd]? = some (.cells (A7 f) 23 (0, 0))) ∧ Aside0 (Below w.heap.size w wr)) (fun _ _ v _ => s.size - (intOf v).toNat)
  case atStart => exact ⟨0, 0, 1, fun _ => 0, rfl, rfl, rfl, by omega, Nat.zero_le _, HR, ⟨kp Br.out⟩, ⟨kp (p7_6 (kp (p7_5 (kp (p7_4 (kp (p7_3 (kp (p7_2 (kp (p7_1 (kp (p7_0 (kp Bd.out))))))))))))))⟩, ⟨bl HB.out⟩⟩
  case round =>
    clear Br Bd HB HR
    obtain ⟨b, k, sg, f, rfl, rfl, rfl, hb7, hk, HR, Br, Bd, HB⟩ := hrel
    obtain ⟨wo, rfl⟩ : ∃ wo : World, wo = wr := ⟨_, rfl⟩
    by_cases hlt : k < s.size
    · obtain ⟨c, hc⟩ : ∃ c, s[k] = c := ⟨_, rfl⟩
      have hd : s.data.toList.drop k = c :: s.data.toList.drop (k + 1) := by
        rw [List.drop_eq_getElem_cons (by exact hlt), ← hc]; rfl
      have hR := HR.out
      rw [hd, rrL] at hR
      have HD := Aside0.mk hR
      clear hR HR hd
      by_cases h45 : (c.toNat : Int) = 45
      · go_wp2
        go_roundw
        case rel => exact ⟨b, k + 1, -1, f, rfl, rfl, by simp, by omega, by omega, ⟨by have h_ := HD.out; rw [if_pos h45] at h_; exact h_⟩, ⟨kp Br.out⟩, ⟨kp Bd.out⟩, ⟨bl HB.out⟩⟩
        case measure => simp [intOf]; omega
      · have c3 := get7n Bd.out b hb7
        have f3 := blk_frozen Bd.out b
        have n1 := Nrd.out; have n2 := Ndr.out
        by_cases h48 : 48 ≤ (c.toNat : Int)
        · by_cases h57 : (c.toNat : Int) ≤ 57
          · by_cases ha : f b < -99
            · have hn := HD.out
              rw [if_neg h45, if_pos ⟨h48, h57⟩, if_neg (by omega)] at hn
              subst hn
              obtain ⟨cr0_, cr1_, cr2_, cr3_, cr4_, cr5_, cr6_, cr7_⟩ := hc8 Br.out
              obtain ⟨fr0_, fr1_, fr2_, fr3_, fr4_, fr5_, fr6_, fr7_⟩ := hf8 Br.out
              go_wp2
              refine bodyPost_ret (results_c1 rfl _ _ gr 40 Z8 (0, 0) _ rfl (kp (p8_7 (kp (p8_6 (kp (p8_5 (kp (p8_4 (kp (p8_3 (kp (p8_2 (kp (p8_1 (kp (p8_0 (kp Br.out))))))))))))))))) Tryd.underlying40 rfl (by kernel_rfl)) rfl ?_
              exact ⟨rfl, bl HB.out⟩
            · by_cases hg : f b > 99
              · have hn := HD.out
                rw [if_neg h45, if_pos ⟨h48, h57⟩, if_neg (by omega)] at hn
                subst hn
                obtain ⟨cr0_, cr1_, cr2_, cr3_, cr4_, cr5_, cr6_, cr7_⟩ := hc8 Br.out
                obtain ⟨fr0_, fr1_, fr2_, fr3_, fr4_, fr5_, fr6_, fr7_⟩ := hf8 Br.out
                go_wp2
                refine bodyPost_ret (results_c1 rfl _ _ gr 40 Z8 (0, 0) _ rfl (kp (p8_7 (kp (p8_6 (kp (p8_5 (kp (p8_4 (kp (p8_3 (kp (p8_2 (kp (p8_1 (kp (p8_0 (kp Br.out))))))))))))))))) Tryd.underlying40 rfl (by kernel_rfl)) rfl ?_
                exact ⟨rfl, bl HB.out⟩
              · go_wp2
                go_roundw
                case rel => exact ⟨b, k + 1, sg, upd f b (wrap64 (f b * 10 + wrap64 (sg * ((c.toNat : Int) - 48)))), rfl, rfl, by simp, by omega, by omega, ⟨by have h_ := HD.out; rw [if_neg h45, if_pos ⟨h48, h57⟩, if_pos (by omega)] at h_; exact h_⟩, ⟨kp Br.out⟩, ⟨put7n Bd.out b _ hb7⟩, ⟨bl HB.out⟩⟩
                case measure => simp [intOf]; omega
          · have HL := Aside0.mk (show (if Lib.indexByte [109, 115, 103, 114, 107, 99, 100] c < 0 then none else rrL (s.data.toList.drop (k + 1)) (Lib.indexByte [109, 115, 103, 114, 107, 99, 100] c).toNat 1 f) = R from by have h_ := HD.out; rw [if_neg h45, if_neg (by omega)] at h_; exact h_)
            clear HD c3 f3
            have HC := Aside0.mk hc
            obtain ⟨i, hi⟩ : ∃ i, Lib.indexByte [109, 115, 103, 114, 107, 99, 100] c = i := ⟨_, rfl⟩
            have HI := Aside0.mk hi
            clear hi
            go_wp2
            go_loopw [4, 8, 9] (fun vb vf vk wr => ∃ q : Nat, vb = .int .i64 ((inner c b q).1 : Nat) ∧ vf = .bool (inner c b q).2 ∧ vk = .int .i64 q ∧ q ≤ 7 ∧ wr = wo) (fun _ _ v _ => 7 - (intOf v).toNat)
            case atStart => exact ⟨0, by rw [inner, if_neg (by omega)], by rw [inner, if_neg (by omega)], rfl, by omega, rfl⟩
            case round =>
              obtain ⟨q, rfl, rfl, rfl, hq, rfl⟩ := hrel
              by_cases hq7 : q < 7
              · have hix := index_letter q hq7
                by_cases hit : Lib.indexByte [109, 115, 103, 114, 107, 99, 100] c = (q : Int)
                · have he : ((letter q).toNat : Int) = (c.toNat : Int) := (letter_eq c q hq7).2 hit
                  clear hit
                  go_wp2
                  go_roundw
                  case rel => exact ⟨q + 1, by rw [inner_hit c b q ((letter_eq c q hq7).1 he)], by rw [inner_hit c b q ((letter_eq c q hq7).1 he)], by simp, by omega, trivial⟩
                  case measure => simp [intOf]; omega
                · have he : ¬ ((letter q).toNat : Int) = (c.toNat : Int) := fun h => hit ((letter_eq c q hq7).1 h)
                  clear hit
                  go_wp2
                  go_roundw
                  case rel => exact ⟨q + 1, by rw [inner_miss c b q (fun h => he ((letter_eq c q hq7).2 h))], by rw [inner_miss c b q (fun h => he ((letter_eq c q hq7).2 h))], by simp, by omega, trivial⟩
                  case measure => simp [intOf]; omega
              · obtain rfl : q = 7 := by omega
                by_cases hi : i < 0
                · have hn := HL.out
                  rw [if_pos (by rw [HI.out]; exact hi)] at hn
                  subst hn
                  rw [inner_end, HI.out, if_pos hi]
                  obtain ⟨cr0_, cr1_, cr2_, cr3_, cr4_, cr5_, cr6_, cr7_⟩ := hc8 Br.out
                  obtain ⟨fr0_, fr1_, fr2_, fr3_, fr4_, fr5_, fr6_, fr7_⟩ := hf8 Br.out
                  go_wp2
                  refine bodyPost_ret (results_c1 rfl _ _ gr 40 Z8 (0, 0) _ rfl (kp (p8_7 (kp (p8_6 (kp (p8_5 (kp (p8_4 (kp (p8_3 (kp (p8_2 (kp (p8_1 (kp (p8_0 (kp Br.out))))))))))))))))) Tryd.underlying40 rfl (by kernel_rfl)) rfl ?_
                  exact ⟨rfl, bl HB.out⟩
                · have hn := HL.out
                  rw [if_neg (by rw [HI.out]; exact hi), HI.out] at hn
                  have HN := Aside0.mk hn
                  have hi7 : i.toNat < 7 := by have h_ := index_lt c; rw [HI.out] at h_; omega
                  rw [inner_end, HI.out, if_neg hi]
                  clear hn HL HI
                  go_wp2
                  go_roundw
                  case rel => exact ⟨i.toNat, k + 1, 1, f, rfl, rfl, by simp, hi7, by omega, HN, ⟨kp Br.out⟩, ⟨kp Bd.out⟩, ⟨bl HB.out⟩⟩
                  case measure => simp [intOf]; omega
        · have HL := Aside0.mk (show (if Lib.indexByte [109, 115, 103, 114, 107, 99, 100] c < 0 then none else rrL (s.data.toList.drop (k + 1)) (Lib.indexByte [109, 115, 103, 114, 107, 99, 100] c).toNat 1 f) = R from by have h_ := HD.out; rw [if_neg h45, if_neg (by omega)] at h_; exact h_)
          clear HD c3 f3
          have HC := Aside0.mk hc
          obtain ⟨i, hi⟩ : ∃ i, Lib.indexByte [109, 115, 103, 114, 107, 99, 100] c = i := ⟨_, rfl⟩
          have HI := Aside0.mk hi
          clear hi
          go_wp2
          go_loopw [4, 8, 9] (fun vb vf vk wr => ∃ q : Nat, vb = .int .i64 ((inner c b q).1 : Nat) ∧ vf = .bool (inner c b q).2 ∧ vk = .int .i64 q ∧ q ≤ 7 ∧ wr = wo) (fun _ _ v _ => 7 - (intOf v).toNat)
          case atStart => exact ⟨0, by rw [inner, if_neg (by omega)], by rw [inner, if_neg (by omega)], rfl, by omega, rfl⟩
          case round =>
            obtain ⟨q, rfl, rfl, rfl, hq, rfl⟩ := hrel
            by_cases hq7 : q < 7
            · have hix := index_letter q hq7
              by_cases hit : Lib.indexByte [109, 115, 103, 114, 107, 99, 100] c = (q : Int)
              · have he : ((letter q).toNat : Int) = (c.toNat : Int) := (letter_eq c q hq7).2 hit
                clear hit
                go_wp2
                go_roundw
                case rel => exact ⟨q + 1, by rw [inner_hit c b q ((letter_eq c q hq7).1 he)], by rw [inner_hit c b q ((letter_eq c q hq7).1 he)], by simp, by omega, trivial⟩
                case measure => simp [intOf]; omega
              · have he : ¬ ((letter q).toNat : Int) = (c.toNat : Int) := fun h => hit ((letter_eq c q hq7).1 h)
                clear hit
                go_wp2
                go_roundw
                case rel => exact ⟨q + 1, by rw [inner_miss c b q (fun h => he ((letter_eq c q hq7).2 h))], by rw [inner_miss c b q (fun h => he ((letter_eq c q hq7).2 h))], by simp, by omega, trivial⟩
                case measure => simp [intOf]; omega
            · obtain rfl : q = 7 := by omega
              by_cases hi : i < 0
              · have hn := HL.out
                rw [if_pos (by rw [HI.out]; exact hi)] at hn
                subst hn
                rw [inner_end, HI.out, if_pos hi]
                obtain ⟨cr0_, cr1_, cr2_, cr3_, cr4_, cr5_, cr6_, cr7_⟩ := hc8 Br.out
                obtain ⟨fr0_, fr1_, fr2_, fr3_, fr4_, fr5_, fr6_, fr7_⟩ := hf8 Br.out
                go_wp2
                refine bodyPost_ret (results_c1 rfl _ _ gr 40 Z8 (0, 0) _ rfl (kp (p8_7 (kp (p8_6 (kp (p8_5 (kp (p8_4 (kp (p8_3 (kp (p8_2 (kp (p8_1 (kp (p8_0 (kp Br.out))))))))))))))))) Tryd.underlying40 rfl (by kernel_rfl)) rfl ?_
                exact ⟨rfl, bl HB.out⟩
              · have hn := HL.out
                rw [if_neg (by rw [HI.out]; exact hi), HI.out] at hn
                have HN := Aside0.mk hn
                have hi7 : i.toNat < 7 := by have h_ := index_lt c; rw [HI.out] at h_; omega
                rw [inner_end, HI.out, if_neg hi]
                clear hn HL HI
                go_wp2
                go_roundw
                case rel => exact ⟨i.toNat, k + 1, 1, f, rfl, rfl, by simp, hi7, by omega, HN, ⟨kp Br.out⟩, ⟨kp Bd.out⟩, ⟨bl HB.out⟩⟩
                case measure => simp [intOf]; omega
    · obtain rfl : k = s.size := by omega
      have hR := HR.out
      rw [List.drop_eq_nil_of_le (Nat.le_of_eq (show s.data.toList.length = s.size from rfl)), rrL] at hR
      subst hR
      clear HR hk hlt
      have n1 := Nrd.out; have n2 := Ndr.out
      obtain ⟨cd0_, cd1_, cd2_, cd3_, cd4_, cd5_, cd6_⟩ := hc7 Bd.out
      obtain ⟨cr0_, cr1_, cr2_, cr3_, cr4_, cr5_, cr6_, cr7_⟩ := hc8 Br.out
      obtain ⟨fr0_, fr1_, fr2_, fr3_, fr4_, fr5_, fr6_, fr7_⟩ := hf8 Br.out
      cases hA : allR (L7 f) with
      | false =>
        go_wp2_with (first | (go_at_call 30; (with_reducible refine (refRight f _).mono ?_); rintro e w_ ⟨rfl, hb⟩; rw [hA]; replace Br := Aside0.mk (blk_below (kp Br.out) hb); replace Bd := Aside0.mk (blk_below (kp Bd.out) hb); replace HB := Aside0.mk (below_step (bl HB.out) hb); clear cr0_ cr1_ cr2_ cr3_ cr4_ cr5_ cr6_ cr7_ cd0_ cd1_ cd2_ cd3_ cd4_ cd5_ cd6_ fr0_ fr1_ fr2_ fr3_ fr4_ fr5_ fr6_ fr7_; obtain ⟨cr0_, cr1_, cr2_, cr3_, cr4_, cr5_, cr6_, cr7_⟩ := hc8 Br.out; obtain ⟨cd0_, cd1_, cd2_, cd3_, cd4_, cd5_, cd6_⟩ := hc7 Bd.out; obtain ⟨fr0_, fr1_, fr2_, fr3_, fr4_, fr5_, fr6_, fr7_⟩ := hf8 Br.out; clear hb))
        refine bodyPost_ret (results_c1 rfl _ _ gr 40 Z8 (0, 0) _ rfl (kp (p8_7 (kp (p8_6 (kp (p8_5 (kp (p8_4 (kp (p8_3 (kp (p8_2 (kp (p8_1 (kp (p8_0 (kp Br.out))))))))))))))))) Tryd.underlying40 rfl (by kernel_rfl)) rfl ?_
        refine ⟨?_, bl HB.out⟩
        simp only [rdOut, hA, Bool.false_eq_true, false_and, if_false]
      | true =>
        have hx : textOf f = ⟨(dtx (nz (L7 f) 7)).toArray⟩ := if_pos hA
        have HX := Aside0.mk (refText_val f 12 (Nat.le_refl _))
        obtain ⟨x, hxx⟩ : ∃ x, textOf f = x := ⟨_, rfl⟩
        rw [hxx] at HX hx
        have hxd : x.data.toList = dtx (nz (L7 f) 7) := by rw [hx]
        clear hx hxx
        by_cases hxs : x.data.toList = s.data.toList
        · have b0 : (x.toList == s.toList) = true := by rw [toL, toL]; exact beq_iff_eq.mpr hxs
          rw [hxd] at hxs
          clear hxd
          have HXS := Aside0.mk hxs
          clear hxs
          go_wp2_with (first | (go_at_call 30; (with_reducible refine (refRight f _).mono ?_); rintro e w_ ⟨rfl, hb⟩; rw [hA]; replace Br := Aside0.mk (blk_below (kp Br.out) hb); replace Bd := Aside0.mk (blk_below (kp Bd.out) hb); replace HB := Aside0.mk (below_step (bl HB.out) hb); clear cr0_ cr1_ cr2_ cr3_ cr4_ cr5_ cr6_ cr7_ cd0_ cd1_ cd2_ cd3_ cd4_ cd5_ cd6_ fr0_ fr1_ fr2_ fr3_ fr4_ fr5_ fr6_ fr7_; obtain ⟨cr0_, cr1_, cr2_, cr3_, cr4_, cr5_, cr6_, cr7_⟩ := hc8 Br.out; obtain ⟨cd0_, cd1_, cd2_, cd3_, cd4_, cd5_, cd6_⟩ := hc7 Bd.out; obtain ⟨fr0_, fr1_, fr2_, fr3_, fr4_, fr5_, fr6_, fr7_⟩ := hf8 Br.out; clear hb) | (go_at_call 31; (with_reducible refine (drachmref03_Text.calls 12 (f 0) (f 1) (f 2) (f 3) (f 4) (f 5) (f 6) x _ HX.out).mono ?_); rintro e w_ ⟨rfl, hb⟩; replace Br := Aside0.mk (blk_below (kp Br.out) hb); replace Bd := Aside0.mk (blk_below (kp Bd.out) hb); replace HB := Aside0.mk (below_step (bl HB.out) hb); clear cr0_ cr1_ cr2_ cr3_ cr4_ cr5_ cr6_ cr7_ cd0_ cd1_ cd2_ cd3_ cd4_ cd5_ cd6_ fr0_ fr1_ fr2_ fr3_ fr4_ fr5_ fr6_ fr7_; obtain ⟨cr0_, cr1_, cr2_, cr3_, cr4_, cr5_, cr6_, cr7_⟩ := hc8 Br.out; obtain ⟨cd0_, cd1_, cd2_, cd3_, cd4_, cd5_, cd6_⟩ := hc7 Bd.out; obtain ⟨fr0_, fr1_, fr2_, fr3_, fr4_, fr5_, fr6_, fr7_⟩ := hf8 Br.out; clear hb HX))
          refine bodyPost_ret (results_c1 rfl _ _ gr 40 (A8 f true) (0, 0) _ rfl (kp (p8_7 (kp (p8_6 (kp (p8_5 (kp (p8_4 (kp (p8_3 (kp (p8_2 (kp (p8_1 (kp (p8_0 (kp Br.out))))))))))))))))) Tryd.underlying40 rfl (by kernel_rfl)) rfl ?_
          refine ⟨?_, bl HB.out⟩
          simp only [rdOut, hA, HXS.out, true_and, and_self, and_false, if_true, if_false]
        · have b0 : (x.toList == s.toList) = false := by rw [toL, toL]; exact beq_eq_false_iff_ne.mpr hxs
          rw [hxd] at hxs
          clear hxd
          have HXS := Aside0.mk hxs
          clear hxs
          go_wp2_with (first | (go_at_call 30; (with_reducible refine (refRight f _).mono ?_); rintro e w_ ⟨rfl, hb⟩; rw [hA]; replace Br := Aside0.mk (blk_below (kp Br.out) hb); replace Bd := Aside0.mk (blk_below (kp Bd.out) hb); replace HB := Aside0.mk (below_step (bl HB.out) hb); clear cr0_ cr1_ cr2_ cr3_ cr4_ cr5_ cr6_ cr7_ cd0_ cd1_ cd2_ cd3_ cd4_ cd5_ cd6_ fr0_ fr1_ fr2_ fr3_ fr4_ fr5_ fr6_ fr7_; obtain ⟨cr0_, cr1_, cr2_, cr3_, cr4_, cr5_, cr6_, cr7_⟩ := hc8 Br.out; obtain ⟨cd0_, cd1_, cd2_, cd3_, cd4_, cd5_, cd6_⟩ := hc7 Bd.out; obtain ⟨fr0_, fr1_, fr2_, fr3_, fr4_, fr5_, fr6_, fr7_⟩ := hf8 Br.out; clear hb) | (go_at_call 31; (with_reducible refine (drachmref03_Text.calls 12 (f 0) (f 1) (f 2) (f 3) (f 4) (f 5) (f 6) x _ HX.out).mono ?_); rintro e w_ ⟨rfl, hb⟩; replace Br := Aside0.mk (blk_below (kp Br.out) hb); replace Bd := Aside0.mk (blk_below (kp Bd.out) hb); replace HB := Aside0.mk (below_step (bl HB.out) hb); clear cr0_ cr1_ cr2_ cr3_ cr4_ cr5_ cr6_ cr7_ cd0_ cd1_ cd2_ cd3_ cd4_ cd5_ cd6_ fr0_ fr1_ fr2_ fr3_ fr4_ fr5_ fr6_ fr7_; obtain ⟨cr0_, cr1_, cr2_, cr3_, cr4_, cr5_, cr6_, cr7_⟩ := hc8 Br.out; obtain ⟨cd0_, cd1_, cd2_, cd3_, cd4_, cd5_, cd6_⟩ := hc7 Bd.out; obtain ⟨fr0_, fr1_, fr2_, fr3_, fr4_, fr5_, fr6_, fr7_⟩ := hf8 Br.out; clear hb HX))
          refine bodyPost_ret (results_c1 rfl _ _ gr 40 Z8 (0, 0) _ rfl (kp (p8_7 (kp (p8_6 (kp (p8_5 (kp (p8_4 (kp (p8_3 (kp (p8_2 (kp (p8_1 (kp (p8_0 (kp Br.out))))))))))))))))) Tryd.underlying40 rfl (by kernel_rfl)) rfl ?_
          refine ⟨?_, bl HB.out⟩
          simp only [rdOut, hA, HXS.out, true_and, and_self, and_false, if_true, if_false]
end Go.Proofs.YtclpbnfcajbmkaaDoor.Di
namespace Go.Proofs.YtclpbnfcajbmkaaDoor
open Go Go.RowKit Go.Proofs.YtclpbnfcajbmkaaDoor.Di
def drachmref03_Read.f (s : ByteArray) : Option D8 := if s.size ≤ 281474976710656 then some (out8 (rdOut s.data.toList (rrL s.data.toList 0 1 fun _ => 0))) else none
theorem drachmref03_Read.calls (s : ByteArray) (r1 r2 r3 r4 r5 r6 r7 : Int) (r8 : Bool) (w : World) (h : drachmref03_Read.f s = some (r1, r2, r3, r4, r5, r6, r7, r8)) :
    Calls Tryd.prog 17 #[.string s] w fun e w' => e = .returned (.agg #[.int .i64 r1, .int .i64 r2, .int .i64 r3, .int .i64 r4, .int .i64 r5, .int .i64 r6, .int .i64 r7, .bool r8]) ∧ Below w.heap.size w w' := by
  unfold drachmref03_Read.f at h
  split at h
  · rename_i hs
    have h := Option.some.inj h
    simp only [out8, Prod.mk.injEq] at h
    obtain ⟨rfl, rfl, rfl, rfl, rfl, rfl, rfl, rfl⟩ := h
    exact refRead s hs w
  · cases h
end Go.Proofs.YtclpbnfcajbmkaaDoor
