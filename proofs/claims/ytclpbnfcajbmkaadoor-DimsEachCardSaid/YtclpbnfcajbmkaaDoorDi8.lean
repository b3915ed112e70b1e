/- drachmref03's Right, Add, Times: the document's answer over seven numbers. No conditions. -/
import Derived.Test.YtclpbnfcajbmkaaDoorDi7
namespace Go.Proofs.YtclpbnfcajbmkaaDoor.Di
open Go Go.RowKit Go.Shelf Go.Proofs Go.Proofs.YtclpbnfcajbmkaaDoor Go.Proofs.YtclpbnfcajbmkaaDoor.Bu Go.Proofs.YtclpbnfcajbmkaaDoor.Sq Go.Proofs.YtclpbnfcajbmkaaDoorW.PrintWords Go.Proofs.YtclpbnfcajbmkaaDoorW.PrintLast Go.Proofs.YtclpbnfcajbmkaaDoorW.PrintMore
attribute [local go_sem] max2_int min2_int max_two min_two max_three min_three max_four min_four   -- for this text's walks alone
set_option linter.unusedVariables false
set_option linter.unusedSimpArgs false
theorem get7n {w : World} {g : Nat} {t : TypeId} {f : Nat → Int} (h : w.heap[g]? = some (.cells (A7 f) t (0, 0))) (k : Nat) (h7 : k < 7) : w.cell? ⟨g, k, none⟩ = some (.int .i64 (f k)) := get7 h (k : Int) (by omega) (by omega)
theorem put7n {w : World} {g : Nat} {t : TypeId} {f : Nat → Int} (h : w.heap[g]? = some (.cells (A7 f) t (0, 0))) (k : Nat) (v : Int) (h7 : k < 7) : (w.setCell ⟨g, k, none⟩ (.int .i64 v)).heap[g]? = some (.cells (A7 (upd f k v)) t (0, 0)) := put7 h (k : Int) v (by omega) (by omega)
theorem allR_iff (f : Nat → Int) : allR (L7 f) = true ↔ ∀ q, q < 7 → -99 ≤ f q ∧ f q ≤ 99 := by
  simp only [allR, L7, List.all_cons, List.all_nil, Bool.and_true, Bool.and_eq_true, decide_eq_true_eq]
  constructor
  · rintro ⟨h0, h1, h2, h3, h4, h5, h6⟩ q hq
    have : q = 0 ∨ q = 1 ∨ q = 2 ∨ q = 3 ∨ q = 4 ∨ q = 5 ∨ q = 6 := by omega
    rcases this with rfl | rfl | rfl | rfl | rfl | rfl | rfl <;> assumption
  · intro h
    exact ⟨h 0 (by decide), h 1 (by decide), h 2 (by decide), h 3 (by decide), h 4 (by decide), h 5 (by decide), h 6 (by decide)⟩
theorem allR_not {f : Nat → Int} (k : Nat) (h7 : k < 7) (h : ¬ (-99 ≤ f k ∧ f k ≤ 99)) : allR (L7 f) = false := by
  cases e : allR (L7 f) with
  | false => rfl
  | true => exact absurd ((allR_iff f).1 e k h7) h
set_option maxHeartbeats 4000000 in
set_option maxRecDepth 100000 in
theorem refRight (f : Nat → Int) (w : World) : Calls Tryd.prog 30 #[.agg (A7 f)] w fun e W => e = .returned (.bool (allR (L7 f))) ∧ Below w.heap.size w W := by
  go_enter Tryd.func30, Tryd.ntmps30
  go_wp2_with (first
    | ((with_reducible refine gate_dst (N := 1) rfl ?_); refine box_event ?hg (N := 1) ?hd (cs := A7 f) (t := 23) ?hr ?_; (case hd => rfl); (case hg => rfl); (case hr => first | (go_simp; done) | (go_simp; rfl)); intro ga hg w1 hbox hb; have BA := Aside0.mk hbox; have HB := Aside0.mk hb; clear hbox hb hg))
  go_loopw [3] (fun v wr => ∃ k : Nat, v = .int .i64 k ∧ k ≤ 7 ∧ wr = w1 ∧ Aside0 (∀ q, q < k → -99 ≤ f q ∧ f q ≤ 99)) (fun v _ => 7 - (intOf v).toNat)
  case atStart => exact ⟨0, rfl, by omega, rfl, ⟨fun q h => absurd h (by omega)⟩⟩
  case round =>
    obtain ⟨k, rfl, hk, rfl, HN⟩ := hrel
    by_cases h7 : k < 7
    · have c := get7n BA.out k h7
      by_cases hx : f k < -99
      · go_wp2
        go_ret
        exact ⟨by rw [allR_not k h7 (by omega)]; rfl, HB.out⟩
      · by_cases hy : f k > 99
        · go_wp2
          go_ret
          exact ⟨by rw [allR_not k h7 (by omega)]; rfl, HB.out⟩
        · go_wp2
          go_roundw
          case rel =>
            refine ⟨k + 1, by simp, by omega, trivial, ⟨fun q h => ?_⟩⟩
            by_cases hq : q < k
            · exact HN.out q hq
            · obtain rfl : q = k := by omega
              omega
          case measure => simp [intOf]; omega
    · obtain rfl : k = 7 := by omega
      go_wp2
      go_ret
      exact ⟨by rw [(allR_iff f).2 HN.out]; rfl, HB.out⟩
theorem p8_0 {w : World} {g : Nat} {t : TypeId} {a b c d e f m p u : Value} (h : w.heap[g]? = some (.cells #[a, b, c, d, e, f, m, p] t (0, 0))) : (w.setCell ⟨g, 0, none⟩ u).heap[g]? = some (.cells #[u, b, c, d, e, f, m, p] t (0, 0)) := blk_put h 0 u rfl
theorem p8_1 {w : World} {g : Nat} {t : TypeId} {a b c d e f m p u : Value} (h : w.heap[g]? = some (.cells #[a, b, c, d, e, f, m, p] t (0, 0))) : (w.setCell ⟨g, 1, none⟩ u).heap[g]? = some (.cells #[a, u, c, d, e, f, m, p] t (0, 0)) := blk_put h 1 u rfl
theorem p8_2 {w : World} {g : Nat} {t : TypeId} {a b c d e f m p u : Value} (h : w.heap[g]? = some (.cells #[a, b, c, d, e, f, m, p] t (0, 0))) : (w.setCell ⟨g, 2, none⟩ u).heap[g]? = some (.cells #[a, b, u, d, e, f, m, p] t (0, 0)) := blk_put h 2 u rfl
theorem p8_3 {w : World} {g : Nat} {t : TypeId} {a b c d e f m p u : Value} (h : w.heap[g]? = some (.cells #[a, b, c, d, e, f, m, p] t (0, 0))) : (w.setCell ⟨g, 3, none⟩ u).heap[g]? = some (.cells #[a, b, c, u, e, f, m, p] t (0, 0)) := blk_put h 3 u rfl
theorem p8_4 {w : World} {g : Nat} {t : TypeId} {a b c d e f m p u : Value} (h : w.heap[g]? = some (.cells #[a, b, c, d, e, f, m, p] t (0, 0))) : (w.setCell ⟨g, 4, none⟩ u).heap[g]? = some (.cells #[a, b, c, d, u, f, m, p] t (0, 0)) := blk_put h 4 u rfl
theorem p8_5 {w : World} {g : Nat} {t : TypeId} {a b c d e f m p u : Value} (h : w.heap[g]? = some (.cells #[a, b, c, d, e, f, m, p] t (0, 0))) : (w.setCell ⟨g, 5, none⟩ u).heap[g]? = some (.cells #[a, b, c, d, e, u, m, p] t (0, 0)) := blk_put h 5 u rfl
theorem p8_6 {w : World} {g : Nat} {t : TypeId} {a b c d e f m p u : Value} (h : w.heap[g]? = some (.cells #[a, b, c, d, e, f, m, p] t (0, 0))) : (w.setCell ⟨g, 6, none⟩ u).heap[g]? = some (.cells #[a, b, c, d, e, f, u, p] t (0, 0)) := blk_put h 6 u rfl
theorem p8_7 {w : World} {g : Nat} {t : TypeId} {a b c d e f m p u : Value} (h : w.heap[g]? = some (.cells #[a, b, c, d, e, f, m, p] t (0, 0))) : (w.setCell ⟨g, 7, none⟩ u).heap[g]? = some (.cells #[a, b, c, d, e, f, m, u] t (0, 0)) := blk_put h 7 u rfl
theorem hc8 {w : World} {g : Nat} {t : TypeId} {a b c d e f m p : Value} (h : w.heap[g]? = some (.cells #[a, b, c, d, e, f, m, p] t (0, 0))) : w.cell? ⟨g, 0, none⟩ = some a ∧ w.cell? ⟨g, 1, none⟩ = some b ∧ w.cell? ⟨g, 2, none⟩ = some c ∧ w.cell? ⟨g, 3, none⟩ = some d ∧ w.cell? ⟨g, 4, none⟩ = some e ∧ w.cell? ⟨g, 5, none⟩ = some f ∧ w.cell? ⟨g, 6, none⟩ = some m ∧ w.cell? ⟨g, 7, none⟩ = some p := ⟨(blk_cell h 0).trans rfl, (blk_cell h 1).trans rfl, (blk_cell h 2).trans rfl, (blk_cell h 3).trans rfl, (blk_cell h 4).trans rfl, (blk_cell h 5).trans rfl, (blk_cell h 6).trans rfl, (blk_cell h 7).trans rfl⟩
theorem hf8 {w : World} {g : Nat} {t : TypeId} {cs : Array Value} (h : w.heap[g]? = some (.cells cs t (0, 0))) : w.frozen? ⟨g, 0, none⟩ = false ∧ w.frozen? ⟨g, 1, none⟩ = false ∧ w.frozen? ⟨g, 2, none⟩ = false ∧ w.frozen? ⟨g, 3, none⟩ = false ∧ w.frozen? ⟨g, 4, none⟩ = false ∧ w.frozen? ⟨g, 5, none⟩ = false ∧ w.frozen? ⟨g, 6, none⟩ = false ∧ w.frozen? ⟨g, 7, none⟩ = false := ⟨blk_frozen h 0, blk_frozen h 1, blk_frozen h 2, blk_frozen h 3, blk_frozen h 4, blk_frozen h 5, blk_frozen h 6, blk_frozen h 7⟩
abbrev Z8 : Array Value := #[.int .i64 0, .int .i64 0, .int .i64 0, .int .i64 0, .int .i64 0, .int .i64 0, .int .i64 0, .bool false]
abbrev A8 (f : Nat → Int) (b : Bool) : Array Value := #[.int .i64 (f 0), .int .i64 (f 1), .int .i64 (f 2), .int .i64 (f 3), .int .i64 (f 4), .int .i64 (f 5), .int .i64 (f 6), .bool b]
theorem results_c1 {P : Program} {fn : Func} {p : Tmp} {ty : TypeId} (h : fn.results = #[.cell p ty]) (tmps : Array Value) (w : World) (g : Nat) (t : TypeId) (cs : Array Value) (fr : Nat × Nat) (d : TypeDesc)
    (hp : tmps.getD p undef = .pointer (some ⟨g, 0, none⟩)) (hg : w.heap[g]? = some (.cells cs t fr))
    (hu : P.underlying ty = some d) (hd : (match d with | .struct _ | .array _ _ => true | _ => false) = true) (hi : (P.info? ty).map (·.size) = some cs.size) :
    (results fn tmps).run P w = .ok (.agg cs) w := by
  have hp' : tmps[p]?.getD undef = .pointer (some ⟨g, 0, none⟩) := by simpa using hp
  simp [results, h, hp', asAddr, run_loadVar_row w g t ty cs fr d hg hu hd hi]
def accA (f g : Nat → Int) (n : Int) : Nat → Nat → Int
  | 0 => fun _ => 0
  | m + 1 => upd (accA f g n m) m (wrap64 (f m + wrap64 (n * g m)))
def gotA (f g : Nat → Int) (n : Int) : (Nat → Int) × Bool := if allR (L7 f) = true ∧ allR (L7 g) = true ∧ allR (L7 (accA f g n 7)) = true then (accA f g n 7, true) else (fun _ => 0, false)
set_option maxHeartbeats 4000000 in
set_option maxRecDepth 100000 in
theorem refAdd (f g : Nat → Int) (n : Int) (w : World) : Calls Tryd.prog 32 #[.agg (A7 f), .agg (A7 g), .int .i64 n] w fun e W => e = .returned (.agg (A8 (gotA f g n).1 (gotA f g n).2)) ∧ Below w.heap.size w W := by
  have hu40 := Tryd.underlying40
  cases hF : allR (L7 f) with
  | false =>
    cases hG : allR (L7 g) with
    | false =>
      rw [show gotA f g n = (fun _ => 0, false) from if_neg (by rw [hF, hG]; simp)]
      go_enter Tryd.func32, Tryd.ntmps32
      go_wp2_with (first
        | ((with_reducible refine gate_dst (N := 3) rfl ?_); refine box_event ?hg (N := 3) ?hd (cs := A7 f) (t := 23) ?hr ?_; (case hd => rfl); (case hg => rfl); (case hr => first | (go_simp; done) | (go_simp; rfl)); intro ga hg_ wa_ hbox hb; have Ga := Aside0.mk (bsz (bl (Below.refl _ _)) hg_ : w.heap.size ≤ ga); have HB := Aside0.mk hb; have Ba := Aside0.mk hbox; clear hbox hb hg_)
        | ((with_reducible refine gate_dst (N := 4) rfl ?_); refine box_event ?hg (N := 4) ?hd (cs := A7 g) (t := 23) ?hr ?_; (case hd => rfl); (case hg => rfl); (case hr => first | (go_simp; done) | (go_simp; rfl)); intro gb hg_ wb_ hbox hb; have Gb := Aside0.mk (bsz (bl HB.out) hg_ : w.heap.size ≤ gb); have Nab := Aside0.mk (nlt (kp Ba.out) hg_ : ga ≠ gb); have Nba := Aside0.mk (ngt (kp Ba.out) hg_ : gb ≠ ga); replace Ba := Aside0.mk (blk_below (kp Ba.out) hb); replace HB := Aside0.mk (below_step (bl HB.out) hb); have Bb := Aside0.mk hbox; clear hbox hb hg_)
        | ((with_reducible refine gate_dst (N := 6) rfl ?_); refine box_event ?hg (N := 6) ?hd (cs := Z8) (t := 40) ?hr ?_; (case hd => rfl); (case hg => rfl); (case hr => first | (go_simp; done) | (go_simp; rfl)); intro gr hg_ wr_ hbox hb; have Gr := Aside0.mk (bsz (bl HB.out) hg_ : w.heap.size ≤ gr); have Nar := Aside0.mk (nlt (kp Ba.out) hg_ : ga ≠ gr); have Nra := Aside0.mk (ngt (kp Ba.out) hg_ : gr ≠ ga); have Nbr := Aside0.mk (nlt (kp Bb.out) hg_ : gb ≠ gr); have Nrb := Aside0.mk (ngt (kp Bb.out) hg_ : gr ≠ gb); replace Ba := Aside0.mk (blk_below (kp Ba.out) hb); replace Bb := Aside0.mk (blk_below (kp Bb.out) hb); replace HB := Aside0.mk (below_step (bl HB.out) hb); have Br := Aside0.mk hbox; obtain ⟨ca0_, ca1_, ca2_, ca3_, ca4_, ca5_, ca6_⟩ := hc7 Ba.out; obtain ⟨cb0_, cb1_, cb2_, cb3_, cb4_, cb5_, cb6_⟩ := hc7 Bb.out; clear hbox hb hg_)
        | (go_at_call 30; (with_reducible refine (refRight f _).mono ?_); rintro e w_ ⟨rfl, hb⟩; rw [hF]; replace Ba := Aside0.mk (blk_below (kp Ba.out) hb); replace Bb := Aside0.mk (blk_below (kp Bb.out) hb); replace Br := Aside0.mk (blk_below (kp Br.out) hb); replace HB := Aside0.mk (below_step (bl HB.out) hb); clear ca0_ ca1_ ca2_ ca3_ ca4_ ca5_ ca6_ cb0_ cb1_ cb2_ cb3_ cb4_ cb5_ cb6_; obtain ⟨ca0_, ca1_, ca2_, ca3_, ca4_, ca5_, ca6_⟩ := hc7 Ba.out; obtain ⟨cb0_, cb1_, cb2_, cb3_, cb4_, cb5_, cb6_⟩ := hc7 Bb.out; clear hb)
        | (go_at_call 30; (with_reducible refine (refRight g _).mono ?_); rintro e w_ ⟨rfl, hb⟩; rw [hG]; replace Ba := Aside0.mk (blk_below (kp Ba.out) hb); replace Bb := Aside0.mk (blk_below (kp Bb.out) hb); replace Br := Aside0.mk (blk_below (kp Br.out) hb); replace HB := Aside0.mk (below_step (bl HB.out) hb); clear ca0_ ca1_ ca2_ ca3_ ca4_ ca5_ ca6_ cb0_ cb1_ cb2_ cb3_ cb4_ cb5_ cb6_; obtain ⟨ca0_, ca1_, ca2_, ca3_, ca4_, ca5_, ca6_⟩ := hc7 Ba.out; obtain ⟨cb0_, cb1_, cb2_, cb3_, cb4_, cb5_, cb6_⟩ := hc7 Bb.out; obtain ⟨cr0_, cr1_, cr2_, cr3_, cr4_, cr5_, cr6_, cr7_⟩ := hc8 Br.out; obtain ⟨fr0_, fr1_, fr2_, fr3_, fr4_, fr5_, fr6_, fr7_⟩ := hf8 Br.out; clear hb))
      refine bodyPost_ret (results_c1 rfl _ _ gr 40 Z8 (0, 0) _ rfl (kp (p8_7 (kp (p8_6 (kp (p8_5 (kp (p8_4 (kp (p8_3 (kp (p8_2 (kp (p8_1 (kp (p8_0 (kp Br.out))))))))))))))))) Tryd.underlying40 rfl (by kernel_rfl)) rfl ?_
      exact ⟨rfl, bl HB.out⟩
    | true =>
      rw [show gotA f g n = (fun _ => 0, false) from if_neg (by rw [hF, hG]; simp)]
      go_enter Tryd.func32, Tryd.ntmps32
      go_wp2_with (first
        | ((with_reducible refine gate_dst (N := 3) rfl ?_); refine box_event ?hg (N := 3) ?hd (cs := A7 f) (t := 23) ?hr ?_; (case hd => rfl); (case hg => rfl); (case hr => first | (go_simp; done) | (go_simp; rfl)); intro ga hg_ wa_ hbox hb; have Ga := Aside0.mk (bsz (bl (Below.refl _ _)) hg_ : w.heap.size ≤ ga); have HB := Aside0.mk hb; have Ba := Aside0.mk hbox; clear hbox hb hg_)
        | ((with_reducible refine gate_dst (N := 4) rfl ?_); refine box_event ?hg (N := 4) ?hd (cs := A7 g) (t := 23) ?hr ?_; (case hd => rfl); (case hg => rfl); (case hr => first | (go_simp; done) | (go_simp; rfl)); intro gb hg_ wb_ hbox hb; have Gb := Aside0.mk (bsz (bl HB.out) hg_ : w.heap.size ≤ gb); have Nab := Aside0.mk (nlt (kp Ba.out) hg_ : ga ≠ gb); have Nba := Aside0.mk (ngt (kp Ba.out) hg_ : gb ≠ ga); replace Ba := Aside0.mk (blk_below (kp Ba.out) hb); replace HB := Aside0.mk (below_step (bl HB.out) hb); have Bb := Aside0.mk hbox; clear hbox hb hg_)
        | ((with_reducible refine gate_dst (N := 6) rfl ?_); refine box_event ?hg (N := 6) ?hd (cs := Z8) (t := 40) ?hr ?_; (case hd => rfl); (case hg => rfl); (case hr => first | (go_simp; done) | (go_simp; rfl)); intro gr hg_ wr_ hbox hb; have Gr := Aside0.mk (bsz (bl HB.out) hg_ : w.heap.size ≤ gr); have Nar := Aside0.mk (nlt (kp Ba.out) hg_ : ga ≠ gr); have Nra := Aside0.mk (ngt (kp Ba.out) hg_ : gr ≠ ga); have Nbr := Aside0.mk (nlt (kp Bb.out) hg_ : gb ≠ gr); have Nrb := Aside0.mk (ngt (kp Bb.out) hg_ : gr ≠ gb); replace Ba := Aside0.mk (blk_below (kp Ba.out) hb); replace Bb := Aside0.mk (blk_below (kp Bb.out) hb); replace HB := Aside0.mk (below_step (bl HB.out) hb); have Br := Aside0.mk hbox; obtain ⟨ca0_, ca1_, ca2_, ca3_, ca4_, ca5_, ca6_⟩ := hc7 Ba.out; obtain ⟨cb0_, cb1_, cb2_, cb3_, cb4_, cb5_, cb6_⟩ := hc7 Bb.out; clear hbox hb hg_)
        | (go_at_call 30; (with_reducible refine (refRight f _).mono ?_); rintro e w_ ⟨rfl, hb⟩; rw [hF]; replace Ba := Aside0.mk (blk_below (kp Ba.out) hb); replace Bb := Aside0.mk (blk_below (kp Bb.out) hb); replace Br := Aside0.mk (blk_below (kp Br.out) hb); replace HB := Aside0.mk (below_step (bl HB.out) hb); clear ca0_ ca1_ ca2_ ca3_ ca4_ ca5_ ca6_ cb0_ cb1_ cb2_ cb3_ cb4_ cb5_ cb6_; obtain ⟨ca0_, ca1_, ca2_, ca3_, ca4_, ca5_, ca6_⟩ := hc7 Ba.out; obtain ⟨cb0_, cb1_, cb2_, cb3_, cb4_, cb5_, cb6_⟩ := hc7 Bb.out; clear hb)
        | (go_at_call 30; (with_reducible refine (refRight g _).mono ?_); rintro e w_ ⟨rfl, hb⟩; rw [hG]; replace Ba := Aside0.mk (blk_below (kp Ba.out) hb); replace Bb := Aside0.mk (blk_below (kp Bb.out) hb); replace Br := Aside0.mk (blk_below (kp Br.out) hb); replace HB := Aside0.mk (below_step (bl HB.out) hb); clear ca0_ ca1_ ca2_ ca3_ ca4_ ca5_ ca6_ cb0_ cb1_ cb2_ cb3_ cb4_ cb5_ cb6_; obtain ⟨ca0_, ca1_, ca2_, ca3_, ca4_, ca5_, ca6_⟩ := hc7 Ba.out; obtain ⟨cb0_, cb1_, cb2_, cb3_, cb4_, cb5_, cb6_⟩ := hc7 Bb.out; obtain ⟨cr0_, cr1_, cr2_, cr3_, cr4_, cr5_, cr6_, cr7_⟩ := hc8 Br.out; obtain ⟨fr0_, fr1_, fr2_, fr3_, fr4_, fr5_, fr6_, fr7_⟩ := hf8 Br.out; clear hb))
      refine bodyPost_ret (results_c1 rfl _ _ gr 40 Z8 (0, 0) _ rfl (kp (p8_7 (kp (p8_6 (kp (p8_5 (kp (p8_4 (kp (p8_3 (kp (p8_2 (kp (p8_1 (kp (p8_0 (kp Br.out))))))))))))))))) Tryd.underlying40 rfl (by kernel_rfl)) rfl ?_
      exact ⟨rfl, bl HB.out⟩
  | true =>
    cases hG : allR (L7 g) with
    | false =>
      rw [show gotA f g n = (fun _ => 0, false) from if_neg (by rw [hF, hG]; simp)]
      go_enter Tryd.func32, Tryd.ntmps32
      go_wp2_with (first
        | ((with_reducible refine gate_dst (N := 3) rfl ?_); refine box_event ?hg (N := 3) ?hd (cs := A7 f) (t := 23) ?hr ?_; (case hd => rfl); (case hg => rfl); (case hr => first | (go_simp; done) | (go_simp; rfl)); intro ga hg_ wa_ hbox hb; have Ga := Aside0.mk (bsz (bl (Below.refl _ _)) hg_ : w.heap.size ≤ ga); have HB := Aside0.mk hb; have Ba := Aside0.mk hbox; clear hbox hb hg_)
        | ((with_reducible refine gate_dst (N := 4) rfl ?_); refine box_event ?hg (N := 4) ?hd (cs := A7 g) (t := 23) ?hr ?_; (case hd => rfl); (case hg => rfl); (case hr => first | (go_simp; done) | (go_simp; rfl)); intro gb hg_ wb_ hbox hb; have Gb := Aside0.mk (bsz (bl HB.out) hg_ : w.heap.size ≤ gb); have Nab := Aside0.mk (nlt (kp Ba.out) hg_ : ga ≠ gb); have Nba := Aside0.mk (ngt (kp Ba.out) hg_ : gb ≠ ga); replace Ba := Aside0.mk (blk_below (kp Ba.out) hb); replace HB := Aside0.mk (below_step (bl HB.out) hb); have Bb := Aside0.mk hbox; clear hbox hb hg_)
        | ((with_reducible refine gate_dst (N := 6) rfl ?_); refine box_event ?hg (N := 6) ?hd (cs := Z8) (t := 40) ?hr ?_; (case hd => rfl); (case hg => rfl); (case hr => first | (go_simp; done) | (go_simp; rfl)); intro gr hg_ wr_ hbox hb; have Gr := Aside0.mk (bsz (bl HB.out) hg_ : w.heap.size ≤ gr); have Nar := Aside0.mk (nlt (kp Ba.out) hg_ : ga ≠ gr); have Nra := Aside0.mk (ngt (kp Ba.out) hg_ : gr ≠ ga); have Nbr := Aside0.mk (nlt (kp Bb.out) hg_ : gb ≠ gr); have Nrb := Aside0.mk (ngt (kp Bb.out) hg_ : gr ≠ gb); replace Ba := Aside0.mk (blk_below (kp Ba.out) hb); replace Bb := Aside0.mk (blk_below (kp Bb.out) hb); replace HB := Aside0.mk (below_step (bl HB.out) hb); have Br := Aside0.mk hbox; obtain ⟨ca0_, ca1_, ca2_, ca3_, ca4_, ca5_, ca6_⟩ := hc7 Ba.out; obtain ⟨cb0_, cb1_, cb2_, cb3_, cb4_, cb5_, cb6_⟩ := hc7 Bb.out; clear hbox hb hg_)
        | (go_at_call 30; (with_reducible refine (refRight f _).mono ?_); rintro e w_ ⟨rfl, hb⟩; rw [hF]; replace Ba := Aside0.mk (blk_below (kp Ba.out) hb); replace Bb := Aside0.mk (blk_below (kp Bb.out) hb); replace Br := Aside0.mk (blk_below (kp Br.out) hb); replace HB := Aside0.mk (below_step (bl HB.out) hb); clear ca0_ ca1_ ca2_ ca3_ ca4_ ca5_ ca6_ cb0_ cb1_ cb2_ cb3_ cb4_ cb5_ cb6_; obtain ⟨ca0_, ca1_, ca2_, ca3_, ca4_, ca5_, ca6_⟩ := hc7 Ba.out; obtain ⟨cb0_, cb1_, cb2_, cb3_, cb4_, cb5_, cb6_⟩ := hc7 Bb.out; clear hb)
        | (go_at_call 30; (with_reducible refine (refRight g _).mono ?_); rintro e w_ ⟨rfl, hb⟩; rw [hG]; replace Ba := Aside0.mk (blk_below (kp Ba.out) hb); replace Bb := Aside0.mk (blk_below (kp Bb.out) hb); replace Br := Aside0.mk (blk_below (kp Br.out) hb); replace HB := Aside0.mk (below_step (bl HB.out) hb); clear ca0_ ca1_ ca2_ ca3_ ca4_ ca5_ ca6_ cb0_ cb1_ cb2_ cb3_ cb4_ cb5_ cb6_; obtain ⟨ca0_, ca1_, ca2_, ca3_, ca4_, ca5_, ca6_⟩ := hc7 Ba.out; obtain ⟨cb0_, cb1_, cb2_, cb3_, cb4_, cb5_, cb6_⟩ := hc7 Bb.out; obtain ⟨cr0_, cr1_, cr2_, cr3_, cr4_, cr5_, cr6_, cr7_⟩ := hc8 Br.out; obtain ⟨fr0_, fr1_, fr2_, fr3_, fr4_, fr5_, fr6_, fr7_⟩ := hf8 Br.out; clear hb))
      refine bodyPost_ret (results_c1 rfl _ _ gr 40 Z8 (0, 0) _ rfl (kp (p8_7 (kp (p8_6 (kp (p8_5 (kp (p8_4 (kp (p8_3 (kp (p8_2 (kp (p8_1 (kp (p8_0 (kp Br.out))))))))))))))))) Tryd.underlying40 rfl (by kernel_rfl)) rfl ?_
      exact ⟨rfl, bl HB.out⟩
    | true =>
      go_enter Tryd.func32, Tryd.ntmps32
      go_wp2_with (first
        | ((with_reducible refine gate_dst (N := 3) rfl ?_); refine box_event ?hg (N := 3) ?hd (cs := A7 f) (t := 23) ?hr ?_; (case hd => rfl); (case hg => rfl); (case hr => first | (go_simp; done) | (go_simp; rfl)); intro ga hg_ wa_ hbox hb; have Ga := Aside0.mk (bsz (bl (Below.refl _ _)) hg_ : w.heap.size ≤ ga); have HB := Aside0.mk hb; have Ba := Aside0.mk hbox; clear hbox hb hg_)
        | ((with_reducible refine gate_dst (N := 4) rfl ?_); refine box_event ?hg (N := 4) ?hd (cs := A7 g) (t := 23) ?hr ?_; (case hd => rfl); (case hg => rfl); (case hr => first | (go_simp; done) | (go_simp; rfl)); intro gb hg_ wb_ hbox hb; have Gb := Aside0.mk (bsz (bl HB.out) hg_ : w.heap.size ≤ gb); have Nab := Aside0.mk (nlt (kp Ba.out) hg_ : ga ≠ gb); have Nba := Aside0.mk (ngt (kp Ba.out) hg_ : gb ≠ ga); replace Ba := Aside0.mk (blk_below (kp Ba.out) hb); replace HB := Aside0.mk (below_step (bl HB.out) hb); have Bb := Aside0.mk hbox; clear hbox hb hg_)
        | ((with_reducible refine gate_dst (N := 6) rfl ?_); refine box_event ?hg (N := 6) ?hd (cs := Z8) (t := 40) ?hr ?_; (case hd => rfl); (case hg => rfl); (case hr => first | (go_simp; done) | (go_simp; rfl)); intro gr hg_ wr_ hbox hb; have Gr := Aside0.mk (bsz (bl HB.out) hg_ : w.heap.size ≤ gr); have Nar := Aside0.mk (nlt (kp Ba.out) hg_ : ga ≠ gr); have Nra := Aside0.mk (ngt (kp Ba.out) hg_ : gr ≠ ga); have Nbr := Aside0.mk (nlt (kp Bb.out) hg_ : gb ≠ gr); have Nrb := Aside0.mk (ngt (kp Bb.out) hg_ : gr ≠ gb); replace Ba := Aside0.mk (blk_below (kp Ba.out) hb); replace Bb := Aside0.mk (blk_below (kp Bb.out) hb); replace HB := Aside0.mk (below_step (bl HB.out) hb); have Br := Aside0.mk hbox; obtain ⟨ca0_, ca1_, ca2_, ca3_, ca4_, ca5_, ca6_⟩ := hc7 Ba.out; obtain ⟨cb0_, cb1_, cb2_, cb3_, cb4_, cb5_, cb6_⟩ := hc7 Bb.out; clear hbox hb hg_)
        | (go_at_call 30; (with_reducible refine (refRight f _).mono ?_); rintro e w_ ⟨rfl, hb⟩; rw [hF]; replace Ba := Aside0.mk (blk_below (kp Ba.out) hb); replace Bb := Aside0.mk (blk_below (kp Bb.out) hb); replace Br := Aside0.mk (blk_below (kp Br.out) hb); replace HB := Aside0.mk (below_step (bl HB.out) hb); clear ca0_ ca1_ ca2_ ca3_ ca4_ ca5_ ca6_ cb0_ cb1_ cb2_ cb3_ cb4_ cb5_ cb6_; obtain ⟨ca0_, ca1_, ca2_, ca3_, ca4_, ca5_, ca6_⟩ := hc7 Ba.out; obtain ⟨cb0_, cb1_, cb2_, cb3_, cb4_, cb5_, cb6_⟩ := hc7 Bb.out; clear hb)
        | (go_at_call 30; (with_reducible refine (refRight g _).mono ?_); rintro e w_ ⟨rfl, hb⟩; rw [hG]; replace Ba := Aside0.mk (blk_below (kp Ba.out) hb); replace Bb := Aside0.mk (blk_below (kp Bb.out) hb); replace Br := Aside0.mk (blk_below (kp Br.out) hb); replace HB := Aside0.mk (below_step (bl HB.out) hb); clear ca0_ ca1_ ca2_ ca3_ ca4_ ca5_ ca6_ cb0_ cb1_ cb2_ cb3_ cb4_ cb5_ cb6_; obtain ⟨ca0_, ca1_, ca2_, ca3_, ca4_, ca5_, ca6_⟩ := hc7 Ba.out; obtain ⟨cb0_, cb1_, cb2_, cb3_, cb4_, cb5_, cb6_⟩ := hc7 Bb.out; clear ca0_ ca1_ ca2_ ca3_ ca4_ ca5_ ca6_ cb0_ cb1_ cb2_ cb3_ cb4_ cb5_ cb6_; clear hb)
        | ((with_reducible refine gate_dst (N := 9) rfl ?_); refine box_event ?hg (N := 9) ?hd (cs := A7 (accA f g n 0)) (t := 23) ?hr ?_; (case hd => rfl); (case hg => rfl); (case hr => first | (go_simp; done) | (go_simp; rfl)); intro gd hg_ wd_ hbox hb; have Gd := Aside0.mk (bsz (bl HB.out) hg_ : w.heap.size ≤ gd); have Nad := Aside0.mk (nlt (kp Ba.out) hg_ : ga ≠ gd); have Nda := Aside0.mk (ngt (kp Ba.out) hg_ : gd ≠ ga); have Nbd := Aside0.mk (nlt (kp Bb.out) hg_ : gb ≠ gd); have Ndb := Aside0.mk (ngt (kp Bb.out) hg_ : gd ≠ gb); have Nrd := Aside0.mk (nlt (kp Br.out) hg_ : gr ≠ gd); have Ndr := Aside0.mk (ngt (kp Br.out) hg_ : gd ≠ gr); replace Ba := Aside0.mk (blk_below (kp Ba.out) hb); replace Bb := Aside0.mk (blk_below (kp Bb.out) hb); replace Br := Aside0.mk (blk_below (kp Br.out) hb); replace HB := Aside0.mk (below_step (bl HB.out) hb); have Bd := Aside0.mk hbox; obtain ⟨cd0_, cd1_, cd2_, cd3_, cd4_, cd5_, cd6_⟩ := hc7 Bd.out; obtain ⟨fd0_, fd1_, fd2_, fd3_, fd4_, fd5_, fd6_⟩ := hf7 Bd.out; clear hbox hb hg_))
      clear cd0_ cd1_ cd2_ cd3_ cd4_ cd5_ cd6_ fd0_ fd1_ fd2_ fd3_ fd4_ fd5_ fd6_
      go_loopw [10] (fun v wr => ∃ k : Nat, v = .int .i64 k ∧ k ≤ 7 ∧ Aside0 (wr.heap[ga]? = some (.cells (A7 f) 23 (0, 0))) ∧ Aside0 (wr.heap[gb]? = some (.cells (A7 g) 23 (0, 0))) ∧ Aside0 (wr.heap[gr]? = some (.cells Z8 40 (0, 0))) ∧ Aside0 (wr.heap[gd]? = some (.cells (A7 (accA f g n k)) 23 (0, 0))) ∧ Aside0 (Below w.heap.size w wr)) (fun v _ => 7 - (intOf v).toNat)
      case atStart => exact ⟨0, rfl, by omega, ⟨kp Ba.out⟩, ⟨kp Bb.out⟩, ⟨kp Br.out⟩, ⟨kp (p7_6 (kp (p7_5 (kp (p7_4 (kp (p7_3 (kp (p7_2 (kp (p7_1 (kp (p7_0 (kp Bd.out))))))))))))))⟩, ⟨bl HB.out⟩⟩
      case round =>
        clear Ba Bb Br Bd HB
        obtain ⟨k, rfl, hk, Ba, Bb, Br, Bd, HB⟩ := hrel
        by_cases h7 : k < 7
        · have c1 := get7n Ba.out k h7
          have c2 := get7n Bb.out k h7
          have c3 := get7n Bd.out k h7
          have f3 := blk_frozen Bd.out k
          have n1 := Nad.out; have n2 := Nbd.out; have n3 := Nda.out; have n4 := Ndb.out
          go_wp2
          go_region
          all_goals (try go_wp2)
          go_roundw
          case rel => exact ⟨k + 1, by simp, by omega, ⟨kp Ba.out⟩, ⟨kp Bb.out⟩, ⟨kp Br.out⟩, ⟨put7n Bd.out k _ h7⟩, ⟨bl HB.out⟩⟩
          case measure => simp [intOf]; omega
        · obtain rfl : k = 7 := by omega
          clear hk
          obtain ⟨F7, hF7⟩ : ∃ F7, accA f g n 7 = F7 := ⟨_, rfl⟩
          rw [hF7] at Bd
          obtain ⟨cd0_, cd1_, cd2_, cd3_, cd4_, cd5_, cd6_⟩ := hc7 Bd.out
          obtain ⟨cr0_, cr1_, cr2_, cr3_, cr4_, cr5_, cr6_, cr7_⟩ := hc8 Br.out
          obtain ⟨fr0_, fr1_, fr2_, fr3_, fr4_, fr5_, fr6_, fr7_⟩ := hf8 Br.out
          cases hH : allR (L7 F7) with
          | false =>
            have HE := Aside0.mk (show gotA f g n = (fun _ => 0, false) from if_neg (by rw [hF7, hH]; simp))
            go_wp2_with (first | (go_at_call 30; (with_reducible refine (refRight F7 _).mono ?_); rintro e w_ ⟨rfl, hb⟩; rw [hH]; replace Ba := Aside0.mk (blk_below (kp Ba.out) hb); replace Bb := Aside0.mk (blk_below (kp Bb.out) hb); replace Br := Aside0.mk (blk_below (kp Br.out) hb); replace Bd := Aside0.mk (blk_below (kp Bd.out) hb); replace HB := Aside0.mk (below_step (bl HB.out) hb); clear cr0_ cr1_ cr2_ cr3_ cr4_ cr5_ cr6_ cr7_ cd0_ cd1_ cd2_ cd3_ cd4_ cd5_ cd6_ fr0_ fr1_ fr2_ fr3_ fr4_ fr5_ fr6_ fr7_; obtain ⟨cr0_, cr1_, cr2_, cr3_, cr4_, cr5_, cr6_, cr7_⟩ := hc8 Br.out; obtain ⟨cd0_, cd1_, cd2_, cd3_, cd4_, cd5_, cd6_⟩ := hc7 Bd.out; obtain ⟨fr0_, fr1_, fr2_, fr3_, fr4_, fr5_, fr6_, fr7_⟩ := hf8 Br.out; clear hb))
            refine bodyPost_ret (results_c1 rfl _ _ gr 40 Z8 (0, 0) _ rfl (kp (p8_7 (kp (p8_6 (kp (p8_5 (kp (p8_4 (kp (p8_3 (kp (p8_2 (kp (p8_1 (kp (p8_0 (kp Br.out))))))))))))))))) Tryd.underlying40 rfl (by kernel_rfl)) rfl ?_
            exact ⟨by rw [HE.out], bl HB.out⟩
          | true =>
            have HE := Aside0.mk (show gotA f g n = (F7, true) from (if_pos (by rw [hF7, hH]; exact ⟨hF, hG, rfl⟩)).trans (by rw [hF7]))
            go_wp2_with (first | (go_at_call 30; (with_reducible refine (refRight F7 _).mono ?_); rintro e w_ ⟨rfl, hb⟩; rw [hH]; replace Ba := Aside0.mk (blk_below (kp Ba.out) hb); replace Bb := Aside0.mk (blk_below (kp Bb.out) hb); replace Br := Aside0.mk (blk_below (kp Br.out) hb); replace Bd := Aside0.mk (blk_below (kp Bd.out) hb); replace HB := Aside0.mk (below_step (bl HB.out) hb); clear cr0_ cr1_ cr2_ cr3_ cr4_ cr5_ cr6_ cr7_ cd0_ cd1_ cd2_ cd3_ cd4_ cd5_ cd6_ fr0_ fr1_ fr2_ fr3_ fr4_ fr5_ fr6_ fr7_; obtain ⟨cr0_, cr1_, cr2_, cr3_, cr4_, cr5_, cr6_, cr7_⟩ := hc8 Br.out; obtain ⟨cd0_, cd1_, cd2_, cd3_, cd4_, cd5_, cd6_⟩ := hc7 Bd.out; obtain ⟨fr0_, fr1_, fr2_, fr3_, fr4_, fr5_, fr6_, fr7_⟩ := hf8 Br.out; clear hb))
            refine bodyPost_ret (results_c1 rfl _ _ gr 40 (A8 F7 true) (0, 0) _ rfl (kp (p8_7 (kp (p8_6 (kp (p8_5 (kp (p8_4 (kp (p8_3 (kp (p8_2 (kp (p8_1 (kp (p8_0 (kp Br.out))))))))))))))))) Tryd.underlying40 rfl (by kernel_rfl)) rfl ?_
            exact ⟨by rw [HE.out], bl HB.out⟩
def accT (f : Nat → Int) (n : Int) : Nat → Nat → Int
  | 0 => fun _ => 0
  | m + 1 => if f m = 0 then accT f n m else upd (accT f n m) m (wrap64 (f m * n))
def gotT (f : Nat → Int) (n : Int) : (Nat → Int) × Bool := if allR (L7 f) = true ∧ (∀ q : Fin 7, f q.1 = 0 ∨ -99 ≤ n ∧ n ≤ 99) ∧ allR (L7 (accT f n 7)) = true then (accT f n 7, true) else (fun _ => 0, false)
set_option maxHeartbeats 4000000 in
set_option maxRecDepth 100000 in
theorem refTimes (f : Nat → Int) (n : Int) (w : World) : Calls Tryd.prog 33 #[.agg (A7 f), .int .i64 n] w fun e W => e = .returned (.agg (A8 (gotT f n).1 (gotT f n).2)) ∧ Below w.heap.size w W := by
  have hu40 := Tryd.underlying40
  cases hF : allR (L7 f) with
  | false =>
    rw [show gotT f n = (fun _ => 0, false) from if_neg (by rw [hF]; simp)]
    go_enter Tryd.func33, Tryd.ntmps33
    go_wp2_with (first
      | ((with_reducible refine gate_dst (N := 2) rfl ?_); refine box_event ?hg (N := 2) ?hd (cs := A7 f) (t := 23) ?hr ?_; (case hd => rfl); (case hg => rfl); (case hr => first | (go_simp; done) | (go_simp; rfl)); intro ga hg_ wa_ hbox hb; have Ga := Aside0.mk (bsz (bl (Below.refl _ _)) hg_ : w.heap.size ≤ ga); have HB := Aside0.mk hb; have Ba := Aside0.mk hbox; clear hbox hb hg_)
      | ((with_reducible refine gate_dst (N := 4) rfl ?_); refine box_event ?hg (N := 4) ?hd (cs := Z8) (t := 40) ?hr ?_; (case hd => rfl); (case hg => rfl); (case hr => first | (go_simp; done) | (go_simp; rfl)); intro gr hg_ wr_ hbox hb; have Gr := Aside0.mk (bsz (bl HB.out) hg_ : w.heap.size ≤ gr); have Nar := Aside0.mk (nlt (kp Ba.out) hg_ : ga ≠ gr); have Nra := Aside0.mk (ngt (kp Ba.out) hg_ : gr ≠ ga); replace Ba := Aside0.mk (blk_below (kp Ba.out) hb); replace HB := Aside0.mk (below_step (bl HB.out) hb); have Br := Aside0.mk hbox; obtain ⟨ca0_, ca1_, ca2_, ca3_, ca4_, ca5_, ca6_⟩ := hc7 Ba.out; clear hbox hb hg_)
      | (go_at_call 30; (with_reducible refine (refRight f _).mono ?_); rintro e w_ ⟨rfl, hb⟩; rw [hF]; replace Ba := Aside0.mk (blk_below (kp Ba.out) hb); replace Br := Aside0.mk (blk_below (kp Br.out) hb); replace HB := Aside0.mk (below_step (bl HB.out) hb); clear ca0_ ca1_ ca2_ ca3_ ca4_ ca5_ ca6_; obtain ⟨cr0_, cr1_, cr2_, cr3_, cr4_, cr5_, cr6_, cr7_⟩ := hc8 Br.out; obtain ⟨fr0_, fr1_, fr2_, fr3_, fr4_, fr5_, fr6_, fr7_⟩ := hf8 Br.out; clear hb))
    refine bodyPost_ret (results_c1 rfl _ _ gr 40 Z8 (0, 0) _ rfl (kp (p8_7 (kp (p8_6 (kp (p8_5 (kp (p8_4 (kp (p8_3 (kp (p8_2 (kp (p8_1 (kp (p8_0 (kp Br.out))))))))))))))))) Tryd.underlying40 rfl (by kernel_rfl)) rfl ?_
    exact ⟨rfl, bl HB.out⟩
  | true =>
    go_enter Tryd.func33, Tryd.ntmps33
    go_wp2_with (first
      | ((with_reducible refine gate_dst (N := 2) rfl ?_); refine box_event ?hg (N := 2) ?hd (cs := A7 f) (t := 23) ?hr ?_; (case hd => rfl); (case hg => rfl); (case hr => first | (go_simp; done) | (go_simp; rfl)); intro ga hg_ wa_ hbox hb; have Ga := Aside0.mk (bsz (bl (Below.refl _ _)) hg_ : w.heap.size ≤ ga); have HB := Aside0.mk hb; have Ba := Aside0.mk hbox; clear hbox hb hg_)
      | ((with_reducible refine gate_dst (N := 4) rfl ?_); refine box_event ?hg (N := 4) ?hd (cs := Z8) (t := 40) ?hr ?_; (case hd => rfl); (case hg => rfl); (case hr => first | (go_simp; done) | (go_simp; rfl)); intro gr hg_ wr_ hbox hb; have Gr := Aside0.mk (bsz (bl HB.out) hg_ : w.heap.size ≤ gr); have Nar := Aside0.mk (nlt (kp Ba.out) hg_ : ga ≠ gr); have Nra := Aside0.mk (ngt (kp Ba.out) hg_ : gr ≠ ga); replace Ba := Aside0.mk (blk_below (kp Ba.out) hb); replace HB := Aside0.mk (below_step (bl HB.out) hb); have Br := Aside0.mk hbox; obtain ⟨ca0_, ca1_, ca2_, ca3_, ca4_, ca5_, ca6_⟩ := hc7 Ba.out; clear hbox hb hg_)
      | (go_at_call 30; (with_reducible refine (refRight f _).mono ?_); rintro e w_ ⟨rfl, hb⟩; rw [hF]; replace Ba := Aside0.mk (blk_below (kp Ba.out) hb); replace Br := Aside0.mk (blk_below (kp Br.out) hb); replace HB := Aside0.mk (below_step (bl HB.out) hb); clear ca0_ ca1_ ca2_ ca3_ ca4_ ca5_ ca6_; clear hb)
      | ((with_reducible refine gate_dst (N := 6) rfl ?_); refine box_event ?hg (N := 6) ?hd (cs := A7 (accT f n 0)) (t := 23) ?hr ?_; (case hd => rfl); (case hg => rfl); (case hr => first | (go_simp; done) | (go_simp; rfl)); intro gd hg_ wd_ hbox hb; have Gd := Aside0.mk (bsz (bl HB.out) hg_ : w.heap.size ≤ gd); have Nad := Aside0.mk (nlt (kp Ba.out) hg_ : ga ≠ gd); have Nda := Aside0.mk (ngt (kp Ba.out) hg_ : gd ≠ ga); have Nrd := Aside0.mk (nlt (kp Br.out) hg_ : gr ≠ gd); have Ndr := Aside0.mk (ngt (kp Br.out) hg_ : gd ≠ gr); replace Ba := Aside0.mk (blk_below (kp Ba.out) hb); replace Br := Aside0.mk (blk_below (kp Br.out) hb); replace HB := Aside0.mk (below_step (bl HB.out) hb); have Bd := Aside0.mk hbox; obtain ⟨cd0_, cd1_, cd2_, cd3_, cd4_, cd5_, cd6_⟩ := hc7 Bd.out; obtain ⟨fd0_, fd1_, fd2_, fd3_, fd4_, fd5_, fd6_⟩ := hf7 Bd.out; clear hbox hb hg_))
    clear cd0_ cd1_ cd2_ cd3_ cd4_ cd5_ cd6_ fd0_ fd1_ fd2_ fd3_ fd4_ fd5_ fd6_
    go_loopw [7] (fun v wr => ∃ k : Nat, v = .int .i64 k ∧ k ≤ 7 ∧ Aside0 (∀ q, q < k → f q = 0 ∨ -99 ≤ n ∧ n ≤ 99) ∧ Aside0 (wr.heap[ga]? = some (.cells (A7 f) 23 (0, 0))) ∧ Aside0 (wr.heap[gr]? = some (.cells Z8 40 (0, 0))) ∧ Aside0 (wr.heap[gd]? = some (.cells (A7 (accT f n k)) 23 (0, 0))) ∧ Aside0 (Below w.heap.size w wr)) (fun v _ => 7 - (intOf v).toNat)
    case atStart => exact ⟨0, rfl, by omega, ⟨fun q h => absurd h (by omega)⟩, ⟨kp Ba.out⟩, ⟨kp Br.out⟩, ⟨kp (p7_6 (kp (p7_5 (kp (p7_4 (kp (p7_3 (kp (p7_2 (kp (p7_1 (kp (p7_0 (kp Bd.out))))))))))))))⟩, ⟨bl HB.out⟩⟩
    case round =>
      clear Ba Br Bd HB
      obtain ⟨k, rfl, hk, HN, Ba, Br, Bd, HB⟩ := hrel
      by_cases h7 : k < 7
      · have c1 := get7n Ba.out k h7
        have c3 := get7n Bd.out k h7
        have f3 := blk_frozen Bd.out k
        have n1 := Nad.out; have n3 := Nda.out
        by_cases hz : f k = 0
        · go_wp2
          go_roundw
          case rel => exact ⟨k + 1, by simp, by omega, ⟨fun q h => if hq : q < k then HN.out q hq else .inl (by rw [show q = k from by omega]; exact hz)⟩, ⟨kp Ba.out⟩, ⟨kp Br.out⟩, ⟨by rw [accT, if_pos hz]; exact Bd.out⟩, ⟨bl HB.out⟩⟩
          case measure => simp [intOf]; omega
        · by_cases hn : n < -99
          · have HE := Aside0.mk (show gotT f n = (fun _ => 0, false) from if_neg (fun h => by have h_ := h.2.1 ⟨k, h7⟩; simp only at h_; omega))
            obtain ⟨cr0_, cr1_, cr2_, cr3_, cr4_, cr5_, cr6_, cr7_⟩ := hc8 Br.out
            obtain ⟨fr0_, fr1_, fr2_, fr3_, fr4_, fr5_, fr6_, fr7_⟩ := hf8 Br.out
            go_wp2
            refine bodyPost_ret (results_c1 rfl _ _ gr 40 Z8 (0, 0) _ rfl (kp (p8_7 (kp (p8_6 (kp (p8_5 (kp (p8_4 (kp (p8_3 (kp (p8_2 (kp (p8_1 (kp (p8_0 (kp Br.out))))))))))))))))) Tryd.underlying40 rfl (by kernel_rfl)) rfl ?_
            exact ⟨by rw [HE.out], bl HB.out⟩
          · by_cases hm : n > 99
            · have HE := Aside0.mk (show gotT f n = (fun _ => 0, false) from if_neg (fun h => by have h_ := h.2.1 ⟨k, h7⟩; simp only at h_; omega))
              obtain ⟨cr0_, cr1_, cr2_, cr3_, cr4_, cr5_, cr6_, cr7_⟩ := hc8 Br.out
              obtain ⟨fr0_, fr1_, fr2_, fr3_, fr4_, fr5_, fr6_, fr7_⟩ := hf8 Br.out
              go_wp2
              refine bodyPost_ret (results_c1 rfl _ _ gr 40 Z8 (0, 0) _ rfl (kp (p8_7 (kp (p8_6 (kp (p8_5 (kp (p8_4 (kp (p8_3 (kp (p8_2 (kp (p8_1 (kp (p8_0 (kp Br.out))))))))))))))))) Tryd.underlying40 rfl (by kernel_rfl)) rfl ?_
              exact ⟨by rw [HE.out], bl HB.out⟩
            · go_wp2
              go_roundw
              case rel => exact ⟨k + 1, by simp, by omega, ⟨fun q h => if hq : q < k then HN.out q hq else .inr (by omega)⟩, ⟨kp Ba.out⟩, ⟨kp Br.out⟩, ⟨by rw [accT, if_neg hz]; exact put7n Bd.out k _ h7⟩, ⟨bl HB.out⟩⟩
              case measure => simp [intOf]; omega
      · obtain rfl : k = 7 := by omega
        have hN : ∀ q : Fin 7, f q.1 = 0 ∨ -99 ≤ n ∧ n ≤ 99 := fun q => HN.out q.1 q.2
        clear hk
        obtain ⟨F7, hF7⟩ : ∃ F7, accT f n 7 = F7 := ⟨_, rfl⟩
        rw [hF7] at Bd
        obtain ⟨cd0_, cd1_, cd2_, cd3_, cd4_, cd5_, cd6_⟩ := hc7 Bd.out
        obtain ⟨cr0_, cr1_, cr2_, cr3_, cr4_, cr5_, cr6_, cr7_⟩ := hc8 Br.out
        obtain ⟨fr0_, fr1_, fr2_, fr3_, fr4_, fr5_, fr6_, fr7_⟩ := hf8 Br.out
        cases hH : allR (L7 F7) with
        | false =>
          have HE := Aside0.mk (show gotT f n = (fun _ => 0, false) from if_neg (by rw [hF7, hH]; simp))
          go_wp2_with (first | (go_at_call 30; (with_reducible refine (refRight F7 _).mono ?_); rintro e w_ ⟨rfl, hb⟩; rw [hH]; replace Ba := Aside0.mk (blk_below (kp Ba.out) hb); replace Br := Aside0.mk (blk_below (kp Br.out) hb); replace Bd := Aside0.mk (blk_below (kp Bd.out) hb); replace HB := Aside0.mk (below_step (bl HB.out) hb); clear cr0_ cr1_ cr2_ cr3_ cr4_ cr5_ cr6_ cr7_ cd0_ cd1_ cd2_ cd3_ cd4_ cd5_ cd6_ fr0_ fr1_ fr2_ fr3_ fr4_ fr5_ fr6_ fr7_; obtain ⟨cr0_, cr1_, cr2_, cr3_, cr4_, cr5_, cr6_, cr7_⟩ := hc8 Br.out; obtain ⟨cd0_, cd1_, cd2_, cd3_, cd4_, cd5_, cd6_⟩ := hc7 Bd.out; obtain ⟨fr0_, fr1_, fr2_, fr3_, fr4_, fr5_, fr6_, fr7_⟩ := hf8 Br.out; clear hb))
          refine bodyPost_ret (results_c1 rfl _ _ gr 40 Z8 (0, 0) _ rfl (kp (p8_7 (kp (p8_6 (kp (p8_5 (kp (p8_4 (kp (p8_3 (kp (p8_2 (kp (p8_1 (kp (p8_0 (kp Br.out))))))))))))))))) Tryd.underlying40 rfl (by kernel_rfl)) rfl ?_
          exact ⟨by rw [HE.out], bl HB.out⟩
        | true =>
          have HE := Aside0.mk (show gotT f n = (F7, true) from (if_pos (by rw [hF7, hH]; exact ⟨hF, hN, rfl⟩)).trans (by rw [hF7]))
          go_wp2_with (first | (go_at_call 30; (with_reducible refine (refRight F7 _).mono ?_); rintro e w_ ⟨rfl, hb⟩; rw [hH]; replace Ba := Aside0.mk (blk_below (kp Ba.out) hb); replace Br := Aside0.mk (blk_below (kp Br.out) hb); replace Bd := Aside0.mk (blk_below (kp Bd.out) hb); replace HB := Aside0.mk (below_step (bl HB.out) hb); clear cr0_ cr1_ cr2_ cr3_ cr4_ cr5_ cr6_ cr7_ cd0_ cd1_ cd2_ cd3_ cd4_ cd5_ cd6_ fr0_ fr1_ fr2_ fr3_ fr4_ fr5_ fr6_ fr7_; obtain ⟨cr0_, cr1_, cr2_, cr3_, cr4_, cr5_, cr6_, cr7_⟩ := hc8 Br.out; obtain ⟨cd0_, cd1_, cd2_, cd3_, cd4_, cd5_, cd6_⟩ := hc7 Bd.out; obtain ⟨fr0_, fr1_, fr2_, fr3_, fr4_, fr5_, fr6_, fr7_⟩ := hf8 Br.out; clear hb))
          refine bodyPost_ret (results_c1 rfl _ _ gr 40 (A8 F7 true) (0, 0) _ rfl (kp (p8_7 (kp (p8_6 (kp (p8_5 (kp (p8_4 (kp (p8_3 (kp (p8_2 (kp (p8_1 (kp (p8_0 (kp Br.out))))))))))))))))) Tryd.underlying40 rfl (by kernel_rfl)) rfl ?_
          exact ⟨by rw [HE.out], bl HB.out⟩
def fn7 (a0 a1 a2 a3 a4 a5 a6 : Int) : Nat → Int
  | 0 => a0
  | 1 => a1
  | 2 => a2
  | 3 => a3
  | 4 => a4
  | 5 => a5
  | _ => a6
def out8 (x : (Nat → Int) × Bool) : D8 := (x.1 0, x.1 1, x.1 2, x.1 3, x.1 4, x.1 5, x.1 6, x.2)
end Go.Proofs.YtclpbnfcajbmkaaDoor.Di
namespace Go.Proofs.YtclpbnfcajbmkaaDoor
open Go Go.RowKit Go.Proofs.YtclpbnfcajbmkaaDoor.Di
def drachmref03_Right.f (a0_0 a0_1 a0_2 a0_3 a0_4 a0_5 a0_6 : Int) : Option Bool := some (allR [a0_0, a0_1, a0_2, a0_3, a0_4, a0_5, a0_6])
theorem drachmref03_Right.calls (a0_0 a0_1 a0_2 a0_3 a0_4 a0_5 a0_6 : Int) (r : Bool) (w : World) (h : drachmref03_Right.f a0_0 a0_1 a0_2 a0_3 a0_4 a0_5 a0_6 = some r) :
    Calls Tryd.prog 30 #[.agg #[.int .i64 a0_0, .int .i64 a0_1, .int .i64 a0_2, .int .i64 a0_3, .int .i64 a0_4, .int .i64 a0_5, .int .i64 a0_6]] w fun e w' => e = .returned (.bool r) ∧ Below w.heap.size w w' := by
  obtain rfl := Option.some.inj h
  exact refRight (fn7 a0_0 a0_1 a0_2 a0_3 a0_4 a0_5 a0_6) w
def drachmref03_Add.f (a0_0 a0_1 a0_2 a0_3 a0_4 a0_5 a0_6 a1_0 a1_1 a1_2 a1_3 a1_4 a1_5 a1_6 a2 : Int) : Option D8 := some (out8 (gotA (fn7 a0_0 a0_1 a0_2 a0_3 a0_4 a0_5 a0_6) (fn7 a1_0 a1_1 a1_2 a1_3 a1_4 a1_5 a1_6) a2))
theorem drachmref03_Add.calls (a0_0 a0_1 a0_2 a0_3 a0_4 a0_5 a0_6 a1_0 a1_1 a1_2 a1_3 a1_4 a1_5 a1_6 a2 : Int) (r1 r2 r3 r4 r5 r6 r7 : Int) (r8 : Bool) (w : World) (h : drachmref03_Add.f a0_0 a0_1 a0_2 a0_3 a0_4 a0_5 a0_6 a1_0 a1_1 a1_2 a1_3 a1_4 a1_5 a1_6 a2 = some (r1, r2, r3, r4, r5, r6, r7, r8)) :
    Calls Tryd.prog 32 #[.agg #[.int .i64 a0_0, .int .i64 a0_1, .int .i64 a0_2, .int .i64 a0_3, .int .i64 a0_4, .int .i64 a0_5, .int .i64 a0_6], .agg #[.int .i64 a1_0, .int .i64 a1_1, .int .i64 a1_2, .int .i64 a1_3, .int .i64 a1_4, .int .i64 a1_5, .int .i64 a1_6], .int .i64 a2] w fun e w' => e = .returned (.agg #[.int .i64 r1, .int .i64 r2, .int .i64 r3, .int .i64 r4, .int .i64 r5, .int .i64 r6, .int .i64 r7, .bool r8]) ∧ Below w.heap.size w w' := by
  have h := Option.some.inj h
  simp only [out8, Prod.mk.injEq] at h
  obtain ⟨rfl, rfl, rfl, rfl, rfl, rfl, rfl, rfl⟩ := h
  exact refAdd (fn7 a0_0 a0_1 a0_2 a0_3 a0_4 a0_5 a0_6) (fn7 a1_0 a1_1 a1_2 a1_3 a1_4 a1_5 a1_6) a2 w
def drachmref03_Times.f (a0_0 a0_1 a0_2 a0_3 a0_4 a0_5 a0_6 a1 : Int) : Option D8 := some (out8 (gotT (fn7 a0_0 a0_1 a0_2 a0_3 a0_4 a0_5 a0_6) a1))
theorem drachmref03_Times.calls (a0_0 a0_1 a0_2 a0_3 a0_4 a0_5 a0_6 a1 : Int) (r1 r2 r3 r4 r5 r6 r7 : Int) (r8 : Bool) (w : World) (h : drachmref03_Times.f a0_0 a0_1 a0_2 a0_3 a0_4 a0_5 a0_6 a1 = some (r1, r2, r3, r4, r5, r6, r7, r8)) :
    Calls Tryd.prog 33 #[.agg #[.int .i64 a0_0, .int .i64 a0_1, .int .i64 a0_2, .int .i64 a0_3, .int .i64 a0_4, .int .i64 a0_5, .int .i64 a0_6], .int .i64 a1] w fun e w' => e = .returned (.agg #[.int .i64 r1, .int .i64 r2, .int .i64 r3, .int .i64 r4, .int .i64 r5, .int .i64 r6, .int .i64 r7, .bool r8]) ∧ Below w.heap.size w w' := by
  have h := Option.some.inj h
  simp only [out8, Prod.mk.injEq] at h
  obtain ⟨rfl, rfl, rfl, rfl, rfl, rfl, rfl, rfl⟩ := h
  exact refTimes (fn7 a0_0 a0_1 a0_2 a0_3 a0_4 a0_5 a0_6) a1 w
end Go.Proofs.YtclpbnfcajbmkaaDoor
