/- frac.form's closure 'put': how it multiplies a captured number, and what becomes of the captured test. Its conditions: both variables' blocks, apart. -/
import Derived.Test.YthfibffgmoblaaaDoorPBx
import Derived.Test.YthfibffgmoblaaaDoorGlob
namespace Go.Proofs.YthfibffgmoblaaaDoor
open Go.RowKit Go.Proofs.YthfibffgmoblaaaDoor.PB Go.Proofs.YthfibffgmoblaaaDoorW.PrintWords Go.Proofs.YthfibffgmoblaaaDoorW.PrintLast Go.Proofs.YthfibffgmoblaaaDoorW.PrintMore Flat
set_option linter.unusedVariables false
def putN (kf : Nat) (p : Int) : Nat → Int → Bool → Option (Int × Bool)
  | 0, n, ok => some (n, ok)
  | d + 1, n, ok => (whole_Mul.f kf n p).bind fun r => if (ok && r.2) = true then putN kf p d r.1 true else some (n, false)
structure FInv (gn go : Nat) (w : World) (n : Int) (ok : Bool) (wr : World) : Prop where
  hn : wr.heap[gn]? = some (.cells #[.int .i64 n] 2 (0, 0))
  ho : wr.heap[go]? = some (.cells #[.bool ok] 4 (0, 0))
  hk : ∀ g o, g ≠ gn → g ≠ go → w.heap[g]? = some o → wr.heap[g]? = some o
  hB : ∀ w0 : World, w0.heap.size ≤ gn → w0.heap.size ≤ go → Below w0.heap.size w0 w → Below w0.heap.size w0 wr
theorem FInv.below {gn go : Nat} {w : World} {n : Int} {ok : Bool} {wr w2 : World} (h : FInv gn go w n ok wr) (hb : Below wr.heap.size wr w2) : FInv gn go w n ok w2 :=
  ⟨blk_below h.hn hb, blk_below h.ho hb, fun g o a b c => blk_below (h.hk g o a b c) hb, fun w0 a b c => below_step (h.hB w0 a b c) hb⟩
theorem blk_far' {w : World} {g : Nat} {o : Obj} (h : w.heap[g]? = some o) {p : Addr} (hp : g ≠ p.block) (u : Value) : (w.setCell p u).heap[g]? = some o := (Below.heap_setCell w p u g hp).trans h
theorem FInv.setN {gn go : Nat} {w : World} {n : Int} {ok : Bool} {wr : World} (h : FInv gn go w n ok wr) (hne : go ≠ gn) (n' : Int) : FInv gn go w n' ok (wr.setCell ⟨gn, 0, none⟩ (.int .i64 n')) :=
  ⟨blk_put h.hn 0 _ rfl, blk_far' h.ho hne _, fun g o a b c => blk_far' (h.hk g o a b c) a _, fun w0 a b c => below_set (h.hB w0 a b c) a⟩
theorem FInv.setO {gn go : Nat} {w : World} {n : Int} {ok : Bool} {wr : World} (h : FInv gn go w n ok wr) (hne : go ≠ gn) (ok' : Bool) : FInv gn go w n ok' (wr.setCell ⟨go, 0, none⟩ (.bool ok')) :=
  ⟨blk_far' h.hn (Ne.symm hne) _, blk_put h.ho 0 _ rfl, fun g o a b c => blk_far' (h.hk g o a b c) b _, fun w0 a b c => below_set (h.hB w0 a b c) b⟩
set_option maxHeartbeats 1000000 in
theorem put_calls (kf : Nat) (p k n : Int) (ok : Bool) (n' : Int) (ok' : Bool) (gn go : Nat) (w : World) (hn : w.heap[gn]? = some (.cells #[.int .i64 n] 2 (0, 0))) (ho : w.heap[go]? = some (.cells #[.bool ok] 4 (0, 0))) (hne : go ≠ gn)
    (hk : k ≤ 9223372036854775807) (h : putN kf p k.toNat n ok = some (n', ok')) :
    Calls Tryd.prog 85 #[.int .i64 p, .int .i64 k, .pointer (some ⟨gn, 0, none⟩), .pointer (some ⟨go, 0, none⟩)] w fun e w' => (∃ v, e = .returned v) ∧ FInv gn go w n' ok' w' := by
  have hne1 : gn ≠ go := Ne.symm hne
  have HI0 : Aside0 (FInv gn go w n ok w) := ⟨⟨hn, ho, fun _ _ _ _ h => h, fun _ _ _ h => h⟩⟩
  have H0 := Aside0.mk h
  clear h hn ho
  go_enter Tryd.func85, Tryd.ntmps85
  go_wp2
  go_loopw [9] (fun v9 wr => ∃ q : Nat, v9 = .int .i64 q ∧ Aside0 ((q : Int) ≤ k ∨ q = 0) ∧ ∃ n1 ok1, Aside0 (putN kf p (k.toNat - q) n1 ok1 = some (n', ok')) ∧ Aside0 (FInv gn go w n1 ok1 wr)) (fun v9 _ => k.toNat - (intOf v9).toNat)
  case atStart => exact ⟨0, rfl, ⟨Or.inr rfl⟩, n, ok, H0, HI0⟩
  case round =>
    clear H0 HI0
    obtain ⟨q, rfl, HQ, n1, ok1, HP, HI⟩ := hrel
    by_cases hlt : (q : Int) < k
    · have hd : decide ((q : Int) < k) = true := decide_eq_true hlt
      obtain ⟨d, hd2⟩ : ∃ d, k.toNat - q = d + 1 := ⟨k.toNat - q - 1, by omega⟩
      have hp := HP.out
      rw [hd2, putN] at hp
      obtain ⟨⟨r1, r2⟩, hm, hp⟩ := Option.bind_eq_some_iff.mp hp
      have HM := Aside0.mk hm
      have HP2 := Aside0.mk hp
      have HD := Aside0.mk hd2
      clear hp hm hd2 HP
      have c1 : wr.cell? ⟨gn, 0, none⟩ = some (.int .i64 n1) := (blk_cell HI.out.hn 0).trans rfl
      cases ok1 with
      | true =>
        cases r2 with
        | true =>
          go_wp2_with (first | (go_at_call 86; refine (whole_Mul.calls kf n1 p r1 true _ HM.out).mono ?_; rintro e w2 ⟨rfl, hb⟩; have HI2 := Aside0.mk (FInv.below HI.out hb); clear HI c1; have c2 : w2.cell? ⟨gn, 0, none⟩ = some (.int .i64 n1) := (blk_cell HI2.out.hn 0).trans rfl; have f2 := blk_frozen HI2.out.hn 0; have c3 : w2.cell? ⟨go, 0, none⟩ = some (.bool true) := (blk_cell HI2.out.ho 0).trans rfl; have f3 := blk_frozen HI2.out.ho 0; clear hb))
          go_roundw
          case rel =>
            refine ⟨q + 1, by go_num, ⟨Or.inl (by omega)⟩, r1, true, ⟨?_⟩, ⟨FInv.setN (FInv.setO HI2.out hne true) hne r1⟩⟩
            have h2 := HP2.out
            have h3 := HD.out
            rw [show k.toNat - (q + 1) = d from by omega]
            exact h2
          case measure => have h3 := HD.out; simp [intOf]; omega
        | false =>
          have h2 := HP2.out
          simp at h2
          obtain ⟨rfl, rfl⟩ := h2
          go_wp2_with (first | (go_at_call 86; refine (whole_Mul.calls kf n1 p r1 false _ HM.out).mono ?_; rintro e w2 ⟨rfl, hb⟩; have HI2 := Aside0.mk (FInv.below HI.out hb); clear HI c1; have c2 : w2.cell? ⟨gn, 0, none⟩ = some (.int .i64 n1) := (blk_cell HI2.out.hn 0).trans rfl; have f2 := blk_frozen HI2.out.hn 0; have c3 : w2.cell? ⟨go, 0, none⟩ = some (.bool true) := (blk_cell HI2.out.ho 0).trans rfl; have f3 := blk_frozen HI2.out.ho 0; clear hb))
          first | go_end0 | ((try simp only [Exit.inBlock, Exit.then]); refine bodyPost_ret (results_none rfl _ _ _) rfl ?_)
          exact ⟨⟨_, rfl⟩, FInv.setO HI2.out hne false⟩
      | false =>
        have h2 := HP2.out
        simp at h2
        obtain ⟨rfl, rfl⟩ := h2
        go_wp2_with (first | (go_at_call 86; refine (whole_Mul.calls kf n1 p r1 r2 _ HM.out).mono ?_; rintro e w2 ⟨rfl, hb⟩; have HI2 := Aside0.mk (FInv.below HI.out hb); clear HI c1; have c2 : w2.cell? ⟨gn, 0, none⟩ = some (.int .i64 n1) := (blk_cell HI2.out.hn 0).trans rfl; have f2 := blk_frozen HI2.out.hn 0; have c3 : w2.cell? ⟨go, 0, none⟩ = some (.bool false) := (blk_cell HI2.out.ho 0).trans rfl; have f3 := blk_frozen HI2.out.ho 0; clear hb))
        first | go_end0 | ((try simp only [Exit.inBlock, Exit.then]); refine bodyPost_ret (results_none rfl _ _ _) rfl ?_)
        exact ⟨⟨_, rfl⟩, FInv.setO HI2.out hne false⟩
    · have hd : decide ((q : Int) < k) = false := decide_eq_false hlt
      have hp := HP.out
      have hq := HQ.out
      rw [show k.toNat - q = 0 from by omega, putN] at hp
      simp at hp
      obtain ⟨rfl, rfl⟩ := hp
      go_wp2
      first | go_end0 | ((try simp only [Exit.inBlock, Exit.then]); refine bodyPost_ret (results_none rfl _ _ _) rfl ?_)
      exact ⟨⟨_, rfl⟩, HI.out⟩
end Go.Proofs.YthfibffgmoblaaaDoor
