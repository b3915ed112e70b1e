/- Words for worths: eleven cells in a block, put at once, read at once; a row made of some; a worth compared with its own number and dims. No conditions beyond those in each theorem. -/
import Derived.Test.YthfibffgmoblaaaDoorEq7
import Derived.Test.YthfibffgmoblaaaDoorSq
namespace Go.Proofs.YthfibffgmoblaaaDoor
open Go Go.RowKit Go.Proofs.YthfibffgmoblaaaDoor.Di Go.Proofs.YthfibffgmoblaaaDoor.Sq Go.Proofs.YthfibffgmoblaaaDoorW.PrintWords Go.Proofs.YthfibffgmoblaaaDoorW.PrintLast Go.Proofs.YthfibffgmoblaaaDoorW.PrintMore
set_option linter.unusedVariables false
set_option linter.unusedSimpArgs false
set_option maxRecDepth 100000
theorem put11 {w : World} {g : Nat} {t : TypeId} {x0 x1 x2 x3 x4 x5 x6 x7 x8 x9 x10 u0 u1 u2 u3 u4 u5 u6 u7 u8 u9 u10 : Value} (h : w.heap[g]? = some (.cells #[x0, x1, x2, x3, x4, x5, x6, x7, x8, x9, x10] t (0, 0))) : (((((((((((w.setCell ⟨g, 0, none⟩ u0).setCell ⟨g, 1, none⟩ u1).setCell ⟨g, 2, none⟩ u2).setCell ⟨g, 3, none⟩ u3).setCell ⟨g, 4, none⟩ u4).setCell ⟨g, 5, none⟩ u5).setCell ⟨g, 6, none⟩ u6).setCell ⟨g, 7, none⟩ u7).setCell ⟨g, 8, none⟩ u8).setCell ⟨g, 9, none⟩ u9).setCell ⟨g, 10, none⟩ u10).heap[g]? = some (.cells #[u0, u1, u2, u3, u4, u5, u6, u7, u8, u9, u10] t (0, 0)) := by
  have h := blk_put (cs' := #[u0, x1, x2, x3, x4, x5, x6, x7, x8, x9, x10]) h 0 u0 rfl
  have h := blk_put (cs' := #[u0, u1, x2, x3, x4, x5, x6, x7, x8, x9, x10]) h 1 u1 rfl
  have h := blk_put (cs' := #[u0, u1, u2, x3, x4, x5, x6, x7, x8, x9, x10]) h 2 u2 rfl
  have h := blk_put (cs' := #[u0, u1, u2, u3, x4, x5, x6, x7, x8, x9, x10]) h 3 u3 rfl
  have h := blk_put (cs' := #[u0, u1, u2, u3, u4, x5, x6, x7, x8, x9, x10]) h 4 u4 rfl
  have h := blk_put (cs' := #[u0, u1, u2, u3, u4, u5, x6, x7, x8, x9, x10]) h 5 u5 rfl
  have h := blk_put (cs' := #[u0, u1, u2, u3, u4, u5, u6, x7, x8, x9, x10]) h 6 u6 rfl
  have h := blk_put (cs' := #[u0, u1, u2, u3, u4, u5, u6, u7, x8, x9, x10]) h 7 u7 rfl
  have h := blk_put (cs' := #[u0, u1, u2, u3, u4, u5, u6, u7, u8, x9, x10]) h 8 u8 rfl
  have h := blk_put (cs' := #[u0, u1, u2, u3, u4, u5, u6, u7, u8, u9, x10]) h 9 u9 rfl
  have h := blk_put (cs' := #[u0, u1, u2, u3, u4, u5, u6, u7, u8, u9, u10]) h 10 u10 rfl
  exact h
theorem slice_event {P : Program} {ops : Array Oper} {rest : List Oper} {o : Oper} {a : Act} {Q : Exit → Act → World → Prop} {W : World} (hgd : o.guard = none) {N : Tmp} (_hd : o.dst = some N) {cs : Array Value} {t n : Nat}
    (hrun : (execOp a.eval o).run P W = .ok (.value (.slice (some ⟨W.heap.size, 0, none⟩) n n)) (W.alloc (.cells cs t (0, 0))))
    (h : ∀ g, g = W.heap.size → ∀ w1, w1.heap[g]? = some (.cells cs t (0, 0)) → Below W.heap.size W w1 → wpList P ops Q rest (a.put o.dst (.slice (some ⟨g, 0, none⟩) n n)) w1) : wpList P ops Q (o :: rest) a W :=
  Kd.event_run hgd hrun (h _ rfl _ (blk_new W _) (below_alloc (Below.refl _ _) _))
theorem eqTag (x0 x1 x2 x3 x4 x5 x6 x7 x8 x9 t : Int) (W : World) : (Op.equalIn 10000 31 (.agg #[.int .i64 x0, .int .i64 x1, .int .i64 x2, .int .i64 x3, .int .i64 x4, .int .i64 x5, .int .i64 x6, .int .i64 x7, .int .i64 x8, .int .i64 x9, .int .i64 t]) (.agg #[.int .i64 x0, .int .i64 x1, .int .i64 x2, .int .i64 x3, .int .i64 x4, .int .i64 x5, .int .i64 x6, .int .i64 x7, .int .i64 x8, .int .i64 x9, .int .i64 0])).run Tryd.prog W = .ok (t == 0) W := by
  have e29 : ∀ (d : Nat) (W : World), (Op.equalIn (d + 2) 29 (.agg #[.int .i64 x0, .int .i64 x1, .int .i64 x2]) (.agg #[.int .i64 x0, .int .i64 x1, .int .i64 x2])).run Tryd.prog W = .ok true W := by
    intro d W
    refine eqA_of (d := d + 1) Tryd.underlying29 (by kernel_rfl) ?_
    refine (show (true : Bool) = ((x0 == x0) && ((x1 == x1) && (x2 == x2))) from by simp) ▸ ?_
    refine eqf_cons (by rfl) (by kernel_rfl) (by kernel_rfl) (run_equalIn_int (P := Tryd.prog) W d 2 .i64 .i64 x0 x0 Tryd.underlying2) ?_
    refine eqf_cons (by rfl) (by kernel_rfl) (by kernel_rfl) (run_equalIn_int (P := Tryd.prog) W d 2 .i64 .i64 x1 x1 Tryd.underlying2) ?_
    exact eqf_last (by rfl) (by kernel_rfl) (by kernel_rfl) (run_equalIn_int (P := Tryd.prog) W d 3 .i64 .i64 x2 x2 Tryd.underlying3)
  have e23 : ∀ (d : Nat) (W : World), (Op.equalIn (d + 2) 23 (.agg #[.int .i64 x3, .int .i64 x4, .int .i64 x5, .int .i64 x6, .int .i64 x7, .int .i64 x8, .int .i64 x9]) (.agg #[.int .i64 x3, .int .i64 x4, .int .i64 x5, .int .i64 x6, .int .i64 x7, .int .i64 x8, .int .i64 x9])).run Tryd.prog W = .ok true W := by
    intro d W
    rw [eqA7]; simp
  refine eqA_of (d := 9999) Tryd.underlying31 (by kernel_rfl) ?_
  refine (show (t == 0) = (true && (true && (t == 0))) from by simp) ▸ ?_
  refine eqf_cons (by rfl) (by kernel_rfl) (by kernel_rfl) (e29 9997 W) ?_
  refine eqf_cons (by rfl) (by kernel_rfl) (by kernel_rfl) (e23 9997 W) ?_
  exact eqf_last (by rfl) (by kernel_rfl) (by kernel_rfl) (run_equalIn_int (P := Tryd.prog) W 9998 3 .i64 .i64 t 0 Tryd.underlying3)
abbrev W12 := Int × Int × Int × Int × Int × Int × Int × Int × Int × Int × Int × Int
def noW (e : Int) : W12 := (0, 0, 0, 0, 0, 0, 0, 0, 0, 0, 0, e)
end Go.Proofs.YthfibffgmoblaaaDoor
