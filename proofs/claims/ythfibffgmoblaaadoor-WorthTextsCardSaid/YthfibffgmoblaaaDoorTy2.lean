/- Pairs of bases and powers as a text. No conditions beyond those in each theorem. -/
import Derived.Lib.AtoiErrMem
import Derived.Laws.Strings2
import Derived.Laws.Strings3
import Derived.Lib.Bytealg
import Derived.Lib.AtoiAll
import Derived.Test.YthfibffgmoblaaaDoorTy1
namespace Go.Proofs.YthfibffgmoblaaaDoor.Di
open Go Go.RowKit Go.Proofs Go.Proofs.YthfibffgmoblaaaDoor Go.Proofs.YthfibffgmoblaaaDoorW.PrintWords Go.Proofs.YthfibffgmoblaaaDoorW.PrintLast Go.Proofs.YthfibffgmoblaaaDoorW.PrintMore
set_option linter.unusedSimpArgs false
set_option linter.unusedVariables false
/- Pairs of bases and powers as a text. No conditions beyond those in each theorem. -/
def nl (c : UInt8) : Bool := decide (Lib.indexByte [109, 115, 103, 114, 107, 99, 100] c < 0)
def Pairs (l : List (Nat × Int)) : Prop := ∀ x ∈ l, x.1 < 7 ∧ -99 ≤ x.2 ∧ x.2 ≤ 99
theorem itoa_tab : ((List.range 199).map fun (i : Nat) => ((Lib.itoa ((i : Int) - 99)).all nl, (match Lib.atoiAll (Lib.itoa ((i : Int) - 99)) with | .ok v => decide (v = (i : Int) - 99) | _ => false))) = ((List.range 199).map fun _ => (true, true)) := by kernel_rfl
theorem itoa_facts (v : Int) (h0 : -99 ≤ v) (h1 : v ≤ 99) : (Lib.itoa v).all nl = true ∧ Lib.atoiAll (Lib.itoa v) = .ok v := by
  have h := congrArg (fun l => l[(v + 99).toNat]?) itoa_tab
  simp only [List.getElem?_map, List.getElem?_range (show (v + 99).toNat < 199 by omega), Option.map_some] at h
  have e : (((v + 99).toNat : Nat) : Int) - 99 = v := by omega
  rw [e] at h
  have h := Option.some.inj h
  simp only [Prod.mk.injEq] at h
  refine ⟨h.1, ?_⟩
  have h2 := h.2
  split at h2
  · rename_i x hx
    rw [hx, of_decide_eq_true h2]
  · cases h2
theorem letter_nl (i : Nat) (h : i < 7) : nl (letter i) = false ∧ Lib.indexByte [109, 115, 103, 114, 107, 99, 100] (letter i) = (i : Int) := by
  have : i = 0 ∨ i = 1 ∨ i = 2 ∨ i = 3 ∨ i = 4 ∨ i = 5 ∨ i = 6 := by omega
  rcases this with rfl | rfl | rfl | rfl | rfl | rfl | rfl <;> exact ⟨rfl, rfl⟩
theorem take_all {p : UInt8 → Bool} : ∀ (a b : List UInt8), a.all p = true → (b = [] ∨ ∃ c t, b = c :: t ∧ p c = false) → (a ++ b).takeWhile p = a ∧ (a ++ b).dropWhile p = b
  | [], b, _, hb => by
    rcases hb with rfl | ⟨c, t, rfl, hc⟩
    · exact ⟨rfl, rfl⟩
    · rw [List.nil_append, List.takeWhile_cons, List.dropWhile_cons, hc]
      exact ⟨rfl, rfl⟩
  | c :: a, b, ha, hb => by
    rw [List.all_cons, Bool.and_eq_true] at ha
    have ih := take_all a b ha.2 hb
    rw [List.cons_append, List.takeWhile_cons, List.dropWhile_cons, ha.1]
    simp only [if_true]
    exact ⟨by rw [ih.1], ih.2⟩
theorem dtx_cons (x : Nat × Int) (l : List (Nat × Int)) : dtx (x :: l) = letter x.1 :: (Lib.itoa x.2 ++ dtx l) := by simp [dtx]
theorem dtx_head : ∀ l, Pairs l → (dtx l = [] ∨ ∃ c t, dtx l = c :: t ∧ nl c = false)
  | [], _ => .inl rfl
  | x :: l, h => .inr ⟨_, _, dtx_cons x l, (letter_nl x.1 (h x (List.mem_cons_self ..)).1).1⟩
end Go.Proofs.YthfibffgmoblaaaDoor.Di
