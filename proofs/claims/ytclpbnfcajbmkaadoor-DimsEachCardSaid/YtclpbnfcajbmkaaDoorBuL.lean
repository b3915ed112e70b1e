/- A builder between the rounds of a loop over a function: what turns no cells leaves it; what writes it leaves the rest. Conditions: those in each theorem. -/
import Derived.Test.YtclpbnfcajbmkaaDoorBuK
import Derived.Test.YtclpbnfcajbmkaaDoorDi2
namespace Go.Proofs.YtclpbnfcajbmkaaDoor.Bu
open Go Go.RowKit Go.Proofs
set_option linter.unusedVariables false
theorem at_kept {T e : TypeId} {B b : Nat} {p : Value} {bs : List Value} {X Y : World} {row : Option Nat} (h : Lib.BuilderAtF T e B b p bs X) (hg : X.grownBy Y row) (hr : ∀ r, row = some r → ∃ o : Obj, X.heap[r]? = some o ∧ o.isCells = false) : Lib.BuilderAtF T e B b p bs Y := by
  obtain ⟨hB, v, hb, hown, hne⟩ := h
  have hb' : Y.heap[b]? = some (.cells #[p, v] T (0, 0)) := by
    refine (hg.block b (Array.getElem?_eq_some_iff.1 hb).1 (fun e1 => ?_)).trans hb
    obtain ⟨o, ho, hc⟩ := hr b e1.symm
    rw [hb] at ho; cases ho; cases hc
  refine ⟨hB, v, hb', hown.kept hg ?_, hne⟩
  rcases hown.2 with ⟨rfl, _⟩ | ⟨g, cap, cur, fz, rfl, _, hgb, _⟩
  · exact .inl rfl
  · refine .inr fun e' => ?_
    obtain ⟨o, ho, hc⟩ := hr g (by rw [← e']; rfl)
    rw [hgb] at ho; cases ho; cases hc
theorem is_kept {T e : TypeId} {B b : Nat} {bs : List Value} {X Y : World} {row : Option Nat} (h : Lib.IsBuilderF T e B b bs X) (hg : X.grownBy Y row) (hr : ∀ r, row = some r → ∃ o : Obj, X.heap[r]? = some o ∧ o.isCells = false) : Lib.IsBuilderF T e B b bs Y :=
  h.elim (fun x => .inl (at_kept x hg hr)) (fun x => .inr (at_kept x hg hr))
theorem keeps_of_others {e : TypeId} {b D : Nat} {w w' : World} (h : Lib.OthersKept e (some b) w w') (hb : b < D) (hs : w.heap.size ≤ w'.heap.size) : KeepsFrom D w w' :=
  ⟨hs, fun k o hk hw ho => h k o hw (by intro e1; cases e1; omega) (by rintro c fz rfl; cases ho)⟩
end Go.Proofs.YtclpbnfcajbmkaaDoor.Bu
