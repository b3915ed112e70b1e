/- A range over an iterator that itself ranges over a function: the contract, the law for the caller. Conditions: those in each theorem. -/
import Derived.RangeFuncNested
import Derived.RangeFuncBound
import Derived.RangeFuncWrites
import Derived.Test.YtgdipibmaaehcaaTrE
namespace Go.Proofs.Ytgdipibmaaehcaa.Tr
open Go Go.RowKit Go.Proofs.Ytgdipibmaaehcaa Go.Proofs.Ytgdipibmaaehcaa.Sq Go.Proofs.YtgdipibmaaehcaaW.PrintWords Go.Proofs.YtgdipibmaaehcaaW.PrintLast Go.Proofs.YtgdipibmaaehcaaW.PrintMore
set_option linter.unusedVariables false
/-- What abides whatever turns at or beyond B. -/
def AbidesN {β : Type} (B : Nat) (J : β → World → Prop) : Prop := ∀ s W W' row, J s W → W.grownBy W' row → (∀ r, row = some r → B ≤ r) → J s W'
/-- Whatever lies at or beyond B lies as it lay. -/
structure KeepGE (B : Nat) (A A' : World) : Prop where
  size : A.heap.size ≤ A'.heap.size
  same : ∀ (k : Nat) (o : Obj), B ≤ k → A.heap[k]? = some o → A'.heap[k]? = some o
theorem KeepGE.refl (B : Nat) (A : World) : KeepGE B A A := ⟨Nat.le_refl _, fun _ _ _ h => h⟩
theorem KeepGE.trans {B : Nat} {A A' A'' : World} (h : KeepGE B A A') (k : KeepGE B A' A'') : KeepGE B A A'' := ⟨Nat.le_trans h.size k.size, fun i o hB hi => k.same i o hB (h.same i o hB hi)⟩
theorem KeepGE.of_grownBy {B : Nat} {A A' : World} {row : Option Nat} (hg : A.grownBy A' row) (hrow : ∀ j, row = some j → j < B) : KeepGE B A A' :=
  ⟨hg.size, fun k o hB hk => (hg.block k (blk_lt hk) (fun e => by have := hrow k e.symm; omega)).trans hk⟩
theorem KeepGE.of_below {B : Nat} {A A' : World} (h : Below A.heap.size A A') : KeepGE B A A' := ⟨h.size, fun k o _ hk => blk_below hk h⟩
theorem KeepGE.setCell {B : Nat} (A : World) (a : Addr) (v : Value) (ha : a.block < B) : KeepGE B A (A.setCell a v) :=
  ⟨by simp [World.setCell], fun k o hB hk => (Below.heap_setCell A a v k (by omega)).trans hk⟩
theorem KeepGE.mono {B B' : Nat} {A A' : World} (h : KeepGE B A A') (hB : B ≤ B') : KeepGE B' A A' := ⟨h.size, fun k o hk => h.same k o (Nat.le_trans hB hk)⟩
theorem grownBy_setCell' (w : World) (a : Addr) (v : Value) : w.grownBy (w.setCell a v) (some a.block) :=
  ⟨rfl, rfl, rfl, by simp [World.setCell], fun k hk hne => Below.heap_setCell w a v k (fun e => hne (by rw [e]))⟩
/-- The contract of an iterator's function value. -/
def SeqW {α : Type} (n : Nat) (P : Program) (g : Nat) (lb : Array Value) (encs : α → Array Value) (n₀ : Nat) (S Sp : List α → Prop) (w : World) : Prop :=
  ∀ (l : Nat) (J Jx : List α → World → Prop) (W : World), Below w.heap.size w W → AbidesN W.heap.size J → AbidesN W.heap.size Jx →
    (∀ pre x W1, J pre W1 → Sp (pre ++ [x]) → YieldAt Fence.wide (n - 1) P l (encs x) W1 fun e W' =>
      (e = .returned (.bool true) ∧ J (pre ++ [x]) W' ∧ Below n₀ W1 W' ∧ KeepGE W.heap.size W1 W') ∨ (e = .returned (.bool false) ∧ Jx (pre ++ [x]) W' ∧ KeepGE W.heap.size W1 W')) →
    J [] W →
    CallsIn Fence.wide n P g (#[.func (.yield l) #[] #[]] ++ lb) W fun e W' => (∃ v, e = .returned v) ∧ ((∃ xs, S xs ∧ J xs W') ∨ (∃ pre, Sp pre ∧ Jx pre W'))
def ownPostW {α : Type} (B n₀ : Nat) (I : List α → World → Prop) (Ix : Code → List α → World → Prop) (xs : List α) (W : World) : Exit → Act → World → Prop
  | .normal, _, W' => KeepGE B W W' ∧ Below n₀ W W' ∧ I xs W'
  | .ret, _, W' => KeepGE B W W' ∧ Ix .ret xs W'
  | .exit id, _, W' => KeepGE B W W' ∧ Ix (.exit id) xs W'
  | .goto t, _, W' => KeepGE B W W' ∧ Ix (.goto t) xs W'
  | .panic _, _, _ => False
  | .outgrown, _, _ => False
theorem KeepGE.own {B : Nat} {W A A' : World} {row : Option Nat} (h : KeepGE B W A) (hg : A.grownBy A' row) (hr : ∀ r, row = some r → W.heap.size ≤ r) : KeepGE B W A' :=
  ⟨Nat.le_trans h.size hg.size, fun k o hB hk => (hg.block k (blk_lt (h.same k o hB hk)) (fun e => by have := hr k e.symm; have := blk_lt hk; omega)).trans (h.same k o hB hk)⟩
theorem yield_any {m m' : Nat} {P : Program} {l : Nat} {args : Array Value} {W : World} {R : Ending → World → Prop} (h : YieldAt Fence.wide m P l args W R) : YieldAt Fence.wide m' P l args W R := by
  obtain ⟨fn, tmps, assign, body, hy, hR⟩ := h
  exact ⟨fn, tmps, assign, body, hy, ⟨hR.1, fun c cs _ => hR.2 c cs (fun d h => by cases h)⟩⟩
variable {n : Nat} {P : Program}
theorem wpIn_rangeFunc_W {α : Type} {g : Operand} {ps : Array Tmp} {assign body : Code} {Q : Exit → Act → World → Prop} {a : Act} {w : World}
    (h1 : 1 ≤ n) {gf : Nat} {lb : Array Value} (hg : a.eval g = .func (.func gf) #[] lb) (eg : ∀ args w, (callFunc gf args).run P w = .ok (.enter gf args) w)
    {encs : α → Array Value} {n₀ : Nat} {S Sp : List α → Prop} {w0 : World} (hseq : SeqW (n - 1) P gf lb encs n₀ S Sp w0) (hn0 : n₀ ≤ w.heap.size) (hb0 : Below w0.heap.size w0 w) (hps : ∀ x, (encs x).size = ps.size)
    (I : List α → World → Prop) (Ix : Code → List α → World → Prop) (hI : AbidesN w.heap.size I) (hIx : ∀ c, AbidesN w.heap.size (Ix c)) (h0 : I [] w) (a₁ : α → Act)
    (hassign : ∀ (l : Nat) (x : α) (W : World) (K : Act → World → Prop), K (a₁ x) W →
      assign.wpIn (Fence.wide.inRound l) (n - 1 - 1) P (Exit.then K (fun _ _ _ => False)) { tmps := (ps.zip (encs x)).foldl (fun t (p, v) => t.setIfInBounds p v) a.tmps, defers := [] } W)
    (hbody : ∀ (l : Nat) (pre : List α) (x : α) (W : World), I pre W → Sp (pre ++ [x]) → body.wpIn (Fence.wide.inRound l) (n - 1 - 1) P (ownPostW w.heap.size n₀ I Ix (pre ++ [x]) W) (a₁ x) W)
    (hdone : ∀ (D : Nat) (xs : List α) (W : World), w.heap.size ≤ D → S xs → I xs W → W.heap[D]? = some (.deferred (some [])) → Q .normal { a with defers := { target := .collected D, args := #[] } :: a.defers } W)
    (hstop : ∀ (D : Nat) (c : Code) (pre : List α) (W : World), w.heap.size ≤ D → Sp pre → Ix c pre W → W.heap[D]? = some (.deferred (some [])) → c.wpIn Fence.wide n P Q { a with defers := { target := .collected D, args := #[] } :: a.defers } W) :
    (Code.rangeFunc g ps assign body).wpIn Fence.wide n P Q a w := by
  refine wpIn_rangeFunc ?_
  intro fn hfn
  rw [show Fence.wide.round = none from rfl]
  obtain ⟨rec, hrec⟩ : ∃ rec : LoopState → Option Code → Loop, rec = fun st pe => { state := st, pending := pe, fn, tmps := a.tmps, params := ps, assign, body, defers := w.heap.size } := ⟨_, rfl⟩
  obtain ⟨W1, hW1⟩ : ∃ W1, (w.alloc (.deferred (some []))).alloc (.loop (rec .ready none)) = W1 := ⟨_, rfl⟩
  have hL1 : W1.heap[w.heap.size + 1]? = some (.loop (rec .ready none)) := by
    rw [← hW1]; have := World.alloc_heap_new (w.alloc (.deferred (some []))) (.loop (rec .ready none)); rwa [World.size_alloc] at this
  have hK1 : W1.heap[w.heap.size]? = some (.deferred (some [])) := by
    rw [← hW1]; exact (Below.heap_alloc _ _ _ (by simp)).trans (World.alloc_heap_new w _)
  have hI1 : I [] W1 := by
    rw [← hW1]
    exact hI _ _ _ none (hI _ _ _ none h0 (World.grownBy_alloc w _ none) (fun r e => by cases e)) (World.grownBy_alloc _ _ none) (fun r e => by cases e)
  have hb1 : Below w0.heap.size w0 W1 := by
    rw [← hW1]; exact hb0.trans ((((Below.refl _ w).alloc (Nat.le_refl _) _).alloc (by simp) _).mono hb0.size)
  have hs1 : W1.heap.size = w.heap.size + 2 := by rw [← hW1]; simp
  refine ⟨w.heap.size + 1, [{ target := .collected w.heap.size, args := #[] }], W1, { target := .fn (.func gf) lb, args := #[.func (.yield (w.heap.size + 1)) #[] #[]] }, W1, gf,
    #[.func (.yield (w.heap.size + 1)) #[] #[]] ++ lb, W1, ?_, ?_, ?_, ?_, fun _ => h1, ?_⟩
  · rw [← hW1, hrec]; exact run_enterLoop_outer _ _ _ _ _
  · simp only [resolve, hg]
    simp [go_sem]
  · intro f' hf'; simp [Target.leads] at hf'; subst hf'; exact trivial
  · simp [invoke, go_sem, eg]
  · have put : ∀ {β : Type} {I : β → World → Prop} (hI : AbidesN w.heap.size I) {s : β} {W : World} (l : Nat) (o' : Obj), I s W → w.heap.size ≤ l → I s (W.putObj l o') := fun {β} {I} hI {s} {W} l o' hs hl => hI _ _ _ (some l) hs (grownBy_putObj' _ l o') (fun r e => by cases e; exact hl)
    have blk : ∀ {A B : World} {row : Option Nat} {k : Nat} {o : Obj}, A.grownBy B row → (∀ r, row = some r → W1.heap.size ≤ r) → k < w.heap.size + 2 → A.heap[k]? = some o → B.heap[k]? = some o := fun hg' hr hk h => (hg'.block _ (blk_lt h) (fun e => by have := hr _ e.symm; omega)).trans h
    refine (hseq (w.heap.size + 1)
      (fun pre W => I pre W ∧ W.heap[w.heap.size + 1]? = some (.loop (rec .ready none)) ∧ W.heap[w.heap.size]? = some (.deferred (some [])))
      (fun pre W => ∃ c, Ix c pre W ∧ W.heap[w.heap.size + 1]? = some (.loop (rec .done (some c))) ∧ W.heap[w.heap.size]? = some (.deferred (some [])))
      W1 hb1
      (fun s A B row hs hg' hr => ⟨hI s A B row hs.1 hg' (fun r e => by have := hr r e; omega), blk hg' hr (by omega) hs.2.1, blk hg' hr (by omega) hs.2.2⟩)
      (fun s A B row hs hg' hr => by
        obtain ⟨c, hc, hl, hk⟩ := hs
        exact ⟨c, hIx c s A B row hc hg' (fun r e => by have := hr r e; omega), blk hg' hr (by omega) hl, blk hg' hr (by omega) hk⟩)
      ?_ ⟨hI1, hL1, hK1⟩).mono ?_
    · rintro pre x W ⟨hi, hl, hk⟩ hsp
      have hlt : w.heap.size + 1 < W.heap.size := (Array.getElem?_eq_some_iff.1 hl).1
      have hy := run_yield (P := P) (args := encs x) hl (by rw [hrec]; exact hps x)
      rw [hrec] at hy
      refine ⟨fn, _, assign, body, hy, roundIn_of_wpIn hfn (hassign _ x W _ ⟨_, run_beginRound hl (by rw [hrec]), ?_⟩)⟩
      have hl2 : (W.putObj (w.heap.size + 1) (.loop { rec .ready none with state := .busy })).heap[w.heap.size + 1]? = some (.loop { rec .ready none with state := .busy }) := World.putObj_heap_same hlt
      have hk2 : (W.putObj (w.heap.size + 1) (.loop { rec .ready none with state := .busy })).heap[w.heap.size]? = some (.deferred (some [])) := (World.putObj_heap_other (by omega)).trans hk
      have hg2 := grownBy_putObj' W (w.heap.size + 1) (.loop { rec .ready none with state := .busy })
      refine wpIn_mono (hbody _ pre x _ (put hI _ _ hi (by omega)) hsp) ?_
      have fin : ∀ (jump : Option Code) (W3 : World), KeepGE w.heap.size (W.putObj (w.heap.size + 1) (.loop { rec .ready none with state := .busy })) W3 →
          (Instr.endRound (w.heap.size + 1) jump).run P W3 = .ok (.bool jump.isNone) (W3.putObj (w.heap.size + 1) (.loop (rec (if jump.isNone then .ready else .done) jump))) ∧
          W3.heap[w.heap.size + 1]? = some (.loop { rec .ready none with state := .busy }) ∧
          (W3.putObj (w.heap.size + 1) (.loop (rec (if jump.isNone then .ready else .done) jump))).heap[w.heap.size + 1]? = some (.loop (rec (if jump.isNone then .ready else .done) jump)) ∧
          (W3.putObj (w.heap.size + 1) (.loop (rec (if jump.isNone then .ready else .done) jump))).heap[w.heap.size]? = some (.deferred (some [])) ∧
          KeepGE W1.heap.size W (W3.putObj (w.heap.size + 1) (.loop (rec (if jump.isNone then .ready else .done) jump))) := fun jump W3 hk3 => by
        have hl3 := hk3.same _ _ (by omega) hl2
        have := run_endRound (P := P) jump hl3
        rw [hrec] at this ⊢
        refine ⟨this, by rw [hrec] at hl3; exact hl3, World.putObj_heap_same (Array.getElem?_eq_some_iff.1 hl3).1, (World.putObj_heap_other (by omega)).trans (hk3.same _ _ (Nat.le_refl _) hk2), ?_⟩
        rw [← hrec]
        exact ((KeepGE.of_grownBy hg2 (fun j e => by cases e; omega)).trans (hk3.mono (by omega))).trans (KeepGE.of_grownBy (grownBy_putObj' W3 _ _) (fun j e => by cases e; omega))
      rintro e a3 W3 hp
      cases e with
      | normal =>
        obtain ⟨hk3, hb3, hi3⟩ := hp
        obtain ⟨hr, hl3, hl4, hk4, hkg⟩ := fin none W3 hk3
        refine ⟨_, _, hr, .inl ⟨rfl, ⟨put hI _ _ hi3 (by omega), hl4, hk4⟩, ?_, hkg⟩⟩
        have q1 : Below n₀ W (W.putObj (w.heap.size + 1) (.loop { rec .ready none with state := .busy })) := (Below.refl n₀ W).grown hg2 (by omega) (fun k e => by cases e; omega)
        have q2 := q1.trans hb3
        have z2 := hk3.size
        have z3 : W.heap.size ≤ (W.putObj (w.heap.size + 1) (.loop { rec .ready none with state := .busy })).heap.size := hg2.size
        exact q2.grown (grownBy_putObj' W3 _ _) (Nat.le_trans (by omega) (Nat.le_trans z3 z2) : n₀ ≤ W3.heap.size) (fun k e => by cases e; omega)
      | ret =>
        obtain ⟨hk3, hi3⟩ := hp
        obtain ⟨hr, hl3, hl4, hk4, hkg⟩ := fin (some .ret) W3 hk3
        exact ⟨_, _, hr, .inr ⟨rfl, ⟨.ret, put (hIx _) _ _ hi3 (by omega), hl4, hk4⟩, hkg⟩⟩
      | exit id =>
        obtain ⟨hk3, hi3⟩ := hp
        obtain ⟨hr, hl3, hl4, hk4, hkg⟩ := fin (some (.exit id)) W3 hk3
        exact ⟨_, _, hr, .inr ⟨rfl, ⟨.exit id, put (hIx _) _ _ hi3 (by omega), hl4, hk4⟩, hkg⟩⟩
      | goto t =>
        obtain ⟨hk3, hi3⟩ := hp
        obtain ⟨hr, hl3, hl4, hk4, hkg⟩ := fin (some (.goto t)) W3 hk3
        exact ⟨_, _, hr, .inr ⟨rfl, ⟨.goto t, put (hIx _) _ _ hi3 (by omega), hl4, hk4⟩, hkg⟩⟩
      | panic ch => exact hp.elim
      | outgrown => exact hp.elim
    · rintro e W2 ⟨⟨v, rfl⟩, (⟨xs, hS, hi, hl, hk⟩ | ⟨pre, hSp, c, hi, hl, hk⟩)⟩
      · exact ⟨none, _, by have := run_endLoop (P := P) hl (by rw [hrec]; simp); rw [hrec] at this; exact this, hdone _ xs _ (Nat.le_refl _) hS (put hI _ _ hi (by omega)) ((World.putObj_heap_other (by omega)).trans hk)⟩
      · exact ⟨some c, _, by have := run_endLoop (P := P) hl (by rw [hrec]; simp); rw [hrec] at this; exact this, hstop _ c pre _ (Nat.le_refl _) hSp (put (hIx c) _ _ hi (by omega)) ((World.putObj_heap_other (by omega)).trans hk)⟩
end Go.Proofs.Ytgdipibmaaehcaa.Tr
