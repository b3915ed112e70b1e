/- How a frac's text is read, by the document's answer. Conditions: a text of at most 1000 bytes. -/
import Derived.Test.YtnndaackjgnhhaaDoorTx2
namespace Go.Proofs.YtnndaackjgnhhaaDoor.Tx
open Go.RowKit Go.Lib Go.Proofs.YtnndaackjgnhhaaDoor.Fr Go.Proofs.YtnndaackjgnhhaaDoor.Wh Go.Proofs.YtnndaackjgnhhaaDoor.PB Go.Proofs.YtnndaackjgnhhaaDoor.PC Go.Proofs.YtnndaackjgnhhaaDoor.PE Go.Proofs.YtnndaackjgnhhaaDoor.PT Go.Proofs.YtnndaackjgnhhaaDoorW.PrintWords Go.Proofs.YtnndaackjgnhhaaDoorW.PrintLast Go.Proofs.YtnndaackjgnhhaaDoorW.PrintMore
set_option linter.unusedVariables false
theorem bt_B (l : List UInt8) (i : Nat) (h : i < l.length) : bt (B l) (i : Int) = (l[i].toNat : Int) := by
  unfold bt
  have hs : (i : Int).toNat < (B l).size := by rw [B_size]; omega
  rw [dif_pos hs]
  simp [B, ByteArray.getElem_eq_getElem_data]
theorem Dg_iff (c : UInt8) : Dg c ↔ 48 ≤ c.toNat ∧ c.toNat ≤ 57 := Iff.rfl
theorem read_loop (l : List UInt8) (hl : l.length ≤ 1000) (x5 : Int) (h5 : x5 = 1 ∨ x5 = -1) (x7 : Nat) : ∀ (d i : Nat) (x6 : Int), i + d = l.length → 0 ≤ x6 → x6 ≤ 9223372036854775807 →
    Ev (fun k => drachmref02_read.l0 k (B l) (i : Int) x5 x6 (x7 : Int)) (match rdd x6 (l.drop i) with | none => (0, -1) | some (v, c) => if i + c = x7 then (0, -1) else (x5 * v, ((i + c : Nat) : Int))) := by
  intro d
  induction d with
  | zero =>
    intro i x6 hi h0 h1
    rw [List.drop_of_length_le (by omega)]
    refine Ev.step (f := fun k => drachmref02_read.j3 k (B l) (i : Int) x5 x6 (x7 : Int) false) (fun k => ?_) (Ev.step (f := fun _ => if (i : Int) = (x7 : Int) then (some (0, (-1))) else (some (wrap64 (x5 * x6), (i : Int)))) (fun k => ?_) ?_)
    · simp only [drachmref02_read.l0]
      rw [B_size, if_neg (by omega)]
    · simp only [drachmref02_read.j3]
      rw [if_neg (by simp)]
    · refine Ev.congr (f := fun _ => some _) (fun k => ?_) (Ev.now _)
      simp only [rdd]
      by_cases he : i = x7
      · rw [if_pos (by omega), if_pos (by omega)]
      · rw [if_neg (by omega), if_neg (by omega), w64 (by rcases h5 with rfl | rfl <;> omega) (by rcases h5 with rfl | rfl <;> omega)]
        rfl
  | succ d ih =>
    intro i x6 hi h0 h1
    have hlt : i < l.length := by omega
    rw [List.drop_eq_getElem_cons hlt]
    have hb := bt_B l i hlt
    have hc := l[i].toNat_lt
    refine Ev.step (f := fun k => drachmref02_read.j3 k (B l) (i : Int) x5 x6 (x7 : Int) (decide (Dg l[i]))) (fun k => ?_) ?_
    · simp only [drachmref02_read.l0]
      rw [B_size, if_pos (by omega), if_pos (by omega), hb]
      by_cases c48 : ((l[i].toNat : Nat) : Int) ≥ 48
      · rw [if_pos c48]
        congr 1
        exact decide_eq_decide.2 (by rw [Dg_iff]; omega)
      · rw [if_neg c48]
        congr 1
        exact (decide_eq_false (by rw [Dg_iff]; omega)).symm
    · by_cases hd : Dg l[i]
      · have hd' := hd
        unfold Dg at hd'
        rw [rdd, if_pos hd]
        have e1 : (((l[i].toNat : Nat) : Int) - 48) % 256 = ((l[i].toNat : Nat) : Int) - 48 := by omega
        by_cases hx : x6 > (9223372036854775807 - (((l[i].toNat : Nat) : Int) - 48)) / 10
        · rw [if_pos hx]
          refine Ev.step (f := fun _ => some (0, -1)) (fun k => ?_) (Ev.now _)
          simp only [drachmref02_read.j3]
          rw [if_pos (by simpa using hd), if_pos (by omega), B_size, if_pos (by omega), hb, e1, if_pos hx]
        · rw [if_neg hx]
          have := ih (i + 1) (x6 * 10 + (((l[i].toNat : Nat) : Int) - 48)) (by omega) (by omega) (by omega)
          refine Ev.step (f := fun k => drachmref02_read.l0 k (B l) ((i + 1 : Nat) : Int) x5 (x6 * 10 + (((l[i].toNat : Nat) : Int) - 48)) (x7 : Int)) (fun k => ?_) ?_
          · simp only [drachmref02_read.j3]
            rw [if_pos (by simpa using hd), if_pos (by omega), B_size, if_pos (by omega), hb, e1, if_neg hx, w64 (x := x6 * 10) (by omega) (by omega), w64 (x := x6 * 10 + _) (by omega) (by omega), w64 (by omega) (by omega)]
            rfl
          · refine Eq.mp ?_ this
            congr 1
            cases hr : rdd (x6 * 10 + (((l[i].toNat : Nat) : Int) - 48)) (l.drop (i + 1)) with
            | none => rfl
            | some p =>
              obtain ⟨v, c⟩ := p
              simp only [Option.map_some]
              rw [show i + 1 + c = i + (c + 1) from by omega]
      · rw [rdd, if_neg hd]
        refine Ev.step (f := fun _ => if (i : Int) = (x7 : Int) then (some (0, (-1))) else (some (wrap64 (x5 * x6), (i : Int)))) (fun k => ?_) ?_
        · simp only [drachmref02_read.j3]
          rw [if_neg (by simpa using hd)]
        · refine Ev.congr (f := fun _ => some _) (fun k => ?_) (Ev.now _)
          show (if (i : Int) = (x7 : Int) then (some (0, (-1))) else (some (wrap64 (x5 * x6), (i : Int)))) = some (if i + 0 = x7 then (0, -1) else (x5 * x6, ((i + 0 : Nat) : Int)))
          by_cases he : i = x7
          · rw [if_pos (by omega), if_pos (by omega)]
          · rw [if_neg (by omega), if_neg (by omega), w64 (by rcases h5 with rfl | rfl <;> omega) (by rcases h5 with rfl | rfl <;> omega)]
            rfl
/-- A number that stands at a place: its sign, its digits; what it is, and where it ends. -/
def rdF (l : List UInt8) (at_ : Nat) : Int × Int :=
  let neg := l[at_]? = some 45
  let from_ := if neg then at_ + 1 else at_
  match rdd 0 (l.drop from_) with
  | none => (0, -1)
  | some (v, c) => if from_ + c = from_ then (0, -1) else ((if neg then -1 else 1) * v, ((from_ + c : Nat) : Int))
theorem read_ev (l : List UInt8) (hl : l.length ≤ 1000) (i : Nat) (hi : i ≤ l.length) : Ev (fun k => drachmref02_read.f k (B l) (i : Int)) (rdF l i) := by
  have fin : ∀ (b : Bool) (x5 : Int) (j : Nat), (l[i]? = some 45) = (b = true) → j = (if b = true then i + 1 else i) → x5 = (if b = true then -1 else 1) → j ≤ l.length →
      Ev (fun k => drachmref02_read.l0 k (B l) (j : Int) x5 0 (j : Int)) (rdF l i) := by
    intro b x5 j hb hj h5 hjl
    have := read_loop l hl x5 (by cases b <;> simp_all) j (l.length - j) j 0 (by omega) (by omega) (by omega)
    unfold rdF
    simp only [hb]
    rw [← hj, ← h5]
    exact this
  have fin2 : ∀ (b : Bool), (l[i]? = some 45) = (b = true) → (b = true → i + 1 ≤ l.length) → Ev (fun k => drachmref02_read.j0 k (B l) (i : Int) 1 b) (rdF l i) := by
    intro b hb hn
    cases b with
    | true =>
      have h1 := hn rfl
      refine Ev.step (f := fun k => drachmref02_read.j1 k (B l) ((i + 1 : Nat) : Int) (-1)) (fun k => ?_) (Ev.step (f := fun k => drachmref02_read.l0 k (B l) ((i + 1 : Nat) : Int) (-1) 0 ((i + 1 : Nat) : Int)) (fun k => ?_) (fin true (-1) (i + 1) hb rfl rfl h1))
      · simp only [drachmref02_read.j0]
        rw [if_pos trivial, w64 (by omega) (by omega)]
        rfl
      · simp only [drachmref02_read.j1]
    | false =>
      refine Ev.step (f := fun k => drachmref02_read.j1 k (B l) (i : Int) 1) (fun k => ?_) (Ev.step (f := fun k => drachmref02_read.l0 k (B l) (i : Int) 1 0 (i : Int)) (fun k => ?_) (fin false 1 i hb rfl rfl hi))
      · simp only [drachmref02_read.j0]
        rw [if_neg (by simp)]
      · simp only [drachmref02_read.j1]
  unfold drachmref02_read.f
  by_cases hlt : i < l.length
  · refine Ev.congr (f := fun k => drachmref02_read.j0 k (B l) (i : Int) 1 (bt (B l) (i : Int) == 45)) (fun k => ?_) (fin2 _ ?_ (fun _ => by omega))
    · rw [B_size, if_pos (by omega), if_pos (by omega)]
    · rw [bt_B l i hlt, List.getElem?_eq_getElem hlt]
      have hc := l[i].toNat_lt
      simp only [Option.some.injEq, beq_iff_eq, eq_iff_iff]
      constructor
      · intro h; rw [h]; rfl
      · intro h; exact UInt8.toNat_inj.1 (by rw [show (45 : UInt8).toNat = 45 from rfl]; omega)
  · refine Ev.congr (f := fun k => drachmref02_read.j0 k (B l) (i : Int) 1 false) (fun k => ?_) (fin2 _ ?_ (fun h => by cases h))
    · rw [B_size, if_neg (by omega)]
    · rw [List.getElem?_eq_none (by omega)]
      simp
theorem rdF_bounds (l : List UInt8) (i : Nat) (hi : i ≤ l.length) : Fit (rdF l i).1 ∧ ((rdF l i).2 = -1 ∨ ∃ e : Nat, (rdF l i).2 = (e : Int) ∧ i < e ∧ e ≤ l.length) := by
  unfold rdF
  simp only
  have hf : ∀ b : Prop, [Decidable b] → (b → i < l.length) → (if b then i + 1 else i) ≤ l.length ∧ i ≤ (if b then i + 1 else i) := by
    intro b _ hb
    split
    · rename_i h; have := hb h; omega
    · omega
  have := hf (l[i]? = some 45) (fun h => by
    rcases Nat.lt_or_ge i l.length with h' | h'
    · exact h'
    · rw [List.getElem?_eq_none h'] at h; cases h)
  generalize (if l[i]? = some 45 then i + 1 else i) = j at this ⊢
  cases hr : rdd 0 (l.drop j) with
  | none => exact ⟨by unfold Fit; simp, Or.inl rfl⟩
  | some p =>
    obtain ⟨v, c⟩ := p
    have hb := rdd_bounds _ 0 v c (by omega) (by omega) hr
    rw [List.length_drop] at hb
    simp only
    split
    · exact ⟨by unfold Fit; simp, Or.inl rfl⟩
    · refine ⟨?_, Or.inr ⟨j + c, rfl, by omega, by omega⟩⟩
      unfold Fit
      split <;> omega
theorem rdF_itoa {p r : List UInt8} {m : Int} (hm : Fit m) (hr : ∀ c, r.head? = some c → ¬ Dg c) : rdF (p ++ (itoa m ++ r)) p.length = (m, ((p.length + (itoa m).length : Nat) : Int)) := by
  unfold Fit at hm
  by_cases hn : m < 0
  · obtain ⟨u, rfl⟩ : ∃ u : Nat, m = -(u : Int) := ⟨m.natAbs, by omega⟩
    rw [itoa_neg u (by omega)]
    unfold rdF
    have e1 : (p ++ (45 :: decDigits u ++ r))[p.length]? = some 45 := by simp
    simp only [e1, if_true]
    have e2 : (p ++ (45 :: decDigits u ++ r)).drop (p.length + 1) = decDigits u ++ r := by
      rw [List.drop_append]
      simp
    rw [e2, rdd_dec u r (by omega), rdd_stop _ r hr]
    have := List.length_pos_iff.2 (dec_ne u)
    simp only [Option.map_some, Nat.zero_add]
    rw [if_neg (by omega)]
    simp only [List.length_cons, Prod.mk.injEq]
    omega
  · obtain ⟨u, rfl⟩ : ∃ u : Nat, m = (u : Int) := ⟨m.toNat, by omega⟩
    rw [itoa_nonneg]
    obtain ⟨c, q, hc⟩ : ∃ c r, decDigits u = c :: r := List.exists_cons_of_ne_nil (dec_ne _)
    have hd := dec_dg u c (by rw [hc]; simp)
    unfold rdF
    have e1 : ¬ (p ++ (decDigits u ++ r))[p.length]? = some 45 := by
      rw [hc]
      simp
      rintro rfl
      exact absurd hd (by decide)
    simp only [e1, if_false]
    have e2 : (p ++ (decDigits u ++ r)).drop p.length = decDigits u ++ r := by simp
    rw [e2, rdd_dec u r (by omega), rdd_stop _ r hr]
    have := List.length_pos_iff.2 (dec_ne u)
    simp only [Option.map_some, Nat.zero_add]
    rw [if_neg (by omega)]
    simp only [Int.one_mul]
end Go.Proofs.YtnndaackjgnhhaaDoor.Tx
