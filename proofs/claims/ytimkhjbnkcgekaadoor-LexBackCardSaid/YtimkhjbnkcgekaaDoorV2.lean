/- Chapter 7's plain laws: what style.Kind and style.Raise come to. No conditions beyond those that stand in each theorem. -/
import Derived.Test.YtimkhjbnkcgekaaDoorV1
namespace Go.Proofs.YtimkhjbnkcgekaaDoor
open Go.RowKit Go.Proofs.YtimkhjbnkcgekaaDoor.PB Go.Proofs.YtimkhjbnkcgekaaDoorW.PrintWords Go.Proofs.YtimkhjbnkcgekaaDoorW.PrintLast
def letter (c : Int) : Prop := 97 ≤ c ∧ c ≤ 122 ∨ 65 ≤ c ∧ c ≤ 90 ∨ c = 37 ∨ c = 39 ∨ c = 95 ∨ c = 91 ∨ c = 93
instance (c : Int) : Decidable (letter c) := by unfold letter; infer_instance
theorem idx_nat : ∀ m : Nat, m < 256 → ((Lib.indexByte [37, 39, 95, 91, 93] m.toUInt8 ≥ 0) ↔ (m = 37 ∨ m = 39 ∨ m = 95 ∨ m = 91 ∨ m = 93)) := by decide +kernel
theorem idx (c : Int) (h0 : 0 ≤ c) (h1 : c ≤ 255) : (Lib.indexByte [37, 39, 95, 91, 93] c.toNat.toUInt8 ≥ 0) ↔ (c = 37 ∨ c = 39 ∨ c = 95 ∨ c = 91 ∨ c = 93) := by
  rw [idx_nat c.toNat (by omega)]; omega
def kindP (x : Bool × Int × Int × Int × Int × Int × Bool) (c : Int) : Int :=
  if x.2.2.2.2.2.2 = false ∨ c = 0 then 0 else if letter c then 1 else if 48 ≤ c ∧ c ≤ 57 then 2 else if c = 43 ∨ c = 45 then 3 else if c = 40 then 7 else if c = 41 then 8
  else if c = x.2.1 then 4 else if c = x.2.2.1 then 5 else if c = x.2.2.2.1 then 6 else if c = x.2.2.2.2.1 then 9 else if c = x.2.2.2.2.2.1 then 10 else 0
theorem j45 (k : Nat) (c : Int) (x1 : Bool) (x2 x3 x4 x5 x6 : Int) : style_Kind.j4 (k + 2) c x1 x2 x3 x4 x5 x6 = some (if c = 43 ∨ c = 45 then 3 else if c = 40 then 7 else if c = 41 then 8
  else if c = x2 then 4 else if c = x3 then 5 else if c = x4 then 6 else if c = x5 then 9 else if c = x6 then 10 else 0) := by
  rw [style_Kind.j4, style_Kind.j5, style_Kind.j5]
  by_cases a : c = 43
  · simp [a]
  · by_cases b : c = 45
    · simp [b]
    · simp only [a, b, if_false, or_self, beq_eq_false_iff_ne.mpr a, beq_eq_false_iff_ne.mpr b]
      repeat' split
      all_goals simp_all
theorem j3_eq (k : Nat) (c : Int) (l : Bool) (x1 : Bool) (x2 x3 x4 x5 x6 : Int) : style_Kind.j3 (k + 3) c l x1 x2 x3 x4 x5 x6 = some (if l = true then 1 else if 48 ≤ c ∧ c ≤ 57 then 2 else if c = 43 ∨ c = 45 then 3 else if c = 40 then 7 else if c = 41 then 8
  else if c = x2 then 4 else if c = x3 then 5 else if c = x4 then 6 else if c = x5 then 9 else if c = x6 then 10 else 0) := by
  rw [style_Kind.j3, j45]
  cases l
  · by_cases a : 48 ≤ c
    · by_cases b : c ≤ 57 <;> simp [a, b]
    · simp [a]
  · rfl
theorem kind_f (k : Nat) (n c : Int) {x} (hx : style_Of.f n = some x) (h0 : 0 ≤ c) (h1 : c ≤ 255) : style_Kind.f (k + 6) n c = some (kindP x c) := by
  unfold style_Kind.f
  rw [hx, bs_]
  obtain ⟨x1, x2, x3, x4, x5, x6, x7⟩ := x
  simp only [kindP]
  cases x7 with
  | false => rw [if_neg (by decide), style_Kind.j0]; simp
  | true =>
    rw [if_pos rfl, style_Kind.j0]
    by_cases z : c = 0
    · simp [z]
    · have hz : ¬ (true = false ∨ c = 0) := by simp [z]
      have hz' : ¬ ((c == 0) = true) := by simpa using z
      rw [if_neg hz', if_neg hz]
      have i := idx c h0 h1
      have e : (⟨#[37, 39, 95, 91, 93]⟩ : ByteArray).data.toList = [37, 39, 95, 91, 93] := rfl
      have j2 : ∀ l : Bool, style_Kind.j2 (k + 4) c l x1 x2 x3 x4 x5 x6 = some (if l = true ∨ c = 37 ∨ c = 39 ∨ c = 95 ∨ c = 91 ∨ c = 93 then 1 else if 48 ≤ c ∧ c ≤ 57 then 2 else if c = 43 ∨ c = 45 then 3 else if c = 40 then 7 else if c = 41 then 8
        else if c = x2 then 4 else if c = x3 then 5 else if c = x4 then 6 else if c = x5 then 9 else if c = x6 then 10 else 0) := by
        intro l
        rw [style_Kind.j2]
        cases l with
        | true => rw [if_pos rfl, j3_eq]; simp
        | false =>
          rw [if_neg (by decide), strings_IndexByte.f, bs_, j3_eq, e]
          congr 1
          by_cases q : (c = 37 ∨ c = 39 ∨ c = 95 ∨ c = 91 ∨ c = 93)
          · rw [if_pos (decide_eq_true (i.2 q)), if_pos (Or.inr q)]
          · have hq : ¬ (false = true ∨ c = 37 ∨ c = 39 ∨ c = 95 ∨ c = 91 ∨ c = 93) := fun h => h.elim (fun h => by cases h) q
            have hq' : ¬ (decide (Lib.indexByte [37, 39, 95, 91, 93] c.toNat.toUInt8 ≥ 0) = true) := by rw [decide_eq_true_iff]; exact fun h => q (i.1 h)
            rw [if_neg hq', if_neg hq]
      have j1 : ∀ l : Bool, style_Kind.j1 (k + 5) c l x1 x2 x3 x4 x5 x6 = some (if l = true ∨ 65 ≤ c ∧ c ≤ 90 ∨ c = 37 ∨ c = 39 ∨ c = 95 ∨ c = 91 ∨ c = 93 then 1 else if 48 ≤ c ∧ c ≤ 57 then 2 else if c = 43 ∨ c = 45 then 3 else if c = 40 then 7 else if c = 41 then 8
        else if c = x2 then 4 else if c = x3 then 5 else if c = x4 then 6 else if c = x5 then 9 else if c = x6 then 10 else 0) := by
        intro l
        rw [style_Kind.j1]
        cases l with
        | true => simp
        | false =>
          rw [if_neg (by decide)]
          by_cases q : 65 ≤ c
          · rw [if_pos q, j2]; simp [q]
          · rw [if_neg q, j2]; simp [q]
      unfold letter
      by_cases q : 97 ≤ c
      · rw [if_pos q, j1]; simp [q]
      · rw [if_neg q, j1]; simp [q]
theorem kind_up (fold : Bool) (c : Int) (x) (h0 : 0 ≤ c) (h1 : c ≤ 255) : kindP x (up fold c) = kindP x c := by
  unfold up
  by_cases h : fold = true ∧ 97 ≤ c ∧ c ≤ 122
  · rw [if_pos h]
    unfold kindP
    have a : letter c := by unfold letter; omega
    have b : letter (c - 32) := by unfold letter; omega
    by_cases z : x.2.2.2.2.2.2 = false
    · rw [if_pos (Or.inl z), if_pos (Or.inl z)]
    · have z1 : ¬ (x.2.2.2.2.2.2 = false ∨ c - 32 = 0) := fun h => h.elim z (by omega)
      have z2 : ¬ (x.2.2.2.2.2.2 = false ∨ c = 0) := fun h => h.elim z (by omega)
      rw [if_neg z1, if_neg z2, if_pos a, if_pos b]
  · rw [if_neg h]
theorem up_up (fold : Bool) (c : Int) : up fold (up fold c) = up fold c := by
  unfold up
  by_cases h : fold = true ∧ 97 ≤ c ∧ c ≤ 122
  · rw [if_pos h, if_neg (by omega)]
  · rw [if_neg h, if_neg h]
theorem up_false (c : Int) : up false c = c := by unfold up; simp
theorem bytes_of_nums (l : List Int) (h : ∀ c ∈ l, 0 ≤ c ∧ c ≤ 255) : bytesOf (strOfNums l) = l := by
  have e : (strOfNums l).data.toList = l.map fun c => c.toNat.toUInt8 := by simp [strOfNums]
  unfold bytesOf
  rw [e, List.map_map]
  refine (List.map_congr_left (fun c hc => ?_)).trans (List.map_id l)
  have := h c hc
  simp
  omega
theorem bytes_bounds (s : ByteArray) : ∀ c ∈ bytesOf s, 0 ≤ c ∧ c ≤ 255 := by
  intro c hc
  unfold bytesOf at hc
  obtain ⟨b, _, rfl⟩ := List.mem_map.1 hc
  have := b.toNat_lt
  omega
theorem inj {a b : ByteArray} (h : bytesOf a = bytesOf b) : a = b := by
  refine Go.WideShapes.bytes_inj ?_
  unfold bytesOf at h
  refine List.map_inj_right (f := fun c : UInt8 => (c.toNat : Int)) (fun x y hxy => ?_) |>.1 h
  exact UInt8.toNat_inj.1 (Int.ofNat_inj.1 hxy)
end Go.Proofs.YtimkhjbnkcgekaaDoor
