/- Numerals: what strconv writes it reads; how a row of digits is read from the left. Plain Lean; no program in sight. -/
import Derived.Lib.ItoaLen
import Derived.Lib.ItoaMem
import Derived.Lib.ParseIntB
import Derived.Test.YthfibffgmoblaaaDoorFr5
import Derived.Test.YthfibffgmoblaaaDoorPTx
namespace Go.Proofs.YthfibffgmoblaaaDoor.Tx
open Go.Lib
set_option linter.unusedVariables false
def Dg (c : UInt8) : Prop := 48 ≤ c.toNat ∧ c.toNat ≤ 57
instance (c : UInt8) : Decidable (Dg c) := by unfold Dg; infer_instance
theorem dg_of {u : Nat} (h : u < 10) : (UInt8.ofNat (48 + u)).toNat = 48 + u := by
  rw [UInt8.toNat_ofNat']; omega
theorem dec_dg : ∀ (u : Nat) (c : UInt8), c ∈ decDigits u → Dg c := by
  intro u
  induction u using Nat.strongRecOn with
  | ind u ih =>
    intro c hc
    unfold decDigits at hc
    split at hc
    · rename_i h
      rw [List.mem_singleton] at hc
      subst hc
      unfold Dg; rw [dg_of h]; omega
    · rcases List.mem_append.1 hc with hc | hc
      · exact ih (u / 10) (by omega) c hc
      · rw [List.mem_singleton] at hc
        subst hc
        unfold Dg; rw [dg_of (Nat.mod_lt _ (by omega))]; omega
theorem dec_ne (u : Nat) : decDigits u ≠ [] := by
  unfold decDigits
  split
  · simp
  · simp
theorem parseM_dec {M : Nat} (hM : M < 18446744073709551616) : ∀ (u : Nat) (r : List UInt8), u ≤ M → parseUintM M 0 (decDigits u ++ r) = parseUintM M u r := by
  intro u
  induction u using Nat.strongRecOn with
  | ind u ih =>
    intro r hu
    unfold decDigits
    split
    · rename_i h
      show parseUintM M 0 (UInt8.ofNat (48 + u) :: r) = _
      rw [parseUintM, dg_of h, if_pos (by omega), if_neg (by omega), if_neg (by omega)]
      congr 1
      omega
    · rename_i h
      have hm : u % 10 < 10 := Nat.mod_lt _ (by omega)
      rw [List.append_assoc, ih (u / 10) (by omega) _ (by omega)]
      show parseUintM M (u / 10) (UInt8.ofNat (48 + u % 10) :: r) = _
      rw [parseUintM, dg_of hm, if_pos (by omega), if_neg (by omega), if_neg (by omega)]
      congr 1
      omega
theorem parse_itoa {n : Int} (h0 : -9223372036854775808 ≤ n) (h1 : n ≤ 9223372036854775807) : parseIntB 64 (itoa n) = .ok n := by
  have key : ∀ u : Nat, u ≤ 18446744073709551615 → parseUintB 64 (decDigits u) = .ok u := by
    intro u hu
    unfold parseUintB
    rw [if_neg (dec_ne u)]
    have := parseM_dec (M := 2 ^ 64 - 1) (by omega) u [] (by omega)
    rw [List.append_nil] at this
    rw [this, parseUintM]
  unfold itoa
  by_cases hn : n < 0
  · rw [if_pos hn]
    unfold parseIntB
    have e : (45 : UInt8).toNat = 45 := by decide
    simp only [e]
    rw [if_pos (by simp), key _ (by omega)]
    simp only [not_true_eq_false, false_and, if_false, true_and, if_true]
    rw [if_neg (by omega)]
    congr 1
    omega
  · rw [if_neg hn]
    obtain ⟨c, r, hc⟩ : ∃ c r, decDigits n.toNat = c :: r := List.exists_cons_of_ne_nil (dec_ne _)
    have hd := dec_dg n.toNat c (by rw [hc]; simp)
    unfold Dg at hd
    rw [hc]
    unfold parseIntB
    simp only
    rw [if_neg (by omega), ← hc, key _ (by omega)]
    have e : ¬ c.toNat = 45 := by omega
    simp only [e, not_false_eq_true, true_and, if_false, false_and]
    rw [if_neg (by omega)]
    congr 1
    omega
/-- A frac's text. -/
def txt (n d t : Int) : List UInt8 := itoa n ++ ((if d = 1 then [] else 47 :: itoa d) ++ (if t = 0 then [] else 101 :: itoa t))
theorem itoa_mem {n : Int} {c : UInt8} (h : c ∈ itoa n) : c = 45 ∨ Dg c := by
  unfold itoa at h
  split at h
  · rcases List.mem_cons.1 h with h | h
    · exact Or.inl h
    · exact Or.inr (dec_dg _ _ h)
  · exact Or.inr (dec_dg _ _ h)
theorem itoa_ne (n : Int) : itoa n ≠ [] := by
  unfold itoa
  split
  · simp
  · exact dec_ne _
theorem itoa_no {n : Int} {c : UInt8} (h : c ∈ itoa n) (b : UInt8) (hb : b ≠ 45) (hd : ¬ Dg b) : c ≠ b := by
  rintro rfl
  rcases itoa_mem h with h | h
  · exact hb h
  · exact hd h
/-- Digits read from the left: the number and how many there were; none: too great. -/
def rdd (x : Int) : List UInt8 → Option (Int × Nat)
  | [] => some (x, 0)
  | c :: r => if Dg c then (if x > (9223372036854775807 - ((c.toNat : Int) - 48)) / 10 then none else (rdd (x * 10 + ((c.toNat : Int) - 48)) r).map fun p => (p.1, p.2 + 1)) else some (x, 0)
theorem rdd_stop (x : Int) : ∀ (r : List UInt8), (∀ c, r.head? = some c → ¬ Dg c) → rdd x r = some (x, 0)
  | [], _ => rfl
  | c :: r, h => by rw [rdd, if_neg (h c rfl)]
theorem rdd_dec : ∀ (u : Nat) (r : List UInt8), u ≤ 9223372036854775807 → rdd 0 (decDigits u ++ r) = (rdd u r).map fun p => (p.1, p.2 + (decDigits u).length) := by
  intro u
  induction u using Nat.strongRecOn with
  | ind u ih =>
    intro r hu
    unfold decDigits
    split
    · rename_i h
      show rdd 0 (UInt8.ofNat (48 + u) :: r) = _
      rw [rdd, if_pos (by unfold Dg; rw [dg_of h]; omega), dg_of h, if_neg (by omega)]
      simp only [List.length_singleton]
      congr 2
      omega
    · rename_i h
      have hm : u % 10 < 10 := Nat.mod_lt _ (by omega)
      rw [List.append_assoc, ih (u / 10) (by omega) _ (by omega)]
      show (rdd ((u / 10 : Nat) : Int) (UInt8.ofNat (48 + u % 10) :: r)).map _ = _
      rw [rdd, if_pos (by unfold Dg; rw [dg_of hm]; omega), dg_of hm, if_neg (by omega), Option.map_map]
      rw [show ((u / 10 : Nat) : Int) * 10 + (((48 + u % 10 : Nat) : Int) - 48) = (u : Int) from by omega]
      congr 1
      funext p
      simp only [Function.comp, List.length_append, List.length_singleton]
      congr 1
      omega
theorem rdd_bounds : ∀ (l : List UInt8) (x : Int) (v : Int) (c : Nat), 0 ≤ x → x ≤ 9223372036854775807 → rdd x l = some (v, c) → 0 ≤ v ∧ v ≤ 9223372036854775807 ∧ c ≤ l.length
  | [], x, v, c, h0, h1, h => by
    simp only [rdd, Option.some.injEq, Prod.mk.injEq] at h
    obtain ⟨rfl, rfl⟩ := h
    simp [h0, h1]
  | b :: r, x, v, c, h0, h1, h => by
    unfold rdd at h
    split at h
    · rename_i hb
      unfold Dg at hb
      split at h
      · cases h
      · rename_i hx
        obtain ⟨⟨v', c'⟩, h', e⟩ := Option.map_eq_some_iff.1 h
        simp only [Prod.mk.injEq] at e
        obtain ⟨rfl, rfl⟩ := e
        have := rdd_bounds r _ v' c' (by omega) (by omega) h'
        simp only [List.length_cons]
        omega
    · simp only [Option.some.injEq, Prod.mk.injEq] at h
      obtain ⟨rfl, rfl⟩ := h
      simp [h0, h1]
end Go.Proofs.YthfibffgmoblaaaDoor.Tx
namespace Go.Proofs.YthfibffgmoblaaaDoor.Tx
open Go.RowKit Go.Lib Go.Proofs.YthfibffgmoblaaaDoor.Fr Go.Proofs.YthfibffgmoblaaaDoor.Wh Go.Proofs.YthfibffgmoblaaaDoor.PB Go.Proofs.YthfibffgmoblaaaDoor.PC Go.Proofs.YthfibffgmoblaaaDoor.PT Go.Proofs.YthfibffgmoblaaaDoorW.PrintWords Go.Proofs.YthfibffgmoblaaaDoorW.PrintLast Go.Proofs.YthfibffgmoblaaaDoorW.PrintMore
set_option linter.unusedVariables false
def B (l : List UInt8) : ByteArray := ⟨l.toArray⟩
theorem B_app (l m : List UInt8) : B l ++ B m = B (l ++ m) := by
  unfold B
  apply ByteArray.ext
  simp
theorem B_size (l : List UInt8) : (B l).size = l.length := by simp [B, ByteArray.size]
theorem B_list (l : List UInt8) : (B l).toList = l := by unfold B; simp
theorem B_data (l : List UInt8) : (B l).data.toList = l := by simp [B]
theorem B_nil : (⟨#[]⟩ : ByteArray) = B [] := rfl
theorem B_ext (l : List UInt8) (a b : Nat) : (B l).extract a b = B ((l.drop a).take (b - a)) := by
  unfold B
  apply ByteArray.ext
  simp
theorem B_of (s : ByteArray) : s = B s.data.toList := by
  obtain ⟨⟨l⟩⟩ := s
  rfl
theorem dec_len (u : Nat) (h : u ≤ 9223372036854775807) : (decDigits u).length ≤ 21 := by
  have := itoa_length_le (u : Int) (by omega) (by omega)
  rwa [itoa_nonneg] at this
theorem RD_fit {n d t : Int} (h : RD n d t = true) (id : I64 d) : Fit n ∧ Fit d ∧ Fit t ∧ 0 < d := by
  by_cases hn : n = 0
  · unfold RD at h
    rw [if_pos hn] at h
    simp at h
    unfold Fit
    omega
  · have := (RD_right hn id).1 h
    refine ⟨this.fn, this.fd, ?_, this.pos⟩
    have h1 := this.lo
    have h2 := this.hi
    unfold Fit
    omega
/-- What Text tells. -/
def text (n d t : Int) : List UInt8 := if RD n d t = true then txt n d t else []
theorem itoa_len {n : Int} (h : Fit n) : (itoa n).length ≤ 21 := itoa_length_le n (by unfold Fit at h; omega) (by unfold Fit at h; omega)
theorem Fmt_eq {n : Int} (h : Fit n) : strconv_FormatInt.f n 10 = some (B (itoa n)) := by
  unfold strconv_FormatInt.f
  unfold Fit at h
  rw [if_pos ⟨rfl, by omega, by omega⟩]
  rfl
theorem Ito_eq {n : Int} (h : Fit n) : strconv_Itoa.f n = some (B (itoa n)) := by
  unfold strconv_Itoa.f
  unfold Fit at h
  rw [if_pos ⟨by omega, by omega⟩]
  rfl
theorem FText_ev {n d t : Int} (i : I64 n) (id : I64 d) : Ev (fun k => frac_Text.f k n d t) (B (text n d t)) := by
  obtain ⟨K, hK⟩ := Right_ev (t := t) i id
  unfold text
  refine ⟨K, fun k hk => ?_⟩
  show frac_Text.f k n d t = _
  simp only at hK
  unfold frac_Text.f
  rw [hK k hk, bs_]
  by_cases hr : RD n d t = true
  · rw [if_pos hr, if_pos hr]
    obtain ⟨fn, fd, ft, hd⟩ := RD_fit hr id
    have l1 := itoa_len fn
    have l2 := itoa_len ft
    have l3 := itoa_len fd
    rw [Fmt_eq fn, bs_, Fmt_eq fd, Ito_eq ft]
    simp only [bs_, show (⟨#[101]⟩ : ByteArray) = B [101] from rfl, show (⟨#[47]⟩ : ByteArray) = B [47] from rfl, B_app, B_size, List.length_append, List.length_singleton]
    unfold txt
    by_cases hd1 : d = 1
    · by_cases ht : t = 0
      · simp [hd1, ht]
      · rw [if_pos hd1, if_neg ht, if_pos (by omega), if_pos (by omega), if_pos hd1, if_neg ht]
        simp
    · by_cases ht : t = 0
      · rw [if_neg hd1, if_pos (by omega), if_pos (by omega), if_pos ht, if_neg hd1, if_pos ht]
        simp
      · rw [if_neg hd1, if_pos (by omega), if_pos (by omega), if_neg ht, if_pos (by omega), if_pos (by omega), if_neg hd1, if_neg ht]
        simp
  · rw [if_neg hr, if_neg hr]
    rfl

end Go.Proofs.YthfibffgmoblaaaDoor.Tx
