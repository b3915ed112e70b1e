/- How a frac's text is written, by both. Conditions: 64-bit numbers. -/
import Derived.Test.YtnndaackjgnhhaaDoorTx1
import Derived.Test.YtnndaackjgnhhaaDoorFr4
import Derived.Test.YtnndaackjgnhhaaDoorPEx
import Derived.Test.YtnndaackjgnhhaaDoorPTx
namespace Go.Proofs.YtnndaackjgnhhaaDoor.Tx
open Go.RowKit Go.Lib Go.Proofs.YtnndaackjgnhhaaDoor.Fr Go.Proofs.YtnndaackjgnhhaaDoor.Wh Go.Proofs.YtnndaackjgnhhaaDoor.PB Go.Proofs.YtnndaackjgnhhaaDoor.PC Go.Proofs.YtnndaackjgnhhaaDoor.PE Go.Proofs.YtnndaackjgnhhaaDoor.PT Go.Proofs.YtnndaackjgnhhaaDoorW.PrintWords Go.Proofs.YtnndaackjgnhhaaDoorW.PrintLast Go.Proofs.YtnndaackjgnhhaaDoorW.PrintMore
set_option linter.unusedVariables false
def B (l : List UInt8) : ByteArray := ⟨l.toArray⟩
theorem B_app (l m : List UInt8) : B l ++ B m = B (l ++ m) := by
  unfold B
  apply ByteArray.ext
  simp
theorem B_size (l : List UInt8) : (B l).size = l.length := by simp [B, ByteArray.size]
theorem B_list (l : List UInt8) : (B l).toList = l := by unfold B; simp
theorem B_data (l : List UInt8) : (B l).data.toList = l := by simp [B]
theorem B_nil : (⟨#[]⟩ : ByteArray) = B [] := rfl
theorem B_ext (l : List UInt8) (a b : Nat) : (B l).extract a b = B ((l.drop a).take (b - a)) := by
  unfold B
  apply ByteArray.ext
  simp
theorem B_of (s : ByteArray) : s = B s.data.toList := by
  obtain ⟨⟨l⟩⟩ := s
  rfl
theorem one_ (x : Int) (u : Nat) (h : u < 10) (e : x = 48 + u) : strOfNums [wrap64 x % 256] = B [UInt8.ofNat (48 + u)] := by
  subst e
  rw [w64 (by omega) (by omega)]
  unfold strOfNums B
  rw [List.map_singleton]
  congr 4
  omega
theorem digits_loop : ∀ (u : Nat) (r : List UInt8), u ≤ 9223372036854775807 → r.length + (decDigits u).length ≤ 1000 → Ev (fun k => drachmref02_digits.l0 k (u : Int) (B r)) (B (decDigits u ++ r)) := by
  intro u
  induction u using Nat.strongRecOn with
  | ind u ih =>
    intro r hu hr
    by_cases h : u < 10
    · refine Ev.step (f := fun _ => some (B (decDigits u ++ r))) (fun k => ?_) (Ev.now _)
      simp only [drachmref02_digits.l0]
      unfold decDigits at hr ⊢
      rw [dif_pos h] at hr ⊢
      rw [if_neg (by omega), bs_, one_ _ u h (by omega), B_size, B_size, if_pos (by simp at hr ⊢; omega), B_app]
    · have hm : u % 10 < 10 := Nat.mod_lt _ (by omega)
      have ed : decDigits u = decDigits (u / 10) ++ [UInt8.ofNat (48 + u % 10)] := by
        conv => lhs; unfold decDigits
        rw [dif_neg h]
      rw [ed, List.length_append, List.length_singleton] at hr
      rw [ed, List.append_assoc]
      refine Ev.step (fun k => ?_) (ih (u / 10) (by omega) ([UInt8.ofNat (48 + u % 10)] ++ r) (by omega) (by simp; omega))
      simp only [drachmref02_digits.l0]
      have e1 : Int.tmod (u : Int) 10 = ((u % 10 : Nat) : Int) := by rw [Int.tmod_eq_emod_of_nonneg (by omega)]; omega
      have e2 : Int.tdiv (u : Int) 10 = ((u / 10 : Nat) : Int) := by rw [Int.tdiv_eq_ediv_of_nonneg (by omega)]; omega
      rw [if_pos (by omega), bs_, e1, e2, one_ _ (u % 10) hm (by omega), B_size, B_size, if_pos (by simp; omega), B_app, w64 (by omega) (by omega)]
theorem dec_len (u : Nat) (h : u ≤ 9223372036854775807) : (decDigits u).length ≤ 21 := by
  have := itoa_length_le (u : Int) (by omega) (by omega)
  rwa [itoa_nonneg] at this
theorem digits_ev (u : Nat) (hu : u ≤ 9223372036854775807) : Ev (fun k => drachmref02_digits.f k (u : Int)) (B (decDigits u)) := by
  have := digits_loop u [] hu (by have := dec_len u hu; simp; omega)
  rw [List.append_nil] at this
  exact this
theorem signed_ev {n : Int} (h : Fit n) : Ev (fun k => drachmref02_signed.f k n) (B (itoa n)) := by
  unfold Fit at h
  by_cases hn : n < 0
  · obtain ⟨u, rfl⟩ : ∃ u : Nat, n = -(u : Int) := ⟨n.natAbs, by omega⟩
    have hl := dec_len u (by omega)
    refine Ev.congr (f := fun k => (drachmref02_digits.f k (u : Int)).bind fun t107 => (if 1 + t107.size ≤ 9223372036854775807 then (some ((⟨#[45]⟩ : ByteArray) ++ t107)) else (none))) (fun k => ?_) ((digits_ev u (by omega)).bind (Ev.congr (f := fun _ => some (B (itoa (-(u : Int))))) (fun k => ?_) (Ev.now _)))
    · unfold drachmref02_signed.f
      rw [if_pos hn, w64 (by omega) (by omega), Int.neg_neg]
    · rw [B_size, if_pos (by omega), itoa_neg u (by omega)]
      rw [show (⟨#[45]⟩ : ByteArray) = B [45] from rfl, B_app]
      rfl
  · obtain ⟨u, rfl⟩ : ∃ u : Nat, n = (u : Int) := ⟨n.toNat, by omega⟩
    refine Ev.congr (f := fun k => (drachmref02_digits.f k (u : Int)).bind fun t108 => some t108) (fun k => ?_) ((digits_ev u (by omega)).bind (by rw [itoa_nonneg]; exact Ev.now _))
    unfold drachmref02_signed.f
    rw [if_neg hn]
theorem RD_fit {n d t : Int} (h : RD n d t = true) (id : I64 d) : Fit n ∧ Fit d ∧ Fit t ∧ 0 < d := by
  by_cases hn : n = 0
  · unfold RD at h
    rw [if_pos hn] at h
    simp at h
    unfold Fit
    omega
  · have := (RD_right hn id).1 h
    refine ⟨this.fn, this.fd, ?_, this.pos⟩
    have h1 := this.lo
    have h2 := this.hi
    unfold Fit
    omega
/-- What Text tells. -/
def text (n d t : Int) : List UInt8 := if RD n d t = true then txt n d t else []
theorem itoa_len {n : Int} (h : Fit n) : (itoa n).length ≤ 21 := itoa_length_le n (by unfold Fit at h; omega) (by unfold Fit at h; omega)
theorem RText_ev {n d t : Int} (i : I64 n) (id : I64 d) : Ev (fun k => drachmref02_Text.f k n d t) (B (text n d t)) := by
  obtain ⟨K, hK⟩ := refRight_ev (t := t) i id
  unfold text
  by_cases hr : RD n d t = true
  · rw [hr] at hK
    rw [if_pos hr]
    obtain ⟨fn, fd, ft, hd⟩ := RD_fit hr id
    obtain ⟨K1, h1⟩ := signed_ev fn
    obtain ⟨K2, h2⟩ := signed_ev ft
    obtain ⟨u, rfl⟩ : ∃ u : Nat, d = (u : Int) := ⟨d.toNat, by omega⟩
    obtain ⟨K3, h3⟩ := digits_ev u (by unfold Fit at fd; omega)
    have l1 := itoa_len fn
    have l2 := itoa_len ft
    have l3 := dec_len u (by unfold Fit at fd; omega)
    refine ⟨K + K1 + K2 + K3, fun k hk => ?_⟩
    show drachmref02_Text.f k n (u : Int) t = _
    simp only at hK h1 h2 h3
    unfold drachmref02_Text.f txt
    rw [hK k (by omega), bs_, if_pos rfl, h1 k (by omega), bs_, h2 k (by omega), h3 k (by omega)]
    simp only [bs_, show (⟨#[101]⟩ : ByteArray) = B [101] from rfl, show (⟨#[47]⟩ : ByteArray) = B [47] from rfl, B_app, B_size, List.length_append, List.length_singleton]
    rw [itoa_nonneg]
    by_cases hd1 : (u : Int) = 1
    · by_cases ht : t = 0
      · simp [hd1, ht]
      · rw [if_pos hd1, if_neg ht, if_pos (by omega), if_pos (by omega), if_pos hd1, if_neg ht]
        simp
    · by_cases ht : t = 0
      · rw [if_neg hd1, if_pos (by omega), if_pos (by omega), if_pos ht, if_neg hd1, if_pos ht]
        simp
      · rw [if_neg hd1, if_pos (by omega), if_pos (by omega), if_neg ht, if_pos (by omega), if_pos (by omega), if_neg hd1, if_neg ht]
        simp
  · rw [show RD n d t = false from by simpa using hr] at hK
    rw [if_neg hr]
    refine ⟨K, fun k hk => ?_⟩
    show drachmref02_Text.f k n d t = _
    simp only at hK
    unfold drachmref02_Text.f
    rw [hK k hk, bs_, if_neg (by simp)]
    rfl
theorem Fmt_eq {n : Int} (h : Fit n) : strconv_FormatInt.f n 10 = some (B (itoa n)) := by
  unfold strconv_FormatInt.f
  unfold Fit at h
  rw [if_pos ⟨rfl, by omega, by omega⟩]
  rfl
theorem Ito_eq {n : Int} (h : Fit n) : strconv_Itoa.f n = some (B (itoa n)) := by
  unfold strconv_Itoa.f
  unfold Fit at h
  rw [if_pos ⟨by omega, by omega⟩]
  rfl
theorem FText_ev {n d t : Int} (i : I64 n) (id : I64 d) : Ev (fun k => frac_Text.f k n d t) (B (text n d t)) := by
  obtain ⟨K, hK⟩ := Right_ev (t := t) i id
  unfold text
  refine ⟨K, fun k hk => ?_⟩
  show frac_Text.f k n d t = _
  simp only at hK
  unfold frac_Text.f
  rw [hK k hk, bs_]
  by_cases hr : RD n d t = true
  · rw [if_pos hr, if_pos hr]
    obtain ⟨fn, fd, ft, hd⟩ := RD_fit hr id
    have l1 := itoa_len fn
    have l2 := itoa_len ft
    have l3 := itoa_len fd
    rw [Fmt_eq fn, bs_, Fmt_eq fd, Ito_eq ft]
    simp only [bs_, show (⟨#[101]⟩ : ByteArray) = B [101] from rfl, show (⟨#[47]⟩ : ByteArray) = B [47] from rfl, B_app, B_size, List.length_append, List.length_singleton]
    unfold txt
    by_cases hd1 : d = 1
    · by_cases ht : t = 0
      · simp [hd1, ht]
      · rw [if_pos hd1, if_neg ht, if_pos (by omega), if_pos (by omega), if_pos hd1, if_neg ht]
        simp
    · by_cases ht : t = 0
      · rw [if_neg hd1, if_pos (by omega), if_pos (by omega), if_pos ht, if_neg hd1, if_pos ht]
        simp
      · rw [if_neg hd1, if_pos (by omega), if_pos (by omega), if_neg ht, if_pos (by omega), if_pos (by omega), if_neg hd1, if_neg ht]
        simp
  · rw [if_neg hr, if_neg hr]
    rfl
end Go.Proofs.YtnndaackjgnhhaaDoor.Tx
