/- LexLong's plain law: for any notation and any count the law's function answers true. No conditions. -/
import Derived.Test.YtimkhjbnkcgekaaDoorPLexLongx
import Derived.Test.YtimkhjbnkcgekaaDoorV4
namespace Go.Proofs.YtimkhjbnkcgekaaDoor.Pure
open Go Go.RowKit Go.Proofs.YtimkhjbnkcgekaaDoor Go.Proofs.YtimkhjbnkcgekaaDoor.Lx Go.Proofs.YtimkhjbnkcgekaaDoor.PLexLong Go.Proofs.YtimkhjbnkcgekaaDoor.PB Go.Proofs.YtimkhjbnkcgekaaDoor.PC Go.Proofs.YtimkhjbnkcgekaaDoor.PQ Go.Proofs.YtimkhjbnkcgekaaDoor.V3 Go.Proofs.YtimkhjbnkcgekaaDoorW.PrintWords Go.Proofs.YtimkhjbnkcgekaaDoorW.PrintLast
def Ms (i : Nat) : ByteArray := strOfNums (List.replicate i 77)
theorem Ms_size (i : Nat) : (Ms i).size = i := by unfold Ms; rw [son_size]; simp
theorem Ms_bytes (i : Nat) : bytesOf (Ms i) = List.replicate i 77 := bytes_of_nums _ (fun c hc => by have := List.eq_of_mem_replicate hc; omega)
theorem Ms_next (i : Nat) : Ms i ++ (⟨#[77]⟩ : ByteArray) = Ms (i + 1) := by
  unfold Ms
  rw [List.replicate_succ', son_append]
  rfl
theorem kind_M {x : Sty} (h : x.2.2.2.2.2.2 = true) : kindP x 77 = 1 := by
  unfold kindP
  rw [if_neg (by simp [h]), if_pos (by unfold letter; omega)]
theorem all_M {x : Sty} (h : x.2.2.2.2.2.2 = true) : ∀ i : Nat, (all x (List.replicate i 77)).length = min i 1 ∧ endOf x (List.replicate i 77) = i
  | 0 => ⟨rfl, rfl⟩
  | i + 1 => by
    have hk := kind_M h
    have htw : (List.replicate (i + 1) (77 : Int)).takeWhile (kp_ x 1) = List.replicate (i + 1) 77 := by
      have := takeWhile_app (kp_ x 1) ([] : List Int) (by simp) (List.replicate (i + 1) 77) (fun c hc => by rw [List.eq_of_mem_replicate hc]; simp [kp_, hk])
      rwa [List.append_nil] at this
    have hn : nextL x (List.replicate (i + 1) 77) = some ⟨1, (List.replicate (i + 1) (77 : Int)).map (up x.1), 0, i + 1⟩ := by
      rw [List.replicate_succ, nextL_cons, hk, if_neg (by decide), if_pos rfl, ← List.replicate_succ, htw, List.length_replicate]
    unfold all endOf
    rw [List.length_replicate, toks_some hn, List.drop_eq_nil_of_le (by rw [List.length_replicate]; exact Nat.le_refl _), toks_none rfl]
    simp
theorem loop {n m : Int} (hn : 1 ≤ n ∧ n ≤ 5) (hm : 0 ≤ m ∧ m ≤ 300) : ∀ (d i : Nat), (i : Int) + d = m → ∀ k, d < k → drachmlaw08_LexLong.l0 k true n m (Ms i) (i : Int) = some true
  | 0, i, hi, k, hk => by
    obtain ⟨k, rfl⟩ : ∃ m, k = m + 1 := ⟨k - 1, by omega⟩
    obtain ⟨x, hx⟩ := of_some n
    have hs := is_style hn hx
    obtain ⟨a1, a2⟩ := all_M hs i
    rw [drachmlaw08_LexLong.l0, if_neg (by omega), lex_f n (Ms i) (by rw [Ms_size]; omega) hx, bs_]
    by_cases h : 255 < i
    · rw [lexP_long hs (by rw [Ms_size]; exact h)]
      simp only
      rw [if_pos (by omega)]
      rfl
    · rw [lexP_ok hs (by rw [Ms_size]; omega) (by rw [Ms_bytes, a2, Ms_size]), Ms_size, Ms_bytes]
      simp only
      rw [if_neg (by omega), if_pos trivial, if_pos trivial, if_pos (by omega), a1]
      congr 1
      rw [beq_iff_eq]
      unfold mn
      split <;> omega
  | d + 1, i, hi, k, hk => by
    obtain ⟨k, rfl⟩ : ∃ m, k = m + 1 := ⟨k - 1, by omega⟩
    have ih := loop hn hm d (i + 1) (by omega) k (by omega)
    rw [drachmlaw08_LexLong.l0, if_pos (by omega), if_pos (by rw [Ms_size]; omega), Ms_next, w64 (by omega) (by omega)]
    exact ih
theorem LexLong : drachmlaw08_LexLong.Pure := by
  intro n many _ _
  obtain ⟨r, er, h0, h1⟩ := rest_eq n 5 (by omega) (by omega)
  obtain ⟨m, em, m0, m1⟩ := rest_eq many 301 (by omega) (by omega)
  refine ⟨400, ?_⟩
  unfold drachmlaw08_LexLong.f
  rw [awake_true, bs_, er, bs_, em, bs_, w64 (by omega) (by omega)]
  exact loop (n := 1 + r) (m := m) (by omega) (by omega) m.toNat 0 (by omega) 400 (by omega)
end Go.Proofs.YtimkhjbnkcgekaaDoor.Pure
