/- A trie in memory: its nodes' row, their maps; Len, is, Child, Word. Conditions: those in each theorem. -/
import Derived.Test.YtgdipibmaaehcaaSq
import Derived.Test.YtgdipibmaaehcaaTr1
import Derived.Test.YtgdipibmaaehcaaTr2
import Derived.Test.YtgdipibmaaehcaaProg
import Derived.Below
import Derived.Deep.Draws
import Derived.OwnWalk
import Derived.Laws.OwnMore
import Derived.Tactics
import Derived.Laws.Slices
import Derived.WalkKit
import Derived.KernelRfl
import Derived.RowKit3
import Derived.Deep.QuietTactic
import Derived.BigQuiet
import Derived.RegionTactic
import Derived.Maps.OwnOps
namespace Go.Proofs.Ytgdipibmaaehcaa.Tr
open Go Go.RowKit Go.Proofs.Ytgdipibmaaehcaa Go.Proofs.Ytgdipibmaaehcaa.Sq Go.Proofs.YtgdipibmaaehcaaW.PrintWords Go.Proofs.YtgdipibmaaehcaaW.PrintLast Go.Proofs.YtgdipibmaaehcaaW.PrintMore
set_option linter.unusedVariables false
set_option linter.unusedSimpArgs false
/-- A node: its map's block, its word. -/
def kN : Kd (Nat × Int) := Kd.pair (Kd.scalar (fun m : Nat => Value.map (some m)) (fun _ => rfl)) (Kd.int .i64)
theorem kN_open {w : World} {x : Nat × Int} {cs : List Value} (h : kN.K w x cs) : cs = [.map (some x.1), .int .i64 x.2] := by
  obtain ⟨_, _, rfl, rfl, rfl⟩ := h
  rfl
theorem kN_mkM (w : World) (base : Nat) (ok : Nat → Prop) (x : Nat × Int) : kN.M w base ok x [.map (some x.1), .int .i64 x.2] := ⟨[.map (some x.1)], [.int .i64 x.2], rfl, rfl, rfl⟩
theorem at_N {w : World} {A : Option Addr} {n : Nat} {xs : List (Nat × Int)} (h : Kd.C kN w A n xs) (i : Nat) (h1 : i < n) : ∃ ad, A = some ad ∧ w.cell? (ad.add (i * 2)) = some (.map (some (xs.getD i (0, 0)).1)) ∧ w.cell? ⟨(ad.add (i * 2)).block, (ad.add (i * 2)).off + 1, none⟩ = some (.int .i64 (xs.getD i (0, 0)).2) := by
  obtain ⟨ad, c, e, _, hK, hc0⟩ := Kd.C_get h (0, 0) (i : Int) (by omega) (by omega)
  rw [Int.toNat_natCast] at hK hc0
  obtain rfl := kN_open hK
  exact ⟨ad, e, hc0 0 _ rfl, by rw [← add_field _ _ 1 (by omega)]; exact hc0 1 _ rfl⟩
def byteOf (c : Int) : UInt8 := c.toNat.toUInt8
/-- The trie at gt has the nodes P with the words wd. -/
structure TrieAt (gt base : Nat) (P : List Str) (wd : List Int) (W : World) : Prop where
  ex : ∃ (v : Value) (ms : List Nat), W.heap[gt]? = some (.cells #[v] 48 (0, 0)) ∧ Kd.R kN 52 W base (fun _ => True) v (ms.zip wd) ∧ ms.length = P.length ∧ wd.length = P.length ∧ ms.Nodup ∧
    (∀ (i m : Nat) (p : Str), ms[i]? = some m → P[i]? = some p → base ≤ m ∧ ∃ D, W.ownsMap Try.prog 5 (plainElem (H := Unit) Try.prog 3) m P.length D ∧ Reads D (fun c => pos P (p ++ [byteOf c])))
  good : Good P
  small : P.length ≤ 100000
theorem below_grown {A B : World} (h : Below A.heap.size A B) : A.grownBy B none := ⟨h.os, h.tape, h.output, h.size, fun k hk _ => h.block k hk⟩
theorem drawn_by (W : World) (q : Nat) : W.grownBy (W.drewN q) none := ⟨rfl, rfl, rfl, Nat.le_refl _, fun _ _ _ => rfl⟩
theorem TrieAt.below {gt base : Nat} {P : List Str} {wd : List Int} {W W' : World} (h : TrieAt gt base P wd W) (hb : Below W.heap.size W W') : TrieAt gt base P wd W' := by
  obtain ⟨⟨v, ms, h1, h2, h3, h4, h5, h6⟩, g, s⟩ := h
  refine ⟨⟨v, ms, blk_below h1 hb, Kd.R_below h2 hb, h3, h4, h5, fun i m p hi hp => ?_⟩, g, s⟩
  obtain ⟨a, D, b, c⟩ := h6 i m p hi hp
  exact ⟨a, D, b.kept (below_grown hb) (by simp), c⟩
theorem u46 : Try.prog.underlying 46 = some (.slice 52) := by kernel_rfl
theorem len_zip {ms : List Nat} {wd : List Int} {n : Nat} (h1 : ms.length = n) (h2 : wd.length = n) : (ms.zip wd).length = n := by rw [List.length_zip, h1, h2, Nat.min_self]
theorem zip_at {ms : List Nat} {wd : List Int} {i m : Nat} {wi : Int} (h1 : ms[i]? = some m) (h2 : wd[i]? = some wi) : (ms.zip wd).getD i (0, 0) = (m, wi) := by
  rw [List.getD_eq_getElem?_getD, (List.getElem?_zip_eq_some (z := (m, wi))).2 ⟨h1, h2⟩]; rfl
set_option maxHeartbeats 1000000 in
theorem len_calls {gt base : Nat} {P : List Str} {wd : List Int} {W : World} (h : TrieAt gt base P wd W) : Calls Try.prog 12 #[.pointer (some ⟨gt, 0, none⟩)] W fun e w' => e = .returned (.int .i64 (P.length : Int)) ∧ Drawn0 W w' := by
  obtain ⟨⟨v, ms, h1, h2, h3, h4, h5, h6⟩, g, s⟩ := h
  obtain ⟨A, c, rfl⟩ := Kd.R_slice h2
  rw [len_zip h3 h4] at h1
  have c1 := hc1 h1
  clear h1 h2 h6
  go_enter Try.func12, Try.ntmps12
  go_wp2
  go_ret
  exact ⟨rfl, Drawn0.refl _⟩
set_option maxHeartbeats 1000000 in
theorem is_calls {gt base : Nat} {P : List Str} {wd : List Int} {W : World} (h : TrieAt gt base P wd W) (n : Int) (b : Bool) (hb : b = decide (0 ≤ n ∧ n < (P.length : Int))) : Calls Try.prog 25 #[.pointer (some ⟨gt, 0, none⟩), .int .i64 n] W fun e w' => e = .returned (.bool b) ∧ Drawn0 W w' := by
  obtain ⟨⟨v, ms, h1, h2, h3, h4, h5, h6⟩, g, s⟩ := h
  obtain ⟨A, c, rfl⟩ := Kd.R_slice h2
  rw [len_zip h3 h4] at h1
  have c1 := hc1 h1
  have HB := Aside0.mk hb
  clear h1 h2 h6 hb
  by_cases h0 : 0 ≤ n
  · have d0 : decide (0 ≤ n) = true := decide_eq_true h0
    have HL := Aside0.mk (show b = decide (n < (P.length : Int)) by rw [HB.out]; simp [h0])
    go_enter Try.func25, Try.ntmps25
    go_wp2
    go_ret
    exact ⟨by rw [HL.out]; rfl, Drawn0.refl _⟩
  · have d0 : decide (0 ≤ n) = false := decide_eq_false h0
    have HL := Aside0.mk (show b = false by rw [HB.out]; simp [h0])
    clear h0
    go_enter Try.func25, Try.ntmps25
    go_wp2
    go_ret
    exact ⟨by rw [HL.out]; rfl, Drawn0.refl _⟩
/-- The node behind a byte. -/
def childV (P : List Str) (n c : Int) : Int × Bool := if 0 ≤ n ∧ n < (P.length : Int) then (match pos P (P.getD n.toNat [] ++ [byteOf c]) with | some k => ((k : Int), true) | none => (0, false)) else (0, false)
theorem K5 : Maps.Keyed Try.prog 5 := Maps.int_keyed (q := .u8) Try.underlying5
theorem look_run {W : World} {m n : Nat} {D : DataW Unit} {f : Int → Option Nat} (h : W.ownsMap Try.prog 5 (plainElem (H := Unit) Try.prog 3) m n D) (hr : Reads D f) (c : Int) (h0 : 0 ≤ c) (h1 : c ≤ 255) :
    (Instr.lookup 50 (.map (some m)) (.int .u8 c) true).run Try.prog W = .ok (.tuple #[.int .i64 (((f c).getD 0 : Nat) : Int), .bool (f c).isSome]) W := by
  have hwf : (Lit.int .u8 c).wf = true := by simp [Lit.wf, IntKind.min, IntKind.max, IntKind.signed, IntKind.bits]; omega
  have hk : keyOf Try.prog 5 (.int .u8 c) = some (.int .u8 c) := Maps.keyOf_int_mk (q := .u8) Try.underlying5 hwf
  have hz : (zeroValue 3).run Try.prog W = .ok (.int .i64 0) W := by kernel_rfl
  obtain ⟨v, ps, hrun, hv⟩ := h.look_ok K5 Try.underlying50 hz (plainElem_int (q := .i64) Try.underlying3 (by decide)) hk
  rw [hr.at_ c h0 h1] at hv
  obtain ⟨a, rfl, ha, _⟩ := plainElem_int_inv (q := .i64) Try.underlying3 hv
  simp only [Prod.mk.injEq] at ha
  have := ha.1
  simp only [DataW.lit.injEq, Lit.int.injEq, true_and] at this
  rw [hrun, hr.hs c h0 h1, this]
set_option maxHeartbeats 2000000 in
theorem child_calls {gt base : Nat} {P : List Str} {wd : List Int} {W : World} (h : TrieAt gt base P wd W) (n c : Int) (hc0 : 0 ≤ c) (hc255 : c ≤ 255) : Calls Try.prog 19 #[.pointer (some ⟨gt, 0, none⟩), .int .i64 n, .int .u8 c] W fun e w' => e = .returned (.tuple #[.int .i64 (childV P n c).1, .bool (childV P n c).2]) ∧ Drawn0 W w' := by
  have H := Aside0.mk h
  by_cases hn : 0 ≤ n ∧ n < (P.length : Int)
  · obtain ⟨i, rfl⟩ : ∃ i : Nat, n = (i : Int) := ⟨n.toNat, by omega⟩
    obtain ⟨⟨v, ms, h1, h2, h3, h4, h5, h6⟩, g, s⟩ := h
    obtain ⟨A, cc, rfl⟩ := Kd.R_slice h2
    obtain ⟨ad, hA, n0, n1⟩ := at_N (Kd.R_reads' h2).2.2 i (by rw [len_zip h3 h4]; omega)
    subst hA
    rw [len_zip h3 h4] at h1
    have c1 := hc1 h1
    have hi : i < P.length := by omega
    obtain ⟨m, hm⟩ : ∃ m, ms[i]? = some m := ⟨_, List.getElem?_eq_getElem (by omega)⟩
    obtain ⟨wi, hw⟩ : ∃ wi, wd[i]? = some wi := ⟨_, List.getElem?_eq_getElem (by omega)⟩
    obtain ⟨p, hp⟩ : ∃ p, P[i]? = some p := ⟨_, List.getElem?_eq_getElem hi⟩
    rw [zip_at hm hw] at n0 n1
    obtain ⟨hbs, D, hD, hR⟩ := h6 i m p hm hp
    have hv : childV P (i : Int) c = (match pos P (p ++ [byteOf c]) with | some k => ((k : Int), true) | none => (0, false)) := by
      unfold childV
      rw [if_pos hn, Int.toNat_natCast, List.getD_eq_getElem?_getD, hp]; rfl
    have hv1 : (((pos P (p ++ [byteOf c])).getD 0 : Nat) : Int) = (childV P (i : Int) c).1 := by rw [hv]; cases pos P (p ++ [byteOf c]) <;> rfl
    have hv2 : (pos P (p ++ [byteOf c])).isSome = (childV P (i : Int) c).2 := by rw [hv]; cases pos P (p ++ [byteOf c]) <;> rfl
    have hrun := fun q : Nat => look_run (hD.kept (drawn_by W q) (by simp)) hR c hc0 hc255
    have hrun0 := look_run hD hR c hc0 hc255
    simp only [hv1, hv2] at hrun hrun0
    obtain ⟨k, hk⟩ : ∃ k, childV P (i : Int) c = k := ⟨_, rfl⟩
    rw [hk] at hrun hrun0 ⊢
    have HT := Aside0.mk (show true = decide (0 ≤ (i : Int) ∧ (i : Int) < (P.length : Int)) by rw [eq_comm, decide_eq_true_iff]; exact hn)
    have p0 := eq_true (show (0 : Int) ≤ (i : Int) by omega)
    have p1 := eq_true (show (i : Int) < (P.length : Int) by omega)
    have p2 := eq_true hi
    clear hbs h1 h2 h6 hD hR hm hw hp hv hv1 hv2 hk hn hi
    go_enter Try.func19, Try.ntmps19
    go_wp2_with (first | (go_at_call 25; (with_reducible refine (is_calls H.out (i : Int) true HT.out).mono ?_); rintro e w' ⟨rfl, ⟨q, rfl⟩⟩))
    exact bodyPost_ret (v := .tuple #[.int .i64 k.1, .bool k.2]) (by simp [results, Try.f19, go_sem]) rfl ⟨rfl, ⟨q, rfl⟩⟩
  · have hv : childV P n c = (0, false) := if_neg hn
    rw [hv]
    have HT := Aside0.mk (show false = decide (0 ≤ n ∧ n < (P.length : Int)) by rw [eq_comm, decide_eq_false_iff_not]; exact hn)
    clear hn hv h
    go_enter Try.func19, Try.ntmps19
    go_wp2_with (first | (go_at_call 25; (with_reducible refine (is_calls H.out n false HT.out).mono ?_); rintro e w' ⟨rfl, ⟨q, rfl⟩⟩))
    exact bodyPost_ret (v := .tuple #[.int .i64 0, .bool false]) (by simp [results, Try.f19, go_sem]) rfl ⟨rfl, ⟨q, rfl⟩⟩
/-- A node's word. -/
def wordV (P : List Str) (wd : List Int) (n : Int) : Int × Bool := if 0 ≤ n ∧ n < (P.length : Int) then (if wd.getD n.toNat 0 = -1 then (0, false) else (wd.getD n.toNat 0, true)) else (0, false)
set_option maxHeartbeats 2000000 in
theorem word_calls {gt base : Nat} {P : List Str} {wd : List Int} {W : World} (h : TrieAt gt base P wd W) (n : Int) : Calls Try.prog 22 #[.pointer (some ⟨gt, 0, none⟩), .int .i64 n] W fun e w' => e = .returned (.tuple #[.int .i64 (wordV P wd n).1, .bool (wordV P wd n).2]) ∧ Drawn0 W w' := by
  have H := Aside0.mk h
  by_cases hn : 0 ≤ n ∧ n < (P.length : Int)
  · obtain ⟨i, rfl⟩ : ∃ i : Nat, n = (i : Int) := ⟨n.toNat, by omega⟩
    obtain ⟨⟨v, ms, h1, h2, h3, h4, h5, h6⟩, g, s⟩ := h
    obtain ⟨A, cc, rfl⟩ := Kd.R_slice h2
    obtain ⟨ad, hA, n0, n1⟩ := at_N (Kd.R_reads' h2).2.2 i (by rw [len_zip h3 h4]; omega)
    subst hA
    rw [len_zip h3 h4] at h1
    have c1 := hc1 h1
    have hi : i < P.length := by omega
    obtain ⟨m, hm⟩ : ∃ m, ms[i]? = some m := ⟨_, List.getElem?_eq_getElem (by omega)⟩
    obtain ⟨wi, hw⟩ : ∃ wi, wd[i]? = some wi := ⟨_, List.getElem?_eq_getElem (by omega)⟩
    rw [zip_at hm hw] at n0 n1
    have hv : wordV P wd (i : Int) = if wi = -1 then (0, false) else (wi, true) := by
      unfold wordV
      rw [if_pos hn, Int.toNat_natCast, List.getD_eq_getElem?_getD, hw]; rfl
    have HT := Aside0.mk (show true = decide (0 ≤ (i : Int) ∧ (i : Int) < (P.length : Int)) by rw [eq_comm, decide_eq_true_iff]; exact hn)
    have p0 := eq_true (show (0 : Int) ≤ (i : Int) by omega)
    have p1 := eq_true (show (i : Int) < (P.length : Int) by omega)
    have p2 := eq_true hi
    rw [hv]
    clear h1 h2 h6 hm hw hv hn hi
    by_cases hw1 : wi = -1
    · subst hw1
      rw [if_pos rfl]
      go_enter Try.func22, Try.ntmps22
      go_wp2_with (first | (go_at_call 25; (with_reducible refine (is_calls H.out (i : Int) true HT.out).mono ?_); rintro e w' ⟨rfl, ⟨q, rfl⟩⟩))
      exact bodyPost_ret (v := .tuple #[.int .i64 0, .bool false]) (by simp [results, Try.f22, go_sem]) rfl ⟨rfl, ⟨q, rfl⟩⟩
    · rw [if_neg hw1]
      have b1 : (wi == -1) = false := beq_eq_false_iff_ne.2 hw1
      go_enter Try.func22, Try.ntmps22
      go_wp2_with (first | (go_at_call 25; (with_reducible refine (is_calls H.out (i : Int) true HT.out).mono ?_); rintro e w' ⟨rfl, ⟨q, rfl⟩⟩))
      exact bodyPost_ret (v := .tuple #[.int .i64 wi, .bool true]) (by simp [results, Try.f22, go_sem]) rfl ⟨rfl, ⟨q, rfl⟩⟩
  · have hv : wordV P wd n = (0, false) := if_neg hn
    rw [hv]
    have HT := Aside0.mk (show false = decide (0 ≤ n ∧ n < (P.length : Int)) by rw [eq_comm, decide_eq_false_iff_not]; exact hn)
    clear hn hv h
    go_enter Try.func22, Try.ntmps22
    go_wp2_with (first | (go_at_call 25; (with_reducible refine (is_calls H.out n false HT.out).mono ?_); rintro e w' ⟨rfl, ⟨q, rfl⟩⟩))
    exact bodyPost_ret (v := .tuple #[.int .i64 0, .bool false]) (by simp [results, Try.f22, go_sem]) rfl ⟨rfl, ⟨q, rfl⟩⟩
end Go.Proofs.Ytgdipibmaaehcaa.Tr
