/- The iterator over a node's children: they come by rising bytes, each once. Conditions: those in each theorem. -/
import Derived.Test.YtgdipibmaaehcaaTrE
import Derived.Test.YtgdipibmaaehcaaKbB
import Derived.Test.YtgdipibmaaehcaaSbT
namespace Go.Proofs.Ytgdipibmaaehcaa.Tr
open Go Go.RowKit Go.Shelf Go.Sort Go.Proofs.Ytgdipibmaaehcaa Go.Proofs.Ytgdipibmaaehcaa.Sq Go.Proofs.YtgdipibmaaehcaaW.PrintWords Go.Proofs.YtgdipibmaaehcaaW.PrintLast Go.Proofs.YtgdipibmaaehcaaW.PrintMore
attribute [local go_sem] Oper.semAt_some
set_option linter.unusedVariables false
set_option linter.unusedSimpArgs false
/-- The bytes at which a function of bytes tells something. -/
def kidsC (f : Int → Option Nat) : List Int := (((List.range 256).filter fun c : Nat => (f (c : Int)).isSome).map fun c : Nat => (c : Int))
theorem kidsC_mem (f : Int → Option Nat) (x : Int) : x ∈ kidsC f ↔ 0 ≤ x ∧ x ≤ 255 ∧ (f x).isSome = true := by
  unfold kidsC
  rw [List.mem_map]
  constructor
  · rintro ⟨c, hc, rfl⟩
    rw [List.mem_filter, List.mem_range] at hc
    exact ⟨by omega, by omega, hc.2⟩
  · rintro ⟨h0, h1, h2⟩
    refine ⟨x.toNat, ?_, by omega⟩
    rw [List.mem_filter, List.mem_range]
    exact ⟨by omega, by rw [Int.toNat_of_nonneg h0]; exact h2⟩
theorem kidsC_lt (f : Int → Option Nat) : (kidsC f).Pairwise (· < ·) := by
  unfold kidsC
  refine List.pairwise_map.2 ?_
  refine (List.Pairwise.filter _ List.pairwise_lt_range).imp ?_
  intro a b h
  omega
theorem kidsC_len (f : Int → Option Nat) : (kidsC f).length ≤ 256 := by
  unfold kidsC
  rw [List.length_map]
  exact Nat.le_trans (List.length_filter_le _ _) (by simp)
theorem le_mergeSort (l : List Int) : (l.mergeSort fun x y => decide (x ≤ y)).Pairwise (· ≤ ·) := by
  have h := List.pairwise_mergeSort (le := fun x y : Int => decide (x ≤ y)) (fun a b c h1 h2 => by simp only [decide_eq_true_eq] at *; exact Int.le_trans h1 h2) (fun a b => by simp only [Bool.or_eq_true, decide_eq_true_eq]; exact Int.le_total a b) l
  exact h.imp fun h => of_decide_eq_true h
theorem kids_sorted {W : World} {m nn : Nat} {D : DataW Unit} {f : Int → Option Nat} (h : W.ownsMap Try.prog 5 (plainElem (H := Unit) Try.prog 3) m nn D) (hr : Reads D f) {ss : List Int} (hs : ss.Perm (intKeys D)) : (ss.mergeSort fun x y => decide (x ≤ y)) = kidsC f := by
  obtain ⟨es, hD, hpw, _⟩ := h.entries K5
  obtain ⟨es', hD', hko⟩ := h.keysOf
  obtain rfl : es = es' := by rw [hD] at hD'; simpa using hD'
  subst hD
  have hk : ∀ p ∈ es, ∃ x : Int, p.1 = .int .u8 x ∧ (Lit.int .u8 x).wf = true := fun p hp => by obtain ⟨v, hv⟩ := hko p hp; obtain ⟨x, _, hx, hw⟩ := keyOf_u8 Try.underlying5 hv; exact ⟨x, hx, by rw [← hx]; exact hx ▸ hw⟩
  have hnd : (kidsC f).Nodup := (kidsC_lt f).imp fun h => by omega
  have hp : (kidsC f).Perm (intKeys (.map es)) := perm_intKeysU hpw (fun p hp => by obtain ⟨x, hx, _⟩ := hk p hp; exact ⟨x, hx⟩) hnd (fun x => by
    rw [kidsC_mem]
    constructor
    · rintro ⟨h0, h1, h2⟩; rw [hr.hs x h0 h1]; exact h2
    · intro hh
      have hb : 0 ≤ x ∧ x ≤ 255 := by
        rw [Maps.has_eq, List.any_eq_true] at hh
        obtain ⟨p, hp, hq⟩ := hh
        obtain ⟨y, hy, hw⟩ := hk p hp
        rw [hy] at hq
        obtain rfl : y = x := by simpa [Lit.sameKey] using hq
        simpa [Lit.wf, IntKind.min, IntKind.max, IntKind.signed, IntKind.bits] using hw
      rw [hr.hs x hb.1 hb.2] at hh
      exact ⟨hb.1, hb.2, hh⟩)
  refine List.Perm.eq_of_pairwise (le := fun a b : Int => a ≤ b) (fun a b _ _ h1 h2 => Int.le_antisymm h1 h2) (le_mergeSort ss) ((kidsC_lt f).imp fun h => by omega) ?_
  exact ((List.mergeSort_perm ss _).trans hs).trans hp.symm
theorem sorts_in (m : Nat) : Kb.SortsIn Fence.wide m :=
  ⟨fun blk off cap ss W hH hb hl => callsIn_wide.2 (Sb.slices_Sort_int blk off cap ss W hH hb hl), fun p cap W => callsIn_wide.2 (Sb.Sort_int_nil p cap W)⟩
theorem enters31 : ∀ args w, (callFunc 31 args).run Try.prog w = .ok (.enter 31 args) w := enters_of Try.func31 (by kernel_rfl) rfl
theorem enters32 : ∀ args w, (callFunc 32 args).run Try.prog w = .ok (.enter 32 args) w := enters_of Try.func32 (by kernel_rfl) rfl
theorem keys_calls (mb : Option Nat) (w : World) : Calls Try.prog 27 #[.map mb] w fun e w' => e = .returned (.func (.func 32) #[] #[.pointer (some ⟨w.heap.size, 0, none⟩)]) ∧ w' = w.alloc (.cells #[.map mb] 50) :=
  callsIn_wide.1 (Kb.keys_in Fence.wide 9 trivial rfl mb w)
/-- The sorted keys of a node's map: a row of the call's own. -/
theorem sorted_calls {W : World} {m nn : Nat} {D : DataW Unit} {f : Int → Option Nat} (Bm : Nat) (hm : W.cell? ⟨Bm, 0, none⟩ = some (.map (some m))) (hBm : Bm < W.heap.size) (h : W.ownsMap Try.prog 5 (plainElem (H := Unit) Try.prog 3) m nn D) (hn : nn ≤ 100000) (hr : Reads D f) :
    Calls Try.prog 26 #[.func (.func 32) #[] #[.pointer (some ⟨Bm, 0, none⟩)]] W fun e w' => ∃ v, e = .returned v ∧ w'.ownsRow W.heap.size 5 1 v (kidsC f).length ((kidsC f).map encU) ∧ Below W.heap.size W w' := by
  have hsz := h.size_le
  refine (callsIn_wide (n := 9)).1 ?_
  refine (Kb.sorted_in Fence.wide 9 trivial trivial trivial trivial rfl (by omega) (sorts_in _) enters31 32 #[.pointer (some ⟨Bm, 0, none⟩)] trivial enters32 (fun ss => ss.Perm (intKeys D)) (Maps.size D) (by unfold maxLen; omega) (by omega) W
    (Kb.keys_gives Fence.wide _ trivial rfl (by omega) Bm m nn D W hBm hm h)).mono ?_
  rintro e w' ⟨v, ss, rfl, hs, hrow, _, hb⟩
  have e := kids_sorted h hr hs
  rw [e] at hrow
  refine ⟨v, rfl, ?_, hb⟩
  have hl : ss.length = (kidsC f).length := by rw [← e]; exact (List.length_mergeSort ss).symm
  rw [← hl]; exact hrow
theorem look_run0 {W : World} {m n : Nat} {D : DataW Unit} {f : Int → Option Nat} (h : W.ownsMap Try.prog 5 (plainElem (H := Unit) Try.prog 3) m n D) (hr : Reads D f) (c : Int) (h0 : 0 ≤ c) (h1 : c ≤ 255) :
    (Instr.lookup 50 (.map (some m)) (.int .u8 c) false).run Try.prog W = .ok (.int .i64 (((f c).getD 0 : Nat) : Int)) W := by
  have hwf : (Lit.int .u8 c).wf = true := by simp [Lit.wf, IntKind.min, IntKind.max, IntKind.signed, IntKind.bits]; omega
  have hk : keyOf Try.prog 5 (.int .u8 c) = some (.int .u8 c) := Maps.keyOf_int_mk (q := .u8) Try.underlying5 hwf
  have hz : (zeroValue 3).run Try.prog W = .ok (.int .i64 0) W := by kernel_rfl
  obtain ⟨a, hrun, ha, _⟩ := h.lookup_int K5 Try.underlying50 (q := .i64) Try.underlying3 hz hk
  rw [hr.at_ c h0 h1] at ha
  simp only [DataW.lit.injEq, Lit.int.injEq, true_and] at ha
  rw [hrun, ← ha]
end Go.Proofs.Ytgdipibmaaehcaa.Tr
