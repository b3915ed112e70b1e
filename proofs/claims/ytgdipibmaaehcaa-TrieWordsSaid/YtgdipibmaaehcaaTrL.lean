/- The iterator over a trie's words. Conditions: those in each theorem. -/
import Derived.Test.YtgdipibmaaehcaaTrK
namespace Go.Proofs.Ytgdipibmaaehcaa.Tr
open Go Go.RowKit Go.Shelf Go.Proofs.Ytgdipibmaaehcaa Go.Proofs.Ytgdipibmaaehcaa.Sq Go.Proofs.YtgdipibmaaehcaaW.PrintWords Go.Proofs.YtgdipibmaaehcaaW.PrintLast Go.Proofs.YtgdipibmaaehcaaW.PrintMore
attribute [local go_sem] Oper.semAt_some
set_option linter.unusedVariables false
set_option linter.unusedSimpArgs false
theorem words_new (gt : Nat) (X : World) : Calls Try.prog 21 #[.pointer (some ⟨gt, 0, none⟩)] X fun e W => ∃ bt, e = .returned (.func (.func 28) #[] #[.pointer (some ⟨bt, 0, none⟩)]) ∧ X.heap.size ≤ bt ∧ W.heap[bt]? = some (.cells #[.pointer (some ⟨gt, 0, none⟩)] 25 (0, 0)) ∧ Below X.heap.size X W := by
  go_enter Try.func21, Try.ntmps21
  go_wp2
  go_ret
  exact ⟨_, rfl, Nat.le_refl _, heap_alloc_new X _, below_alloc (Below.refl _ _) _⟩
theorem words_stops {gt base : Nat} {P : List Str} {wd : List Int} {wn : World} (hT : TrieAt gt base P wd wn) (h6 : ∀ x ∈ P, x.length ≤ 6) (n : Nat) (hn : 4 ≤ n) (bt : Nat) (w : World) (hbw : Below wn.heap.size wn w) (h1 : w.heap[bt]? = some (.cells #[.pointer (some ⟨gt, 0, none⟩)] 25 (0, 0))) :
    SeqW n Try.prog 28 #[.pointer (some ⟨bt, 0, none⟩)] (fun y : Wt => #[.string y.1, .int .i64 y.2]) wn.heap.size (fun ys => ys = tell P wd 7 ⟨#[]⟩) (fun pre => pre <+: tell P wd 7 ⟨#[]⟩) w := by
  intro l J Jx W hW hJ hJx hY h0
  have hbW := hbw.trans (hW.mono hbw.size)
  have hc := walk_calls hT h6 l W.heap.size J Jx hJ hJx hbW.size (tell P wd 7 ⟨#[]⟩) (fun m pre x W1 hj hp => yield_any (hY pre x W1 hj hp)) 7 0 ⟨#[]⟩ [] W hT.good.nil rfl hbW (Nat.le_refl _) h0 (List.prefix_refl _)
  have HC := Aside0.mk hc
  have c1 := hc1 (blk_below h1 hW)
  clear hT h6 hJ hJx hY h0 hbw hW hbW hc h1
  refine callsIn_of_wp Try.func28 rfl trivial ?_ rfl
  simp only [Try.ntmps28, List.size_toArray, List.length_cons, List.length_nil, Nat.reduceAdd, Nat.reduceSub, Array.replicate_succ, Array.replicate_zero, List.push_toArray, List.append_toArray, List.nil_append, List.cons_append]
  gi_wp2
  refine ⟨trivial, fun _ => by omega, (callsIn_wide.2 HC.out).mono ?_⟩
  rintro e w' (⟨rfl, hj, _, _⟩ | ⟨rfl, q, hq, hx, _⟩)
  · gi_wp2
    exact bodyPost_end (results_none rfl _ _ _) rfl ⟨⟨_, rfl⟩, .inl ⟨_, rfl, by simpa using hj⟩⟩
  · gi_wp2
    exact bodyPost_end (results_none rfl _ _ _) rfl ⟨⟨_, rfl⟩, .inr ⟨q, hq, by simpa using hx⟩⟩
end Go.Proofs.Ytgdipibmaaehcaa.Tr
