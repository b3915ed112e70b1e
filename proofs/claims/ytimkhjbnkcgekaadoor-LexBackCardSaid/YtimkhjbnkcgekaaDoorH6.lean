/- lex.run and its closure: how many bytes of a kind a text begins with. Their conditions: the listed variable as it was laid; a text of at most 2^47 bytes. -/
import Derived.Test.YtimkhjbnkcgekaaDoorLx1
import Derived.WalkMore
import Derived.RegionTactic
namespace Go.Proofs.YtimkhjbnkcgekaaDoor
open Go Go.RowKit Flat Go.Proofs.YtimkhjbnkcgekaaDoor.Lx Go.Proofs.YtimkhjbnkcgekaaDoor.Sq Go.Proofs.YtimkhjbnkcgekaaDoor.PB Go.Proofs.YtimkhjbnkcgekaaDoorW.PrintWords Go.Proofs.YtimkhjbnkcgekaaDoorW.PrintLast Go.Proofs.YtimkhjbnkcgekaaDoorW.PrintMore
set_option linter.unusedVariables false
theorem kind_calls (n c : Int) (x : Sty) (hx : style_Of.f n = some x) (h0 : 0 ≤ c) (h1 : c ≤ 255) (w : World) (hG : Glob [0] w) :
    Calls Tryd.prog 31 #[.int .i64 n, .int .u8 c] w fun e w' => e = .returned (.int .i64 (kindP x c)) ∧ Below w.heap.size w w' :=
  style_Kind.calls 6 n c _ w hG (kind_f 0 n c hx h0 h1)
set_option maxHeartbeats 400000 in
theorem run1_calls (c : Int) (n kind : Int) (x : Sty) (hx : style_Of.f n = some x) (gn gk : Nat) (w : World) (hn : w.heap[gn]? = some (.cells #[.int .i64 n] 3 (0, 0))) (hk : w.heap[gk]? = some (.cells #[.int .i64 kind] 3 (0, 0))) (h0 : 0 ≤ c) (h1 : c ≤ 255) (hG : Glob [0] w) :
    Calls Tryd.prog 43 #[.int .u8 c, .pointer (some ⟨gn, 0, none⟩), .pointer (some ⟨gk, 0, none⟩)] w fun e w' => e = .returned (.bool (kindP x c != kind)) ∧ Below w.heap.size w w' := by
  have cn_ := hc1 hn
  have ck0_ := hc1 hk
  have HN := Aside0.mk hn
  have HK := Aside0.mk hk
  have HG := Aside0.mk hG
  clear hn hk hG
  go_enter Tryd.func43, Tryd.ntmps43
  go_wp2_with (fail)
  go_region_with (first | (go_at_call 31; (with_reducible refine (kind_calls n c x hx h0 h1 _ (Glob.use HG.out (by decide) (bl (Below.refl _ _)))).mono ?_); rintro e w1 ⟨rfl, hb⟩; have HB := sb (u := w) (Aside0.mk (Below.refl _ _)) hb; have ck_ := hc1 (blk_below (kp HK.out) hb); have cm_ := hc1 (blk_below (kp HN.out) hb); clear hb))
  all_goals (go_wp2; go_ret; exact ⟨rfl, bl HB.out⟩)

set_option maxHeartbeats 1000000 in
theorem run_calls (n kind : Int) (s : ByteArray) (x : Sty) (hx : style_Of.f n = some x) (hs : s.size ≤ 140737488351232) (w : World) (hG : Glob [0] w) :
    Calls Tryd.prog 32 #[.int .i64 n, .string s, .int .i64 kind] w fun e w' => e = .returned (.int .i64 (((bytesOf s).takeWhile (kp_ x kind)).length : Int)) ∧ Below w.heap.size w w' := by
  have HG := Aside0.mk hG
  clear hG
  obtain ⟨L, hL⟩ : ∃ L, L = (bytesOf s).takeWhile (kp_ x kind) := ⟨_, rfl⟩
  rw [← hL]
  have HL := Aside0.mk hL
  clear hL
  go_enter Tryd.func32, Tryd.ntmps32
  have hn0 := heap_alloc_new w (.cells #[.int .i64 n] 3)
  have hn1 := heap_alloc_new (w.alloc (.cells #[.int .i64 n] 3)) (.cells #[.int .i64 kind] 3)
  rw [World.size_alloc] at hn1
  have HN := Aside0.mk (Lib.alloc_old (w.alloc (.cells #[.int .i64 n] 3)) (.cells #[.int .i64 kind] 3) w.heap.size (by rw [World.size_alloc]; omega) |>.trans hn0)
  have HK := Aside0.mk hn1
  have HB := Aside0.mk (below_alloc (below_alloc (Below.refl w.heap.size w) (.cells #[.int .i64 n] 3)) (.cells #[.int .i64 kind] 3))
  clear hn0 hn1
  go_wp2
  generalize (w.alloc (.cells #[.int .i64 n] 3)).alloc (.cells #[.int .i64 kind] 3) = W at HN HK HB ⊢
  go_step3
  go_wp2
  go_step3
  go_wp2
  have hLs : L.length ≤ s.size := by rw [HL.out, ← bytesOf_length]; exact takeWhile_len _ _
  go_loopw [8] (fun v8 wr => ∃ k : Nat, v8 = .int .i64 k ∧ Aside0 (k ≤ L.length ∧ Below W.heap.size W wr)) (fun v8 _ => s.size - (intOf v8).toNat)
  case atStart => exact ⟨0, rfl, ⟨by omega, Below.refl _ _⟩⟩
  case round =>
    obtain ⟨k, rfl, HI⟩ := hrel
    have hk := HI.out.1
    have HBr := Aside0.mk (below_step HB.out HI.out.2)
    have HNr := Aside0.mk (blk_below HN.out HI.out.2)
    have HKr := Aside0.mk (blk_below HK.out HI.out.2)
    by_cases hlt : k < s.size
    · have hd : decide ((k : Int) < (s.size : Int)) = true := by simp; omega
      have p8 := eq_true (show (0 : Int) ≤ (k : Int) by omega)
      have q8 := eq_true (show (k : Int) < (s.size : Int) by omega)
      have hb8 := bt_range s (k : Int)
      have hr8 := rd_bytesOf s (k : Int)
      rw [rd, Int.toNat_natCast] at hr8
      obtain ⟨c, hc⟩ : ∃ c, c = bt s (k : Int) := ⟨_, rfl⟩
      rw [← hc] at hb8 hr8
      have hx8 : ∀ h : k < s.size, ((s[k]'h).toNat : Int) = c := fun h => by rw [hc, ← bt_at s (k : Int) (by simpa using h)]; simp
      obtain ⟨hb0, hb1⟩ := hb8
      by_cases hkl : k < L.length
      · have hin : (kindP x c != kind) = false := by
          have := tw_in (kp_ x kind) 0 (bytesOf s) k (by rw [← HL.out]; exact hkl)
          rw [hr8] at this
          simpa [kp_] using this
        clear hr8 hc
        go_wp2_with (first | (go_at_call 43; (with_reducible refine (run1_calls c n kind x hx _ _ _ HNr.out HKr.out hb0 hb1 (Glob.use HG.out (by decide) (bl HBr.out))).mono ?_); rintro e w1 ⟨rfl, hb⟩; rw [hin]; have HB1 := Aside0.mk hb; clear hb))
        go_roundw
        case rel => exact ⟨k + 1, by go_num, ⟨by omega, below_step HI.out.2 HB1.out⟩⟩
        case measure => simp [intOf]; omega
      · have hin : (kindP x c != kind) = true := by
          have hkk : k = L.length := by omega
          have := tw_out (kp_ x kind) 0 (bytesOf s) (by rw [← HL.out, bytesOf_length, ← hkk]; exact hlt)
          rw [← HL.out, ← hkk, hr8] at this
          simpa [kp_] using this
        clear hr8 hc
        go_wp2_with (first | (go_at_call 43; (with_reducible refine (run1_calls c n kind x hx _ _ _ HNr.out HKr.out hb0 hb1 (Glob.use HG.out (by decide) (bl HBr.out))).mono ?_); rintro e w1 ⟨rfl, hb⟩; rw [hin]; have HB1 := Aside0.mk hb; clear hb))
        rw [Exit.noGoto_ret]
        go_ret
        exact ⟨by rw [show k = L.length by omega]; rfl, below_step HBr.out HB1.out⟩
    · have hd : decide ((k : Int) < (s.size : Int)) = false := by simp; omega
      go_wp2
      rw [Exit.noGoto_ret]
      go_ret
      exact ⟨by rw [show k = L.length by omega]; rfl, HBr.out⟩
end Go.Proofs.YtimkhjbnkcgekaaDoor
