/- lex.next: the token that a text begins with. Its conditions: the listed variables as they were laid; a text of 1 to 1000 bytes. -/
import Derived.Test.YtimkhjbnkcgekaaDoorH6
import Derived.Test.YtimkhjbnkcgekaaDoorLx2
namespace Go.Proofs.YtimkhjbnkcgekaaDoor
open Go Go.RowKit Flat Go.Proofs.YtimkhjbnkcgekaaDoor.Lx Go.Proofs.YtimkhjbnkcgekaaDoor.Sq Go.Proofs.YtimkhjbnkcgekaaDoor.PB Go.Proofs.YtimkhjbnkcgekaaDoorW.PrintWords Go.Proofs.YtimkhjbnkcgekaaDoorW.PrintLast Go.Proofs.YtimkhjbnkcgekaaDoorW.PrintMore
attribute [local go_sem] max2_int min2_int max_two min_two max_three min_three max_four min_four   -- for this text's walks alone
set_option linter.unusedVariables false
set_option linter.unusedSimpArgs false
/-- strconv.ParseInt(s, 10, 64) at digits: the number, or an error. -/
theorem parse_ok (s : ByteArray) (hs : s.size ≤ 1000) (v : Int) (h : Lib.parseIntB 64 s.data.toList = .ok v) (w : World) :
    Calls Tryd.prog 34 #[.string s, .int .i64 10, .int .i64 64] w fun e w' => e = .returned (.tuple #[.int .i64 v, .nilIface]) ∧ Below w.heap.size w w' := by
  refine (Tryd.strconv_ParseInt_10_at64_ok s (by omega) v h w).mono ?_
  rintro e w' ⟨rfl, hw⟩
  refine ⟨rfl, ?_⟩
  rcases hw with rfl | ⟨t, rfl⟩
  · exact Below.refl _ _
  · exact Lib.bytesWorld_below _ _ _
theorem parse_bad (s : ByteArray) (hs : s.size ≤ 1000) (h : Lib.parseIntB 64 s.data.toList = .range) (w : World) (hG : Glob [2] w) :
    Calls Tryd.prog 34 #[.string s, .int .i64 10, .int .i64 64] w fun e w' => ∃ v te pe, e = .returned (.tuple #[.int .i64 v, .iface te pe]) ∧ Below w.heap.size w w' := by
  obtain ⟨te, pe, t, hb⟩ := hG.v2 rfl
  refine (Tryd.strconv_ParseInt_10_at64_range s (by omega) h (.iface te pe) w ((blk_cell hb 0).trans rfl) (.inr ⟨_, _, rfl⟩)).mono ?_
  rintro e w' ⟨N, rfl, _, _, hB⟩
  exact ⟨_, _, _, rfl, hB⟩
theorem run_callsJ (n kind : Int) (s : ByteArray) (x : Sty) (hx : style_Of.f n = some x) (hs : s.size ≤ 140737488351232) (L : List Int) (hL : (bytesOf s).takeWhile (kp_ x kind) = L) (j : Int) (hj : j = (L.length : Int)) (w : World) (hG : Glob [0] w) :
    Calls Tryd.prog 32 #[.int .i64 n, .string s, .int .i64 kind] w fun e w' => e = .returned (.int .i64 j) ∧ Below w.heap.size w w' := by
  subst hj hL
  exact run_calls n kind s x hx hs w hG
set_option maxHeartbeats 4000000 in
set_option maxRecDepth 100000 in
theorem next_calls (n : Int) (s : ByteArray) (x : Sty) (hx : style_Of.f n = some x) (h0 : 0 < s.size) (hs : s.size ≤ 1000) (w : World) (hG : Glob [0, 2] w) :
    Calls Tryd.prog 24 #[.int .i64 n, .string s] w fun e w' => e = .returned (.tuple #[tkV (nextL x (bytesOf s)), .int .i64 (tkN (nextL x (bytesOf s)))]) ∧ Below w.heap.size w w' := by
  have hu31 := Tryd.underlying31
  have hne : bytesOf s ≠ [] := fun h => by have := bytesOf_length s; rw [h] at this; simp at this; omega
  have hb0 : (bytesOf s).getD 0 0 = bt s 0 := rd_bytesOf s 0
  have hNX := next_eq x (bytesOf s) hne
  rw [hb0] at hNX
  obtain ⟨c, hc⟩ : ∃ c, c = bt s 0 := ⟨_, rfl⟩
  have hx8 : ∀ h : 0 < s.size, ((s[0]'h).toNat : Int) = c := fun h => by rw [hc, ← bt_at s 0 h]; rfl
  have q8 := eq_true h0
  obtain ⟨hcb0, hcb1⟩ : 0 ≤ c ∧ c ≤ 255 := hc ▸ bt_range s 0
  rw [← hc] at hNX
  have HKd := kind_f 0 n c hx hcb0 hcb1
  obtain ⟨q, hq⟩ : ∃ q, kindP x c = q := ⟨_, rfl⟩
  rw [hq] at hNX HKd
  have HKd := Aside0.mk HKd
  have HG := Aside0.mk hG
  have HNX := Aside0.mk hNX
  have HX := Aside0.mk hx
  have HQ := Aside0.mk hq
  have HC0 := Aside0.mk (show (bytesOf s).getD 0 0 = c from hb0.trans hc.symm)
  have HNE := Aside0.mk hne
  clear hG hNX hx hc hb0 hne hcb0 hcb1 hq
  by_cases q0 : q = 0
  · subst q0
    rw [if_pos (Or.inl rfl)] at HNX
    go_enter Tryd.func24, Tryd.ntmps24
    go_wp2_with (first | ((with_reducible refine gate_dst (N := 4) rfl ?_); refine box_event ?hg (N := 4) ?hd (cs := #[.int .i64 0, .int .i64 0, .string ⟨#[]⟩, .int .i64 0]) (t := 31) ?hr ?_; (case hd => rfl); (case hg => rfl); (case hr => first | (go_simp; done) | (go_simp; rfl)); intro gr hg w1 hbox hb; have BR := Aside0.mk hbox; have HB := Aside0.mk hb; have GR := Aside0.mk (bsz (bl (Below.refl _ _)) hg : w.heap.size ≤ gr); clear hbox hb hg; obtain ⟨r0_, r1_, r2_, r3_⟩ := hc4 BR.out; obtain ⟨f0_, f1_, f2_, f3_⟩ := hf4 BR.out) | (go_at_call 31; (with_reducible refine (style_Kind.calls 6 n c _ _ (Glob.use HG.out (by decide) (bl HB.out)) HKd.out).mono ?_); rintro e w_ ⟨rfl, hb⟩; replace BR := kb BR hb; replace HB := sb HB hb; clear hb; clear r0_ r1_ r2_ r3_ f0_ f1_ f2_ f3_; obtain ⟨r0_, r1_, r2_, r3_⟩ := hc4 BR.out; obtain ⟨f0_, f1_, f2_, f3_⟩ := hf4 BR.out))
    rw [HNX.out]
    refine bodyPost_ret (results_ct rfl _ _ gr 31 #[.int .i64 0, .int .i64 0, .string ⟨#[]⟩, .int .i64 0] (0, 0) _ rfl (kp (p4_3 (kp (p4_2 (kp (p4_1 (kp (p4_0 (kp BR.out))))))))) hu31 rfl (by kernel_rfl)) rfl ⟨rfl, bl HB.out⟩
  by_cases q10 : q = 10
  · subst q10
    rw [if_pos (Or.inr rfl)] at HNX
    go_enter Tryd.func24, Tryd.ntmps24
    go_wp2_with (first | ((with_reducible refine gate_dst (N := 4) rfl ?_); refine box_event ?hg (N := 4) ?hd (cs := #[.int .i64 0, .int .i64 0, .string ⟨#[]⟩, .int .i64 0]) (t := 31) ?hr ?_; (case hd => rfl); (case hg => rfl); (case hr => first | (go_simp; done) | (go_simp; rfl)); intro gr hg w1 hbox hb; have BR := Aside0.mk hbox; have HB := Aside0.mk hb; have GR := Aside0.mk (bsz (bl (Below.refl _ _)) hg : w.heap.size ≤ gr); clear hbox hb hg; obtain ⟨r0_, r1_, r2_, r3_⟩ := hc4 BR.out; obtain ⟨f0_, f1_, f2_, f3_⟩ := hf4 BR.out) | (go_at_call 31; (with_reducible refine (style_Kind.calls 6 n c _ _ (Glob.use HG.out (by decide) (bl HB.out)) HKd.out).mono ?_); rintro e w_ ⟨rfl, hb⟩; replace BR := kb BR hb; replace HB := sb HB hb; clear hb; clear r0_ r1_ r2_ r3_ f0_ f1_ f2_ f3_; obtain ⟨r0_, r1_, r2_, r3_⟩ := hc4 BR.out; obtain ⟨f0_, f1_, f2_, f3_⟩ := hf4 BR.out))
    rw [HNX.out]
    refine bodyPost_ret (results_ct rfl _ _ gr 31 #[.int .i64 0, .int .i64 0, .string ⟨#[]⟩, .int .i64 0] (0, 0) _ rfl (kp (p4_3 (kp (p4_2 (kp (p4_1 (kp (p4_0 (kp BR.out))))))))) hu31 rfl (by kernel_rfl)) rfl ⟨rfl, bl HB.out⟩
  rw [if_neg (show ¬ (q = 0 ∨ q = 10) from fun h => h.elim q0 q10)] at HNX
  have d0 : (q == 0) = false := beq_eq_false_iff_ne.mpr q0
  have d10 : (q == 10) = false := beq_eq_false_iff_ne.mpr q10
  clear q0 q10
  by_cases q1 : q = 1
  · subst q1
    rw [if_pos rfl] at HNX
    obtain ⟨L, hL⟩ : ∃ L, (bytesOf s).takeWhile (kp_ x 1) = L := ⟨_, rfl⟩
    have hLs : L.length ≤ s.size := by rw [← hL, ← bytesOf_length]; exact takeWhile_len _ _
    have hcut : bytesOf (s.extract 0 L.length) = L := by rw [bytesOf_extract, ← hL]; exact takeWhile_take _ _
    rw [hL] at HNX
    have HL := Aside0.mk hL
    obtain ⟨j, hj⟩ : ∃ j : Int, j = (L.length : Int) := ⟨_, rfl⟩
    have hj0 := eq_true (show 0 ≤ j by omega)
    have hj1 := eq_true (show j ≤ (s.size : Int) by omega)
    have hjn : j.toNat = L.length := by omega
    rw [← hjn] at hcut
    have hez : (s.extract 0 j.toNat).size ≤ 1000 := by rw [ByteArray.size_extract]; omega
    have HJ := Aside0.mk hj
    have HC := Aside0.mk hcut
    have HZ := Aside0.mk hez
    clear hL hLs hcut hj hjn hez
    have hup : style_Raise.f n (s.extract 0 j.toNat) = some (strOfNums (L.map (up x.1))) := by rw [← HC.out]; exact V3.raise_f n _ HZ.out HX.out
    have HU := Aside0.mk hup
    clear hup
    go_enter Tryd.func24, Tryd.ntmps24
    go_wp2_with (first | ((with_reducible refine gate_dst (N := 4) rfl ?_); refine box_event ?hg (N := 4) ?hd (cs := #[.int .i64 0, .int .i64 0, .string ⟨#[]⟩, .int .i64 0]) (t := 31) ?hr ?_; (case hd => rfl); (case hg => rfl); (case hr => first | (go_simp; done) | (go_simp; rfl)); intro gr hg w1 hbox hb; have BR := Aside0.mk hbox; have HB := Aside0.mk hb; have GR := Aside0.mk (bsz (bl (Below.refl _ _)) hg : w.heap.size ≤ gr); clear hbox hb hg; obtain ⟨r0_, r1_, r2_, r3_⟩ := hc4 BR.out; obtain ⟨f0_, f1_, f2_, f3_⟩ := hf4 BR.out) | (go_at_call 31; (with_reducible refine (style_Kind.calls 6 n c _ _ (Glob.use HG.out (by decide) (bl HB.out)) HKd.out).mono ?_); rintro e w_ ⟨rfl, hb⟩; replace BR := kb BR hb; replace HB := sb HB hb; clear hb; clear r0_ r1_ r2_ r3_ f0_ f1_ f2_ f3_; obtain ⟨r0_, r1_, r2_, r3_⟩ := hc4 BR.out; obtain ⟨f0_, f1_, f2_, f3_⟩ := hf4 BR.out) | (go_at_call 32; (with_reducible refine (run_callsJ n 1 s x HX.out (by omega) L HL.out j HJ.out _ (Glob.use HG.out (by decide) (bl HB.out))).mono ?_); rintro e w_ ⟨rfl, hb⟩; replace BR := kb BR hb; replace HB := sb HB hb; clear hb; clear r0_ r1_ r2_ r3_ f0_ f1_ f2_ f3_; obtain ⟨r0_, r1_, r2_, r3_⟩ := hc4 BR.out; obtain ⟨f0_, f1_, f2_, f3_⟩ := hf4 BR.out) | (go_at_call 33; (with_reducible refine (style_Raise.calls n (s.extract 0 j.toNat) _ _ (Glob.use HG.out (by decide) (bl HB.out)) HU.out).mono ?_); rintro e w_ ⟨rfl, hb⟩; replace BR := kb BR hb; replace HB := sb HB hb; clear hb; clear r0_ r1_ r2_ r3_ f0_ f1_ f2_ f3_; obtain ⟨r0_, r1_, r2_, r3_⟩ := hc4 BR.out; obtain ⟨f0_, f1_, f2_, f3_⟩ := hf4 BR.out))
    rw [HJ.out]
    rw [HNX.out]
    refine bodyPost_ret (results_ct rfl _ _ gr 31 #[.int .i64 1, .int .i64 0, .string (strOfNums (L.map (up x.1))), .int .i64 0] (0, 0) _ rfl (kp (p4_3 (kp (p4_2 (kp (p4_1 (kp (p4_0 (kp BR.out))))))))) hu31 rfl (by kernel_rfl)) rfl ⟨rfl, bl HB.out⟩
  rw [if_neg q1] at HNX
  have d1 : (q == 1) = false := beq_eq_false_iff_ne.mpr q1
  by_cases q2 : q = 2
  · subst q2
    rw [if_pos rfl] at HNX
    obtain ⟨L, hL⟩ : ∃ L, (bytesOf s).takeWhile (kp_ x 2) = L := ⟨_, rfl⟩
    have hLs : L.length ≤ s.size := by rw [← hL, ← bytesOf_length]; exact takeWhile_len _ _
    have hcut : bytesOf (s.extract 0 L.length) = L := by rw [bytesOf_extract, ← hL]; exact takeWhile_take _ _
    rw [hL] at HNX
    have HL := Aside0.mk hL
    obtain ⟨j, hj⟩ : ∃ j : Int, j = (L.length : Int) := ⟨_, rfl⟩
    have hj0 := eq_true (show 0 ≤ j by omega)
    have hj1 := eq_true (show j ≤ (s.size : Int) by omega)
    have hjn : j.toNat = L.length := by omega
    rw [← hjn] at hcut
    have hez : (s.extract 0 j.toNat).size ≤ 1000 := by rw [ByteArray.size_extract]; omega
    have HJ := Aside0.mk hj
    have HC := Aside0.mk hcut
    have HZ := Aside0.mk hez
    clear hL hLs hcut hj hjn hez
    have hp := parse_digits (s.extract 0 j.toNat) (by rw [← bytesOf_length, HC.out, ← HL.out]; have := tw_ne (x := x) (k := 2) HNE.out (by rw [HC0.out]; exact HQ.out); omega) (by rw [HC.out, ← HL.out]; exact tw_digits)
    rw [HC.out] at hp
    cases hv : numL L with
    | none =>
      rw [hv] at HNX hp
      have HP := Aside0.mk hp
      clear hp hv
      go_enter Tryd.func24, Tryd.ntmps24
      go_wp2_with (first | ((with_reducible refine gate_dst (N := 4) rfl ?_); refine box_event ?hg (N := 4) ?hd (cs := #[.int .i64 0, .int .i64 0, .string ⟨#[]⟩, .int .i64 0]) (t := 31) ?hr ?_; (case hd => rfl); (case hg => rfl); (case hr => first | (go_simp; done) | (go_simp; rfl)); intro gr hg w1 hbox hb; have BR := Aside0.mk hbox; have HB := Aside0.mk hb; have GR := Aside0.mk (bsz (bl (Below.refl _ _)) hg : w.heap.size ≤ gr); clear hbox hb hg; obtain ⟨r0_, r1_, r2_, r3_⟩ := hc4 BR.out; obtain ⟨f0_, f1_, f2_, f3_⟩ := hf4 BR.out) | (go_at_call 31; (with_reducible refine (style_Kind.calls 6 n c _ _ (Glob.use HG.out (by decide) (bl HB.out)) HKd.out).mono ?_); rintro e w_ ⟨rfl, hb⟩; replace BR := kb BR hb; replace HB := sb HB hb; clear hb; clear r0_ r1_ r2_ r3_ f0_ f1_ f2_ f3_; obtain ⟨r0_, r1_, r2_, r3_⟩ := hc4 BR.out; obtain ⟨f0_, f1_, f2_, f3_⟩ := hf4 BR.out) | (go_at_call 32; (with_reducible refine (run_callsJ n 2 s x HX.out (by omega) L HL.out j HJ.out _ (Glob.use HG.out (by decide) (bl HB.out))).mono ?_); rintro e w_ ⟨rfl, hb⟩; replace BR := kb BR hb; replace HB := sb HB hb; clear hb; clear r0_ r1_ r2_ r3_ f0_ f1_ f2_ f3_; obtain ⟨r0_, r1_, r2_, r3_⟩ := hc4 BR.out; obtain ⟨f0_, f1_, f2_, f3_⟩ := hf4 BR.out) | (go_at_call 34; (with_reducible refine (parse_bad (s.extract 0 j.toNat) HZ.out HP.out _ (Glob.use HG.out (by decide) (bl HB.out))).mono ?_); rintro e w_ ⟨v_, te, pe, rfl, hb⟩; replace BR := kb BR hb; replace HB := sb HB hb; clear hb; clear r0_ r1_ r2_ r3_ f0_ f1_ f2_ f3_; obtain ⟨r0_, r1_, r2_, r3_⟩ := hc4 BR.out; obtain ⟨f0_, f1_, f2_, f3_⟩ := hf4 BR.out))
      rw [HNX.out]
      refine bodyPost_ret (results_ct rfl _ _ gr 31 #[.int .i64 0, .int .i64 0, .string ⟨#[]⟩, .int .i64 0] (0, 0) _ rfl (kp (p4_3 (kp (p4_2 (kp (p4_1 (kp (p4_0 (kp BR.out))))))))) hu31 rfl (by kernel_rfl)) rfl ⟨rfl, bl HB.out⟩
    | some v =>
      rw [hv] at HNX hp
      have HP := Aside0.mk hp
      clear hp hv
      have hsx : strOfNums L = s.extract 0 j.toNat := by rw [← HC.out, son_bytesOf]
      have HS := Aside0.mk hsx
      clear hsx
      go_enter Tryd.func24, Tryd.ntmps24
      go_wp2_with (first | ((with_reducible refine gate_dst (N := 4) rfl ?_); refine box_event ?hg (N := 4) ?hd (cs := #[.int .i64 0, .int .i64 0, .string ⟨#[]⟩, .int .i64 0]) (t := 31) ?hr ?_; (case hd => rfl); (case hg => rfl); (case hr => first | (go_simp; done) | (go_simp; rfl)); intro gr hg w1 hbox hb; have BR := Aside0.mk hbox; have HB := Aside0.mk hb; have GR := Aside0.mk (bsz (bl (Below.refl _ _)) hg : w.heap.size ≤ gr); clear hbox hb hg; obtain ⟨r0_, r1_, r2_, r3_⟩ := hc4 BR.out; obtain ⟨f0_, f1_, f2_, f3_⟩ := hf4 BR.out) | (go_at_call 31; (with_reducible refine (style_Kind.calls 6 n c _ _ (Glob.use HG.out (by decide) (bl HB.out)) HKd.out).mono ?_); rintro e w_ ⟨rfl, hb⟩; replace BR := kb BR hb; replace HB := sb HB hb; clear hb; clear r0_ r1_ r2_ r3_ f0_ f1_ f2_ f3_; obtain ⟨r0_, r1_, r2_, r3_⟩ := hc4 BR.out; obtain ⟨f0_, f1_, f2_, f3_⟩ := hf4 BR.out) | (go_at_call 32; (with_reducible refine (run_callsJ n 2 s x HX.out (by omega) L HL.out j HJ.out _ (Glob.use HG.out (by decide) (bl HB.out))).mono ?_); rintro e w_ ⟨rfl, hb⟩; replace BR := kb BR hb; replace HB := sb HB hb; clear hb; clear r0_ r1_ r2_ r3_ f0_ f1_ f2_ f3_; obtain ⟨r0_, r1_, r2_, r3_⟩ := hc4 BR.out; obtain ⟨f0_, f1_, f2_, f3_⟩ := hf4 BR.out) | (go_at_call 34; (with_reducible refine (parse_ok (s.extract 0 j.toNat) HZ.out v HP.out _).mono ?_); rintro e w_ ⟨rfl, hb⟩; replace BR := kb BR hb; replace HB := sb HB hb; clear hb; clear r0_ r1_ r2_ r3_ f0_ f1_ f2_ f3_; obtain ⟨r0_, r1_, r2_, r3_⟩ := hc4 BR.out; obtain ⟨f0_, f1_, f2_, f3_⟩ := hf4 BR.out))
      rw [HNX.out]
      simp only [tkV, tkN]
      rw [HS.out, ← HJ.out]
      refine bodyPost_ret (results_ct rfl _ _ gr 31 #[.int .i64 2, .int .i64 0, .string (s.extract 0 j.toNat), .int .i64 v] (0, 0) _ rfl (kp (p4_3 (kp (p4_2 (kp (p4_1 (kp (p4_0 (kp BR.out))))))))) hu31 rfl (by kernel_rfl)) rfl ⟨rfl, bl HB.out⟩
  rw [if_neg q2] at HNX
  have d2 : (q == 2) = false := beq_eq_false_iff_ne.mpr q2
  by_cases q9 : q = 9
  · subst q9
    rw [if_pos rfl] at HNX
    obtain ⟨c0_, c1_, c2_⟩ := sty_ok HX.out
    have hko := kind_open HQ.out
    have hcc : (bytesOf s).getD 0 0 ≠ x.close_ := by rw [HC0.out, hko.1]; exact c2_ hko.2
    have hnc := note_cut s x.close_ c0_ c1_ HNE.out hcc
    have hpl := fun (t : ByteArray) (ht : t.size ≤ 1000) => plain_f n t ht HX.out
    have HP := Aside0.mk hpl
    have HO := Aside0.mk hko.2
    generalize hT : (bytesOf s).tail.takeWhile (· != x.close_) = T at hnc HNX
    obtain ⟨x1, x2, x3, x4, x5, x6, x7⟩ := x
    simp only [Sty.close_, Sty.open_] at hnc HO
    clear hpl hcc hko c0_ c1_ c2_ hT
    rcases hnc with ⟨hi, hlt⟩ | ⟨k, hi, hk1, hk2, hlt, hk, hext⟩
    · replace HNX := Aside0.mk (HNX.out.trans (if_neg (fun h => hlt h.1)))
      have HI := Aside0.mk (show strings_IndexByte.f s x6 = some (-1) from congrArg some hi)
      clear hi hlt
      go_enter Tryd.func24, Tryd.ntmps24
      go_upto_region 18 with (first | ((with_reducible refine gate_dst (N := 4) rfl ?_); refine box_event ?hg (N := 4) ?hd (cs := #[.int .i64 0, .int .i64 0, .string ⟨#[]⟩, .int .i64 0]) (t := 31) ?hr ?_; (case hd => rfl); (case hg => rfl); (case hr => first | (go_simp; done) | (go_simp; rfl)); intro gr hg w1 hbox hb; have BR := Aside0.mk hbox; have HB := Aside0.mk hb; have GR := Aside0.mk (bsz (bl (Below.refl _ _)) hg : w.heap.size ≤ gr); clear hbox hb hg; obtain ⟨r0_, r1_, r2_, r3_⟩ := hc4 BR.out; obtain ⟨f0_, f1_, f2_, f3_⟩ := hf4 BR.out) | (go_at_call 31; (with_reducible refine (style_Kind.calls 6 n c _ _ (Glob.use HG.out (by decide) (bl HB.out)) HKd.out).mono ?_); rintro e w_ ⟨rfl, hb⟩; replace BR := kb BR hb; replace HB := sb HB hb; clear hb; clear r0_ r1_ r2_ r3_ f0_ f1_ f2_ f3_; obtain ⟨r0_, r1_, r2_, r3_⟩ := hc4 BR.out; obtain ⟨f0_, f1_, f2_, f3_⟩ := hf4 BR.out) | (go_at_call 25; (with_reducible refine (style_Of.calls n x1 x2 x3 x4 x5 x6 x7 _ (Glob.use HG.out (by decide) (bl HB.out)) HX.out).mono ?_); rintro e w_ ⟨rfl, hb⟩; replace BR := kb BR hb; replace HB := sb HB hb; clear hb; clear r0_ r1_ r2_ r3_ f0_ f1_ f2_ f3_; obtain ⟨r0_, r1_, r2_, r3_⟩ := hc4 BR.out; obtain ⟨f0_, f1_, f2_, f3_⟩ := hf4 BR.out) | ((with_reducible refine gate_dst (N := 11) rfl ?_); refine box_event ?hg (N := 11) ?hd (cs := #[.bool false, .int .u8 0, .int .u8 0, .int .u8 0, .int .u8 0, .int .u8 0]) (t := 38) ?hr ?_; (case hd => rfl); (case hg => rfl); (case hr => first | (go_simp; done) | (go_simp; rfl)); intro gx hg w2 hbox hb; have GX := Aside0.mk (bsz (bl HB.out) hg : w.heap.size ≤ gx); have RX := Aside0.mk (nlt (kp BR.out) hg : gr ≠ gx); have XR := Aside0.mk (ngt (kp BR.out) hg : gx ≠ gr); replace BR := kb BR hb; replace HB := sb HB hb; have BX := Aside0.mk hbox; clear hbox hb hg; clear r0_ r1_ r2_ r3_ f0_ f1_ f2_ f3_; obtain ⟨r0_, r1_, r2_, r3_⟩ := hc4 BR.out; obtain ⟨f0_, f1_, f2_, f3_⟩ := hf4 BR.out; have x0_ : w2.cell? ⟨gx, 0, none⟩ = some (.bool false) := (blk_cell BX.out 0).trans rfl; have y0_ := blk_frozen BX.out 0; have x1_ : w2.cell? ⟨gx, 1, none⟩ = some (.int .u8 0) := (blk_cell BX.out 1).trans rfl; have y1_ := blk_frozen BX.out 1; have x2_ : w2.cell? ⟨gx, 2, none⟩ = some (.int .u8 0) := (blk_cell BX.out 2).trans rfl; have y2_ := blk_frozen BX.out 2; have x3_ : w2.cell? ⟨gx, 3, none⟩ = some (.int .u8 0) := (blk_cell BX.out 3).trans rfl; have y3_ := blk_frozen BX.out 3; have x4_ : w2.cell? ⟨gx, 4, none⟩ = some (.int .u8 0) := (blk_cell BX.out 4).trans rfl; have y4_ := blk_frozen BX.out 4; have x5_ : w2.cell? ⟨gx, 5, none⟩ = some (.int .u8 0) := (blk_cell BX.out 5).trans rfl; have y5_ := blk_frozen BX.out 5) | (go_at_call 35; (with_reducible refine (strings_IndexByte.calls s x6 _ _ HI.out).mono ?_); rintro e w_ ⟨rfl, hb⟩; obtain ⟨nd, rfl⟩ := hb))
      replace BR := Aside0.mk (show (World.drewN (World.setCell (World.setCell (World.setCell (World.setCell (World.setCell (World.setCell w2 ⟨gx, 0, none⟩ (.bool x1)) ⟨gx, 1, none⟩ (.int .u8 x2)) ⟨gx, 2, none⟩ (.int .u8 x3)) ⟨gx, 3, none⟩ (.int .u8 x4)) ⟨gx, 4, none⟩ (.int .u8 x5)) ⟨gx, 5, none⟩ (.int .u8 x6)) nd).heap[gr]? = _ from kp BR.out)
      replace HB := Aside0.mk (show Below w.heap.size w (World.drewN (World.setCell (World.setCell (World.setCell (World.setCell (World.setCell (World.setCell w2 ⟨gx, 0, none⟩ (.bool x1)) ⟨gx, 1, none⟩ (.int .u8 x2)) ⟨gx, 2, none⟩ (.int .u8 x3)) ⟨gx, 3, none⟩ (.int .u8 x4)) ⟨gx, 4, none⟩ (.int .u8 x5)) ⟨gx, 5, none⟩ (.int .u8 x6)) nd) from bl HB.out)
      clear BX x0_ x1_ x2_ x3_ x4_ x5_ y0_ y1_ y2_ y3_ y4_ y5_ r0_ r1_ r2_ r3_ f0_ f1_ f2_ f3_ RX XR GX
      generalize (World.drewN (World.setCell (World.setCell (World.setCell (World.setCell (World.setCell (World.setCell w2 ⟨gx, 0, none⟩ (.bool x1)) ⟨gx, 1, none⟩ (.int .u8 x2)) ⟨gx, 2, none⟩ (.int .u8 x3)) ⟨gx, 3, none⟩ (.int .u8 x4)) ⟨gx, 4, none⟩ (.int .u8 x5)) ⟨gx, 5, none⟩ (.int .u8 x6)) nd) = W at BR HB ⊢
      obtain ⟨r0_, r1_, r2_, r3_⟩ := hc4 BR.out
      obtain ⟨f0_, f1_, f2_, f3_⟩ := hf4 BR.out
      go_wp2_with (fail)
      rw [HNX.out]
      refine bodyPost_ret (results_ct rfl _ _ gr 31 #[.int .i64 0, .int .i64 0, .string ⟨#[]⟩, .int .i64 0] (0, 0) _ rfl (kp (p4_3 (kp (p4_2 (kp (p4_1 (kp (p4_0 (kp BR.out))))))))) hu31 rfl (by kernel_rfl)) rfl ⟨rfl, bl HB.out⟩
    · have hj : ∃ j : Int, j = (k : Int) := ⟨_, rfl⟩
      obtain ⟨j, hj⟩ := hj
      have HI := Aside0.mk (show strings_IndexByte.f s x6 = some j from congrArg some (hi.trans hj.symm))
      have hj0 := eq_true (show (1 : Int) ≤ j by omega)
      have hj1 := eq_true (show j ≤ (s.size : Int) by omega)
      have hj2 : decide (j < 0) = false := decide_eq_false (by omega)
      have hjn : j.toNat = k := by omega
      have hj3 : IntKind.i64.wrap (j + 1) = j + 1 := by rw [i64_w, w64 (by omega) (by omega)]
      rw [← hjn] at hext
      have hez : (s.extract 1 j.toNat).size ≤ 1000 := by rw [ByteArray.size_extract]; omega
      have hp := HP.out _ hez
      rw [hext] at hp
      have hop : (x5 != 0) = true := bne_iff_ne.2 HO.out
      simp only [hop, Bool.and_true] at hp
      have HJ := Aside0.mk (show ((T.length + 2 : Nat) : Int) = j + 1 by omega)
      have HE := Aside0.mk hext
      clear hi hk1 hk2 hk hj hjn hez hext hop
      by_cases ha : T.all (okb x5 x6) = true
      · replace HNX := Aside0.mk (HNX.out.trans (if_pos ⟨hlt, ha⟩))
        rw [ha] at hp
        have HPL := Aside0.mk hp
        clear hp ha hlt
        have hsx : strOfNums T = s.extract 1 j.toNat := by rw [← HE.out, son_bytesOf]
        have HS := Aside0.mk hsx
        clear hsx
        go_enter Tryd.func24, Tryd.ntmps24
        go_upto_region 18 with (first | ((with_reducible refine gate_dst (N := 4) rfl ?_); refine box_event ?hg (N := 4) ?hd (cs := #[.int .i64 0, .int .i64 0, .string ⟨#[]⟩, .int .i64 0]) (t := 31) ?hr ?_; (case hd => rfl); (case hg => rfl); (case hr => first | (go_simp; done) | (go_simp; rfl)); intro gr hg w1 hbox hb; have BR := Aside0.mk hbox; have HB := Aside0.mk hb; have GR := Aside0.mk (bsz (bl (Below.refl _ _)) hg : w.heap.size ≤ gr); clear hbox hb hg; obtain ⟨r0_, r1_, r2_, r3_⟩ := hc4 BR.out; obtain ⟨f0_, f1_, f2_, f3_⟩ := hf4 BR.out) | (go_at_call 31; (with_reducible refine (style_Kind.calls 6 n c _ _ (Glob.use HG.out (by decide) (bl HB.out)) HKd.out).mono ?_); rintro e w_ ⟨rfl, hb⟩; replace BR := kb BR hb; replace HB := sb HB hb; clear hb; clear r0_ r1_ r2_ r3_ f0_ f1_ f2_ f3_; obtain ⟨r0_, r1_, r2_, r3_⟩ := hc4 BR.out; obtain ⟨f0_, f1_, f2_, f3_⟩ := hf4 BR.out) | (go_at_call 25; (with_reducible refine (style_Of.calls n x1 x2 x3 x4 x5 x6 x7 _ (Glob.use HG.out (by decide) (bl HB.out)) HX.out).mono ?_); rintro e w_ ⟨rfl, hb⟩; replace BR := kb BR hb; replace HB := sb HB hb; clear hb; clear r0_ r1_ r2_ r3_ f0_ f1_ f2_ f3_; obtain ⟨r0_, r1_, r2_, r3_⟩ := hc4 BR.out; obtain ⟨f0_, f1_, f2_, f3_⟩ := hf4 BR.out) | ((with_reducible refine gate_dst (N := 11) rfl ?_); refine box_event ?hg (N := 11) ?hd (cs := #[.bool false, .int .u8 0, .int .u8 0, .int .u8 0, .int .u8 0, .int .u8 0]) (t := 38) ?hr ?_; (case hd => rfl); (case hg => rfl); (case hr => first | (go_simp; done) | (go_simp; rfl)); intro gx hg w2 hbox hb; have GX := Aside0.mk (bsz (bl HB.out) hg : w.heap.size ≤ gx); have RX := Aside0.mk (nlt (kp BR.out) hg : gr ≠ gx); have XR := Aside0.mk (ngt (kp BR.out) hg : gx ≠ gr); replace BR := kb BR hb; replace HB := sb HB hb; have BX := Aside0.mk hbox; clear hbox hb hg; clear r0_ r1_ r2_ r3_ f0_ f1_ f2_ f3_; obtain ⟨r0_, r1_, r2_, r3_⟩ := hc4 BR.out; obtain ⟨f0_, f1_, f2_, f3_⟩ := hf4 BR.out; have x0_ : w2.cell? ⟨gx, 0, none⟩ = some (.bool false) := (blk_cell BX.out 0).trans rfl; have y0_ := blk_frozen BX.out 0; have x1_ : w2.cell? ⟨gx, 1, none⟩ = some (.int .u8 0) := (blk_cell BX.out 1).trans rfl; have y1_ := blk_frozen BX.out 1; have x2_ : w2.cell? ⟨gx, 2, none⟩ = some (.int .u8 0) := (blk_cell BX.out 2).trans rfl; have y2_ := blk_frozen BX.out 2; have x3_ : w2.cell? ⟨gx, 3, none⟩ = some (.int .u8 0) := (blk_cell BX.out 3).trans rfl; have y3_ := blk_frozen BX.out 3; have x4_ : w2.cell? ⟨gx, 4, none⟩ = some (.int .u8 0) := (blk_cell BX.out 4).trans rfl; have y4_ := blk_frozen BX.out 4; have x5_ : w2.cell? ⟨gx, 5, none⟩ = some (.int .u8 0) := (blk_cell BX.out 5).trans rfl; have y5_ := blk_frozen BX.out 5) | (go_at_call 35; (with_reducible refine (strings_IndexByte.calls s x6 _ _ HI.out).mono ?_); rintro e w_ ⟨rfl, hb⟩; obtain ⟨nd, rfl⟩ := hb))
        replace BR := Aside0.mk (show (World.drewN (World.setCell (World.setCell (World.setCell (World.setCell (World.setCell (World.setCell w2 ⟨gx, 0, none⟩ (.bool x1)) ⟨gx, 1, none⟩ (.int .u8 x2)) ⟨gx, 2, none⟩ (.int .u8 x3)) ⟨gx, 3, none⟩ (.int .u8 x4)) ⟨gx, 4, none⟩ (.int .u8 x5)) ⟨gx, 5, none⟩ (.int .u8 x6)) nd).heap[gr]? = _ from kp BR.out)
        replace HB := Aside0.mk (show Below w.heap.size w (World.drewN (World.setCell (World.setCell (World.setCell (World.setCell (World.setCell (World.setCell w2 ⟨gx, 0, none⟩ (.bool x1)) ⟨gx, 1, none⟩ (.int .u8 x2)) ⟨gx, 2, none⟩ (.int .u8 x3)) ⟨gx, 3, none⟩ (.int .u8 x4)) ⟨gx, 4, none⟩ (.int .u8 x5)) ⟨gx, 5, none⟩ (.int .u8 x6)) nd) from bl HB.out)
        clear BX x0_ x1_ x2_ x3_ x4_ x5_ y0_ y1_ y2_ y3_ y4_ y5_ r0_ r1_ r2_ r3_ f0_ f1_ f2_ f3_ RX XR GX
        generalize (World.drewN (World.setCell (World.setCell (World.setCell (World.setCell (World.setCell (World.setCell w2 ⟨gx, 0, none⟩ (.bool x1)) ⟨gx, 1, none⟩ (.int .u8 x2)) ⟨gx, 2, none⟩ (.int .u8 x3)) ⟨gx, 3, none⟩ (.int .u8 x4)) ⟨gx, 4, none⟩ (.int .u8 x5)) ⟨gx, 5, none⟩ (.int .u8 x6)) nd) = W at BR HB ⊢
        obtain ⟨r0_, r1_, r2_, r3_⟩ := hc4 BR.out
        obtain ⟨f0_, f1_, f2_, f3_⟩ := hf4 BR.out
        go_wp2_with (first | (go_at_call 36; (with_reducible refine (style_Plain.calls n (s.extract 1 j.toNat) _ _ (Glob.use HG.out (by decide) (bl HB.out)) HPL.out).mono ?_); rintro e w_ ⟨rfl, hb⟩; replace BR := kb BR hb; replace HB := sb HB hb; clear hb; clear r0_ r1_ r2_ r3_ f0_ f1_ f2_ f3_; obtain ⟨r0_, r1_, r2_, r3_⟩ := hc4 BR.out; obtain ⟨f0_, f1_, f2_, f3_⟩ := hf4 BR.out))
        rw [HNX.out]
        simp only [tkV, tkN]
        rw [HS.out, HJ.out]
        refine bodyPost_ret (results_ct rfl _ _ gr 31 #[.int .i64 9, .int .i64 0, .string (s.extract 1 j.toNat), .int .i64 0] (0, 0) _ rfl (kp (p4_3 (kp (p4_2 (kp (p4_1 (kp (p4_0 (kp BR.out))))))))) hu31 rfl (by kernel_rfl)) rfl ⟨rfl, bl HB.out⟩
      · replace HNX := Aside0.mk (HNX.out.trans (if_neg (fun h => ha h.2)))
        rw [Bool.not_eq_true] at ha
        rw [ha] at hp
        have HPL := Aside0.mk hp
        clear hp ha hlt
        go_enter Tryd.func24, Tryd.ntmps24
        go_upto_region 18 with (first | ((with_reducible refine gate_dst (N := 4) rfl ?_); refine box_event ?hg (N := 4) ?hd (cs := #[.int .i64 0, .int .i64 0, .string ⟨#[]⟩, .int .i64 0]) (t := 31) ?hr ?_; (case hd => rfl); (case hg => rfl); (case hr => first | (go_simp; done) | (go_simp; rfl)); intro gr hg w1 hbox hb; have BR := Aside0.mk hbox; have HB := Aside0.mk hb; have GR := Aside0.mk (bsz (bl (Below.refl _ _)) hg : w.heap.size ≤ gr); clear hbox hb hg; obtain ⟨r0_, r1_, r2_, r3_⟩ := hc4 BR.out; obtain ⟨f0_, f1_, f2_, f3_⟩ := hf4 BR.out) | (go_at_call 31; (with_reducible refine (style_Kind.calls 6 n c _ _ (Glob.use HG.out (by decide) (bl HB.out)) HKd.out).mono ?_); rintro e w_ ⟨rfl, hb⟩; replace BR := kb BR hb; replace HB := sb HB hb; clear hb; clear r0_ r1_ r2_ r3_ f0_ f1_ f2_ f3_; obtain ⟨r0_, r1_, r2_, r3_⟩ := hc4 BR.out; obtain ⟨f0_, f1_, f2_, f3_⟩ := hf4 BR.out) | (go_at_call 25; (with_reducible refine (style_Of.calls n x1 x2 x3 x4 x5 x6 x7 _ (Glob.use HG.out (by decide) (bl HB.out)) HX.out).mono ?_); rintro e w_ ⟨rfl, hb⟩; replace BR := kb BR hb; replace HB := sb HB hb; clear hb; clear r0_ r1_ r2_ r3_ f0_ f1_ f2_ f3_; obtain ⟨r0_, r1_, r2_, r3_⟩ := hc4 BR.out; obtain ⟨f0_, f1_, f2_, f3_⟩ := hf4 BR.out) | ((with_reducible refine gate_dst (N := 11) rfl ?_); refine box_event ?hg (N := 11) ?hd (cs := #[.bool false, .int .u8 0, .int .u8 0, .int .u8 0, .int .u8 0, .int .u8 0]) (t := 38) ?hr ?_; (case hd => rfl); (case hg => rfl); (case hr => first | (go_simp; done) | (go_simp; rfl)); intro gx hg w2 hbox hb; have GX := Aside0.mk (bsz (bl HB.out) hg : w.heap.size ≤ gx); have RX := Aside0.mk (nlt (kp BR.out) hg : gr ≠ gx); have XR := Aside0.mk (ngt (kp BR.out) hg : gx ≠ gr); replace BR := kb BR hb; replace HB := sb HB hb; have BX := Aside0.mk hbox; clear hbox hb hg; clear r0_ r1_ r2_ r3_ f0_ f1_ f2_ f3_; obtain ⟨r0_, r1_, r2_, r3_⟩ := hc4 BR.out; obtain ⟨f0_, f1_, f2_, f3_⟩ := hf4 BR.out; have x0_ : w2.cell? ⟨gx, 0, none⟩ = some (.bool false) := (blk_cell BX.out 0).trans rfl; have y0_ := blk_frozen BX.out 0; have x1_ : w2.cell? ⟨gx, 1, none⟩ = some (.int .u8 0) := (blk_cell BX.out 1).trans rfl; have y1_ := blk_frozen BX.out 1; have x2_ : w2.cell? ⟨gx, 2, none⟩ = some (.int .u8 0) := (blk_cell BX.out 2).trans rfl; have y2_ := blk_frozen BX.out 2; have x3_ : w2.cell? ⟨gx, 3, none⟩ = some (.int .u8 0) := (blk_cell BX.out 3).trans rfl; have y3_ := blk_frozen BX.out 3; have x4_ : w2.cell? ⟨gx, 4, none⟩ = some (.int .u8 0) := (blk_cell BX.out 4).trans rfl; have y4_ := blk_frozen BX.out 4; have x5_ : w2.cell? ⟨gx, 5, none⟩ = some (.int .u8 0) := (blk_cell BX.out 5).trans rfl; have y5_ := blk_frozen BX.out 5) | (go_at_call 35; (with_reducible refine (strings_IndexByte.calls s x6 _ _ HI.out).mono ?_); rintro e w_ ⟨rfl, hb⟩; obtain ⟨nd, rfl⟩ := hb))
        replace BR := Aside0.mk (show (World.drewN (World.setCell (World.setCell (World.setCell (World.setCell (World.setCell (World.setCell w2 ⟨gx, 0, none⟩ (.bool x1)) ⟨gx, 1, none⟩ (.int .u8 x2)) ⟨gx, 2, none⟩ (.int .u8 x3)) ⟨gx, 3, none⟩ (.int .u8 x4)) ⟨gx, 4, none⟩ (.int .u8 x5)) ⟨gx, 5, none⟩ (.int .u8 x6)) nd).heap[gr]? = _ from kp BR.out)
        replace HB := Aside0.mk (show Below w.heap.size w (World.drewN (World.setCell (World.setCell (World.setCell (World.setCell (World.setCell (World.setCell w2 ⟨gx, 0, none⟩ (.bool x1)) ⟨gx, 1, none⟩ (.int .u8 x2)) ⟨gx, 2, none⟩ (.int .u8 x3)) ⟨gx, 3, none⟩ (.int .u8 x4)) ⟨gx, 4, none⟩ (.int .u8 x5)) ⟨gx, 5, none⟩ (.int .u8 x6)) nd) from bl HB.out)
        clear BX x0_ x1_ x2_ x3_ x4_ x5_ y0_ y1_ y2_ y3_ y4_ y5_ r0_ r1_ r2_ r3_ f0_ f1_ f2_ f3_ RX XR GX
        generalize (World.drewN (World.setCell (World.setCell (World.setCell (World.setCell (World.setCell (World.setCell w2 ⟨gx, 0, none⟩ (.bool x1)) ⟨gx, 1, none⟩ (.int .u8 x2)) ⟨gx, 2, none⟩ (.int .u8 x3)) ⟨gx, 3, none⟩ (.int .u8 x4)) ⟨gx, 4, none⟩ (.int .u8 x5)) ⟨gx, 5, none⟩ (.int .u8 x6)) nd) = W at BR HB ⊢
        obtain ⟨r0_, r1_, r2_, r3_⟩ := hc4 BR.out
        obtain ⟨f0_, f1_, f2_, f3_⟩ := hf4 BR.out
        go_wp2_with (first | (go_at_call 36; (with_reducible refine (style_Plain.calls n (s.extract 1 j.toNat) _ _ (Glob.use HG.out (by decide) (bl HB.out)) HPL.out).mono ?_); rintro e w_ ⟨rfl, hb⟩; replace BR := kb BR hb; replace HB := sb HB hb; clear hb; clear r0_ r1_ r2_ r3_ f0_ f1_ f2_ f3_; obtain ⟨r0_, r1_, r2_, r3_⟩ := hc4 BR.out; obtain ⟨f0_, f1_, f2_, f3_⟩ := hf4 BR.out))
        rw [HNX.out]
        refine bodyPost_ret (results_ct rfl _ _ gr 31 #[.int .i64 0, .int .i64 0, .string ⟨#[]⟩, .int .i64 0] (0, 0) _ rfl (kp (p4_3 (kp (p4_2 (kp (p4_1 (kp (p4_0 (kp BR.out))))))))) hu31 rfl (by kernel_rfl)) rfl ⟨rfl, bl HB.out⟩
  rw [if_neg q9] at HNX
  have d9 : (q == 9) = false := beq_eq_false_iff_ne.mpr q9
  have hs1 := eq_true (show (1 : Int) ≤ (s.size : Int) by omega)
  have hsx : strOfNums [c] = s.extract 0 1 := by rw [← HC0.out, ← take_one HNE.out, ← List.drop_zero (l := List.take 1 (bytesOf s)), ← bytesOf_extract, son_bytesOf]
  have HS := Aside0.mk hsx
  clear hsx q1 q2 q9
  go_enter Tryd.func24, Tryd.ntmps24
  go_wp2_with (first | ((with_reducible refine gate_dst (N := 4) rfl ?_); refine box_event ?hg (N := 4) ?hd (cs := #[.int .i64 0, .int .i64 0, .string ⟨#[]⟩, .int .i64 0]) (t := 31) ?hr ?_; (case hd => rfl); (case hg => rfl); (case hr => first | (go_simp; done) | (go_simp; rfl)); intro gr hg w1 hbox hb; have BR := Aside0.mk hbox; have HB := Aside0.mk hb; have GR := Aside0.mk (bsz (bl (Below.refl _ _)) hg : w.heap.size ≤ gr); clear hbox hb hg; obtain ⟨r0_, r1_, r2_, r3_⟩ := hc4 BR.out; obtain ⟨f0_, f1_, f2_, f3_⟩ := hf4 BR.out) | (go_at_call 31; (with_reducible refine (style_Kind.calls 6 n c _ _ (Glob.use HG.out (by decide) (bl HB.out)) HKd.out).mono ?_); rintro e w_ ⟨rfl, hb⟩; replace BR := kb BR hb; replace HB := sb HB hb; clear hb; clear r0_ r1_ r2_ r3_ f0_ f1_ f2_ f3_; obtain ⟨r0_, r1_, r2_, r3_⟩ := hc4 BR.out; obtain ⟨f0_, f1_, f2_, f3_⟩ := hf4 BR.out))
  rw [HNX.out]
  simp only [tkV, tkN]
  rw [HS.out]
  refine bodyPost_ret (results_ct rfl _ _ gr 31 #[.int .i64 q, .int .i64 0, .string (s.extract 0 1), .int .i64 0] (0, 0) _ rfl (kp (p4_3 (kp (p4_2 (kp (p4_1 (kp (p4_0 (kp BR.out))))))))) hu31 rfl (by kernel_rfl)) rfl ⟨rfl, bl HB.out⟩
end Go.Proofs.YtimkhjbnkcgekaaDoor
