/- dims.Read: how a text is read to dims. Its conditions: the listed variables as they were laid. -/
import Derived.Test.YtclpbnfcajbmkaaDoorDi3
import Derived.Test.YtclpbnfcajbmkaaDoorDi6
import Derived.Test.YtclpbnfcajbmkaaDoorSq
import Derived.Lib.AtoiErrMem
import Derived.Laws.Strings2
import Derived.Laws.Strings3
namespace Go.Proofs.YtclpbnfcajbmkaaDoor.Di
open Go Go.RowKit Go.Shelf Go.Proofs Go.Proofs.YtclpbnfcajbmkaaDoor Go.Proofs.YtclpbnfcajbmkaaDoor.Bu Go.Proofs.YtclpbnfcajbmkaaDoor.Sq Go.Proofs.YtclpbnfcajbmkaaDoorW.PrintWords Go.Proofs.YtclpbnfcajbmkaaDoorW.PrintLast Go.Proofs.YtclpbnfcajbmkaaDoorW.PrintMore
attribute [local go_sem] max2_int min2_int max_two min_two max_three min_three max_four min_four   -- for this text's walks alone
set_option linter.unusedVariables false
set_option linter.unusedSimpArgs false
/-- Seven numbers, told by a function. -/
abbrev A7 (f : Nat → Int) : Array Value := #[.int .i64 (f 0), .int .i64 (f 1), .int .i64 (f 2), .int .i64 (f 3), .int .i64 (f 4), .int .i64 (f 5), .int .i64 (f 6)]
def upd (f : Nat → Int) (i : Nat) (v : Int) : Nat → Int := fun q => if q = i then v else f q
theorem get7 {w : World} {g : Nat} {t : TypeId} {f : Nat → Int} (h : w.heap[g]? = some (.cells (A7 f) t (0, 0))) (j : Int) (h0 : 0 ≤ j) (h7 : j < 7) : w.cell? ⟨g, j.toNat, none⟩ = some (.int .i64 (f j.toNat)) := by
  obtain ⟨k, rfl⟩ : ∃ k : Nat, j = (k : Int) := ⟨j.toNat, by omega⟩
  rw [Int.toNat_natCast]
  have hk : k = 0 ∨ k = 1 ∨ k = 2 ∨ k = 3 ∨ k = 4 ∨ k = 5 ∨ k = 6 := by omega
  rcases hk with rfl | rfl | rfl | rfl | rfl | rfl | rfl <;> exact (blk_cell h _).trans rfl
theorem put7 {w : World} {g : Nat} {t : TypeId} {f : Nat → Int} (h : w.heap[g]? = some (.cells (A7 f) t (0, 0))) (j v : Int) (h0 : 0 ≤ j) (h7 : j < 7) : (w.setCell ⟨g, j.toNat, none⟩ (.int .i64 v)).heap[g]? = some (.cells (A7 (upd f j.toNat v)) t (0, 0)) := by
  obtain ⟨k, rfl⟩ : ∃ k : Nat, j = (k : Int) := ⟨j.toNat, by omega⟩
  rw [Int.toNat_natCast]
  have hk : k = 0 ∨ k = 1 ∨ k = 2 ∨ k = 3 ∨ k = 4 ∨ k = 5 ∨ k = 6 := by omega
  rcases hk with rfl | rfl | rfl | rfl | rfl | rfl | rfl
  · exact p7_0 h
  · exact p7_1 h
  · exact p7_2 h
  · exact p7_3 h
  · exact p7_4 h
  · exact p7_5 h
  · exact p7_6 h
theorem atoi_ok (s : ByteArray) (hs : s.size ≤ 281474976710656) (v : Int) (h : Lib.atoiAll s.data.toList = .ok v) (w : World) :
    Calls Tryd.prog 21 #[.string s] w fun e w' => e = .returned (.tuple #[.int .i64 v, .nilIface]) ∧ Below w.heap.size w w' := by
  refine (Tryd.strconv_Atoi_ok s (by omega) v h w).mono ?_
  rintro e w' ⟨rfl, hw⟩
  refine ⟨rfl, ?_⟩
  rcases hw with rfl | ⟨t, rfl⟩
  · exact Below.refl _ _
  · exact Lib.bytesWorld_below _ _ _
theorem atoi_bad (s : ByteArray) (hs : s.size ≤ 281474976710656) (h : ∀ v, Lib.atoiAll s.data.toList ≠ .ok v) (w : World) (hG : Glob [1, 2] w) :
    Calls Tryd.prog 21 #[.string s] w fun e w' => ∃ v te pe, e = .returned (.tuple #[.int .i64 v, .iface te pe]) ∧ Below w.heap.size w w' := by
  obtain ⟨e3, h3, k3⟩ := (hG.v1 rfl).read
  obtain ⟨e4, h4, k4⟩ := (hG.v2 rfl).read
  cases h' : Lib.atoiAll s.data.toList
  · exact absurd h' (h _)
  · refine (Any.strconv_Atoi_syntax Tryd.laysC172 s hs h' e3 w h3 k3).mono ?_
    rintro e w' ⟨n, rfl, _, _, hb⟩
    exact ⟨_, _, _, rfl, hb⟩
  · refine (Any.strconv_Atoi_range Tryd.laysC172 s hs h' e4 w h4 k4).mono ?_
    rintro e w' ⟨n, rfl, _, _, hb⟩
    exact ⟨_, _, _, rfl, hb⟩
theorem toL (u : ByteArray) : u.toList = u.data.toList := by
  obtain ⟨⟨l⟩⟩ := u
  simp
def nl (c : UInt8) : Bool := decide (Lib.indexByte [109, 115, 103, 114, 107, 99, 100] c < 0)
def rdL : Nat → List UInt8 → (Nat → Int) → Option (Nat → Int)
  | _, [], f => some f
  | 0, _ :: _, _ => none
  | k + 1, c :: t, f =>
    match Lib.atoiAll (t.takeWhile nl) with
    | .ok v => if Lib.indexByte [109, 115, 103, 114, 107, 99, 100] c < 0 then none else rdL k (t.dropWhile nl) (upd f (Lib.indexByte [109, 115, 103, 114, 107, 99, 100] c).toNat v)
    | _ => none
theorem rdL_any : ∀ k l f, l.length ≤ k → rdL k l f = rdL l.length l f := by
  intro k
  induction k using Nat.strongRecOn with
  | ind k ih =>
    intro l f h
    cases l with
    | nil => cases k <;> rfl
    | cons c t =>
      cases k with
      | zero => simp at h
      | succ k =>
        have h1 : (t.dropWhile nl).length ≤ t.length := (List.dropWhile_sublist _).length_le
        have h2 : t.length ≤ k := by simpa using h
        show (match Lib.atoiAll (t.takeWhile nl) with
          | .ok v => if Lib.indexByte [109, 115, 103, 114, 107, 99, 100] c < 0 then none else rdL k (t.dropWhile nl) (upd f (Lib.indexByte [109, 115, 103, 114, 107, 99, 100] c).toNat v)
          | _ => none) = (match Lib.atoiAll (t.takeWhile nl) with
          | .ok v => if Lib.indexByte [109, 115, 103, 114, 107, 99, 100] c < 0 then none else rdL t.length (t.dropWhile nl) (upd f (Lib.indexByte [109, 115, 103, 114, 107, 99, 100] c).toNat v)
          | _ => none)
        by_cases hk : k = t.length
        · subst hk; rfl
        · split
          · split
            · rfl
            · rw [ih k (by omega) _ _ (by omega), ih t.length (by omega) _ _ (by omega)]
          · rfl
/-- What is left of a text to be read, at the numbers f, comes to R. -/
def RD (l : List UInt8) (f : Nat → Int) (R : Option (Nat → Int)) : Prop := rdL l.length l f = R
def strSz : Value → Nat
  | .string u => u.size
  | _ => 0
abbrev L7 (f : Nat → Int) : List Int := [f 0, f 1, f 2, f 3, f 4, f 5, f 6]
def rdOut (s : List UInt8) : Option (Nat → Int) → (Nat → Int) × Bool
  | none => (fun _ => 0, false)
  | some f => if allR (L7 f) = true ∧ dtx (nz (L7 f) 7) = s then (f, true) else (fun _ => 0, false)
abbrev Z7 : Array Value := A7 fun _ => 0
theorem RD_none {c : UInt8} {cs : List UInt8} {f : Nat → Int} {R : Option (Nat → Int)} (h : RD (c :: cs) f R) (hb : (∀ v, Lib.atoiAll (cs.takeWhile nl) ≠ .ok v) ∨ Lib.indexByte [109, 115, 103, 114, 107, 99, 100] c < 0) : R = none := by
  unfold RD at h
  rw [List.length_cons, rdL] at h
  rw [← h]
  split
  · rename_i v hv
    rcases hb with hb | hb
    · exact absurd hv (hb v)
    · rw [if_pos hb]
  · rfl
theorem RD_step {c : UInt8} {cs : List UInt8} {f : Nat → Int} {R : Option (Nat → Int)} {v : Int} (h : RD (c :: cs) f R) (hv : Lib.atoiAll (cs.takeWhile nl) = .ok v) (hb : ¬ Lib.indexByte [109, 115, 103, 114, 107, 99, 100] c < 0) :
    RD (cs.dropWhile nl) (upd f (Lib.indexByte [109, 115, 103, 114, 107, 99, 100] c).toNat v) R := by
  unfold RD at h ⊢
  rw [List.length_cons, rdL, hv] at h
  simp only [if_neg hb] at h
  rw [← h]
  exact (rdL_any _ _ _ (List.dropWhile_sublist _).length_le).symm
theorem index_lt_ : ∀ (l : List UInt8) (c : UInt8), Lib.indexByte l c < l.length
  | [], c => by unfold Lib.indexByte; decide
  | b :: l, c => by
    have ih := index_lt_ l c
    unfold Lib.indexByte
    rw [List.length_cons]
    split
    · omega
    · split <;> omega
theorem index_lt (c : UInt8) : Lib.indexByte [109, 115, 103, 114, 107, 99, 100] c < 7 := index_lt_ _ c
theorem run_pre {p : UInt8 → Bool} : ∀ (l : List UInt8) (k : Nat), (∀ q (h : q < l.length), q < k → p l[q] = true) → (k = l.length ∨ ∃ h : k < l.length, p l[k] = false) → l.takeWhile p = l.take k ∧ l.dropWhile p = l.drop k
  | [], k, _, he => by
    rcases he with rfl | ⟨h, _⟩
    · exact ⟨rfl, rfl⟩
    · simp at h
  | c :: l, 0, hq, he => by
    rcases he with h | ⟨h, e⟩
    · simp at h
    · have e' : p c = false := e
      rw [List.takeWhile_cons, List.dropWhile_cons, e']
      exact ⟨rfl, rfl⟩
  | c :: l, k + 1, hq, he => by
    have hc : p c = true := hq 0 (by simp) (by omega)
    have ih := run_pre (p := p) l k (fun q h hk => by have := hq (q + 1) (by simpa using h) (by omega); simpa using this) (by
      rcases he with h | ⟨h, e⟩
      · exact .inl (by simpa using h)
      · exact .inr ⟨by simpa using h, by simpa using e⟩)
    rw [List.takeWhile_cons, List.dropWhile_cons, hc]
    simp only [if_true, List.take_succ_cons, List.drop_succ_cons]
    exact ⟨by rw [ih.1], ih.2⟩
theorem cut7 {u : ByteArray} {c : UInt8} {cs : List UInt8} (hl : u.data.toList = c :: cs) {k : Nat} (h1 : 1 ≤ k) (h2 : k ≤ u.size) (hn : ∀ q (hq : q < u.size), 1 ≤ q → q < k → nl u[q] = true) (he : k = u.size ∨ ∃ h : k < u.size, nl u[k] = false) :
    (u.extract 1 k).data.toList = cs.takeWhile nl ∧ (u.extract k u.size).data.toList = cs.dropWhile nl := by
  obtain ⟨⟨l⟩⟩ := u
  have hl' : l = c :: cs := hl
  subst hl'
  have hsz : (ByteArray.mk ⟨c :: cs⟩).size = cs.length + 1 := rfl
  rw [hsz] at h2
  obtain ⟨j, rfl⟩ : ∃ j, k = j + 1 := ⟨k - 1, by omega⟩
  have hr := run_pre (p := nl) cs j (fun q h hk => hn (q + 1) (by rw [hsz]; omega) (by omega) (by omega)) (by
    rcases he with h | ⟨h, e⟩
    · exact .inl (by rw [hsz] at h; omega)
    · exact .inr ⟨by rw [hsz] at h; omega, e⟩)
  rw [hr.1, hr.2, hsz]
  constructor
  · simp
  · simp only [ByteArray.data_extract, Array.toList_extract, List.extract_eq_take_drop]
    rw [List.drop_succ_cons, List.take_of_length_le (by simp)]
set_option maxHeartbeats 4000000 in
set_option maxRecDepth 100000 in
theorem read_calls (s : ByteArray) (hs : s.size ≤ 281474976710656) (w : World) (hG : Glob [1, 2, 3] w) :
    Calls Tryd.prog 11 #[.string s] w fun e w' => e = .returned (.tuple #[.agg (A7 (rdOut s.data.toList (rdL s.size s.data.toList fun _ => 0)).1), .bool (rdOut s.data.toList (rdL s.size s.data.toList fun _ => 0)).2]) ∧ Below w.heap.size w w' := by
  have hu23 := Tryd.underlying23
  have HG := Aside0.mk hG
  clear hG
  obtain ⟨R, hR⟩ : ∃ R, rdL s.size s.data.toList (fun _ => 0) = R := ⟨_, rfl⟩
  rw [hR]
  have HR := Aside0.mk (hR : RD s.data.toList (fun _ => 0) R)
  clear hR
  go_enter Tryd.func11, Tryd.ntmps11
  go_wp2_with (first
    | ((with_reducible refine gate_dst (N := 2) rfl ?_); refine box_event ?hg (N := 2) ?hd (cs := #[.int .i64 0, .int .i64 0, .int .i64 0, .int .i64 0, .int .i64 0, .int .i64 0, .int .i64 0]) (t := 23) ?hr ?_; (case hd => rfl); (case hg => rfl); (case hr => first | (go_simp; done) | (go_simp; rfl)); intro gr hg w1 hbox hb; have BR := Aside0.mk hbox; have HB := Aside0.mk hb; have GR := Aside0.mk (bsz (bl (Below.refl _ _)) hg : w.heap.size ≤ gr); clear hbox hb hg)
    | ((with_reducible refine gate_dst (N := 4) rfl ?_); refine box_event ?hg (N := 4) ?hd (cs := #[.int .i64 0, .int .i64 0, .int .i64 0, .int .i64 0, .int .i64 0, .int .i64 0, .int .i64 0]) (t := 23) ?hr ?_; (case hd => rfl); (case hg => rfl); (case hr => first | (go_simp; done) | (go_simp; rfl)); intro gd hg w2 hbox hb; have GD := Aside0.mk (bsz (bl HB.out) hg : w.heap.size ≤ gd); have NE1 := Aside0.mk (nlt (kp BR.out) hg : gr ≠ gd); have NE2 := Aside0.mk (ngt (kp BR.out) hg : gd ≠ gr); replace BR := Aside0.mk (blk_below (kp BR.out) hb); have BD := Aside0.mk hbox; replace HB := Aside0.mk (below_step (bl HB.out) hb); clear hbox hb hg))
  go_loopw [5] (fun v wr => ∃ (u : ByteArray) (f : Nat → Int), v = .string u ∧ u.size ≤ s.size ∧ Aside0 (RD u.data.toList f R) ∧ Aside0 (wr.heap[gr]? = some (.cells Z7 23 (0, 0))) ∧ Aside0 (wr.heap[gd]? = some (.cells (A7 f) 23 (0, 0))) ∧ Aside0 (Below w.heap.size w wr)) (fun v _ => strSz v)
  case atStart => exact ⟨s, fun _ => 0, rfl, Nat.le_refl _, HR, ⟨kp BR.out⟩, ⟨kp BD.out⟩, ⟨bl HB.out⟩⟩
  case round =>
    clear BR BD HB HR
    obtain ⟨u, f, rfl, hsz, HR, BR, BD, HB⟩ := hrel
    obtain ⟨wo, rfl⟩ : ∃ wo : World, wo = wr := ⟨_, rfl⟩
    by_cases hu : u = ⟨#[]⟩
    · subst hu
      have hR := HR.out
      unfold RD at hR
      rw [show (ByteArray.mk #[]).data.toList = [] from rfl, rdL] at hR
      subst hR
      clear HR
      have ne1 := NE1.out
      have ne2 := NE2.out
      obtain ⟨r0_, r1_, r2_, r3_, r4_, r5_, r6_⟩ := hf7 BR.out
      obtain ⟨q0_, q1_, q2_, q3_, q4_, q5_, q6_⟩ := hc7 BR.out
      obtain ⟨d0_, d1_, d2_, d3_, d4_, d5_, d6_⟩ := hc7 BD.out
      cases hA : allR (L7 f) with
      | false =>
        have hri : dims_Right.f (f 0) (f 1) (f 2) (f 3) (f 4) (f 5) (f 6) = some false := congrArg some hA
        go_wp2_with (first | (go_at_call 13; (with_reducible refine (dims_Right.calls (f 0) (f 1) (f 2) (f 3) (f 4) (f 5) (f 6) false _ hri).mono ?_); rintro e w9 ⟨rfl, hb⟩; replace BR := Aside0.mk (blk_below BR.out hb); replace BD := Aside0.mk (blk_below BD.out hb); replace HB := Aside0.mk (below_step HB.out hb); clear r0_ r1_ r2_ r3_ r4_ r5_ r6_ q0_ q1_ q2_ q3_ q4_ q5_ q6_ d0_ d1_ d2_ d3_ d4_ d5_ d6_; obtain ⟨r0_, r1_, r2_, r3_, r4_, r5_, r6_⟩ := hf7 BR.out; obtain ⟨q0_, q1_, q2_, q3_, q4_, q5_, q6_⟩ := hc7 BR.out; obtain ⟨d0_, d1_, d2_, d3_, d4_, d5_, d6_⟩ := hc7 BD.out; clear hb))
        refine bodyPost_ret (results_ct rfl _ _ gr 23 #[.int .i64 0, .int .i64 0, .int .i64 0, .int .i64 0, .int .i64 0, .int .i64 0, .int .i64 0] (0, 0) _ rfl (kp (p7_6 (kp (p7_5 (kp (p7_4 (kp (p7_3 (kp (p7_2 (kp (p7_1 (kp (p7_0 (kp (BR.out)))))))))))))))) hu23 rfl (by kernel_rfl)) rfl ?_
        refine ⟨?_, bl HB.out⟩
        simp only [rdOut, hA, Bool.false_eq_true, false_and, if_false]; rfl
      | true =>
        have hri : dims_Right.f (f 0) (f 1) (f 2) (f 3) (f 4) (f 5) (f 6) = some true := congrArg some hA
        obtain ⟨x, hx⟩ : ∃ x, dims_Text.f (f 0) (f 1) (f 2) (f 3) (f 4) (f 5) (f 6) = some x := ⟨_, rfl⟩
        have hxd : x.data.toList = dtx (nz (L7 f) 7) := by
          have := Option.some.inj hx
          rw [← this, if_pos hA]
        have HX := Aside0.mk hx
        clear hx
        by_cases hxs : x.data.toList = s.data.toList
        · have b0 : (x.toList == s.toList) = true := by rw [toL, toL]; exact beq_iff_eq.mpr hxs
          rw [hxd] at hxs
          clear hxd
          have HXS := Aside0.mk hxs
          clear hxs
          go_wp2_with (first | (go_at_call 13; (with_reducible refine (dims_Right.calls (f 0) (f 1) (f 2) (f 3) (f 4) (f 5) (f 6) true _ hri).mono ?_); rintro e w9 ⟨rfl, hb⟩; replace BR := Aside0.mk (blk_below BR.out hb); replace BD := Aside0.mk (blk_below BD.out hb); replace HB := Aside0.mk (below_step HB.out hb); clear r0_ r1_ r2_ r3_ r4_ r5_ r6_ q0_ q1_ q2_ q3_ q4_ q5_ q6_ d0_ d1_ d2_ d3_ d4_ d5_ d6_; obtain ⟨r0_, r1_, r2_, r3_, r4_, r5_, r6_⟩ := hf7 BR.out; obtain ⟨q0_, q1_, q2_, q3_, q4_, q5_, q6_⟩ := hc7 BR.out; obtain ⟨d0_, d1_, d2_, d3_, d4_, d5_, d6_⟩ := hc7 BD.out; clear hb) | (go_at_call 12; (with_reducible refine (dims_Text.calls (f 0) (f 1) (f 2) (f 3) (f 4) (f 5) (f 6) x _ (Glob.use HG.out (by decide) HB.out) HX.out).mono ?_); rintro e w9 ⟨rfl, hb⟩; replace BR := Aside0.mk (blk_below BR.out hb); replace BD := Aside0.mk (blk_below BD.out hb); replace HB := Aside0.mk (below_step HB.out hb); clear r0_ r1_ r2_ r3_ r4_ r5_ r6_ q0_ q1_ q2_ q3_ q4_ q5_ q6_ d0_ d1_ d2_ d3_ d4_ d5_ d6_; obtain ⟨r0_, r1_, r2_, r3_, r4_, r5_, r6_⟩ := hf7 BR.out; obtain ⟨q0_, q1_, q2_, q3_, q4_, q5_, q6_⟩ := hc7 BR.out; obtain ⟨d0_, d1_, d2_, d3_, d4_, d5_, d6_⟩ := hc7 BD.out; clear hb; clear HX))
          refine bodyPost_ret (results_ct rfl _ _ gr 23 (A7 f) (0, 0) _ rfl (kp (p7_6 (kp (p7_5 (kp (p7_4 (kp (p7_3 (kp (p7_2 (kp (p7_1 (kp (p7_0 (kp (BR.out)))))))))))))))) hu23 rfl (by kernel_rfl)) rfl ?_
          refine ⟨?_, bl HB.out⟩
          simp only [rdOut, hA, HXS.out, true_and, and_self, and_false, if_true, if_false]; rfl
        · have b0 : (x.toList == s.toList) = false := by rw [toL, toL]; exact beq_eq_false_iff_ne.mpr hxs
          rw [hxd] at hxs
          clear hxd
          have HXS := Aside0.mk hxs
          clear hxs
          go_wp2_with (first | (go_at_call 13; (with_reducible refine (dims_Right.calls (f 0) (f 1) (f 2) (f 3) (f 4) (f 5) (f 6) true _ hri).mono ?_); rintro e w9 ⟨rfl, hb⟩; replace BR := Aside0.mk (blk_below BR.out hb); replace BD := Aside0.mk (blk_below BD.out hb); replace HB := Aside0.mk (below_step HB.out hb); clear r0_ r1_ r2_ r3_ r4_ r5_ r6_ q0_ q1_ q2_ q3_ q4_ q5_ q6_ d0_ d1_ d2_ d3_ d4_ d5_ d6_; obtain ⟨r0_, r1_, r2_, r3_, r4_, r5_, r6_⟩ := hf7 BR.out; obtain ⟨q0_, q1_, q2_, q3_, q4_, q5_, q6_⟩ := hc7 BR.out; obtain ⟨d0_, d1_, d2_, d3_, d4_, d5_, d6_⟩ := hc7 BD.out; clear hb) | (go_at_call 12; (with_reducible refine (dims_Text.calls (f 0) (f 1) (f 2) (f 3) (f 4) (f 5) (f 6) x _ (Glob.use HG.out (by decide) HB.out) HX.out).mono ?_); rintro e w9 ⟨rfl, hb⟩; replace BR := Aside0.mk (blk_below BR.out hb); replace BD := Aside0.mk (blk_below BD.out hb); replace HB := Aside0.mk (below_step HB.out hb); clear r0_ r1_ r2_ r3_ r4_ r5_ r6_ q0_ q1_ q2_ q3_ q4_ q5_ q6_ d0_ d1_ d2_ d3_ d4_ d5_ d6_; obtain ⟨r0_, r1_, r2_, r3_, r4_, r5_, r6_⟩ := hf7 BR.out; obtain ⟨q0_, q1_, q2_, q3_, q4_, q5_, q6_⟩ := hc7 BR.out; obtain ⟨d0_, d1_, d2_, d3_, d4_, d5_, d6_⟩ := hc7 BD.out; clear hb; clear HX))
          refine bodyPost_ret (results_ct rfl _ _ gr 23 #[.int .i64 0, .int .i64 0, .int .i64 0, .int .i64 0, .int .i64 0, .int .i64 0, .int .i64 0] (0, 0) _ rfl (kp (p7_6 (kp (p7_5 (kp (p7_4 (kp (p7_3 (kp (p7_2 (kp (p7_1 (kp (p7_0 (kp (BR.out)))))))))))))))) hu23 rfl (by kernel_rfl)) rfl ?_
          refine ⟨?_, bl HB.out⟩
          simp only [rdOut, hA, HXS.out, true_and, and_self, and_false, if_true, if_false]; rfl
    · obtain ⟨c, cs, hl⟩ : ∃ c cs, u.data.toList = c :: cs := by
        cases h : u.data.toList with
        | nil => exact absurd (by obtain ⟨⟨l⟩⟩ := u; simp at h; subst h; rfl) hu
        | cons c cs => exact ⟨c, cs, rfl⟩
      have h0 : 0 < u.size := by show 0 < u.data.toList.length; rw [hl]; simp
      have hE : u.toList.isEmpty = false := by rw [toL, hl]; rfl
      go_wp2_with (first
        | (go_at_call 20; (with_reducible refine (Tryd.strings_IndexByte _ _ _).mono ?_); rintro e wo ⟨rfl, rfl⟩))
      have hc0 : u[0] = c := by
        show u.data[0] = c
        rw [← Array.getElem_toList]
        simp [hl]
      obtain ⟨i, hi⟩ : ∃ i, Lib.indexByte [109, 115, 103, 114, 107, 99, 100] u[0] = i := ⟨_, rfl⟩
      rw [hi]
      rw [hc0] at hi
      have HI := Aside0.mk hi
      clear hi hc0
      go_loopw [7] (fun v wr => ∃ k : Nat, v = .int .i64 k ∧ (1 ≤ k ∧ k ≤ u.size) ∧ wr = wo ∧ Aside0 (∀ q (hq : q < u.size), 1 ≤ q → q < k → nl u[q] = true)) (fun v _ => u.size - (intOf v).toNat)
      case atStart => exact ⟨1, rfl, ⟨Nat.le_refl _, h0⟩, rfl, ⟨fun q _ h1 h2 => absurd h1 (by omega)⟩⟩
      case round =>
        obtain ⟨k, rfl, ⟨hk1, hk2⟩, rfl, HN⟩ := hrel
        have hsA : ∀ W : World, (Instr.slice 9 (.string u) (some (.int .i64 1)) (some (.int .i64 (k : Int))) none).run Tryd.prog W = .ok (.string (u.extract 1 k)) W := fun W =>
          (run_slice_string W 9 u .i64 .i64 1 (k : Int) Tryd.underlying9 (by decide) (by omega) (by omega)).trans (by simp)
        have hsB : ∀ W : World, (Instr.slice 9 (.string u) (some (.int .i64 (k : Int))) none none).run Tryd.prog W = .ok (.string (u.extract k u.size)) W := fun W => by
          have := run_slice_string_from_if W 9 u .i64 (k : Int) Tryd.underlying9
          rw [if_pos ⟨by omega, by omega⟩] at this
          simpa using this
        by_cases hk : k < u.size
        · by_cases hx : Lib.indexByte [109, 115, 103, 114, 107, 99, 100] u[k] < 0
          · go_wp2_with (first
              | (go_at_call 20; (with_reducible refine (Tryd.strings_IndexByte _ _ _).mono ?_); rintro e wo ⟨rfl, rfl⟩))
            go_roundw
            case rel =>
              refine ⟨k + 1, by simp, ⟨by omega, by omega⟩, trivial, ⟨fun q hq h1 h2 => ?_⟩⟩
              by_cases hqk : q < k
              · exact HN.out q hq h1 hqk
              · obtain rfl : q = k := by omega
                exact decide_eq_true hx
            case measure => simp [intOf]; omega
          · have hcut := cut7 hl hk1 hk2 HN.out (.inr ⟨hk, decide_eq_false hx⟩)
            have HE := Aside0.mk hcut.2
            have hR := HR.out
            rw [hl] at hR
            have hsz1 : (u.extract 1 k).size ≤ 281474976710656 := Nat.le_trans (by simp; omega) hs
            by_cases hA : ∃ v, Lib.atoiAll (u.extract 1 k).data.toList = .ok v
            · obtain ⟨v, hA⟩ := hA
              have HA := Aside0.mk hA
              rw [hcut.1] at hA
              by_cases hi : i < 0
              · obtain rfl := RD_none hR (.inr (by rw [HI.out]; exact hi))
                clear hA
                have ne1 := NE1.out
                have ne2 := NE2.out
                clear HR HI HE hcut hR
                go_wp2_with (first | (go_at_call 20; (with_reducible refine (Tryd.strings_IndexByte _ _ _).mono ?_); rintro e wo ⟨rfl, rfl⟩) | (go_at_call 21; (with_reducible refine (atoi_ok (u.extract 1 k) hsz1 v HA.out _).mono ?_); rintro e w9 ⟨rfl, hb⟩; replace BR := Aside0.mk (blk_below BR.out hb); replace BD := Aside0.mk (blk_below BD.out hb); replace HB := Aside0.mk (below_step HB.out hb); obtain ⟨r0_, r1_, r2_, r3_, r4_, r5_, r6_⟩ := hf7 BR.out; obtain ⟨q0_, q1_, q2_, q3_, q4_, q5_, q6_⟩ := hc7 BR.out; clear hb))
                refine bodyPost_ret (results_ct rfl _ _ gr 23 #[.int .i64 0, .int .i64 0, .int .i64 0, .int .i64 0, .int .i64 0, .int .i64 0, .int .i64 0] (0, 0) _ rfl (kp (p7_6 (kp (p7_5 (kp (p7_4 (kp (p7_3 (kp (p7_2 (kp (p7_1 (kp (p7_0 (kp (BR.out)))))))))))))))) hu23 rfl (by kernel_rfl)) rfl ?_
                exact ⟨rfl, bl HB.out⟩
              · have hi7 : i < 7 := by rw [← HI.out]; exact index_lt c
                replace hi : 0 ≤ i := by omega
                have HT := Aside0.mk (RD_step hR hA (by rw [HI.out]; omega))
                rw [HI.out, ← hcut.2] at HT
                clear hA hcut hR HR HI
                go_wp2_with (first | (go_at_call 20; (with_reducible refine (Tryd.strings_IndexByte _ _ _).mono ?_); rintro e wo ⟨rfl, rfl⟩) | (go_at_call 21; (with_reducible refine (atoi_ok (u.extract 1 k) hsz1 v HA.out _).mono ?_); rintro e w9 ⟨rfl, hb⟩; replace BR := Aside0.mk (blk_below BR.out hb); replace BD := Aside0.mk (blk_below BD.out hb); replace HB := Aside0.mk (below_step HB.out hb); have hci := get7 BD.out i hi hi7; have hfi := blk_frozen BD.out i.toNat; clear hb))
                go_roundw
                case rel => exact ⟨u.extract k u.size, upd f i.toNat v, rfl, Nat.le_trans (by simp) hsz, HT, ⟨kp BR.out⟩, ⟨put7 BD.out i v hi hi7⟩, ⟨bl HB.out⟩⟩
                case measure => simp [strSz]; omega
            · obtain rfl := RD_none hR (.inl (by rw [← hcut.1]; exact fun v hv => hA ⟨v, hv⟩))
              have HA := Aside0.mk (fun v hv => hA ⟨v, hv⟩ : ∀ v, Lib.atoiAll (u.extract 1 k).data.toList ≠ .ok v)
              clear hA
              by_cases hi : i < 0
              · have ne1 := NE1.out
                have ne2 := NE2.out
                clear HR HI HE hcut hR
                go_wp2_with (first | (go_at_call 20; (with_reducible refine (Tryd.strings_IndexByte _ _ _).mono ?_); rintro e wo ⟨rfl, rfl⟩) | (go_at_call 21; (with_reducible refine (atoi_bad (u.extract 1 k) hsz1 HA.out _ (Glob.use HG.out (by decide) HB.out)).mono ?_); rintro e w9 ⟨v, te, pe, rfl, hb⟩; replace BR := Aside0.mk (blk_below BR.out hb); replace BD := Aside0.mk (blk_below BD.out hb); replace HB := Aside0.mk (below_step HB.out hb); obtain ⟨r0_, r1_, r2_, r3_, r4_, r5_, r6_⟩ := hf7 BR.out; obtain ⟨q0_, q1_, q2_, q3_, q4_, q5_, q6_⟩ := hc7 BR.out; clear hb))
                refine bodyPost_ret (results_ct rfl _ _ gr 23 #[.int .i64 0, .int .i64 0, .int .i64 0, .int .i64 0, .int .i64 0, .int .i64 0, .int .i64 0] (0, 0) _ rfl (kp (p7_6 (kp (p7_5 (kp (p7_4 (kp (p7_3 (kp (p7_2 (kp (p7_1 (kp (p7_0 (kp (BR.out)))))))))))))))) hu23 rfl (by kernel_rfl)) rfl ?_
                exact ⟨rfl, bl HB.out⟩
              · have ne1 := NE1.out
                have ne2 := NE2.out
                clear HR HI HE hcut hR
                go_wp2_with (first | (go_at_call 20; (with_reducible refine (Tryd.strings_IndexByte _ _ _).mono ?_); rintro e wo ⟨rfl, rfl⟩) | (go_at_call 21; (with_reducible refine (atoi_bad (u.extract 1 k) hsz1 HA.out _ (Glob.use HG.out (by decide) HB.out)).mono ?_); rintro e w9 ⟨v, te, pe, rfl, hb⟩; replace BR := Aside0.mk (blk_below BR.out hb); replace BD := Aside0.mk (blk_below BD.out hb); replace HB := Aside0.mk (below_step HB.out hb); obtain ⟨r0_, r1_, r2_, r3_, r4_, r5_, r6_⟩ := hf7 BR.out; obtain ⟨q0_, q1_, q2_, q3_, q4_, q5_, q6_⟩ := hc7 BR.out; clear hb))
                refine bodyPost_ret (results_ct rfl _ _ gr 23 #[.int .i64 0, .int .i64 0, .int .i64 0, .int .i64 0, .int .i64 0, .int .i64 0, .int .i64 0] (0, 0) _ rfl (kp (p7_6 (kp (p7_5 (kp (p7_4 (kp (p7_3 (kp (p7_2 (kp (p7_1 (kp (p7_0 (kp (BR.out)))))))))))))))) hu23 rfl (by kernel_rfl)) rfl ?_
                exact ⟨rfl, bl HB.out⟩
        · have HKE := Aside0.mk (by omega : k = u.size)
          have hcut := cut7 hl hk1 hk2 HN.out (.inl HKE.out)
          have HE := Aside0.mk hcut.2
          have hR := HR.out
          rw [hl] at hR
          have hsz1 : (u.extract 1 k).size ≤ 281474976710656 := Nat.le_trans (by simp; omega) hs
          by_cases hA : ∃ v, Lib.atoiAll (u.extract 1 k).data.toList = .ok v
          · obtain ⟨v, hA⟩ := hA
            have HA := Aside0.mk hA
            rw [hcut.1] at hA
            by_cases hi : i < 0
            · obtain rfl := RD_none hR (.inr (by rw [HI.out]; exact hi))
              clear hA
              have ne1 := NE1.out
              have ne2 := NE2.out
              clear HR HI HE hcut hR
              go_wp2_with (first | (go_at_call 20; (with_reducible refine (Tryd.strings_IndexByte _ _ _).mono ?_); rintro e wo ⟨rfl, rfl⟩) | (go_at_call 21; (with_reducible refine (atoi_ok (u.extract 1 k) hsz1 v HA.out _).mono ?_); rintro e w9 ⟨rfl, hb⟩; replace BR := Aside0.mk (blk_below BR.out hb); replace BD := Aside0.mk (blk_below BD.out hb); replace HB := Aside0.mk (below_step HB.out hb); obtain ⟨r0_, r1_, r2_, r3_, r4_, r5_, r6_⟩ := hf7 BR.out; obtain ⟨q0_, q1_, q2_, q3_, q4_, q5_, q6_⟩ := hc7 BR.out; clear hb))
              refine bodyPost_ret (results_ct rfl _ _ gr 23 #[.int .i64 0, .int .i64 0, .int .i64 0, .int .i64 0, .int .i64 0, .int .i64 0, .int .i64 0] (0, 0) _ rfl (kp (p7_6 (kp (p7_5 (kp (p7_4 (kp (p7_3 (kp (p7_2 (kp (p7_1 (kp (p7_0 (kp (BR.out)))))))))))))))) hu23 rfl (by kernel_rfl)) rfl ?_
              exact ⟨rfl, bl HB.out⟩
            · have hi7 : i < 7 := by rw [← HI.out]; exact index_lt c
              replace hi : 0 ≤ i := by omega
              have HT := Aside0.mk (RD_step hR hA (by rw [HI.out]; omega))
              rw [HI.out, ← hcut.2] at HT
              clear hA hcut hR HR HI
              go_wp2_with (first | (go_at_call 20; (with_reducible refine (Tryd.strings_IndexByte _ _ _).mono ?_); rintro e wo ⟨rfl, rfl⟩) | (go_at_call 21; (with_reducible refine (atoi_ok (u.extract 1 k) hsz1 v HA.out _).mono ?_); rintro e w9 ⟨rfl, hb⟩; replace BR := Aside0.mk (blk_below BR.out hb); replace BD := Aside0.mk (blk_below BD.out hb); replace HB := Aside0.mk (below_step HB.out hb); have hci := get7 BD.out i hi hi7; have hfi := blk_frozen BD.out i.toNat; clear hb))
              go_roundw
              case rel => exact ⟨u.extract k u.size, upd f i.toNat v, rfl, Nat.le_trans (by simp) hsz, HT, ⟨kp BR.out⟩, ⟨put7 BD.out i v hi hi7⟩, ⟨bl HB.out⟩⟩
              case measure => simp [strSz]; omega
          · obtain rfl := RD_none hR (.inl (by rw [← hcut.1]; exact fun v hv => hA ⟨v, hv⟩))
            have HA := Aside0.mk (fun v hv => hA ⟨v, hv⟩ : ∀ v, Lib.atoiAll (u.extract 1 k).data.toList ≠ .ok v)
            clear hA
            by_cases hi : i < 0
            · have ne1 := NE1.out
              have ne2 := NE2.out
              clear HR HI HE hcut hR
              go_wp2_with (first | (go_at_call 20; (with_reducible refine (Tryd.strings_IndexByte _ _ _).mono ?_); rintro e wo ⟨rfl, rfl⟩) | (go_at_call 21; (with_reducible refine (atoi_bad (u.extract 1 k) hsz1 HA.out _ (Glob.use HG.out (by decide) HB.out)).mono ?_); rintro e w9 ⟨v, te, pe, rfl, hb⟩; replace BR := Aside0.mk (blk_below BR.out hb); replace BD := Aside0.mk (blk_below BD.out hb); replace HB := Aside0.mk (below_step HB.out hb); obtain ⟨r0_, r1_, r2_, r3_, r4_, r5_, r6_⟩ := hf7 BR.out; obtain ⟨q0_, q1_, q2_, q3_, q4_, q5_, q6_⟩ := hc7 BR.out; clear hb))
              refine bodyPost_ret (results_ct rfl _ _ gr 23 #[.int .i64 0, .int .i64 0, .int .i64 0, .int .i64 0, .int .i64 0, .int .i64 0, .int .i64 0] (0, 0) _ rfl (kp (p7_6 (kp (p7_5 (kp (p7_4 (kp (p7_3 (kp (p7_2 (kp (p7_1 (kp (p7_0 (kp (BR.out)))))))))))))))) hu23 rfl (by kernel_rfl)) rfl ?_
              exact ⟨rfl, bl HB.out⟩
            · have ne1 := NE1.out
              have ne2 := NE2.out
              clear HR HI HE hcut hR
              go_wp2_with (first | (go_at_call 20; (with_reducible refine (Tryd.strings_IndexByte _ _ _).mono ?_); rintro e wo ⟨rfl, rfl⟩) | (go_at_call 21; (with_reducible refine (atoi_bad (u.extract 1 k) hsz1 HA.out _ (Glob.use HG.out (by decide) HB.out)).mono ?_); rintro e w9 ⟨v, te, pe, rfl, hb⟩; replace BR := Aside0.mk (blk_below BR.out hb); replace BD := Aside0.mk (blk_below BD.out hb); replace HB := Aside0.mk (below_step HB.out hb); obtain ⟨r0_, r1_, r2_, r3_, r4_, r5_, r6_⟩ := hf7 BR.out; obtain ⟨q0_, q1_, q2_, q3_, q4_, q5_, q6_⟩ := hc7 BR.out; clear hb))
              refine bodyPost_ret (results_ct rfl _ _ gr 23 #[.int .i64 0, .int .i64 0, .int .i64 0, .int .i64 0, .int .i64 0, .int .i64 0, .int .i64 0] (0, 0) _ rfl (kp (p7_6 (kp (p7_5 (kp (p7_4 (kp (p7_3 (kp (p7_2 (kp (p7_1 (kp (p7_0 (kp (BR.out)))))))))))))))) hu23 rfl (by kernel_rfl)) rfl ?_
              exact ⟨rfl, bl HB.out⟩
end Go.Proofs.YtclpbnfcajbmkaaDoor.Di
namespace Go.Proofs.YtclpbnfcajbmkaaDoor
open Go Go.RowKit Go.Proofs.YtclpbnfcajbmkaaDoor.Di
def dims_Read.f (s : ByteArray) : Option D8 := if s.size ≤ 281474976710656 then some (match rdOut s.data.toList (rdL s.size s.data.toList fun _ => 0) with | (f, b) => (f 0, f 1, f 2, f 3, f 4, f 5, f 6, b)) else none
theorem dims_Read.calls (s : ByteArray) (r1 r2 r3 r4 r5 r6 r7 : Int) (r8 : Bool) (w : World) (hG : Glob [1, 2, 3] w) (h : dims_Read.f s = some (r1, r2, r3, r4, r5, r6, r7, r8)) :
    Calls Tryd.prog 11 #[.string s] w fun e w' => e = .returned (.tuple #[.agg #[.int .i64 r1, .int .i64 r2, .int .i64 r3, .int .i64 r4, .int .i64 r5, .int .i64 r6, .int .i64 r7], .bool r8]) ∧ Below w.heap.size w w' := by
  unfold dims_Read.f at h
  split at h
  · rename_i hs
    refine (read_calls s hs w hG).mono ?_
    generalize rdOut s.data.toList (rdL s.size s.data.toList fun _ => 0) = x at h
    obtain ⟨f, b⟩ := x
    have h := Option.some.inj h
    simp only [Prod.mk.injEq] at h
    obtain ⟨rfl, rfl, rfl, rfl, rfl, rfl, rfl, rfl⟩ := h
    rintro e w' ⟨rfl, hb⟩
    exact ⟨rfl, hb⟩
  · cases h
end Go.Proofs.YtclpbnfcajbmkaaDoor
