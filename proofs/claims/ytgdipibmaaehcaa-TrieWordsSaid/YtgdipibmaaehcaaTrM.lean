/- The document's Sorted. Conditions: those in each theorem. -/
import Derived.Test.YtgdipibmaaehcaaTr9
import Derived.Test.YtgdipibmaaehcaaTrJ
import Derived.ArgAppend
import Derived.Laws.OwnMore
import Derived.Laws.AppendOwnNone
import Derived.Sort.Walk0
import Derived.Maps.AppendAt
import Derived.Deep.RegionLaw
import Derived.Laws.Cover1
namespace Go.Proofs.Ytgdipibmaaehcaa.Tr
open Go Go.RowKit Go.Proofs.Ytgdipibmaaehcaa Go.Proofs.Ytgdipibmaaehcaa.Sq Go.Proofs.YtgdipibmaaehcaaW.PrintWords Go.Proofs.YtgdipibmaaehcaaW.PrintLast Go.Proofs.YtgdipibmaaehcaaW.PrintMore
set_option linter.unusedVariables false
set_option linter.unusedSimpArgs false
/-- Texts by their bytes, each once. -/
abbrev Rise (xs : List ByteArray) : Prop := (xs.map strOf).Pairwise (· < ·)
abbrev OwnS (base : Nat) (v : Value) (xs : List ByteArray) (w : World) : Prop := w.ownsRow base 9 1 v xs.length (xs.map Value.string)
theorem OwnS.drawn {base : Nat} {v : Value} {xs : List ByteArray} {w : World} (h : OwnS base v xs w) (q : Nat) : OwnS base v xs (w.drewN q) := World.ownsRow.kept h (drawn_by w q) (by simp; exact Classical.em _)
theorem OwnS.kd {base : Nat} {v : Value} {xs : List ByteArray} {w : World} (h : OwnS base v xs w) : Kd.R Kd.string 9 w base (fun _ => True) v xs := Kd.R_of_own (enc := Value.string) h (fun _ _ => trivial)
theorem drewN_add' (w : World) (a b : Nat) : (w.drewN a).drewN b = w.drewN (a + b) := by
  simp
theorem blk_cell_below {w w' : World} {p : Addr} {v : Value} (hb : Below w.heap.size w w') (h : w.cell? p = some v) : w'.cell? p = some v := by
  have hlt : p.block < w.heap.size := by
    unfold World.cell? at h
    cases e : w.heap[p.block]? with
    | none => rw [e] at h; simp at h
    | some o => exact blk_lt e
  exact (hb.cell hlt).trans h
theorem own_base {W : World} {base base' : Nat} {e : TypeId} {size : Nat} {v : Value} {k : Nat} {xs : List Value} (h : W.ownsRow base e size v k xs) (hb : base' ≤ base) : W.ownsRow base' e size v k xs := by
  refine ⟨h.1, ?_⟩
  rcases h.2 with hn | ⟨g, cap, cur, hv, hbg, rest⟩
  · exact .inl hn
  · exact .inr ⟨g, cap, cur, hv, Nat.le_trans hb hbg, rest⟩
theorem step_run {P : Program} {ops : Array Oper} {o : Oper} {a : Act} {w : World} {K : Act → World → Prop} {Q : Exit → Act → World → Prop} {E : Prop}
    (hg : o.guard = none) (s x : Operand) (t : TypeId) (hop : o.op = Op.call { callee := Callee.builtin Builtin.append, args := #[s, x], argTypes := #[t, t] }) {v1 v2 v' : Value} {w' : World}
    (hs : a.eval s = v1) (hx : a.eval x = v2) (hrun : (Builtin.append_ #[t, t] o.type #[v1, v2]).run P w = .ok v' w') (hK : K (a.put o.dst v') w') :
    if Region.wanted o (yielded ops a.tmps) = true then Oper.wp P o a w K Q else E := by
  have hw : Region.wanted o (yielded ops a.tmps) = true := by simp [Region.wanted, hg]
  rw [if_pos hw]
  unfold Oper.wp
  simp [execOp, hop, resolve, invoke, builtin, hs, hx, hrun, Result.andThen]
  exact hK
theorem ins_in {xs ws : List ByteArray} {i t : Nat} {s : ByteArray} (h : ∀ x, x ∈ xs ↔ x ∈ ws.take i) (hs : ws[i]? = some s) : ∀ x, x ∈ xs.take t ++ s :: xs.drop t ↔ x ∈ ws.take (i + 1) := fun x => by
  rw [List.take_add_one, hs, List.mem_append, List.mem_append, List.mem_cons, ← h x]
  constructor
  · rintro (h1 | h1 | h1)
    · exact .inl (List.mem_of_mem_take h1)
    · exact .inr (by simp [h1])
    · exact .inl (List.mem_of_mem_drop h1)
  · rintro (h1 | h1)
    · have h2 : x ∈ xs.take t ++ xs.drop t := by rw [List.take_append_drop]; exact h1
      rcases List.mem_append.1 h2 with h2 | h2
      · exact .inl h2
      · exact .inr (.inr h2)
    · simp at h1
      exact .inr (.inl h1)
theorem ins_rise {xs : List ByteArray} {t : Nat} {s : ByteArray} (h : Rise xs) (hn : s ∉ xs) (ht : t ≤ xs.length) (h1 : ∀ j, t ≤ j → j < xs.length → strOf s < strOf (xs.getD j ByteArray.empty)) (h2 : t = 0 ∨ ¬ strOf s < strOf (xs.getD (t - 1) ByteArray.empty)) : Rise (xs.take t ++ s :: xs.drop t) := by
  have hp : ∀ (a b : Nat) (x y : ByteArray), a < b → xs[a]? = some x → xs[b]? = some y → strOf x < strOf y := fun a b x y hab hx hy => by
    obtain ⟨ha, ea⟩ := List.getElem?_eq_some_iff.1 hx
    obtain ⟨hb, eb⟩ := List.getElem?_eq_some_iff.1 hy
    have := List.pairwise_iff_getElem.1 (List.pairwise_map.1 h) a b ha hb hab
    rw [ea, eb] at this; exact this
  have lo : ∀ x ∈ xs.take t, strOf x < strOf s := fun x hx => by
    obtain ⟨a, ha⟩ := List.mem_iff_getElem?.1 hx
    have hat : a < t := by have := (List.getElem?_eq_some_iff.1 ha).1; rw [List.length_take] at this; omega
    rw [List.getElem?_take_of_lt hat] at ha
    rcases h2 with h2 | h2
    · omega
    · obtain ⟨y, hy⟩ : ∃ y, xs[t - 1]? = some y := ⟨_, List.getElem?_eq_getElem (by omega)⟩
      rw [List.getD_eq_getElem?_getD, hy] at h2
      have hne : strOf y ≠ strOf s := fun e => hn (strOf_inj e ▸ List.mem_of_getElem? hy)
      have hle : strOf y < strOf s := by
        refine Classical.byContradiction fun hc => hne (List.le_antisymm (List.not_lt.1 h2) (List.not_lt.1 hc))
      by_cases hb : a = t - 1
      · rw [hb, hy] at ha; cases ha; exact hle
      · exact List.lt_trans (hp a (t - 1) x y (by omega) ha hy) hle
  have hi : ∀ x ∈ xs.drop t, strOf s < strOf x := fun x hx => by
    obtain ⟨a, ha⟩ := List.mem_iff_getElem?.1 hx
    rw [List.getElem?_drop] at ha
    have := h1 (t + a) (by omega) (List.getElem?_eq_some_iff.1 ha).1
    rw [List.getD_eq_getElem?_getD, ha] at this; exact this
  have h' : xs.Pairwise (fun x y => strOf x < strOf y) := List.pairwise_map.1 h
  refine List.pairwise_map.2 ?_
  rw [List.pairwise_append]
  refine ⟨h'.sublist (List.take_sublist _ _), List.pairwise_cons.2 ⟨hi, h'.sublist (List.drop_sublist _ _)⟩, fun x hx y hy => ?_⟩
  rcases List.mem_cons.1 hy with rfl | hy
  · exact lo x hx
  · exact List.lt_trans (lo x hx) (hi y hy)
theorem cmp_gt (y s : ByteArray) : (!(Op.bytesLess y.toList s.toList || y.toList == s.toList)) = decide (strOf s < strOf y) := by
  rw [bytesLess_eq, Lib.toList_data, Lib.toList_data]
  show (!(decide (strOf y < strOf s) || strOf y == strOf s)) = decide (strOf s < strOf y)
  by_cases h : strOf s < strOf y
  · have h1 : ¬ strOf y < strOf s := fun h2 => List.lt_asymm h h2
    have h2 : ¬ strOf y = strOf s := fun e => by rw [e] at h; exact List.lt_irrefl _ h
    simp [h, h1, h2]
  · by_cases h1 : strOf y < strOf s
    · simp [h, h1]
    · have h2 : strOf y = strOf s := List.le_antisymm (List.not_lt.1 h) (List.not_lt.1 h1)
      simp [h2]
set_option maxHeartbeats 8000000 in
set_option maxRecDepth 100000 in
theorem sorted_ref {W : World} {A : Option Addr} {n cp : Nat} {ws : List ByteArray} (hr : Kd.C Kd.string W A n ws) (hn : n ≤ 1000) :
    Calls Try.prog 20 #[.slice A n cp] W fun e w' => ∃ v out, e = .returned v ∧ OwnS W.heap.size v out w' ∧ Rise out ∧ (∀ s, s ∈ out ↔ s ∈ ws) ∧ Below W.heap.size W w' ∧ out.length ≤ n := by
  have hlen : ws.length = n := hr.1
  have HR := Aside0.mk hr
  have HN := Aside0.mk hn
  have HL := Aside0.mk hlen
  clear hr hlen hn
  go_enter Try.func20, Try.ntmps20
  go_wp2_with fail
  go_loopw [3, 4] (fun v3 v4 wr => ∃ (i : Nat) (xs : List ByteArray), v4 = .int .i64 (i : Int) ∧ Aside0 (i ≤ n ∧ OwnS W.heap.size v3 xs wr ∧ Rise xs ∧ (∀ s, s ∈ xs ↔ s ∈ ws.take i) ∧ Below W.heap.size W wr ∧ xs.length ≤ i)) (fun _ v4 _ => n - (intOf v4).toNat)
  case atStart => exact ⟨0, [], rfl, ⟨Nat.zero_le _, World.ownsRow_nil W _ 9 1, List.Pairwise.nil, fun s => by simp, Below.refl _ _, Nat.le_refl _⟩⟩
  case round =>
    obtain ⟨i, xs, rfl, HI⟩ := hrel
    by_cases hlt : i < n
    · have hd1 : decide ((i : Int) < (n : Int)) = true := by simp; omega
      have hq1 := eq_true hlt
      have HLT := Aside0.mk hlt
      obtain ⟨ad, rfl, hx0⟩ := at_S (Kd.C_below HR.out HI.out.2.2.2.2.1) i hlt
      obtain ⟨s, hs⟩ : ∃ s, s = ws.getD i ByteArray.empty := ⟨_, rfl⟩
      rw [← hs] at hx0
      have HS : Aside0 (∀ W', Below W.heap.size W W' → W'.cell? (ad.add i) = some (.string s)) := ⟨fun W' hb => by
        obtain ⟨ad', ea, hx⟩ := at_S (Kd.C_below HR.out hb) i hlt
        cases ea
        rw [hs]; exact hx⟩
      have hsi : ws[i]? = some s := by rw [hs, List.getD_eq_getElem?_getD, List.getElem?_eq_getElem (by have := HL.out; omega)]; rfl
      have HSI := Aside0.mk hsi
      have hii : wrap64 ((i : Int) + 1) = ((i + 1 : Nat) : Int) := by have h_ := HN.out; rw [w64s (by omega) (by omega)]; omega
      obtain ⟨z, hz⟩ : ∃ z : Int, z = ((i + 1 : Nat) : Int) := ⟨_, rfl⟩
      rw [← hz] at hii
      have hii2 : IntKind.i64.wrap ((i : Int) + 1) = z := (i64_w _).trans hii
      have HZ := Aside0.mk hz
      have hkd := OwnS.kd HI.out.2.1
      obtain ⟨A3, c3, rfl⟩ := Kd.R_slice hkd
      have HC := Aside0.mk (Kd.R_reads' hkd).2.2
      have HXL : Aside0 (xs.length ≤ 140737488351232) := ⟨by have h_ := HN.out; have h2_ := HI.out.2.2.2.2.2; omega⟩
      obtain ⟨F, hF⟩ : ∃ F, F = find (xs.map strOf) (strOf s) := ⟨_, rfl⟩
      have HF := Aside0.mk hF
      clear hlt hs hsi hz hkd
      rcases find_nonneg (xs.map strOf) (strOf s) with hneg | hpos
      · have hd3 : decide (0 ≤ F) = false := by rw [hF, hneg]; rfl
        have hnm : s ∉ xs := fun hm => (find_neg.1 hneg) (List.mem_map_of_mem hm)
        have HNM := Aside0.mk hnm
        clear hF hneg hnm
        go_upto_region 6 with (first
          | (go_at_call 15; (with_reducible refine (rfind_calls HC.out HXL.out s).mono ?_); rintro e w_ ⟨rfl, ⟨q, rfl⟩⟩; rw [← HF.out]))
        clear HF hd3 hx0
        go_cut [5] from 7 to 54 (fun v5 wc => v5 = .int .i64 (xs.length : Int) ∧ wc = wr.drewN q)
        case first =>
          go_wp2_with fail
          go_meet
          case rel => exact ⟨rfl, rfl⟩
        case rest =>
        obtain ⟨rfl, rfl⟩ := hcut
        apply ‹∀ (a : Act) (w : World), Code.wp Try.prog _ _ a w → _›
        refine wp_seq_k fun K_ hK_ => ?_
        go_cut [5] from 7 to 54 (fun v5 wc => ∃ t q2 : Nat, v5 = .int .i64 (t : Int) ∧ wc = wr.drewN q2 ∧ Aside0 (t ≤ xs.length ∧ (∀ j, t ≤ j → j < xs.length → strOf s < strOf (xs.getD j ByteArray.empty)) ∧ (t = 0 ∨ ¬ strOf s < strOf (xs.getD (t - 1) ByteArray.empty))))
        case rest =>
          obtain ⟨t, q2, rfl, rfl, HTT⟩ := hcut
          apply hK_
          have hx0 := HS.out wr HI.out.2.2.2.2.1
          have htn := eq_true (show (t : Int) ≤ (xs.length : Int) by have := HTT.out.1; omega)
          have htn2 := eq_true HTT.out.1
          rcases HI.out.2.1.2 with ⟨he, hz0_⟩ | ⟨g, cap, cur, he, hbase, hgb, r1, r2, r3, r4⟩
          · obtain ⟨rfl, hxl, rfl⟩ : A3 = none ∧ xs.length = 0 ∧ c3 = 0 := by simp only [Value.slice.injEq] at he; exact ⟨he.1, he.2.1, he.2.2⟩
            obtain rfl : xs = [] := List.eq_nil_of_length_eq_zero hxl
            obtain rfl : t = 0 := by have := HTT.out.1; simpa using this
            obtain ⟨i0, hi, hz0, hz1, hz2⟩ := info_parts info9
            have own0 : ((wr.drewN q2).alloc (.cells #[] 9)).ownsRow wr.heap.size 9 1 (.slice (some ⟨wr.heap.size, 0, none⟩) 0 0) 0 [] := by
              have h := World.ownsRow_lit (base := wr.heap.size) (e := 9) (size := 1) (wr.drewN q2) #[] 0 (Nat.le_refl _) (Nat.zero_le _) rfl
              simpa using h
            have OWN0 := Aside0.mk own0
            have hbX := below_alloc (pw_below_drewN (Below.refl wr.heap.size wr) q2) (.cells #[] 9)
            have BX := Aside0.mk hbX
            clear own0 hbX hxl he hz0_ hx0 htn htn2
            go_upto_region 10 with (first
              | (at_builtin; refine wpList_append_own_none rfl _ _ 22 rfl wr.heap.size 9 i0 1 Try.underlying22 hi _ 0 [] rfl OWN0.out rfl ?_))
            obtain ⟨w9, hw9⟩ : ∃ w9, (wr.drewN q2).alloc (.cells #[] 9) = w9 := ⟨_, rfl⟩
            rw [hw9]
            have HW9 := Aside0.mk (hw9 ▸ BX.out)
            have HX9 := HS.out w9 (below_step HI.out.2.2.2.2.1 HW9.out)
            obtain ⟨v10, w10, happ2, hown10, hg10, _⟩ := run_append_own (P := Try.prog) (w9.alloc (.cells #[.string s] 9)).drew w9.heap.size 22 22 9 i0 (.string ⟨#[]⟩) 1 16 Try.underlying22 hi hz0 hz1 hz2 rfl (by decide) (.slice none 0 0) 0 [] (World.ownsRow_nil _ _ 9 1) ⟨w9.heap.size, 0, none⟩ 1 1 [.string s] rfl (cell_one_new w9 _ _) (fun u hu => by simp at hu; subst hu; rfl) (by decide) (by decide) (by simp)
            obtain ⟨g10, cap10, rfl⟩ := ownsRow_succ hown10
            have HG10 : Aside0 (w9.heap.size ≤ g10) := ⟨by
              rcases hown10.2 with ⟨e, _⟩ | ⟨g', c', cur', e, h1, _⟩
              · cases e
              · simp only [Value.slice.injEq, Option.some.injEq, Addr.mk.injEq] at e
                have := e.1.1
                omega⟩
            have hb10 : Below w9.heap.size w9 w10 := (below_alloc (Below.refl _ w9) (.cells #[.string s] 9)).drew.grown hg10 (by simp) (fun k e => by cases e)
            obtain ⟨v11, w11, happ3, hown11, hg11, _⟩ := run_append_own (P := Try.prog) w10 w9.heap.size 22 22 9 i0 (.string ⟨#[]⟩) 1 16 Try.underlying22 hi hz0 hz1 hz2 rfl (by decide) _ (0 + 1) _ hown10 ⟨wr.heap.size, 0, none⟩ 0 0 [] rfl (fun j u hj => by simp at hj) (fun u hu => by simp at hu) (by decide) (by decide) hb10.size
            go_region_law (first
              | (refine step_run rfl (.tmp 46) (.tmp 51) 22 rfl (by simp [Act.eval, Act.put]) (by simp [Act.eval, Act.put]) happ2 ?_)
              | (refine step_run rfl (.tmp 52) (.tmp 53) 22 rfl (by simp [Act.eval, Act.put]) (by simp [Act.eval, Act.put]) happ3 ?_))
            clear happ2 happ3
            go_wp2_with fail
            clear hii hii2
            go_roundw
            case rel =>
              refine ⟨i + 1, [s], congrArg _ HZ.out, ⟨HLT.out, own_base (base' := W.heap.size) hown11 (Nat.le_trans HI.out.2.2.2.2.1.size HW9.out.size), List.pairwise_singleton _ _, ins_in (t := 0) HI.out.2.2.2.1 HSI.out, ?_, ?_⟩⟩
              · exact below_step HI.out.2.2.2.2.1 (below_step HW9.out (hb10.grown hg11 hb10.size (fun k e => by cases e; exact HG10.out)))
              · simp
            case measure => have h1_ := HLT.out; have h2_ := HZ.out; simp [intOf]; omega
          · obtain ⟨rfl, rfl⟩ : A3 = some ⟨g, 0, none⟩ ∧ c3 = cap := by simp only [Value.slice.injEq] at he; exact ⟨he.1, he.2.2⟩
            have htc := eq_true (show (t : Int) ≤ (c3 : Int) by have := HTT.out.1; omega)
            have htc2 := eq_true (show t ≤ c3 by have := HTT.out.1; omega)
            obtain ⟨i0, hi, hz0, hz1, hz2⟩ := info_parts info9
            have HXC : Aside0 (∀ j y, xs[j]? = some y → wr.cell? ⟨g, j, none⟩ = some (.string y)) := ⟨fun j y hj => by
              have h := World.ownsRow.cells HI.out.2.1 (g := g) rfl j (.string y) (by rw [List.getElem?_map, hj]; rfl)
              rwa [Addr.add_lit, Nat.zero_add] at h⟩
            have LEN := Aside0.mk (show xs.length ≤ 1000 by have h_ := HN.out; have h2_ := HI.out.2.2.2.2.2; have h3_ := HLT.out; omega)
            have own0 : ((wr.drewN q2).alloc (.cells #[] 9)).ownsRow wr.heap.size 9 1 (.slice (some ⟨wr.heap.size, 0, none⟩) 0 0) 0 [] := by
              have h := World.ownsRow_lit (base := wr.heap.size) (e := 9) (size := 1) (wr.drewN q2) #[] 0 (Nat.le_refl _) (Nat.zero_le _) rfl
              simpa using h
            have OWN0 := Aside0.mk own0
            have hbX := below_alloc (pw_below_drewN (Below.refl wr.heap.size wr) q2) (.cells #[] 9)
            have BX := Aside0.mk hbX
            have LT := Aside0.mk (And.intro HTT.out.1 (And.intro r1 (blk_lt hgb)))
            have HLC := Aside0.mk r1
            clear own0 hbX r1 r2 r3 r4 hgb he
            by_cases htcap : t = c3
            · have hcp := eq_true (show c3 - t = 0 by omega)
              have hcp2 := eq_true (show c3 ≤ t by omega)
              have hcp3 := eq_true (show xs.length - t = 0 by have := LT.out; omega)
              have HTC := Aside0.mk (show t = xs.length by have := LT.out; have := HLC.out; omega)
              have hce := eq_true (show c3 = t by omega)
              have hce2 := eq_true htcap
              clear htcap
              go_upto_region 10 with (first
                | (at_builtin; refine wpList_append_own _ rfl _ _ 22 rfl wr.heap.size 9 i0 (.string ⟨#[]⟩) 1 16 Try.underlying22 hi hz0 hz1 hz2 rfl (by decide) _ _ _ rfl OWN0.out ⟨g, 0, none⟩ (xs.length - t) 0 ((xs.drop t).map Value.string) rfl (by rw [List.length_map, List.length_drop]; omega) (fun j u hj => by
                     have := (List.getElem?_eq_some_iff.1 hj).1; rw [List.length_map, List.length_drop] at this; have := HTC.out; omega) (fun u hu => by obtain ⟨y, _, rfl⟩ := List.mem_map.1 hu; rfl) (by have := LEN.out; unfold maxLen; omega) (by have := LEN.out; omega) (by simp) ?_; intro v9 w9 hown9 hg9 hnil9))
              obtain ⟨g9, cap9, cur9, rfl, hb9⟩ : ∃ g9 cap9 cur9, v9 = .slice (some ⟨g9, 0, none⟩) (0 + (xs.length - t)) cap9 ∧ wr.heap.size ≤ g9 ∧ w9.heap[g9]? = some (.cells cur9 9 (0, 0)) := by
                rcases hown9.2 with ⟨e9, _⟩ | ⟨g9, cap9, cur9, e9, h1, h2, _⟩
                · exact absurd (hnil9.1 e9).1 (by intro h; cases h)
                · exact ⟨g9, cap9, cur9, e9, h1, h2⟩
              have hbw9 : Below wr.heap.size wr w9 := BX.out.grown hg9 BX.out.size (fun k e => by cases e; exact Nat.le_refl _)
              have HX9 := HS.out w9 (below_step HI.out.2.2.2.2.1 hbw9)
              have XC9 := Aside0.mk (fun j y (hj : xs[j]? = some y) => blk_cell_below hbw9 (HXC.out j y hj))
              have RC9 := Aside0.mk (fun j y (hj : (xs.drop t)[j]? = some y) => (World.ownsRow.cells hown9 (g := g9) rfl j (.string y) (by rw [List.nil_append, List.getElem?_map, hj]; rfl)))
              have HW9 := Aside0.mk (And.intro hbw9 hb9)
              clear hown9 hg9 hnil9 hbw9 hb9 hx0
              obtain ⟨v10, w10, happ2, hown10, hg10⟩ := run_append_arg_grows (P := Try.prog) (w9.alloc (.cells #[.string s] 9)).drew 22 22 9 i0 (.string ⟨#[]⟩) 1 16 Try.underlying22 hi hz0 hz1 hz2 rfl (by decide) ⟨g, 0, none⟩ t t ((xs.take t).map Value.string) (by rw [List.length_map, List.length_take]; have := LT.out; omega) (fun j u hj => by
                     rw [List.getElem?_map] at hj
                     obtain ⟨y, hy, rfl⟩ := Option.map_eq_some_iff.1 hj
                     have hjt := (List.getElem?_eq_some_iff.1 hy).1
                     rw [List.length_take] at hjt
                     rw [List.getElem?_take_of_lt (by omega)] at hy
                     rw [Addr.add_lit, Nat.zero_add]
                     exact blk_cell_below (w := w9) (w' := (w9.alloc (.cells #[.string s] 9)).drew) (below_alloc (Below.refl _ w9) _).drew (XC9.out j y hy)) ⟨w9.heap.size, 0, none⟩ 1 1 [.string s] rfl (cell_one_new w9 _ _) (Nat.lt_succ_self _) (by have := LEN.out; have := LT.out; unfold maxLen; omega) (by have := LEN.out; have := LT.out; omega)
              have hn_ : True := trivial
              obtain ⟨g10, cap10, rfl⟩ := ownsRow_succ hown10
              have HG10 : Aside0 (w9.heap.size ≤ g10) := ⟨by
                rcases hown10.2 with ⟨e, _⟩ | ⟨g', c', cur', e, h1, _⟩
                · cases e
                · simp only [Value.slice.injEq, Option.some.injEq, Addr.mk.injEq] at e
                  have := e.1.1
                  simp at h1
                  omega⟩
              have hb10 : Below w9.heap.size w9 w10 := (below_alloc (Below.refl _ w9) (.cells #[.string s] 9)).drew.grown hg10 (by simp) (fun k e => by cases e)
              obtain ⟨v11, w11, happ3, hown11, hg11, _⟩ := run_append_own (P := Try.prog) w10 w9.heap.size 22 22 9 i0 (.string ⟨#[]⟩) 1 16 Try.underlying22 hi hz0 hz1 hz2 rfl (by decide) _ (t + 1) _ (own_base hown10 (by simp)) ⟨g9, 0, none⟩ (0 + (xs.length - t)) cap9 ((xs.drop t).map Value.string) (by rw [List.length_map, List.length_drop]; omega) (fun j u hj => by
                     rw [List.getElem?_map] at hj
                     obtain ⟨y, hy, rfl⟩ := Option.map_eq_some_iff.1 hj
                     exact blk_cell_below hb10 (RC9.out j y hy)) (fun u hu => by obtain ⟨y, _, rfl⟩ := List.mem_map.1 hu; rfl) (by have := LEN.out; have := LT.out; unfold maxLen; omega) (by have := LEN.out; have := LT.out; omega) hb10.size
              go_region_law (first
                | (refine step_run rfl (.tmp 46) (.tmp 51) 22 rfl (by simp [Act.eval, Act.put]) (by simp [Act.eval, Act.put]) happ2 ?_)
                | (refine step_run rfl (.tmp 52) (.tmp 53) 22 rfl (by simp [Act.eval, Act.put]) (by simp [Act.eval, Act.put]) happ3 ?_))
              clear happ2 happ3 hn_
              go_wp2_with fail
              clear hii hii2
              go_roundw
              case rel =>
                refine ⟨i + 1, xs.take t ++ s :: xs.drop t, congrArg _ HZ.out, ⟨HLT.out, ?_, ins_rise HI.out.2.2.1 HNM.out HTT.out.1 HTT.out.2.1 HTT.out.2.2, ins_in HI.out.2.2.2.1 HSI.out, ?_, ?_⟩⟩
                · have h_ := own_base (base' := W.heap.size) hown11 (Nat.le_trans HI.out.2.2.2.2.1.size HW9.out.1.size)
                  have e1 : t + 1 + (0 + (xs.length - t)) = (xs.take t ++ s :: xs.drop t).length := by rw [List.length_append, List.length_cons, List.length_take, List.length_drop]; have := HTT.out.1; omega
                  have e2 : (xs.take t).map Value.string ++ [Value.string s] ++ (xs.drop t).map Value.string = (xs.take t ++ s :: xs.drop t).map Value.string := by rw [List.map_append, List.map_cons, List.append_assoc]; rfl
                  rw [e1, e2] at h_
                  exact h_
                · exact below_step HI.out.2.2.2.2.1 (below_step HW9.out.1 (hb10.grown hg11 hb10.size (fun k e => by cases e; exact HG10.out)))
                · rw [List.length_append, List.length_cons, List.length_take, List.length_drop]; have := HTT.out.1; have := HI.out.2.2.2.2.2; omega
              case measure => have h1_ := HLT.out; have h2_ := HZ.out; simp [intOf]; omega
            · have hcp := eq_false (show ¬ c3 - t = 0 by have := LT.out; have := HLC.out; omega)
              have hcp2 := eq_false (show ¬ c3 ≤ t by have := LT.out; have := HLC.out; omega)
              have hcp4 := eq_true (show 0 < c3 - t by have := LT.out; have := HLC.out; omega)
              have hce := eq_false (show ¬ c3 = t by omega)
              have hce2 := eq_false htcap
              clear htcap
              go_upto_region 10 with (first
                | (at_builtin; refine wpList_append_own _ rfl _ _ 22 rfl wr.heap.size 9 i0 (.string ⟨#[]⟩) 1 16 Try.underlying22 hi hz0 hz1 hz2 rfl (by decide) _ _ _ rfl OWN0.out ⟨g, t, none⟩ (xs.length - t) (c3 - t) ((xs.drop t).map Value.string) rfl (by rw [List.length_map, List.length_drop]; omega) (fun j u hj => by
                     rw [List.getElem?_map, List.getElem?_drop] at hj
                     obtain ⟨y, hy, rfl⟩ := Option.map_eq_some_iff.1 hj
                     rw [Addr.add_lit]
                     exact (blk_cell_below BX.out (HXC.out _ _ hy))) (fun u hu => by obtain ⟨y, _, rfl⟩ := List.mem_map.1 hu; rfl) (by have := LEN.out; unfold maxLen; omega) (by have := LEN.out; omega) (by simp) ?_; intro v9 w9 hown9 hg9 hnil9))
              obtain ⟨g9, cap9, cur9, rfl, hb9⟩ : ∃ g9 cap9 cur9, v9 = .slice (some ⟨g9, 0, none⟩) (0 + (xs.length - t)) cap9 ∧ wr.heap.size ≤ g9 ∧ w9.heap[g9]? = some (.cells cur9 9 (0, 0)) := by
                rcases hown9.2 with ⟨e9, _⟩ | ⟨g9, cap9, cur9, e9, h1, h2, _⟩
                · exact absurd (hnil9.1 e9).1 (by intro h; cases h)
                · exact ⟨g9, cap9, cur9, e9, h1, h2⟩
              have hbw9 : Below wr.heap.size wr w9 := BX.out.grown hg9 BX.out.size (fun k e => by cases e; exact Nat.le_refl _)
              have HX9 := HS.out w9 (below_step HI.out.2.2.2.2.1 hbw9)
              have XC9 := Aside0.mk (fun j y (hj : xs[j]? = some y) => blk_cell_below hbw9 (HXC.out j y hj))
              have RC9 := Aside0.mk (fun j y (hj : (xs.drop t)[j]? = some y) => (World.ownsRow.cells hown9 (g := g9) rfl j (.string y) (by rw [List.nil_append, List.getElem?_map, hj]; rfl)))
              have HW9 := Aside0.mk (And.intro hbw9 hb9)
              clear hown9 hg9 hnil9 hbw9 hb9 hx0
              obtain ⟨v10, w10, happ2, hown10, hg10⟩ := run_append_arg_grows (P := Try.prog) (w9.alloc (.cells #[.string s] 9)).drew 22 22 9 i0 (.string ⟨#[]⟩) 1 16 Try.underlying22 hi hz0 hz1 hz2 rfl (by decide) ⟨g, 0, none⟩ t t ((xs.take t).map Value.string) (by rw [List.length_map, List.length_take]; have := LT.out; omega) (fun j u hj => by
                     rw [List.getElem?_map] at hj
                     obtain ⟨y, hy, rfl⟩ := Option.map_eq_some_iff.1 hj
                     have hjt := (List.getElem?_eq_some_iff.1 hy).1
                     rw [List.length_take] at hjt
                     rw [List.getElem?_take_of_lt (by omega)] at hy
                     rw [Addr.add_lit, Nat.zero_add]
                     exact blk_cell_below (w := w9) (w' := (w9.alloc (.cells #[.string s] 9)).drew) (below_alloc (Below.refl _ w9) _).drew (XC9.out j y hy)) ⟨w9.heap.size, 0, none⟩ 1 1 [.string s] rfl (cell_one_new w9 _ _) (Nat.lt_succ_self _) (by have := LEN.out; have := LT.out; unfold maxLen; omega) (by have := LEN.out; have := LT.out; omega)
              have hn_ : True := trivial
              obtain ⟨g10, cap10, rfl⟩ := ownsRow_succ hown10
              have HG10 : Aside0 (w9.heap.size ≤ g10) := ⟨by
                rcases hown10.2 with ⟨e, _⟩ | ⟨g', c', cur', e, h1, _⟩
                · cases e
                · simp only [Value.slice.injEq, Option.some.injEq, Addr.mk.injEq] at e
                  have := e.1.1
                  simp at h1
                  omega⟩
              have hb10 : Below w9.heap.size w9 w10 := (below_alloc (Below.refl _ w9) (.cells #[.string s] 9)).drew.grown hg10 (by simp) (fun k e => by cases e)
              obtain ⟨v11, w11, happ3, hown11, hg11, _⟩ := run_append_own (P := Try.prog) w10 w9.heap.size 22 22 9 i0 (.string ⟨#[]⟩) 1 16 Try.underlying22 hi hz0 hz1 hz2 rfl (by decide) _ (t + 1) _ (own_base hown10 (by simp)) ⟨g9, 0, none⟩ (0 + (xs.length - t)) cap9 ((xs.drop t).map Value.string) (by rw [List.length_map, List.length_drop]; omega) (fun j u hj => by
                     rw [List.getElem?_map] at hj
                     obtain ⟨y, hy, rfl⟩ := Option.map_eq_some_iff.1 hj
                     exact blk_cell_below hb10 (RC9.out j y hy)) (fun u hu => by obtain ⟨y, _, rfl⟩ := List.mem_map.1 hu; rfl) (by have := LEN.out; have := LT.out; unfold maxLen; omega) (by have := LEN.out; have := LT.out; omega) hb10.size
              go_region_law (first
                | (refine step_run rfl (.tmp 46) (.tmp 51) 22 rfl (by simp [Act.eval, Act.put]) (by simp [Act.eval, Act.put]) happ2 ?_)
                | (refine step_run rfl (.tmp 52) (.tmp 53) 22 rfl (by simp [Act.eval, Act.put]) (by simp [Act.eval, Act.put]) happ3 ?_))
              clear happ2 happ3 hn_
              go_wp2_with fail
              clear hii hii2
              go_roundw
              case rel =>
                refine ⟨i + 1, xs.take t ++ s :: xs.drop t, congrArg _ HZ.out, ⟨HLT.out, ?_, ins_rise HI.out.2.2.1 HNM.out HTT.out.1 HTT.out.2.1 HTT.out.2.2, ins_in HI.out.2.2.2.1 HSI.out, ?_, ?_⟩⟩
                · have h_ := own_base (base' := W.heap.size) hown11 (Nat.le_trans HI.out.2.2.2.2.1.size HW9.out.1.size)
                  have e1 : t + 1 + (0 + (xs.length - t)) = (xs.take t ++ s :: xs.drop t).length := by rw [List.length_append, List.length_cons, List.length_take, List.length_drop]; have := HTT.out.1; omega
                  have e2 : (xs.take t).map Value.string ++ [Value.string s] ++ (xs.drop t).map Value.string = (xs.take t ++ s :: xs.drop t).map Value.string := by rw [List.map_append, List.map_cons, List.append_assoc]; rfl
                  rw [e1, e2] at h_
                  exact h_
                · exact below_step HI.out.2.2.2.2.1 (below_step HW9.out.1 (hb10.grown hg11 hb10.size (fun k e => by cases e; exact HG10.out)))
                · rw [List.length_append, List.length_cons, List.length_take, List.length_drop]; have := HTT.out.1; have := HI.out.2.2.2.2.2; omega
              case measure => have h1_ := HLT.out; have h2_ := HZ.out; simp [intOf]; omega
        case first =>
        go_wp2_with fail
        go_loopw [5] (fun v5 w2 => ∃ (t : Nat) (q2 : Nat), v5 = .int .i64 (t : Int) ∧ w2 = wr.drewN q2 ∧ Aside0 (t ≤ xs.length ∧ ∀ j, t ≤ j → j < xs.length → strOf s < strOf (xs.getD j ByteArray.empty))) (fun v5 _ => (intOf v5).toNat)
        case atStart => exact ⟨xs.length, q, rfl, rfl, ⟨Nat.le_refl _, fun j h1 h2 => by omega⟩⟩
        case round =>
          obtain ⟨t, q2, rfl, rfl, HTT⟩ := hrel
          have hx0 := HS.out wr HI.out.2.2.2.2.1
          by_cases ht0 : 0 < t
          · have ht1 := eq_true ht0
            have ht2 := eq_true (show (0 : Int) < (t : Int) by omega)
            obtain ⟨ad3, rfl, hx3⟩ := at_S HC.out (t - 1) (by have := HTT.out.1; omega)
            obtain ⟨y, hy⟩ : ∃ y, y = xs.getD (t - 1) ByteArray.empty := ⟨_, rfl⟩
            rw [← hy] at hx3
            have htw : wrap64 ((t : Int) - 1) = ((t - 1 : Nat) : Int) := by have := HTT.out.1; have := HXL.out; rw [w64s (by omega) (by omega)]; omega
            obtain ⟨t1, hte⟩ : ∃ t1 : Nat, t1 = t - 1 := ⟨_, rfl⟩
            rw [← hte] at hx3 htw
            have htw2 : IntKind.i64.wrap ((t : Int) - 1) = (t1 : Int) := (i64_w _).trans htw
            have hti0 := eq_true (show (0 : Int) ≤ (t1 : Int) by omega)
            have hti := eq_true (show (t1 : Int) < (xs.length : Int) by have := HTT.out.1; omega)
            have hti2 := eq_true (show t1 < xs.length by have := HTT.out.1; omega)
            have HT1 := Aside0.mk (And.intro hte (And.intro hy ht0))
            clear hy hte ht0
            by_cases hls : strOf s < strOf y
            · have hcmp := (cmp_gt y s).trans (decide_eq_true hls)
              have hcm1 : Op.bytesLess y.toList s.toList = false := by cases h : Op.bytesLess y.toList s.toList with | false => rfl | true => rw [h] at hcmp; simp at hcmp
              have hcm2 : (y.toList == s.toList) = false := by cases h : (y.toList == s.toList) with | false => rfl | true => rw [h] at hcmp; simp at hcmp
              go_upto_region 7 with (fail)
              go_quiet (fail)
              clear hcmp hcm1 hcm2
              go_wp2_with fail
              go_roundw
              case rel =>
                refine ⟨t1, q2 + nq, rfl, by first | rfl | exact drewN_add' wr q2 nq, ⟨by have := HT1.out.1; have := HTT.out.1; omega, fun j h1 h2 => ?_⟩⟩
                by_cases hj : t ≤ j
                · exact HTT.out.2 j hj h2
                · obtain rfl : j = t - 1 := by have := HT1.out.1; omega
                  rw [← HT1.out.2.1]; exact hls
              case measure => have h1_ := HT1.out; simp [intOf]; omega
            · have hcmp := (cmp_gt y s).trans (decide_eq_false hls)
              have hcm3 : (Op.bytesLess y.toList s.toList || y.toList == s.toList) = true := by cases h : (Op.bytesLess y.toList s.toList || y.toList == s.toList) with | true => rfl | false => rw [h] at hcmp; cases hcmp
              go_upto_region 7 with (fail)
              go_quiet (fail)
              clear hcmp hcm3
              go_wp2_with fail
              go_meet
              case rel => exact ⟨t, q2 + nq, rfl, by first | rfl | exact drewN_add' wr q2 nq, ⟨HTT.out.1, HTT.out.2, .inr (by rw [← HT1.out.2.1]; exact hls)⟩⟩
          · have ht1 := eq_false ht0
            have ht2 := eq_false (show ¬ (0 : Int) < (t : Int) by omega)
            obtain rfl : t = 0 := by omega
            go_upto_region 7 with (fail)
            go_quiet (fail)
            go_wp2_with fail
            go_meet
            case rel => exact ⟨0, q2 + nq, rfl, by first | rfl | exact drewN_add' wr q2 nq, ⟨Nat.zero_le _, HTT.out.2, .inl rfl⟩⟩
      · have hd3 : decide (0 ≤ F) = true := by rw [hF]; exact decide_eq_true hpos
        have HPO := Aside0.mk (show s ∈ xs by
          refine Classical.byContradiction fun hm => ?_
          have : strOf s ∉ xs.map strOf := fun h => by obtain ⟨y, hy, e⟩ := List.mem_map.1 h; exact hm (strOf_inj e ▸ hy)
          have := find_neg.2 this
          omega)
        clear hF hpos
        go_wp2_with (first
          | (go_at_call 15; (with_reducible refine (rfind_calls HC.out HXL.out s).mono ?_); rintro e w_ ⟨rfl, ⟨q, rfl⟩⟩; rw [← HF.out]))
        clear hii hii2
        go_roundw
        case rel =>
          refine ⟨i + 1, xs, congrArg _ HZ.out, ⟨HLT.out, HI.out.2.1.drawn q, HI.out.2.2.1, fun t => ?_, pw_below_drewN HI.out.2.2.2.2.1 q, Nat.le_trans HI.out.2.2.2.2.2 (Nat.le_succ _)⟩⟩
          rw [HI.out.2.2.2.1 t, List.take_add_one, HSI.out, List.mem_append]
          constructor
          · exact .inl
          · rintro (h | h)
            · exact h
            · simp at h; subst h; exact (HI.out.2.2.2.1 t).1 HPO.out
        case measure => have h1_ := HLT.out; have h2_ := HZ.out; simp [intOf]; omega
    · have hd1 : decide ((i : Int) < (n : Int)) = false := by simp; omega
      have hq1 := eq_false hlt
      have htk : ws.take i = ws := List.take_of_length_le (by have := HL.out; omega)
      have hHI := HI.out
      rw [htk] at hHI
      have HE := Aside0.mk hHI
      clear hHI htk hlt HI
      go_wp2
      exact bodyPost_ret (v := u3) (by simp [results, Try.f20, go_sem]) rfl ⟨_, _, rfl, HE.out.2.1, HE.out.2.2.1, HE.out.2.2.2.1, HE.out.2.2.2.2.1, Nat.le_trans HE.out.2.2.2.2.2 HE.out.1⟩
end Go.Proofs.Ytgdipibmaaehcaa.Tr
