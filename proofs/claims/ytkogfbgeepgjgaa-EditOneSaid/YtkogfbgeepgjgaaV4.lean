import Derived.Test.YtkogfbgeepgjgaaV3
namespace Go.Proofs.Ytkogfbgeepgjgaa
open Go.RowKit Go.Proofs.YtkogfbgeepgjgaaW.PrintWords Go.Proofs.YtkogfbgeepgjgaaW.PrintLast Go.Proofs.YtkogfbgeepgjgaaW.PrintMore
open V (L L_cons L_nil_left L_nil_right)

/-- As Option.bind_some, but no law that holds by sight: else the kernel compares what the two sides bind. -/
theorem bs_ {α β : Type} (a : α) (f : α → Option β) : (some a).bind f = f a := by
  have h : ∀ o : Option α, o = some a → o.bind f = f a := fun o ho => by cases ho; rfl
  exact h _ rfl
theorem short_eq (s : ByteArray) : ∃ t, PBase.drachmlaw16_short.f s = some t ∧ t.size ≤ 24 := by
  unfold PBase.drachmlaw16_short.f
  by_cases h : (s.size : Int) > 24
  · rw [if_pos h, if_pos (by omega), if_pos (by omega)]
    exact ⟨_, rfl, by simp [ByteArray.size_extract]; omega⟩
  · rw [if_neg h]
    exact ⟨s, rfl, by omega⟩
theorem awake_true : ((edit_Distance.f (⟨#[109, 109, 111, 108]⟩ : ByteArray) (⟨#[109, 111, 108, 47, 108]⟩ : ByteArray)).bind fun t => (some (t == 3))) = some true := by
  have h : edit_Distance.f (⟨#[109, 109, 111, 108]⟩ : ByteArray) (⟨#[109, 111, 108, 47, 108]⟩ : ByteArray) = some 3 := by
    unfold edit_Distance.f
    rw [if_pos (by decide), if_pos (by decide), dist_eq _ _ (by decide) (by decide)]
    have : dL (⟨#[109, 109, 111, 108]⟩ : ByteArray) (⟨#[109, 111, 108, 47, 108]⟩ : ByteArray) = 3 := by
      show L [109, 109, 111, 108] [109, 111, 108, 47, 108] = 3
      simp [L]
    rw [this]
    rfl
  rw [h]
  rfl
theorem same_ev (l : List Int) (hl : l.length ≤ 1000000) : Ev (fun k => PBase.drachmref16_Same.f k l l) true := by
  have key : ∀ (d i : Nat), i + d = l.length → Ev (fun k => PBase.drachmref16_Same.l0 k l l i) true := by
    intro d
    induction d with
    | zero =>
      intro i hi
      refine Ev.step (f := fun _ => some true) (fun k => ?_) (Ev.now _)
      simp only [PBase.drachmref16_Same.l0]
      rw [if_neg (by omega)]
    | succ d ih =>
      intro i hi
      refine Ev.step (fun k => ?_) (ih (i + 1) (by omega))
      simp only [PBase.drachmref16_Same.l0]
      rw [if_pos (by omega), if_pos (by omega), if_pos (by omega), if_pos trivial, wsucc (by omega)]
  refine Ev.congr (fun k => ?_) (key l.length 0 (by omega))
  unfold PBase.drachmref16_Same.f
  rw [if_pos rfl]
  rfl
theorem least_ev (l : List Int) (h0 : 0 < l.length) (hn : l.length ≤ 1000000) : Ev (fun k => PBase.edit_Least.f k l) (minL l) :=
  Ev.of (fun k => PBase.edit_Least.mono l k) (least_eq l h0 hn)
theorem start_ev (s : ByteArray) (h : s.size ≤ 999999) : Ev (fun k => PBase.edit_Start.f k s) (iota (s.size + 1)) := Ev.of (fun k => PBase.edit_Start.mono s k) (start_eq s h)
theorem refNext_ev (s : ByteArray) (l : List Int) (c : Int) (hl : l.length = s.size + 1) (hs : s.size ≤ 1000000) : Ev (fun k => PBase.drachmref16_Next.f k s l c) (eRow s l c (s.size + 1)) :=
  Ev.of (fun k => PBase.drachmref16_Next.mono s l c k) (refNext_eq s l c hl hs)
theorem bytesOf_extract (s : ByteArray) (i : Nat) (h : i ≤ s.size) : bytesOf (s.extract 0 i) = (bytesOf s).take i := by
  refine ext_rd (by rw [bytesOf_length, List.length_take, bytesOf_length, ByteArray.size_extract]; omega) (fun j hj => ?_)
  rw [bytesOf_length, ByteArray.size_extract] at hj
  have h1 : j < (bytesOf s).length := by rw [bytesOf_length]; omega
  rw [rd_nat ((bytesOf s).take i) j (by rw [List.length_take]; omega), List.getElem_take, ← rd_nat _ _ h1, rd_bytesOf, rd_bytesOf]
  unfold bt
  rw [Int.toNat_natCast, dif_pos (by rw [ByteArray.size_extract]; omega), dif_pos (by omega), ByteArray.getElem_extract]
  simp
theorem row_ev (w s : ByteArray) (hw : w.size ≤ 1000) (hs : s.size ≤ 1000) : Ev (fun k => PBase.drachmref16_Row.f k w s) (rowL (bytesOf w) (bytesOf s).reverse) := by
  have hlen := bytesOf_length w
  have key : ∀ (d i : Nat) (xs : List Int), i + d = w.size + 1 → xs = (rowL (bytesOf w) (bytesOf s).reverse).take i → Ev (fun k => PBase.drachmref16_Row.l0 k w s xs i) (rowL (bytesOf w) (bytesOf s).reverse) := by
    intro d
    induction d with
    | zero =>
      intro i xs hi hx
      refine Ev.step (f := fun _ => some (rowL (bytesOf w) (bytesOf s).reverse)) (fun k => ?_) (Ev.now _)
      simp only [PBase.drachmref16_Row.l0]
      rw [if_neg (by omega), hx, List.take_of_length_le (by rw [rowL_length, hlen]; omega)]
    | succ d ih =>
      intro i xs hi hx
      have hxl : xs.length = i := by rw [hx, List.length_take, rowL_length, hlen]; omega
      have hd := refDist_ev (w.extract 0 i) s (by rw [ByteArray.size_extract]; omega) hs
      have e : dL (w.extract 0 i) s = L ((bytesOf w).take i).reverse (bytesOf s).reverse := by
        unfold dL; rw [bytesOf_extract w i (by omega), V.L_rev]
      rw [e] at hd
      refine Ev.step (f := fun k => (PBase.drachmref16_Distance.f k (w.extract 0 i) s).bind fun t => PBase.drachmref16_Row.l0 k w s (xs ++ [t]) ((i + 1 : Nat) : Int)) (fun k => ?_) (hd.bind (ih (i + 1) _ (by omega) ?_))
      · simp only [PBase.drachmref16_Row.l0]
        rw [if_pos (by omega), if_pos (by omega), Int.toNat_natCast, wsucc (by omega)]
        congr 1
        funext t
        rw [if_pos (by omega)]
      · rw [hx, List.take_succ_eq_append_getElem (by rw [rowL_length, hlen]; omega)]
        congr 2
        rw [← rd_nat _ _ (by rw [rowL_length, hlen]; omega), rd_rowL _ _ _ (by omega)]
  refine Ev.congr (fun k => ?_) (key (w.size + 1) 0 [] (by omega) (by simp))
  unfold PBase.drachmref16_Row.f
  rfl
theorem edit_Distance_f (a b : ByteArray) (ha : a.size ≤ 1000) (hb : b.size ≤ 1000) : edit_Distance.f a b = some (dL a b : Int) := by
  unfold edit_Distance.f
  rw [if_pos (by omega), if_pos (by omega), dist_eq a b (by omega) (by omega)]
theorem edit_Next_f (s : ByteArray) (l : List Int) (c : Int) (hl : l.length = s.size + 1) (hs : s.size ≤ 1000) : edit_Next.f s l c = some (eRow s l c (s.size + 1)) := by
  unfold edit_Next.f
  rw [w64 (by omega) (by omega), if_pos (by omega), if_pos (by omega), rowNext_eq s l c hl]
theorem edit_Next_rowL (s : ByteArray) (q : List Int) (c : Int) (hs : s.size ≤ 1000) (hq : q.length ≤ 1000) : edit_Next.f s (rowL (bytesOf s) q) c = some (rowL (bytesOf s) (c :: q)) := by
  have hlen := bytesOf_length s
  unfold edit_Next.f
  rw [w64 (by omega) (by omega), rowL_length, hlen, if_pos (by omega), if_pos (by omega), rowNext_rowL s q c (by omega) (by omega)]
end Go.Proofs.Ytkogfbgeepgjgaa
