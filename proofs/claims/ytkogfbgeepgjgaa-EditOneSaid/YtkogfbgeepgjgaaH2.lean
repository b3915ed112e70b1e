import Derived.Test.YtkogfbgeepgjgaaH1
import Derived.Test.YtkogfbgeepgjgaaPBasex
namespace Go.Proofs.Ytkogfbgeepgjgaa
open Go.RowKit Go.Proofs.YtkogfbgeepgjgaaW.PrintWords Go.Proofs.YtkogfbgeepgjgaaW.PrintLast Go.Proofs.YtkogfbgeepgjgaaW.PrintMore

def edit_least.f := PBase.edit_least.f
theorem C_ints {w : World} {g e : Nat} {fr : Nat × Nat} {k : IntKind} {l : List Int} (h : w.heap[g]? = some (.cells (nums k l).toArray e fr)) (hm : l.length ≤ 9223372036854775807) : Kd.C (Kd.int k) w (some ⟨g, 0, none⟩) l.length l := by
  refine Kd.C_of_reads (d := (0 : Int)) ⟨rfl, by simpa [maxLen] using hm, fun _ => ⟨_, rfl, fun j hj => ?_⟩⟩
  rw [add_plain, cell_of_row w g j _ e fr h]
  simp [nums, hj]
theorem least3 (a x y : Int) : PBase.edit_least.f 3 a [x, y] = some (mn (mn a x) y) := by
  simp [PBase.edit_least.f, PBase.edit_least.l0, rd, wrap64]
def nstep (s : ByteArray) (l : List Int) (c : Int) (o : List Int) (i : Int) : Int := mn (mn (chg s l c i) (wrap64 (rd l (i + 1) + 1))) (wrap64 (rd o i + 1))
def nloop (s : ByteArray) (l : List Int) (c : Int) : Nat → List Int → Int → List Int
  | 0, o, _ => o
  | k + 1, o, i => nloop s l c k (o.set (i + 1).toNat (nstep s l c o i)) (i + 1)


theorem cell_al {w : World} {a : Addr} {v : Value} (h : w.cell? a = some v) (n : Nat) (o : Obj) : ((w.drewN n).alloc o).cell? a = some v := pw_cell_below (below_alloc (pw_below_drewN (Below.refl _ _) n) o) h
theorem frz_al {w w2 : World} {a : Addr} {n : Nat} {cs : Array Value} {t : TypeId} (hlt : a.block < w.heap.size) (h : w.frozen? a = false)
    (hb : Below ((w.drewN n).alloc (.cells cs t)).heap.size ((w.drewN n).alloc (.cells cs t)) w2) : w2.frozen? a = false := by
  rw [hb.frozen (p := a) (by simp; omega), Go.RowKit.frozen?_alloc_cells]
  exact h
theorem info3 : (Try.prog.info? 3).map (fun i => (i.zero, i.size, i.bytes)) = some (some (.int .i64 0), 1, 8) := by kernel_rfl
theorem boxes3 {w w5 : World} {o1 o2 o3 : Obj} (hb : Below (((w.alloc o1).alloc o2).alloc o3).heap.size (((w.alloc o1).alloc o2).alloc o3) w5) :
    w5.heap[w.heap.size]? = some o1 ∧ w5.heap[w.heap.size + 1]? = some o2 ∧ w5.heap[w.heap.size + 1 + 1]? = some o3 ∧ Below w.heap.size w w5 ∧ w.heap.size + 1 + 1 < w5.heap.size := by
  have h1 : (((w.alloc o1).alloc o2).alloc o3).heap[w.heap.size]? = some o1 := blk_alloc (blk_alloc (blk_new w o1) o2) o3
  have h2 : (((w.alloc o1).alloc o2).alloc o3).heap[w.heap.size + 1]? = some o2 := by
    have := blk_alloc (blk_new (w.alloc o1) o2) o3
    simpa using this
  have h3 : (((w.alloc o1).alloc o2).alloc o3).heap[w.heap.size + 1 + 1]? = some o3 := by
    have := blk_new ((w.alloc o1).alloc o2) o3
    simpa using this
  have hsz := hb.size
  refine ⟨blk_below h1 hb, blk_below h2 hb, blk_below h3 hb, below_step (below_alloc (below_alloc (below_alloc (Below.refl _ _) o1) o2) o3) hb, ?_⟩
  simp at hsz
  omega


structure NInv (s : ByteArray) (ad : Addr) (cap : Nat) (l : List Int) (c : Int) (w : World) (go co : Nat) (R : List Int) (k : Nat) (xs : List Int) (wr : World) : Prop where
  hk : k ≤ s.size
  hR : nloop s l c (s.size - k) xs k = R
  hlen : xs.length = l.length
  k3 : wr.heap[w.heap.size]? = some (.cells #[.string s] 9 (0, 0))
  k4 : wr.heap[w.heap.size + 1]? = some (.cells #[.slice (some ad) l.length cap] 22 (0, 0))
  k5 : wr.heap[w.heap.size + 1 + 1]? = some (.cells #[.int .u8 c] 5 (0, 0))
  hO : Kd.R (Kd.int .i64) 3 wr w.heap.size (fun _ => True) (.slice (some ⟨go, 0, none⟩) l.length co) xs
  hB : Below w.heap.size w wr

theorem NInv.next {s : ByteArray} {ad : Addr} {cap : Nat} {l : List Int} {c : Int} {w : World} {go co : Nat} {R : List Int} {k : Nat} {xs : List Int} {wr w2 : World} (hi : NInv s ad cap l c w go co R k xs wr) (hlt : k < s.size)
    (hgo : w.heap.size + 1 + 1 < go) (hb : Below wr.heap.size wr w2) :
    NInv s ad cap l c w go co R (k + 1) (xs.set (k + 1) (nstep s l c xs k)) (w2.setCell ⟨go, k + 1, none⟩ (.int .i64 (mn (mn (chg s l c k) (IntKind.i64.wrap (rd l ((k : Int) + 1) + 1))) (IntKind.i64.wrap (rdOf 0 xs k + 1))))) := by
  have e : mn (mn (chg s l c k) (IntKind.i64.wrap (rd l ((k : Int) + 1) + 1))) (IntKind.i64.wrap (rdOf 0 xs k + 1)) = nstep s l c xs k := by
    unfold nstep
    rw [IntWalk.i64_left, IntWalk.i64_left]
    rfl
  rw [e]
  refine ⟨hlt, ?_, by rw [List.length_set]; exact hi.hlen, blk_far (blk_below hi.k3 hb) (by simp; omega) _, blk_far (blk_below hi.k4 hb) (by simp; omega) _, blk_far (blk_below hi.k5 hb) (by simp; omega) _, ?_, below_set (below_step hi.hB hb) (by omega)⟩
  · rw [← hi.hR]
    obtain ⟨d, hd⟩ : ∃ d, s.size - k = d + 1 := ⟨s.size - k - 1, by omega⟩
    rw [hd, show s.size - (k + 1) = d from by omega]
    rfl
  · have h := (Kd.R_putg (Kd.R_below hi.hO hb) ((k : Int) + 1) (nstep s l c xs k)).1
    rw [show ((k : Int) + 1).toNat = k + 1 from by omega] at h
    exact h

set_option maxHeartbeats 2000000 in
theorem next_calls (s : ByteArray) (A : Option Addr) (cap : Nat) (l : List Int) (c : Int) (w : World) (hr : Kd.C (Kd.int .i64) w A l.length l) 
    (hl : l.length = s.size + 1) (hs : s.size ≤ 1000000) :
    Calls Try.prog 12 #[.string s, .slice A l.length cap, .int .u8 c] w fun e w' => ∃ v, e = .returned v ∧
      Kd.R (Kd.int .i64) 3 w' w.heap.size (fun _ => True) v (nloop s l c s.size ((List.replicate l.length 0).set 0 (wrap64 (rd l 0 + 1))) 0) ∧ Below w.heap.size w w' := by
  have HR := Aside0.mk hr
  have HL := Aside0.mk hl
  have hl1 : ((l.length : Int) != (s.size : Int) + 1) = false := by simp; omega
  have hl2 : (l.length : Int) ≤ 1000001 := by omega
  have hl3 : 0 < (l.length : Int) := by omega
  obtain ⟨ad, rfl, hx0⟩ := Kd.at_int hr 0 (by omega) hl3
  have hb3 : 0 ≤ (l.length : Int) := by omega
  clear hl hr
  obtain ⟨R, hRR⟩ : ∃ R, R = nloop s l c s.size ((List.replicate l.length 0).set 0 (wrap64 (rd l 0 + 1))) 0 := ⟨_, rfl⟩
  rw [← hRR]
  have HRR := Aside0.mk hRR
  clear hRR
  have hx0' := Aside0.mk hx0
  have hx00 := Aside0.mk hx0
  clear hx0
  go_enter Try.func12, Try.ntmps12
  go_wp2_with (first | ((with_reducible refine gate_dst (N := 19) rfl ?_); refine Kd.R_make (Kd.int .i64) _ 3 rfl (N := 19) rfl 22 _ _ rfl (l.length : Int) rfl rfl Try.underlying22 (.int .i64 0) 8 info3 rfl (by decide) (by omega) 0 (ok := fun _ => True) (okp := fun _ => True) rfl (fun _ hk => hk) trivial (by omega) (by omega) (Below.refl _ _) (Nat.le_refl _) ?_; intro v8 w5 ho6 hb hg_ hnew_; clear hg_ hnew_; rw [Int.toNat_natCast] at ho6; obtain ⟨k3, k4, k5, HB5, hsz⟩ := boxes3 hb; obtain ⟨go, co, ev, hgo, glt, cl, HG⟩ := Kd.R_form ho6 (by simp; omega); subst ev; replace ho6 := Kd.R_lower (base' := w.heap.size) ho6 (by simp; omega); have hgo3 : w.heap.size + 1 + 1 < go := (by simp at hgo; omega); clear hgo; have hx5 := (HB5.cell (World.block_lt_of_cell? w _ hx0'.out)).trans hx0'.out; have c4 := blk_cell k4 0; have c3 := blk_cell k3 0; simp only [List.getElem?_toArray, List.getElem?_cons_zero] at c3 c4; simp only [Int.toNat_zero, Addr.add_zero'] at hx5; obtain ⟨hxo, hfo⟩ := Kd.R_celln 0 ho6 0 (by omega) (by simp; omega); have HP := Kd.R_putg ho6 0 (wrap64 (rd l 0 + 1)); have HO := Aside0.mk HP.1; have HG2 := Aside0.mk HP.2; have K3 := Aside0.mk k3; have K4 := Aside0.mk k4; have K5 := Aside0.mk k5; have HB := Aside0.mk HB5; simp only [Int.toNat_zero] at hxo hfo; clear hb HB5 k3 k4 k5 HP ho6 HG))
  go_loopw [28] (fun v28 wr => ∃ (k : Nat) (xs : List Int), v28 = .int .i64 k ∧ NInv s ad cap l c w go co R k xs wr) (fun v28 _ => s.size - (intOf v28).toNat)
  case atStart =>
    refine ⟨0, _, rfl, by omega, by rw [HRR.out]; rfl, by simp, ?_, ?_, ?_, ?_, ?_⟩
    · exact blk_far K3.out (by simp; omega) _
    · exact blk_far K4.out (by simp; omega) _
    · exact blk_far K5.out (by simp; omega) _
    · have h := HO.out
      rw [List.length_replicate] at h
      exact h
    · exact below_set HB.out (by omega)
  case round =>
    clear c3 c4 hx5 hxo hfo HO HG2 K3 K4 K5 HB hx0' HRR hsz glt cl
    obtain ⟨k, xs, rfl, hi⟩ := hrel
    have HI := Aside0.mk hi
    have hk := hi.hk
    by_cases hlt : k < s.size
    · have hL := HL.out
      obtain ⟨_, ea, hxk⟩ := Kd.at_int (Kd.C_below HR.out hi.hB) ((k : Int) + 1) (by omega) (by omega)
      cases ea
      rw [show ((k : Int) + 1).toNat = k + 1 from by omega] at hxk
      obtain ⟨hxo, hfo⟩ := Kd.R_celln 0 hi.hO (k : Int) (by omega) (by omega)
      obtain ⟨hyo, hgo⟩ := Kd.R_celln 0 hi.hO ((k : Int) + 1) (by omega) (by omega)
      rw [show ((k : Int) + 1).toNat = k + 1 from by omega] at hyo hgo
      rw [Int.toNat_natCast] at hxo hfo
      have c3 := blk_cell hi.k3 0
      have c4 := blk_cell hi.k4 0
      have c5 := blk_cell hi.k5 0
      simp only [List.getElem?_toArray, List.getElem?_cons_zero] at c3 c4 c5
      obtain ⟨_, ea, hxi⟩ := Kd.at_int (Kd.C_below HR.out hi.hB) (k : Int) (by omega) (by omega)
      cases ea
      rw [Int.toNat_natCast] at hxi
      have hadg : ad.block ≠ go := by have := World.block_lt_of_cell? w _ hx00.out; simp [add_block] at this; omega
      have ea1 : ad.add (k + 1) = ⟨ad.block, ad.off + (k + 1), none⟩ := by simp [Addr.add]
      rw [ea1] at hxk
      have hne2 : (ad.add k).block ≠ go := by rw [add_block]; exact hadg
      clear hL hi ea1
      have hb1 : (k : Int) + 1 < l.length := by have := HL.out; omega
      go_upto_block 1 with fail
      go_cut [] (fun wx => NInv s ad cap l c w go co R (k + 1) (xs.set (k + 1) (nstep s l c xs k)) wx)
      case first =>
        go_wp2_with fail
        have n1 : (⟨go, k + 1, none⟩ : Addr) ≠ ⟨w.heap.size, 0, none⟩ := fun e => by cases e
        have n2 : (⟨go, k + 1, none⟩ : Addr) ≠ ⟨w.heap.size + 1, 0, none⟩ := fun e => by cases e
        have n3 : (⟨go, k + 1, none⟩ : Addr) ≠ ⟨w.heap.size + 1 + 1, 0, none⟩ := fun e => by cases e
        have n4 : (⟨go, k + 1, none⟩ : Addr) ≠ ad.add k := fun e => hne2 (by rw [← e])
        have n5 : (⟨go, k + 1, none⟩ : Addr) ≠ ⟨ad.block, ad.off + (k + 1), none⟩ := fun e => hadg (by injection e with e; exact e.symm)
        have n6 : (⟨go, k + 1, none⟩ : Addr) ≠ ⟨go, k, none⟩ := fun e => by injection e with _ e; omega
        have e1 : IntKind.i64.wrap ((k : Int) + 1) = (k : Int) + 1 := IntWalk.i64_in _ (by omega)
        have e2 : (0 : Int) ≤ (k : Int) + 1 := by omega
        have e3 : ((k : Int) + 1).toNat = k + 1 := by omega
        have e4 : (0 : Int) ≤ (k : Int) := by omega
        have e5 : (k : Int) < l.length := by omega
        go_region_held3 (fun w' => w'.cell? ⟨w.heap.size, 0, none⟩ = some (.string s) ∧ w'.cell? ⟨w.heap.size + 1, 0, none⟩ = some (.slice (some ad) l.length cap) ∧ w'.cell? ⟨w.heap.size + 1 + 1, 0, none⟩ = some (.int .u8 c)
            ∧ w'.cell? (ad.add k) = some (.int .i64 (rd l k)) ∧ w'.cell? ⟨ad.block, ad.off + (k + 1), none⟩ = some (.int .i64 (rd l (k + 1))) ∧ w'.cell? ⟨go, k, none⟩ = some (.int .i64 (rdOf 0 xs k)))
          (first | go_keep | (exact ⟨(World.cell?_setCell_other _ _ _ _ n1).trans q1, (World.cell?_setCell_other _ _ _ _ n2).trans q2, (World.cell?_setCell_other _ _ _ _ n3).trans q3, (World.cell?_setCell_other _ _ _ _ n4).trans q4, (World.cell?_setCell_other _ _ _ _ n5).trans q5, (World.cell?_setCell_other _ _ _ _ n6).trans q6⟩))
          (first | (go_at_call 20; refine (next1_calls s c k ad l.length cap l w.heap.size (w.heap.size + 1) (w.heap.size + 1 + 1) _ ?_ ?_ ?_ ?_ ?_ ?_ ?_).mono ?_; (simp [*]); (simp [*]); (simp [*]); (simp [*]); omega; omega; omega; rintro e w' ⟨rfl, ⟨nq, rfl⟩⟩) | (go_at_call 21; refine (PBase.edit_least.calls 3 (chg s l c k) _ 2 [IntKind.i64.wrap (rd l ((k : Int) + 1) + 1), IntKind.i64.wrap (rdOf 0 xs k + 1)] _ _ ?_ ?_ (least3 _ _ _)).mono ?_; (refine C_ints (e := 3) (fr := (0, 0)) ?_ (by simp); (first | exact blk_new _ _ | exact blk_drewN (blk_new _ _) _)); (exact Nat.le_refl _); rintro e w2 ⟨rfl, hb2⟩; have q1 := pw_cell_below hb2 (cell_al c3 _ _); have q2 := pw_cell_below hb2 (cell_al c4 _ _); have q3 := pw_cell_below hb2 (cell_al c5 _ _); have q4 := pw_cell_below hb2 (cell_al hxi _ _); have q5 := pw_cell_below hb2 (cell_al hxk _ _); have q6 := pw_cell_below hb2 (cell_al hxo _ _); have q7 := pw_cell_below hb2 (cell_al hyo _ _); have q8 := frz_al (World.block_lt_of_cell? _ _ hyo) hgo hb2))
        all_goals (go_wp2_with fail; go_meet; exact NInv.next HI.out hlt hgo3 (below_step (by first | exact below_alloc (pw_below_drewN (Below.refl _ _) _) _ | exact pw_below_drewN (below_alloc (pw_below_drewN (Below.refl _ _) _) _) _) hb2))
      case rest =>
        clear HI hxk hxo hfo hyo hgo c3 c4 c5 hxi hadg hne2
        go_wp2
        go_roundw
        case rel => exact ⟨k + 1, _, by go_num, hcut⟩
        case measure => simp [intOf]; omega
    · obtain rfl : k = s.size := by omega
      have hd : decide ((s.size : Int) < (s.size : Int)) = false := by simp
      go_wp2
      go_ret
      have h := HI.out.hR
      rw [Nat.sub_self] at h
      have h2 : xs = R := h
      rw [← h2]
      have h3 := HI.out.hO
      have h4 := HI.out.hlen
      exact ⟨_, rfl, h3, HI.out.hB⟩

end Go.Proofs.Ytkogfbgeepgjgaa
