/- Short words for prints: a block, a foot and a row of cells, through steps that leave them. Conditions: those in each theorem. -/
import Derived.Test.YtgdipibmaaehcaaWw
namespace Go.Proofs.Ytgdipibmaaehcaa.Sq
open Go Go.RowKit Go.Proofs.YtgdipibmaaehcaaW.PrintWords
attribute [class] Aside0
class Kp (g : Nat) (w : outParam World) (v : World) : Prop where out : ∀ {o : Obj}, w.heap[g]? = some o → v.heap[g]? = some o
instance (priority := low) (g : Nat) (w : World) : Kp g w w := ⟨id⟩
instance (g : Nat) (w v : World) [k : Kp g w v] : Kp g w v.drew := ⟨fun h => blk_drew (k.out h)⟩
instance (g : Nat) (w v : World) (n : Nat) [k : Kp g w v] : Kp g w (v.drewN n) := ⟨fun h => blk_drewN (k.out h) n⟩
instance (g : Nat) (w v : World) (o : Obj) [k : Kp g w v] : Kp g w (v.alloc o) := ⟨fun h => blk_alloc (k.out h) o⟩
instance (g g' j : Nat) (w v : World) (x : Value) [k : Kp g w v] [n : Aside0 (g ≠ g')] : Kp g w (v.setCell ⟨g', j, none⟩ x) := ⟨fun h => (Below.heap_setCell v ⟨g', j, none⟩ x g n.out).trans (k.out h)⟩
theorem kp {g : Nat} {w v : World} [k : Kp g w v] {o : Obj} (h : w.heap[g]? = some o) : v.heap[g]? = some o := k.out h
class Bl (u : World) (w : outParam World) (v : World) : Prop where out : Below u.heap.size u w → Below u.heap.size u v
instance (priority := low) (u w : World) : Bl u w w := ⟨id⟩
instance (u w v : World) [k : Bl u w v] : Bl u w v.drew := ⟨fun h => below_drew1 (k.out h)⟩
instance (u w v : World) (n : Nat) [k : Bl u w v] : Bl u w (v.drewN n) := ⟨fun h => pw_below_drewN (k.out h) n⟩
instance (u w v : World) (o : Obj) [k : Bl u w v] : Bl u w (v.alloc o) := ⟨fun h => below_alloc (k.out h) o⟩
instance (u w v : World) (g j : Nat) (x : Value) [k : Bl u w v] [n : Aside0 (u.heap.size ≤ g)] : Bl u w (v.setCell ⟨g, j, none⟩ x) := ⟨fun h => below_set (k.out h) n.out⟩
theorem bl {u w v : World} [k : Bl u w v] (h : Below u.heap.size u w) : Below u.heap.size u v := k.out h
theorem lit_size (l : List UInt8) : (ByteArray.mk l.toArray).size = l.length := rfl
theorem nlt {v : World} {g g' : Nat} {o : Obj} (h : v.heap[g]? = some o) (hg : g' = v.heap.size) : g ≠ g' := hg ▸ Nat.ne_of_lt (blk_lt h)
theorem ngt {v : World} {g g' : Nat} {o : Obj} (h : v.heap[g]? = some o) (hg : g' = v.heap.size) : g' ≠ g := hg ▸ Nat.ne_of_gt (blk_lt h)
theorem bsz {u v : World} {g' : Nat} (h : Below u.heap.size u v) (hg : g' = v.heap.size) : u.heap.size ≤ g' := hg ▸ below_size h
theorem p1_0 {w : World} {g : Nat} {t : TypeId} {a u : Value} (h : w.heap[g]? = some (.cells #[a] t (0, 0))) : (w.setCell ⟨g, 0, none⟩ u).heap[g]? = some (.cells #[u] t (0, 0)) := blk_put h 0 u rfl
theorem p2_0 {w : World} {g : Nat} {t : TypeId} {a b u : Value} (h : w.heap[g]? = some (.cells #[a, b] t (0, 0))) : (w.setCell ⟨g, 0, none⟩ u).heap[g]? = some (.cells #[u, b] t (0, 0)) := blk_put h 0 u rfl
theorem p2_1 {w : World} {g : Nat} {t : TypeId} {a b u : Value} (h : w.heap[g]? = some (.cells #[a, b] t (0, 0))) : (w.setCell ⟨g, 1, none⟩ u).heap[g]? = some (.cells #[a, u] t (0, 0)) := blk_put h 1 u rfl
theorem p3_0 {w : World} {g : Nat} {t : TypeId} {a b c u : Value} (h : w.heap[g]? = some (.cells #[a, b, c] t (0, 0))) : (w.setCell ⟨g, 0, none⟩ u).heap[g]? = some (.cells #[u, b, c] t (0, 0)) := blk_put h 0 u rfl
theorem p3_1 {w : World} {g : Nat} {t : TypeId} {a b c u : Value} (h : w.heap[g]? = some (.cells #[a, b, c] t (0, 0))) : (w.setCell ⟨g, 1, none⟩ u).heap[g]? = some (.cells #[a, u, c] t (0, 0)) := blk_put h 1 u rfl
theorem p3_2 {w : World} {g : Nat} {t : TypeId} {a b c u : Value} (h : w.heap[g]? = some (.cells #[a, b, c] t (0, 0))) : (w.setCell ⟨g, 2, none⟩ u).heap[g]? = some (.cells #[a, b, u] t (0, 0)) := blk_put h 2 u rfl
theorem p4_0 {w : World} {g : Nat} {t : TypeId} {a b c d u : Value} (h : w.heap[g]? = some (.cells #[a, b, c, d] t (0, 0))) : (w.setCell ⟨g, 0, none⟩ u).heap[g]? = some (.cells #[u, b, c, d] t (0, 0)) := blk_put h 0 u rfl
theorem p4_1 {w : World} {g : Nat} {t : TypeId} {a b c d u : Value} (h : w.heap[g]? = some (.cells #[a, b, c, d] t (0, 0))) : (w.setCell ⟨g, 1, none⟩ u).heap[g]? = some (.cells #[a, u, c, d] t (0, 0)) := blk_put h 1 u rfl
theorem p4_2 {w : World} {g : Nat} {t : TypeId} {a b c d u : Value} (h : w.heap[g]? = some (.cells #[a, b, c, d] t (0, 0))) : (w.setCell ⟨g, 2, none⟩ u).heap[g]? = some (.cells #[a, b, u, d] t (0, 0)) := blk_put h 2 u rfl
theorem p4_3 {w : World} {g : Nat} {t : TypeId} {a b c d u : Value} (h : w.heap[g]? = some (.cells #[a, b, c, d] t (0, 0))) : (w.setCell ⟨g, 3, none⟩ u).heap[g]? = some (.cells #[a, b, c, u] t (0, 0)) := blk_put h 3 u rfl
theorem p5_0 {w : World} {g : Nat} {t : TypeId} {a b c d e u : Value} (h : w.heap[g]? = some (.cells #[a, b, c, d, e] t (0, 0))) : (w.setCell ⟨g, 0, none⟩ u).heap[g]? = some (.cells #[u, b, c, d, e] t (0, 0)) := blk_put h 0 u rfl
theorem p5_1 {w : World} {g : Nat} {t : TypeId} {a b c d e u : Value} (h : w.heap[g]? = some (.cells #[a, b, c, d, e] t (0, 0))) : (w.setCell ⟨g, 1, none⟩ u).heap[g]? = some (.cells #[a, u, c, d, e] t (0, 0)) := blk_put h 1 u rfl
theorem p5_2 {w : World} {g : Nat} {t : TypeId} {a b c d e u : Value} (h : w.heap[g]? = some (.cells #[a, b, c, d, e] t (0, 0))) : (w.setCell ⟨g, 2, none⟩ u).heap[g]? = some (.cells #[a, b, u, d, e] t (0, 0)) := blk_put h 2 u rfl
theorem p5_3 {w : World} {g : Nat} {t : TypeId} {a b c d e u : Value} (h : w.heap[g]? = some (.cells #[a, b, c, d, e] t (0, 0))) : (w.setCell ⟨g, 3, none⟩ u).heap[g]? = some (.cells #[a, b, c, u, e] t (0, 0)) := blk_put h 3 u rfl
theorem p5_4 {w : World} {g : Nat} {t : TypeId} {a b c d e u : Value} (h : w.heap[g]? = some (.cells #[a, b, c, d, e] t (0, 0))) : (w.setCell ⟨g, 4, none⟩ u).heap[g]? = some (.cells #[a, b, c, d, u] t (0, 0)) := blk_put h 4 u rfl
theorem p6_0 {w : World} {g : Nat} {t : TypeId} {a b c d e f u : Value} (h : w.heap[g]? = some (.cells #[a, b, c, d, e, f] t (0, 0))) : (w.setCell ⟨g, 0, none⟩ u).heap[g]? = some (.cells #[u, b, c, d, e, f] t (0, 0)) := blk_put h 0 u rfl
theorem p6_1 {w : World} {g : Nat} {t : TypeId} {a b c d e f u : Value} (h : w.heap[g]? = some (.cells #[a, b, c, d, e, f] t (0, 0))) : (w.setCell ⟨g, 1, none⟩ u).heap[g]? = some (.cells #[a, u, c, d, e, f] t (0, 0)) := blk_put h 1 u rfl
theorem p6_2 {w : World} {g : Nat} {t : TypeId} {a b c d e f u : Value} (h : w.heap[g]? = some (.cells #[a, b, c, d, e, f] t (0, 0))) : (w.setCell ⟨g, 2, none⟩ u).heap[g]? = some (.cells #[a, b, u, d, e, f] t (0, 0)) := blk_put h 2 u rfl
theorem p6_3 {w : World} {g : Nat} {t : TypeId} {a b c d e f u : Value} (h : w.heap[g]? = some (.cells #[a, b, c, d, e, f] t (0, 0))) : (w.setCell ⟨g, 3, none⟩ u).heap[g]? = some (.cells #[a, b, c, u, e, f] t (0, 0)) := blk_put h 3 u rfl
theorem p6_4 {w : World} {g : Nat} {t : TypeId} {a b c d e f u : Value} (h : w.heap[g]? = some (.cells #[a, b, c, d, e, f] t (0, 0))) : (w.setCell ⟨g, 4, none⟩ u).heap[g]? = some (.cells #[a, b, c, d, u, f] t (0, 0)) := blk_put h 4 u rfl
theorem p6_5 {w : World} {g : Nat} {t : TypeId} {a b c d e f u : Value} (h : w.heap[g]? = some (.cells #[a, b, c, d, e, f] t (0, 0))) : (w.setCell ⟨g, 5, none⟩ u).heap[g]? = some (.cells #[a, b, c, d, e, u] t (0, 0)) := blk_put h 5 u rfl
theorem p7_0 {w : World} {g : Nat} {t : TypeId} {a b c d e f m u : Value} (h : w.heap[g]? = some (.cells #[a, b, c, d, e, f, m] t (0, 0))) : (w.setCell ⟨g, 0, none⟩ u).heap[g]? = some (.cells #[u, b, c, d, e, f, m] t (0, 0)) := blk_put h 0 u rfl
theorem p7_1 {w : World} {g : Nat} {t : TypeId} {a b c d e f m u : Value} (h : w.heap[g]? = some (.cells #[a, b, c, d, e, f, m] t (0, 0))) : (w.setCell ⟨g, 1, none⟩ u).heap[g]? = some (.cells #[a, u, c, d, e, f, m] t (0, 0)) := blk_put h 1 u rfl
theorem p7_2 {w : World} {g : Nat} {t : TypeId} {a b c d e f m u : Value} (h : w.heap[g]? = some (.cells #[a, b, c, d, e, f, m] t (0, 0))) : (w.setCell ⟨g, 2, none⟩ u).heap[g]? = some (.cells #[a, b, u, d, e, f, m] t (0, 0)) := blk_put h 2 u rfl
theorem p7_3 {w : World} {g : Nat} {t : TypeId} {a b c d e f m u : Value} (h : w.heap[g]? = some (.cells #[a, b, c, d, e, f, m] t (0, 0))) : (w.setCell ⟨g, 3, none⟩ u).heap[g]? = some (.cells #[a, b, c, u, e, f, m] t (0, 0)) := blk_put h 3 u rfl
theorem p7_4 {w : World} {g : Nat} {t : TypeId} {a b c d e f m u : Value} (h : w.heap[g]? = some (.cells #[a, b, c, d, e, f, m] t (0, 0))) : (w.setCell ⟨g, 4, none⟩ u).heap[g]? = some (.cells #[a, b, c, d, u, f, m] t (0, 0)) := blk_put h 4 u rfl
theorem p7_5 {w : World} {g : Nat} {t : TypeId} {a b c d e f m u : Value} (h : w.heap[g]? = some (.cells #[a, b, c, d, e, f, m] t (0, 0))) : (w.setCell ⟨g, 5, none⟩ u).heap[g]? = some (.cells #[a, b, c, d, e, u, m] t (0, 0)) := blk_put h 5 u rfl
theorem p7_6 {w : World} {g : Nat} {t : TypeId} {a b c d e f m u : Value} (h : w.heap[g]? = some (.cells #[a, b, c, d, e, f, m] t (0, 0))) : (w.setCell ⟨g, 6, none⟩ u).heap[g]? = some (.cells #[a, b, c, d, e, f, u] t (0, 0)) := blk_put h 6 u rfl
theorem hc7 {w : World} {g : Nat} {t : TypeId} {a b c d e f i : Value} (h : w.heap[g]? = some (.cells #[a, b, c, d, e, f, i] t (0, 0))) : w.cell? ⟨g, 0, none⟩ = some a ∧ w.cell? ⟨g, 1, none⟩ = some b ∧ w.cell? ⟨g, 2, none⟩ = some c ∧ w.cell? ⟨g, 3, none⟩ = some d ∧ w.cell? ⟨g, 4, none⟩ = some e ∧ w.cell? ⟨g, 5, none⟩ = some f ∧ w.cell? ⟨g, 6, none⟩ = some i := ⟨(blk_cell h 0).trans rfl, (blk_cell h 1).trans rfl, (blk_cell h 2).trans rfl, (blk_cell h 3).trans rfl, (blk_cell h 4).trans rfl, (blk_cell h 5).trans rfl, (blk_cell h 6).trans rfl⟩
theorem hf7 {w : World} {g : Nat} {t : TypeId} {cs : Array Value} (h : w.heap[g]? = some (.cells cs t (0, 0))) : w.frozen? ⟨g, 0, none⟩ = false ∧ w.frozen? ⟨g, 1, none⟩ = false ∧ w.frozen? ⟨g, 2, none⟩ = false ∧ w.frozen? ⟨g, 3, none⟩ = false ∧ w.frozen? ⟨g, 4, none⟩ = false ∧ w.frozen? ⟨g, 5, none⟩ = false ∧ w.frozen? ⟨g, 6, none⟩ = false := ⟨blk_frozen h 0, blk_frozen h 1, blk_frozen h 2, blk_frozen h 3, blk_frozen h 4, blk_frozen h 5, blk_frozen h 6⟩
theorem kb {g : Nat} {w v v2 : World} [k : Kp g w v] {o : Obj} (h : Aside0 (w.heap[g]? = some o)) (hb : Below v.heap.size v v2) : Aside0 (v2.heap[g]? = some o) := ⟨blk_below (kp h.out) hb⟩
theorem sb {u w v v2 : World} [k : Bl u w v] (h : Aside0 (Below u.heap.size u w)) (hb : Below v.heap.size v v2) : Aside0 (Below u.heap.size u v2) := ⟨below_step (bl h.out) hb⟩
theorem nk {g g' : Nat} {w v : World} [k : Kp g w v] {o : Obj} (h : Aside0 (w.heap[g]? = some o)) (hg : g' = v.heap.size) : Aside0 (g ≠ g') := ⟨nlt (kp h.out) hg⟩
theorem nl_ {g g' : Nat} {w v : World} [k : Kp g w v] {o : Obj} (h : Aside0 (w.heap[g]? = some o)) (hg : g' = v.heap.size) : Aside0 (g' ≠ g) := ⟨ngt (kp h.out) hg⟩
theorem zb {u w v : World} [k : Bl u w v] {g' : Nat} (h : Aside0 (Below u.heap.size u w)) (hg : g' = v.heap.size) : Aside0 (u.heap.size ≤ g') := ⟨bsz (bl h.out) hg⟩
theorem kq {w v : World} {n : Nat} (hq : w.drewN n = v) {g : Nat} {o : Obj} (h : w.heap[g]? = some o) : v.heap[g]? = some o := hq ▸ blk_drewN h n
theorem bq {u w v : World} {n : Nat} (hq : w.drewN n = v) (h : Below u.heap.size u w) : Below u.heap.size u v := hq ▸ pw_below_drewN h n
variable {w : World} {g : Nat} {t : TypeId} {a b c d e f i j : Value}
theorem hc1 (h : w.heap[g]? = some (.cells #[a] t (0, 0))) : w.cell? ⟨g, 0, none⟩ = some a := (blk_cell h 0).trans rfl
theorem hc2 (h : w.heap[g]? = some (.cells #[a, b] t (0, 0))) : w.cell? ⟨g, 0, none⟩ = some a ∧ w.cell? ⟨g, 1, none⟩ = some b := ⟨(blk_cell h 0).trans rfl, (blk_cell h 1).trans rfl⟩
theorem hc3 (h : w.heap[g]? = some (.cells #[a, b, c] t (0, 0))) : w.cell? ⟨g, 0, none⟩ = some a ∧ w.cell? ⟨g, 1, none⟩ = some b ∧ w.cell? ⟨g, 2, none⟩ = some c := ⟨(blk_cell h 0).trans rfl, (blk_cell h 1).trans rfl, (blk_cell h 2).trans rfl⟩
theorem hc4 (h : w.heap[g]? = some (.cells #[a, b, c, d] t (0, 0))) : w.cell? ⟨g, 0, none⟩ = some a ∧ w.cell? ⟨g, 1, none⟩ = some b ∧ w.cell? ⟨g, 2, none⟩ = some c ∧ w.cell? ⟨g, 3, none⟩ = some d := ⟨(blk_cell h 0).trans rfl, (blk_cell h 1).trans rfl, (blk_cell h 2).trans rfl, (blk_cell h 3).trans rfl⟩
theorem hc5 (h : w.heap[g]? = some (.cells #[a, b, c, d, e] t (0, 0))) : w.cell? ⟨g, 0, none⟩ = some a ∧ w.cell? ⟨g, 1, none⟩ = some b ∧ w.cell? ⟨g, 2, none⟩ = some c ∧ w.cell? ⟨g, 3, none⟩ = some d ∧ w.cell? ⟨g, 4, none⟩ = some e := ⟨(blk_cell h 0).trans rfl, (blk_cell h 1).trans rfl, (blk_cell h 2).trans rfl, (blk_cell h 3).trans rfl, (blk_cell h 4).trans rfl⟩
theorem hf2 {cs : Array Value} (h : w.heap[g]? = some (.cells cs t (0, 0))) : w.frozen? ⟨g, 0, none⟩ = false ∧ w.frozen? ⟨g, 1, none⟩ = false := ⟨blk_frozen h 0, blk_frozen h 1⟩
theorem hf3 {cs : Array Value} (h : w.heap[g]? = some (.cells cs t (0, 0))) : w.frozen? ⟨g, 0, none⟩ = false ∧ w.frozen? ⟨g, 1, none⟩ = false ∧ w.frozen? ⟨g, 2, none⟩ = false := ⟨blk_frozen h 0, blk_frozen h 1, blk_frozen h 2⟩
theorem hf4 {cs : Array Value} (h : w.heap[g]? = some (.cells cs t (0, 0))) : w.frozen? ⟨g, 0, none⟩ = false ∧ w.frozen? ⟨g, 1, none⟩ = false ∧ w.frozen? ⟨g, 2, none⟩ = false ∧ w.frozen? ⟨g, 3, none⟩ = false := ⟨blk_frozen h 0, blk_frozen h 1, blk_frozen h 2, blk_frozen h 3⟩
theorem hf5 {cs : Array Value} (h : w.heap[g]? = some (.cells cs t (0, 0))) : w.frozen? ⟨g, 0, none⟩ = false ∧ w.frozen? ⟨g, 1, none⟩ = false ∧ w.frozen? ⟨g, 2, none⟩ = false ∧ w.frozen? ⟨g, 3, none⟩ = false ∧ w.frozen? ⟨g, 4, none⟩ = false := ⟨blk_frozen h 0, blk_frozen h 1, blk_frozen h 2, blk_frozen h 3, blk_frozen h 4⟩
end Go.Proofs.Ytgdipibmaaehcaa.Sq
