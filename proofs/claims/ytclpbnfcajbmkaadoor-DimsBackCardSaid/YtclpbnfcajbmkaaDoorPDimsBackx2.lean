/- Printed by a program of this session (wip/tools/prt.py) out of the translation: plain functions, and that the calls come to just them. No conditions beyond those that stand in each theorem. -/
import Derived.Test.YtclpbnfcajbmkaaDoorGlob
import Derived.Test.YtclpbnfcajbmkaaDoorPDimsBackx0
import Derived.Test.YtclpbnfcajbmkaaDoorPDimsBackx1
namespace Go.Proofs.YtclpbnfcajbmkaaDoor.PDimsBack
open Go.Proofs.YtclpbnfcajbmkaaDoor.Sq Go.RowKit Go.Proofs.YtclpbnfcajbmkaaDoorW.PrintWords Go.Proofs.YtclpbnfcajbmkaaDoorW.PrintLast Go.Proofs.YtclpbnfcajbmkaaDoorW.PrintMore Go.Proofs.YtclpbnfcajbmkaaDoor.PB Go.Proofs.YtclpbnfcajbmkaaDoor.PQ
attribute [local go_sem] max2_int min2_int max_two min_two max_three min_three max_four min_four   -- for this text's walks alone
set_option linter.unusedVariables false
set_option linter.unusedSimpArgs false

attribute [local go_sem high] eqA23
/-! ### drachmlaw03_DimsBack: function 7 -/
mutual
def drachmlaw03_DimsBack.j0 : Nat → Int → Bool → Bool → Bool → Int → Int → Int → Int → Int → Int → Int → Int → Int → Int → Int → Int → Int → Int → Int → Int → Int → Int → Int → Int → Int → Option (Bool)
 | 0, _, _, _, _, _, _, _, _, _, _, _, _, _, _, _, _, _, _, _, _, _, _, _, _, _ => none
 | k + 1, x1, x5, x9, x50, x111000, x111001, x111002, x111003, x111004, x111005, x111006, x119000, x119001, x119002, x119003, x119004, x119005, x119006, x128000, x128001, x128002, x128003, x128004, x128005, x128006 => if x50 = true then (none) else ((dims_Sub.f x128000 x128001 x128002 x128003 x128004 x128005 x128006 x119000 x119001 x119002 x119003 x119004 x119005 x119006).bind fun bt137 => (if x9 = true then (if bt137.2.2.2.2.2.2.2 = true then (drachmlaw03_DimsBack.j1 k x1 x5 (!(bt137.1 == x111000) || (!(bt137.2.1 == x111001) || (!(bt137.2.2.1 == x111002) || (!(bt137.2.2.2.1 == x111003) || (!(bt137.2.2.2.2.1 == x111004) || (!(bt137.2.2.2.2.2.1 == x111005) || (!(bt137.2.2.2.2.2.2.1 == x111006)))))))) x111000 x111001 x111002 x111003 x111004 x111005 x111006) else (drachmlaw03_DimsBack.j1 k x1 x5 true x111000 x111001 x111002 x111003 x111004 x111005 x111006)) else (drachmlaw03_DimsBack.j1 k x1 x5 false x111000 x111001 x111002 x111003 x111004 x111005 x111006)))
def drachmlaw03_DimsBack.j1 : Nat → Int → Bool → Bool → Int → Int → Int → Int → Int → Int → Int → Option (Bool)
 | 0, _, _, _, _, _, _, _, _, _, _ => none
 | k + 1, x1, x5, x66, x111000, x111001, x111002, x111003, x111004, x111005, x111006 => if x66 = true then (none) else (drachmlaw03_DimsBack.l0 k x5 (Int.tmod (wrap64 ((Int.tmod x1 10) + 10)) 10) true 0 x111000 x111001 x111002 x111003 x111004 x111005 x111006 0 0 0 0 0 0 0)
def drachmlaw03_DimsBack.l0 : Nat → Bool → Int → Bool → Int → Int → Int → Int → Int → Int → Int → Int → Int → Int → Int → Int → Int → Int → Int → Option (Bool)
 | 0, _, _, _, _, _, _, _, _, _, _, _, _, _, _, _, _, _, _ => none
 | k + 1, x5, x14, x16, x17, x111000, x111001, x111002, x111003, x111004, x111005, x111006, x147000, x147001, x147002, x147003, x147004, x147005, x147006 => if x17 < x14 then (if x16 = true then ((dims_Add.f x147000 x147001 x147002 x147003 x147004 x147005 x147006 x111000 x111001 x111002 x111003 x111004 x111005 x111006).bind fun bt147 => (drachmlaw03_DimsBack.l0 k x5 x14 bt147.2.2.2.2.2.2.2 (wrap64 (x17 + 1)) x111000 x111001 x111002 x111003 x111004 x111005 x111006 bt147.1 bt147.2.1 bt147.2.2.1 bt147.2.2.2.1 bt147.2.2.2.2.1 bt147.2.2.2.2.2.1 bt147.2.2.2.2.2.2.1)) else ((dims_Times.f x111000 x111001 x111002 x111003 x111004 x111005 x111006 x14).bind fun bt155 => ((dims_Times.f x111000 x111001 x111002 x111003 x111004 x111005 x111006 (wrap64 (-x14))).bind fun bt164 => ((dims_Add.f bt155.1 bt155.2.1 bt155.2.2.1 bt155.2.2.2.1 bt155.2.2.2.2.1 bt155.2.2.2.2.2.1 bt155.2.2.2.2.2.2.1 bt164.1 bt164.2.1 bt164.2.2.1 bt164.2.2.2.1 bt164.2.2.2.2.1 bt164.2.2.2.2.2.1 bt164.2.2.2.2.2.2.1).bind fun bt173 => (if x5 = true then (if (x16 == bt155.2.2.2.2.2.2.2) = true then (if (bt155.2.2.2.2.2.2.2 == bt164.2.2.2.2.2.2.2) = true then (if bt173.2.2.2.2.2.2.2 = true then (some (bt173.1 == 0 && (bt173.2.1 == 0 && (bt173.2.2.1 == 0 && (bt173.2.2.2.1 == 0 && (bt173.2.2.2.2.1 == 0 && (bt173.2.2.2.2.2.1 == 0 && (bt173.2.2.2.2.2.2.1 == 0)))))))) else (none)) else (none)) else (none)) else (none)))))) else ((dims_Times.f x111000 x111001 x111002 x111003 x111004 x111005 x111006 x14).bind fun bt182 => ((dims_Times.f x111000 x111001 x111002 x111003 x111004 x111005 x111006 (wrap64 (-x14))).bind fun bt191 => ((dims_Add.f bt182.1 bt182.2.1 bt182.2.2.1 bt182.2.2.2.1 bt182.2.2.2.2.1 bt182.2.2.2.2.2.1 bt182.2.2.2.2.2.2.1 bt191.1 bt191.2.1 bt191.2.2.1 bt191.2.2.2.1 bt191.2.2.2.2.1 bt191.2.2.2.2.2.1 bt191.2.2.2.2.2.2.1).bind fun bt200 => (if x5 = true then (if (x16 == bt182.2.2.2.2.2.2.2) = true then (if x16 = true then (if (bt182.1 == x147000 && (bt182.2.1 == x147001 && (bt182.2.2.1 == x147002 && (bt182.2.2.2.1 == x147003 && (bt182.2.2.2.2.1 == x147004 && (bt182.2.2.2.2.2.1 == x147005 && (bt182.2.2.2.2.2.2.1 == x147006))))))) = true then (if (bt182.2.2.2.2.2.2.2 == bt191.2.2.2.2.2.2.2) = true then (if bt200.2.2.2.2.2.2.2 = true then (some (bt200.1 == 0 && (bt200.2.1 == 0 && (bt200.2.2.1 == 0 && (bt200.2.2.2.1 == 0 && (bt200.2.2.2.2.1 == 0 && (bt200.2.2.2.2.2.1 == 0 && (bt200.2.2.2.2.2.2.1 == 0)))))))) else (none)) else (none)) else (none)) else (if (bt182.2.2.2.2.2.2.2 == bt191.2.2.2.2.2.2.2) = true then (if bt200.2.2.2.2.2.2.2 = true then (some (bt200.1 == 0 && (bt200.2.1 == 0 && (bt200.2.2.1 == 0 && (bt200.2.2.2.1 == 0 && (bt200.2.2.2.2.1 == 0 && (bt200.2.2.2.2.2.1 == 0 && (bt200.2.2.2.2.2.2.1 == 0)))))))) else (none)) else (none))) else (none)) else (none)))))
end
def drachmlaw03_DimsBack.f (k : Nat) (a0_0 : Int) (a0_1 : Int) (a0_2 : Int) (a0_3 : Int) (a0_4 : Int) (a0_5 : Int) (a0_6 : Int) (a0_7 : Int) (a0_8 : Int) (a0_9 : Int) (a0_10 : Int) (a0_11 : Int) (a0_12 : Int) (a0_13 : Int) (a1 : Int) : Option (Bool) := (drachmlaw03_awake.f).bind fun t102 => ((drachmlaw03_near.f a0_0 a0_1 a0_2 a0_3 a0_4 a0_5 a0_6 99).bind fun bt103 => ((drachmlaw03_near.f a0_7 a0_8 a0_9 a0_10 a0_11 a0_12 a0_13 99).bind fun bt111 => ((dims_Add.f bt103.1 bt103.2.1 bt103.2.2.1 bt103.2.2.2.1 bt103.2.2.2.2.1 bt103.2.2.2.2.2.1 bt103.2.2.2.2.2.2 bt111.1 bt111.2.1 bt111.2.2.1 bt111.2.2.2.1 bt111.2.2.2.2.1 bt111.2.2.2.2.2.1 bt111.2.2.2.2.2.2).bind fun bt119 => ((dims_Add.f bt111.1 bt111.2.1 bt111.2.2.1 bt111.2.2.2.1 bt111.2.2.2.2.1 bt111.2.2.2.2.2.1 bt111.2.2.2.2.2.2 bt103.1 bt103.2.1 bt103.2.2.1 bt103.2.2.2.1 bt103.2.2.2.2.1 bt103.2.2.2.2.2.1 bt103.2.2.2.2.2.2).bind fun bt128 => (if (!(bt119.1 == bt128.1) || (!(bt119.2.1 == bt128.2.1) || (!(bt119.2.2.1 == bt128.2.2.1) || (!(bt119.2.2.2.1 == bt128.2.2.2.1) || (!(bt119.2.2.2.2.1 == bt128.2.2.2.2.1) || (!(bt119.2.2.2.2.2.1 == bt128.2.2.2.2.2.1) || (!(bt119.2.2.2.2.2.2.1 == bt128.2.2.2.2.2.2.1)))))))) = true then (drachmlaw03_DimsBack.j0 k a1 t102 bt119.2.2.2.2.2.2.2 true bt103.1 bt103.2.1 bt103.2.2.1 bt103.2.2.2.1 bt103.2.2.2.2.1 bt103.2.2.2.2.2.1 bt103.2.2.2.2.2.2 bt111.1 bt111.2.1 bt111.2.2.1 bt111.2.2.2.1 bt111.2.2.2.2.1 bt111.2.2.2.2.2.1 bt111.2.2.2.2.2.2 bt119.1 bt119.2.1 bt119.2.2.1 bt119.2.2.2.1 bt119.2.2.2.2.1 bt119.2.2.2.2.2.1 bt119.2.2.2.2.2.2.1) else (drachmlaw03_DimsBack.j0 k a1 t102 bt119.2.2.2.2.2.2.2 (bt119.2.2.2.2.2.2.2 != bt128.2.2.2.2.2.2.2) bt103.1 bt103.2.1 bt103.2.2.1 bt103.2.2.2.1 bt103.2.2.2.2.1 bt103.2.2.2.2.2.1 bt103.2.2.2.2.2.2 bt111.1 bt111.2.1 bt111.2.2.1 bt111.2.2.2.1 bt111.2.2.2.2.1 bt111.2.2.2.2.2.1 bt111.2.2.2.2.2.2 bt119.1 bt119.2.1 bt119.2.2.1 bt119.2.2.2.1 bt119.2.2.2.2.1 bt119.2.2.2.2.2.1 bt119.2.2.2.2.2.2.1))))))
theorem drachmlaw03_DimsBack.mono_l : ∀ k, (∀ y0 y1 y2 y3 y4 y5 y6 y7 y8 y9 y10 y11 y12 y13 y14 y15 y16 y17 y18 y19 y20 y21 y22 y23 y24, LeO (drachmlaw03_DimsBack.j0 k y0 y1 y2 y3 y4 y5 y6 y7 y8 y9 y10 y11 y12 y13 y14 y15 y16 y17 y18 y19 y20 y21 y22 y23 y24) (drachmlaw03_DimsBack.j0 (k + 1) y0 y1 y2 y3 y4 y5 y6 y7 y8 y9 y10 y11 y12 y13 y14 y15 y16 y17 y18 y19 y20 y21 y22 y23 y24)) ∧ (∀ y0 y1 y2 y3 y4 y5 y6 y7 y8 y9, LeO (drachmlaw03_DimsBack.j1 k y0 y1 y2 y3 y4 y5 y6 y7 y8 y9) (drachmlaw03_DimsBack.j1 (k + 1) y0 y1 y2 y3 y4 y5 y6 y7 y8 y9)) ∧ (∀ y0 y1 y2 y3 y4 y5 y6 y7 y8 y9 y10 y11 y12 y13 y14 y15 y16 y17, LeO (drachmlaw03_DimsBack.l0 k y0 y1 y2 y3 y4 y5 y6 y7 y8 y9 y10 y11 y12 y13 y14 y15 y16 y17) (drachmlaw03_DimsBack.l0 (k + 1) y0 y1 y2 y3 y4 y5 y6 y7 y8 y9 y10 y11 y12 y13 y14 y15 y16 y17))
 | 0 => ⟨fun _ _ _ _ _ _ _ _ _ _ _ _ _ _ _ _ _ _ _ _ _ _ _ _ _ r h => by simp [drachmlaw03_DimsBack.j0] at h, fun _ _ _ _ _ _ _ _ _ _ r h => by simp [drachmlaw03_DimsBack.j1] at h, fun _ _ _ _ _ _ _ _ _ _ _ _ _ _ _ _ _ _ r h => by simp [drachmlaw03_DimsBack.l0] at h⟩
 | k + 1 => by
  obtain ⟨ih0, ih1, ih2⟩ := drachmlaw03_DimsBack.mono_l k
  refine ⟨?_, ?_, ?_⟩
  ·intro y0 y1 y2 y3 y4 y5 y6 y7 y8 y9 y10 y11 y12 y13 y14 y15 y16 y17 y18 y19 y20 y21 y22 y23 y24
   unfold drachmlaw03_DimsBack.j0
   repeat' first
   | (with_reducible exact ih0 _ _ _ _ _ _ _ _ _ _ _ _ _ _ _ _ _ _ _ _ _ _ _ _ _)
   | (with_reducible exact ih1 _ _ _ _ _ _ _ _ _ _)
   | (with_reducible exact ih2 _ _ _ _ _ _ _ _ _ _ _ _ _ _ _ _ _ _)
   | (with_reducible exact LeO.refl _)
   | (with_reducible exact LeO.none _)
   | (with_reducible refine LeO.ite ?_ ?_)
   | (with_reducible refine LeO.bind ?_ (fun _ => ?_))
   | exact ih0 _ _ _ _ _ _ _ _ _ _ _ _ _ _ _ _ _ _ _ _ _ _ _ _ _
   | exact ih1 _ _ _ _ _ _ _ _ _ _
   | exact ih2 _ _ _ _ _ _ _ _ _ _ _ _ _ _ _ _ _ _
   | exact LeO.none _
   | refine LeO.ite ?_ ?_
   | refine LeO.bind ?_ (fun _ => ?_)
  ·intro y0 y1 y2 y3 y4 y5 y6 y7 y8 y9
   unfold drachmlaw03_DimsBack.j1
   repeat' first
   | (with_reducible exact ih0 _ _ _ _ _ _ _ _ _ _ _ _ _ _ _ _ _ _ _ _ _ _ _ _ _)
   | (with_reducible exact ih1 _ _ _ _ _ _ _ _ _ _)
   | (with_reducible exact ih2 _ _ _ _ _ _ _ _ _ _ _ _ _ _ _ _ _ _)
   | (with_reducible exact LeO.refl _)
   | (with_reducible exact LeO.none _)
   | (with_reducible refine LeO.ite ?_ ?_)
   | (with_reducible refine LeO.bind ?_ (fun _ => ?_))
   | exact ih0 _ _ _ _ _ _ _ _ _ _ _ _ _ _ _ _ _ _ _ _ _ _ _ _ _
   | exact ih1 _ _ _ _ _ _ _ _ _ _
   | exact ih2 _ _ _ _ _ _ _ _ _ _ _ _ _ _ _ _ _ _
   | exact LeO.none _
   | refine LeO.ite ?_ ?_
   | refine LeO.bind ?_ (fun _ => ?_)
  ·intro y0 y1 y2 y3 y4 y5 y6 y7 y8 y9 y10 y11 y12 y13 y14 y15 y16 y17
   unfold drachmlaw03_DimsBack.l0
   repeat' first
   | (with_reducible exact ih0 _ _ _ _ _ _ _ _ _ _ _ _ _ _ _ _ _ _ _ _ _ _ _ _ _)
   | (with_reducible exact ih1 _ _ _ _ _ _ _ _ _ _)
   | (with_reducible exact ih2 _ _ _ _ _ _ _ _ _ _ _ _ _ _ _ _ _ _)
   | (with_reducible exact LeO.refl _)
   | (with_reducible exact LeO.none _)
   | (with_reducible refine LeO.ite ?_ ?_)
   | (with_reducible refine LeO.bind ?_ (fun _ => ?_))
   | exact ih0 _ _ _ _ _ _ _ _ _ _ _ _ _ _ _ _ _ _ _ _ _ _ _ _ _
   | exact ih1 _ _ _ _ _ _ _ _ _ _
   | exact ih2 _ _ _ _ _ _ _ _ _ _ _ _ _ _ _ _ _ _
   | exact LeO.none _
   | refine LeO.ite ?_ ?_
   | refine LeO.bind ?_ (fun _ => ?_)
theorem drachmlaw03_DimsBack.mono : ∀ a0 a1 a2 a3 a4 a5 a6 a7 a8 a9 a10 a11 a12 a13 a14 k, LeO (drachmlaw03_DimsBack.f k a0 a1 a2 a3 a4 a5 a6 a7 a8 a9 a10 a11 a12 a13 a14) (drachmlaw03_DimsBack.f (k + 1) a0 a1 a2 a3 a4 a5 a6 a7 a8 a9 a10 a11 a12 a13 a14) := by
 intro a0 a1 a2 a3 a4 a5 a6 a7 a8 a9 a10 a11 a12 a13 a14 k
 obtain ⟨ih0, ih1, ih2⟩ := drachmlaw03_DimsBack.mono_l k
 unfold drachmlaw03_DimsBack.f
 repeat' first
   | (with_reducible exact ih0 _ _ _ _ _ _ _ _ _ _ _ _ _ _ _ _ _ _ _ _ _ _ _ _ _)
   | (with_reducible exact ih1 _ _ _ _ _ _ _ _ _ _)
   | (with_reducible exact ih2 _ _ _ _ _ _ _ _ _ _ _ _ _ _ _ _ _ _)
   | (with_reducible exact LeO.refl _)
   | (with_reducible exact LeO.none _)
   | (with_reducible refine LeO.ite ?_ ?_)
   | (with_reducible refine LeO.bind ?_ (fun _ => ?_))
   | exact ih0 _ _ _ _ _ _ _ _ _ _ _ _ _ _ _ _ _ _ _ _ _ _ _ _ _
   | exact ih1 _ _ _ _ _ _ _ _ _ _
   | exact ih2 _ _ _ _ _ _ _ _ _ _ _ _ _ _ _ _ _ _
   | exact LeO.none _
   | refine LeO.ite ?_ ?_
   | refine LeO.bind ?_ (fun _ => ?_)
set_option maxHeartbeats 8000000 in
set_option maxRecDepth 100000 in
theorem drachmlaw03_DimsBack.calls (k : Nat) (a0_0 : Int) (a0_1 : Int) (a0_2 : Int) (a0_3 : Int) (a0_4 : Int) (a0_5 : Int) (a0_6 : Int) (a0_7 : Int) (a0_8 : Int) (a0_9 : Int) (a0_10 : Int) (a0_11 : Int) (a0_12 : Int) (a0_13 : Int) (a1 : Int) (r : Bool) (w : World) (hG : Glob [1, 2, 3] w) (h : drachmlaw03_DimsBack.f k a0_0 a0_1 a0_2 a0_3 a0_4 a0_5 a0_6 a0_7 a0_8 a0_9 a0_10 a0_11 a0_12 a0_13 a1 = some r) :
  Calls Tryd.prog 7 #[.agg #[.int .i64 a0_0, .int .i64 a0_1, .int .i64 a0_2, .int .i64 a0_3, .int .i64 a0_4, .int .i64 a0_5, .int .i64 a0_6, .int .i64 a0_7, .int .i64 a0_8, .int .i64 a0_9, .int .i64 a0_10, .int .i64 a0_11, .int .i64 a0_12, .int .i64 a0_13], .int .i64 a1] w fun e w' => e = .returned (.bool r) ∧ Below w.heap.size w w' := by
 have hu35 := Tryd.underlying35
 have hu23 := Tryd.underlying23
 have HB := Aside0.mk (Below.refl w.heap.size w)
 have H : ((drachmlaw03_awake.f).bind fun t102 => ((drachmlaw03_near.f a0_0 a0_1 a0_2 a0_3 a0_4 a0_5 a0_6 99).bind fun bt103 => ((drachmlaw03_near.f a0_7 a0_8 a0_9 a0_10 a0_11 a0_12 a0_13 99).bind fun bt111 => ((dims_Add.f bt103.1 bt103.2.1 bt103.2.2.1 bt103.2.2.2.1 bt103.2.2.2.2.1 bt103.2.2.2.2.2.1 bt103.2.2.2.2.2.2 bt111.1 bt111.2.1 bt111.2.2.1 bt111.2.2.2.1 bt111.2.2.2.2.1 bt111.2.2.2.2.2.1 bt111.2.2.2.2.2.2).bind fun bt119 => ((dims_Add.f bt111.1 bt111.2.1 bt111.2.2.1 bt111.2.2.2.1 bt111.2.2.2.2.1 bt111.2.2.2.2.2.1 bt111.2.2.2.2.2.2 bt103.1 bt103.2.1 bt103.2.2.1 bt103.2.2.2.1 bt103.2.2.2.2.1 bt103.2.2.2.2.2.1 bt103.2.2.2.2.2.2).bind fun bt128 => (if (!(bt119.1 == bt128.1) || (!(bt119.2.1 == bt128.2.1) || (!(bt119.2.2.1 == bt128.2.2.1) || (!(bt119.2.2.2.1 == bt128.2.2.2.1) || (!(bt119.2.2.2.2.1 == bt128.2.2.2.2.1) || (!(bt119.2.2.2.2.2.1 == bt128.2.2.2.2.2.1) || (!(bt119.2.2.2.2.2.2.1 == bt128.2.2.2.2.2.2.1)))))))) = true then (drachmlaw03_DimsBack.j0 k a1 t102 bt119.2.2.2.2.2.2.2 true bt103.1 bt103.2.1 bt103.2.2.1 bt103.2.2.2.1 bt103.2.2.2.2.1 bt103.2.2.2.2.2.1 bt103.2.2.2.2.2.2 bt111.1 bt111.2.1 bt111.2.2.1 bt111.2.2.2.1 bt111.2.2.2.2.1 bt111.2.2.2.2.2.1 bt111.2.2.2.2.2.2 bt119.1 bt119.2.1 bt119.2.2.1 bt119.2.2.2.1 bt119.2.2.2.2.1 bt119.2.2.2.2.2.1 bt119.2.2.2.2.2.2.1) else (drachmlaw03_DimsBack.j0 k a1 t102 bt119.2.2.2.2.2.2.2 (bt119.2.2.2.2.2.2.2 != bt128.2.2.2.2.2.2.2) bt103.1 bt103.2.1 bt103.2.2.1 bt103.2.2.2.1 bt103.2.2.2.2.1 bt103.2.2.2.2.2.1 bt103.2.2.2.2.2.2 bt111.1 bt111.2.1 bt111.2.2.1 bt111.2.2.2.1 bt111.2.2.2.2.1 bt111.2.2.2.2.2.1 bt111.2.2.2.2.2.2 bt119.1 bt119.2.1 bt119.2.2.1 bt119.2.2.2.1 bt119.2.2.2.2.1 bt119.2.2.2.2.2.1 bt119.2.2.2.2.2.2.1))))))) = some r := h
 clear h
 replace H := Option.bind_eq_some_iff.mp H
 obtain ⟨t102, A30, H⟩ := H
 replace H : ((drachmlaw03_near.f a0_0 a0_1 a0_2 a0_3 a0_4 a0_5 a0_6 99).bind fun bt103 => ((drachmlaw03_near.f a0_7 a0_8 a0_9 a0_10 a0_11 a0_12 a0_13 99).bind fun bt111 => ((dims_Add.f bt103.1 bt103.2.1 bt103.2.2.1 bt103.2.2.2.1 bt103.2.2.2.2.1 bt103.2.2.2.2.2.1 bt103.2.2.2.2.2.2 bt111.1 bt111.2.1 bt111.2.2.1 bt111.2.2.2.1 bt111.2.2.2.2.1 bt111.2.2.2.2.2.1 bt111.2.2.2.2.2.2).bind fun bt119 => ((dims_Add.f bt111.1 bt111.2.1 bt111.2.2.1 bt111.2.2.2.1 bt111.2.2.2.2.1 bt111.2.2.2.2.2.1 bt111.2.2.2.2.2.2 bt103.1 bt103.2.1 bt103.2.2.1 bt103.2.2.2.1 bt103.2.2.2.2.1 bt103.2.2.2.2.2.1 bt103.2.2.2.2.2.2).bind fun bt128 => (if (!(bt119.1 == bt128.1) || (!(bt119.2.1 == bt128.2.1) || (!(bt119.2.2.1 == bt128.2.2.1) || (!(bt119.2.2.2.1 == bt128.2.2.2.1) || (!(bt119.2.2.2.2.1 == bt128.2.2.2.2.1) || (!(bt119.2.2.2.2.2.1 == bt128.2.2.2.2.2.1) || (!(bt119.2.2.2.2.2.2.1 == bt128.2.2.2.2.2.2.1)))))))) = true then (drachmlaw03_DimsBack.j0 k a1 t102 bt119.2.2.2.2.2.2.2 true bt103.1 bt103.2.1 bt103.2.2.1 bt103.2.2.2.1 bt103.2.2.2.2.1 bt103.2.2.2.2.2.1 bt103.2.2.2.2.2.2 bt111.1 bt111.2.1 bt111.2.2.1 bt111.2.2.2.1 bt111.2.2.2.2.1 bt111.2.2.2.2.2.1 bt111.2.2.2.2.2.2 bt119.1 bt119.2.1 bt119.2.2.1 bt119.2.2.2.1 bt119.2.2.2.2.1 bt119.2.2.2.2.2.1 bt119.2.2.2.2.2.2.1) else (drachmlaw03_DimsBack.j0 k a1 t102 bt119.2.2.2.2.2.2.2 (bt119.2.2.2.2.2.2.2 != bt128.2.2.2.2.2.2.2) bt103.1 bt103.2.1 bt103.2.2.1 bt103.2.2.2.1 bt103.2.2.2.2.1 bt103.2.2.2.2.2.1 bt103.2.2.2.2.2.2 bt111.1 bt111.2.1 bt111.2.2.1 bt111.2.2.2.1 bt111.2.2.2.2.1 bt111.2.2.2.2.2.1 bt111.2.2.2.2.2.2 bt119.1 bt119.2.1 bt119.2.2.1 bt119.2.2.2.1 bt119.2.2.2.2.1 bt119.2.2.2.2.2.1 bt119.2.2.2.2.2.2.1)))))) = some r := H
 have A3 := Aside0.mk A30
 clear A30
 replace H := Option.bind_eq_some_iff.mp H
 obtain ⟨⟨t103, t104, t105, t106, t107, t108, t109⟩, A40, H⟩ := H
 replace H : ((drachmlaw03_near.f a0_7 a0_8 a0_9 a0_10 a0_11 a0_12 a0_13 99).bind fun bt111 => ((dims_Add.f t103 t104 t105 t106 t107 t108 t109 bt111.1 bt111.2.1 bt111.2.2.1 bt111.2.2.2.1 bt111.2.2.2.2.1 bt111.2.2.2.2.2.1 bt111.2.2.2.2.2.2).bind fun bt119 => ((dims_Add.f bt111.1 bt111.2.1 bt111.2.2.1 bt111.2.2.2.1 bt111.2.2.2.2.1 bt111.2.2.2.2.2.1 bt111.2.2.2.2.2.2 t103 t104 t105 t106 t107 t108 t109).bind fun bt128 => (if (!(bt119.1 == bt128.1) || (!(bt119.2.1 == bt128.2.1) || (!(bt119.2.2.1 == bt128.2.2.1) || (!(bt119.2.2.2.1 == bt128.2.2.2.1) || (!(bt119.2.2.2.2.1 == bt128.2.2.2.2.1) || (!(bt119.2.2.2.2.2.1 == bt128.2.2.2.2.2.1) || (!(bt119.2.2.2.2.2.2.1 == bt128.2.2.2.2.2.2.1)))))))) = true then (drachmlaw03_DimsBack.j0 k a1 t102 bt119.2.2.2.2.2.2.2 true t103 t104 t105 t106 t107 t108 t109 bt111.1 bt111.2.1 bt111.2.2.1 bt111.2.2.2.1 bt111.2.2.2.2.1 bt111.2.2.2.2.2.1 bt111.2.2.2.2.2.2 bt119.1 bt119.2.1 bt119.2.2.1 bt119.2.2.2.1 bt119.2.2.2.2.1 bt119.2.2.2.2.2.1 bt119.2.2.2.2.2.2.1) else (drachmlaw03_DimsBack.j0 k a1 t102 bt119.2.2.2.2.2.2.2 (bt119.2.2.2.2.2.2.2 != bt128.2.2.2.2.2.2.2) t103 t104 t105 t106 t107 t108 t109 bt111.1 bt111.2.1 bt111.2.2.1 bt111.2.2.2.1 bt111.2.2.2.2.1 bt111.2.2.2.2.2.1 bt111.2.2.2.2.2.2 bt119.1 bt119.2.1 bt119.2.2.1 bt119.2.2.2.1 bt119.2.2.2.2.1 bt119.2.2.2.2.2.1 bt119.2.2.2.2.2.2.1))))) = some r := H
 have A4 := Aside0.mk A40
 clear A40
 replace H := Option.bind_eq_some_iff.mp H
 obtain ⟨⟨t111, t112, t113, t114, t115, t116, t117⟩, A50, H⟩ := H
 replace H : ((dims_Add.f t103 t104 t105 t106 t107 t108 t109 t111 t112 t113 t114 t115 t116 t117).bind fun bt119 => ((dims_Add.f t111 t112 t113 t114 t115 t116 t117 t103 t104 t105 t106 t107 t108 t109).bind fun bt128 => (if (!(bt119.1 == bt128.1) || (!(bt119.2.1 == bt128.2.1) || (!(bt119.2.2.1 == bt128.2.2.1) || (!(bt119.2.2.2.1 == bt128.2.2.2.1) || (!(bt119.2.2.2.2.1 == bt128.2.2.2.2.1) || (!(bt119.2.2.2.2.2.1 == bt128.2.2.2.2.2.1) || (!(bt119.2.2.2.2.2.2.1 == bt128.2.2.2.2.2.2.1)))))))) = true then (drachmlaw03_DimsBack.j0 k a1 t102 bt119.2.2.2.2.2.2.2 true t103 t104 t105 t106 t107 t108 t109 t111 t112 t113 t114 t115 t116 t117 bt119.1 bt119.2.1 bt119.2.2.1 bt119.2.2.2.1 bt119.2.2.2.2.1 bt119.2.2.2.2.2.1 bt119.2.2.2.2.2.2.1) else (drachmlaw03_DimsBack.j0 k a1 t102 bt119.2.2.2.2.2.2.2 (bt119.2.2.2.2.2.2.2 != bt128.2.2.2.2.2.2.2) t103 t104 t105 t106 t107 t108 t109 t111 t112 t113 t114 t115 t116 t117 bt119.1 bt119.2.1 bt119.2.2.1 bt119.2.2.2.1 bt119.2.2.2.2.1 bt119.2.2.2.2.2.1 bt119.2.2.2.2.2.2.1)))) = some r := H
 have A5 := Aside0.mk A50
 clear A50
 replace H := Option.bind_eq_some_iff.mp H
 obtain ⟨⟨t119, t120, t121, t122, t123, t124, t125, t126⟩, A60, H⟩ := H
 replace H : ((dims_Add.f t111 t112 t113 t114 t115 t116 t117 t103 t104 t105 t106 t107 t108 t109).bind fun bt128 => (if (!(t119 == bt128.1) || (!(t120 == bt128.2.1) || (!(t121 == bt128.2.2.1) || (!(t122 == bt128.2.2.2.1) || (!(t123 == bt128.2.2.2.2.1) || (!(t124 == bt128.2.2.2.2.2.1) || (!(t125 == bt128.2.2.2.2.2.2.1)))))))) = true then (drachmlaw03_DimsBack.j0 k a1 t102 t126 true t103 t104 t105 t106 t107 t108 t109 t111 t112 t113 t114 t115 t116 t117 t119 t120 t121 t122 t123 t124 t125) else (drachmlaw03_DimsBack.j0 k a1 t102 t126 (t126 != bt128.2.2.2.2.2.2.2) t103 t104 t105 t106 t107 t108 t109 t111 t112 t113 t114 t115 t116 t117 t119 t120 t121 t122 t123 t124 t125))) = some r := H
 have A6 := Aside0.mk A60
 clear A60
 replace H := Option.bind_eq_some_iff.mp H
 obtain ⟨⟨t128, t129, t130, t131, t132, t133, t134, t135⟩, A70, H⟩ := H
 replace H : (if (!(t119 == t128) || (!(t120 == t129) || (!(t121 == t130) || (!(t122 == t131) || (!(t123 == t132) || (!(t124 == t133) || (!(t125 == t134)))))))) = true then (drachmlaw03_DimsBack.j0 k a1 t102 t126 true t103 t104 t105 t106 t107 t108 t109 t111 t112 t113 t114 t115 t116 t117 t119 t120 t121 t122 t123 t124 t125) else (drachmlaw03_DimsBack.j0 k a1 t102 t126 (t126 != t135) t103 t104 t105 t106 t107 t108 t109 t111 t112 t113 t114 t115 t116 t117 t119 t120 t121 t122 t123 t124 t125)) = some r := H
 have A7 := Aside0.mk A70
 clear A70
 have HC8 := Aside0.mk H
 clear H
 go_enter Tryd.func7, Tryd.ntmps7
 go_upto_region 6 with (first | ((with_reducible refine gate_dst (N := 2) rfl ?_); refine box_event ?hg (N := 2) ?hd (cs := #[.int .i64 a0_0, .int .i64 a0_1, .int .i64 a0_2, .int .i64 a0_3, .int .i64 a0_4, .int .i64 a0_5, .int .i64 a0_6, .int .i64 a0_7, .int .i64 a0_8, .int .i64 a0_9, .int .i64 a0_10, .int .i64 a0_11, .int .i64 a0_12, .int .i64 a0_13]) (t := 35) ?hr ?_; (case hd => rfl); (case hg => rfl); (case hr => first | (go_simp; done) | (go_simp; rfl)); intro gb101 hg w9 hbox hb; have n0_ := Aside0.mk (below_step (bl HB.out) hb); have n1_ := Aside0.mk (hbox); have n2_ := Aside0.mk ((by rw [hg]; exact (below_size (bl HB.out)) : w.heap.size ≤ gb101)); have n3_ := Aside0.mk ((by rw [hg]; exact (below_size (bl HB.out)) : w.heap.size ≤ gb101)); clear HB; have HB := n0_; have BK101 := n1_; have GW101 := n2_; have GE101 := n3_; clear n0_ n1_ n2_ n3_; clear hb hbox hg) | ((with_reducible refine gate_callee (f := 9) rfl ?_); refine goesL_ (some 24) rfl rfl Tryd.func9 (by kernel_rfl) rfl #[] rfl (by (try simp only [List.map_toArray, List.map_cons, List.map_nil]); first | done | rfl | (simp only [List.length_drop, List.length_take]; rfl)) ?_; (with_reducible refine (drachmlaw03_awake.calls  t102 _ (Glob.use hG (by decide) (bl HB.out)) A3.out).mono ?_); rintro e w10 ⟨rfl, hb⟩; refine ⟨_, rfl, ?_⟩; replace BK101 := Aside0.mk (blk_below (kp BK101.out) hb); replace HB := Aside0.mk (below_step (bl HB.out) hb); (try clear hb); (try clear hb2); (try clear hk); (try clear hi); have hcz11_0 : w10.cell? ⟨gb101, 0, none⟩ = some (.int .i64 a0_0) := (blk_cell BK101.out 0).trans rfl; have hcz11_1 : w10.cell? ⟨gb101, 1, none⟩ = some (.int .i64 a0_1) := (blk_cell BK101.out 1).trans rfl; have hcz11_2 : w10.cell? ⟨gb101, 2, none⟩ = some (.int .i64 a0_2) := (blk_cell BK101.out 2).trans rfl; have hcz11_3 : w10.cell? ⟨gb101, 3, none⟩ = some (.int .i64 a0_3) := (blk_cell BK101.out 3).trans rfl; have hcz11_4 : w10.cell? ⟨gb101, 4, none⟩ = some (.int .i64 a0_4) := (blk_cell BK101.out 4).trans rfl; have hcz11_5 : w10.cell? ⟨gb101, 5, none⟩ = some (.int .i64 a0_5) := (blk_cell BK101.out 5).trans rfl; have hcz11_6 : w10.cell? ⟨gb101, 6, none⟩ = some (.int .i64 a0_6) := (blk_cell BK101.out 6).trans rfl; have hcz11_7 : w10.cell? ⟨gb101, 7, none⟩ = some (.int .i64 a0_7) := (blk_cell BK101.out 7).trans rfl; have hcz11_8 : w10.cell? ⟨gb101, 8, none⟩ = some (.int .i64 a0_8) := (blk_cell BK101.out 8).trans rfl; have hcz11_9 : w10.cell? ⟨gb101, 9, none⟩ = some (.int .i64 a0_9) := (blk_cell BK101.out 9).trans rfl; have hcz11_10 : w10.cell? ⟨gb101, 10, none⟩ = some (.int .i64 a0_10) := (blk_cell BK101.out 10).trans rfl; have hcz11_11 : w10.cell? ⟨gb101, 11, none⟩ = some (.int .i64 a0_11) := (blk_cell BK101.out 11).trans rfl; have hcz11_12 : w10.cell? ⟨gb101, 12, none⟩ = some (.int .i64 a0_12) := (blk_cell BK101.out 12).trans rfl; have hcz11_13 : w10.cell? ⟨gb101, 13, none⟩ = some (.int .i64 a0_13) := (blk_cell BK101.out 13).trans rfl; have hfz11_0 := blk_frozen BK101.out 0; have hfz11_1 := blk_frozen BK101.out 1; have hfz11_2 := blk_frozen BK101.out 2; have hfz11_3 := blk_frozen BK101.out 3; have hfz11_4 := blk_frozen BK101.out 4; have hfz11_5 := blk_frozen BK101.out 5; have hfz11_6 := blk_frozen BK101.out 6; have hfz11_7 := blk_frozen BK101.out 7; have hfz11_8 := blk_frozen BK101.out 8; have hfz11_9 := blk_frozen BK101.out 9; have hfz11_10 := blk_frozen BK101.out 10; have hfz11_11 := blk_frozen BK101.out 11; have hfz11_12 := blk_frozen BK101.out 12; have hfz11_13 := blk_frozen BK101.out 13) | ((with_reducible refine gate_callee (f := 10) rfl ?_); refine goesL_ (some 27) rfl rfl Tryd.func10 (by kernel_rfl) rfl #[.agg #[.int .i64 a0_0, .int .i64 a0_1, .int .i64 a0_2, .int .i64 a0_3, .int .i64 a0_4, .int .i64 a0_5, .int .i64 a0_6], .int .i64 99] rfl (by (try simp only [List.map_toArray, List.map_cons, List.map_nil]); first | done | rfl | (simp only [List.length_drop, List.length_take]; rfl)) ?_; (with_reducible refine (drachmlaw03_near.calls a0_0 a0_1 a0_2 a0_3 a0_4 a0_5 a0_6 99 t103 t104 t105 t106 t107 t108 t109 _ A4.out).mono ?_); rintro e w12 ⟨rfl, hb⟩; refine ⟨_, rfl, ?_⟩; replace BK101 := Aside0.mk (blk_below (kp BK101.out) hb); replace HB := Aside0.mk (below_step (bl HB.out) hb); (try clear hb); (try clear hb2); (try clear hk); (try clear hi)) | ((with_reducible refine gate_dst (N := 6) rfl ?_); refine box_event ?hg (N := 6) ?hd (cs := #[.int .i64 0, .int .i64 0, .int .i64 0, .int .i64 0, .int .i64 0, .int .i64 0, .int .i64 0]) (t := 23) ?hr ?_; (case hd => rfl); (case hg => rfl); (case hr => first | (go_simp; done) | (go_simp; rfl)); intro gb110 hg w13 hbox hb; have n0_ := Aside0.mk (blk_below (kp BK101.out) hb); have n1_ := Aside0.mk (below_step (bl HB.out) hb); have n2_ := Aside0.mk (hbox); have n3_ := Aside0.mk ((by rw [hg]; exact (below_size (bl HB.out)) : w.heap.size ≤ gb110)); have n4_ := Aside0.mk ((by rw [hg]; exact (below_size (bl HB.out)) : w.heap.size ≤ gb110)); have n5_ := Aside0.mk ((by rw [hg]; exact Nat.ne_of_lt (blk_lt (kp BK101.out)) : gb101 ≠ gb110)); have n6_ := Aside0.mk ((by rw [hg]; exact Nat.ne_of_gt (blk_lt (kp BK101.out)) : gb110 ≠ gb101)); clear BK101; clear HB; have BK101 := n0_; have HB := n1_; have BK110 := n2_; have GW110 := n3_; have GE110 := n4_; have NB101_110 := n5_; have NB110_101 := n6_; clear n0_ n1_ n2_ n3_ n4_ n5_ n6_; clear hb hbox hg; have hnb14 := NB110_101.out; have hnc14 := NB101_110.out; have hcz15_0 : w13.cell? ⟨gb110, 0, none⟩ = some (.int .i64 0) := (blk_cell BK110.out 0).trans rfl; have hcz15_1 : w13.cell? ⟨gb110, 1, none⟩ = some (.int .i64 0) := (blk_cell BK110.out 1).trans rfl; have hcz15_2 : w13.cell? ⟨gb110, 2, none⟩ = some (.int .i64 0) := (blk_cell BK110.out 2).trans rfl; have hcz15_3 : w13.cell? ⟨gb110, 3, none⟩ = some (.int .i64 0) := (blk_cell BK110.out 3).trans rfl; have hcz15_4 : w13.cell? ⟨gb110, 4, none⟩ = some (.int .i64 0) := (blk_cell BK110.out 4).trans rfl; have hcz15_5 : w13.cell? ⟨gb110, 5, none⟩ = some (.int .i64 0) := (blk_cell BK110.out 5).trans rfl; have hcz15_6 : w13.cell? ⟨gb110, 6, none⟩ = some (.int .i64 0) := (blk_cell BK110.out 6).trans rfl; have hfz15_0 := blk_frozen BK110.out 0; have hfz15_1 := blk_frozen BK110.out 1; have hfz15_2 := blk_frozen BK110.out 2; have hfz15_3 := blk_frozen BK110.out 3; have hfz15_4 := blk_frozen BK110.out 4; have hfz15_5 := blk_frozen BK110.out 5; have hfz15_6 := blk_frozen BK110.out 6; have hcz16_0 : w13.cell? ⟨gb101, 0, none⟩ = some (.int .i64 a0_0) := (blk_cell BK101.out 0).trans rfl; have hcz16_1 : w13.cell? ⟨gb101, 1, none⟩ = some (.int .i64 a0_1) := (blk_cell BK101.out 1).trans rfl; have hcz16_2 : w13.cell? ⟨gb101, 2, none⟩ = some (.int .i64 a0_2) := (blk_cell BK101.out 2).trans rfl; have hcz16_3 : w13.cell? ⟨gb101, 3, none⟩ = some (.int .i64 a0_3) := (blk_cell BK101.out 3).trans rfl; have hcz16_4 : w13.cell? ⟨gb101, 4, none⟩ = some (.int .i64 a0_4) := (blk_cell BK101.out 4).trans rfl; have hcz16_5 : w13.cell? ⟨gb101, 5, none⟩ = some (.int .i64 a0_5) := (blk_cell BK101.out 5).trans rfl; have hcz16_6 : w13.cell? ⟨gb101, 6, none⟩ = some (.int .i64 a0_6) := (blk_cell BK101.out 6).trans rfl; have hcz16_7 : w13.cell? ⟨gb101, 7, none⟩ = some (.int .i64 a0_7) := (blk_cell BK101.out 7).trans rfl; have hcz16_8 : w13.cell? ⟨gb101, 8, none⟩ = some (.int .i64 a0_8) := (blk_cell BK101.out 8).trans rfl; have hcz16_9 : w13.cell? ⟨gb101, 9, none⟩ = some (.int .i64 a0_9) := (blk_cell BK101.out 9).trans rfl; have hcz16_10 : w13.cell? ⟨gb101, 10, none⟩ = some (.int .i64 a0_10) := (blk_cell BK101.out 10).trans rfl; have hcz16_11 : w13.cell? ⟨gb101, 11, none⟩ = some (.int .i64 a0_11) := (blk_cell BK101.out 11).trans rfl; have hcz16_12 : w13.cell? ⟨gb101, 12, none⟩ = some (.int .i64 a0_12) := (blk_cell BK101.out 12).trans rfl; have hcz16_13 : w13.cell? ⟨gb101, 13, none⟩ = some (.int .i64 a0_13) := (blk_cell BK101.out 13).trans rfl; have hfz16_0 := blk_frozen BK101.out 0; have hfz16_1 := blk_frozen BK101.out 1; have hfz16_2 := blk_frozen BK101.out 2; have hfz16_3 := blk_frozen BK101.out 3; have hfz16_4 := blk_frozen BK101.out 4; have hfz16_5 := blk_frozen BK101.out 5; have hfz16_6 := blk_frozen BK101.out 6; have hfz16_7 := blk_frozen BK101.out 7; have hfz16_8 := blk_frozen BK101.out 8; have hfz16_9 := blk_frozen BK101.out 9; have hfz16_10 := blk_frozen BK101.out 10; have hfz16_11 := blk_frozen BK101.out 11; have hfz16_12 := blk_frozen BK101.out 12; have hfz16_13 := blk_frozen BK101.out 13) | ((with_reducible refine gate_callee (f := 10) rfl ?_); refine goesL_ (some 30) rfl rfl Tryd.func10 (by kernel_rfl) rfl #[.agg #[.int .i64 a0_7, .int .i64 a0_8, .int .i64 a0_9, .int .i64 a0_10, .int .i64 a0_11, .int .i64 a0_12, .int .i64 a0_13], .int .i64 99] rfl (by (try simp only [List.map_toArray, List.map_cons, List.map_nil]); first | done | rfl | (simp only [List.length_drop, List.length_take]; rfl)) ?_; (with_reducible refine (drachmlaw03_near.calls a0_7 a0_8 a0_9 a0_10 a0_11 a0_12 a0_13 99 t111 t112 t113 t114 t115 t116 t117 _ A5.out).mono ?_); rintro e w17 ⟨rfl, hb⟩; refine ⟨_, rfl, ?_⟩; have n0_ := Aside0.mk (blk_below (kp BK101.out) hb); have n1_ := Aside0.mk (blk_below (g := gb110) (o := .cells #[.int .i64 t103, .int .i64 t104, .int .i64 t105, .int .i64 t106, .int .i64 t107, .int .i64 t108, .int .i64 t109] 23 (0, 0)) (by (with_reducible repeat (first | refine blk_drewN ?_ _ | refine blk_drew ?_ | refine blk_alloc ?_ _)); refine blk_put (cs := #[.int .i64 t103, .int .i64 t104, .int .i64 t105, .int .i64 t106, .int .i64 t107, .int .i64 t108, .int .i64 0]) ?_ 6 _ rfl; (with_reducible repeat (first | refine blk_drewN ?_ _ | refine blk_drew ?_ | refine blk_alloc ?_ _)); refine blk_put (cs := #[.int .i64 t103, .int .i64 t104, .int .i64 t105, .int .i64 t106, .int .i64 t107, .int .i64 0, .int .i64 0]) ?_ 5 _ rfl; (with_reducible repeat (first | refine blk_drewN ?_ _ | refine blk_drew ?_ | refine blk_alloc ?_ _)); refine blk_put (cs := #[.int .i64 t103, .int .i64 t104, .int .i64 t105, .int .i64 t106, .int .i64 0, .int .i64 0, .int .i64 0]) ?_ 4 _ rfl; (with_reducible repeat (first | refine blk_drewN ?_ _ | refine blk_drew ?_ | refine blk_alloc ?_ _)); refine blk_put (cs := #[.int .i64 t103, .int .i64 t104, .int .i64 t105, .int .i64 0, .int .i64 0, .int .i64 0, .int .i64 0]) ?_ 3 _ rfl; (with_reducible repeat (first | refine blk_drewN ?_ _ | refine blk_drew ?_ | refine blk_alloc ?_ _)); refine blk_put (cs := #[.int .i64 t103, .int .i64 t104, .int .i64 0, .int .i64 0, .int .i64 0, .int .i64 0, .int .i64 0]) ?_ 2 _ rfl; (with_reducible repeat (first | refine blk_drewN ?_ _ | refine blk_drew ?_ | refine blk_alloc ?_ _)); refine blk_put (cs := #[.int .i64 t103, .int .i64 0, .int .i64 0, .int .i64 0, .int .i64 0, .int .i64 0, .int .i64 0]) ?_ 1 _ rfl; (with_reducible repeat (first | refine blk_drewN ?_ _ | refine blk_drew ?_ | refine blk_alloc ?_ _)); refine blk_put (cs := #[.int .i64 0, .int .i64 0, .int .i64 0, .int .i64 0, .int .i64 0, .int .i64 0, .int .i64 0]) ?_ 0 _ rfl; (with_reducible repeat (first | refine blk_drewN ?_ _ | refine blk_drew ?_ | refine blk_alloc ?_ _)); exact BK110.out) hb); have n2_ := Aside0.mk (below_step (bl HB.out) hb); clear BK101; clear BK110; clear HB; have BK101 := n0_; have BK110 := n1_; have HB := n2_; clear n0_ n1_ n2_; (try clear hb); (try clear hb2); (try clear hk); (try clear hi)) | ((with_reducible refine gate_dst (N := 7) rfl ?_); refine box_event ?hg (N := 7) ?hd (cs := #[.int .i64 0, .int .i64 0, .int .i64 0, .int .i64 0, .int .i64 0, .int .i64 0, .int .i64 0]) (t := 23) ?hr ?_; (case hd => rfl); (case hg => rfl); (case hr => first | (go_simp; done) | (go_simp; rfl)); intro gb118 hg w18 hbox hb; have n0_ := Aside0.mk (blk_below (kp BK101.out) hb); have n1_ := Aside0.mk (blk_below (kp BK110.out) hb); have n2_ := Aside0.mk (below_step (bl HB.out) hb); have n3_ := Aside0.mk (hbox); have n4_ := Aside0.mk ((by rw [hg]; exact (below_size (bl HB.out)) : w.heap.size ≤ gb118)); have n5_ := Aside0.mk ((by rw [hg]; exact (below_size (bl HB.out)) : w.heap.size ≤ gb118)); have n6_ := Aside0.mk ((by rw [hg]; exact Nat.ne_of_lt (blk_lt (kp BK101.out)) : gb101 ≠ gb118)); have n7_ := Aside0.mk ((by rw [hg]; exact Nat.ne_of_gt (blk_lt (kp BK101.out)) : gb118 ≠ gb101)); have n8_ := Aside0.mk ((by rw [hg]; exact Nat.ne_of_lt (blk_lt (kp BK110.out)) : gb110 ≠ gb118)); have n9_ := Aside0.mk ((by rw [hg]; exact Nat.ne_of_gt (blk_lt (kp BK110.out)) : gb118 ≠ gb110)); clear BK101; clear BK110; clear HB; have BK101 := n0_; have BK110 := n1_; have HB := n2_; have BK118 := n3_; have GW118 := n4_; have GE118 := n5_; have NB101_118 := n6_; have NB118_101 := n7_; have NB110_118 := n8_; have NB118_110 := n9_; clear n0_ n1_ n2_ n3_ n4_ n5_ n6_ n7_ n8_ n9_; clear hb hbox hg; have hnb19 := NB118_101.out; have hnc19 := NB101_118.out; have hnb20 := NB118_110.out; have hnc20 := NB110_118.out; have hcz21_0 : w18.cell? ⟨gb118, 0, none⟩ = some (.int .i64 0) := (blk_cell BK118.out 0).trans rfl; have hcz21_1 : w18.cell? ⟨gb118, 1, none⟩ = some (.int .i64 0) := (blk_cell BK118.out 1).trans rfl; have hcz21_2 : w18.cell? ⟨gb118, 2, none⟩ = some (.int .i64 0) := (blk_cell BK118.out 2).trans rfl; have hcz21_3 : w18.cell? ⟨gb118, 3, none⟩ = some (.int .i64 0) := (blk_cell BK118.out 3).trans rfl; have hcz21_4 : w18.cell? ⟨gb118, 4, none⟩ = some (.int .i64 0) := (blk_cell BK118.out 4).trans rfl; have hcz21_5 : w18.cell? ⟨gb118, 5, none⟩ = some (.int .i64 0) := (blk_cell BK118.out 5).trans rfl; have hcz21_6 : w18.cell? ⟨gb118, 6, none⟩ = some (.int .i64 0) := (blk_cell BK118.out 6).trans rfl; have hfz21_0 := blk_frozen BK118.out 0; have hfz21_1 := blk_frozen BK118.out 1; have hfz21_2 := blk_frozen BK118.out 2; have hfz21_3 := blk_frozen BK118.out 3; have hfz21_4 := blk_frozen BK118.out 4; have hfz21_5 := blk_frozen BK118.out 5; have hfz21_6 := blk_frozen BK118.out 6; have hcz22_0 : w18.cell? ⟨gb110, 0, none⟩ = some (.int .i64 t103) := (blk_cell BK110.out 0).trans rfl; have hcz22_1 : w18.cell? ⟨gb110, 1, none⟩ = some (.int .i64 t104) := (blk_cell BK110.out 1).trans rfl; have hcz22_2 : w18.cell? ⟨gb110, 2, none⟩ = some (.int .i64 t105) := (blk_cell BK110.out 2).trans rfl; have hcz22_3 : w18.cell? ⟨gb110, 3, none⟩ = some (.int .i64 t106) := (blk_cell BK110.out 3).trans rfl; have hcz22_4 : w18.cell? ⟨gb110, 4, none⟩ = some (.int .i64 t107) := (blk_cell BK110.out 4).trans rfl; have hcz22_5 : w18.cell? ⟨gb110, 5, none⟩ = some (.int .i64 t108) := (blk_cell BK110.out 5).trans rfl; have hcz22_6 : w18.cell? ⟨gb110, 6, none⟩ = some (.int .i64 t109) := (blk_cell BK110.out 6).trans rfl; have hfz22_0 := blk_frozen BK110.out 0; have hfz22_1 := blk_frozen BK110.out 1; have hfz22_2 := blk_frozen BK110.out 2; have hfz22_3 := blk_frozen BK110.out 3; have hfz22_4 := blk_frozen BK110.out 4; have hfz22_5 := blk_frozen BK110.out 5; have hfz22_6 := blk_frozen BK110.out 6) | ((with_reducible refine gate_callee (f := 16) rfl ?_); refine goesL_ (some 34) rfl rfl Tryd.func16 (by kernel_rfl) rfl #[.agg #[.int .i64 t103, .int .i64 t104, .int .i64 t105, .int .i64 t106, .int .i64 t107, .int .i64 t108, .int .i64 t109], .agg #[.int .i64 t111, .int .i64 t112, .int .i64 t113, .int .i64 t114, .int .i64 t115, .int .i64 t116, .int .i64 t117]] rfl (by (try simp only [List.map_toArray, List.map_cons, List.map_nil]); first | done | rfl | (simp only [List.length_drop, List.length_take]; rfl)) ?_; (with_reducible refine (dims_Add.calls t103 t104 t105 t106 t107 t108 t109 t111 t112 t113 t114 t115 t116 t117 t119 t120 t121 t122 t123 t124 t125 t126 _ A6.out).mono ?_); rintro e w23 ⟨rfl, hb⟩; refine ⟨_, rfl, ?_⟩; have n0_ := Aside0.mk (blk_below (kp BK101.out) hb); have n1_ := Aside0.mk (blk_below (kp BK110.out) hb); have n2_ := Aside0.mk (blk_below (g := gb118) (o := .cells #[.int .i64 t111, .int .i64 t112, .int .i64 t113, .int .i64 t114, .int .i64 t115, .int .i64 t116, .int .i64 t117] 23 (0, 0)) (by (with_reducible repeat (first | refine blk_drewN ?_ _ | refine blk_drew ?_ | refine blk_alloc ?_ _)); refine blk_put (cs := #[.int .i64 t111, .int .i64 t112, .int .i64 t113, .int .i64 t114, .int .i64 t115, .int .i64 t116, .int .i64 0]) ?_ 6 _ rfl; (with_reducible repeat (first | refine blk_drewN ?_ _ | refine blk_drew ?_ | refine blk_alloc ?_ _)); refine blk_put (cs := #[.int .i64 t111, .int .i64 t112, .int .i64 t113, .int .i64 t114, .int .i64 t115, .int .i64 0, .int .i64 0]) ?_ 5 _ rfl; (with_reducible repeat (first | refine blk_drewN ?_ _ | refine blk_drew ?_ | refine blk_alloc ?_ _)); refine blk_put (cs := #[.int .i64 t111, .int .i64 t112, .int .i64 t113, .int .i64 t114, .int .i64 0, .int .i64 0, .int .i64 0]) ?_ 4 _ rfl; (with_reducible repeat (first | refine blk_drewN ?_ _ | refine blk_drew ?_ | refine blk_alloc ?_ _)); refine blk_put (cs := #[.int .i64 t111, .int .i64 t112, .int .i64 t113, .int .i64 0, .int .i64 0, .int .i64 0, .int .i64 0]) ?_ 3 _ rfl; (with_reducible repeat (first | refine blk_drewN ?_ _ | refine blk_drew ?_ | refine blk_alloc ?_ _)); refine blk_put (cs := #[.int .i64 t111, .int .i64 t112, .int .i64 0, .int .i64 0, .int .i64 0, .int .i64 0, .int .i64 0]) ?_ 2 _ rfl; (with_reducible repeat (first | refine blk_drewN ?_ _ | refine blk_drew ?_ | refine blk_alloc ?_ _)); refine blk_put (cs := #[.int .i64 t111, .int .i64 0, .int .i64 0, .int .i64 0, .int .i64 0, .int .i64 0, .int .i64 0]) ?_ 1 _ rfl; (with_reducible repeat (first | refine blk_drewN ?_ _ | refine blk_drew ?_ | refine blk_alloc ?_ _)); refine blk_put (cs := #[.int .i64 0, .int .i64 0, .int .i64 0, .int .i64 0, .int .i64 0, .int .i64 0, .int .i64 0]) ?_ 0 _ rfl; (with_reducible repeat (first | refine blk_drewN ?_ _ | refine blk_drew ?_ | refine blk_alloc ?_ _)); exact BK118.out) hb); have n3_ := Aside0.mk (below_step (bl HB.out) hb); clear BK101; clear BK110; clear BK118; clear HB; have BK101 := n0_; have BK110 := n1_; have BK118 := n2_; have HB := n3_; clear n0_ n1_ n2_ n3_; (try clear hb); (try clear hb2); (try clear hk); (try clear hi)) | ((with_reducible refine gate_dst (N := 8) rfl ?_); refine box_event ?hg (N := 8) ?hd (cs := #[.int .i64 0, .int .i64 0, .int .i64 0, .int .i64 0, .int .i64 0, .int .i64 0, .int .i64 0]) (t := 23) ?hr ?_; (case hd => rfl); (case hg => rfl); (case hr => first | (go_simp; done) | (go_simp; rfl)); intro gb127 hg w24 hbox hb; have n0_ := Aside0.mk (blk_below (kp BK101.out) hb); have n1_ := Aside0.mk (blk_below (kp BK110.out) hb); have n2_ := Aside0.mk (blk_below (kp BK118.out) hb); have n3_ := Aside0.mk (below_step (bl HB.out) hb); have n4_ := Aside0.mk (hbox); have n5_ := Aside0.mk ((by rw [hg]; exact (below_size (bl HB.out)) : w.heap.size ≤ gb127)); have n6_ := Aside0.mk ((by rw [hg]; exact (below_size (bl HB.out)) : w.heap.size ≤ gb127)); have n7_ := Aside0.mk ((by rw [hg]; exact Nat.ne_of_lt (blk_lt (kp BK101.out)) : gb101 ≠ gb127)); have n8_ := Aside0.mk ((by rw [hg]; exact Nat.ne_of_gt (blk_lt (kp BK101.out)) : gb127 ≠ gb101)); have n9_ := Aside0.mk ((by rw [hg]; exact Nat.ne_of_lt (blk_lt (kp BK110.out)) : gb110 ≠ gb127)); have n10_ := Aside0.mk ((by rw [hg]; exact Nat.ne_of_gt (blk_lt (kp BK110.out)) : gb127 ≠ gb110)); have n11_ := Aside0.mk ((by rw [hg]; exact Nat.ne_of_lt (blk_lt (kp BK118.out)) : gb118 ≠ gb127)); have n12_ := Aside0.mk ((by rw [hg]; exact Nat.ne_of_gt (blk_lt (kp BK118.out)) : gb127 ≠ gb118)); clear BK101; clear BK110; clear BK118; clear HB; have BK101 := n0_; have BK110 := n1_; have BK118 := n2_; have HB := n3_; have BK127 := n4_; have GW127 := n5_; have GE127 := n6_; have NB101_127 := n7_; have NB127_101 := n8_; have NB110_127 := n9_; have NB127_110 := n10_; have NB118_127 := n11_; have NB127_118 := n12_; clear n0_ n1_ n2_ n3_ n4_ n5_ n6_ n7_ n8_ n9_ n10_ n11_ n12_; clear hb hbox hg; have hnb25 := NB127_101.out; have hnc25 := NB101_127.out; have hnb26 := NB127_110.out; have hnc26 := NB110_127.out; have hnb27 := NB127_118.out; have hnc27 := NB118_127.out; have hcz28_0 : w24.cell? ⟨gb127, 0, none⟩ = some (.int .i64 0) := (blk_cell BK127.out 0).trans rfl; have hcz28_1 : w24.cell? ⟨gb127, 1, none⟩ = some (.int .i64 0) := (blk_cell BK127.out 1).trans rfl; have hcz28_2 : w24.cell? ⟨gb127, 2, none⟩ = some (.int .i64 0) := (blk_cell BK127.out 2).trans rfl; have hcz28_3 : w24.cell? ⟨gb127, 3, none⟩ = some (.int .i64 0) := (blk_cell BK127.out 3).trans rfl; have hcz28_4 : w24.cell? ⟨gb127, 4, none⟩ = some (.int .i64 0) := (blk_cell BK127.out 4).trans rfl; have hcz28_5 : w24.cell? ⟨gb127, 5, none⟩ = some (.int .i64 0) := (blk_cell BK127.out 5).trans rfl; have hcz28_6 : w24.cell? ⟨gb127, 6, none⟩ = some (.int .i64 0) := (blk_cell BK127.out 6).trans rfl; have hfz28_0 := blk_frozen BK127.out 0; have hfz28_1 := blk_frozen BK127.out 1; have hfz28_2 := blk_frozen BK127.out 2; have hfz28_3 := blk_frozen BK127.out 3; have hfz28_4 := blk_frozen BK127.out 4; have hfz28_5 := blk_frozen BK127.out 5; have hfz28_6 := blk_frozen BK127.out 6; have hcz29_0 : w24.cell? ⟨gb118, 0, none⟩ = some (.int .i64 t111) := (blk_cell BK118.out 0).trans rfl; have hcz29_1 : w24.cell? ⟨gb118, 1, none⟩ = some (.int .i64 t112) := (blk_cell BK118.out 1).trans rfl; have hcz29_2 : w24.cell? ⟨gb118, 2, none⟩ = some (.int .i64 t113) := (blk_cell BK118.out 2).trans rfl; have hcz29_3 : w24.cell? ⟨gb118, 3, none⟩ = some (.int .i64 t114) := (blk_cell BK118.out 3).trans rfl; have hcz29_4 : w24.cell? ⟨gb118, 4, none⟩ = some (.int .i64 t115) := (blk_cell BK118.out 4).trans rfl; have hcz29_5 : w24.cell? ⟨gb118, 5, none⟩ = some (.int .i64 t116) := (blk_cell BK118.out 5).trans rfl; have hcz29_6 : w24.cell? ⟨gb118, 6, none⟩ = some (.int .i64 t117) := (blk_cell BK118.out 6).trans rfl; have hfz29_0 := blk_frozen BK118.out 0; have hfz29_1 := blk_frozen BK118.out 1; have hfz29_2 := blk_frozen BK118.out 2; have hfz29_3 := blk_frozen BK118.out 3; have hfz29_4 := blk_frozen BK118.out 4; have hfz29_5 := blk_frozen BK118.out 5; have hfz29_6 := blk_frozen BK118.out 6; have hcz30_0 : w24.cell? ⟨gb110, 0, none⟩ = some (.int .i64 t103) := (blk_cell BK110.out 0).trans rfl; have hcz30_1 : w24.cell? ⟨gb110, 1, none⟩ = some (.int .i64 t104) := (blk_cell BK110.out 1).trans rfl; have hcz30_2 : w24.cell? ⟨gb110, 2, none⟩ = some (.int .i64 t105) := (blk_cell BK110.out 2).trans rfl; have hcz30_3 : w24.cell? ⟨gb110, 3, none⟩ = some (.int .i64 t106) := (blk_cell BK110.out 3).trans rfl; have hcz30_4 : w24.cell? ⟨gb110, 4, none⟩ = some (.int .i64 t107) := (blk_cell BK110.out 4).trans rfl; have hcz30_5 : w24.cell? ⟨gb110, 5, none⟩ = some (.int .i64 t108) := (blk_cell BK110.out 5).trans rfl; have hcz30_6 : w24.cell? ⟨gb110, 6, none⟩ = some (.int .i64 t109) := (blk_cell BK110.out 6).trans rfl; have hfz30_0 := blk_frozen BK110.out 0; have hfz30_1 := blk_frozen BK110.out 1; have hfz30_2 := blk_frozen BK110.out 2; have hfz30_3 := blk_frozen BK110.out 3; have hfz30_4 := blk_frozen BK110.out 4; have hfz30_5 := blk_frozen BK110.out 5; have hfz30_6 := blk_frozen BK110.out 6) | ((with_reducible refine gate_callee (f := 16) rfl ?_); refine goesL_ (some 40) rfl rfl Tryd.func16 (by kernel_rfl) rfl #[.agg #[.int .i64 t111, .int .i64 t112, .int .i64 t113, .int .i64 t114, .int .i64 t115, .int .i64 t116, .int .i64 t117], .agg #[.int .i64 t103, .int .i64 t104, .int .i64 t105, .int .i64 t106, .int .i64 t107, .int .i64 t108, .int .i64 t109]] rfl (by (try simp only [List.map_toArray, List.map_cons, List.map_nil]); first | done | rfl | (simp only [List.length_drop, List.length_take]; rfl)) ?_; (with_reducible refine (dims_Add.calls t111 t112 t113 t114 t115 t116 t117 t103 t104 t105 t106 t107 t108 t109 t128 t129 t130 t131 t132 t133 t134 t135 _ A7.out).mono ?_); rintro e w31 ⟨rfl, hb⟩; refine ⟨_, rfl, ?_⟩; have n0_ := Aside0.mk (blk_below (kp BK101.out) hb); have n1_ := Aside0.mk (blk_below (kp BK110.out) hb); have n2_ := Aside0.mk (blk_below (kp BK118.out) hb); have n3_ := Aside0.mk (blk_below (g := gb127) (o := .cells #[.int .i64 t119, .int .i64 t120, .int .i64 t121, .int .i64 t122, .int .i64 t123, .int .i64 t124, .int .i64 t125] 23 (0, 0)) (by (with_reducible repeat (first | refine blk_drewN ?_ _ | refine blk_drew ?_ | refine blk_alloc ?_ _)); refine blk_put (cs := #[.int .i64 t119, .int .i64 t120, .int .i64 t121, .int .i64 t122, .int .i64 t123, .int .i64 t124, .int .i64 0]) ?_ 6 _ rfl; (with_reducible repeat (first | refine blk_drewN ?_ _ | refine blk_drew ?_ | refine blk_alloc ?_ _)); refine blk_put (cs := #[.int .i64 t119, .int .i64 t120, .int .i64 t121, .int .i64 t122, .int .i64 t123, .int .i64 0, .int .i64 0]) ?_ 5 _ rfl; (with_reducible repeat (first | refine blk_drewN ?_ _ | refine blk_drew ?_ | refine blk_alloc ?_ _)); refine blk_put (cs := #[.int .i64 t119, .int .i64 t120, .int .i64 t121, .int .i64 t122, .int .i64 0, .int .i64 0, .int .i64 0]) ?_ 4 _ rfl; (with_reducible repeat (first | refine blk_drewN ?_ _ | refine blk_drew ?_ | refine blk_alloc ?_ _)); refine blk_put (cs := #[.int .i64 t119, .int .i64 t120, .int .i64 t121, .int .i64 0, .int .i64 0, .int .i64 0, .int .i64 0]) ?_ 3 _ rfl; (with_reducible repeat (first | refine blk_drewN ?_ _ | refine blk_drew ?_ | refine blk_alloc ?_ _)); refine blk_put (cs := #[.int .i64 t119, .int .i64 t120, .int .i64 0, .int .i64 0, .int .i64 0, .int .i64 0, .int .i64 0]) ?_ 2 _ rfl; (with_reducible repeat (first | refine blk_drewN ?_ _ | refine blk_drew ?_ | refine blk_alloc ?_ _)); refine blk_put (cs := #[.int .i64 t119, .int .i64 0, .int .i64 0, .int .i64 0, .int .i64 0, .int .i64 0, .int .i64 0]) ?_ 1 _ rfl; (with_reducible repeat (first | refine blk_drewN ?_ _ | refine blk_drew ?_ | refine blk_alloc ?_ _)); refine blk_put (cs := #[.int .i64 0, .int .i64 0, .int .i64 0, .int .i64 0, .int .i64 0, .int .i64 0, .int .i64 0]) ?_ 0 _ rfl; (with_reducible repeat (first | refine blk_drewN ?_ _ | refine blk_drew ?_ | refine blk_alloc ?_ _)); exact BK127.out) hb); have n4_ := Aside0.mk (below_step (bl HB.out) hb); clear BK101; clear BK110; clear BK118; clear BK127; clear HB; have BK101 := n0_; have BK110 := n1_; have BK118 := n2_; have BK127 := n3_; have HB := n4_; clear n0_ n1_ n2_ n3_ n4_; (try clear hb); (try clear hb2); (try clear hk); (try clear hi)) | ((with_reducible refine gate_dst (N := 10) rfl ?_); refine box_event ?hg (N := 10) ?hd (cs := #[.int .i64 0, .int .i64 0, .int .i64 0, .int .i64 0, .int .i64 0, .int .i64 0, .int .i64 0]) (t := 23) ?hr ?_; (case hd => rfl); (case hg => rfl); (case hr => first | (go_simp; done) | (go_simp; rfl)); intro gb136 hg w32 hbox hb; have n0_ := Aside0.mk (blk_below (kp BK101.out) hb); have n1_ := Aside0.mk (blk_below (kp BK110.out) hb); have n2_ := Aside0.mk (blk_below (kp BK118.out) hb); have n3_ := Aside0.mk (blk_below (kp BK127.out) hb); have n4_ := Aside0.mk (below_step (bl HB.out) hb); have n5_ := Aside0.mk (hbox); have n6_ := Aside0.mk ((by rw [hg]; exact (below_size (bl HB.out)) : w.heap.size ≤ gb136)); have n7_ := Aside0.mk ((by rw [hg]; exact (below_size (bl HB.out)) : w.heap.size ≤ gb136)); have n8_ := Aside0.mk ((by rw [hg]; exact Nat.ne_of_lt (blk_lt (kp BK101.out)) : gb101 ≠ gb136)); have n9_ := Aside0.mk ((by rw [hg]; exact Nat.ne_of_gt (blk_lt (kp BK101.out)) : gb136 ≠ gb101)); have n10_ := Aside0.mk ((by rw [hg]; exact Nat.ne_of_lt (blk_lt (kp BK110.out)) : gb110 ≠ gb136)); have n11_ := Aside0.mk ((by rw [hg]; exact Nat.ne_of_gt (blk_lt (kp BK110.out)) : gb136 ≠ gb110)); have n12_ := Aside0.mk ((by rw [hg]; exact Nat.ne_of_lt (blk_lt (kp BK118.out)) : gb118 ≠ gb136)); have n13_ := Aside0.mk ((by rw [hg]; exact Nat.ne_of_gt (blk_lt (kp BK118.out)) : gb136 ≠ gb118)); have n14_ := Aside0.mk ((by rw [hg]; exact Nat.ne_of_lt (blk_lt (kp BK127.out)) : gb127 ≠ gb136)); have n15_ := Aside0.mk ((by rw [hg]; exact Nat.ne_of_gt (blk_lt (kp BK127.out)) : gb136 ≠ gb127)); clear BK101; clear BK110; clear BK118; clear BK127; clear HB; have BK101 := n0_; have BK110 := n1_; have BK118 := n2_; have BK127 := n3_; have HB := n4_; have BK136 := n5_; have GW136 := n6_; have GE136 := n7_; have NB101_136 := n8_; have NB136_101 := n9_; have NB110_136 := n10_; have NB136_110 := n11_; have NB118_136 := n12_; have NB136_118 := n13_; have NB127_136 := n14_; have NB136_127 := n15_; clear n0_ n1_ n2_ n3_ n4_ n5_ n6_ n7_ n8_ n9_ n10_ n11_ n12_ n13_ n14_ n15_; clear hb hbox hg; have hnb33 := NB136_101.out; have hnc33 := NB101_136.out; have hnb34 := NB136_110.out; have hnc34 := NB110_136.out; have hnb35 := NB136_118.out; have hnc35 := NB118_136.out; have hnb36 := NB136_127.out; have hnc36 := NB127_136.out; have hcz37_0 : w32.cell? ⟨gb136, 0, none⟩ = some (.int .i64 0) := (blk_cell BK136.out 0).trans rfl; have hcz37_1 : w32.cell? ⟨gb136, 1, none⟩ = some (.int .i64 0) := (blk_cell BK136.out 1).trans rfl; have hcz37_2 : w32.cell? ⟨gb136, 2, none⟩ = some (.int .i64 0) := (blk_cell BK136.out 2).trans rfl; have hcz37_3 : w32.cell? ⟨gb136, 3, none⟩ = some (.int .i64 0) := (blk_cell BK136.out 3).trans rfl; have hcz37_4 : w32.cell? ⟨gb136, 4, none⟩ = some (.int .i64 0) := (blk_cell BK136.out 4).trans rfl; have hcz37_5 : w32.cell? ⟨gb136, 5, none⟩ = some (.int .i64 0) := (blk_cell BK136.out 5).trans rfl; have hcz37_6 : w32.cell? ⟨gb136, 6, none⟩ = some (.int .i64 0) := (blk_cell BK136.out 6).trans rfl; have hfz37_0 := blk_frozen BK136.out 0; have hfz37_1 := blk_frozen BK136.out 1; have hfz37_2 := blk_frozen BK136.out 2; have hfz37_3 := blk_frozen BK136.out 3; have hfz37_4 := blk_frozen BK136.out 4; have hfz37_5 := blk_frozen BK136.out 5; have hfz37_6 := blk_frozen BK136.out 6))
 (try simp only [Act.put, List.setIfInBounds_toArray, List.set_cons_zero, List.set_cons_succ])
 go_cut [50] (fun v50 wc => ∃ (kq : Nat) (x50_7 : Bool), v50 = .bool x50_7 ∧ Aside0 (drachmlaw03_DimsBack.j0 kq a1 t102 t126 x50_7 t103 t104 t105 t106 t107 t108 t109 t111 t112 t113 t114 t115 t116 t117 t119 t120 t121 t122 t123 t124 t125 = some r) ∧ Aside0 (kq ≤ k) ∧ Aside0 (wc.heap[gb101]? = some (.cells #[.int .i64 a0_0, .int .i64 a0_1, .int .i64 a0_2, .int .i64 a0_3, .int .i64 a0_4, .int .i64 a0_5, .int .i64 a0_6, .int .i64 a0_7, .int .i64 a0_8, .int .i64 a0_9, .int .i64 a0_10, .int .i64 a0_11, .int .i64 a0_12, .int .i64 a0_13] 35 (0, 0))) ∧ Aside0 (wc.heap[gb110]? = some (.cells #[.int .i64 t103, .int .i64 t104, .int .i64 t105, .int .i64 t106, .int .i64 t107, .int .i64 t108, .int .i64 t109] 23 (0, 0))) ∧ Aside0 (wc.heap[gb118]? = some (.cells #[.int .i64 t111, .int .i64 t112, .int .i64 t113, .int .i64 t114, .int .i64 t115, .int .i64 t116, .int .i64 t117] 23 (0, 0))) ∧ Aside0 (wc.heap[gb127]? = some (.cells #[.int .i64 t119, .int .i64 t120, .int .i64 t121, .int .i64 t122, .int .i64 t123, .int .i64 t124, .int .i64 t125] 23 (0, 0))) ∧ Aside0 (wc.heap[gb136]? = some (.cells #[.int .i64 t128, .int .i64 t129, .int .i64 t130, .int .i64 t131, .int .i64 t132, .int .i64 t133, .int .i64 t134] 23 (0, 0))) ∧ Aside0 (Below w.heap.size w wc))
 case first =>
  have H := HC8.out
  clear HC8
  by_cases c38 : (!(t119 == t128) || (!(t120 == t129) || (!(t121 == t130) || (!(t122 == t131) || (!(t123 == t132) || (!(t124 == t133) || (!(t125 == t134)))))))) = true
  ·rw [if_pos c38] at H
   have c38b0 : (!(t119 == t128) || (!(t120 == t129) || (!(t121 == t130) || (!(t122 == t131) || (!(t123 == t132) || (!(t124 == t133) || (!(t125 == t134)))))))) = true := c38
   clear c38
   (first | rw [c38b0] | (simp only [i64_w, i32_w]; rw [c38b0]) | skip)
   have H' := Aside0.mk H
   clear H
   have hnb39 := NB127_101.out
   have hnc39 := NB101_127.out
   have hnb40 := NB127_110.out
   have hnc40 := NB110_127.out
   have hnb41 := NB127_118.out
   have hnc41 := NB118_127.out
   have hnb42 := NB127_136.out
   have hnc42 := NB136_127.out
   have hcz43_0 : w32.cell? ⟨gb127, 0, none⟩ = some (.int .i64 t119) := (blk_cell BK127.out 0).trans rfl
   have hcz43_1 : w32.cell? ⟨gb127, 1, none⟩ = some (.int .i64 t120) := (blk_cell BK127.out 1).trans rfl
   have hcz43_2 : w32.cell? ⟨gb127, 2, none⟩ = some (.int .i64 t121) := (blk_cell BK127.out 2).trans rfl
   have hcz43_3 : w32.cell? ⟨gb127, 3, none⟩ = some (.int .i64 t122) := (blk_cell BK127.out 3).trans rfl
   have hcz43_4 : w32.cell? ⟨gb127, 4, none⟩ = some (.int .i64 t123) := (blk_cell BK127.out 4).trans rfl
   have hcz43_5 : w32.cell? ⟨gb127, 5, none⟩ = some (.int .i64 t124) := (blk_cell BK127.out 5).trans rfl
   have hcz43_6 : w32.cell? ⟨gb127, 6, none⟩ = some (.int .i64 t125) := (blk_cell BK127.out 6).trans rfl
   have hfz43_0 := blk_frozen BK127.out 0
   have hfz43_1 := blk_frozen BK127.out 1
   have hfz43_2 := blk_frozen BK127.out 2
   have hfz43_3 := blk_frozen BK127.out 3
   have hfz43_4 := blk_frozen BK127.out 4
   have hfz43_5 := blk_frozen BK127.out 5
   have hfz43_6 := blk_frozen BK127.out 6
   have hnb44 := NB136_101.out
   have hnc44 := NB101_136.out
   have hnb45 := NB136_110.out
   have hnc45 := NB110_136.out
   have hnb46 := NB136_118.out
   have hnc46 := NB118_136.out
   have hcz47_0 : w32.cell? ⟨gb136, 0, none⟩ = some (.int .i64 0) := (blk_cell BK136.out 0).trans rfl
   have hcz47_1 : w32.cell? ⟨gb136, 1, none⟩ = some (.int .i64 0) := (blk_cell BK136.out 1).trans rfl
   have hcz47_2 : w32.cell? ⟨gb136, 2, none⟩ = some (.int .i64 0) := (blk_cell BK136.out 2).trans rfl
   have hcz47_3 : w32.cell? ⟨gb136, 3, none⟩ = some (.int .i64 0) := (blk_cell BK136.out 3).trans rfl
   have hcz47_4 : w32.cell? ⟨gb136, 4, none⟩ = some (.int .i64 0) := (blk_cell BK136.out 4).trans rfl
   have hcz47_5 : w32.cell? ⟨gb136, 5, none⟩ = some (.int .i64 0) := (blk_cell BK136.out 5).trans rfl
   have hcz47_6 : w32.cell? ⟨gb136, 6, none⟩ = some (.int .i64 0) := (blk_cell BK136.out 6).trans rfl
   have hfz47_0 := blk_frozen BK136.out 0
   have hfz47_1 := blk_frozen BK136.out 1
   have hfz47_2 := blk_frozen BK136.out 2
   have hfz47_3 := blk_frozen BK136.out 3
   have hfz47_4 := blk_frozen BK136.out 4
   have hfz47_5 := blk_frozen BK136.out 5
   have hfz47_6 := blk_frozen BK136.out 6
   go_wp2
   go_meet
   case rel => exact ⟨_, (true), (by first | rfl | (simp; done) | (simp [*]; done)), H', ⟨by first | omega | exact Nat.le_refl _⟩, ⟨kp BK101.out⟩, ⟨kp BK110.out⟩, ⟨kp BK118.out⟩, ⟨kp BK127.out⟩, ⟨by (with_reducible repeat (first | refine blk_drewN ?_ _ | refine blk_drew ?_ | refine blk_alloc ?_ _)); refine blk_put (cs := #[.int .i64 t128, .int .i64 t129, .int .i64 t130, .int .i64 t131, .int .i64 t132, .int .i64 t133, .int .i64 0]) ?_ 6 _ rfl; (with_reducible repeat (first | refine blk_drewN ?_ _ | refine blk_drew ?_ | refine blk_alloc ?_ _)); refine blk_put (cs := #[.int .i64 t128, .int .i64 t129, .int .i64 t130, .int .i64 t131, .int .i64 t132, .int .i64 0, .int .i64 0]) ?_ 5 _ rfl; (with_reducible repeat (first | refine blk_drewN ?_ _ | refine blk_drew ?_ | refine blk_alloc ?_ _)); refine blk_put (cs := #[.int .i64 t128, .int .i64 t129, .int .i64 t130, .int .i64 t131, .int .i64 0, .int .i64 0, .int .i64 0]) ?_ 4 _ rfl; (with_reducible repeat (first | refine blk_drewN ?_ _ | refine blk_drew ?_ | refine blk_alloc ?_ _)); refine blk_put (cs := #[.int .i64 t128, .int .i64 t129, .int .i64 t130, .int .i64 0, .int .i64 0, .int .i64 0, .int .i64 0]) ?_ 3 _ rfl; (with_reducible repeat (first | refine blk_drewN ?_ _ | refine blk_drew ?_ | refine blk_alloc ?_ _)); refine blk_put (cs := #[.int .i64 t128, .int .i64 t129, .int .i64 0, .int .i64 0, .int .i64 0, .int .i64 0, .int .i64 0]) ?_ 2 _ rfl; (with_reducible repeat (first | refine blk_drewN ?_ _ | refine blk_drew ?_ | refine blk_alloc ?_ _)); refine blk_put (cs := #[.int .i64 t128, .int .i64 0, .int .i64 0, .int .i64 0, .int .i64 0, .int .i64 0, .int .i64 0]) ?_ 1 _ rfl; (with_reducible repeat (first | refine blk_drewN ?_ _ | refine blk_drew ?_ | refine blk_alloc ?_ _)); refine blk_put (cs := #[.int .i64 0, .int .i64 0, .int .i64 0, .int .i64 0, .int .i64 0, .int .i64 0, .int .i64 0]) ?_ 0 _ rfl; (with_reducible repeat (first | refine blk_drewN ?_ _ | refine blk_drew ?_ | refine blk_alloc ?_ _)); exact BK136.out⟩, ⟨bl HB.out⟩⟩
  ·rw [if_neg c38] at H
   have c38b0 : (!(t119 == t128) || (!(t120 == t129) || (!(t121 == t130) || (!(t122 == t131) || (!(t123 == t132) || (!(t124 == t133) || (!(t125 == t134)))))))) = false := by simpa using c38
   clear c38
   (first | rw [c38b0] | (simp only [i64_w, i32_w]; rw [c38b0]) | skip)
   have H' := Aside0.mk H
   clear H
   have hnb48 := NB127_101.out
   have hnc48 := NB101_127.out
   have hnb49 := NB127_110.out
   have hnc49 := NB110_127.out
   have hnb50 := NB127_118.out
   have hnc50 := NB118_127.out
   have hnb51 := NB127_136.out
   have hnc51 := NB136_127.out
   have hcz52_0 : w32.cell? ⟨gb127, 0, none⟩ = some (.int .i64 t119) := (blk_cell BK127.out 0).trans rfl
   have hcz52_1 : w32.cell? ⟨gb127, 1, none⟩ = some (.int .i64 t120) := (blk_cell BK127.out 1).trans rfl
   have hcz52_2 : w32.cell? ⟨gb127, 2, none⟩ = some (.int .i64 t121) := (blk_cell BK127.out 2).trans rfl
   have hcz52_3 : w32.cell? ⟨gb127, 3, none⟩ = some (.int .i64 t122) := (blk_cell BK127.out 3).trans rfl
   have hcz52_4 : w32.cell? ⟨gb127, 4, none⟩ = some (.int .i64 t123) := (blk_cell BK127.out 4).trans rfl
   have hcz52_5 : w32.cell? ⟨gb127, 5, none⟩ = some (.int .i64 t124) := (blk_cell BK127.out 5).trans rfl
   have hcz52_6 : w32.cell? ⟨gb127, 6, none⟩ = some (.int .i64 t125) := (blk_cell BK127.out 6).trans rfl
   have hfz52_0 := blk_frozen BK127.out 0
   have hfz52_1 := blk_frozen BK127.out 1
   have hfz52_2 := blk_frozen BK127.out 2
   have hfz52_3 := blk_frozen BK127.out 3
   have hfz52_4 := blk_frozen BK127.out 4
   have hfz52_5 := blk_frozen BK127.out 5
   have hfz52_6 := blk_frozen BK127.out 6
   have hnb53 := NB136_101.out
   have hnc53 := NB101_136.out
   have hnb54 := NB136_110.out
   have hnc54 := NB110_136.out
   have hnb55 := NB136_118.out
   have hnc55 := NB118_136.out
   have hcz56_0 : w32.cell? ⟨gb136, 0, none⟩ = some (.int .i64 0) := (blk_cell BK136.out 0).trans rfl
   have hcz56_1 : w32.cell? ⟨gb136, 1, none⟩ = some (.int .i64 0) := (blk_cell BK136.out 1).trans rfl
   have hcz56_2 : w32.cell? ⟨gb136, 2, none⟩ = some (.int .i64 0) := (blk_cell BK136.out 2).trans rfl
   have hcz56_3 : w32.cell? ⟨gb136, 3, none⟩ = some (.int .i64 0) := (blk_cell BK136.out 3).trans rfl
   have hcz56_4 : w32.cell? ⟨gb136, 4, none⟩ = some (.int .i64 0) := (blk_cell BK136.out 4).trans rfl
   have hcz56_5 : w32.cell? ⟨gb136, 5, none⟩ = some (.int .i64 0) := (blk_cell BK136.out 5).trans rfl
   have hcz56_6 : w32.cell? ⟨gb136, 6, none⟩ = some (.int .i64 0) := (blk_cell BK136.out 6).trans rfl
   have hfz56_0 := blk_frozen BK136.out 0
   have hfz56_1 := blk_frozen BK136.out 1
   have hfz56_2 := blk_frozen BK136.out 2
   have hfz56_3 := blk_frozen BK136.out 3
   have hfz56_4 := blk_frozen BK136.out 4
   have hfz56_5 := blk_frozen BK136.out 5
   have hfz56_6 := blk_frozen BK136.out 6
   go_wp2
   go_meet
   case rel => exact ⟨_, ((t126 != t135)), (by first | rfl | (simp; done) | (simp [*]; done)), H', ⟨by first | omega | exact Nat.le_refl _⟩, ⟨kp BK101.out⟩, ⟨kp BK110.out⟩, ⟨kp BK118.out⟩, ⟨kp BK127.out⟩, ⟨by (with_reducible repeat (first | refine blk_drewN ?_ _ | refine blk_drew ?_ | refine blk_alloc ?_ _)); refine blk_put (cs := #[.int .i64 t128, .int .i64 t129, .int .i64 t130, .int .i64 t131, .int .i64 t132, .int .i64 t133, .int .i64 0]) ?_ 6 _ rfl; (with_reducible repeat (first | refine blk_drewN ?_ _ | refine blk_drew ?_ | refine blk_alloc ?_ _)); refine blk_put (cs := #[.int .i64 t128, .int .i64 t129, .int .i64 t130, .int .i64 t131, .int .i64 t132, .int .i64 0, .int .i64 0]) ?_ 5 _ rfl; (with_reducible repeat (first | refine blk_drewN ?_ _ | refine blk_drew ?_ | refine blk_alloc ?_ _)); refine blk_put (cs := #[.int .i64 t128, .int .i64 t129, .int .i64 t130, .int .i64 t131, .int .i64 0, .int .i64 0, .int .i64 0]) ?_ 4 _ rfl; (with_reducible repeat (first | refine blk_drewN ?_ _ | refine blk_drew ?_ | refine blk_alloc ?_ _)); refine blk_put (cs := #[.int .i64 t128, .int .i64 t129, .int .i64 t130, .int .i64 0, .int .i64 0, .int .i64 0, .int .i64 0]) ?_ 3 _ rfl; (with_reducible repeat (first | refine blk_drewN ?_ _ | refine blk_drew ?_ | refine blk_alloc ?_ _)); refine blk_put (cs := #[.int .i64 t128, .int .i64 t129, .int .i64 0, .int .i64 0, .int .i64 0, .int .i64 0, .int .i64 0]) ?_ 2 _ rfl; (with_reducible repeat (first | refine blk_drewN ?_ _ | refine blk_drew ?_ | refine blk_alloc ?_ _)); refine blk_put (cs := #[.int .i64 t128, .int .i64 0, .int .i64 0, .int .i64 0, .int .i64 0, .int .i64 0, .int .i64 0]) ?_ 1 _ rfl; (with_reducible repeat (first | refine blk_drewN ?_ _ | refine blk_drew ?_ | refine blk_alloc ?_ _)); refine blk_put (cs := #[.int .i64 0, .int .i64 0, .int .i64 0, .int .i64 0, .int .i64 0, .int .i64 0, .int .i64 0]) ?_ 0 _ rfl; (with_reducible repeat (first | refine blk_drewN ?_ _ | refine blk_drew ?_ | refine blk_alloc ?_ _)); exact BK136.out⟩, ⟨bl HB.out⟩⟩
 case rest =>
  clear HC8
  try clear c1
  try clear c2
  try clear p2
  try clear c3
  try clear c4
  try clear c5
  try clear c7
  try clear c9
  try clear c10
  try clear c14
  try clear c16
  try clear c19
  try clear c20
  try clear c25
  try clear c26
  try clear c27
  try clear c33
  try clear c34
  try clear c35
  try clear c36
  try clear c38
  try clear c38b0
  try clear c39
  try clear c40
  try clear c41
  try clear c42
  try clear c44
  try clear c45
  try clear c46
  try clear c48
  try clear c49
  try clear c50
  try clear c51
  try clear c53
  try clear c54
  try clear c55
  try clear hcz11_0
  try clear hcz11_1
  try clear hcz11_10
  try clear hcz11_11
  try clear hcz11_12
  try clear hcz11_13
  try clear hcz11_2
  try clear hcz11_3
  try clear hcz11_4
  try clear hcz11_5
  try clear hcz11_6
  try clear hcz11_7
  try clear hcz11_8
  try clear hcz11_9
  try clear hcz15_0
  try clear hcz15_1
  try clear hcz15_2
  try clear hcz15_3
  try clear hcz15_4
  try clear hcz15_5
  try clear hcz15_6
  try clear hcz16_0
  try clear hcz16_1
  try clear hcz16_10
  try clear hcz16_11
  try clear hcz16_12
  try clear hcz16_13
  try clear hcz16_2
  try clear hcz16_3
  try clear hcz16_4
  try clear hcz16_5
  try clear hcz16_6
  try clear hcz16_7
  try clear hcz16_8
  try clear hcz16_9
  try clear hcz21_0
  try clear hcz21_1
  try clear hcz21_2
  try clear hcz21_3
  try clear hcz21_4
  try clear hcz21_5
  try clear hcz21_6
  try clear hcz22_0
  try clear hcz22_1
  try clear hcz22_2
  try clear hcz22_3
  try clear hcz22_4
  try clear hcz22_5
  try clear hcz22_6
  try clear hcz28_0
  try clear hcz28_1
  try clear hcz28_2
  try clear hcz28_3
  try clear hcz28_4
  try clear hcz28_5
  try clear hcz28_6
  try clear hcz29_0
  try clear hcz29_1
  try clear hcz29_2
  try clear hcz29_3
  try clear hcz29_4
  try clear hcz29_5
  try clear hcz29_6
  try clear hcz30_0
  try clear hcz30_1
  try clear hcz30_2
  try clear hcz30_3
  try clear hcz30_4
  try clear hcz30_5
  try clear hcz30_6
  try clear hcz37_0
  try clear hcz37_1
  try clear hcz37_2
  try clear hcz37_3
  try clear hcz37_4
  try clear hcz37_5
  try clear hcz37_6
  try clear hcz43_0
  try clear hcz43_1
  try clear hcz43_2
  try clear hcz43_3
  try clear hcz43_4
  try clear hcz43_5
  try clear hcz43_6
  try clear hcz47_0
  try clear hcz47_1
  try clear hcz47_2
  try clear hcz47_3
  try clear hcz47_4
  try clear hcz47_5
  try clear hcz47_6
  try clear hcz52_0
  try clear hcz52_1
  try clear hcz52_2
  try clear hcz52_3
  try clear hcz52_4
  try clear hcz52_5
  try clear hcz52_6
  try clear hcz56_0
  try clear hcz56_1
  try clear hcz56_2
  try clear hcz56_3
  try clear hcz56_4
  try clear hcz56_5
  try clear hcz56_6
  try clear hfz11_0
  try clear hfz11_1
  try clear hfz11_10
  try clear hfz11_11
  try clear hfz11_12
  try clear hfz11_13
  try clear hfz11_2
  try clear hfz11_3
  try clear hfz11_4
  try clear hfz11_5
  try clear hfz11_6
  try clear hfz11_7
  try clear hfz11_8
  try clear hfz11_9
  try clear hfz15_0
  try clear hfz15_1
  try clear hfz15_2
  try clear hfz15_3
  try clear hfz15_4
  try clear hfz15_5
  try clear hfz15_6
  try clear hfz16_0
  try clear hfz16_1
  try clear hfz16_10
  try clear hfz16_11
  try clear hfz16_12
  try clear hfz16_13
  try clear hfz16_2
  try clear hfz16_3
  try clear hfz16_4
  try clear hfz16_5
  try clear hfz16_6
  try clear hfz16_7
  try clear hfz16_8
  try clear hfz16_9
  try clear hfz21_0
  try clear hfz21_1
  try clear hfz21_2
  try clear hfz21_3
  try clear hfz21_4
  try clear hfz21_5
  try clear hfz21_6
  try clear hfz22_0
  try clear hfz22_1
  try clear hfz22_2
  try clear hfz22_3
  try clear hfz22_4
  try clear hfz22_5
  try clear hfz22_6
  try clear hfz28_0
  try clear hfz28_1
  try clear hfz28_2
  try clear hfz28_3
  try clear hfz28_4
  try clear hfz28_5
  try clear hfz28_6
  try clear hfz29_0
  try clear hfz29_1
  try clear hfz29_2
  try clear hfz29_3
  try clear hfz29_4
  try clear hfz29_5
  try clear hfz29_6
  try clear hfz30_0
  try clear hfz30_1
  try clear hfz30_2
  try clear hfz30_3
  try clear hfz30_4
  try clear hfz30_5
  try clear hfz30_6
  try clear hfz37_0
  try clear hfz37_1
  try clear hfz37_2
  try clear hfz37_3
  try clear hfz37_4
  try clear hfz37_5
  try clear hfz37_6
  try clear hfz43_0
  try clear hfz43_1
  try clear hfz43_2
  try clear hfz43_3
  try clear hfz43_4
  try clear hfz43_5
  try clear hfz43_6
  try clear hfz47_0
  try clear hfz47_1
  try clear hfz47_2
  try clear hfz47_3
  try clear hfz47_4
  try clear hfz47_5
  try clear hfz47_6
  try clear hfz52_0
  try clear hfz52_1
  try clear hfz52_2
  try clear hfz52_3
  try clear hfz52_4
  try clear hfz52_5
  try clear hfz52_6
  try clear hfz56_0
  try clear hfz56_1
  try clear hfz56_2
  try clear hfz56_3
  try clear hfz56_4
  try clear hfz56_5
  try clear hfz56_6
  obtain ⟨kq, x50_7, rfl, HA, HJ7, BK101, BK110, BK118, BK127, BK136, HB⟩ := hcut
  cases kq with
  | zero => exact absurd HA.out (by simp [drachmlaw03_DimsBack.j0])
  | succ kj7 =>
   have H := HA.out
   clear HA
   simp only [drachmlaw03_DimsBack.j0] at H
   by_cases c57 : x50_7 = true
   ·subst c57
    have H1 : (none) = some r := by rw [if_pos rfl] at H; exact H
    clear H
    have H := H1
    clear H1
    exact absurd H (by simp)
   ·replace c57 := Bool.eq_false_iff.mpr c57
    subst c57
    have H1 : ((dims_Sub.f t119 t120 t121 t122 t123 t124 t125 t111 t112 t113 t114 t115 t116 t117).bind fun bt137 => (if t126 = true then (if bt137.2.2.2.2.2.2.2 = true then (drachmlaw03_DimsBack.j1 kj7 a1 t102 (!(bt137.1 == t103) || (!(bt137.2.1 == t104) || (!(bt137.2.2.1 == t105) || (!(bt137.2.2.2.1 == t106) || (!(bt137.2.2.2.2.1 == t107) || (!(bt137.2.2.2.2.2.1 == t108) || (!(bt137.2.2.2.2.2.2.1 == t109)))))))) t103 t104 t105 t106 t107 t108 t109) else (drachmlaw03_DimsBack.j1 kj7 a1 t102 true t103 t104 t105 t106 t107 t108 t109)) else (drachmlaw03_DimsBack.j1 kj7 a1 t102 false t103 t104 t105 t106 t107 t108 t109))) = some r := by rw [if_neg (show ¬ (false = true) by decide)] at H; exact H
    clear H
    have H := H1
    clear H1
    replace H := Option.bind_eq_some_iff.mp H
    obtain ⟨⟨t137, t138, t139, t140, t141, t142, t143, t144⟩, A580, H⟩ := H
    replace H : (if t126 = true then (if t144 = true then (drachmlaw03_DimsBack.j1 kj7 a1 t102 (!(t137 == t103) || (!(t138 == t104) || (!(t139 == t105) || (!(t140 == t106) || (!(t141 == t107) || (!(t142 == t108) || (!(t143 == t109)))))))) t103 t104 t105 t106 t107 t108 t109) else (drachmlaw03_DimsBack.j1 kj7 a1 t102 true t103 t104 t105 t106 t107 t108 t109)) else (drachmlaw03_DimsBack.j1 kj7 a1 t102 false t103 t104 t105 t106 t107 t108 t109)) = some r := H
    have A58 := Aside0.mk A580
    clear A580
    have HC59 := Aside0.mk H
    clear H
    have hnb60 := NB127_101.out
    have hnc60 := NB101_127.out
    have hnb61 := NB127_110.out
    have hnc61 := NB110_127.out
    have hnb62 := NB127_118.out
    have hnc62 := NB118_127.out
    have hnb63 := NB127_136.out
    have hnc63 := NB136_127.out
    have hcz64_0 : wc.cell? ⟨gb127, 0, none⟩ = some (.int .i64 t119) := (blk_cell BK127.out 0).trans rfl
    have hcz64_1 : wc.cell? ⟨gb127, 1, none⟩ = some (.int .i64 t120) := (blk_cell BK127.out 1).trans rfl
    have hcz64_2 : wc.cell? ⟨gb127, 2, none⟩ = some (.int .i64 t121) := (blk_cell BK127.out 2).trans rfl
    have hcz64_3 : wc.cell? ⟨gb127, 3, none⟩ = some (.int .i64 t122) := (blk_cell BK127.out 3).trans rfl
    have hcz64_4 : wc.cell? ⟨gb127, 4, none⟩ = some (.int .i64 t123) := (blk_cell BK127.out 4).trans rfl
    have hcz64_5 : wc.cell? ⟨gb127, 5, none⟩ = some (.int .i64 t124) := (blk_cell BK127.out 5).trans rfl
    have hcz64_6 : wc.cell? ⟨gb127, 6, none⟩ = some (.int .i64 t125) := (blk_cell BK127.out 6).trans rfl
    have hfz64_0 := blk_frozen BK127.out 0
    have hfz64_1 := blk_frozen BK127.out 1
    have hfz64_2 := blk_frozen BK127.out 2
    have hfz64_3 := blk_frozen BK127.out 3
    have hfz64_4 := blk_frozen BK127.out 4
    have hfz64_5 := blk_frozen BK127.out 5
    have hfz64_6 := blk_frozen BK127.out 6
    have hnb65 := NB118_101.out
    have hnc65 := NB101_118.out
    have hnb66 := NB118_110.out
    have hnc66 := NB110_118.out
    have hnb67 := NB118_136.out
    have hnc67 := NB136_118.out
    have hcz68_0 : wc.cell? ⟨gb118, 0, none⟩ = some (.int .i64 t111) := (blk_cell BK118.out 0).trans rfl
    have hcz68_1 : wc.cell? ⟨gb118, 1, none⟩ = some (.int .i64 t112) := (blk_cell BK118.out 1).trans rfl
    have hcz68_2 : wc.cell? ⟨gb118, 2, none⟩ = some (.int .i64 t113) := (blk_cell BK118.out 2).trans rfl
    have hcz68_3 : wc.cell? ⟨gb118, 3, none⟩ = some (.int .i64 t114) := (blk_cell BK118.out 3).trans rfl
    have hcz68_4 : wc.cell? ⟨gb118, 4, none⟩ = some (.int .i64 t115) := (blk_cell BK118.out 4).trans rfl
    have hcz68_5 : wc.cell? ⟨gb118, 5, none⟩ = some (.int .i64 t116) := (blk_cell BK118.out 5).trans rfl
    have hcz68_6 : wc.cell? ⟨gb118, 6, none⟩ = some (.int .i64 t117) := (blk_cell BK118.out 6).trans rfl
    have hfz68_0 := blk_frozen BK118.out 0
    have hfz68_1 := blk_frozen BK118.out 1
    have hfz68_2 := blk_frozen BK118.out 2
    have hfz68_3 := blk_frozen BK118.out 3
    have hfz68_4 := blk_frozen BK118.out 4
    have hfz68_5 := blk_frozen BK118.out 5
    have hfz68_6 := blk_frozen BK118.out 6
    go_upto_region 9 with (first | ((with_reducible refine gate_callee (f := 19) rfl ?_); refine goesL_ (some 54) rfl rfl Tryd.func19 (by kernel_rfl) rfl #[.agg #[.int .i64 t119, .int .i64 t120, .int .i64 t121, .int .i64 t122, .int .i64 t123, .int .i64 t124, .int .i64 t125], .agg #[.int .i64 t111, .int .i64 t112, .int .i64 t113, .int .i64 t114, .int .i64 t115, .int .i64 t116, .int .i64 t117]] rfl (by (try simp only [List.map_toArray, List.map_cons, List.map_nil]); first | done | rfl | (simp only [List.length_drop, List.length_take]; rfl)) ?_; (with_reducible refine (dims_Sub.calls t119 t120 t121 t122 t123 t124 t125 t111 t112 t113 t114 t115 t116 t117 t137 t138 t139 t140 t141 t142 t143 t144 _ A58.out).mono ?_); rintro e w69 ⟨rfl, hb⟩; refine ⟨_, rfl, ?_⟩; replace BK101 := Aside0.mk (blk_below (kp BK101.out) hb); replace BK110 := Aside0.mk (blk_below (kp BK110.out) hb); replace BK118 := Aside0.mk (blk_below (kp BK118.out) hb); replace BK127 := Aside0.mk (blk_below (kp BK127.out) hb); replace BK136 := Aside0.mk (blk_below (kp BK136.out) hb); replace HB := Aside0.mk (below_step (bl HB.out) hb); (try clear hb); (try clear hb2); (try clear hk); (try clear hi)) | ((with_reducible refine gate_dst (N := 12) rfl ?_); refine box_event ?hg (N := 12) ?hd (cs := #[.int .i64 0, .int .i64 0, .int .i64 0, .int .i64 0, .int .i64 0, .int .i64 0, .int .i64 0]) (t := 23) ?hr ?_; (case hd => rfl); (case hg => rfl); (case hr => first | (go_simp; done) | (go_simp; rfl)); intro gb145 hg w70 hbox hb; have n0_ := Aside0.mk (blk_below (kp BK101.out) hb); have n1_ := Aside0.mk (blk_below (kp BK110.out) hb); have n2_ := Aside0.mk (blk_below (kp BK118.out) hb); have n3_ := Aside0.mk (blk_below (kp BK127.out) hb); have n4_ := Aside0.mk (blk_below (kp BK136.out) hb); have n5_ := Aside0.mk (below_step (bl HB.out) hb); have n6_ := Aside0.mk (hbox); have n7_ := Aside0.mk ((by rw [hg]; exact (below_size (bl HB.out)) : w.heap.size ≤ gb145)); have n8_ := Aside0.mk ((by rw [hg]; exact (below_size (bl HB.out)) : w.heap.size ≤ gb145)); have n9_ := Aside0.mk ((by rw [hg]; exact Nat.ne_of_lt (blk_lt (kp BK101.out)) : gb101 ≠ gb145)); have n10_ := Aside0.mk ((by rw [hg]; exact Nat.ne_of_gt (blk_lt (kp BK101.out)) : gb145 ≠ gb101)); have n11_ := Aside0.mk ((by rw [hg]; exact Nat.ne_of_lt (blk_lt (kp BK110.out)) : gb110 ≠ gb145)); have n12_ := Aside0.mk ((by rw [hg]; exact Nat.ne_of_gt (blk_lt (kp BK110.out)) : gb145 ≠ gb110)); have n13_ := Aside0.mk ((by rw [hg]; exact Nat.ne_of_lt (blk_lt (kp BK118.out)) : gb118 ≠ gb145)); have n14_ := Aside0.mk ((by rw [hg]; exact Nat.ne_of_gt (blk_lt (kp BK118.out)) : gb145 ≠ gb118)); have n15_ := Aside0.mk ((by rw [hg]; exact Nat.ne_of_lt (blk_lt (kp BK127.out)) : gb127 ≠ gb145)); have n16_ := Aside0.mk ((by rw [hg]; exact Nat.ne_of_gt (blk_lt (kp BK127.out)) : gb145 ≠ gb127)); have n17_ := Aside0.mk ((by rw [hg]; exact Nat.ne_of_lt (blk_lt (kp BK136.out)) : gb136 ≠ gb145)); have n18_ := Aside0.mk ((by rw [hg]; exact Nat.ne_of_gt (blk_lt (kp BK136.out)) : gb145 ≠ gb136)); clear BK101; clear BK110; clear BK118; clear BK127; clear BK136; clear HB; have BK101 := n0_; have BK110 := n1_; have BK118 := n2_; have BK127 := n3_; have BK136 := n4_; have HB := n5_; have BK145 := n6_; have GW145 := n7_; have GE145 := n8_; have NB101_145 := n9_; have NB145_101 := n10_; have NB110_145 := n11_; have NB145_110 := n12_; have NB118_145 := n13_; have NB145_118 := n14_; have NB127_145 := n15_; have NB145_127 := n16_; have NB136_145 := n17_; have NB145_136 := n18_; clear n0_ n1_ n2_ n3_ n4_ n5_ n6_ n7_ n8_ n9_ n10_ n11_ n12_ n13_ n14_ n15_ n16_ n17_ n18_; clear hb hbox hg; have hnb71 := NB145_101.out; have hnc71 := NB101_145.out; have hnb72 := NB145_110.out; have hnc72 := NB110_145.out; have hnb73 := NB145_118.out; have hnc73 := NB118_145.out; have hnb74 := NB145_127.out; have hnc74 := NB127_145.out; have hnb75 := NB145_136.out; have hnc75 := NB136_145.out; have hcz76_0 : w70.cell? ⟨gb145, 0, none⟩ = some (.int .i64 0) := (blk_cell BK145.out 0).trans rfl; have hcz76_1 : w70.cell? ⟨gb145, 1, none⟩ = some (.int .i64 0) := (blk_cell BK145.out 1).trans rfl; have hcz76_2 : w70.cell? ⟨gb145, 2, none⟩ = some (.int .i64 0) := (blk_cell BK145.out 2).trans rfl; have hcz76_3 : w70.cell? ⟨gb145, 3, none⟩ = some (.int .i64 0) := (blk_cell BK145.out 3).trans rfl; have hcz76_4 : w70.cell? ⟨gb145, 4, none⟩ = some (.int .i64 0) := (blk_cell BK145.out 4).trans rfl; have hcz76_5 : w70.cell? ⟨gb145, 5, none⟩ = some (.int .i64 0) := (blk_cell BK145.out 5).trans rfl; have hcz76_6 : w70.cell? ⟨gb145, 6, none⟩ = some (.int .i64 0) := (blk_cell BK145.out 6).trans rfl; have hfz76_0 := blk_frozen BK145.out 0; have hfz76_1 := blk_frozen BK145.out 1; have hfz76_2 := blk_frozen BK145.out 2; have hfz76_3 := blk_frozen BK145.out 3; have hfz76_4 := blk_frozen BK145.out 4; have hfz76_5 := blk_frozen BK145.out 5; have hfz76_6 := blk_frozen BK145.out 6))
    (try simp only [Act.put, List.setIfInBounds_toArray, List.set_cons_zero, List.set_cons_succ])
    go_cut [66] (fun v66 wc => ∃ (kq : Nat) (x66_58 : Bool), v66 = .bool x66_58 ∧ Aside0 (drachmlaw03_DimsBack.j1 kq a1 t102 x66_58 t103 t104 t105 t106 t107 t108 t109 = some r) ∧ Aside0 (kq ≤ kj7) ∧ Aside0 (wc.heap[gb101]? = some (.cells #[.int .i64 a0_0, .int .i64 a0_1, .int .i64 a0_2, .int .i64 a0_3, .int .i64 a0_4, .int .i64 a0_5, .int .i64 a0_6, .int .i64 a0_7, .int .i64 a0_8, .int .i64 a0_9, .int .i64 a0_10, .int .i64 a0_11, .int .i64 a0_12, .int .i64 a0_13] 35 (0, 0))) ∧ Aside0 (wc.heap[gb110]? = some (.cells #[.int .i64 t103, .int .i64 t104, .int .i64 t105, .int .i64 t106, .int .i64 t107, .int .i64 t108, .int .i64 t109] 23 (0, 0))) ∧ Aside0 (wc.heap[gb118]? = some (.cells #[.int .i64 t111, .int .i64 t112, .int .i64 t113, .int .i64 t114, .int .i64 t115, .int .i64 t116, .int .i64 t117] 23 (0, 0))) ∧ Aside0 (wc.heap[gb127]? = some (.cells #[.int .i64 t119, .int .i64 t120, .int .i64 t121, .int .i64 t122, .int .i64 t123, .int .i64 t124, .int .i64 t125] 23 (0, 0))) ∧ Aside0 (wc.heap[gb136]? = some (.cells #[.int .i64 t128, .int .i64 t129, .int .i64 t130, .int .i64 t131, .int .i64 t132, .int .i64 t133, .int .i64 t134] 23 (0, 0))) ∧ Aside0 (wc.heap[gb145]? = some (.cells #[.int .i64 t137, .int .i64 t138, .int .i64 t139, .int .i64 t140, .int .i64 t141, .int .i64 t142, .int .i64 t143] 23 (0, 0))) ∧ Aside0 (Below w.heap.size w wc))
    case first =>
     have H := HC59.out
     clear HC59
     by_cases c77 : t126 = true
     ·subst c77
      have H1 : (if t144 = true then (drachmlaw03_DimsBack.j1 kj7 a1 t102 (!(t137 == t103) || (!(t138 == t104) || (!(t139 == t105) || (!(t140 == t106) || (!(t141 == t107) || (!(t142 == t108) || (!(t143 == t109)))))))) t103 t104 t105 t106 t107 t108 t109) else (drachmlaw03_DimsBack.j1 kj7 a1 t102 true t103 t104 t105 t106 t107 t108 t109)) = some r := by rw [if_pos rfl] at H; exact H
      clear H
      have H := H1
      clear H1
      by_cases c78 : t144 = true
      ·subst c78
       have H1 : (drachmlaw03_DimsBack.j1 kj7 a1 t102 (!(t137 == t103) || (!(t138 == t104) || (!(t139 == t105) || (!(t140 == t106) || (!(t141 == t107) || (!(t142 == t108) || (!(t143 == t109)))))))) t103 t104 t105 t106 t107 t108 t109) = some r := by rw [if_pos rfl] at H; exact H
       clear H
       have H := H1
       clear H1
       have H' := Aside0.mk H
       clear H
       have hnb79 := NB145_101.out
       have hnc79 := NB101_145.out
       have hnb80 := NB145_110.out
       have hnc80 := NB110_145.out
       have hnb81 := NB145_118.out
       have hnc81 := NB118_145.out
       have hnb82 := NB145_127.out
       have hnc82 := NB127_145.out
       have hnb83 := NB145_136.out
       have hnc83 := NB136_145.out
       have hcz84_0 : w70.cell? ⟨gb145, 0, none⟩ = some (.int .i64 0) := (blk_cell BK145.out 0).trans rfl
       have hcz84_1 : w70.cell? ⟨gb145, 1, none⟩ = some (.int .i64 0) := (blk_cell BK145.out 1).trans rfl
       have hcz84_2 : w70.cell? ⟨gb145, 2, none⟩ = some (.int .i64 0) := (blk_cell BK145.out 2).trans rfl
       have hcz84_3 : w70.cell? ⟨gb145, 3, none⟩ = some (.int .i64 0) := (blk_cell BK145.out 3).trans rfl
       have hcz84_4 : w70.cell? ⟨gb145, 4, none⟩ = some (.int .i64 0) := (blk_cell BK145.out 4).trans rfl
       have hcz84_5 : w70.cell? ⟨gb145, 5, none⟩ = some (.int .i64 0) := (blk_cell BK145.out 5).trans rfl
       have hcz84_6 : w70.cell? ⟨gb145, 6, none⟩ = some (.int .i64 0) := (blk_cell BK145.out 6).trans rfl
       have hfz84_0 := blk_frozen BK145.out 0
       have hfz84_1 := blk_frozen BK145.out 1
       have hfz84_2 := blk_frozen BK145.out 2
       have hfz84_3 := blk_frozen BK145.out 3
       have hfz84_4 := blk_frozen BK145.out 4
       have hfz84_5 := blk_frozen BK145.out 5
       have hfz84_6 := blk_frozen BK145.out 6
       have hnb85 := NB110_101.out
       have hnc85 := NB101_110.out
       have hnb86 := NB110_118.out
       have hnc86 := NB118_110.out
       have hnb87 := NB110_127.out
       have hnc87 := NB127_110.out
       have hnb88 := NB110_136.out
       have hnc88 := NB136_110.out
       have hcz89_0 : w70.cell? ⟨gb110, 0, none⟩ = some (.int .i64 t103) := (blk_cell BK110.out 0).trans rfl
       have hcz89_1 : w70.cell? ⟨gb110, 1, none⟩ = some (.int .i64 t104) := (blk_cell BK110.out 1).trans rfl
       have hcz89_2 : w70.cell? ⟨gb110, 2, none⟩ = some (.int .i64 t105) := (blk_cell BK110.out 2).trans rfl
       have hcz89_3 : w70.cell? ⟨gb110, 3, none⟩ = some (.int .i64 t106) := (blk_cell BK110.out 3).trans rfl
       have hcz89_4 : w70.cell? ⟨gb110, 4, none⟩ = some (.int .i64 t107) := (blk_cell BK110.out 4).trans rfl
       have hcz89_5 : w70.cell? ⟨gb110, 5, none⟩ = some (.int .i64 t108) := (blk_cell BK110.out 5).trans rfl
       have hcz89_6 : w70.cell? ⟨gb110, 6, none⟩ = some (.int .i64 t109) := (blk_cell BK110.out 6).trans rfl
       have hfz89_0 := blk_frozen BK110.out 0
       have hfz89_1 := blk_frozen BK110.out 1
       have hfz89_2 := blk_frozen BK110.out 2
       have hfz89_3 := blk_frozen BK110.out 3
       have hfz89_4 := blk_frozen BK110.out 4
       have hfz89_5 := blk_frozen BK110.out 5
       have hfz89_6 := blk_frozen BK110.out 6
       go_wp2
       go_meet
       case rel => exact ⟨_, ((!(t137 == t103) || (!(t138 == t104) || (!(t139 == t105) || (!(t140 == t106) || (!(t141 == t107) || (!(t142 == t108) || (!(t143 == t109))))))))), (by first | rfl | (simp; done) | (simp [*]; done)), H', ⟨by have := HJ7.out; first | omega | exact Nat.le_refl _⟩, ⟨kp BK101.out⟩, ⟨kp BK110.out⟩, ⟨kp BK118.out⟩, ⟨kp BK127.out⟩, ⟨kp BK136.out⟩, ⟨by (with_reducible repeat (first | refine blk_drewN ?_ _ | refine blk_drew ?_ | refine blk_alloc ?_ _)); refine blk_put (cs := #[.int .i64 t137, .int .i64 t138, .int .i64 t139, .int .i64 t140, .int .i64 t141, .int .i64 t142, .int .i64 0]) ?_ 6 _ rfl; (with_reducible repeat (first | refine blk_drewN ?_ _ | refine blk_drew ?_ | refine blk_alloc ?_ _)); refine blk_put (cs := #[.int .i64 t137, .int .i64 t138, .int .i64 t139, .int .i64 t140, .int .i64 t141, .int .i64 0, .int .i64 0]) ?_ 5 _ rfl; (with_reducible repeat (first | refine blk_drewN ?_ _ | refine blk_drew ?_ | refine blk_alloc ?_ _)); refine blk_put (cs := #[.int .i64 t137, .int .i64 t138, .int .i64 t139, .int .i64 t140, .int .i64 0, .int .i64 0, .int .i64 0]) ?_ 4 _ rfl; (with_reducible repeat (first | refine blk_drewN ?_ _ | refine blk_drew ?_ | refine blk_alloc ?_ _)); refine blk_put (cs := #[.int .i64 t137, .int .i64 t138, .int .i64 t139, .int .i64 0, .int .i64 0, .int .i64 0, .int .i64 0]) ?_ 3 _ rfl; (with_reducible repeat (first | refine blk_drewN ?_ _ | refine blk_drew ?_ | refine blk_alloc ?_ _)); refine blk_put (cs := #[.int .i64 t137, .int .i64 t138, .int .i64 0, .int .i64 0, .int .i64 0, .int .i64 0, .int .i64 0]) ?_ 2 _ rfl; (with_reducible repeat (first | refine blk_drewN ?_ _ | refine blk_drew ?_ | refine blk_alloc ?_ _)); refine blk_put (cs := #[.int .i64 t137, .int .i64 0, .int .i64 0, .int .i64 0, .int .i64 0, .int .i64 0, .int .i64 0]) ?_ 1 _ rfl; (with_reducible repeat (first | refine blk_drewN ?_ _ | refine blk_drew ?_ | refine blk_alloc ?_ _)); refine blk_put (cs := #[.int .i64 0, .int .i64 0, .int .i64 0, .int .i64 0, .int .i64 0, .int .i64 0, .int .i64 0]) ?_ 0 _ rfl; (with_reducible repeat (first | refine blk_drewN ?_ _ | refine blk_drew ?_ | refine blk_alloc ?_ _)); exact BK145.out⟩, ⟨bl HB.out⟩⟩
      ·replace c78 := Bool.eq_false_iff.mpr c78
       subst c78
       have H1 : (drachmlaw03_DimsBack.j1 kj7 a1 t102 true t103 t104 t105 t106 t107 t108 t109) = some r := by rw [if_neg (show ¬ (false = true) by decide)] at H; exact H
       clear H
       have H := H1
       clear H1
       have H' := Aside0.mk H
       clear H
       go_wp2
       go_meet
       case rel => exact ⟨_, (true), (by first | rfl | (simp; done) | (simp [*]; done)), H', ⟨by have := HJ7.out; first | omega | exact Nat.le_refl _⟩, ⟨kp BK101.out⟩, ⟨kp BK110.out⟩, ⟨kp BK118.out⟩, ⟨kp BK127.out⟩, ⟨kp BK136.out⟩, ⟨by (with_reducible repeat (first | refine blk_drewN ?_ _ | refine blk_drew ?_ | refine blk_alloc ?_ _)); refine blk_put (cs := #[.int .i64 t137, .int .i64 t138, .int .i64 t139, .int .i64 t140, .int .i64 t141, .int .i64 t142, .int .i64 0]) ?_ 6 _ rfl; (with_reducible repeat (first | refine blk_drewN ?_ _ | refine blk_drew ?_ | refine blk_alloc ?_ _)); refine blk_put (cs := #[.int .i64 t137, .int .i64 t138, .int .i64 t139, .int .i64 t140, .int .i64 t141, .int .i64 0, .int .i64 0]) ?_ 5 _ rfl; (with_reducible repeat (first | refine blk_drewN ?_ _ | refine blk_drew ?_ | refine blk_alloc ?_ _)); refine blk_put (cs := #[.int .i64 t137, .int .i64 t138, .int .i64 t139, .int .i64 t140, .int .i64 0, .int .i64 0, .int .i64 0]) ?_ 4 _ rfl; (with_reducible repeat (first | refine blk_drewN ?_ _ | refine blk_drew ?_ | refine blk_alloc ?_ _)); refine blk_put (cs := #[.int .i64 t137, .int .i64 t138, .int .i64 t139, .int .i64 0, .int .i64 0, .int .i64 0, .int .i64 0]) ?_ 3 _ rfl; (with_reducible repeat (first | refine blk_drewN ?_ _ | refine blk_drew ?_ | refine blk_alloc ?_ _)); refine blk_put (cs := #[.int .i64 t137, .int .i64 t138, .int .i64 0, .int .i64 0, .int .i64 0, .int .i64 0, .int .i64 0]) ?_ 2 _ rfl; (with_reducible repeat (first | refine blk_drewN ?_ _ | refine blk_drew ?_ | refine blk_alloc ?_ _)); refine blk_put (cs := #[.int .i64 t137, .int .i64 0, .int .i64 0, .int .i64 0, .int .i64 0, .int .i64 0, .int .i64 0]) ?_ 1 _ rfl; (with_reducible repeat (first | refine blk_drewN ?_ _ | refine blk_drew ?_ | refine blk_alloc ?_ _)); refine blk_put (cs := #[.int .i64 0, .int .i64 0, .int .i64 0, .int .i64 0, .int .i64 0, .int .i64 0, .int .i64 0]) ?_ 0 _ rfl; (with_reducible repeat (first | refine blk_drewN ?_ _ | refine blk_drew ?_ | refine blk_alloc ?_ _)); exact BK145.out⟩, ⟨bl HB.out⟩⟩
     ·replace c77 := Bool.eq_false_iff.mpr c77
      subst c77
      have H1 : (drachmlaw03_DimsBack.j1 kj7 a1 t102 false t103 t104 t105 t106 t107 t108 t109) = some r := by rw [if_neg (show ¬ (false = true) by decide)] at H; exact H
      clear H
      have H := H1
      clear H1
      have H' := Aside0.mk H
      clear H
      go_wp2
      go_meet
      case rel => exact ⟨_, (false), (by first | rfl | (simp; done) | (simp [*]; done)), H', ⟨by have := HJ7.out; first | omega | exact Nat.le_refl _⟩, ⟨kp BK101.out⟩, ⟨kp BK110.out⟩, ⟨kp BK118.out⟩, ⟨kp BK127.out⟩, ⟨kp BK136.out⟩, ⟨by (with_reducible repeat (first | refine blk_drewN ?_ _ | refine blk_drew ?_ | refine blk_alloc ?_ _)); refine blk_put (cs := #[.int .i64 t137, .int .i64 t138, .int .i64 t139, .int .i64 t140, .int .i64 t141, .int .i64 t142, .int .i64 0]) ?_ 6 _ rfl; (with_reducible repeat (first | refine blk_drewN ?_ _ | refine blk_drew ?_ | refine blk_alloc ?_ _)); refine blk_put (cs := #[.int .i64 t137, .int .i64 t138, .int .i64 t139, .int .i64 t140, .int .i64 t141, .int .i64 0, .int .i64 0]) ?_ 5 _ rfl; (with_reducible repeat (first | refine blk_drewN ?_ _ | refine blk_drew ?_ | refine blk_alloc ?_ _)); refine blk_put (cs := #[.int .i64 t137, .int .i64 t138, .int .i64 t139, .int .i64 t140, .int .i64 0, .int .i64 0, .int .i64 0]) ?_ 4 _ rfl; (with_reducible repeat (first | refine blk_drewN ?_ _ | refine blk_drew ?_ | refine blk_alloc ?_ _)); refine blk_put (cs := #[.int .i64 t137, .int .i64 t138, .int .i64 t139, .int .i64 0, .int .i64 0, .int .i64 0, .int .i64 0]) ?_ 3 _ rfl; (with_reducible repeat (first | refine blk_drewN ?_ _ | refine blk_drew ?_ | refine blk_alloc ?_ _)); refine blk_put (cs := #[.int .i64 t137, .int .i64 t138, .int .i64 0, .int .i64 0, .int .i64 0, .int .i64 0, .int .i64 0]) ?_ 2 _ rfl; (with_reducible repeat (first | refine blk_drewN ?_ _ | refine blk_drew ?_ | refine blk_alloc ?_ _)); refine blk_put (cs := #[.int .i64 t137, .int .i64 0, .int .i64 0, .int .i64 0, .int .i64 0, .int .i64 0, .int .i64 0]) ?_ 1 _ rfl; (with_reducible repeat (first | refine blk_drewN ?_ _ | refine blk_drew ?_ | refine blk_alloc ?_ _)); refine blk_put (cs := #[.int .i64 0, .int .i64 0, .int .i64 0, .int .i64 0, .int .i64 0, .int .i64 0, .int .i64 0]) ?_ 0 _ rfl; (with_reducible repeat (first | refine blk_drewN ?_ _ | refine blk_drew ?_ | refine blk_alloc ?_ _)); exact BK145.out⟩, ⟨bl HB.out⟩⟩
    case rest =>
     clear HC59
     try clear c1
     try clear c2
     try clear p2
     try clear c3
     try clear c4
     try clear c5
     try clear c6
     try clear c7
     try clear c8
     try clear c9
     try clear c10
     try clear c14
     try clear c16
     try clear c19
     try clear c20
     try clear c25
     try clear c26
     try clear c27
     try clear c33
     try clear c34
     try clear c35
     try clear c36
     try clear c38
     try clear c38b0
     try clear c39
     try clear c40
     try clear c41
     try clear c42
     try clear c44
     try clear c45
     try clear c46
     try clear c48
     try clear c49
     try clear c50
     try clear c51
     try clear c53
     try clear c54
     try clear c55
     try clear c57
     try clear c60
     try clear c61
     try clear c62
     try clear c63
     try clear c65
     try clear c66
     try clear c67
     try clear c71
     try clear c72
     try clear c73
     try clear c74
     try clear c75
     try clear c77
     try clear c78
     try clear c79
     try clear c80
     try clear c81
     try clear c82
     try clear c83
     try clear c85
     try clear c86
     try clear c87
     try clear c88
     try clear hcz11_0
     try clear hcz11_1
     try clear hcz11_10
     try clear hcz11_11
     try clear hcz11_12
     try clear hcz11_13
     try clear hcz11_2
     try clear hcz11_3
     try clear hcz11_4
     try clear hcz11_5
     try clear hcz11_6
     try clear hcz11_7
     try clear hcz11_8
     try clear hcz11_9
     try clear hcz15_0
     try clear hcz15_1
     try clear hcz15_2
     try clear hcz15_3
     try clear hcz15_4
     try clear hcz15_5
     try clear hcz15_6
     try clear hcz16_0
     try clear hcz16_1
     try clear hcz16_10
     try clear hcz16_11
     try clear hcz16_12
     try clear hcz16_13
     try clear hcz16_2
     try clear hcz16_3
     try clear hcz16_4
     try clear hcz16_5
     try clear hcz16_6
     try clear hcz16_7
     try clear hcz16_8
     try clear hcz16_9
     try clear hcz21_0
     try clear hcz21_1
     try clear hcz21_2
     try clear hcz21_3
     try clear hcz21_4
     try clear hcz21_5
     try clear hcz21_6
     try clear hcz22_0
     try clear hcz22_1
     try clear hcz22_2
     try clear hcz22_3
     try clear hcz22_4
     try clear hcz22_5
     try clear hcz22_6
     try clear hcz28_0
     try clear hcz28_1
     try clear hcz28_2
     try clear hcz28_3
     try clear hcz28_4
     try clear hcz28_5
     try clear hcz28_6
     try clear hcz29_0
     try clear hcz29_1
     try clear hcz29_2
     try clear hcz29_3
     try clear hcz29_4
     try clear hcz29_5
     try clear hcz29_6
     try clear hcz30_0
     try clear hcz30_1
     try clear hcz30_2
     try clear hcz30_3
     try clear hcz30_4
     try clear hcz30_5
     try clear hcz30_6
     try clear hcz37_0
     try clear hcz37_1
     try clear hcz37_2
     try clear hcz37_3
     try clear hcz37_4
     try clear hcz37_5
     try clear hcz37_6
     try clear hcz43_0
     try clear hcz43_1
     try clear hcz43_2
     try clear hcz43_3
     try clear hcz43_4
     try clear hcz43_5
     try clear hcz43_6
     try clear hcz47_0
     try clear hcz47_1
     try clear hcz47_2
     try clear hcz47_3
     try clear hcz47_4
     try clear hcz47_5
     try clear hcz47_6
     try clear hcz52_0
     try clear hcz52_1
     try clear hcz52_2
     try clear hcz52_3
     try clear hcz52_4
     try clear hcz52_5
     try clear hcz52_6
     try clear hcz56_0
     try clear hcz56_1
     try clear hcz56_2
     try clear hcz56_3
     try clear hcz56_4
     try clear hcz56_5
     try clear hcz56_6
     try clear hcz64_0
     try clear hcz64_1
     try clear hcz64_2
     try clear hcz64_3
     try clear hcz64_4
     try clear hcz64_5
     try clear hcz64_6
     try clear hcz68_0
     try clear hcz68_1
     try clear hcz68_2
     try clear hcz68_3
     try clear hcz68_4
     try clear hcz68_5
     try clear hcz68_6
     try clear hcz76_0
     try clear hcz76_1
     try clear hcz76_2
     try clear hcz76_3
     try clear hcz76_4
     try clear hcz76_5
     try clear hcz76_6
     try clear hcz84_0
     try clear hcz84_1
     try clear hcz84_2
     try clear hcz84_3
     try clear hcz84_4
     try clear hcz84_5
     try clear hcz84_6
     try clear hcz89_0
     try clear hcz89_1
     try clear hcz89_2
     try clear hcz89_3
     try clear hcz89_4
     try clear hcz89_5
     try clear hcz89_6
     try clear hfz11_0
     try clear hfz11_1
     try clear hfz11_10
     try clear hfz11_11
     try clear hfz11_12
     try clear hfz11_13
     try clear hfz11_2
     try clear hfz11_3
     try clear hfz11_4
     try clear hfz11_5
     try clear hfz11_6
     try clear hfz11_7
     try clear hfz11_8
     try clear hfz11_9
     try clear hfz15_0
     try clear hfz15_1
     try clear hfz15_2
     try clear hfz15_3
     try clear hfz15_4
     try clear hfz15_5
     try clear hfz15_6
     try clear hfz16_0
     try clear hfz16_1
     try clear hfz16_10
     try clear hfz16_11
     try clear hfz16_12
     try clear hfz16_13
     try clear hfz16_2
     try clear hfz16_3
     try clear hfz16_4
     try clear hfz16_5
     try clear hfz16_6
     try clear hfz16_7
     try clear hfz16_8
     try clear hfz16_9
     try clear hfz21_0
     try clear hfz21_1
     try clear hfz21_2
     try clear hfz21_3
     try clear hfz21_4
     try clear hfz21_5
     try clear hfz21_6
     try clear hfz22_0
     try clear hfz22_1
     try clear hfz22_2
     try clear hfz22_3
     try clear hfz22_4
     try clear hfz22_5
     try clear hfz22_6
     try clear hfz28_0
     try clear hfz28_1
     try clear hfz28_2
     try clear hfz28_3
     try clear hfz28_4
     try clear hfz28_5
     try clear hfz28_6
     try clear hfz29_0
     try clear hfz29_1
     try clear hfz29_2
     try clear hfz29_3
     try clear hfz29_4
     try clear hfz29_5
     try clear hfz29_6
     try clear hfz30_0
     try clear hfz30_1
     try clear hfz30_2
     try clear hfz30_3
     try clear hfz30_4
     try clear hfz30_5
     try clear hfz30_6
     try clear hfz37_0
     try clear hfz37_1
     try clear hfz37_2
     try clear hfz37_3
     try clear hfz37_4
     try clear hfz37_5
     try clear hfz37_6
     try clear hfz43_0
     try clear hfz43_1
     try clear hfz43_2
     try clear hfz43_3
     try clear hfz43_4
     try clear hfz43_5
     try clear hfz43_6
     try clear hfz47_0
     try clear hfz47_1
     try clear hfz47_2
     try clear hfz47_3
     try clear hfz47_4
     try clear hfz47_5
     try clear hfz47_6
     try clear hfz52_0
     try clear hfz52_1
     try clear hfz52_2
     try clear hfz52_3
     try clear hfz52_4
     try clear hfz52_5
     try clear hfz52_6
     try clear hfz56_0
     try clear hfz56_1
     try clear hfz56_2
     try clear hfz56_3
     try clear hfz56_4
     try clear hfz56_5
     try clear hfz56_6
     try clear hfz64_0
     try clear hfz64_1
     try clear hfz64_2
     try clear hfz64_3
     try clear hfz64_4
     try clear hfz64_5
     try clear hfz64_6
     try clear hfz68_0
     try clear hfz68_1
     try clear hfz68_2
     try clear hfz68_3
     try clear hfz68_4
     try clear hfz68_5
     try clear hfz68_6
     try clear hfz76_0
     try clear hfz76_1
     try clear hfz76_2
     try clear hfz76_3
     try clear hfz76_4
     try clear hfz76_5
     try clear hfz76_6
     try clear hfz84_0
     try clear hfz84_1
     try clear hfz84_2
     try clear hfz84_3
     try clear hfz84_4
     try clear hfz84_5
     try clear hfz84_6
     try clear hfz89_0
     try clear hfz89_1
     try clear hfz89_2
     try clear hfz89_3
     try clear hfz89_4
     try clear hfz89_5
     try clear hfz89_6
     try clear p2
     obtain ⟨kq, x66_58, rfl, HA, HJ58, BK101, BK110, BK118, BK127, BK136, BK145, HB⟩ := hcut
     cases kq with
     | zero => exact absurd HA.out (by simp [drachmlaw03_DimsBack.j1])
     | succ kj58 =>
      have H := HA.out
      clear HA
      simp only [drachmlaw03_DimsBack.j1] at H
      by_cases c90 : x66_58 = true
      ·subst c90
       have H1 : (none) = some r := by rw [if_pos rfl] at H; exact H
       clear H
       have H := H1
       clear H1
       exact absurd H (by simp)
      ·replace c90 := Bool.eq_false_iff.mpr c90
       subst c90
       have H1 : (drachmlaw03_DimsBack.l0 kj58 t102 (Int.tmod (wrap64 ((Int.tmod a1 10) + 10)) 10) true 0 t103 t104 t105 t106 t107 t108 t109 0 0 0 0 0 0 0) = some r := by rw [if_neg (show ¬ (false = true) by decide)] at H; exact H
       clear H
       have H := H1
       clear H1
       have H' := Aside0.mk H
       clear H
       go_wp2_with (first | ((with_reducible refine gate_dst (N := 15) rfl ?_); refine box_event ?hg (N := 15) ?hd (cs := #[.int .i64 0, .int .i64 0, .int .i64 0, .int .i64 0, .int .i64 0, .int .i64 0, .int .i64 0]) (t := 23) ?hr ?_; (case hd => rfl); (case hg => rfl); (case hr => first | (go_simp; done) | (go_simp; rfl)); intro gb146 hg w91 hbox hb; have n0_ := Aside0.mk (blk_below (kp BK101.out) hb); have n1_ := Aside0.mk (blk_below (kp BK110.out) hb); have n2_ := Aside0.mk (blk_below (kp BK118.out) hb); have n3_ := Aside0.mk (blk_below (kp BK127.out) hb); have n4_ := Aside0.mk (blk_below (kp BK136.out) hb); have n5_ := Aside0.mk (blk_below (kp BK145.out) hb); have n6_ := Aside0.mk (below_step (bl HB.out) hb); have n7_ := Aside0.mk (hbox); have n8_ := Aside0.mk ((by rw [hg]; exact (below_size (bl HB.out)) : w.heap.size ≤ gb146)); have n9_ := Aside0.mk ((by rw [hg]; exact (below_size (bl HB.out)) : w.heap.size ≤ gb146)); have n10_ := Aside0.mk ((by rw [hg]; exact Nat.ne_of_lt (blk_lt (kp BK101.out)) : gb101 ≠ gb146)); have n11_ := Aside0.mk ((by rw [hg]; exact Nat.ne_of_gt (blk_lt (kp BK101.out)) : gb146 ≠ gb101)); have n12_ := Aside0.mk ((by rw [hg]; exact Nat.ne_of_lt (blk_lt (kp BK110.out)) : gb110 ≠ gb146)); have n13_ := Aside0.mk ((by rw [hg]; exact Nat.ne_of_gt (blk_lt (kp BK110.out)) : gb146 ≠ gb110)); have n14_ := Aside0.mk ((by rw [hg]; exact Nat.ne_of_lt (blk_lt (kp BK118.out)) : gb118 ≠ gb146)); have n15_ := Aside0.mk ((by rw [hg]; exact Nat.ne_of_gt (blk_lt (kp BK118.out)) : gb146 ≠ gb118)); have n16_ := Aside0.mk ((by rw [hg]; exact Nat.ne_of_lt (blk_lt (kp BK127.out)) : gb127 ≠ gb146)); have n17_ := Aside0.mk ((by rw [hg]; exact Nat.ne_of_gt (blk_lt (kp BK127.out)) : gb146 ≠ gb127)); have n18_ := Aside0.mk ((by rw [hg]; exact Nat.ne_of_lt (blk_lt (kp BK136.out)) : gb136 ≠ gb146)); have n19_ := Aside0.mk ((by rw [hg]; exact Nat.ne_of_gt (blk_lt (kp BK136.out)) : gb146 ≠ gb136)); have n20_ := Aside0.mk ((by rw [hg]; exact Nat.ne_of_lt (blk_lt (kp BK145.out)) : gb145 ≠ gb146)); have n21_ := Aside0.mk ((by rw [hg]; exact Nat.ne_of_gt (blk_lt (kp BK145.out)) : gb146 ≠ gb145)); clear BK101; clear BK110; clear BK118; clear BK127; clear BK136; clear BK145; clear HB; have BK101 := n0_; have BK110 := n1_; have BK118 := n2_; have BK127 := n3_; have BK136 := n4_; have BK145 := n5_; have HB := n6_; have BK146 := n7_; have GW146 := n8_; have GE146 := n9_; have NB101_146 := n10_; have NB146_101 := n11_; have NB110_146 := n12_; have NB146_110 := n13_; have NB118_146 := n14_; have NB146_118 := n15_; have NB127_146 := n16_; have NB146_127 := n17_; have NB136_146 := n18_; have NB146_136 := n19_; have NB145_146 := n20_; have NB146_145 := n21_; clear n0_ n1_ n2_ n3_ n4_ n5_ n6_ n7_ n8_ n9_ n10_ n11_ n12_ n13_ n14_ n15_ n16_ n17_ n18_ n19_ n20_ n21_; clear hb hbox hg; have hnb92 := NB146_101.out; have hnc92 := NB101_146.out; have hnb93 := NB146_110.out; have hnc93 := NB110_146.out; have hnb94 := NB146_118.out; have hnc94 := NB118_146.out; have hnb95 := NB146_127.out; have hnc95 := NB127_146.out; have hnb96 := NB146_136.out; have hnc96 := NB136_146.out; have hnb97 := NB146_145.out; have hnc97 := NB145_146.out; have hcz98_0 : w91.cell? ⟨gb146, 0, none⟩ = some (.int .i64 0) := (blk_cell BK146.out 0).trans rfl; have hcz98_1 : w91.cell? ⟨gb146, 1, none⟩ = some (.int .i64 0) := (blk_cell BK146.out 1).trans rfl; have hcz98_2 : w91.cell? ⟨gb146, 2, none⟩ = some (.int .i64 0) := (blk_cell BK146.out 2).trans rfl; have hcz98_3 : w91.cell? ⟨gb146, 3, none⟩ = some (.int .i64 0) := (blk_cell BK146.out 3).trans rfl; have hcz98_4 : w91.cell? ⟨gb146, 4, none⟩ = some (.int .i64 0) := (blk_cell BK146.out 4).trans rfl; have hcz98_5 : w91.cell? ⟨gb146, 5, none⟩ = some (.int .i64 0) := (blk_cell BK146.out 5).trans rfl; have hcz98_6 : w91.cell? ⟨gb146, 6, none⟩ = some (.int .i64 0) := (blk_cell BK146.out 6).trans rfl; have hfz98_0 := blk_frozen BK146.out 0; have hfz98_1 := blk_frozen BK146.out 1; have hfz98_2 := blk_frozen BK146.out 2; have hfz98_3 := blk_frozen BK146.out 3; have hfz98_4 := blk_frozen BK146.out 4; have hfz98_5 := blk_frozen BK146.out 5; have hfz98_6 := blk_frozen BK146.out 6))
       go_loopg [16, 17] kj58 (fun kq v16 v17 w' => ∃ (x16_3 : Bool) (x17_3 : Int) (x147000_3 : Int) (x147001_3 : Int) (x147002_3 : Int) (x147003_3 : Int) (x147004_3 : Int) (x147005_3 : Int) (x147006_3 : Int), v16 = .bool x16_3 ∧ v17 = .int .i64 x17_3 ∧ Aside0 (drachmlaw03_DimsBack.l0 kq t102 (Int.tmod (wrap64 ((Int.tmod a1 10) + 10)) 10) x16_3 x17_3 t103 t104 t105 t106 t107 t108 t109 x147000_3 x147001_3 x147002_3 x147003_3 x147004_3 x147005_3 x147006_3 = some r) ∧ Aside0 (kq ≤ kj58) ∧ Aside0 (w'.heap[gb101]? = some (.cells #[.int .i64 a0_0, .int .i64 a0_1, .int .i64 a0_2, .int .i64 a0_3, .int .i64 a0_4, .int .i64 a0_5, .int .i64 a0_6, .int .i64 a0_7, .int .i64 a0_8, .int .i64 a0_9, .int .i64 a0_10, .int .i64 a0_11, .int .i64 a0_12, .int .i64 a0_13] 35 (0, 0))) ∧ Aside0 (w'.heap[gb110]? = some (.cells #[.int .i64 t103, .int .i64 t104, .int .i64 t105, .int .i64 t106, .int .i64 t107, .int .i64 t108, .int .i64 t109] 23 (0, 0))) ∧ Aside0 (w'.heap[gb118]? = some (.cells #[.int .i64 t111, .int .i64 t112, .int .i64 t113, .int .i64 t114, .int .i64 t115, .int .i64 t116, .int .i64 t117] 23 (0, 0))) ∧ Aside0 (w'.heap[gb127]? = some (.cells #[.int .i64 t119, .int .i64 t120, .int .i64 t121, .int .i64 t122, .int .i64 t123, .int .i64 t124, .int .i64 t125] 23 (0, 0))) ∧ Aside0 (w'.heap[gb136]? = some (.cells #[.int .i64 t128, .int .i64 t129, .int .i64 t130, .int .i64 t131, .int .i64 t132, .int .i64 t133, .int .i64 t134] 23 (0, 0))) ∧ Aside0 (w'.heap[gb145]? = some (.cells #[.int .i64 t137, .int .i64 t138, .int .i64 t139, .int .i64 t140, .int .i64 t141, .int .i64 t142, .int .i64 t143] 23 (0, 0))) ∧ Aside0 (w'.heap[gb146]? = some (.cells #[.int .i64 x147000_3, .int .i64 x147001_3, .int .i64 x147002_3, .int .i64 x147003_3, .int .i64 x147004_3, .int .i64 x147005_3, .int .i64 x147006_3] 23 (0, 0))) ∧ Aside0 (Below w.heap.size w w'))
       case atStart => exact ⟨(true), (0), (0), (0), (0), (0), (0), (0), (0), (by first | rfl | (simp; done) | (simp [*]; done)), (by first | rfl | (simp; done) | (simp [*]; done)), H', ⟨Nat.le_refl _⟩, ⟨kp BK101.out⟩, ⟨kp BK110.out⟩, ⟨kp BK118.out⟩, ⟨kp BK127.out⟩, ⟨kp BK136.out⟩, ⟨kp BK145.out⟩, ⟨by (with_reducible repeat (first | refine blk_drewN ?_ _ | refine blk_drew ?_ | refine blk_alloc ?_ _)); refine blk_put (cs := #[.int .i64 0, .int .i64 0, .int .i64 0, .int .i64 0, .int .i64 0, .int .i64 0, .int .i64 0]) ?_ 6 _ rfl; (with_reducible repeat (first | refine blk_drewN ?_ _ | refine blk_drew ?_ | refine blk_alloc ?_ _)); refine blk_put (cs := #[.int .i64 0, .int .i64 0, .int .i64 0, .int .i64 0, .int .i64 0, .int .i64 0, .int .i64 0]) ?_ 5 _ rfl; (with_reducible repeat (first | refine blk_drewN ?_ _ | refine blk_drew ?_ | refine blk_alloc ?_ _)); refine blk_put (cs := #[.int .i64 0, .int .i64 0, .int .i64 0, .int .i64 0, .int .i64 0, .int .i64 0, .int .i64 0]) ?_ 4 _ rfl; (with_reducible repeat (first | refine blk_drewN ?_ _ | refine blk_drew ?_ | refine blk_alloc ?_ _)); refine blk_put (cs := #[.int .i64 0, .int .i64 0, .int .i64 0, .int .i64 0, .int .i64 0, .int .i64 0, .int .i64 0]) ?_ 3 _ rfl; (with_reducible repeat (first | refine blk_drewN ?_ _ | refine blk_drew ?_ | refine blk_alloc ?_ _)); refine blk_put (cs := #[.int .i64 0, .int .i64 0, .int .i64 0, .int .i64 0, .int .i64 0, .int .i64 0, .int .i64 0]) ?_ 2 _ rfl; (with_reducible repeat (first | refine blk_drewN ?_ _ | refine blk_drew ?_ | refine blk_alloc ?_ _)); refine blk_put (cs := #[.int .i64 0, .int .i64 0, .int .i64 0, .int .i64 0, .int .i64 0, .int .i64 0, .int .i64 0]) ?_ 1 _ rfl; (with_reducible repeat (first | refine blk_drewN ?_ _ | refine blk_drew ?_ | refine blk_alloc ?_ _)); refine blk_put (cs := #[.int .i64 0, .int .i64 0, .int .i64 0, .int .i64 0, .int .i64 0, .int .i64 0, .int .i64 0]) ?_ 0 _ rfl; (with_reducible repeat (first | refine blk_drewN ?_ _ | refine blk_drew ?_ | refine blk_alloc ?_ _)); exact BK146.out⟩, ⟨bl HB.out⟩⟩
       case round =>
        clear H'
        try clear c1
        try clear c2
        try clear p2
        try clear c3
        try clear c4
        try clear c5
        try clear c6
        try clear p6
        try clear c7
        try clear c8
        try clear c9
        try clear c10
        try clear c14
        try clear c16
        try clear c19
        try clear c20
        try clear c25
        try clear c26
        try clear c27
        try clear c33
        try clear c34
        try clear c35
        try clear c36
        try clear c38
        try clear c38b0
        try clear c39
        try clear c40
        try clear c41
        try clear c42
        try clear c44
        try clear c45
        try clear c46
        try clear c48
        try clear c49
        try clear c50
        try clear c51
        try clear c53
        try clear c54
        try clear c55
        try clear c57
        try clear c60
        try clear c61
        try clear c62
        try clear c63
        try clear p64
        try clear c65
        try clear c66
        try clear c67
        try clear c71
        try clear c72
        try clear c73
        try clear c74
        try clear c75
        try clear c77
        try clear c78
        try clear c79
        try clear c80
        try clear c81
        try clear c82
        try clear c83
        try clear c85
        try clear c86
        try clear c87
        try clear c88
        try clear c90
        try clear c92
        try clear c93
        try clear c94
        try clear c95
        try clear c96
        try clear c97
        try clear hcz11_0
        try clear hcz11_1
        try clear hcz11_10
        try clear hcz11_11
        try clear hcz11_12
        try clear hcz11_13
        try clear hcz11_2
        try clear hcz11_3
        try clear hcz11_4
        try clear hcz11_5
        try clear hcz11_6
        try clear hcz11_7
        try clear hcz11_8
        try clear hcz11_9
        try clear hcz15_0
        try clear hcz15_1
        try clear hcz15_2
        try clear hcz15_3
        try clear hcz15_4
        try clear hcz15_5
        try clear hcz15_6
        try clear hcz16_0
        try clear hcz16_1
        try clear hcz16_10
        try clear hcz16_11
        try clear hcz16_12
        try clear hcz16_13
        try clear hcz16_2
        try clear hcz16_3
        try clear hcz16_4
        try clear hcz16_5
        try clear hcz16_6
        try clear hcz16_7
        try clear hcz16_8
        try clear hcz16_9
        try clear hcz21_0
        try clear hcz21_1
        try clear hcz21_2
        try clear hcz21_3
        try clear hcz21_4
        try clear hcz21_5
        try clear hcz21_6
        try clear hcz22_0
        try clear hcz22_1
        try clear hcz22_2
        try clear hcz22_3
        try clear hcz22_4
        try clear hcz22_5
        try clear hcz22_6
        try clear hcz28_0
        try clear hcz28_1
        try clear hcz28_2
        try clear hcz28_3
        try clear hcz28_4
        try clear hcz28_5
        try clear hcz28_6
        try clear hcz29_0
        try clear hcz29_1
        try clear hcz29_2
        try clear hcz29_3
        try clear hcz29_4
        try clear hcz29_5
        try clear hcz29_6
        try clear hcz30_0
        try clear hcz30_1
        try clear hcz30_2
        try clear hcz30_3
        try clear hcz30_4
        try clear hcz30_5
        try clear hcz30_6
        try clear hcz37_0
        try clear hcz37_1
        try clear hcz37_2
        try clear hcz37_3
        try clear hcz37_4
        try clear hcz37_5
        try clear hcz37_6
        try clear hcz43_0
        try clear hcz43_1
        try clear hcz43_2
        try clear hcz43_3
        try clear hcz43_4
        try clear hcz43_5
        try clear hcz43_6
        try clear hcz47_0
        try clear hcz47_1
        try clear hcz47_2
        try clear hcz47_3
        try clear hcz47_4
        try clear hcz47_5
        try clear hcz47_6
        try clear hcz52_0
        try clear hcz52_1
        try clear hcz52_2
        try clear hcz52_3
        try clear hcz52_4
        try clear hcz52_5
        try clear hcz52_6
        try clear hcz56_0
        try clear hcz56_1
        try clear hcz56_2
        try clear hcz56_3
        try clear hcz56_4
        try clear hcz56_5
        try clear hcz56_6
        try clear hcz64_0
        try clear hcz64_1
        try clear hcz64_2
        try clear hcz64_3
        try clear hcz64_4
        try clear hcz64_5
        try clear hcz64_6
        try clear hcz68_0
        try clear hcz68_1
        try clear hcz68_2
        try clear hcz68_3
        try clear hcz68_4
        try clear hcz68_5
        try clear hcz68_6
        try clear hcz76_0
        try clear hcz76_1
        try clear hcz76_2
        try clear hcz76_3
        try clear hcz76_4
        try clear hcz76_5
        try clear hcz76_6
        try clear hcz84_0
        try clear hcz84_1
        try clear hcz84_2
        try clear hcz84_3
        try clear hcz84_4
        try clear hcz84_5
        try clear hcz84_6
        try clear hcz89_0
        try clear hcz89_1
        try clear hcz89_2
        try clear hcz89_3
        try clear hcz89_4
        try clear hcz89_5
        try clear hcz89_6
        try clear hcz98_0
        try clear hcz98_1
        try clear hcz98_2
        try clear hcz98_3
        try clear hcz98_4
        try clear hcz98_5
        try clear hcz98_6
        try clear hfz11_0
        try clear hfz11_1
        try clear hfz11_10
        try clear hfz11_11
        try clear hfz11_12
        try clear hfz11_13
        try clear hfz11_2
        try clear hfz11_3
        try clear hfz11_4
        try clear hfz11_5
        try clear hfz11_6
        try clear hfz11_7
        try clear hfz11_8
        try clear hfz11_9
        try clear hfz15_0
        try clear hfz15_1
        try clear hfz15_2
        try clear hfz15_3
        try clear hfz15_4
        try clear hfz15_5
        try clear hfz15_6
        try clear hfz16_0
        try clear hfz16_1
        try clear hfz16_10
        try clear hfz16_11
        try clear hfz16_12
        try clear hfz16_13
        try clear hfz16_2
        try clear hfz16_3
        try clear hfz16_4
        try clear hfz16_5
        try clear hfz16_6
        try clear hfz16_7
        try clear hfz16_8
        try clear hfz16_9
        try clear hfz21_0
        try clear hfz21_1
        try clear hfz21_2
        try clear hfz21_3
        try clear hfz21_4
        try clear hfz21_5
        try clear hfz21_6
        try clear hfz22_0
        try clear hfz22_1
        try clear hfz22_2
        try clear hfz22_3
        try clear hfz22_4
        try clear hfz22_5
        try clear hfz22_6
        try clear hfz28_0
        try clear hfz28_1
        try clear hfz28_2
        try clear hfz28_3
        try clear hfz28_4
        try clear hfz28_5
        try clear hfz28_6
        try clear hfz29_0
        try clear hfz29_1
        try clear hfz29_2
        try clear hfz29_3
        try clear hfz29_4
        try clear hfz29_5
        try clear hfz29_6
        try clear hfz30_0
        try clear hfz30_1
        try clear hfz30_2
        try clear hfz30_3
        try clear hfz30_4
        try clear hfz30_5
        try clear hfz30_6
        try clear hfz37_0
        try clear hfz37_1
        try clear hfz37_2
        try clear hfz37_3
        try clear hfz37_4
        try clear hfz37_5
        try clear hfz37_6
        try clear hfz43_0
        try clear hfz43_1
        try clear hfz43_2
        try clear hfz43_3
        try clear hfz43_4
        try clear hfz43_5
        try clear hfz43_6
        try clear hfz47_0
        try clear hfz47_1
        try clear hfz47_2
        try clear hfz47_3
        try clear hfz47_4
        try clear hfz47_5
        try clear hfz47_6
        try clear hfz52_0
        try clear hfz52_1
        try clear hfz52_2
        try clear hfz52_3
        try clear hfz52_4
        try clear hfz52_5
        try clear hfz52_6
        try clear hfz56_0
        try clear hfz56_1
        try clear hfz56_2
        try clear hfz56_3
        try clear hfz56_4
        try clear hfz56_5
        try clear hfz56_6
        try clear hfz64_0
        try clear hfz64_1
        try clear hfz64_2
        try clear hfz64_3
        try clear hfz64_4
        try clear hfz64_5
        try clear hfz64_6
        try clear hfz68_0
        try clear hfz68_1
        try clear hfz68_2
        try clear hfz68_3
        try clear hfz68_4
        try clear hfz68_5
        try clear hfz68_6
        try clear hfz76_0
        try clear hfz76_1
        try clear hfz76_2
        try clear hfz76_3
        try clear hfz76_4
        try clear hfz76_5
        try clear hfz76_6
        try clear hfz84_0
        try clear hfz84_1
        try clear hfz84_2
        try clear hfz84_3
        try clear hfz84_4
        try clear hfz84_5
        try clear hfz84_6
        try clear hfz89_0
        try clear hfz89_1
        try clear hfz89_2
        try clear hfz89_3
        try clear hfz89_4
        try clear hfz89_5
        try clear hfz89_6
        try clear hfz98_0
        try clear hfz98_1
        try clear hfz98_2
        try clear hfz98_3
        try clear hfz98_4
        try clear hfz98_5
        try clear hfz98_6
        try clear p2
        obtain ⟨x16_3, x17_3, x147000_3, x147001_3, x147002_3, x147003_3, x147004_3, x147005_3, x147006_3, rfl, rfl, HA, HK3, BK101, BK110, BK118, BK127, BK136, BK145, BK146, HB⟩ := hrel
        cases gk with
        | zero => exact absurd HA.out (by simp [drachmlaw03_DimsBack.l0])
        | succ k3 =>
         have H := HA.out
         clear HA
         simp only [drachmlaw03_DimsBack.l0] at H
         by_cases c99 : x17_3 < (Int.tmod (wrap64 ((Int.tmod a1 10) + 10)) 10)
         ·rw [if_pos c99] at H
          have c99b0 : decide (x17_3 < (Int.tmod (wrap64 ((Int.tmod a1 10) + 10)) 10)) = true := decide_eq_true c99
          clear c99
          by_cases c100 : x16_3 = true
          ·subst c100
           have H1 : ((dims_Add.f x147000_3 x147001_3 x147002_3 x147003_3 x147004_3 x147005_3 x147006_3 t103 t104 t105 t106 t107 t108 t109).bind fun bt147 => (drachmlaw03_DimsBack.l0 k3 t102 (Int.tmod (wrap64 ((Int.tmod a1 10) + 10)) 10) bt147.2.2.2.2.2.2.2 (wrap64 (x17_3 + 1)) t103 t104 t105 t106 t107 t108 t109 bt147.1 bt147.2.1 bt147.2.2.1 bt147.2.2.2.1 bt147.2.2.2.2.1 bt147.2.2.2.2.2.1 bt147.2.2.2.2.2.2.1)) = some r := by rw [if_pos rfl] at H; exact H
           clear H
           have H := H1
           clear H1
           replace H := Option.bind_eq_some_iff.mp H
           obtain ⟨⟨t147, t148, t149, t150, t151, t152, t153, t154⟩, A1010, H⟩ := H
           replace H : (drachmlaw03_DimsBack.l0 k3 t102 (Int.tmod (wrap64 ((Int.tmod a1 10) + 10)) 10) t154 (wrap64 (x17_3 + 1)) t103 t104 t105 t106 t107 t108 t109 t147 t148 t149 t150 t151 t152 t153) = some r := H
           have A101 := Aside0.mk A1010
           clear A1010
           have H' := Aside0.mk H
           clear H
           have hnb102 := NB146_101.out
           have hnc102 := NB101_146.out
           have hnb103 := NB146_110.out
           have hnc103 := NB110_146.out
           have hnb104 := NB146_118.out
           have hnc104 := NB118_146.out
           have hnb105 := NB146_127.out
           have hnc105 := NB127_146.out
           have hnb106 := NB146_136.out
           have hnc106 := NB136_146.out
           have hnb107 := NB146_145.out
           have hnc107 := NB145_146.out
           have hcz108_0 : wr.cell? ⟨gb146, 0, none⟩ = some (.int .i64 x147000_3) := (blk_cell BK146.out 0).trans rfl
           have hcz108_1 : wr.cell? ⟨gb146, 1, none⟩ = some (.int .i64 x147001_3) := (blk_cell BK146.out 1).trans rfl
           have hcz108_2 : wr.cell? ⟨gb146, 2, none⟩ = some (.int .i64 x147002_3) := (blk_cell BK146.out 2).trans rfl
           have hcz108_3 : wr.cell? ⟨gb146, 3, none⟩ = some (.int .i64 x147003_3) := (blk_cell BK146.out 3).trans rfl
           have hcz108_4 : wr.cell? ⟨gb146, 4, none⟩ = some (.int .i64 x147004_3) := (blk_cell BK146.out 4).trans rfl
           have hcz108_5 : wr.cell? ⟨gb146, 5, none⟩ = some (.int .i64 x147005_3) := (blk_cell BK146.out 5).trans rfl
           have hcz108_6 : wr.cell? ⟨gb146, 6, none⟩ = some (.int .i64 x147006_3) := (blk_cell BK146.out 6).trans rfl
           have hfz108_0 := blk_frozen BK146.out 0
           have hfz108_1 := blk_frozen BK146.out 1
           have hfz108_2 := blk_frozen BK146.out 2
           have hfz108_3 := blk_frozen BK146.out 3
           have hfz108_4 := blk_frozen BK146.out 4
           have hfz108_5 := blk_frozen BK146.out 5
           have hfz108_6 := blk_frozen BK146.out 6
           have hnb109 := NB110_101.out
           have hnc109 := NB101_110.out
           have hnb110 := NB110_118.out
           have hnc110 := NB118_110.out
           have hnb111 := NB110_127.out
           have hnc111 := NB127_110.out
           have hnb112 := NB110_136.out
           have hnc112 := NB136_110.out
           have hnb113 := NB110_145.out
           have hnc113 := NB145_110.out
           have hcz114_0 : wr.cell? ⟨gb110, 0, none⟩ = some (.int .i64 t103) := (blk_cell BK110.out 0).trans rfl
           have hcz114_1 : wr.cell? ⟨gb110, 1, none⟩ = some (.int .i64 t104) := (blk_cell BK110.out 1).trans rfl
           have hcz114_2 : wr.cell? ⟨gb110, 2, none⟩ = some (.int .i64 t105) := (blk_cell BK110.out 2).trans rfl
           have hcz114_3 : wr.cell? ⟨gb110, 3, none⟩ = some (.int .i64 t106) := (blk_cell BK110.out 3).trans rfl
           have hcz114_4 : wr.cell? ⟨gb110, 4, none⟩ = some (.int .i64 t107) := (blk_cell BK110.out 4).trans rfl
           have hcz114_5 : wr.cell? ⟨gb110, 5, none⟩ = some (.int .i64 t108) := (blk_cell BK110.out 5).trans rfl
           have hcz114_6 : wr.cell? ⟨gb110, 6, none⟩ = some (.int .i64 t109) := (blk_cell BK110.out 6).trans rfl
           have hfz114_0 := blk_frozen BK110.out 0
           have hfz114_1 := blk_frozen BK110.out 1
           have hfz114_2 := blk_frozen BK110.out 2
           have hfz114_3 := blk_frozen BK110.out 3
           have hfz114_4 := blk_frozen BK110.out 4
           have hfz114_5 := blk_frozen BK110.out 5
           have hfz114_6 := blk_frozen BK110.out 6
           go_wp2_with (first | ((with_reducible refine gate_callee (f := 16) rfl ?_); refine goesL_ (some 83) rfl rfl Tryd.func16 (by kernel_rfl) rfl #[.agg #[.int .i64 x147000_3, .int .i64 x147001_3, .int .i64 x147002_3, .int .i64 x147003_3, .int .i64 x147004_3, .int .i64 x147005_3, .int .i64 x147006_3], .agg #[.int .i64 t103, .int .i64 t104, .int .i64 t105, .int .i64 t106, .int .i64 t107, .int .i64 t108, .int .i64 t109]] rfl (by (try simp only [List.map_toArray, List.map_cons, List.map_nil]); first | done | rfl | (simp only [List.length_drop, List.length_take]; rfl)) ?_; (with_reducible refine (dims_Add.calls x147000_3 x147001_3 x147002_3 x147003_3 x147004_3 x147005_3 x147006_3 t103 t104 t105 t106 t107 t108 t109 t147 t148 t149 t150 t151 t152 t153 t154 _ A101.out).mono ?_); rintro e w115 ⟨rfl, hb⟩; refine ⟨_, rfl, ?_⟩; replace BK101 := Aside0.mk (blk_below (kp BK101.out) hb); replace BK110 := Aside0.mk (blk_below (kp BK110.out) hb); replace BK118 := Aside0.mk (blk_below (kp BK118.out) hb); replace BK127 := Aside0.mk (blk_below (kp BK127.out) hb); replace BK136 := Aside0.mk (blk_below (kp BK136.out) hb); replace BK145 := Aside0.mk (blk_below (kp BK145.out) hb); replace BK146 := Aside0.mk (blk_below (kp BK146.out) hb); replace HB := Aside0.mk (below_step (bl HB.out) hb); (try clear hb); (try clear hb2); (try clear hk); (try clear hi); have hcz116_0 : w115.cell? ⟨gb146, 0, none⟩ = some (.int .i64 x147000_3) := (blk_cell BK146.out 0).trans rfl; have hcz116_1 : w115.cell? ⟨gb146, 1, none⟩ = some (.int .i64 x147001_3) := (blk_cell BK146.out 1).trans rfl; have hcz116_2 : w115.cell? ⟨gb146, 2, none⟩ = some (.int .i64 x147002_3) := (blk_cell BK146.out 2).trans rfl; have hcz116_3 : w115.cell? ⟨gb146, 3, none⟩ = some (.int .i64 x147003_3) := (blk_cell BK146.out 3).trans rfl; have hcz116_4 : w115.cell? ⟨gb146, 4, none⟩ = some (.int .i64 x147004_3) := (blk_cell BK146.out 4).trans rfl; have hcz116_5 : w115.cell? ⟨gb146, 5, none⟩ = some (.int .i64 x147005_3) := (blk_cell BK146.out 5).trans rfl; have hcz116_6 : w115.cell? ⟨gb146, 6, none⟩ = some (.int .i64 x147006_3) := (blk_cell BK146.out 6).trans rfl; have hfz116_0 := blk_frozen BK146.out 0; have hfz116_1 := blk_frozen BK146.out 1; have hfz116_2 := blk_frozen BK146.out 2; have hfz116_3 := blk_frozen BK146.out 3; have hfz116_4 := blk_frozen BK146.out 4; have hfz116_5 := blk_frozen BK146.out 5; have hfz116_6 := blk_frozen BK146.out 6))
           go_roundg k3
           case measure => have := HJ7.out; have := HJ58.out; have := HK3.out; omega
           case rel => exact ⟨(t154), (wrap64 (x17_3 + 1)), (t147), (t148), (t149), (t150), (t151), (t152), (t153), (by first | rfl | (simp; done) | (simp [*]; done)), (by first | rfl | (simp; done) | (simp [*]; done)), H', ⟨by have := HJ7.out; have := HJ58.out; have := HK3.out; omega⟩, ⟨kp BK101.out⟩, ⟨kp BK110.out⟩, ⟨kp BK118.out⟩, ⟨kp BK127.out⟩, ⟨kp BK136.out⟩, ⟨kp BK145.out⟩, ⟨by (with_reducible repeat (first | refine blk_drewN ?_ _ | refine blk_drew ?_ | refine blk_alloc ?_ _)); refine blk_put (cs := #[.int .i64 t147, .int .i64 t148, .int .i64 t149, .int .i64 t150, .int .i64 t151, .int .i64 t152, .int .i64 x147006_3]) ?_ 6 _ rfl; (with_reducible repeat (first | refine blk_drewN ?_ _ | refine blk_drew ?_ | refine blk_alloc ?_ _)); refine blk_put (cs := #[.int .i64 t147, .int .i64 t148, .int .i64 t149, .int .i64 t150, .int .i64 t151, .int .i64 x147005_3, .int .i64 x147006_3]) ?_ 5 _ rfl; (with_reducible repeat (first | refine blk_drewN ?_ _ | refine blk_drew ?_ | refine blk_alloc ?_ _)); refine blk_put (cs := #[.int .i64 t147, .int .i64 t148, .int .i64 t149, .int .i64 t150, .int .i64 x147004_3, .int .i64 x147005_3, .int .i64 x147006_3]) ?_ 4 _ rfl; (with_reducible repeat (first | refine blk_drewN ?_ _ | refine blk_drew ?_ | refine blk_alloc ?_ _)); refine blk_put (cs := #[.int .i64 t147, .int .i64 t148, .int .i64 t149, .int .i64 x147003_3, .int .i64 x147004_3, .int .i64 x147005_3, .int .i64 x147006_3]) ?_ 3 _ rfl; (with_reducible repeat (first | refine blk_drewN ?_ _ | refine blk_drew ?_ | refine blk_alloc ?_ _)); refine blk_put (cs := #[.int .i64 t147, .int .i64 t148, .int .i64 x147002_3, .int .i64 x147003_3, .int .i64 x147004_3, .int .i64 x147005_3, .int .i64 x147006_3]) ?_ 2 _ rfl; (with_reducible repeat (first | refine blk_drewN ?_ _ | refine blk_drew ?_ | refine blk_alloc ?_ _)); refine blk_put (cs := #[.int .i64 t147, .int .i64 x147001_3, .int .i64 x147002_3, .int .i64 x147003_3, .int .i64 x147004_3, .int .i64 x147005_3, .int .i64 x147006_3]) ?_ 1 _ rfl; (with_reducible repeat (first | refine blk_drewN ?_ _ | refine blk_drew ?_ | refine blk_alloc ?_ _)); refine blk_put (cs := #[.int .i64 x147000_3, .int .i64 x147001_3, .int .i64 x147002_3, .int .i64 x147003_3, .int .i64 x147004_3, .int .i64 x147005_3, .int .i64 x147006_3]) ?_ 0 _ rfl; (with_reducible repeat (first | refine blk_drewN ?_ _ | refine blk_drew ?_ | refine blk_alloc ?_ _)); exact BK146.out⟩, ⟨bl HB.out⟩⟩
          ·replace c100 := Bool.eq_false_iff.mpr c100
           subst c100
           have H1 : ((dims_Times.f t103 t104 t105 t106 t107 t108 t109 (Int.tmod (wrap64 ((Int.tmod a1 10) + 10)) 10)).bind fun bt155 => ((dims_Times.f t103 t104 t105 t106 t107 t108 t109 (wrap64 (-(Int.tmod (wrap64 ((Int.tmod a1 10) + 10)) 10)))).bind fun bt164 => ((dims_Add.f bt155.1 bt155.2.1 bt155.2.2.1 bt155.2.2.2.1 bt155.2.2.2.2.1 bt155.2.2.2.2.2.1 bt155.2.2.2.2.2.2.1 bt164.1 bt164.2.1 bt164.2.2.1 bt164.2.2.2.1 bt164.2.2.2.2.1 bt164.2.2.2.2.2.1 bt164.2.2.2.2.2.2.1).bind fun bt173 => (if t102 = true then (if (false == bt155.2.2.2.2.2.2.2) = true then (if (bt155.2.2.2.2.2.2.2 == bt164.2.2.2.2.2.2.2) = true then (if bt173.2.2.2.2.2.2.2 = true then (some (bt173.1 == 0 && (bt173.2.1 == 0 && (bt173.2.2.1 == 0 && (bt173.2.2.2.1 == 0 && (bt173.2.2.2.2.1 == 0 && (bt173.2.2.2.2.2.1 == 0 && (bt173.2.2.2.2.2.2.1 == 0)))))))) else (none)) else (none)) else (none)) else (none))))) = some r := by rw [if_neg (show ¬ (false = true) by decide)] at H; exact H
           clear H
           have H := H1
           clear H1
           replace H := Option.bind_eq_some_iff.mp H
           obtain ⟨⟨t155, t156, t157, t158, t159, t160, t161, t162⟩, A1170, H⟩ := H
           replace H : ((dims_Times.f t103 t104 t105 t106 t107 t108 t109 (wrap64 (-(Int.tmod (wrap64 ((Int.tmod a1 10) + 10)) 10)))).bind fun bt164 => ((dims_Add.f t155 t156 t157 t158 t159 t160 t161 bt164.1 bt164.2.1 bt164.2.2.1 bt164.2.2.2.1 bt164.2.2.2.2.1 bt164.2.2.2.2.2.1 bt164.2.2.2.2.2.2.1).bind fun bt173 => (if t102 = true then (if (false == t162) = true then (if (t162 == bt164.2.2.2.2.2.2.2) = true then (if bt173.2.2.2.2.2.2.2 = true then (some (bt173.1 == 0 && (bt173.2.1 == 0 && (bt173.2.2.1 == 0 && (bt173.2.2.2.1 == 0 && (bt173.2.2.2.2.1 == 0 && (bt173.2.2.2.2.2.1 == 0 && (bt173.2.2.2.2.2.2.1 == 0)))))))) else (none)) else (none)) else (none)) else (none)))) = some r := H
           have A117 := Aside0.mk A1170
           clear A1170
           replace H := Option.bind_eq_some_iff.mp H
           obtain ⟨⟨t164, t165, t166, t167, t168, t169, t170, t171⟩, A1180, H⟩ := H
           replace H : ((dims_Add.f t155 t156 t157 t158 t159 t160 t161 t164 t165 t166 t167 t168 t169 t170).bind fun bt173 => (if t102 = true then (if (false == t162) = true then (if (t162 == t171) = true then (if bt173.2.2.2.2.2.2.2 = true then (some (bt173.1 == 0 && (bt173.2.1 == 0 && (bt173.2.2.1 == 0 && (bt173.2.2.2.1 == 0 && (bt173.2.2.2.2.1 == 0 && (bt173.2.2.2.2.2.1 == 0 && (bt173.2.2.2.2.2.2.1 == 0)))))))) else (none)) else (none)) else (none)) else (none))) = some r := H
           have A118 := Aside0.mk A1180
           clear A1180
           replace H := Option.bind_eq_some_iff.mp H
           obtain ⟨⟨t173, t174, t175, t176, t177, t178, t179, t180⟩, A1190, H⟩ := H
           replace H : (if t102 = true then (if (false == t162) = true then (if (t162 == t171) = true then (if t180 = true then (some (t173 == 0 && (t174 == 0 && (t175 == 0 && (t176 == 0 && (t177 == 0 && (t178 == 0 && (t179 == 0)))))))) else (none)) else (none)) else (none)) else (none)) = some r := H
           have A119 := Aside0.mk A1190
           clear A1190
           by_cases c120 : t102 = true
           ·subst c120
            have H1 : (if (false == t162) = true then (if (t162 == t171) = true then (if t180 = true then (some (t173 == 0 && (t174 == 0 && (t175 == 0 && (t176 == 0 && (t177 == 0 && (t178 == 0 && (t179 == 0)))))))) else (none)) else (none)) else (none)) = some r := by rw [if_pos rfl] at H; exact H
            clear H
            have H := H1
            clear H1
            by_cases c121 : (false == t162) = true
            ·rw [if_pos c121] at H
             have c121b0 : (false == t162) = true := c121
             (try (have c121b1 : decide (false = t162) = true := by simpa using c121))
             (try (have c121b2 : (false == t162) = true := by simpa using c121))
             clear c121
             by_cases c122 : (t162 == t171) = true
             ·rw [if_pos c122] at H
              have c122b0 : (t162 == t171) = true := c122
              (try (have c122b1 : decide (t162 = t171) = true := by simpa using c122))
              (try (have c122b2 : (t162 == t171) = true := by simpa using c122))
              clear c122
              by_cases c123 : t180 = true
              ·subst c123
               have H1 : (some (t173 == 0 && (t174 == 0 && (t175 == 0 && (t176 == 0 && (t177 == 0 && (t178 == 0 && (t179 == 0)))))))) = some r := by rw [if_pos rfl] at H; exact H
               clear H
               have H := H1
               clear H1
               obtain rfl := Option.some.inj H
               have hnb124 := NB110_101.out
               have hnc124 := NB101_110.out
               have hnb125 := NB110_118.out
               have hnc125 := NB118_110.out
               have hnb126 := NB110_127.out
               have hnc126 := NB127_110.out
               have hnb127 := NB110_136.out
               have hnc127 := NB136_110.out
               have hnb128 := NB110_145.out
               have hnc128 := NB145_110.out
               have hnb129 := NB110_146.out
               have hnc129 := NB146_110.out
               have hcz130_0 : wr.cell? ⟨gb110, 0, none⟩ = some (.int .i64 t103) := (blk_cell BK110.out 0).trans rfl
               have hcz130_1 : wr.cell? ⟨gb110, 1, none⟩ = some (.int .i64 t104) := (blk_cell BK110.out 1).trans rfl
               have hcz130_2 : wr.cell? ⟨gb110, 2, none⟩ = some (.int .i64 t105) := (blk_cell BK110.out 2).trans rfl
               have hcz130_3 : wr.cell? ⟨gb110, 3, none⟩ = some (.int .i64 t106) := (blk_cell BK110.out 3).trans rfl
               have hcz130_4 : wr.cell? ⟨gb110, 4, none⟩ = some (.int .i64 t107) := (blk_cell BK110.out 4).trans rfl
               have hcz130_5 : wr.cell? ⟨gb110, 5, none⟩ = some (.int .i64 t108) := (blk_cell BK110.out 5).trans rfl
               have hcz130_6 : wr.cell? ⟨gb110, 6, none⟩ = some (.int .i64 t109) := (blk_cell BK110.out 6).trans rfl
               have hfz130_0 := blk_frozen BK110.out 0
               have hfz130_1 := blk_frozen BK110.out 1
               have hfz130_2 := blk_frozen BK110.out 2
               have hfz130_3 := blk_frozen BK110.out 3
               have hfz130_4 := blk_frozen BK110.out 4
               have hfz130_5 := blk_frozen BK110.out 5
               have hfz130_6 := blk_frozen BK110.out 6
               go_wp2_with (first | ((with_reducible refine gate_callee (f := 15) rfl ?_); refine goesL_ (some 89) rfl rfl Tryd.func15 (by kernel_rfl) rfl #[.agg #[.int .i64 t103, .int .i64 t104, .int .i64 t105, .int .i64 t106, .int .i64 t107, .int .i64 t108, .int .i64 t109], .int .i64 (Int.tmod (wrap64 ((Int.tmod a1 10) + 10)) 10)] rfl (by (try simp only [List.map_toArray, List.map_cons, List.map_nil]); first | done | rfl | (simp only [List.length_drop, List.length_take]; rfl)) ?_; (with_reducible refine (dims_Times.calls t103 t104 t105 t106 t107 t108 t109 (Int.tmod (wrap64 ((Int.tmod a1 10) + 10)) 10) t155 t156 t157 t158 t159 t160 t161 t162 _ A117.out).mono ?_); rintro e w131 ⟨rfl, hb⟩; refine ⟨_, rfl, ?_⟩; replace BK101 := Aside0.mk (blk_below (kp BK101.out) hb); replace BK110 := Aside0.mk (blk_below (kp BK110.out) hb); replace BK118 := Aside0.mk (blk_below (kp BK118.out) hb); replace BK127 := Aside0.mk (blk_below (kp BK127.out) hb); replace BK136 := Aside0.mk (blk_below (kp BK136.out) hb); replace BK145 := Aside0.mk (blk_below (kp BK145.out) hb); replace BK146 := Aside0.mk (blk_below (kp BK146.out) hb); replace HB := Aside0.mk (below_step (bl HB.out) hb); (try clear hb); (try clear hb2); (try clear hk); (try clear hi)) | ((with_reducible refine gate_dst (N := 18) rfl ?_); refine box_event ?hg (N := 18) ?hd (cs := #[.int .i64 0, .int .i64 0, .int .i64 0, .int .i64 0, .int .i64 0, .int .i64 0, .int .i64 0]) (t := 23) ?hr ?_; (case hd => rfl); (case hg => rfl); (case hr => first | (go_simp; done) | (go_simp; rfl)); intro gb163 hg w132 hbox hb; have n0_ := Aside0.mk (blk_below (kp BK101.out) hb); have n1_ := Aside0.mk (blk_below (kp BK110.out) hb); have n2_ := Aside0.mk (blk_below (kp BK118.out) hb); have n3_ := Aside0.mk (blk_below (kp BK127.out) hb); have n4_ := Aside0.mk (blk_below (kp BK136.out) hb); have n5_ := Aside0.mk (blk_below (kp BK145.out) hb); have n6_ := Aside0.mk (blk_below (kp BK146.out) hb); have n7_ := Aside0.mk (below_step (bl HB.out) hb); have n8_ := Aside0.mk (hbox); have n9_ := Aside0.mk ((by rw [hg]; exact (below_size (bl HB.out)) : w.heap.size ≤ gb163)); have n10_ := Aside0.mk ((by rw [hg]; exact (below_size (bl HB.out)) : w.heap.size ≤ gb163)); have n11_ := Aside0.mk ((by rw [hg]; exact Nat.ne_of_lt (blk_lt (kp BK101.out)) : gb101 ≠ gb163)); have n12_ := Aside0.mk ((by rw [hg]; exact Nat.ne_of_gt (blk_lt (kp BK101.out)) : gb163 ≠ gb101)); have n13_ := Aside0.mk ((by rw [hg]; exact Nat.ne_of_lt (blk_lt (kp BK110.out)) : gb110 ≠ gb163)); have n14_ := Aside0.mk ((by rw [hg]; exact Nat.ne_of_gt (blk_lt (kp BK110.out)) : gb163 ≠ gb110)); have n15_ := Aside0.mk ((by rw [hg]; exact Nat.ne_of_lt (blk_lt (kp BK118.out)) : gb118 ≠ gb163)); have n16_ := Aside0.mk ((by rw [hg]; exact Nat.ne_of_gt (blk_lt (kp BK118.out)) : gb163 ≠ gb118)); have n17_ := Aside0.mk ((by rw [hg]; exact Nat.ne_of_lt (blk_lt (kp BK127.out)) : gb127 ≠ gb163)); have n18_ := Aside0.mk ((by rw [hg]; exact Nat.ne_of_gt (blk_lt (kp BK127.out)) : gb163 ≠ gb127)); have n19_ := Aside0.mk ((by rw [hg]; exact Nat.ne_of_lt (blk_lt (kp BK136.out)) : gb136 ≠ gb163)); have n20_ := Aside0.mk ((by rw [hg]; exact Nat.ne_of_gt (blk_lt (kp BK136.out)) : gb163 ≠ gb136)); have n21_ := Aside0.mk ((by rw [hg]; exact Nat.ne_of_lt (blk_lt (kp BK145.out)) : gb145 ≠ gb163)); have n22_ := Aside0.mk ((by rw [hg]; exact Nat.ne_of_gt (blk_lt (kp BK145.out)) : gb163 ≠ gb145)); have n23_ := Aside0.mk ((by rw [hg]; exact Nat.ne_of_lt (blk_lt (kp BK146.out)) : gb146 ≠ gb163)); have n24_ := Aside0.mk ((by rw [hg]; exact Nat.ne_of_gt (blk_lt (kp BK146.out)) : gb163 ≠ gb146)); clear BK101; clear BK110; clear BK118; clear BK127; clear BK136; clear BK145; clear BK146; clear HB; have BK101 := n0_; have BK110 := n1_; have BK118 := n2_; have BK127 := n3_; have BK136 := n4_; have BK145 := n5_; have BK146 := n6_; have HB := n7_; have BK163 := n8_; have GW163 := n9_; have GE163 := n10_; have NB101_163 := n11_; have NB163_101 := n12_; have NB110_163 := n13_; have NB163_110 := n14_; have NB118_163 := n15_; have NB163_118 := n16_; have NB127_163 := n17_; have NB163_127 := n18_; have NB136_163 := n19_; have NB163_136 := n20_; have NB145_163 := n21_; have NB163_145 := n22_; have NB146_163 := n23_; have NB163_146 := n24_; clear n0_ n1_ n2_ n3_ n4_ n5_ n6_ n7_ n8_ n9_ n10_ n11_ n12_ n13_ n14_ n15_ n16_ n17_ n18_ n19_ n20_ n21_ n22_ n23_ n24_; clear hb hbox hg; have hnb133 := NB163_101.out; have hnc133 := NB101_163.out; have hnb134 := NB163_110.out; have hnc134 := NB110_163.out; have hnb135 := NB163_118.out; have hnc135 := NB118_163.out; have hnb136 := NB163_127.out; have hnc136 := NB127_163.out; have hnb137 := NB163_136.out; have hnc137 := NB136_163.out; have hnb138 := NB163_145.out; have hnc138 := NB145_163.out; have hnb139 := NB163_146.out; have hnc139 := NB146_163.out; have hcz140_0 : w132.cell? ⟨gb163, 0, none⟩ = some (.int .i64 0) := (blk_cell BK163.out 0).trans rfl; have hcz140_1 : w132.cell? ⟨gb163, 1, none⟩ = some (.int .i64 0) := (blk_cell BK163.out 1).trans rfl; have hcz140_2 : w132.cell? ⟨gb163, 2, none⟩ = some (.int .i64 0) := (blk_cell BK163.out 2).trans rfl; have hcz140_3 : w132.cell? ⟨gb163, 3, none⟩ = some (.int .i64 0) := (blk_cell BK163.out 3).trans rfl; have hcz140_4 : w132.cell? ⟨gb163, 4, none⟩ = some (.int .i64 0) := (blk_cell BK163.out 4).trans rfl; have hcz140_5 : w132.cell? ⟨gb163, 5, none⟩ = some (.int .i64 0) := (blk_cell BK163.out 5).trans rfl; have hcz140_6 : w132.cell? ⟨gb163, 6, none⟩ = some (.int .i64 0) := (blk_cell BK163.out 6).trans rfl; have hfz140_0 := blk_frozen BK163.out 0; have hfz140_1 := blk_frozen BK163.out 1; have hfz140_2 := blk_frozen BK163.out 2; have hfz140_3 := blk_frozen BK163.out 3; have hfz140_4 := blk_frozen BK163.out 4; have hfz140_5 := blk_frozen BK163.out 5; have hfz140_6 := blk_frozen BK163.out 6; have hcz141_0 : w132.cell? ⟨gb110, 0, none⟩ = some (.int .i64 t103) := (blk_cell BK110.out 0).trans rfl; have hcz141_1 : w132.cell? ⟨gb110, 1, none⟩ = some (.int .i64 t104) := (blk_cell BK110.out 1).trans rfl; have hcz141_2 : w132.cell? ⟨gb110, 2, none⟩ = some (.int .i64 t105) := (blk_cell BK110.out 2).trans rfl; have hcz141_3 : w132.cell? ⟨gb110, 3, none⟩ = some (.int .i64 t106) := (blk_cell BK110.out 3).trans rfl; have hcz141_4 : w132.cell? ⟨gb110, 4, none⟩ = some (.int .i64 t107) := (blk_cell BK110.out 4).trans rfl; have hcz141_5 : w132.cell? ⟨gb110, 5, none⟩ = some (.int .i64 t108) := (blk_cell BK110.out 5).trans rfl; have hcz141_6 : w132.cell? ⟨gb110, 6, none⟩ = some (.int .i64 t109) := (blk_cell BK110.out 6).trans rfl; have hfz141_0 := blk_frozen BK110.out 0; have hfz141_1 := blk_frozen BK110.out 1; have hfz141_2 := blk_frozen BK110.out 2; have hfz141_3 := blk_frozen BK110.out 3; have hfz141_4 := blk_frozen BK110.out 4; have hfz141_5 := blk_frozen BK110.out 5; have hfz141_6 := blk_frozen BK110.out 6) | ((with_reducible refine gate_callee (f := 15) rfl ?_); refine goesL_ (some 96) rfl rfl Tryd.func15 (by kernel_rfl) rfl #[.agg #[.int .i64 t103, .int .i64 t104, .int .i64 t105, .int .i64 t106, .int .i64 t107, .int .i64 t108, .int .i64 t109], .int .i64 (wrap64 (-(Int.tmod (wrap64 ((Int.tmod a1 10) + 10)) 10)))] rfl (by (try simp only [List.map_toArray, List.map_cons, List.map_nil]); first | done | rfl | (simp only [List.length_drop, List.length_take]; rfl)) ?_; (with_reducible refine (dims_Times.calls t103 t104 t105 t106 t107 t108 t109 (wrap64 (-(Int.tmod (wrap64 ((Int.tmod a1 10) + 10)) 10))) t164 t165 t166 t167 t168 t169 t170 t171 _ A118.out).mono ?_); rintro e w142 ⟨rfl, hb⟩; refine ⟨_, rfl, ?_⟩; have n0_ := Aside0.mk (blk_below (kp BK101.out) hb); have n1_ := Aside0.mk (blk_below (kp BK110.out) hb); have n2_ := Aside0.mk (blk_below (kp BK118.out) hb); have n3_ := Aside0.mk (blk_below (kp BK127.out) hb); have n4_ := Aside0.mk (blk_below (kp BK136.out) hb); have n5_ := Aside0.mk (blk_below (kp BK145.out) hb); have n6_ := Aside0.mk (blk_below (kp BK146.out) hb); have n7_ := Aside0.mk (blk_below (g := gb163) (o := .cells #[.int .i64 t155, .int .i64 t156, .int .i64 t157, .int .i64 t158, .int .i64 t159, .int .i64 t160, .int .i64 t161] 23 (0, 0)) (by (with_reducible repeat (first | refine blk_drewN ?_ _ | refine blk_drew ?_ | refine blk_alloc ?_ _)); refine blk_put (cs := #[.int .i64 t155, .int .i64 t156, .int .i64 t157, .int .i64 t158, .int .i64 t159, .int .i64 t160, .int .i64 0]) ?_ 6 _ rfl; (with_reducible repeat (first | refine blk_drewN ?_ _ | refine blk_drew ?_ | refine blk_alloc ?_ _)); refine blk_put (cs := #[.int .i64 t155, .int .i64 t156, .int .i64 t157, .int .i64 t158, .int .i64 t159, .int .i64 0, .int .i64 0]) ?_ 5 _ rfl; (with_reducible repeat (first | refine blk_drewN ?_ _ | refine blk_drew ?_ | refine blk_alloc ?_ _)); refine blk_put (cs := #[.int .i64 t155, .int .i64 t156, .int .i64 t157, .int .i64 t158, .int .i64 0, .int .i64 0, .int .i64 0]) ?_ 4 _ rfl; (with_reducible repeat (first | refine blk_drewN ?_ _ | refine blk_drew ?_ | refine blk_alloc ?_ _)); refine blk_put (cs := #[.int .i64 t155, .int .i64 t156, .int .i64 t157, .int .i64 0, .int .i64 0, .int .i64 0, .int .i64 0]) ?_ 3 _ rfl; (with_reducible repeat (first | refine blk_drewN ?_ _ | refine blk_drew ?_ | refine blk_alloc ?_ _)); refine blk_put (cs := #[.int .i64 t155, .int .i64 t156, .int .i64 0, .int .i64 0, .int .i64 0, .int .i64 0, .int .i64 0]) ?_ 2 _ rfl; (with_reducible repeat (first | refine blk_drewN ?_ _ | refine blk_drew ?_ | refine blk_alloc ?_ _)); refine blk_put (cs := #[.int .i64 t155, .int .i64 0, .int .i64 0, .int .i64 0, .int .i64 0, .int .i64 0, .int .i64 0]) ?_ 1 _ rfl; (with_reducible repeat (first | refine blk_drewN ?_ _ | refine blk_drew ?_ | refine blk_alloc ?_ _)); refine blk_put (cs := #[.int .i64 0, .int .i64 0, .int .i64 0, .int .i64 0, .int .i64 0, .int .i64 0, .int .i64 0]) ?_ 0 _ rfl; (with_reducible repeat (first | refine blk_drewN ?_ _ | refine blk_drew ?_ | refine blk_alloc ?_ _)); exact BK163.out) hb); have n8_ := Aside0.mk (below_step (bl HB.out) hb); clear BK101; clear BK110; clear BK118; clear BK127; clear BK136; clear BK145; clear BK146; clear BK163; clear HB; have BK101 := n0_; have BK110 := n1_; have BK118 := n2_; have BK127 := n3_; have BK136 := n4_; have BK145 := n5_; have BK146 := n6_; have BK163 := n7_; have HB := n8_; clear n0_ n1_ n2_ n3_ n4_ n5_ n6_ n7_ n8_; (try clear hb); (try clear hb2); (try clear hk); (try clear hi)) | ((with_reducible refine gate_dst (N := 20) rfl ?_); refine box_event ?hg (N := 20) ?hd (cs := #[.int .i64 0, .int .i64 0, .int .i64 0, .int .i64 0, .int .i64 0, .int .i64 0, .int .i64 0]) (t := 23) ?hr ?_; (case hd => rfl); (case hg => rfl); (case hr => first | (go_simp; done) | (go_simp; rfl)); intro gb172 hg w143 hbox hb; have n0_ := Aside0.mk (blk_below (kp BK101.out) hb); have n1_ := Aside0.mk (blk_below (kp BK110.out) hb); have n2_ := Aside0.mk (blk_below (kp BK118.out) hb); have n3_ := Aside0.mk (blk_below (kp BK127.out) hb); have n4_ := Aside0.mk (blk_below (kp BK136.out) hb); have n5_ := Aside0.mk (blk_below (kp BK145.out) hb); have n6_ := Aside0.mk (blk_below (kp BK146.out) hb); have n7_ := Aside0.mk (blk_below (kp BK163.out) hb); have n8_ := Aside0.mk (below_step (bl HB.out) hb); have n9_ := Aside0.mk (hbox); have n10_ := Aside0.mk ((by rw [hg]; exact (below_size (bl HB.out)) : w.heap.size ≤ gb172)); have n11_ := Aside0.mk ((by rw [hg]; exact (below_size (bl HB.out)) : w.heap.size ≤ gb172)); have n12_ := Aside0.mk ((by rw [hg]; exact Nat.ne_of_lt (blk_lt (kp BK101.out)) : gb101 ≠ gb172)); have n13_ := Aside0.mk ((by rw [hg]; exact Nat.ne_of_gt (blk_lt (kp BK101.out)) : gb172 ≠ gb101)); have n14_ := Aside0.mk ((by rw [hg]; exact Nat.ne_of_lt (blk_lt (kp BK110.out)) : gb110 ≠ gb172)); have n15_ := Aside0.mk ((by rw [hg]; exact Nat.ne_of_gt (blk_lt (kp BK110.out)) : gb172 ≠ gb110)); have n16_ := Aside0.mk ((by rw [hg]; exact Nat.ne_of_lt (blk_lt (kp BK118.out)) : gb118 ≠ gb172)); have n17_ := Aside0.mk ((by rw [hg]; exact Nat.ne_of_gt (blk_lt (kp BK118.out)) : gb172 ≠ gb118)); have n18_ := Aside0.mk ((by rw [hg]; exact Nat.ne_of_lt (blk_lt (kp BK127.out)) : gb127 ≠ gb172)); have n19_ := Aside0.mk ((by rw [hg]; exact Nat.ne_of_gt (blk_lt (kp BK127.out)) : gb172 ≠ gb127)); have n20_ := Aside0.mk ((by rw [hg]; exact Nat.ne_of_lt (blk_lt (kp BK136.out)) : gb136 ≠ gb172)); have n21_ := Aside0.mk ((by rw [hg]; exact Nat.ne_of_gt (blk_lt (kp BK136.out)) : gb172 ≠ gb136)); have n22_ := Aside0.mk ((by rw [hg]; exact Nat.ne_of_lt (blk_lt (kp BK145.out)) : gb145 ≠ gb172)); have n23_ := Aside0.mk ((by rw [hg]; exact Nat.ne_of_gt (blk_lt (kp BK145.out)) : gb172 ≠ gb145)); have n24_ := Aside0.mk ((by rw [hg]; exact Nat.ne_of_lt (blk_lt (kp BK146.out)) : gb146 ≠ gb172)); have n25_ := Aside0.mk ((by rw [hg]; exact Nat.ne_of_gt (blk_lt (kp BK146.out)) : gb172 ≠ gb146)); have n26_ := Aside0.mk ((by rw [hg]; exact Nat.ne_of_lt (blk_lt (kp BK163.out)) : gb163 ≠ gb172)); have n27_ := Aside0.mk ((by rw [hg]; exact Nat.ne_of_gt (blk_lt (kp BK163.out)) : gb172 ≠ gb163)); clear BK101; clear BK110; clear BK118; clear BK127; clear BK136; clear BK145; clear BK146; clear BK163; clear HB; have BK101 := n0_; have BK110 := n1_; have BK118 := n2_; have BK127 := n3_; have BK136 := n4_; have BK145 := n5_; have BK146 := n6_; have BK163 := n7_; have HB := n8_; have BK172 := n9_; have GW172 := n10_; have GE172 := n11_; have NB101_172 := n12_; have NB172_101 := n13_; have NB110_172 := n14_; have NB172_110 := n15_; have NB118_172 := n16_; have NB172_118 := n17_; have NB127_172 := n18_; have NB172_127 := n19_; have NB136_172 := n20_; have NB172_136 := n21_; have NB145_172 := n22_; have NB172_145 := n23_; have NB146_172 := n24_; have NB172_146 := n25_; have NB163_172 := n26_; have NB172_163 := n27_; clear n0_ n1_ n2_ n3_ n4_ n5_ n6_ n7_ n8_ n9_ n10_ n11_ n12_ n13_ n14_ n15_ n16_ n17_ n18_ n19_ n20_ n21_ n22_ n23_ n24_ n25_ n26_ n27_; clear hb hbox hg; have hnb144 := NB172_101.out; have hnc144 := NB101_172.out; have hnb145 := NB172_110.out; have hnc145 := NB110_172.out; have hnb146 := NB172_118.out; have hnc146 := NB118_172.out; have hnb147 := NB172_127.out; have hnc147 := NB127_172.out; have hnb148 := NB172_136.out; have hnc148 := NB136_172.out; have hnb149 := NB172_145.out; have hnc149 := NB145_172.out; have hnb150 := NB172_146.out; have hnc150 := NB146_172.out; have hnb151 := NB172_163.out; have hnc151 := NB163_172.out; have hcz152_0 : w143.cell? ⟨gb172, 0, none⟩ = some (.int .i64 0) := (blk_cell BK172.out 0).trans rfl; have hcz152_1 : w143.cell? ⟨gb172, 1, none⟩ = some (.int .i64 0) := (blk_cell BK172.out 1).trans rfl; have hcz152_2 : w143.cell? ⟨gb172, 2, none⟩ = some (.int .i64 0) := (blk_cell BK172.out 2).trans rfl; have hcz152_3 : w143.cell? ⟨gb172, 3, none⟩ = some (.int .i64 0) := (blk_cell BK172.out 3).trans rfl; have hcz152_4 : w143.cell? ⟨gb172, 4, none⟩ = some (.int .i64 0) := (blk_cell BK172.out 4).trans rfl; have hcz152_5 : w143.cell? ⟨gb172, 5, none⟩ = some (.int .i64 0) := (blk_cell BK172.out 5).trans rfl; have hcz152_6 : w143.cell? ⟨gb172, 6, none⟩ = some (.int .i64 0) := (blk_cell BK172.out 6).trans rfl; have hfz152_0 := blk_frozen BK172.out 0; have hfz152_1 := blk_frozen BK172.out 1; have hfz152_2 := blk_frozen BK172.out 2; have hfz152_3 := blk_frozen BK172.out 3; have hfz152_4 := blk_frozen BK172.out 4; have hfz152_5 := blk_frozen BK172.out 5; have hfz152_6 := blk_frozen BK172.out 6; have hcz153_0 : w143.cell? ⟨gb163, 0, none⟩ = some (.int .i64 t155) := (blk_cell BK163.out 0).trans rfl; have hcz153_1 : w143.cell? ⟨gb163, 1, none⟩ = some (.int .i64 t156) := (blk_cell BK163.out 1).trans rfl; have hcz153_2 : w143.cell? ⟨gb163, 2, none⟩ = some (.int .i64 t157) := (blk_cell BK163.out 2).trans rfl; have hcz153_3 : w143.cell? ⟨gb163, 3, none⟩ = some (.int .i64 t158) := (blk_cell BK163.out 3).trans rfl; have hcz153_4 : w143.cell? ⟨gb163, 4, none⟩ = some (.int .i64 t159) := (blk_cell BK163.out 4).trans rfl; have hcz153_5 : w143.cell? ⟨gb163, 5, none⟩ = some (.int .i64 t160) := (blk_cell BK163.out 5).trans rfl; have hcz153_6 : w143.cell? ⟨gb163, 6, none⟩ = some (.int .i64 t161) := (blk_cell BK163.out 6).trans rfl; have hfz153_0 := blk_frozen BK163.out 0; have hfz153_1 := blk_frozen BK163.out 1; have hfz153_2 := blk_frozen BK163.out 2; have hfz153_3 := blk_frozen BK163.out 3; have hfz153_4 := blk_frozen BK163.out 4; have hfz153_5 := blk_frozen BK163.out 5; have hfz153_6 := blk_frozen BK163.out 6) | ((with_reducible refine gate_callee (f := 16) rfl ?_); refine goesL_ (some 102) rfl rfl Tryd.func16 (by kernel_rfl) rfl #[.agg #[.int .i64 t155, .int .i64 t156, .int .i64 t157, .int .i64 t158, .int .i64 t159, .int .i64 t160, .int .i64 t161], .agg #[.int .i64 t164, .int .i64 t165, .int .i64 t166, .int .i64 t167, .int .i64 t168, .int .i64 t169, .int .i64 t170]] rfl (by (try simp only [List.map_toArray, List.map_cons, List.map_nil]); first | done | rfl | (simp only [List.length_drop, List.length_take]; rfl)) ?_; (with_reducible refine (dims_Add.calls t155 t156 t157 t158 t159 t160 t161 t164 t165 t166 t167 t168 t169 t170 t173 t174 t175 t176 t177 t178 t179 true _ A119.out).mono ?_); rintro e w154 ⟨rfl, hb⟩; refine ⟨_, rfl, ?_⟩; have n0_ := Aside0.mk (blk_below (kp BK101.out) hb); have n1_ := Aside0.mk (blk_below (kp BK110.out) hb); have n2_ := Aside0.mk (blk_below (kp BK118.out) hb); have n3_ := Aside0.mk (blk_below (kp BK127.out) hb); have n4_ := Aside0.mk (blk_below (kp BK136.out) hb); have n5_ := Aside0.mk (blk_below (kp BK145.out) hb); have n6_ := Aside0.mk (blk_below (kp BK146.out) hb); have n7_ := Aside0.mk (blk_below (kp BK163.out) hb); have n8_ := Aside0.mk (blk_below (g := gb172) (o := .cells #[.int .i64 t164, .int .i64 t165, .int .i64 t166, .int .i64 t167, .int .i64 t168, .int .i64 t169, .int .i64 t170] 23 (0, 0)) (by (with_reducible repeat (first | refine blk_drewN ?_ _ | refine blk_drew ?_ | refine blk_alloc ?_ _)); refine blk_put (cs := #[.int .i64 t164, .int .i64 t165, .int .i64 t166, .int .i64 t167, .int .i64 t168, .int .i64 t169, .int .i64 0]) ?_ 6 _ rfl; (with_reducible repeat (first | refine blk_drewN ?_ _ | refine blk_drew ?_ | refine blk_alloc ?_ _)); refine blk_put (cs := #[.int .i64 t164, .int .i64 t165, .int .i64 t166, .int .i64 t167, .int .i64 t168, .int .i64 0, .int .i64 0]) ?_ 5 _ rfl; (with_reducible repeat (first | refine blk_drewN ?_ _ | refine blk_drew ?_ | refine blk_alloc ?_ _)); refine blk_put (cs := #[.int .i64 t164, .int .i64 t165, .int .i64 t166, .int .i64 t167, .int .i64 0, .int .i64 0, .int .i64 0]) ?_ 4 _ rfl; (with_reducible repeat (first | refine blk_drewN ?_ _ | refine blk_drew ?_ | refine blk_alloc ?_ _)); refine blk_put (cs := #[.int .i64 t164, .int .i64 t165, .int .i64 t166, .int .i64 0, .int .i64 0, .int .i64 0, .int .i64 0]) ?_ 3 _ rfl; (with_reducible repeat (first | refine blk_drewN ?_ _ | refine blk_drew ?_ | refine blk_alloc ?_ _)); refine blk_put (cs := #[.int .i64 t164, .int .i64 t165, .int .i64 0, .int .i64 0, .int .i64 0, .int .i64 0, .int .i64 0]) ?_ 2 _ rfl; (with_reducible repeat (first | refine blk_drewN ?_ _ | refine blk_drew ?_ | refine blk_alloc ?_ _)); refine blk_put (cs := #[.int .i64 t164, .int .i64 0, .int .i64 0, .int .i64 0, .int .i64 0, .int .i64 0, .int .i64 0]) ?_ 1 _ rfl; (with_reducible repeat (first | refine blk_drewN ?_ _ | refine blk_drew ?_ | refine blk_alloc ?_ _)); refine blk_put (cs := #[.int .i64 0, .int .i64 0, .int .i64 0, .int .i64 0, .int .i64 0, .int .i64 0, .int .i64 0]) ?_ 0 _ rfl; (with_reducible repeat (first | refine blk_drewN ?_ _ | refine blk_drew ?_ | refine blk_alloc ?_ _)); exact BK172.out) hb); have n9_ := Aside0.mk (below_step (bl HB.out) hb); clear BK101; clear BK110; clear BK118; clear BK127; clear BK136; clear BK145; clear BK146; clear BK163; clear BK172; clear HB; have BK101 := n0_; have BK110 := n1_; have BK118 := n2_; have BK127 := n3_; have BK136 := n4_; have BK145 := n5_; have BK146 := n6_; have BK163 := n7_; have BK172 := n8_; have HB := n9_; clear n0_ n1_ n2_ n3_ n4_ n5_ n6_ n7_ n8_ n9_; (try clear hb); (try clear hb2); (try clear hk); (try clear hi)) | ((with_reducible refine gate_dst (N := 22) rfl ?_); refine box_event ?hg (N := 22) ?hd (cs := #[.int .i64 0, .int .i64 0, .int .i64 0, .int .i64 0, .int .i64 0, .int .i64 0, .int .i64 0]) (t := 23) ?hr ?_; (case hd => rfl); (case hg => rfl); (case hr => first | (go_simp; done) | (go_simp; rfl)); intro gb181 hg w155 hbox hb; have n0_ := Aside0.mk (blk_below (kp BK101.out) hb); have n1_ := Aside0.mk (blk_below (kp BK110.out) hb); have n2_ := Aside0.mk (blk_below (kp BK118.out) hb); have n3_ := Aside0.mk (blk_below (kp BK127.out) hb); have n4_ := Aside0.mk (blk_below (kp BK136.out) hb); have n5_ := Aside0.mk (blk_below (kp BK145.out) hb); have n6_ := Aside0.mk (blk_below (kp BK146.out) hb); have n7_ := Aside0.mk (blk_below (kp BK163.out) hb); have n8_ := Aside0.mk (blk_below (kp BK172.out) hb); have n9_ := Aside0.mk (below_step (bl HB.out) hb); have n10_ := Aside0.mk (hbox); have n11_ := Aside0.mk ((by rw [hg]; exact (below_size (bl HB.out)) : w.heap.size ≤ gb181)); have n12_ := Aside0.mk ((by rw [hg]; exact (below_size (bl HB.out)) : w.heap.size ≤ gb181)); have n13_ := Aside0.mk ((by rw [hg]; exact Nat.ne_of_lt (blk_lt (kp BK101.out)) : gb101 ≠ gb181)); have n14_ := Aside0.mk ((by rw [hg]; exact Nat.ne_of_gt (blk_lt (kp BK101.out)) : gb181 ≠ gb101)); have n15_ := Aside0.mk ((by rw [hg]; exact Nat.ne_of_lt (blk_lt (kp BK110.out)) : gb110 ≠ gb181)); have n16_ := Aside0.mk ((by rw [hg]; exact Nat.ne_of_gt (blk_lt (kp BK110.out)) : gb181 ≠ gb110)); have n17_ := Aside0.mk ((by rw [hg]; exact Nat.ne_of_lt (blk_lt (kp BK118.out)) : gb118 ≠ gb181)); have n18_ := Aside0.mk ((by rw [hg]; exact Nat.ne_of_gt (blk_lt (kp BK118.out)) : gb181 ≠ gb118)); have n19_ := Aside0.mk ((by rw [hg]; exact Nat.ne_of_lt (blk_lt (kp BK127.out)) : gb127 ≠ gb181)); have n20_ := Aside0.mk ((by rw [hg]; exact Nat.ne_of_gt (blk_lt (kp BK127.out)) : gb181 ≠ gb127)); have n21_ := Aside0.mk ((by rw [hg]; exact Nat.ne_of_lt (blk_lt (kp BK136.out)) : gb136 ≠ gb181)); have n22_ := Aside0.mk ((by rw [hg]; exact Nat.ne_of_gt (blk_lt (kp BK136.out)) : gb181 ≠ gb136)); have n23_ := Aside0.mk ((by rw [hg]; exact Nat.ne_of_lt (blk_lt (kp BK145.out)) : gb145 ≠ gb181)); have n24_ := Aside0.mk ((by rw [hg]; exact Nat.ne_of_gt (blk_lt (kp BK145.out)) : gb181 ≠ gb145)); have n25_ := Aside0.mk ((by rw [hg]; exact Nat.ne_of_lt (blk_lt (kp BK146.out)) : gb146 ≠ gb181)); have n26_ := Aside0.mk ((by rw [hg]; exact Nat.ne_of_gt (blk_lt (kp BK146.out)) : gb181 ≠ gb146)); have n27_ := Aside0.mk ((by rw [hg]; exact Nat.ne_of_lt (blk_lt (kp BK163.out)) : gb163 ≠ gb181)); have n28_ := Aside0.mk ((by rw [hg]; exact Nat.ne_of_gt (blk_lt (kp BK163.out)) : gb181 ≠ gb163)); have n29_ := Aside0.mk ((by rw [hg]; exact Nat.ne_of_lt (blk_lt (kp BK172.out)) : gb172 ≠ gb181)); have n30_ := Aside0.mk ((by rw [hg]; exact Nat.ne_of_gt (blk_lt (kp BK172.out)) : gb181 ≠ gb172)); clear BK101; clear BK110; clear BK118; clear BK127; clear BK136; clear BK145; clear BK146; clear BK163; clear BK172; clear HB; have BK101 := n0_; have BK110 := n1_; have BK118 := n2_; have BK127 := n3_; have BK136 := n4_; have BK145 := n5_; have BK146 := n6_; have BK163 := n7_; have BK172 := n8_; have HB := n9_; have BK181 := n10_; have GW181 := n11_; have GE181 := n12_; have NB101_181 := n13_; have NB181_101 := n14_; have NB110_181 := n15_; have NB181_110 := n16_; have NB118_181 := n17_; have NB181_118 := n18_; have NB127_181 := n19_; have NB181_127 := n20_; have NB136_181 := n21_; have NB181_136 := n22_; have NB145_181 := n23_; have NB181_145 := n24_; have NB146_181 := n25_; have NB181_146 := n26_; have NB163_181 := n27_; have NB181_163 := n28_; have NB172_181 := n29_; have NB181_172 := n30_; clear n0_ n1_ n2_ n3_ n4_ n5_ n6_ n7_ n8_ n9_ n10_ n11_ n12_ n13_ n14_ n15_ n16_ n17_ n18_ n19_ n20_ n21_ n22_ n23_ n24_ n25_ n26_ n27_ n28_ n29_ n30_; clear hb hbox hg; have hnb156 := NB181_101.out; have hnc156 := NB101_181.out; have hnb157 := NB181_110.out; have hnc157 := NB110_181.out; have hnb158 := NB181_118.out; have hnc158 := NB118_181.out; have hnb159 := NB181_127.out; have hnc159 := NB127_181.out; have hnb160 := NB181_136.out; have hnc160 := NB136_181.out; have hnb161 := NB181_145.out; have hnc161 := NB145_181.out; have hnb162 := NB181_146.out; have hnc162 := NB146_181.out; have hnb163 := NB181_163.out; have hnc163 := NB163_181.out; have hnb164 := NB181_172.out; have hnc164 := NB172_181.out; have hcz165_0 : w155.cell? ⟨gb181, 0, none⟩ = some (.int .i64 0) := (blk_cell BK181.out 0).trans rfl; have hcz165_1 : w155.cell? ⟨gb181, 1, none⟩ = some (.int .i64 0) := (blk_cell BK181.out 1).trans rfl; have hcz165_2 : w155.cell? ⟨gb181, 2, none⟩ = some (.int .i64 0) := (blk_cell BK181.out 2).trans rfl; have hcz165_3 : w155.cell? ⟨gb181, 3, none⟩ = some (.int .i64 0) := (blk_cell BK181.out 3).trans rfl; have hcz165_4 : w155.cell? ⟨gb181, 4, none⟩ = some (.int .i64 0) := (blk_cell BK181.out 4).trans rfl; have hcz165_5 : w155.cell? ⟨gb181, 5, none⟩ = some (.int .i64 0) := (blk_cell BK181.out 5).trans rfl; have hcz165_6 : w155.cell? ⟨gb181, 6, none⟩ = some (.int .i64 0) := (blk_cell BK181.out 6).trans rfl; have hfz165_0 := blk_frozen BK181.out 0; have hfz165_1 := blk_frozen BK181.out 1; have hfz165_2 := blk_frozen BK181.out 2; have hfz165_3 := blk_frozen BK181.out 3; have hfz165_4 := blk_frozen BK181.out 4; have hfz165_5 := blk_frozen BK181.out 5; have hfz165_6 := blk_frozen BK181.out 6))
               go_ret
               exact ⟨by first | rfl | (simp [errW_none, errW_some] <;> rfl) | (simp [*, errW_none, errW_some] <;> rfl), bl HB.out⟩
              ·replace c123 := Bool.eq_false_iff.mpr c123
               subst c123
               have H1 : (none) = some r := by rw [if_neg (show ¬ (false = true) by decide)] at H; exact H
               clear H
               have H := H1
               clear H1
               exact absurd H (by simp)
             ·rw [if_neg c122] at H
              exact absurd H (by simp)
            ·rw [if_neg c121] at H
             exact absurd H (by simp)
           ·replace c120 := Bool.eq_false_iff.mpr c120
            subst c120
            have H1 : (none) = some r := by rw [if_neg (show ¬ (false = true) by decide)] at H; exact H
            clear H
            have H := H1
            clear H1
            exact absurd H (by simp)
         ·rw [if_neg c99] at H
          have c99b0 : decide (x17_3 < (Int.tmod (wrap64 ((Int.tmod a1 10) + 10)) 10)) = false := decide_eq_false c99
          clear c99
          replace H := Option.bind_eq_some_iff.mp H
          obtain ⟨⟨t182, t183, t184, t185, t186, t187, t188, t189⟩, A1660, H⟩ := H
          replace H : ((dims_Times.f t103 t104 t105 t106 t107 t108 t109 (wrap64 (-(Int.tmod (wrap64 ((Int.tmod a1 10) + 10)) 10)))).bind fun bt191 => ((dims_Add.f t182 t183 t184 t185 t186 t187 t188 bt191.1 bt191.2.1 bt191.2.2.1 bt191.2.2.2.1 bt191.2.2.2.2.1 bt191.2.2.2.2.2.1 bt191.2.2.2.2.2.2.1).bind fun bt200 => (if t102 = true then (if (x16_3 == t189) = true then (if x16_3 = true then (if (t182 == x147000_3 && (t183 == x147001_3 && (t184 == x147002_3 && (t185 == x147003_3 && (t186 == x147004_3 && (t187 == x147005_3 && (t188 == x147006_3))))))) = true then (if (t189 == bt191.2.2.2.2.2.2.2) = true then (if bt200.2.2.2.2.2.2.2 = true then (some (bt200.1 == 0 && (bt200.2.1 == 0 && (bt200.2.2.1 == 0 && (bt200.2.2.2.1 == 0 && (bt200.2.2.2.2.1 == 0 && (bt200.2.2.2.2.2.1 == 0 && (bt200.2.2.2.2.2.2.1 == 0)))))))) else (none)) else (none)) else (none)) else (if (t189 == bt191.2.2.2.2.2.2.2) = true then (if bt200.2.2.2.2.2.2.2 = true then (some (bt200.1 == 0 && (bt200.2.1 == 0 && (bt200.2.2.1 == 0 && (bt200.2.2.2.1 == 0 && (bt200.2.2.2.2.1 == 0 && (bt200.2.2.2.2.2.1 == 0 && (bt200.2.2.2.2.2.2.1 == 0)))))))) else (none)) else (none))) else (none)) else (none)))) = some r := H
          have A166 := Aside0.mk A1660
          clear A1660
          replace H := Option.bind_eq_some_iff.mp H
          obtain ⟨⟨t191, t192, t193, t194, t195, t196, t197, t198⟩, A1670, H⟩ := H
          replace H : ((dims_Add.f t182 t183 t184 t185 t186 t187 t188 t191 t192 t193 t194 t195 t196 t197).bind fun bt200 => (if t102 = true then (if (x16_3 == t189) = true then (if x16_3 = true then (if (t182 == x147000_3 && (t183 == x147001_3 && (t184 == x147002_3 && (t185 == x147003_3 && (t186 == x147004_3 && (t187 == x147005_3 && (t188 == x147006_3))))))) = true then (if (t189 == t198) = true then (if bt200.2.2.2.2.2.2.2 = true then (some (bt200.1 == 0 && (bt200.2.1 == 0 && (bt200.2.2.1 == 0 && (bt200.2.2.2.1 == 0 && (bt200.2.2.2.2.1 == 0 && (bt200.2.2.2.2.2.1 == 0 && (bt200.2.2.2.2.2.2.1 == 0)))))))) else (none)) else (none)) else (none)) else (if (t189 == t198) = true then (if bt200.2.2.2.2.2.2.2 = true then (some (bt200.1 == 0 && (bt200.2.1 == 0 && (bt200.2.2.1 == 0 && (bt200.2.2.2.1 == 0 && (bt200.2.2.2.2.1 == 0 && (bt200.2.2.2.2.2.1 == 0 && (bt200.2.2.2.2.2.2.1 == 0)))))))) else (none)) else (none))) else (none)) else (none))) = some r := H
          have A167 := Aside0.mk A1670
          clear A1670
          replace H := Option.bind_eq_some_iff.mp H
          obtain ⟨⟨t200, t201, t202, t203, t204, t205, t206, t207⟩, A1680, H⟩ := H
          replace H : (if t102 = true then (if (x16_3 == t189) = true then (if x16_3 = true then (if (t182 == x147000_3 && (t183 == x147001_3 && (t184 == x147002_3 && (t185 == x147003_3 && (t186 == x147004_3 && (t187 == x147005_3 && (t188 == x147006_3))))))) = true then (if (t189 == t198) = true then (if t207 = true then (some (t200 == 0 && (t201 == 0 && (t202 == 0 && (t203 == 0 && (t204 == 0 && (t205 == 0 && (t206 == 0)))))))) else (none)) else (none)) else (none)) else (if (t189 == t198) = true then (if t207 = true then (some (t200 == 0 && (t201 == 0 && (t202 == 0 && (t203 == 0 && (t204 == 0 && (t205 == 0 && (t206 == 0)))))))) else (none)) else (none))) else (none)) else (none)) = some r := H
          have A168 := Aside0.mk A1680
          clear A1680
          by_cases c169 : t102 = true
          ·subst c169
           have H1 : (if (x16_3 == t189) = true then (if x16_3 = true then (if (t182 == x147000_3 && (t183 == x147001_3 && (t184 == x147002_3 && (t185 == x147003_3 && (t186 == x147004_3 && (t187 == x147005_3 && (t188 == x147006_3))))))) = true then (if (t189 == t198) = true then (if t207 = true then (some (t200 == 0 && (t201 == 0 && (t202 == 0 && (t203 == 0 && (t204 == 0 && (t205 == 0 && (t206 == 0)))))))) else (none)) else (none)) else (none)) else (if (t189 == t198) = true then (if t207 = true then (some (t200 == 0 && (t201 == 0 && (t202 == 0 && (t203 == 0 && (t204 == 0 && (t205 == 0 && (t206 == 0)))))))) else (none)) else (none))) else (none)) = some r := by rw [if_pos rfl] at H; exact H
           clear H
           have H := H1
           clear H1
           by_cases c170 : (x16_3 == t189) = true
           ·rw [if_pos c170] at H
            have c170b0 : (x16_3 == t189) = true := c170
            (try (have c170b1 : decide (x16_3 = t189) = true := by simpa using c170))
            (try (have c170b2 : (x16_3 == t189) = true := by simpa using c170))
            clear c170
            by_cases c171 : x16_3 = true
            ·subst c171
             have H1 : (if (t182 == x147000_3 && (t183 == x147001_3 && (t184 == x147002_3 && (t185 == x147003_3 && (t186 == x147004_3 && (t187 == x147005_3 && (t188 == x147006_3))))))) = true then (if (t189 == t198) = true then (if t207 = true then (some (t200 == 0 && (t201 == 0 && (t202 == 0 && (t203 == 0 && (t204 == 0 && (t205 == 0 && (t206 == 0)))))))) else (none)) else (none)) else (none)) = some r := by rw [if_pos rfl] at H; exact H
             clear H
             have H := H1
             clear H1
             by_cases c172 : (t182 == x147000_3 && (t183 == x147001_3 && (t184 == x147002_3 && (t185 == x147003_3 && (t186 == x147004_3 && (t187 == x147005_3 && (t188 == x147006_3))))))) = true
             ·rw [if_pos c172] at H
              have c172b0 : (t182 == x147000_3 && (t183 == x147001_3 && (t184 == x147002_3 && (t185 == x147003_3 && (t186 == x147004_3 && (t187 == x147005_3 && (t188 == x147006_3))))))) = true := c172
              (try (have c172b1 : decide (t182 = x147000_3 && (t183 == x147001_3 && (t184 == x147002_3 && (t185 == x147003_3 && (t186 == x147004_3 && (t187 == x147005_3 && (t188 == x147006_3))))))) = true := by simpa using c172))
              (try (have c172b2 : (t182 == x147000_3 && (t183 == x147001_3 && (t184 == x147002_3 && (t185 == x147003_3 && (t186 == x147004_3 && (t187 == x147005_3 && (t188 == x147006_3))))))) = true := by simpa using c172))
              clear c172
              by_cases c173 : (t189 == t198) = true
              ·rw [if_pos c173] at H
               have c173b0 : (t189 == t198) = true := c173
               (try (have c173b1 : decide (t189 = t198) = true := by simpa using c173))
               (try (have c173b2 : (t189 == t198) = true := by simpa using c173))
               clear c173
               by_cases c174 : t207 = true
               ·subst c174
                have H1 : (some (t200 == 0 && (t201 == 0 && (t202 == 0 && (t203 == 0 && (t204 == 0 && (t205 == 0 && (t206 == 0)))))))) = some r := by rw [if_pos rfl] at H; exact H
                clear H
                have H := H1
                clear H1
                obtain rfl := Option.some.inj H
                have hnb175 := NB110_101.out
                have hnc175 := NB101_110.out
                have hnb176 := NB110_118.out
                have hnc176 := NB118_110.out
                have hnb177 := NB110_127.out
                have hnc177 := NB127_110.out
                have hnb178 := NB110_136.out
                have hnc178 := NB136_110.out
                have hnb179 := NB110_145.out
                have hnc179 := NB145_110.out
                have hnb180 := NB110_146.out
                have hnc180 := NB146_110.out
                have hcz181_0 : wr.cell? ⟨gb110, 0, none⟩ = some (.int .i64 t103) := (blk_cell BK110.out 0).trans rfl
                have hcz181_1 : wr.cell? ⟨gb110, 1, none⟩ = some (.int .i64 t104) := (blk_cell BK110.out 1).trans rfl
                have hcz181_2 : wr.cell? ⟨gb110, 2, none⟩ = some (.int .i64 t105) := (blk_cell BK110.out 2).trans rfl
                have hcz181_3 : wr.cell? ⟨gb110, 3, none⟩ = some (.int .i64 t106) := (blk_cell BK110.out 3).trans rfl
                have hcz181_4 : wr.cell? ⟨gb110, 4, none⟩ = some (.int .i64 t107) := (blk_cell BK110.out 4).trans rfl
                have hcz181_5 : wr.cell? ⟨gb110, 5, none⟩ = some (.int .i64 t108) := (blk_cell BK110.out 5).trans rfl
                have hcz181_6 : wr.cell? ⟨gb110, 6, none⟩ = some (.int .i64 t109) := (blk_cell BK110.out 6).trans rfl
                have hfz181_0 := blk_frozen BK110.out 0
                have hfz181_1 := blk_frozen BK110.out 1
                have hfz181_2 := blk_frozen BK110.out 2
                have hfz181_3 := blk_frozen BK110.out 3
                have hfz181_4 := blk_frozen BK110.out 4
                have hfz181_5 := blk_frozen BK110.out 5
                have hfz181_6 := blk_frozen BK110.out 6
                go_wp2_with (first | ((with_reducible refine gate_callee (f := 15) rfl ?_); refine goesL_ (some 89) rfl rfl Tryd.func15 (by kernel_rfl) rfl #[.agg #[.int .i64 t103, .int .i64 t104, .int .i64 t105, .int .i64 t106, .int .i64 t107, .int .i64 t108, .int .i64 t109], .int .i64 (Int.tmod (wrap64 ((Int.tmod a1 10) + 10)) 10)] rfl (by (try simp only [List.map_toArray, List.map_cons, List.map_nil]); first | done | rfl | (simp only [List.length_drop, List.length_take]; rfl)) ?_; (with_reducible refine (dims_Times.calls t103 t104 t105 t106 t107 t108 t109 (Int.tmod (wrap64 ((Int.tmod a1 10) + 10)) 10) t182 t183 t184 t185 t186 t187 t188 t189 _ A166.out).mono ?_); rintro e w182 ⟨rfl, hb⟩; refine ⟨_, rfl, ?_⟩; replace BK101 := Aside0.mk (blk_below (kp BK101.out) hb); replace BK110 := Aside0.mk (blk_below (kp BK110.out) hb); replace BK118 := Aside0.mk (blk_below (kp BK118.out) hb); replace BK127 := Aside0.mk (blk_below (kp BK127.out) hb); replace BK136 := Aside0.mk (blk_below (kp BK136.out) hb); replace BK145 := Aside0.mk (blk_below (kp BK145.out) hb); replace BK146 := Aside0.mk (blk_below (kp BK146.out) hb); replace HB := Aside0.mk (below_step (bl HB.out) hb); (try clear hb); (try clear hb2); (try clear hk); (try clear hi)) | ((with_reducible refine gate_dst (N := 18) rfl ?_); refine box_event ?hg (N := 18) ?hd (cs := #[.int .i64 0, .int .i64 0, .int .i64 0, .int .i64 0, .int .i64 0, .int .i64 0, .int .i64 0]) (t := 23) ?hr ?_; (case hd => rfl); (case hg => rfl); (case hr => first | (go_simp; done) | (go_simp; rfl)); intro gb190 hg w183 hbox hb; have n0_ := Aside0.mk (blk_below (kp BK101.out) hb); have n1_ := Aside0.mk (blk_below (kp BK110.out) hb); have n2_ := Aside0.mk (blk_below (kp BK118.out) hb); have n3_ := Aside0.mk (blk_below (kp BK127.out) hb); have n4_ := Aside0.mk (blk_below (kp BK136.out) hb); have n5_ := Aside0.mk (blk_below (kp BK145.out) hb); have n6_ := Aside0.mk (blk_below (kp BK146.out) hb); have n7_ := Aside0.mk (below_step (bl HB.out) hb); have n8_ := Aside0.mk (hbox); have n9_ := Aside0.mk ((by rw [hg]; exact (below_size (bl HB.out)) : w.heap.size ≤ gb190)); have n10_ := Aside0.mk ((by rw [hg]; exact (below_size (bl HB.out)) : w.heap.size ≤ gb190)); have n11_ := Aside0.mk ((by rw [hg]; exact Nat.ne_of_lt (blk_lt (kp BK101.out)) : gb101 ≠ gb190)); have n12_ := Aside0.mk ((by rw [hg]; exact Nat.ne_of_gt (blk_lt (kp BK101.out)) : gb190 ≠ gb101)); have n13_ := Aside0.mk ((by rw [hg]; exact Nat.ne_of_lt (blk_lt (kp BK110.out)) : gb110 ≠ gb190)); have n14_ := Aside0.mk ((by rw [hg]; exact Nat.ne_of_gt (blk_lt (kp BK110.out)) : gb190 ≠ gb110)); have n15_ := Aside0.mk ((by rw [hg]; exact Nat.ne_of_lt (blk_lt (kp BK118.out)) : gb118 ≠ gb190)); have n16_ := Aside0.mk ((by rw [hg]; exact Nat.ne_of_gt (blk_lt (kp BK118.out)) : gb190 ≠ gb118)); have n17_ := Aside0.mk ((by rw [hg]; exact Nat.ne_of_lt (blk_lt (kp BK127.out)) : gb127 ≠ gb190)); have n18_ := Aside0.mk ((by rw [hg]; exact Nat.ne_of_gt (blk_lt (kp BK127.out)) : gb190 ≠ gb127)); have n19_ := Aside0.mk ((by rw [hg]; exact Nat.ne_of_lt (blk_lt (kp BK136.out)) : gb136 ≠ gb190)); have n20_ := Aside0.mk ((by rw [hg]; exact Nat.ne_of_gt (blk_lt (kp BK136.out)) : gb190 ≠ gb136)); have n21_ := Aside0.mk ((by rw [hg]; exact Nat.ne_of_lt (blk_lt (kp BK145.out)) : gb145 ≠ gb190)); have n22_ := Aside0.mk ((by rw [hg]; exact Nat.ne_of_gt (blk_lt (kp BK145.out)) : gb190 ≠ gb145)); have n23_ := Aside0.mk ((by rw [hg]; exact Nat.ne_of_lt (blk_lt (kp BK146.out)) : gb146 ≠ gb190)); have n24_ := Aside0.mk ((by rw [hg]; exact Nat.ne_of_gt (blk_lt (kp BK146.out)) : gb190 ≠ gb146)); clear BK101; clear BK110; clear BK118; clear BK127; clear BK136; clear BK145; clear BK146; clear HB; have BK101 := n0_; have BK110 := n1_; have BK118 := n2_; have BK127 := n3_; have BK136 := n4_; have BK145 := n5_; have BK146 := n6_; have HB := n7_; have BK190 := n8_; have GW190 := n9_; have GE190 := n10_; have NB101_190 := n11_; have NB190_101 := n12_; have NB110_190 := n13_; have NB190_110 := n14_; have NB118_190 := n15_; have NB190_118 := n16_; have NB127_190 := n17_; have NB190_127 := n18_; have NB136_190 := n19_; have NB190_136 := n20_; have NB145_190 := n21_; have NB190_145 := n22_; have NB146_190 := n23_; have NB190_146 := n24_; clear n0_ n1_ n2_ n3_ n4_ n5_ n6_ n7_ n8_ n9_ n10_ n11_ n12_ n13_ n14_ n15_ n16_ n17_ n18_ n19_ n20_ n21_ n22_ n23_ n24_; clear hb hbox hg; have hnb184 := NB190_101.out; have hnc184 := NB101_190.out; have hnb185 := NB190_110.out; have hnc185 := NB110_190.out; have hnb186 := NB190_118.out; have hnc186 := NB118_190.out; have hnb187 := NB190_127.out; have hnc187 := NB127_190.out; have hnb188 := NB190_136.out; have hnc188 := NB136_190.out; have hnb189 := NB190_145.out; have hnc189 := NB145_190.out; have hnb190 := NB190_146.out; have hnc190 := NB146_190.out; have hcz191_0 : w183.cell? ⟨gb190, 0, none⟩ = some (.int .i64 0) := (blk_cell BK190.out 0).trans rfl; have hcz191_1 : w183.cell? ⟨gb190, 1, none⟩ = some (.int .i64 0) := (blk_cell BK190.out 1).trans rfl; have hcz191_2 : w183.cell? ⟨gb190, 2, none⟩ = some (.int .i64 0) := (blk_cell BK190.out 2).trans rfl; have hcz191_3 : w183.cell? ⟨gb190, 3, none⟩ = some (.int .i64 0) := (blk_cell BK190.out 3).trans rfl; have hcz191_4 : w183.cell? ⟨gb190, 4, none⟩ = some (.int .i64 0) := (blk_cell BK190.out 4).trans rfl; have hcz191_5 : w183.cell? ⟨gb190, 5, none⟩ = some (.int .i64 0) := (blk_cell BK190.out 5).trans rfl; have hcz191_6 : w183.cell? ⟨gb190, 6, none⟩ = some (.int .i64 0) := (blk_cell BK190.out 6).trans rfl; have hfz191_0 := blk_frozen BK190.out 0; have hfz191_1 := blk_frozen BK190.out 1; have hfz191_2 := blk_frozen BK190.out 2; have hfz191_3 := blk_frozen BK190.out 3; have hfz191_4 := blk_frozen BK190.out 4; have hfz191_5 := blk_frozen BK190.out 5; have hfz191_6 := blk_frozen BK190.out 6; have hcz192_0 : w183.cell? ⟨gb110, 0, none⟩ = some (.int .i64 t103) := (blk_cell BK110.out 0).trans rfl; have hcz192_1 : w183.cell? ⟨gb110, 1, none⟩ = some (.int .i64 t104) := (blk_cell BK110.out 1).trans rfl; have hcz192_2 : w183.cell? ⟨gb110, 2, none⟩ = some (.int .i64 t105) := (blk_cell BK110.out 2).trans rfl; have hcz192_3 : w183.cell? ⟨gb110, 3, none⟩ = some (.int .i64 t106) := (blk_cell BK110.out 3).trans rfl; have hcz192_4 : w183.cell? ⟨gb110, 4, none⟩ = some (.int .i64 t107) := (blk_cell BK110.out 4).trans rfl; have hcz192_5 : w183.cell? ⟨gb110, 5, none⟩ = some (.int .i64 t108) := (blk_cell BK110.out 5).trans rfl; have hcz192_6 : w183.cell? ⟨gb110, 6, none⟩ = some (.int .i64 t109) := (blk_cell BK110.out 6).trans rfl; have hfz192_0 := blk_frozen BK110.out 0; have hfz192_1 := blk_frozen BK110.out 1; have hfz192_2 := blk_frozen BK110.out 2; have hfz192_3 := blk_frozen BK110.out 3; have hfz192_4 := blk_frozen BK110.out 4; have hfz192_5 := blk_frozen BK110.out 5; have hfz192_6 := blk_frozen BK110.out 6) | ((with_reducible refine gate_callee (f := 15) rfl ?_); refine goesL_ (some 96) rfl rfl Tryd.func15 (by kernel_rfl) rfl #[.agg #[.int .i64 t103, .int .i64 t104, .int .i64 t105, .int .i64 t106, .int .i64 t107, .int .i64 t108, .int .i64 t109], .int .i64 (wrap64 (-(Int.tmod (wrap64 ((Int.tmod a1 10) + 10)) 10)))] rfl (by (try simp only [List.map_toArray, List.map_cons, List.map_nil]); first | done | rfl | (simp only [List.length_drop, List.length_take]; rfl)) ?_; (with_reducible refine (dims_Times.calls t103 t104 t105 t106 t107 t108 t109 (wrap64 (-(Int.tmod (wrap64 ((Int.tmod a1 10) + 10)) 10))) t191 t192 t193 t194 t195 t196 t197 t198 _ A167.out).mono ?_); rintro e w193 ⟨rfl, hb⟩; refine ⟨_, rfl, ?_⟩; have n0_ := Aside0.mk (blk_below (kp BK101.out) hb); have n1_ := Aside0.mk (blk_below (kp BK110.out) hb); have n2_ := Aside0.mk (blk_below (kp BK118.out) hb); have n3_ := Aside0.mk (blk_below (kp BK127.out) hb); have n4_ := Aside0.mk (blk_below (kp BK136.out) hb); have n5_ := Aside0.mk (blk_below (kp BK145.out) hb); have n6_ := Aside0.mk (blk_below (kp BK146.out) hb); have n7_ := Aside0.mk (blk_below (g := gb190) (o := .cells #[.int .i64 t182, .int .i64 t183, .int .i64 t184, .int .i64 t185, .int .i64 t186, .int .i64 t187, .int .i64 t188] 23 (0, 0)) (by (with_reducible repeat (first | refine blk_drewN ?_ _ | refine blk_drew ?_ | refine blk_alloc ?_ _)); refine blk_put (cs := #[.int .i64 t182, .int .i64 t183, .int .i64 t184, .int .i64 t185, .int .i64 t186, .int .i64 t187, .int .i64 0]) ?_ 6 _ rfl; (with_reducible repeat (first | refine blk_drewN ?_ _ | refine blk_drew ?_ | refine blk_alloc ?_ _)); refine blk_put (cs := #[.int .i64 t182, .int .i64 t183, .int .i64 t184, .int .i64 t185, .int .i64 t186, .int .i64 0, .int .i64 0]) ?_ 5 _ rfl; (with_reducible repeat (first | refine blk_drewN ?_ _ | refine blk_drew ?_ | refine blk_alloc ?_ _)); refine blk_put (cs := #[.int .i64 t182, .int .i64 t183, .int .i64 t184, .int .i64 t185, .int .i64 0, .int .i64 0, .int .i64 0]) ?_ 4 _ rfl; (with_reducible repeat (first | refine blk_drewN ?_ _ | refine blk_drew ?_ | refine blk_alloc ?_ _)); refine blk_put (cs := #[.int .i64 t182, .int .i64 t183, .int .i64 t184, .int .i64 0, .int .i64 0, .int .i64 0, .int .i64 0]) ?_ 3 _ rfl; (with_reducible repeat (first | refine blk_drewN ?_ _ | refine blk_drew ?_ | refine blk_alloc ?_ _)); refine blk_put (cs := #[.int .i64 t182, .int .i64 t183, .int .i64 0, .int .i64 0, .int .i64 0, .int .i64 0, .int .i64 0]) ?_ 2 _ rfl; (with_reducible repeat (first | refine blk_drewN ?_ _ | refine blk_drew ?_ | refine blk_alloc ?_ _)); refine blk_put (cs := #[.int .i64 t182, .int .i64 0, .int .i64 0, .int .i64 0, .int .i64 0, .int .i64 0, .int .i64 0]) ?_ 1 _ rfl; (with_reducible repeat (first | refine blk_drewN ?_ _ | refine blk_drew ?_ | refine blk_alloc ?_ _)); refine blk_put (cs := #[.int .i64 0, .int .i64 0, .int .i64 0, .int .i64 0, .int .i64 0, .int .i64 0, .int .i64 0]) ?_ 0 _ rfl; (with_reducible repeat (first | refine blk_drewN ?_ _ | refine blk_drew ?_ | refine blk_alloc ?_ _)); exact BK190.out) hb); have n8_ := Aside0.mk (below_step (bl HB.out) hb); clear BK101; clear BK110; clear BK118; clear BK127; clear BK136; clear BK145; clear BK146; clear BK190; clear HB; have BK101 := n0_; have BK110 := n1_; have BK118 := n2_; have BK127 := n3_; have BK136 := n4_; have BK145 := n5_; have BK146 := n6_; have BK190 := n7_; have HB := n8_; clear n0_ n1_ n2_ n3_ n4_ n5_ n6_ n7_ n8_; (try clear hb); (try clear hb2); (try clear hk); (try clear hi)) | ((with_reducible refine gate_dst (N := 20) rfl ?_); refine box_event ?hg (N := 20) ?hd (cs := #[.int .i64 0, .int .i64 0, .int .i64 0, .int .i64 0, .int .i64 0, .int .i64 0, .int .i64 0]) (t := 23) ?hr ?_; (case hd => rfl); (case hg => rfl); (case hr => first | (go_simp; done) | (go_simp; rfl)); intro gb199 hg w194 hbox hb; have n0_ := Aside0.mk (blk_below (kp BK101.out) hb); have n1_ := Aside0.mk (blk_below (kp BK110.out) hb); have n2_ := Aside0.mk (blk_below (kp BK118.out) hb); have n3_ := Aside0.mk (blk_below (kp BK127.out) hb); have n4_ := Aside0.mk (blk_below (kp BK136.out) hb); have n5_ := Aside0.mk (blk_below (kp BK145.out) hb); have n6_ := Aside0.mk (blk_below (kp BK146.out) hb); have n7_ := Aside0.mk (blk_below (kp BK190.out) hb); have n8_ := Aside0.mk (below_step (bl HB.out) hb); have n9_ := Aside0.mk (hbox); have n10_ := Aside0.mk ((by rw [hg]; exact (below_size (bl HB.out)) : w.heap.size ≤ gb199)); have n11_ := Aside0.mk ((by rw [hg]; exact (below_size (bl HB.out)) : w.heap.size ≤ gb199)); have n12_ := Aside0.mk ((by rw [hg]; exact Nat.ne_of_lt (blk_lt (kp BK101.out)) : gb101 ≠ gb199)); have n13_ := Aside0.mk ((by rw [hg]; exact Nat.ne_of_gt (blk_lt (kp BK101.out)) : gb199 ≠ gb101)); have n14_ := Aside0.mk ((by rw [hg]; exact Nat.ne_of_lt (blk_lt (kp BK110.out)) : gb110 ≠ gb199)); have n15_ := Aside0.mk ((by rw [hg]; exact Nat.ne_of_gt (blk_lt (kp BK110.out)) : gb199 ≠ gb110)); have n16_ := Aside0.mk ((by rw [hg]; exact Nat.ne_of_lt (blk_lt (kp BK118.out)) : gb118 ≠ gb199)); have n17_ := Aside0.mk ((by rw [hg]; exact Nat.ne_of_gt (blk_lt (kp BK118.out)) : gb199 ≠ gb118)); have n18_ := Aside0.mk ((by rw [hg]; exact Nat.ne_of_lt (blk_lt (kp BK127.out)) : gb127 ≠ gb199)); have n19_ := Aside0.mk ((by rw [hg]; exact Nat.ne_of_gt (blk_lt (kp BK127.out)) : gb199 ≠ gb127)); have n20_ := Aside0.mk ((by rw [hg]; exact Nat.ne_of_lt (blk_lt (kp BK136.out)) : gb136 ≠ gb199)); have n21_ := Aside0.mk ((by rw [hg]; exact Nat.ne_of_gt (blk_lt (kp BK136.out)) : gb199 ≠ gb136)); have n22_ := Aside0.mk ((by rw [hg]; exact Nat.ne_of_lt (blk_lt (kp BK145.out)) : gb145 ≠ gb199)); have n23_ := Aside0.mk ((by rw [hg]; exact Nat.ne_of_gt (blk_lt (kp BK145.out)) : gb199 ≠ gb145)); have n24_ := Aside0.mk ((by rw [hg]; exact Nat.ne_of_lt (blk_lt (kp BK146.out)) : gb146 ≠ gb199)); have n25_ := Aside0.mk ((by rw [hg]; exact Nat.ne_of_gt (blk_lt (kp BK146.out)) : gb199 ≠ gb146)); have n26_ := Aside0.mk ((by rw [hg]; exact Nat.ne_of_lt (blk_lt (kp BK190.out)) : gb190 ≠ gb199)); have n27_ := Aside0.mk ((by rw [hg]; exact Nat.ne_of_gt (blk_lt (kp BK190.out)) : gb199 ≠ gb190)); clear BK101; clear BK110; clear BK118; clear BK127; clear BK136; clear BK145; clear BK146; clear BK190; clear HB; have BK101 := n0_; have BK110 := n1_; have BK118 := n2_; have BK127 := n3_; have BK136 := n4_; have BK145 := n5_; have BK146 := n6_; have BK190 := n7_; have HB := n8_; have BK199 := n9_; have GW199 := n10_; have GE199 := n11_; have NB101_199 := n12_; have NB199_101 := n13_; have NB110_199 := n14_; have NB199_110 := n15_; have NB118_199 := n16_; have NB199_118 := n17_; have NB127_199 := n18_; have NB199_127 := n19_; have NB136_199 := n20_; have NB199_136 := n21_; have NB145_199 := n22_; have NB199_145 := n23_; have NB146_199 := n24_; have NB199_146 := n25_; have NB190_199 := n26_; have NB199_190 := n27_; clear n0_ n1_ n2_ n3_ n4_ n5_ n6_ n7_ n8_ n9_ n10_ n11_ n12_ n13_ n14_ n15_ n16_ n17_ n18_ n19_ n20_ n21_ n22_ n23_ n24_ n25_ n26_ n27_; clear hb hbox hg; have hnb195 := NB199_101.out; have hnc195 := NB101_199.out; have hnb196 := NB199_110.out; have hnc196 := NB110_199.out; have hnb197 := NB199_118.out; have hnc197 := NB118_199.out; have hnb198 := NB199_127.out; have hnc198 := NB127_199.out; have hnb199 := NB199_136.out; have hnc199 := NB136_199.out; have hnb200 := NB199_145.out; have hnc200 := NB145_199.out; have hnb201 := NB199_146.out; have hnc201 := NB146_199.out; have hnb202 := NB199_190.out; have hnc202 := NB190_199.out; have hcz203_0 : w194.cell? ⟨gb199, 0, none⟩ = some (.int .i64 0) := (blk_cell BK199.out 0).trans rfl; have hcz203_1 : w194.cell? ⟨gb199, 1, none⟩ = some (.int .i64 0) := (blk_cell BK199.out 1).trans rfl; have hcz203_2 : w194.cell? ⟨gb199, 2, none⟩ = some (.int .i64 0) := (blk_cell BK199.out 2).trans rfl; have hcz203_3 : w194.cell? ⟨gb199, 3, none⟩ = some (.int .i64 0) := (blk_cell BK199.out 3).trans rfl; have hcz203_4 : w194.cell? ⟨gb199, 4, none⟩ = some (.int .i64 0) := (blk_cell BK199.out 4).trans rfl; have hcz203_5 : w194.cell? ⟨gb199, 5, none⟩ = some (.int .i64 0) := (blk_cell BK199.out 5).trans rfl; have hcz203_6 : w194.cell? ⟨gb199, 6, none⟩ = some (.int .i64 0) := (blk_cell BK199.out 6).trans rfl; have hfz203_0 := blk_frozen BK199.out 0; have hfz203_1 := blk_frozen BK199.out 1; have hfz203_2 := blk_frozen BK199.out 2; have hfz203_3 := blk_frozen BK199.out 3; have hfz203_4 := blk_frozen BK199.out 4; have hfz203_5 := blk_frozen BK199.out 5; have hfz203_6 := blk_frozen BK199.out 6; have hcz204_0 : w194.cell? ⟨gb190, 0, none⟩ = some (.int .i64 t182) := (blk_cell BK190.out 0).trans rfl; have hcz204_1 : w194.cell? ⟨gb190, 1, none⟩ = some (.int .i64 t183) := (blk_cell BK190.out 1).trans rfl; have hcz204_2 : w194.cell? ⟨gb190, 2, none⟩ = some (.int .i64 t184) := (blk_cell BK190.out 2).trans rfl; have hcz204_3 : w194.cell? ⟨gb190, 3, none⟩ = some (.int .i64 t185) := (blk_cell BK190.out 3).trans rfl; have hcz204_4 : w194.cell? ⟨gb190, 4, none⟩ = some (.int .i64 t186) := (blk_cell BK190.out 4).trans rfl; have hcz204_5 : w194.cell? ⟨gb190, 5, none⟩ = some (.int .i64 t187) := (blk_cell BK190.out 5).trans rfl; have hcz204_6 : w194.cell? ⟨gb190, 6, none⟩ = some (.int .i64 t188) := (blk_cell BK190.out 6).trans rfl; have hfz204_0 := blk_frozen BK190.out 0; have hfz204_1 := blk_frozen BK190.out 1; have hfz204_2 := blk_frozen BK190.out 2; have hfz204_3 := blk_frozen BK190.out 3; have hfz204_4 := blk_frozen BK190.out 4; have hfz204_5 := blk_frozen BK190.out 5; have hfz204_6 := blk_frozen BK190.out 6) | ((with_reducible refine gate_callee (f := 16) rfl ?_); refine goesL_ (some 102) rfl rfl Tryd.func16 (by kernel_rfl) rfl #[.agg #[.int .i64 t182, .int .i64 t183, .int .i64 t184, .int .i64 t185, .int .i64 t186, .int .i64 t187, .int .i64 t188], .agg #[.int .i64 t191, .int .i64 t192, .int .i64 t193, .int .i64 t194, .int .i64 t195, .int .i64 t196, .int .i64 t197]] rfl (by (try simp only [List.map_toArray, List.map_cons, List.map_nil]); first | done | rfl | (simp only [List.length_drop, List.length_take]; rfl)) ?_; (with_reducible refine (dims_Add.calls t182 t183 t184 t185 t186 t187 t188 t191 t192 t193 t194 t195 t196 t197 t200 t201 t202 t203 t204 t205 t206 true _ A168.out).mono ?_); rintro e w205 ⟨rfl, hb⟩; refine ⟨_, rfl, ?_⟩; have n0_ := Aside0.mk (blk_below (kp BK101.out) hb); have n1_ := Aside0.mk (blk_below (kp BK110.out) hb); have n2_ := Aside0.mk (blk_below (kp BK118.out) hb); have n3_ := Aside0.mk (blk_below (kp BK127.out) hb); have n4_ := Aside0.mk (blk_below (kp BK136.out) hb); have n5_ := Aside0.mk (blk_below (kp BK145.out) hb); have n6_ := Aside0.mk (blk_below (kp BK146.out) hb); have n7_ := Aside0.mk (blk_below (kp BK190.out) hb); have n8_ := Aside0.mk (blk_below (g := gb199) (o := .cells #[.int .i64 t191, .int .i64 t192, .int .i64 t193, .int .i64 t194, .int .i64 t195, .int .i64 t196, .int .i64 t197] 23 (0, 0)) (by (with_reducible repeat (first | refine blk_drewN ?_ _ | refine blk_drew ?_ | refine blk_alloc ?_ _)); refine blk_put (cs := #[.int .i64 t191, .int .i64 t192, .int .i64 t193, .int .i64 t194, .int .i64 t195, .int .i64 t196, .int .i64 0]) ?_ 6 _ rfl; (with_reducible repeat (first | refine blk_drewN ?_ _ | refine blk_drew ?_ | refine blk_alloc ?_ _)); refine blk_put (cs := #[.int .i64 t191, .int .i64 t192, .int .i64 t193, .int .i64 t194, .int .i64 t195, .int .i64 0, .int .i64 0]) ?_ 5 _ rfl; (with_reducible repeat (first | refine blk_drewN ?_ _ | refine blk_drew ?_ | refine blk_alloc ?_ _)); refine blk_put (cs := #[.int .i64 t191, .int .i64 t192, .int .i64 t193, .int .i64 t194, .int .i64 0, .int .i64 0, .int .i64 0]) ?_ 4 _ rfl; (with_reducible repeat (first | refine blk_drewN ?_ _ | refine blk_drew ?_ | refine blk_alloc ?_ _)); refine blk_put (cs := #[.int .i64 t191, .int .i64 t192, .int .i64 t193, .int .i64 0, .int .i64 0, .int .i64 0, .int .i64 0]) ?_ 3 _ rfl; (with_reducible repeat (first | refine blk_drewN ?_ _ | refine blk_drew ?_ | refine blk_alloc ?_ _)); refine blk_put (cs := #[.int .i64 t191, .int .i64 t192, .int .i64 0, .int .i64 0, .int .i64 0, .int .i64 0, .int .i64 0]) ?_ 2 _ rfl; (with_reducible repeat (first | refine blk_drewN ?_ _ | refine blk_drew ?_ | refine blk_alloc ?_ _)); refine blk_put (cs := #[.int .i64 t191, .int .i64 0, .int .i64 0, .int .i64 0, .int .i64 0, .int .i64 0, .int .i64 0]) ?_ 1 _ rfl; (with_reducible repeat (first | refine blk_drewN ?_ _ | refine blk_drew ?_ | refine blk_alloc ?_ _)); refine blk_put (cs := #[.int .i64 0, .int .i64 0, .int .i64 0, .int .i64 0, .int .i64 0, .int .i64 0, .int .i64 0]) ?_ 0 _ rfl; (with_reducible repeat (first | refine blk_drewN ?_ _ | refine blk_drew ?_ | refine blk_alloc ?_ _)); exact BK199.out) hb); have n9_ := Aside0.mk (below_step (bl HB.out) hb); clear BK101; clear BK110; clear BK118; clear BK127; clear BK136; clear BK145; clear BK146; clear BK190; clear BK199; clear HB; have BK101 := n0_; have BK110 := n1_; have BK118 := n2_; have BK127 := n3_; have BK136 := n4_; have BK145 := n5_; have BK146 := n6_; have BK190 := n7_; have BK199 := n8_; have HB := n9_; clear n0_ n1_ n2_ n3_ n4_ n5_ n6_ n7_ n8_ n9_; (try clear hb); (try clear hb2); (try clear hk); (try clear hi)) | ((with_reducible refine gate_dst (N := 22) rfl ?_); refine box_event ?hg (N := 22) ?hd (cs := #[.int .i64 0, .int .i64 0, .int .i64 0, .int .i64 0, .int .i64 0, .int .i64 0, .int .i64 0]) (t := 23) ?hr ?_; (case hd => rfl); (case hg => rfl); (case hr => first | (go_simp; done) | (go_simp; rfl)); intro gb208 hg w206 hbox hb; have n0_ := Aside0.mk (blk_below (kp BK101.out) hb); have n1_ := Aside0.mk (blk_below (kp BK110.out) hb); have n2_ := Aside0.mk (blk_below (kp BK118.out) hb); have n3_ := Aside0.mk (blk_below (kp BK127.out) hb); have n4_ := Aside0.mk (blk_below (kp BK136.out) hb); have n5_ := Aside0.mk (blk_below (kp BK145.out) hb); have n6_ := Aside0.mk (blk_below (kp BK146.out) hb); have n7_ := Aside0.mk (blk_below (kp BK190.out) hb); have n8_ := Aside0.mk (blk_below (kp BK199.out) hb); have n9_ := Aside0.mk (below_step (bl HB.out) hb); have n10_ := Aside0.mk (hbox); have n11_ := Aside0.mk ((by rw [hg]; exact (below_size (bl HB.out)) : w.heap.size ≤ gb208)); have n12_ := Aside0.mk ((by rw [hg]; exact (below_size (bl HB.out)) : w.heap.size ≤ gb208)); have n13_ := Aside0.mk ((by rw [hg]; exact Nat.ne_of_lt (blk_lt (kp BK101.out)) : gb101 ≠ gb208)); have n14_ := Aside0.mk ((by rw [hg]; exact Nat.ne_of_gt (blk_lt (kp BK101.out)) : gb208 ≠ gb101)); have n15_ := Aside0.mk ((by rw [hg]; exact Nat.ne_of_lt (blk_lt (kp BK110.out)) : gb110 ≠ gb208)); have n16_ := Aside0.mk ((by rw [hg]; exact Nat.ne_of_gt (blk_lt (kp BK110.out)) : gb208 ≠ gb110)); have n17_ := Aside0.mk ((by rw [hg]; exact Nat.ne_of_lt (blk_lt (kp BK118.out)) : gb118 ≠ gb208)); have n18_ := Aside0.mk ((by rw [hg]; exact Nat.ne_of_gt (blk_lt (kp BK118.out)) : gb208 ≠ gb118)); have n19_ := Aside0.mk ((by rw [hg]; exact Nat.ne_of_lt (blk_lt (kp BK127.out)) : gb127 ≠ gb208)); have n20_ := Aside0.mk ((by rw [hg]; exact Nat.ne_of_gt (blk_lt (kp BK127.out)) : gb208 ≠ gb127)); have n21_ := Aside0.mk ((by rw [hg]; exact Nat.ne_of_lt (blk_lt (kp BK136.out)) : gb136 ≠ gb208)); have n22_ := Aside0.mk ((by rw [hg]; exact Nat.ne_of_gt (blk_lt (kp BK136.out)) : gb208 ≠ gb136)); have n23_ := Aside0.mk ((by rw [hg]; exact Nat.ne_of_lt (blk_lt (kp BK145.out)) : gb145 ≠ gb208)); have n24_ := Aside0.mk ((by rw [hg]; exact Nat.ne_of_gt (blk_lt (kp BK145.out)) : gb208 ≠ gb145)); have n25_ := Aside0.mk ((by rw [hg]; exact Nat.ne_of_lt (blk_lt (kp BK146.out)) : gb146 ≠ gb208)); have n26_ := Aside0.mk ((by rw [hg]; exact Nat.ne_of_gt (blk_lt (kp BK146.out)) : gb208 ≠ gb146)); have n27_ := Aside0.mk ((by rw [hg]; exact Nat.ne_of_lt (blk_lt (kp BK190.out)) : gb190 ≠ gb208)); have n28_ := Aside0.mk ((by rw [hg]; exact Nat.ne_of_gt (blk_lt (kp BK190.out)) : gb208 ≠ gb190)); have n29_ := Aside0.mk ((by rw [hg]; exact Nat.ne_of_lt (blk_lt (kp BK199.out)) : gb199 ≠ gb208)); have n30_ := Aside0.mk ((by rw [hg]; exact Nat.ne_of_gt (blk_lt (kp BK199.out)) : gb208 ≠ gb199)); clear BK101; clear BK110; clear BK118; clear BK127; clear BK136; clear BK145; clear BK146; clear BK190; clear BK199; clear HB; have BK101 := n0_; have BK110 := n1_; have BK118 := n2_; have BK127 := n3_; have BK136 := n4_; have BK145 := n5_; have BK146 := n6_; have BK190 := n7_; have BK199 := n8_; have HB := n9_; have BK208 := n10_; have GW208 := n11_; have GE208 := n12_; have NB101_208 := n13_; have NB208_101 := n14_; have NB110_208 := n15_; have NB208_110 := n16_; have NB118_208 := n17_; have NB208_118 := n18_; have NB127_208 := n19_; have NB208_127 := n20_; have NB136_208 := n21_; have NB208_136 := n22_; have NB145_208 := n23_; have NB208_145 := n24_; have NB146_208 := n25_; have NB208_146 := n26_; have NB190_208 := n27_; have NB208_190 := n28_; have NB199_208 := n29_; have NB208_199 := n30_; clear n0_ n1_ n2_ n3_ n4_ n5_ n6_ n7_ n8_ n9_ n10_ n11_ n12_ n13_ n14_ n15_ n16_ n17_ n18_ n19_ n20_ n21_ n22_ n23_ n24_ n25_ n26_ n27_ n28_ n29_ n30_; clear hb hbox hg; have hnb207 := NB208_101.out; have hnc207 := NB101_208.out; have hnb208 := NB208_110.out; have hnc208 := NB110_208.out; have hnb209 := NB208_118.out; have hnc209 := NB118_208.out; have hnb210 := NB208_127.out; have hnc210 := NB127_208.out; have hnb211 := NB208_136.out; have hnc211 := NB136_208.out; have hnb212 := NB208_145.out; have hnc212 := NB145_208.out; have hnb213 := NB208_146.out; have hnc213 := NB146_208.out; have hnb214 := NB208_190.out; have hnc214 := NB190_208.out; have hnb215 := NB208_199.out; have hnc215 := NB199_208.out; have hcz216_0 : w206.cell? ⟨gb208, 0, none⟩ = some (.int .i64 0) := (blk_cell BK208.out 0).trans rfl; have hcz216_1 : w206.cell? ⟨gb208, 1, none⟩ = some (.int .i64 0) := (blk_cell BK208.out 1).trans rfl; have hcz216_2 : w206.cell? ⟨gb208, 2, none⟩ = some (.int .i64 0) := (blk_cell BK208.out 2).trans rfl; have hcz216_3 : w206.cell? ⟨gb208, 3, none⟩ = some (.int .i64 0) := (blk_cell BK208.out 3).trans rfl; have hcz216_4 : w206.cell? ⟨gb208, 4, none⟩ = some (.int .i64 0) := (blk_cell BK208.out 4).trans rfl; have hcz216_5 : w206.cell? ⟨gb208, 5, none⟩ = some (.int .i64 0) := (blk_cell BK208.out 5).trans rfl; have hcz216_6 : w206.cell? ⟨gb208, 6, none⟩ = some (.int .i64 0) := (blk_cell BK208.out 6).trans rfl; have hfz216_0 := blk_frozen BK208.out 0; have hfz216_1 := blk_frozen BK208.out 1; have hfz216_2 := blk_frozen BK208.out 2; have hfz216_3 := blk_frozen BK208.out 3; have hfz216_4 := blk_frozen BK208.out 4; have hfz216_5 := blk_frozen BK208.out 5; have hfz216_6 := blk_frozen BK208.out 6; have hcz217_0 : w206.cell? ⟨gb190, 0, none⟩ = some (.int .i64 t182) := (blk_cell BK190.out 0).trans rfl; have hcz217_1 : w206.cell? ⟨gb190, 1, none⟩ = some (.int .i64 t183) := (blk_cell BK190.out 1).trans rfl; have hcz217_2 : w206.cell? ⟨gb190, 2, none⟩ = some (.int .i64 t184) := (blk_cell BK190.out 2).trans rfl; have hcz217_3 : w206.cell? ⟨gb190, 3, none⟩ = some (.int .i64 t185) := (blk_cell BK190.out 3).trans rfl; have hcz217_4 : w206.cell? ⟨gb190, 4, none⟩ = some (.int .i64 t186) := (blk_cell BK190.out 4).trans rfl; have hcz217_5 : w206.cell? ⟨gb190, 5, none⟩ = some (.int .i64 t187) := (blk_cell BK190.out 5).trans rfl; have hcz217_6 : w206.cell? ⟨gb190, 6, none⟩ = some (.int .i64 t188) := (blk_cell BK190.out 6).trans rfl; have hfz217_0 := blk_frozen BK190.out 0; have hfz217_1 := blk_frozen BK190.out 1; have hfz217_2 := blk_frozen BK190.out 2; have hfz217_3 := blk_frozen BK190.out 3; have hfz217_4 := blk_frozen BK190.out 4; have hfz217_5 := blk_frozen BK190.out 5; have hfz217_6 := blk_frozen BK190.out 6; have hnb218 := NB146_101.out; have hnc218 := NB101_146.out; have hnb219 := NB146_118.out; have hnc219 := NB118_146.out; have hnb220 := NB146_127.out; have hnc220 := NB127_146.out; have hnb221 := NB146_136.out; have hnc221 := NB136_146.out; have hnb222 := NB146_145.out; have hnc222 := NB145_146.out; have hcz223_0 : w206.cell? ⟨gb146, 0, none⟩ = some (.int .i64 x147000_3) := (blk_cell BK146.out 0).trans rfl; have hcz223_1 : w206.cell? ⟨gb146, 1, none⟩ = some (.int .i64 x147001_3) := (blk_cell BK146.out 1).trans rfl; have hcz223_2 : w206.cell? ⟨gb146, 2, none⟩ = some (.int .i64 x147002_3) := (blk_cell BK146.out 2).trans rfl; have hcz223_3 : w206.cell? ⟨gb146, 3, none⟩ = some (.int .i64 x147003_3) := (blk_cell BK146.out 3).trans rfl; have hcz223_4 : w206.cell? ⟨gb146, 4, none⟩ = some (.int .i64 x147004_3) := (blk_cell BK146.out 4).trans rfl; have hcz223_5 : w206.cell? ⟨gb146, 5, none⟩ = some (.int .i64 x147005_3) := (blk_cell BK146.out 5).trans rfl; have hcz223_6 : w206.cell? ⟨gb146, 6, none⟩ = some (.int .i64 x147006_3) := (blk_cell BK146.out 6).trans rfl; have hfz223_0 := blk_frozen BK146.out 0; have hfz223_1 := blk_frozen BK146.out 1; have hfz223_2 := blk_frozen BK146.out 2; have hfz223_3 := blk_frozen BK146.out 3; have hfz223_4 := blk_frozen BK146.out 4; have hfz223_5 := blk_frozen BK146.out 5; have hfz223_6 := blk_frozen BK146.out 6))
                go_ret
                exact ⟨by first | rfl | (simp [errW_none, errW_some] <;> rfl) | (simp [*, errW_none, errW_some] <;> rfl), bl HB.out⟩
               ·replace c174 := Bool.eq_false_iff.mpr c174
                subst c174
                have H1 : (none) = some r := by rw [if_neg (show ¬ (false = true) by decide)] at H; exact H
                clear H
                have H := H1
                clear H1
                exact absurd H (by simp)
              ·rw [if_neg c173] at H
               exact absurd H (by simp)
             ·rw [if_neg c172] at H
              exact absurd H (by simp)
            ·replace c171 := Bool.eq_false_iff.mpr c171
             subst c171
             have H1 : (if (t189 == t198) = true then (if t207 = true then (some (t200 == 0 && (t201 == 0 && (t202 == 0 && (t203 == 0 && (t204 == 0 && (t205 == 0 && (t206 == 0)))))))) else (none)) else (none)) = some r := by rw [if_neg (show ¬ (false = true) by decide)] at H; exact H
             clear H
             have H := H1
             clear H1
             by_cases c224 : (t189 == t198) = true
             ·rw [if_pos c224] at H
              have c224b0 : (t189 == t198) = true := c224
              (try (have c224b1 : decide (t189 = t198) = true := by simpa using c224))
              (try (have c224b2 : (t189 == t198) = true := by simpa using c224))
              clear c224
              by_cases c225 : t207 = true
              ·subst c225
               have H1 : (some (t200 == 0 && (t201 == 0 && (t202 == 0 && (t203 == 0 && (t204 == 0 && (t205 == 0 && (t206 == 0)))))))) = some r := by rw [if_pos rfl] at H; exact H
               clear H
               have H := H1
               clear H1
               obtain rfl := Option.some.inj H
               have hnb226 := NB110_101.out
               have hnc226 := NB101_110.out
               have hnb227 := NB110_118.out
               have hnc227 := NB118_110.out
               have hnb228 := NB110_127.out
               have hnc228 := NB127_110.out
               have hnb229 := NB110_136.out
               have hnc229 := NB136_110.out
               have hnb230 := NB110_145.out
               have hnc230 := NB145_110.out
               have hnb231 := NB110_146.out
               have hnc231 := NB146_110.out
               have hcz232_0 : wr.cell? ⟨gb110, 0, none⟩ = some (.int .i64 t103) := (blk_cell BK110.out 0).trans rfl
               have hcz232_1 : wr.cell? ⟨gb110, 1, none⟩ = some (.int .i64 t104) := (blk_cell BK110.out 1).trans rfl
               have hcz232_2 : wr.cell? ⟨gb110, 2, none⟩ = some (.int .i64 t105) := (blk_cell BK110.out 2).trans rfl
               have hcz232_3 : wr.cell? ⟨gb110, 3, none⟩ = some (.int .i64 t106) := (blk_cell BK110.out 3).trans rfl
               have hcz232_4 : wr.cell? ⟨gb110, 4, none⟩ = some (.int .i64 t107) := (blk_cell BK110.out 4).trans rfl
               have hcz232_5 : wr.cell? ⟨gb110, 5, none⟩ = some (.int .i64 t108) := (blk_cell BK110.out 5).trans rfl
               have hcz232_6 : wr.cell? ⟨gb110, 6, none⟩ = some (.int .i64 t109) := (blk_cell BK110.out 6).trans rfl
               have hfz232_0 := blk_frozen BK110.out 0
               have hfz232_1 := blk_frozen BK110.out 1
               have hfz232_2 := blk_frozen BK110.out 2
               have hfz232_3 := blk_frozen BK110.out 3
               have hfz232_4 := blk_frozen BK110.out 4
               have hfz232_5 := blk_frozen BK110.out 5
               have hfz232_6 := blk_frozen BK110.out 6
               go_wp2_with (first | ((with_reducible refine gate_callee (f := 15) rfl ?_); refine goesL_ (some 89) rfl rfl Tryd.func15 (by kernel_rfl) rfl #[.agg #[.int .i64 t103, .int .i64 t104, .int .i64 t105, .int .i64 t106, .int .i64 t107, .int .i64 t108, .int .i64 t109], .int .i64 (Int.tmod (wrap64 ((Int.tmod a1 10) + 10)) 10)] rfl (by (try simp only [List.map_toArray, List.map_cons, List.map_nil]); first | done | rfl | (simp only [List.length_drop, List.length_take]; rfl)) ?_; (with_reducible refine (dims_Times.calls t103 t104 t105 t106 t107 t108 t109 (Int.tmod (wrap64 ((Int.tmod a1 10) + 10)) 10) t182 t183 t184 t185 t186 t187 t188 t189 _ A166.out).mono ?_); rintro e w233 ⟨rfl, hb⟩; refine ⟨_, rfl, ?_⟩; replace BK101 := Aside0.mk (blk_below (kp BK101.out) hb); replace BK110 := Aside0.mk (blk_below (kp BK110.out) hb); replace BK118 := Aside0.mk (blk_below (kp BK118.out) hb); replace BK127 := Aside0.mk (blk_below (kp BK127.out) hb); replace BK136 := Aside0.mk (blk_below (kp BK136.out) hb); replace BK145 := Aside0.mk (blk_below (kp BK145.out) hb); replace BK146 := Aside0.mk (blk_below (kp BK146.out) hb); replace HB := Aside0.mk (below_step (bl HB.out) hb); (try clear hb); (try clear hb2); (try clear hk); (try clear hi)) | ((with_reducible refine gate_dst (N := 18) rfl ?_); refine box_event ?hg (N := 18) ?hd (cs := #[.int .i64 0, .int .i64 0, .int .i64 0, .int .i64 0, .int .i64 0, .int .i64 0, .int .i64 0]) (t := 23) ?hr ?_; (case hd => rfl); (case hg => rfl); (case hr => first | (go_simp; done) | (go_simp; rfl)); intro gb190 hg w234 hbox hb; have n0_ := Aside0.mk (blk_below (kp BK101.out) hb); have n1_ := Aside0.mk (blk_below (kp BK110.out) hb); have n2_ := Aside0.mk (blk_below (kp BK118.out) hb); have n3_ := Aside0.mk (blk_below (kp BK127.out) hb); have n4_ := Aside0.mk (blk_below (kp BK136.out) hb); have n5_ := Aside0.mk (blk_below (kp BK145.out) hb); have n6_ := Aside0.mk (blk_below (kp BK146.out) hb); have n7_ := Aside0.mk (below_step (bl HB.out) hb); have n8_ := Aside0.mk (hbox); have n9_ := Aside0.mk ((by rw [hg]; exact (below_size (bl HB.out)) : w.heap.size ≤ gb190)); have n10_ := Aside0.mk ((by rw [hg]; exact (below_size (bl HB.out)) : w.heap.size ≤ gb190)); have n11_ := Aside0.mk ((by rw [hg]; exact Nat.ne_of_lt (blk_lt (kp BK101.out)) : gb101 ≠ gb190)); have n12_ := Aside0.mk ((by rw [hg]; exact Nat.ne_of_gt (blk_lt (kp BK101.out)) : gb190 ≠ gb101)); have n13_ := Aside0.mk ((by rw [hg]; exact Nat.ne_of_lt (blk_lt (kp BK110.out)) : gb110 ≠ gb190)); have n14_ := Aside0.mk ((by rw [hg]; exact Nat.ne_of_gt (blk_lt (kp BK110.out)) : gb190 ≠ gb110)); have n15_ := Aside0.mk ((by rw [hg]; exact Nat.ne_of_lt (blk_lt (kp BK118.out)) : gb118 ≠ gb190)); have n16_ := Aside0.mk ((by rw [hg]; exact Nat.ne_of_gt (blk_lt (kp BK118.out)) : gb190 ≠ gb118)); have n17_ := Aside0.mk ((by rw [hg]; exact Nat.ne_of_lt (blk_lt (kp BK127.out)) : gb127 ≠ gb190)); have n18_ := Aside0.mk ((by rw [hg]; exact Nat.ne_of_gt (blk_lt (kp BK127.out)) : gb190 ≠ gb127)); have n19_ := Aside0.mk ((by rw [hg]; exact Nat.ne_of_lt (blk_lt (kp BK136.out)) : gb136 ≠ gb190)); have n20_ := Aside0.mk ((by rw [hg]; exact Nat.ne_of_gt (blk_lt (kp BK136.out)) : gb190 ≠ gb136)); have n21_ := Aside0.mk ((by rw [hg]; exact Nat.ne_of_lt (blk_lt (kp BK145.out)) : gb145 ≠ gb190)); have n22_ := Aside0.mk ((by rw [hg]; exact Nat.ne_of_gt (blk_lt (kp BK145.out)) : gb190 ≠ gb145)); have n23_ := Aside0.mk ((by rw [hg]; exact Nat.ne_of_lt (blk_lt (kp BK146.out)) : gb146 ≠ gb190)); have n24_ := Aside0.mk ((by rw [hg]; exact Nat.ne_of_gt (blk_lt (kp BK146.out)) : gb190 ≠ gb146)); clear BK101; clear BK110; clear BK118; clear BK127; clear BK136; clear BK145; clear BK146; clear HB; have BK101 := n0_; have BK110 := n1_; have BK118 := n2_; have BK127 := n3_; have BK136 := n4_; have BK145 := n5_; have BK146 := n6_; have HB := n7_; have BK190 := n8_; have GW190 := n9_; have GE190 := n10_; have NB101_190 := n11_; have NB190_101 := n12_; have NB110_190 := n13_; have NB190_110 := n14_; have NB118_190 := n15_; have NB190_118 := n16_; have NB127_190 := n17_; have NB190_127 := n18_; have NB136_190 := n19_; have NB190_136 := n20_; have NB145_190 := n21_; have NB190_145 := n22_; have NB146_190 := n23_; have NB190_146 := n24_; clear n0_ n1_ n2_ n3_ n4_ n5_ n6_ n7_ n8_ n9_ n10_ n11_ n12_ n13_ n14_ n15_ n16_ n17_ n18_ n19_ n20_ n21_ n22_ n23_ n24_; clear hb hbox hg; have hnb235 := NB190_101.out; have hnc235 := NB101_190.out; have hnb236 := NB190_110.out; have hnc236 := NB110_190.out; have hnb237 := NB190_118.out; have hnc237 := NB118_190.out; have hnb238 := NB190_127.out; have hnc238 := NB127_190.out; have hnb239 := NB190_136.out; have hnc239 := NB136_190.out; have hnb240 := NB190_145.out; have hnc240 := NB145_190.out; have hnb241 := NB190_146.out; have hnc241 := NB146_190.out; have hcz242_0 : w234.cell? ⟨gb190, 0, none⟩ = some (.int .i64 0) := (blk_cell BK190.out 0).trans rfl; have hcz242_1 : w234.cell? ⟨gb190, 1, none⟩ = some (.int .i64 0) := (blk_cell BK190.out 1).trans rfl; have hcz242_2 : w234.cell? ⟨gb190, 2, none⟩ = some (.int .i64 0) := (blk_cell BK190.out 2).trans rfl; have hcz242_3 : w234.cell? ⟨gb190, 3, none⟩ = some (.int .i64 0) := (blk_cell BK190.out 3).trans rfl; have hcz242_4 : w234.cell? ⟨gb190, 4, none⟩ = some (.int .i64 0) := (blk_cell BK190.out 4).trans rfl; have hcz242_5 : w234.cell? ⟨gb190, 5, none⟩ = some (.int .i64 0) := (blk_cell BK190.out 5).trans rfl; have hcz242_6 : w234.cell? ⟨gb190, 6, none⟩ = some (.int .i64 0) := (blk_cell BK190.out 6).trans rfl; have hfz242_0 := blk_frozen BK190.out 0; have hfz242_1 := blk_frozen BK190.out 1; have hfz242_2 := blk_frozen BK190.out 2; have hfz242_3 := blk_frozen BK190.out 3; have hfz242_4 := blk_frozen BK190.out 4; have hfz242_5 := blk_frozen BK190.out 5; have hfz242_6 := blk_frozen BK190.out 6; have hcz243_0 : w234.cell? ⟨gb110, 0, none⟩ = some (.int .i64 t103) := (blk_cell BK110.out 0).trans rfl; have hcz243_1 : w234.cell? ⟨gb110, 1, none⟩ = some (.int .i64 t104) := (blk_cell BK110.out 1).trans rfl; have hcz243_2 : w234.cell? ⟨gb110, 2, none⟩ = some (.int .i64 t105) := (blk_cell BK110.out 2).trans rfl; have hcz243_3 : w234.cell? ⟨gb110, 3, none⟩ = some (.int .i64 t106) := (blk_cell BK110.out 3).trans rfl; have hcz243_4 : w234.cell? ⟨gb110, 4, none⟩ = some (.int .i64 t107) := (blk_cell BK110.out 4).trans rfl; have hcz243_5 : w234.cell? ⟨gb110, 5, none⟩ = some (.int .i64 t108) := (blk_cell BK110.out 5).trans rfl; have hcz243_6 : w234.cell? ⟨gb110, 6, none⟩ = some (.int .i64 t109) := (blk_cell BK110.out 6).trans rfl; have hfz243_0 := blk_frozen BK110.out 0; have hfz243_1 := blk_frozen BK110.out 1; have hfz243_2 := blk_frozen BK110.out 2; have hfz243_3 := blk_frozen BK110.out 3; have hfz243_4 := blk_frozen BK110.out 4; have hfz243_5 := blk_frozen BK110.out 5; have hfz243_6 := blk_frozen BK110.out 6) | ((with_reducible refine gate_callee (f := 15) rfl ?_); refine goesL_ (some 96) rfl rfl Tryd.func15 (by kernel_rfl) rfl #[.agg #[.int .i64 t103, .int .i64 t104, .int .i64 t105, .int .i64 t106, .int .i64 t107, .int .i64 t108, .int .i64 t109], .int .i64 (wrap64 (-(Int.tmod (wrap64 ((Int.tmod a1 10) + 10)) 10)))] rfl (by (try simp only [List.map_toArray, List.map_cons, List.map_nil]); first | done | rfl | (simp only [List.length_drop, List.length_take]; rfl)) ?_; (with_reducible refine (dims_Times.calls t103 t104 t105 t106 t107 t108 t109 (wrap64 (-(Int.tmod (wrap64 ((Int.tmod a1 10) + 10)) 10))) t191 t192 t193 t194 t195 t196 t197 t198 _ A167.out).mono ?_); rintro e w244 ⟨rfl, hb⟩; refine ⟨_, rfl, ?_⟩; have n0_ := Aside0.mk (blk_below (kp BK101.out) hb); have n1_ := Aside0.mk (blk_below (kp BK110.out) hb); have n2_ := Aside0.mk (blk_below (kp BK118.out) hb); have n3_ := Aside0.mk (blk_below (kp BK127.out) hb); have n4_ := Aside0.mk (blk_below (kp BK136.out) hb); have n5_ := Aside0.mk (blk_below (kp BK145.out) hb); have n6_ := Aside0.mk (blk_below (kp BK146.out) hb); have n7_ := Aside0.mk (blk_below (g := gb190) (o := .cells #[.int .i64 t182, .int .i64 t183, .int .i64 t184, .int .i64 t185, .int .i64 t186, .int .i64 t187, .int .i64 t188] 23 (0, 0)) (by (with_reducible repeat (first | refine blk_drewN ?_ _ | refine blk_drew ?_ | refine blk_alloc ?_ _)); refine blk_put (cs := #[.int .i64 t182, .int .i64 t183, .int .i64 t184, .int .i64 t185, .int .i64 t186, .int .i64 t187, .int .i64 0]) ?_ 6 _ rfl; (with_reducible repeat (first | refine blk_drewN ?_ _ | refine blk_drew ?_ | refine blk_alloc ?_ _)); refine blk_put (cs := #[.int .i64 t182, .int .i64 t183, .int .i64 t184, .int .i64 t185, .int .i64 t186, .int .i64 0, .int .i64 0]) ?_ 5 _ rfl; (with_reducible repeat (first | refine blk_drewN ?_ _ | refine blk_drew ?_ | refine blk_alloc ?_ _)); refine blk_put (cs := #[.int .i64 t182, .int .i64 t183, .int .i64 t184, .int .i64 t185, .int .i64 0, .int .i64 0, .int .i64 0]) ?_ 4 _ rfl; (with_reducible repeat (first | refine blk_drewN ?_ _ | refine blk_drew ?_ | refine blk_alloc ?_ _)); refine blk_put (cs := #[.int .i64 t182, .int .i64 t183, .int .i64 t184, .int .i64 0, .int .i64 0, .int .i64 0, .int .i64 0]) ?_ 3 _ rfl; (with_reducible repeat (first | refine blk_drewN ?_ _ | refine blk_drew ?_ | refine blk_alloc ?_ _)); refine blk_put (cs := #[.int .i64 t182, .int .i64 t183, .int .i64 0, .int .i64 0, .int .i64 0, .int .i64 0, .int .i64 0]) ?_ 2 _ rfl; (with_reducible repeat (first | refine blk_drewN ?_ _ | refine blk_drew ?_ | refine blk_alloc ?_ _)); refine blk_put (cs := #[.int .i64 t182, .int .i64 0, .int .i64 0, .int .i64 0, .int .i64 0, .int .i64 0, .int .i64 0]) ?_ 1 _ rfl; (with_reducible repeat (first | refine blk_drewN ?_ _ | refine blk_drew ?_ | refine blk_alloc ?_ _)); refine blk_put (cs := #[.int .i64 0, .int .i64 0, .int .i64 0, .int .i64 0, .int .i64 0, .int .i64 0, .int .i64 0]) ?_ 0 _ rfl; (with_reducible repeat (first | refine blk_drewN ?_ _ | refine blk_drew ?_ | refine blk_alloc ?_ _)); exact BK190.out) hb); have n8_ := Aside0.mk (below_step (bl HB.out) hb); clear BK101; clear BK110; clear BK118; clear BK127; clear BK136; clear BK145; clear BK146; clear BK190; clear HB; have BK101 := n0_; have BK110 := n1_; have BK118 := n2_; have BK127 := n3_; have BK136 := n4_; have BK145 := n5_; have BK146 := n6_; have BK190 := n7_; have HB := n8_; clear n0_ n1_ n2_ n3_ n4_ n5_ n6_ n7_ n8_; (try clear hb); (try clear hb2); (try clear hk); (try clear hi)) | ((with_reducible refine gate_dst (N := 20) rfl ?_); refine box_event ?hg (N := 20) ?hd (cs := #[.int .i64 0, .int .i64 0, .int .i64 0, .int .i64 0, .int .i64 0, .int .i64 0, .int .i64 0]) (t := 23) ?hr ?_; (case hd => rfl); (case hg => rfl); (case hr => first | (go_simp; done) | (go_simp; rfl)); intro gb199 hg w245 hbox hb; have n0_ := Aside0.mk (blk_below (kp BK101.out) hb); have n1_ := Aside0.mk (blk_below (kp BK110.out) hb); have n2_ := Aside0.mk (blk_below (kp BK118.out) hb); have n3_ := Aside0.mk (blk_below (kp BK127.out) hb); have n4_ := Aside0.mk (blk_below (kp BK136.out) hb); have n5_ := Aside0.mk (blk_below (kp BK145.out) hb); have n6_ := Aside0.mk (blk_below (kp BK146.out) hb); have n7_ := Aside0.mk (blk_below (kp BK190.out) hb); have n8_ := Aside0.mk (below_step (bl HB.out) hb); have n9_ := Aside0.mk (hbox); have n10_ := Aside0.mk ((by rw [hg]; exact (below_size (bl HB.out)) : w.heap.size ≤ gb199)); have n11_ := Aside0.mk ((by rw [hg]; exact (below_size (bl HB.out)) : w.heap.size ≤ gb199)); have n12_ := Aside0.mk ((by rw [hg]; exact Nat.ne_of_lt (blk_lt (kp BK101.out)) : gb101 ≠ gb199)); have n13_ := Aside0.mk ((by rw [hg]; exact Nat.ne_of_gt (blk_lt (kp BK101.out)) : gb199 ≠ gb101)); have n14_ := Aside0.mk ((by rw [hg]; exact Nat.ne_of_lt (blk_lt (kp BK110.out)) : gb110 ≠ gb199)); have n15_ := Aside0.mk ((by rw [hg]; exact Nat.ne_of_gt (blk_lt (kp BK110.out)) : gb199 ≠ gb110)); have n16_ := Aside0.mk ((by rw [hg]; exact Nat.ne_of_lt (blk_lt (kp BK118.out)) : gb118 ≠ gb199)); have n17_ := Aside0.mk ((by rw [hg]; exact Nat.ne_of_gt (blk_lt (kp BK118.out)) : gb199 ≠ gb118)); have n18_ := Aside0.mk ((by rw [hg]; exact Nat.ne_of_lt (blk_lt (kp BK127.out)) : gb127 ≠ gb199)); have n19_ := Aside0.mk ((by rw [hg]; exact Nat.ne_of_gt (blk_lt (kp BK127.out)) : gb199 ≠ gb127)); have n20_ := Aside0.mk ((by rw [hg]; exact Nat.ne_of_lt (blk_lt (kp BK136.out)) : gb136 ≠ gb199)); have n21_ := Aside0.mk ((by rw [hg]; exact Nat.ne_of_gt (blk_lt (kp BK136.out)) : gb199 ≠ gb136)); have n22_ := Aside0.mk ((by rw [hg]; exact Nat.ne_of_lt (blk_lt (kp BK145.out)) : gb145 ≠ gb199)); have n23_ := Aside0.mk ((by rw [hg]; exact Nat.ne_of_gt (blk_lt (kp BK145.out)) : gb199 ≠ gb145)); have n24_ := Aside0.mk ((by rw [hg]; exact Nat.ne_of_lt (blk_lt (kp BK146.out)) : gb146 ≠ gb199)); have n25_ := Aside0.mk ((by rw [hg]; exact Nat.ne_of_gt (blk_lt (kp BK146.out)) : gb199 ≠ gb146)); have n26_ := Aside0.mk ((by rw [hg]; exact Nat.ne_of_lt (blk_lt (kp BK190.out)) : gb190 ≠ gb199)); have n27_ := Aside0.mk ((by rw [hg]; exact Nat.ne_of_gt (blk_lt (kp BK190.out)) : gb199 ≠ gb190)); clear BK101; clear BK110; clear BK118; clear BK127; clear BK136; clear BK145; clear BK146; clear BK190; clear HB; have BK101 := n0_; have BK110 := n1_; have BK118 := n2_; have BK127 := n3_; have BK136 := n4_; have BK145 := n5_; have BK146 := n6_; have BK190 := n7_; have HB := n8_; have BK199 := n9_; have GW199 := n10_; have GE199 := n11_; have NB101_199 := n12_; have NB199_101 := n13_; have NB110_199 := n14_; have NB199_110 := n15_; have NB118_199 := n16_; have NB199_118 := n17_; have NB127_199 := n18_; have NB199_127 := n19_; have NB136_199 := n20_; have NB199_136 := n21_; have NB145_199 := n22_; have NB199_145 := n23_; have NB146_199 := n24_; have NB199_146 := n25_; have NB190_199 := n26_; have NB199_190 := n27_; clear n0_ n1_ n2_ n3_ n4_ n5_ n6_ n7_ n8_ n9_ n10_ n11_ n12_ n13_ n14_ n15_ n16_ n17_ n18_ n19_ n20_ n21_ n22_ n23_ n24_ n25_ n26_ n27_; clear hb hbox hg; have hnb246 := NB199_101.out; have hnc246 := NB101_199.out; have hnb247 := NB199_110.out; have hnc247 := NB110_199.out; have hnb248 := NB199_118.out; have hnc248 := NB118_199.out; have hnb249 := NB199_127.out; have hnc249 := NB127_199.out; have hnb250 := NB199_136.out; have hnc250 := NB136_199.out; have hnb251 := NB199_145.out; have hnc251 := NB145_199.out; have hnb252 := NB199_146.out; have hnc252 := NB146_199.out; have hnb253 := NB199_190.out; have hnc253 := NB190_199.out; have hcz254_0 : w245.cell? ⟨gb199, 0, none⟩ = some (.int .i64 0) := (blk_cell BK199.out 0).trans rfl; have hcz254_1 : w245.cell? ⟨gb199, 1, none⟩ = some (.int .i64 0) := (blk_cell BK199.out 1).trans rfl; have hcz254_2 : w245.cell? ⟨gb199, 2, none⟩ = some (.int .i64 0) := (blk_cell BK199.out 2).trans rfl; have hcz254_3 : w245.cell? ⟨gb199, 3, none⟩ = some (.int .i64 0) := (blk_cell BK199.out 3).trans rfl; have hcz254_4 : w245.cell? ⟨gb199, 4, none⟩ = some (.int .i64 0) := (blk_cell BK199.out 4).trans rfl; have hcz254_5 : w245.cell? ⟨gb199, 5, none⟩ = some (.int .i64 0) := (blk_cell BK199.out 5).trans rfl; have hcz254_6 : w245.cell? ⟨gb199, 6, none⟩ = some (.int .i64 0) := (blk_cell BK199.out 6).trans rfl; have hfz254_0 := blk_frozen BK199.out 0; have hfz254_1 := blk_frozen BK199.out 1; have hfz254_2 := blk_frozen BK199.out 2; have hfz254_3 := blk_frozen BK199.out 3; have hfz254_4 := blk_frozen BK199.out 4; have hfz254_5 := blk_frozen BK199.out 5; have hfz254_6 := blk_frozen BK199.out 6; have hcz255_0 : w245.cell? ⟨gb190, 0, none⟩ = some (.int .i64 t182) := (blk_cell BK190.out 0).trans rfl; have hcz255_1 : w245.cell? ⟨gb190, 1, none⟩ = some (.int .i64 t183) := (blk_cell BK190.out 1).trans rfl; have hcz255_2 : w245.cell? ⟨gb190, 2, none⟩ = some (.int .i64 t184) := (blk_cell BK190.out 2).trans rfl; have hcz255_3 : w245.cell? ⟨gb190, 3, none⟩ = some (.int .i64 t185) := (blk_cell BK190.out 3).trans rfl; have hcz255_4 : w245.cell? ⟨gb190, 4, none⟩ = some (.int .i64 t186) := (blk_cell BK190.out 4).trans rfl; have hcz255_5 : w245.cell? ⟨gb190, 5, none⟩ = some (.int .i64 t187) := (blk_cell BK190.out 5).trans rfl; have hcz255_6 : w245.cell? ⟨gb190, 6, none⟩ = some (.int .i64 t188) := (blk_cell BK190.out 6).trans rfl; have hfz255_0 := blk_frozen BK190.out 0; have hfz255_1 := blk_frozen BK190.out 1; have hfz255_2 := blk_frozen BK190.out 2; have hfz255_3 := blk_frozen BK190.out 3; have hfz255_4 := blk_frozen BK190.out 4; have hfz255_5 := blk_frozen BK190.out 5; have hfz255_6 := blk_frozen BK190.out 6) | ((with_reducible refine gate_callee (f := 16) rfl ?_); refine goesL_ (some 102) rfl rfl Tryd.func16 (by kernel_rfl) rfl #[.agg #[.int .i64 t182, .int .i64 t183, .int .i64 t184, .int .i64 t185, .int .i64 t186, .int .i64 t187, .int .i64 t188], .agg #[.int .i64 t191, .int .i64 t192, .int .i64 t193, .int .i64 t194, .int .i64 t195, .int .i64 t196, .int .i64 t197]] rfl (by (try simp only [List.map_toArray, List.map_cons, List.map_nil]); first | done | rfl | (simp only [List.length_drop, List.length_take]; rfl)) ?_; (with_reducible refine (dims_Add.calls t182 t183 t184 t185 t186 t187 t188 t191 t192 t193 t194 t195 t196 t197 t200 t201 t202 t203 t204 t205 t206 true _ A168.out).mono ?_); rintro e w256 ⟨rfl, hb⟩; refine ⟨_, rfl, ?_⟩; have n0_ := Aside0.mk (blk_below (kp BK101.out) hb); have n1_ := Aside0.mk (blk_below (kp BK110.out) hb); have n2_ := Aside0.mk (blk_below (kp BK118.out) hb); have n3_ := Aside0.mk (blk_below (kp BK127.out) hb); have n4_ := Aside0.mk (blk_below (kp BK136.out) hb); have n5_ := Aside0.mk (blk_below (kp BK145.out) hb); have n6_ := Aside0.mk (blk_below (kp BK146.out) hb); have n7_ := Aside0.mk (blk_below (kp BK190.out) hb); have n8_ := Aside0.mk (blk_below (g := gb199) (o := .cells #[.int .i64 t191, .int .i64 t192, .int .i64 t193, .int .i64 t194, .int .i64 t195, .int .i64 t196, .int .i64 t197] 23 (0, 0)) (by (with_reducible repeat (first | refine blk_drewN ?_ _ | refine blk_drew ?_ | refine blk_alloc ?_ _)); refine blk_put (cs := #[.int .i64 t191, .int .i64 t192, .int .i64 t193, .int .i64 t194, .int .i64 t195, .int .i64 t196, .int .i64 0]) ?_ 6 _ rfl; (with_reducible repeat (first | refine blk_drewN ?_ _ | refine blk_drew ?_ | refine blk_alloc ?_ _)); refine blk_put (cs := #[.int .i64 t191, .int .i64 t192, .int .i64 t193, .int .i64 t194, .int .i64 t195, .int .i64 0, .int .i64 0]) ?_ 5 _ rfl; (with_reducible repeat (first | refine blk_drewN ?_ _ | refine blk_drew ?_ | refine blk_alloc ?_ _)); refine blk_put (cs := #[.int .i64 t191, .int .i64 t192, .int .i64 t193, .int .i64 t194, .int .i64 0, .int .i64 0, .int .i64 0]) ?_ 4 _ rfl; (with_reducible repeat (first | refine blk_drewN ?_ _ | refine blk_drew ?_ | refine blk_alloc ?_ _)); refine blk_put (cs := #[.int .i64 t191, .int .i64 t192, .int .i64 t193, .int .i64 0, .int .i64 0, .int .i64 0, .int .i64 0]) ?_ 3 _ rfl; (with_reducible repeat (first | refine blk_drewN ?_ _ | refine blk_drew ?_ | refine blk_alloc ?_ _)); refine blk_put (cs := #[.int .i64 t191, .int .i64 t192, .int .i64 0, .int .i64 0, .int .i64 0, .int .i64 0, .int .i64 0]) ?_ 2 _ rfl; (with_reducible repeat (first | refine blk_drewN ?_ _ | refine blk_drew ?_ | refine blk_alloc ?_ _)); refine blk_put (cs := #[.int .i64 t191, .int .i64 0, .int .i64 0, .int .i64 0, .int .i64 0, .int .i64 0, .int .i64 0]) ?_ 1 _ rfl; (with_reducible repeat (first | refine blk_drewN ?_ _ | refine blk_drew ?_ | refine blk_alloc ?_ _)); refine blk_put (cs := #[.int .i64 0, .int .i64 0, .int .i64 0, .int .i64 0, .int .i64 0, .int .i64 0, .int .i64 0]) ?_ 0 _ rfl; (with_reducible repeat (first | refine blk_drewN ?_ _ | refine blk_drew ?_ | refine blk_alloc ?_ _)); exact BK199.out) hb); have n9_ := Aside0.mk (below_step (bl HB.out) hb); clear BK101; clear BK110; clear BK118; clear BK127; clear BK136; clear BK145; clear BK146; clear BK190; clear BK199; clear HB; have BK101 := n0_; have BK110 := n1_; have BK118 := n2_; have BK127 := n3_; have BK136 := n4_; have BK145 := n5_; have BK146 := n6_; have BK190 := n7_; have BK199 := n8_; have HB := n9_; clear n0_ n1_ n2_ n3_ n4_ n5_ n6_ n7_ n8_ n9_; (try clear hb); (try clear hb2); (try clear hk); (try clear hi)) | ((with_reducible refine gate_dst (N := 22) rfl ?_); refine box_event ?hg (N := 22) ?hd (cs := #[.int .i64 0, .int .i64 0, .int .i64 0, .int .i64 0, .int .i64 0, .int .i64 0, .int .i64 0]) (t := 23) ?hr ?_; (case hd => rfl); (case hg => rfl); (case hr => first | (go_simp; done) | (go_simp; rfl)); intro gb208 hg w257 hbox hb; have n0_ := Aside0.mk (blk_below (kp BK101.out) hb); have n1_ := Aside0.mk (blk_below (kp BK110.out) hb); have n2_ := Aside0.mk (blk_below (kp BK118.out) hb); have n3_ := Aside0.mk (blk_below (kp BK127.out) hb); have n4_ := Aside0.mk (blk_below (kp BK136.out) hb); have n5_ := Aside0.mk (blk_below (kp BK145.out) hb); have n6_ := Aside0.mk (blk_below (kp BK146.out) hb); have n7_ := Aside0.mk (blk_below (kp BK190.out) hb); have n8_ := Aside0.mk (blk_below (kp BK199.out) hb); have n9_ := Aside0.mk (below_step (bl HB.out) hb); have n10_ := Aside0.mk (hbox); have n11_ := Aside0.mk ((by rw [hg]; exact (below_size (bl HB.out)) : w.heap.size ≤ gb208)); have n12_ := Aside0.mk ((by rw [hg]; exact (below_size (bl HB.out)) : w.heap.size ≤ gb208)); have n13_ := Aside0.mk ((by rw [hg]; exact Nat.ne_of_lt (blk_lt (kp BK101.out)) : gb101 ≠ gb208)); have n14_ := Aside0.mk ((by rw [hg]; exact Nat.ne_of_gt (blk_lt (kp BK101.out)) : gb208 ≠ gb101)); have n15_ := Aside0.mk ((by rw [hg]; exact Nat.ne_of_lt (blk_lt (kp BK110.out)) : gb110 ≠ gb208)); have n16_ := Aside0.mk ((by rw [hg]; exact Nat.ne_of_gt (blk_lt (kp BK110.out)) : gb208 ≠ gb110)); have n17_ := Aside0.mk ((by rw [hg]; exact Nat.ne_of_lt (blk_lt (kp BK118.out)) : gb118 ≠ gb208)); have n18_ := Aside0.mk ((by rw [hg]; exact Nat.ne_of_gt (blk_lt (kp BK118.out)) : gb208 ≠ gb118)); have n19_ := Aside0.mk ((by rw [hg]; exact Nat.ne_of_lt (blk_lt (kp BK127.out)) : gb127 ≠ gb208)); have n20_ := Aside0.mk ((by rw [hg]; exact Nat.ne_of_gt (blk_lt (kp BK127.out)) : gb208 ≠ gb127)); have n21_ := Aside0.mk ((by rw [hg]; exact Nat.ne_of_lt (blk_lt (kp BK136.out)) : gb136 ≠ gb208)); have n22_ := Aside0.mk ((by rw [hg]; exact Nat.ne_of_gt (blk_lt (kp BK136.out)) : gb208 ≠ gb136)); have n23_ := Aside0.mk ((by rw [hg]; exact Nat.ne_of_lt (blk_lt (kp BK145.out)) : gb145 ≠ gb208)); have n24_ := Aside0.mk ((by rw [hg]; exact Nat.ne_of_gt (blk_lt (kp BK145.out)) : gb208 ≠ gb145)); have n25_ := Aside0.mk ((by rw [hg]; exact Nat.ne_of_lt (blk_lt (kp BK146.out)) : gb146 ≠ gb208)); have n26_ := Aside0.mk ((by rw [hg]; exact Nat.ne_of_gt (blk_lt (kp BK146.out)) : gb208 ≠ gb146)); have n27_ := Aside0.mk ((by rw [hg]; exact Nat.ne_of_lt (blk_lt (kp BK190.out)) : gb190 ≠ gb208)); have n28_ := Aside0.mk ((by rw [hg]; exact Nat.ne_of_gt (blk_lt (kp BK190.out)) : gb208 ≠ gb190)); have n29_ := Aside0.mk ((by rw [hg]; exact Nat.ne_of_lt (blk_lt (kp BK199.out)) : gb199 ≠ gb208)); have n30_ := Aside0.mk ((by rw [hg]; exact Nat.ne_of_gt (blk_lt (kp BK199.out)) : gb208 ≠ gb199)); clear BK101; clear BK110; clear BK118; clear BK127; clear BK136; clear BK145; clear BK146; clear BK190; clear BK199; clear HB; have BK101 := n0_; have BK110 := n1_; have BK118 := n2_; have BK127 := n3_; have BK136 := n4_; have BK145 := n5_; have BK146 := n6_; have BK190 := n7_; have BK199 := n8_; have HB := n9_; have BK208 := n10_; have GW208 := n11_; have GE208 := n12_; have NB101_208 := n13_; have NB208_101 := n14_; have NB110_208 := n15_; have NB208_110 := n16_; have NB118_208 := n17_; have NB208_118 := n18_; have NB127_208 := n19_; have NB208_127 := n20_; have NB136_208 := n21_; have NB208_136 := n22_; have NB145_208 := n23_; have NB208_145 := n24_; have NB146_208 := n25_; have NB208_146 := n26_; have NB190_208 := n27_; have NB208_190 := n28_; have NB199_208 := n29_; have NB208_199 := n30_; clear n0_ n1_ n2_ n3_ n4_ n5_ n6_ n7_ n8_ n9_ n10_ n11_ n12_ n13_ n14_ n15_ n16_ n17_ n18_ n19_ n20_ n21_ n22_ n23_ n24_ n25_ n26_ n27_ n28_ n29_ n30_; clear hb hbox hg; have hnb258 := NB208_101.out; have hnc258 := NB101_208.out; have hnb259 := NB208_110.out; have hnc259 := NB110_208.out; have hnb260 := NB208_118.out; have hnc260 := NB118_208.out; have hnb261 := NB208_127.out; have hnc261 := NB127_208.out; have hnb262 := NB208_136.out; have hnc262 := NB136_208.out; have hnb263 := NB208_145.out; have hnc263 := NB145_208.out; have hnb264 := NB208_146.out; have hnc264 := NB146_208.out; have hnb265 := NB208_190.out; have hnc265 := NB190_208.out; have hnb266 := NB208_199.out; have hnc266 := NB199_208.out; have hcz267_0 : w257.cell? ⟨gb208, 0, none⟩ = some (.int .i64 0) := (blk_cell BK208.out 0).trans rfl; have hcz267_1 : w257.cell? ⟨gb208, 1, none⟩ = some (.int .i64 0) := (blk_cell BK208.out 1).trans rfl; have hcz267_2 : w257.cell? ⟨gb208, 2, none⟩ = some (.int .i64 0) := (blk_cell BK208.out 2).trans rfl; have hcz267_3 : w257.cell? ⟨gb208, 3, none⟩ = some (.int .i64 0) := (blk_cell BK208.out 3).trans rfl; have hcz267_4 : w257.cell? ⟨gb208, 4, none⟩ = some (.int .i64 0) := (blk_cell BK208.out 4).trans rfl; have hcz267_5 : w257.cell? ⟨gb208, 5, none⟩ = some (.int .i64 0) := (blk_cell BK208.out 5).trans rfl; have hcz267_6 : w257.cell? ⟨gb208, 6, none⟩ = some (.int .i64 0) := (blk_cell BK208.out 6).trans rfl; have hfz267_0 := blk_frozen BK208.out 0; have hfz267_1 := blk_frozen BK208.out 1; have hfz267_2 := blk_frozen BK208.out 2; have hfz267_3 := blk_frozen BK208.out 3; have hfz267_4 := blk_frozen BK208.out 4; have hfz267_5 := blk_frozen BK208.out 5; have hfz267_6 := blk_frozen BK208.out 6))
               go_ret
               exact ⟨by first | rfl | (simp [errW_none, errW_some] <;> rfl) | (simp [*, errW_none, errW_some] <;> rfl), bl HB.out⟩
              ·replace c225 := Bool.eq_false_iff.mpr c225
               subst c225
               have H1 : (none) = some r := by rw [if_neg (show ¬ (false = true) by decide)] at H; exact H
               clear H
               have H := H1
               clear H1
               exact absurd H (by simp)
             ·rw [if_neg c224] at H
              exact absurd H (by simp)
           ·rw [if_neg c170] at H
            exact absurd H (by simp)
          ·replace c169 := Bool.eq_false_iff.mpr c169
           subst c169
           have H1 : (none) = some r := by rw [if_neg (show ¬ (false = true) by decide)] at H; exact H
           clear H
           have H := H1
           clear H1
           exact absurd H (by simp)

/-- THE ONE PURE STATEMENT of drachmlaw03_DimsBack: yours. -/
def drachmlaw03_DimsBack.Pure : Prop := ∀ (a0_0 : Int) (a0_1 : Int) (a0_2 : Int) (a0_3 : Int) (a0_4 : Int) (a0_5 : Int) (a0_6 : Int) (a0_7 : Int) (a0_8 : Int) (a0_9 : Int) (a0_10 : Int) (a0_11 : Int) (a0_12 : Int) (a0_13 : Int) (a1 : Int), (Lit.int .i64 a0_0).wf = true → (Lit.int .i64 a0_1).wf = true → (Lit.int .i64 a0_2).wf = true → (Lit.int .i64 a0_3).wf = true → (Lit.int .i64 a0_4).wf = true → (Lit.int .i64 a0_5).wf = true → (Lit.int .i64 a0_6).wf = true → (Lit.int .i64 a0_7).wf = true → (Lit.int .i64 a0_8).wf = true → (Lit.int .i64 a0_9).wf = true → (Lit.int .i64 a0_10).wf = true → (Lit.int .i64 a0_11).wf = true → (Lit.int .i64 a0_12).wf = true → (Lit.int .i64 a0_13).wf = true → (Lit.int .i64 a1).wf = true → ∃ k, drachmlaw03_DimsBack.f k a0_0 a0_1 a0_2 a0_3 a0_4 a0_5 a0_6 a0_7 a0_8 a0_9 a0_10 a0_11 a0_12 a0_13 a1 = some true
theorem drachmlaw03_DimsBack.walk (P : drachmlaw03_DimsBack.Pure) (a0_0 : Int) (a0_1 : Int) (a0_2 : Int) (a0_3 : Int) (a0_4 : Int) (a0_5 : Int) (a0_6 : Int) (a0_7 : Int) (a0_8 : Int) (a0_9 : Int) (a0_10 : Int) (a0_11 : Int) (a0_12 : Int) (a0_13 : Int) (a1 : Int) (w : World) (hG : Glob [1, 2, 3] w) (w0_0 : (Lit.int .i64 a0_0).wf = true) (w0_1 : (Lit.int .i64 a0_1).wf = true) (w0_2 : (Lit.int .i64 a0_2).wf = true) (w0_3 : (Lit.int .i64 a0_3).wf = true) (w0_4 : (Lit.int .i64 a0_4).wf = true) (w0_5 : (Lit.int .i64 a0_5).wf = true) (w0_6 : (Lit.int .i64 a0_6).wf = true) (w0_7 : (Lit.int .i64 a0_7).wf = true) (w0_8 : (Lit.int .i64 a0_8).wf = true) (w0_9 : (Lit.int .i64 a0_9).wf = true) (w0_10 : (Lit.int .i64 a0_10).wf = true) (w0_11 : (Lit.int .i64 a0_11).wf = true) (w0_12 : (Lit.int .i64 a0_12).wf = true) (w0_13 : (Lit.int .i64 a0_13).wf = true) (w1 : (Lit.int .i64 a1).wf = true) :
  Calls Tryd.prog 7 #[.agg #[.int .i64 a0_0, .int .i64 a0_1, .int .i64 a0_2, .int .i64 a0_3, .int .i64 a0_4, .int .i64 a0_5, .int .i64 a0_6, .int .i64 a0_7, .int .i64 a0_8, .int .i64 a0_9, .int .i64 a0_10, .int .i64 a0_11, .int .i64 a0_12, .int .i64 a0_13], .int .i64 a1] w fun e w' => e = .returned (.bool true) ∧ Below w.heap.size w w' := by
 obtain ⟨k, h⟩ := P a0_0 a0_1 a0_2 a0_3 a0_4 a0_5 a0_6 a0_7 a0_8 a0_9 a0_10 a0_11 a0_12 a0_13 a1 w0_0 w0_1 w0_2 w0_3 w0_4 w0_5 w0_6 w0_7 w0_8 w0_9 w0_10 w0_11 w0_12 w0_13 w1
 refine (drachmlaw03_DimsBack.calls k a0_0 a0_1 a0_2 a0_3 a0_4 a0_5 a0_6 a0_7 a0_8 a0_9 a0_10 a0_11 a0_12 a0_13 a1 true w hG h).mono ?_
 rintro e w' ⟨rfl, hd⟩
 exact ⟨rfl, hd⟩

end Go.Proofs.YtclpbnfcajbmkaaDoor.PDimsBack
