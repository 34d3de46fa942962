/- Out of what the kit's print writes for a function whose text is too long for one file, or falls: the same walk, smaller. Conditions: as the theorems say. -/
import Derived.Test.YtmpgfpndhhegiaaDB0
import Derived.Test.YtmpgfpndhhegiaaDBFirst
import Derived.Test.YtmpgfpndhhegiaaDBNext
import Derived.Test.YtmpgfpndhhegiaaDBOf
namespace Go.Proofs.Ytmpgfpndhhegiaa.DB
open Go.RowKit Go.Proofs.YtmpgfpndhhegiaaW.PrintWords Go.Proofs.YtmpgfpndhhegiaaW.PrintLast Go.Proofs.YtmpgfpndhhegiaaW.PrintMore
attribute [local go_sem] max2_int min2_int max_two min_two max_three min_three max_four min_four   -- for this text's walks alone
set_option linter.unusedVariables false
set_option linter.unusedSimpArgs false

/-! ### redpenlaw08_DistLaws: function 4 -/
mutual
def redpenlaw08_DistLaws.j0 : Nat → List Int → List Int → Int → Bool → Option (Bool)
 | 0, _, _, _, _ => none
 | k + 1, x0, x1, x2, x20 => if x20 = true then (some true) else ((dist_Of.f k x0 x1).bind fun t152 => (redpenlaw08_DistLaws.l0 k x0 x1 x2 t152 ((x0.length : Int) == (x1.length : Int)) 0))
def redpenlaw08_DistLaws.l0 : Nat → List Int → List Int → Int → Int → Bool → Int → Option (Bool)
 | 0, _, _, _, _, _, _ => none
 | k + 1, x0, x1, x2, x7, x8, x9 => if x8 = true then (if x9 < (x0.length : Int) then (if 0 ≤ x9 then (if x9 < (x1.length : Int) then (redpenlaw08_DistLaws.l0 k x0 x1 x2 x7 ((rd x0 x9) == (rd x1 x9)) (wrap64 (x9 + 1))) else (none)) else (none)) else ((some (([] : List Int) : List Int)).bind fun y155 => (if y155.length + x0.length < 35184372088832 then ((some (y155 ++ x0 : List Int)).bind fun y158 => (if y158.length < 35184372088832 then ((dist_Of.f k (y158 ++ [x2]) x1).bind fun t164 => ((dist_Of.f k x1 x0).bind fun t165 => (if x7 = t165 then (if ((x7 == 0) == x8) = true then (if x7 ≤ (mx (x0.length : Int) (x1.length : Int)) then (if x7 ≥ (wrap64 ((mx (x0.length : Int) (x1.length : Int)) - (mn (x0.length : Int) (x1.length : Int)))) then (if t164 ≤ (wrap64 (x7 + 1)) then (some (decide (t164 ≥ (wrap64 (x7 - 1))))) else (some false)) else (some false)) else (some false)) else (some false)) else (some false)))) else (none))) else (none)))) else ((some (([] : List Int) : List Int)).bind fun y166 => (if y166.length + x0.length < 35184372088832 then ((some (y166 ++ x0 : List Int)).bind fun y169 => (if y169.length < 35184372088832 then ((dist_Of.f k (y169 ++ [x2]) x1).bind fun t175 => ((dist_Of.f k x1 x0).bind fun t176 => (if x7 = t176 then (if ((x7 == 0) == x8) = true then (if x7 ≤ (mx (x0.length : Int) (x1.length : Int)) then (if x7 ≥ (wrap64 ((mx (x0.length : Int) (x1.length : Int)) - (mn (x0.length : Int) (x1.length : Int)))) then (if t175 ≤ (wrap64 (x7 + 1)) then (some (decide (t175 ≥ (wrap64 (x7 - 1))))) else (some false)) else (some false)) else (some false)) else (some false)) else (some false)))) else (none))) else (none)))
end
def redpenlaw08_DistLaws.f (k : Nat) (l0 : List Int) (l1 : List Int) (a2 : Int) : Option (Bool) := (redpenlaw08_Awake.f k).bind fun t151 => (if t151 = true then (if (l0.length : Int) > 60 then (redpenlaw08_DistLaws.j0 k l0 l1 a2 true) else (redpenlaw08_DistLaws.j0 k l0 l1 a2 (decide ((l1.length : Int) > 60)))) else (some false))
theorem redpenlaw08_DistLaws.mono_l : ∀ k, (∀ y0 y1 y2 y3, LeO (redpenlaw08_DistLaws.j0 k y0 y1 y2 y3) (redpenlaw08_DistLaws.j0 (k + 1) y0 y1 y2 y3)) ∧ (∀ y0 y1 y2 y3 y4 y5, LeO (redpenlaw08_DistLaws.l0 k y0 y1 y2 y3 y4 y5) (redpenlaw08_DistLaws.l0 (k + 1) y0 y1 y2 y3 y4 y5))
 | 0 => ⟨fun _ _ _ _ r h => by simp [redpenlaw08_DistLaws.j0] at h, fun _ _ _ _ _ _ r h => by simp [redpenlaw08_DistLaws.l0] at h⟩
 | k + 1 => by
  obtain ⟨ih0, ih1⟩ := redpenlaw08_DistLaws.mono_l k
  refine ⟨?_, ?_⟩
  ·
   intro y0 y1 y2 y3
   unfold redpenlaw08_DistLaws.j0
   repeat' first
   | (with_reducible exact ih0 _ _ _ _)
   | (with_reducible exact ih1 _ _ _ _ _ _)
   | (with_reducible exact dist_Of.mono _ _ _)
   | (with_reducible exact redpenlaw08_Awake.mono _)
   | (with_reducible exact LeO.refl _)
   | (with_reducible exact LeO.none _)
   | (with_reducible refine LeO.ite ?_ ?_)
   | (with_reducible refine LeO.bind ?_ (fun _ => ?_))
   | exact ih0 _ _ _ _
   | exact ih1 _ _ _ _ _ _
   | exact dist_Of.mono _ _ _
   | exact redpenlaw08_Awake.mono _
   | exact LeO.none _
   | refine LeO.ite ?_ ?_
   | refine LeO.bind ?_ (fun _ => ?_)
  ·
   intro y0 y1 y2 y3 y4 y5
   unfold redpenlaw08_DistLaws.l0
   repeat' first
   | (with_reducible exact ih0 _ _ _ _)
   | (with_reducible exact ih1 _ _ _ _ _ _)
   | (with_reducible exact dist_Of.mono _ _ _)
   | (with_reducible exact redpenlaw08_Awake.mono _)
   | (with_reducible exact LeO.refl _)
   | (with_reducible exact LeO.none _)
   | (with_reducible refine LeO.ite ?_ ?_)
   | (with_reducible refine LeO.bind ?_ (fun _ => ?_))
   | exact ih0 _ _ _ _
   | exact ih1 _ _ _ _ _ _
   | exact dist_Of.mono _ _ _
   | exact redpenlaw08_Awake.mono _
   | exact LeO.none _
   | refine LeO.ite ?_ ?_
   | refine LeO.bind ?_ (fun _ => ?_)
theorem redpenlaw08_DistLaws.mono : ∀ a0 a1 a2 k, LeO (redpenlaw08_DistLaws.f k a0 a1 a2) (redpenlaw08_DistLaws.f (k + 1) a0 a1 a2) := by
 intro a0 a1 a2 k
 obtain ⟨ih0, ih1⟩ := redpenlaw08_DistLaws.mono_l k
 unfold redpenlaw08_DistLaws.f
 repeat' first
   | (with_reducible exact ih0 _ _ _ _)
   | (with_reducible exact ih1 _ _ _ _ _ _)
   | (with_reducible exact dist_Of.mono _ _ _)
   | (with_reducible exact redpenlaw08_Awake.mono _)
   | (with_reducible exact LeO.refl _)
   | (with_reducible exact LeO.none _)
   | (with_reducible refine LeO.ite ?_ ?_)
   | (with_reducible refine LeO.bind ?_ (fun _ => ?_))
   | exact ih0 _ _ _ _
   | exact ih1 _ _ _ _ _ _
   | exact dist_Of.mono _ _ _
   | exact redpenlaw08_Awake.mono _
   | exact LeO.none _
   | refine LeO.ite ?_ ?_
   | refine LeO.bind ?_ (fun _ => ?_)
end Go.Proofs.Ytmpgfpndhhegiaa.DB
