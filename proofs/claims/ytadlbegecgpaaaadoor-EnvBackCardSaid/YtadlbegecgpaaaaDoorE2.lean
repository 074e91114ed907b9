/- E2: what the claim needs of it (cut by wip/shake.py). -/
-- Printed by a program of this session (wip/mkprint.py: the kit's printer, changed). Not trusted: Lean checks it.
import Derived.Test.YtadlbegecgpaaaaDoorE0
import Derived.Test.YtadlbegecgpaaaaDoorE1
namespace Go.Proofs.YtadlbegecgpaaaaDoor.S
open Go.RowKit Go.Proofs.YtadlbegecgpaaaaDoorW.PrintWords Go.Proofs.YtadlbegecgpaaaaDoorW.PrintLast Go.Proofs.YtadlbegecgpaaaaDoorW.PrintMore
attribute [local go_sem] max2_int min2_int max_two min_two max_three min_three max_four min_four   -- for this text's walks alone
set_option linter.unusedVariables false
set_option linter.unusedSimpArgs false
mutual
def sorrellaw07_EnvSets.j0 : Nat → List (S63) → ByteArray → ByteArray → Int → Int → List (S63) → Bool → Option (Bool)
  | 0, _, _, _, _, _, _, _ => none
  | k + 1, x0, x1, x2, x3, x4, x11, x77 => if x77 = true then (some false) else ((sorrellaw07_copied.f x11).bind fun t146 => ((env_Set.f k t146 x1 x3).bind fun bt149 => (if bt149.2 = 0 then ((sorrellaw07_same.f k bt149.1 x11).bind fun t153 => (sorrellaw07_EnvSets.j1 k x0 x1 x2 x3 x4 x11 (!t153))) else (sorrellaw07_EnvSets.j1 k x0 x1 x2 x3 x4 x11 true))))
def sorrellaw07_EnvSets.j1 : Nat → List (S63) → ByteArray → ByteArray → Int → Int → List (S63) → Bool → Option (Bool)
  | 0, _, _, _, _, _, _, _ => none
  | k + 1, x0, x1, x2, x3, x4, x11, x93 => if x93 = true then (some false) else ((sorrellaw07_copied.f x11).bind fun t154 => ((env_Set.f k t154 x2 x4).bind fun bt157 => (if bt157.2 = 0 then (sorrellaw07_EnvSets.j2 k x0 x1 x2 x3 x4 bt157.2 bt157.1 (x2.toList == x1.toList)) else (sorrellaw07_EnvSets.j2 k x0 x1 x2 x3 x4 bt157.2 bt157.1 true))))
def sorrellaw07_EnvSets.j2 : Nat → List (S63) → ByteArray → ByteArray → Int → Int → Int → List (S63) → Bool → Option (Bool)
  | 0, _, _, _, _, _, _, _, _ => none
  | k + 1, x0, x1, x2, x3, x4, x12, x14, x108 => if x108 = true then (if x12 = 0 then (some true) else (some ((x14.length : Int) == 0))) else ((sorrellaw07_copied.f x0).bind fun t161 => ((env_Set.f k t161 x2 x4).bind fun bt164 => ((sorrellaw07_copied.f bt164.1).bind fun t168 => ((env_Set.f k t168 x1 x3).bind fun bt171 => (if bt164.2 = 0 then (if bt171.2 = 0 then ((env_Get.f k x14 x1).bind fun t175 => ((env_Get.f k bt171.1 x1).bind fun t176 => (if t175 = t176 then ((env_Get.f k x14 x2).bind fun t177 => ((env_Get.f k bt171.1 x2).bind fun t178 => (if t177 = t178 then (some ((x14.length : Int) == (bt171.1.length : Int))) else (some false)))) else (some false)))) else (some false)) else (some false))))))
end
def sorrellaw07_EnvSets.f (k : Nat) (l0 : List (S63)) (a1 : ByteArray) (a2 : ByteArray) (a3 : Int) (a4 : Int) : Option (Bool) := (sorrellaw07_awake.f k).bind fun t131 => (if t131 = true then ((sorrellaw07_copied.f l0).bind fun t132 => ((env_Set.f k t132 a1 a3).bind fun bt135 => (if bt135.2 = 0 then ((env_Get.f k bt135.1 a1).bind fun t140 => (if t140 = a3 then (if a2.toList = a1.toList then (if (bt135.1.length : Int) < (l0.length : Int) then (sorrellaw07_EnvSets.j0 k l0 a1 a2 a3 a4 bt135.1 true) else (sorrellaw07_EnvSets.j0 k l0 a1 a2 a3 a4 bt135.1 (decide ((bt135.1.length : Int) > (wrap64 ((l0.length : Int) + 1)))))) else ((env_Get.f k bt135.1 a2).bind fun t141 => ((sorrellaw07_copied.f l0).bind fun t142 => ((env_Get.f k t142 a2).bind fun t145 => (if t141 = t145 then (if (bt135.1.length : Int) < (l0.length : Int) then (sorrellaw07_EnvSets.j0 k l0 a1 a2 a3 a4 bt135.1 true) else (sorrellaw07_EnvSets.j0 k l0 a1 a2 a3 a4 bt135.1 (decide ((bt135.1.length : Int) > (wrap64 ((l0.length : Int) + 1)))))) else (sorrellaw07_EnvSets.j0 k l0 a1 a2 a3 a4 bt135.1 true)))))) else (sorrellaw07_EnvSets.j0 k l0 a1 a2 a3 a4 bt135.1 true))) else (if (bt135.1.length : Int) = 0 then ((sorrelref01_Name.f k a1).bind fun t139 => (if t139 = true then (some (decide ((l0.length : Int) ≥ 64))) else (some true))) else (some false))))) else (some false))
theorem sorrellaw07_EnvSets.mono_l : ∀ k, (∀ y0 y1 y2 y3 y4 y5 y6, LeO (sorrellaw07_EnvSets.j0 k y0 y1 y2 y3 y4 y5 y6) (sorrellaw07_EnvSets.j0 (k + 1) y0 y1 y2 y3 y4 y5 y6)) ∧ (∀ y0 y1 y2 y3 y4 y5 y6, LeO (sorrellaw07_EnvSets.j1 k y0 y1 y2 y3 y4 y5 y6) (sorrellaw07_EnvSets.j1 (k + 1) y0 y1 y2 y3 y4 y5 y6)) ∧ (∀ y0 y1 y2 y3 y4 y5 y6 y7, LeO (sorrellaw07_EnvSets.j2 k y0 y1 y2 y3 y4 y5 y6 y7) (sorrellaw07_EnvSets.j2 (k + 1) y0 y1 y2 y3 y4 y5 y6 y7))
  | 0 => ⟨fun _ _ _ _ _ _ _ r h => by simp [sorrellaw07_EnvSets.j0] at h, fun _ _ _ _ _ _ _ r h => by simp [sorrellaw07_EnvSets.j1] at h, fun _ _ _ _ _ _ _ _ r h => by simp [sorrellaw07_EnvSets.j2] at h⟩
  | k + 1 => by
    obtain ⟨ih0, ih1, ih2⟩ := sorrellaw07_EnvSets.mono_l k
    refine ⟨?_, ?_, ?_⟩
    · intro y0 y1 y2 y3 y4 y5 y6
      unfold sorrellaw07_EnvSets.j0
      repeat' first
      | (with_reducible exact ih0 _ _ _ _ _ _ _)
      | (with_reducible exact ih1 _ _ _ _ _ _ _)
      | (with_reducible exact ih2 _ _ _ _ _ _ _ _)
      | (with_reducible exact env_Get.mono _ _ _)
      | (with_reducible exact env_Set.mono _ _ _ _)
      | (with_reducible exact sorrellaw07_awake.mono _)
      | (with_reducible exact sorrellaw07_same.mono _ _ _)
      | (with_reducible exact sorrelref01_Name.mono _ _)
      | (with_reducible exact LeO.refl _)
      | (with_reducible exact LeO.none _)
      | (with_reducible refine LeO.ite ?_ ?_)
      | (with_reducible refine LeO.bind ?_ (fun _ => ?_))
      | exact ih0 _ _ _ _ _ _ _
      | exact ih1 _ _ _ _ _ _ _
      | exact ih2 _ _ _ _ _ _ _ _
      | exact env_Get.mono _ _ _
      | exact env_Set.mono _ _ _ _
      | exact sorrellaw07_awake.mono _
      | exact sorrellaw07_same.mono _ _ _
      | exact sorrelref01_Name.mono _ _
      | exact LeO.none _
      | refine LeO.ite ?_ ?_
      | refine LeO.bind ?_ (fun _ => ?_)
    · intro y0 y1 y2 y3 y4 y5 y6
      unfold sorrellaw07_EnvSets.j1
      repeat' first
      | (with_reducible exact ih0 _ _ _ _ _ _ _)
      | (with_reducible exact ih1 _ _ _ _ _ _ _)
      | (with_reducible exact ih2 _ _ _ _ _ _ _ _)
      | (with_reducible exact env_Get.mono _ _ _)
      | (with_reducible exact env_Set.mono _ _ _ _)
      | (with_reducible exact sorrellaw07_awake.mono _)
      | (with_reducible exact sorrellaw07_same.mono _ _ _)
      | (with_reducible exact sorrelref01_Name.mono _ _)
      | (with_reducible exact LeO.refl _)
      | (with_reducible exact LeO.none _)
      | (with_reducible refine LeO.ite ?_ ?_)
      | (with_reducible refine LeO.bind ?_ (fun _ => ?_))
      | exact ih0 _ _ _ _ _ _ _
      | exact ih1 _ _ _ _ _ _ _
      | exact ih2 _ _ _ _ _ _ _ _
      | exact env_Get.mono _ _ _
      | exact env_Set.mono _ _ _ _
      | exact sorrellaw07_awake.mono _
      | exact sorrellaw07_same.mono _ _ _
      | exact sorrelref01_Name.mono _ _
      | exact LeO.none _
      | refine LeO.ite ?_ ?_
      | refine LeO.bind ?_ (fun _ => ?_)
    · intro y0 y1 y2 y3 y4 y5 y6 y7
      unfold sorrellaw07_EnvSets.j2
      repeat' first
      | (with_reducible exact ih0 _ _ _ _ _ _ _)
      | (with_reducible exact ih1 _ _ _ _ _ _ _)
      | (with_reducible exact ih2 _ _ _ _ _ _ _ _)
      | (with_reducible exact env_Get.mono _ _ _)
      | (with_reducible exact env_Set.mono _ _ _ _)
      | (with_reducible exact sorrellaw07_awake.mono _)
      | (with_reducible exact sorrellaw07_same.mono _ _ _)
      | (with_reducible exact sorrelref01_Name.mono _ _)
      | (with_reducible exact LeO.refl _)
      | (with_reducible exact LeO.none _)
      | (with_reducible refine LeO.ite ?_ ?_)
      | (with_reducible refine LeO.bind ?_ (fun _ => ?_))
      | exact ih0 _ _ _ _ _ _ _
      | exact ih1 _ _ _ _ _ _ _
      | exact ih2 _ _ _ _ _ _ _ _
      | exact env_Get.mono _ _ _
      | exact env_Set.mono _ _ _ _
      | exact sorrellaw07_awake.mono _
      | exact sorrellaw07_same.mono _ _ _
      | exact sorrelref01_Name.mono _ _
      | exact LeO.none _
      | refine LeO.ite ?_ ?_
      | refine LeO.bind ?_ (fun _ => ?_)
theorem sorrellaw07_EnvSets.mono : ∀ a0 a1 a2 a3 a4 k, LeO (sorrellaw07_EnvSets.f k a0 a1 a2 a3 a4) (sorrellaw07_EnvSets.f (k + 1) a0 a1 a2 a3 a4) := by
  intro a0 a1 a2 a3 a4 k
  obtain ⟨ih0, ih1, ih2⟩ := sorrellaw07_EnvSets.mono_l k
  unfold sorrellaw07_EnvSets.f
  repeat' first
      | (with_reducible exact ih0 _ _ _ _ _ _ _)
      | (with_reducible exact ih1 _ _ _ _ _ _ _)
      | (with_reducible exact ih2 _ _ _ _ _ _ _ _)
      | (with_reducible exact env_Get.mono _ _ _)
      | (with_reducible exact env_Set.mono _ _ _ _)
      | (with_reducible exact sorrellaw07_awake.mono _)
      | (with_reducible exact sorrellaw07_same.mono _ _ _)
      | (with_reducible exact sorrelref01_Name.mono _ _)
      | (with_reducible exact LeO.refl _)
      | (with_reducible exact LeO.none _)
      | (with_reducible refine LeO.ite ?_ ?_)
      | (with_reducible refine LeO.bind ?_ (fun _ => ?_))
      | exact ih0 _ _ _ _ _ _ _
      | exact ih1 _ _ _ _ _ _ _
      | exact ih2 _ _ _ _ _ _ _ _
      | exact env_Get.mono _ _ _
      | exact env_Set.mono _ _ _ _
      | exact sorrellaw07_awake.mono _
      | exact sorrellaw07_same.mono _ _ _
      | exact sorrelref01_Name.mono _ _
      | exact LeO.none _
      | refine LeO.ite ?_ ?_
      | refine LeO.bind ?_ (fun _ => ?_)
end Go.Proofs.YtadlbegecgpaaaaDoor.S
