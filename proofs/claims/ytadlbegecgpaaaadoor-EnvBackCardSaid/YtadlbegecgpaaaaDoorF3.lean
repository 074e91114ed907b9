/- F3: what the claim needs of it (cut by wip/shake.py). -/
-- Printed by a program of this session (wip/mkprint.py: the kit's printer, changed). Not trusted: Lean checks it.
import Derived.Test.YtadlbegecgpaaaaDoorF0
import Derived.Test.YtadlbegecgpaaaaDoorF1
import Derived.Test.YtadlbegecgpaaaaDoorF2
import Derived.Test.YtadlbegecgpaaaaDoorE1
namespace Go.Proofs.YtadlbegecgpaaaaDoor.S
open Go.RowKit Go.Proofs.YtadlbegecgpaaaaDoorW.PrintWords Go.Proofs.YtadlbegecgpaaaaDoorW.PrintLast Go.Proofs.YtadlbegecgpaaaaDoorW.PrintMore
attribute [local go_sem] max2_int min2_int max_two min_two max_three min_three max_four min_four   -- for this text's walks alone
set_option linter.unusedVariables false
set_option linter.unusedSimpArgs false
def sorrellaw07_EnvPlays.j0 : Nat → List (S63) → ByteArray → Int → Bool → Option (Bool)
  | 0, _, _, _, _ => none
  | k + 1, x0, x1, x2, x26 => if x26 = true then (some false) else ((sorrellaw07_copied.f x0).bind fun t145 => ((env_Set.f k t145 x1 x2).bind fun bt148 => ((sorrelref07_Set.f k x0 x1 x2).bind fun bt152 => ((sorrellaw07_copied.f x0).bind fun t156 => ((env_Text.f k t156).bind fun bt159 => ((sorrelref07_Text.f k x0).bind fun bt161 => ((sorrellaw07_same.f k bt148.1 bt152.1).bind fun t163 => (if t163 = true then (if bt148.2 = bt152.2 then (if bt159.1.toList = bt161.1.toList then (some (bt159.2 == bt161.2)) else (some false)) else (some false)) else (some false)))))))))
def sorrellaw07_EnvPlays.f (k : Nat) (l0 : List (S63)) (a1 : ByteArray) (a2 : Int) : Option (Bool) := (sorrellaw07_awake.f k).bind fun t139 => (if t139 = true then ((sorrellaw07_copied.f l0).bind fun t140 => ((env_Get.f k t140 a1).bind fun t143 => ((sorrelref07_Get.f k l0 a1).bind fun t144 => (sorrellaw07_EnvPlays.j0 k l0 a1 a2 (t143 != t144))))) else (sorrellaw07_EnvPlays.j0 k l0 a1 a2 true))
theorem sorrellaw07_EnvPlays.mono_l : ∀ k, (∀ y0 y1 y2 y3, LeO (sorrellaw07_EnvPlays.j0 k y0 y1 y2 y3) (sorrellaw07_EnvPlays.j0 (k + 1) y0 y1 y2 y3))
  | 0 => fun _ _ _ _ r h => by simp [sorrellaw07_EnvPlays.j0] at h
  | k + 1 => by
    have ih0 := sorrellaw07_EnvPlays.mono_l k
    · intro y0 y1 y2 y3
      unfold sorrellaw07_EnvPlays.j0
      repeat' first
      | (with_reducible exact ih0 _ _ _ _)
      | (with_reducible exact env_Get.mono _ _ _)
      | (with_reducible exact env_Set.mono _ _ _ _)
      | (with_reducible exact env_Text.mono _ _)
      | (with_reducible exact sorrellaw07_awake.mono _)
      | (with_reducible exact sorrellaw07_same.mono _ _ _)
      | (with_reducible exact sorrelref07_Get.mono _ _ _)
      | (with_reducible exact sorrelref07_Set.mono _ _ _ _)
      | (with_reducible exact sorrelref07_Text.mono _ _)
      | (with_reducible exact LeO.refl _)
      | (with_reducible exact LeO.none _)
      | (with_reducible refine LeO.ite ?_ ?_)
      | (with_reducible refine LeO.bind ?_ (fun _ => ?_))
      | exact ih0 _ _ _ _
      | exact env_Get.mono _ _ _
      | exact env_Set.mono _ _ _ _
      | exact env_Text.mono _ _
      | exact sorrellaw07_awake.mono _
      | exact sorrellaw07_same.mono _ _ _
      | exact sorrelref07_Get.mono _ _ _
      | exact sorrelref07_Set.mono _ _ _ _
      | exact sorrelref07_Text.mono _ _
      | exact LeO.none _
      | refine LeO.ite ?_ ?_
      | refine LeO.bind ?_ (fun _ => ?_)
theorem sorrellaw07_EnvPlays.mono : ∀ a0 a1 a2 k, LeO (sorrellaw07_EnvPlays.f k a0 a1 a2) (sorrellaw07_EnvPlays.f (k + 1) a0 a1 a2) := by
  intro a0 a1 a2 k
  have ih0 := sorrellaw07_EnvPlays.mono_l k
  unfold sorrellaw07_EnvPlays.f
  repeat' first
      | (with_reducible exact ih0 _ _ _ _)
      | (with_reducible exact env_Get.mono _ _ _)
      | (with_reducible exact env_Set.mono _ _ _ _)
      | (with_reducible exact env_Text.mono _ _)
      | (with_reducible exact sorrellaw07_awake.mono _)
      | (with_reducible exact sorrellaw07_same.mono _ _ _)
      | (with_reducible exact sorrelref07_Get.mono _ _ _)
      | (with_reducible exact sorrelref07_Set.mono _ _ _ _)
      | (with_reducible exact sorrelref07_Text.mono _ _)
      | (with_reducible exact LeO.refl _)
      | (with_reducible exact LeO.none _)
      | (with_reducible refine LeO.ite ?_ ?_)
      | (with_reducible refine LeO.bind ?_ (fun _ => ?_))
      | exact ih0 _ _ _ _
      | exact env_Get.mono _ _ _
      | exact env_Set.mono _ _ _ _
      | exact env_Text.mono _ _
      | exact sorrellaw07_awake.mono _
      | exact sorrellaw07_same.mono _ _ _
      | exact sorrelref07_Get.mono _ _ _
      | exact sorrelref07_Set.mono _ _ _ _
      | exact sorrelref07_Text.mono _ _
      | exact LeO.none _
      | refine LeO.ite ?_ ?_
      | refine LeO.bind ?_ (fun _ => ?_)
end Go.Proofs.YtadlbegecgpaaaaDoor.S
