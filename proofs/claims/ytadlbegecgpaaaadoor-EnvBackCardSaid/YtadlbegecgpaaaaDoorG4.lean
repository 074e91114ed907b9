/- G4: what the claim needs of it (cut by wip/shake.py). -/
-- Printed by a program of this session (wip/mkprint.py: the kit's printer, changed). Not trusted: Lean checks it.
import Derived.Test.YtadlbegecgpaaaaDoorK1
import Derived.Test.YtadlbegecgpaaaaDoorG1
import Derived.Test.YtadlbegecgpaaaaDoorG3
import Derived.Test.YtadlbegecgpaaaaDoorE1
import Derived.Test.YtadlbegecgpaaaaDoorHD
namespace Go.Proofs.YtadlbegecgpaaaaDoor.S
open Go.RowKit Go.Proofs.YtadlbegecgpaaaaDoorW.PrintWords Go.Proofs.YtadlbegecgpaaaaDoorW.PrintLast Go.Proofs.YtadlbegecgpaaaaDoorW.PrintMore
attribute [local go_sem] max2_int min2_int max_two min_two max_three min_three max_four min_four   -- for this text's walks alone
set_option linter.unusedVariables false
set_option linter.unusedSimpArgs false
def sorrelref07_Read.l0 : Nat → ByteArray → Int → List (S63) → Option ((List (S63)) × Int × Int)
  | 0, _, _, _ => none
  | k + 1, x0, x7, x8 => (sorrelref07_bind.f k x0 x7).bind fun bt146 => (if bt146.2.2.2 = 0 then (if x8.length < 5864062014805 then ((some (x8 ++ [(⟨bt146.1, bt146.2.1⟩ : S63)] : List (S63))).bind fun y151 => (if bt146.2.2.1 = (x0.size : Int) then (some (y151, 0, 0)) else (if 0 ≤ bt146.2.2.1 then (if bt146.2.2.1 < (x0.size : Int) then (if (bt x0 bt146.2.2.1) = 44 then (if (y151.length : Int) = 64 then (some (([] : List (S63)), bt146.2.2.1, 10)) else ((sorrelref07_skip.f k x0 (wrap64 (bt146.2.2.1 + 1))).bind fun t154 => (sorrelref07_Read.l0 k x0 t154 y151))) else (some (([] : List (S63)), bt146.2.2.1, 6))) else (none)) else (none)))) else (none)) else (some (([] : List (S63)), bt146.2.2.1, bt146.2.2.2)))
def sorrelref07_Read.f (k : Nat) (a0 : ByteArray) : Option ((List (S63)) × Int × Int) := if (a0.size : Int) > 4096 then (some (([] : List (S63)), 0, 3)) else ((sorrelref01_Check.f k a0).bind fun bt143 => (if bt143.2 = 0 then ((sorrelref07_skip.f k a0 0).bind fun t145 => (if t145 = (a0.size : Int) then (some (([] : List (S63)), 0, 0)) else (sorrelref07_Read.l0 k a0 t145 ([] : List (S63))))) else (some (([] : List (S63)), bt143.1, bt143.2))))
theorem sorrelref07_Read.mono_l : ∀ k, (∀ y0 y1 y2, LeO (sorrelref07_Read.l0 k y0 y1 y2) (sorrelref07_Read.l0 (k + 1) y0 y1 y2))
  | 0 => fun _ _ _ r h => by simp [sorrelref07_Read.l0] at h
  | k + 1 => by
    have ih0 := sorrelref07_Read.mono_l k
    · intro y0 y1 y2
      unfold sorrelref07_Read.l0
      repeat' first
      | (with_reducible exact ih0 _ _ _)
      | (with_reducible exact sorrelref01_Check.mono _ _)
      | (with_reducible exact sorrelref07_bind.mono _ _ _)
      | (with_reducible exact sorrelref07_skip.mono _ _ _)
      | (with_reducible exact LeO.refl _)
      | (with_reducible exact LeO.none _)
      | (with_reducible refine LeO.ite ?_ ?_)
      | (with_reducible refine LeO.bind ?_ (fun _ => ?_))
      | exact ih0 _ _ _
      | exact sorrelref01_Check.mono _ _
      | exact sorrelref07_bind.mono _ _ _
      | exact sorrelref07_skip.mono _ _ _
      | exact LeO.none _
      | refine LeO.ite ?_ ?_
      | refine LeO.bind ?_ (fun _ => ?_)
theorem sorrelref07_Read.mono : ∀ a0 k, LeO (sorrelref07_Read.f k a0) (sorrelref07_Read.f (k + 1) a0) := by
  intro a0 k
  have ih0 := sorrelref07_Read.mono_l k
  unfold sorrelref07_Read.f
  repeat' first
      | (with_reducible exact ih0 _ _ _)
      | (with_reducible exact sorrelref01_Check.mono _ _)
      | (with_reducible exact sorrelref07_bind.mono _ _ _)
      | (with_reducible exact sorrelref07_skip.mono _ _ _)
      | (with_reducible exact LeO.refl _)
      | (with_reducible exact LeO.none _)
      | (with_reducible refine LeO.ite ?_ ?_)
      | (with_reducible refine LeO.bind ?_ (fun _ => ?_))
      | exact ih0 _ _ _
      | exact sorrelref01_Check.mono _ _
      | exact sorrelref07_bind.mono _ _ _
      | exact sorrelref07_skip.mono _ _ _
      | exact LeO.none _
      | refine LeO.ite ?_ ?_
      | refine LeO.bind ?_ (fun _ => ?_)
def sorrellaw07_EnvReads.f (k : Nat) (a0 : ByteArray) : Option (Bool) := (sorrellaw07_awake.f k).bind fun t155 => (if t155 = true then ((env_Read.f a0).bind fun bt156 => ((sorrelref07_Read.f k a0).bind fun bt161 => ((sorrellaw07_same.f k bt156.1 bt161.1).bind fun t166 => (if t166 = true then (if bt156.2.1 = bt161.2.1 then (some (bt156.2.2 == bt161.2.2)) else (some false)) else (some false))))) else (some false))
theorem sorrellaw07_EnvReads.mono : ∀ a0 k, LeO (sorrellaw07_EnvReads.f k a0) (sorrellaw07_EnvReads.f (k + 1) a0) := by
  intro a0 k
  unfold sorrellaw07_EnvReads.f
  repeat' first
      | (with_reducible exact sorrellaw07_awake.mono _)
      | (with_reducible exact sorrellaw07_same.mono _ _ _)
      | (with_reducible exact sorrelref07_Read.mono _ _)
      | (with_reducible exact LeO.refl _)
      | (with_reducible exact LeO.none _)
      | (with_reducible refine LeO.ite ?_ ?_)
      | (with_reducible refine LeO.bind ?_ (fun _ => ?_))
      | exact sorrellaw07_awake.mono _
      | exact sorrellaw07_same.mono _ _ _
      | exact sorrelref07_Read.mono _ _
      | exact LeO.none _
      | refine LeO.ite ?_ ?_
      | refine LeO.bind ?_ (fun _ => ?_)
end Go.Proofs.YtadlbegecgpaaaaDoor.S
