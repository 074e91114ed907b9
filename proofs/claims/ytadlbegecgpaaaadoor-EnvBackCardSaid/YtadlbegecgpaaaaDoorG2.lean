/- G2: what the claim needs of it (cut by wip/shake.py). -/
-- Printed by a program of this session (wip/mkprint.py: the kit's printer, changed). Not trusted: Lean checks it.
import Derived.Test.YtadlbegecgpaaaaDoorK1
import Derived.Test.YtadlbegecgpaaaaDoorG1
import Derived.Test.YtadlbegecgpaaaaDoorHC
namespace Go.Proofs.YtadlbegecgpaaaaDoor.S
open Go.RowKit Go.Proofs.YtadlbegecgpaaaaDoorW.PrintWords Go.Proofs.YtadlbegecgpaaaaDoorW.PrintLast Go.Proofs.YtadlbegecgpaaaaDoorW.PrintMore
attribute [local go_sem] max2_int min2_int max_two min_two max_three min_three max_four min_four   -- for this text's walks alone
set_option linter.unusedVariables false
set_option linter.unusedSimpArgs false
mutual
def sorrelref06_Read.j0 : Nat → ByteArray → Bool → Option (Int × Int)
  | 0, _, _ => none
  | k + 1, x0, x5 => if x5 = true then ((sorrelref01_Width.f x0 0).bind fun t119 => (if 0 ≤ t119 then (if t119 ≤ (x0.size : Int) then (sorrelref06_Read.j1 k (x0.extract (t119 : Int).toNat x0.size) x5) else (none)) else (none))) else (sorrelref06_Read.j1 k x0 x5)
def sorrelref06_Read.j1 : Nat → ByteArray → Bool → Option (Int × Int)
  | 0, _, _ => none
  | k + 1, x0, x5 => (sorrelref06_Value.f k x0).bind fun bt120 => (if bt120.2.2 = true then (if bt120.2.1 = true then (some (0, 10)) else (if bt120.1 > 9223372036854775808 then (some (0, 10)) else (if bt120.1 = 9223372036854775808 then (if x5 = true then ((sorrelref06_signed.f bt120.1 x5).bind fun t123 => (some (t123, 0))) else (some (0, 10))) else ((sorrelref06_signed.f bt120.1 x5).bind fun t124 => (some (t124, 0)))))) else (some (0, 6)))
end
def sorrelref06_Read.f (k : Nat) (a0 : ByteArray) : Option (Int × Int) := if (a0.size : Int) > 4096 then (some (0, 3)) else ((sorrelref01_Rune.f a0 0).bind fun t118 => (if t118 = 45 then (sorrelref06_Read.j0 k a0 true) else (sorrelref06_Read.j0 k a0 (t118 == 8722))))
theorem sorrelref06_Read.mono_l : ∀ k, (∀ y0 y1, LeO (sorrelref06_Read.j0 k y0 y1) (sorrelref06_Read.j0 (k + 1) y0 y1)) ∧ (∀ y0 y1, LeO (sorrelref06_Read.j1 k y0 y1) (sorrelref06_Read.j1 (k + 1) y0 y1))
  | 0 => ⟨fun _ _ r h => by simp [sorrelref06_Read.j0] at h, fun _ _ r h => by simp [sorrelref06_Read.j1] at h⟩
  | k + 1 => by
    obtain ⟨ih0, ih1⟩ := sorrelref06_Read.mono_l k
    refine ⟨?_, ?_⟩
    · intro y0 y1
      unfold sorrelref06_Read.j0
      repeat' first
      | (with_reducible exact ih0 _ _)
      | (with_reducible exact ih1 _ _)
      | (with_reducible exact sorrelref06_Value.mono _ _)
      | (with_reducible exact LeO.refl _)
      | (with_reducible exact LeO.none _)
      | (with_reducible refine LeO.ite ?_ ?_)
      | (with_reducible refine LeO.bind ?_ (fun _ => ?_))
      | exact ih0 _ _
      | exact ih1 _ _
      | exact sorrelref06_Value.mono _ _
      | exact LeO.none _
      | refine LeO.ite ?_ ?_
      | refine LeO.bind ?_ (fun _ => ?_)
    · intro y0 y1
      unfold sorrelref06_Read.j1
      repeat' first
      | (with_reducible exact ih0 _ _)
      | (with_reducible exact ih1 _ _)
      | (with_reducible exact sorrelref06_Value.mono _ _)
      | (with_reducible exact LeO.refl _)
      | (with_reducible exact LeO.none _)
      | (with_reducible refine LeO.ite ?_ ?_)
      | (with_reducible refine LeO.bind ?_ (fun _ => ?_))
      | exact ih0 _ _
      | exact ih1 _ _
      | exact sorrelref06_Value.mono _ _
      | exact LeO.none _
      | refine LeO.ite ?_ ?_
      | refine LeO.bind ?_ (fun _ => ?_)
theorem sorrelref06_Read.mono : ∀ a0 k, LeO (sorrelref06_Read.f k a0) (sorrelref06_Read.f (k + 1) a0) := by
  intro a0 k
  obtain ⟨ih0, ih1⟩ := sorrelref06_Read.mono_l k
  unfold sorrelref06_Read.f
  repeat' first
      | (with_reducible exact ih0 _ _)
      | (with_reducible exact ih1 _ _)
      | (with_reducible exact sorrelref06_Value.mono _ _)
      | (with_reducible exact LeO.refl _)
      | (with_reducible exact LeO.none _)
      | (with_reducible refine LeO.ite ?_ ?_)
      | (with_reducible refine LeO.bind ?_ (fun _ => ?_))
      | exact ih0 _ _
      | exact ih1 _ _
      | exact sorrelref06_Value.mono _ _
      | exact LeO.none _
      | refine LeO.ite ?_ ?_
      | refine LeO.bind ?_ (fun _ => ?_)
end Go.Proofs.YtadlbegecgpaaaaDoor.S
