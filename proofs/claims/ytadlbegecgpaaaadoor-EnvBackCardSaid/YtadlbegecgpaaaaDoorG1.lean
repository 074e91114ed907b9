/- G1: what the claim needs of it (cut by wip/shake.py). -/
-- Printed by a program of this session (wip/mkprint.py: the kit's printer, changed). Not trusted: Lean checks it.
import Derived.Test.YtadlbegecgpaaaaDoorK1
import Derived.Test.YtadlbegecgpaaaaDoorA1
import Derived.Test.YtadlbegecgpaaaaDoorB1
import Derived.Test.YtadlbegecgpaaaaDoorHB
import Derived.Test.YtadlbegecgpaaaaDoorHC
namespace Go.Proofs.YtadlbegecgpaaaaDoor.S
open Go.RowKit Go.Proofs.YtadlbegecgpaaaaDoorW.PrintWords Go.Proofs.YtadlbegecgpaaaaDoorW.PrintLast Go.Proofs.YtadlbegecgpaaaaDoorW.PrintMore
attribute [local go_sem] max2_int min2_int max_two min_two max_three min_three max_four min_four   -- for this text's walks alone
set_option linter.unusedVariables false
set_option linter.unusedSimpArgs false
def sorrelref01_Check.l0 : Nat → ByteArray → Int → Option (Int × Int)
  | 0, _, _ => none
  | k + 1, x0, x4 => if x4 < (x0.size : Int) then ((sorrelref01_Width.f x0 x4).bind fun t101 => (if t101 = 0 then (some (x4, 4)) else (sorrelref01_Check.l0 k x0 (wrap64 (x4 + t101))))) else (some (0, 0))
def sorrelref01_Check.f (k : Nat) (a0 : ByteArray) : Option (Int × Int) := sorrelref01_Check.l0 k a0 0
theorem sorrelref01_Check.mono_l : ∀ k, (∀ y0 y1, LeO (sorrelref01_Check.l0 k y0 y1) (sorrelref01_Check.l0 (k + 1) y0 y1))
  | 0 => fun _ _ r h => by simp [sorrelref01_Check.l0] at h
  | k + 1 => by
    have ih0 := sorrelref01_Check.mono_l k
    · intro y0 y1
      unfold sorrelref01_Check.l0
      repeat' first
      | (with_reducible exact ih0 _ _)
      | (with_reducible exact LeO.refl _)
      | (with_reducible exact LeO.none _)
      | (with_reducible refine LeO.ite ?_ ?_)
      | (with_reducible refine LeO.bind ?_ (fun _ => ?_))
      | exact ih0 _ _
      | exact LeO.none _
      | refine LeO.ite ?_ ?_
      | refine LeO.bind ?_ (fun _ => ?_)
theorem sorrelref01_Check.mono : ∀ a0 k, LeO (sorrelref01_Check.f k a0) (sorrelref01_Check.f (k + 1) a0) := by
  intro a0 k
  have ih0 := sorrelref01_Check.mono_l k
  unfold sorrelref01_Check.f
  repeat' first
      | (with_reducible exact ih0 _ _)
      | (with_reducible exact LeO.refl _)
      | (with_reducible exact LeO.none _)
      | (with_reducible refine LeO.ite ?_ ?_)
      | (with_reducible refine LeO.bind ?_ (fun _ => ?_))
      | exact ih0 _ _
      | exact LeO.none _
      | refine LeO.ite ?_ ?_
      | refine LeO.bind ?_ (fun _ => ?_)
def sorrelref07_skip.l0 : Nat → ByteArray → Int → Option (Int)
  | 0, _, _ => none
  | k + 1, x0, x1 => if x1 < (x0.size : Int) then ((sorrelref01_Rune.f x0 x1).bind fun t102 => ((sorrelref01_Kind.f t102).bind fun t103 => (if t103 = 3 then ((sorrelref01_Width.f x0 x1).bind fun t104 => (sorrelref07_skip.l0 k x0 (wrap64 (x1 + t104)))) else (some x1)))) else (some x1)
def sorrelref07_skip.f (k : Nat) (a0 : ByteArray) (a1 : Int) : Option (Int) := sorrelref07_skip.l0 k a0 a1
theorem sorrelref07_skip.mono_l : ∀ k, (∀ y0 y1, LeO (sorrelref07_skip.l0 k y0 y1) (sorrelref07_skip.l0 (k + 1) y0 y1))
  | 0 => fun _ _ r h => by simp [sorrelref07_skip.l0] at h
  | k + 1 => by
    have ih0 := sorrelref07_skip.mono_l k
    · intro y0 y1
      unfold sorrelref07_skip.l0
      repeat' first
      | (with_reducible exact ih0 _ _)
      | (with_reducible exact LeO.refl _)
      | (with_reducible exact LeO.none _)
      | (with_reducible refine LeO.ite ?_ ?_)
      | (with_reducible refine LeO.bind ?_ (fun _ => ?_))
      | exact ih0 _ _
      | exact LeO.none _
      | refine LeO.ite ?_ ?_
      | refine LeO.bind ?_ (fun _ => ?_)
theorem sorrelref07_skip.mono : ∀ a0 a1 k, LeO (sorrelref07_skip.f k a0 a1) (sorrelref07_skip.f (k + 1) a0 a1) := by
  intro a0 a1 k
  have ih0 := sorrelref07_skip.mono_l k
  unfold sorrelref07_skip.f
  repeat' first
      | (with_reducible exact ih0 _ _)
      | (with_reducible exact LeO.refl _)
      | (with_reducible exact LeO.none _)
      | (with_reducible refine LeO.ite ?_ ?_)
      | (with_reducible refine LeO.bind ?_ (fun _ => ?_))
      | exact ih0 _ _
      | exact LeO.none _
      | refine LeO.ite ?_ ?_
      | refine LeO.bind ?_ (fun _ => ?_)
mutual
def sorrelref01_Span.j0 : Nat → ByteArray → Int → Bool → Option (Int × Int)
  | 0, _, _, _ => none
  | k + 1, x0, x1, x13 => if x13 = true then (some (0, 2)) else ((sorrelref01_Rune.f x0 x1).bind fun t105 => ((sorrelref01_Kind.f t105).bind fun t106 => (if t106 = 1 then (sorrelref01_Span.l0 k x0 x1) else (some (0, 11)))))
def sorrelref01_Span.l0 : Nat → ByteArray → Int → Option (Int × Int)
  | 0, _, _ => none
  | k + 1, x0, x1 => if x1 < (x0.size : Int) then ((sorrelref01_Rune.f x0 x1).bind fun t107 => ((sorrelref01_behind.f t107).bind fun t108 => (if t108 = true then ((sorrelref01_Width.f x0 x1).bind fun t109 => (sorrelref01_Span.l0 k x0 (wrap64 (x1 + t109)))) else (some (x1, 0))))) else (some (x1, 0))
end
def sorrelref01_Span.f (k : Nat) (a0 : ByteArray) (a1 : Int) : Option (Int × Int) := if a1 < 0 then (sorrelref01_Span.j0 k a0 a1 true) else (sorrelref01_Span.j0 k a0 a1 (decide (a1 > (a0.size : Int))))
theorem sorrelref01_Span.mono_l : ∀ k, (∀ y0 y1 y2, LeO (sorrelref01_Span.j0 k y0 y1 y2) (sorrelref01_Span.j0 (k + 1) y0 y1 y2)) ∧ (∀ y0 y1, LeO (sorrelref01_Span.l0 k y0 y1) (sorrelref01_Span.l0 (k + 1) y0 y1))
  | 0 => ⟨fun _ _ _ r h => by simp [sorrelref01_Span.j0] at h, fun _ _ r h => by simp [sorrelref01_Span.l0] at h⟩
  | k + 1 => by
    obtain ⟨ih0, ih1⟩ := sorrelref01_Span.mono_l k
    refine ⟨?_, ?_⟩
    · intro y0 y1 y2
      unfold sorrelref01_Span.j0
      repeat' first
      | (with_reducible exact ih0 _ _ _)
      | (with_reducible exact ih1 _ _)
      | (with_reducible exact LeO.refl _)
      | (with_reducible exact LeO.none _)
      | (with_reducible refine LeO.ite ?_ ?_)
      | (with_reducible refine LeO.bind ?_ (fun _ => ?_))
      | exact ih0 _ _ _
      | exact ih1 _ _
      | exact LeO.none _
      | refine LeO.ite ?_ ?_
      | refine LeO.bind ?_ (fun _ => ?_)
    · intro y0 y1
      unfold sorrelref01_Span.l0
      repeat' first
      | (with_reducible exact ih0 _ _ _)
      | (with_reducible exact ih1 _ _)
      | (with_reducible exact LeO.refl _)
      | (with_reducible exact LeO.none _)
      | (with_reducible refine LeO.ite ?_ ?_)
      | (with_reducible refine LeO.bind ?_ (fun _ => ?_))
      | exact ih0 _ _ _
      | exact ih1 _ _
      | exact LeO.none _
      | refine LeO.ite ?_ ?_
      | refine LeO.bind ?_ (fun _ => ?_)
theorem sorrelref01_Span.mono : ∀ a0 a1 k, LeO (sorrelref01_Span.f k a0 a1) (sorrelref01_Span.f (k + 1) a0 a1) := by
  intro a0 a1 k
  obtain ⟨ih0, ih1⟩ := sorrelref01_Span.mono_l k
  unfold sorrelref01_Span.f
  repeat' first
      | (with_reducible exact ih0 _ _ _)
      | (with_reducible exact ih1 _ _)
      | (with_reducible exact LeO.refl _)
      | (with_reducible exact LeO.none _)
      | (with_reducible refine LeO.ite ?_ ?_)
      | (with_reducible refine LeO.bind ?_ (fun _ => ?_))
      | exact ih0 _ _ _
      | exact ih1 _ _
      | exact LeO.none _
      | refine LeO.ite ?_ ?_
      | refine LeO.bind ?_ (fun _ => ?_)
def sorrelref06_Value.l0 : Nat → ByteArray → Int → Bool → Int → Int → Option (Int × Bool × Bool)
  | 0, _, _, _, _, _ => none
  | k + 1, x0, x2, x3, x6, x7 => if x7 < (x0.size : Int) then ((sorrelref01_Rune.f x0 x7).bind fun t113 => ((sorrelref01_Digit.f t113).bind fun bt114 => (if bt114.2 = x6 then (if x2 > 1000000000000000000 then ((sorrelref01_Width.f x0 x7).bind fun t116 => (sorrelref06_Value.l0 k x0 (IntKind.u64.wrap ((IntKind.u64.wrap (10 * x2)) + (IntKind.u64.wrap (bt114.1)))) true x6 (wrap64 (x7 + t116)))) else ((sorrelref01_Width.f x0 x7).bind fun t117 => (sorrelref06_Value.l0 k x0 (IntKind.u64.wrap ((IntKind.u64.wrap (10 * x2)) + (IntKind.u64.wrap (bt114.1)))) x3 x6 (wrap64 (x7 + t117))))) else (some (0, false, false))))) else (some (x2, x3, true))
def sorrelref06_Value.f (k : Nat) (a0 : ByteArray) : Option (Int × Bool × Bool) := (sorrelref01_Rune.f a0 0).bind fun t110 => ((sorrelref01_Digit.f t110).bind fun bt111 => (if bt111.2 = 0 then (some (0, false, false)) else (sorrelref06_Value.l0 k a0 0 false bt111.2 0)))
theorem sorrelref06_Value.mono_l : ∀ k, (∀ y0 y1 y2 y3 y4, LeO (sorrelref06_Value.l0 k y0 y1 y2 y3 y4) (sorrelref06_Value.l0 (k + 1) y0 y1 y2 y3 y4))
  | 0 => fun _ _ _ _ _ r h => by simp [sorrelref06_Value.l0] at h
  | k + 1 => by
    have ih0 := sorrelref06_Value.mono_l k
    · intro y0 y1 y2 y3 y4
      unfold sorrelref06_Value.l0
      repeat' first
      | (with_reducible exact ih0 _ _ _ _ _)
      | (with_reducible exact LeO.refl _)
      | (with_reducible exact LeO.none _)
      | (with_reducible refine LeO.ite ?_ ?_)
      | (with_reducible refine LeO.bind ?_ (fun _ => ?_))
      | exact ih0 _ _ _ _ _
      | exact LeO.none _
      | refine LeO.ite ?_ ?_
      | refine LeO.bind ?_ (fun _ => ?_)
theorem sorrelref06_Value.mono : ∀ a0 k, LeO (sorrelref06_Value.f k a0) (sorrelref06_Value.f (k + 1) a0) := by
  intro a0 k
  have ih0 := sorrelref06_Value.mono_l k
  unfold sorrelref06_Value.f
  repeat' first
      | (with_reducible exact ih0 _ _ _ _ _)
      | (with_reducible exact LeO.refl _)
      | (with_reducible exact LeO.none _)
      | (with_reducible refine LeO.ite ?_ ?_)
      | (with_reducible refine LeO.bind ?_ (fun _ => ?_))
      | exact ih0 _ _ _ _ _
      | exact LeO.none _
      | refine LeO.ite ?_ ?_
      | refine LeO.bind ?_ (fun _ => ?_)
def sorrelref06_signed.f (a0 : Int) (a1 : Bool) : Option (Int) := if a1 = true then (some (wrap64 (IntKind.u64.wrap (-a0)))) else (some (wrap64 (a0)))
end Go.Proofs.YtadlbegecgpaaaaDoor.S
