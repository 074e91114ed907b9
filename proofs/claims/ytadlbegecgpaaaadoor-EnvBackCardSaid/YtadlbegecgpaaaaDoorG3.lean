/- G3: what the claim needs of it (cut by wip/shake.py). -/
-- Printed by a program of this session (wip/mkprint.py: the kit's printer, changed). Not trusted: Lean checks it.
import Derived.Test.YtadlbegecgpaaaaDoorK1
import Derived.Test.YtadlbegecgpaaaaDoorG1
import Derived.Test.YtadlbegecgpaaaaDoorG2
import Derived.Test.YtadlbegecgpaaaaDoorA1
import Derived.Test.YtadlbegecgpaaaaDoorE1
import Derived.Test.YtadlbegecgpaaaaDoorHC
namespace Go.Proofs.YtadlbegecgpaaaaDoor.S
open Go.RowKit Go.Proofs.YtadlbegecgpaaaaDoorW.PrintWords Go.Proofs.YtadlbegecgpaaaaDoorW.PrintLast Go.Proofs.YtadlbegecgpaaaaDoorW.PrintMore
attribute [local go_sem] max2_int min2_int max_two min_two max_three min_three max_four min_four   -- for this text's walks alone
set_option linter.unusedVariables false
set_option linter.unusedSimpArgs false
mutual
def sorrelref07_bind.j0 : Nat → ByteArray → Int → ByteArray → Bool → Option (ByteArray × Int × Int × Int)
  | 0, _, _, _, _ => none
  | k + 1, x0, x1, x9, x49 => if x49 = true then (some ((⟨#[]⟩ : ByteArray), 0, x1, 6)) else ((sorrelref07_skip.f k x0 (wrap64 (x1 + 1))).bind fun t130 => ((sorrelref01_Rune.f x0 t130).bind fun t131 => (if t131 = 45 then (sorrelref07_bind.j1 k x0 t130 x9 t130 true) else (sorrelref07_bind.j1 k x0 t130 x9 t130 (t131 == 8722)))))
def sorrelref07_bind.j1 : Nat → ByteArray → Int → ByteArray → Int → Bool → Option (ByteArray × Int × Int × Int)
  | 0, _, _, _, _, _ => none
  | k + 1, x0, x1, x9, x10, x65 => if x65 = true then ((sorrelref01_Width.f x0 x1).bind fun t132 => (sorrelref07_bind.j2 k x0 (wrap64 (x1 + t132)) x9 x10)) else (sorrelref07_bind.j2 k x0 x1 x9 x10)
def sorrelref07_bind.j2 : Nat → ByteArray → Int → ByteArray → Int → Option (ByteArray × Int × Int × Int)
  | 0, _, _, _, _ => none
  | k + 1, x0, x1, x9, x10 => (sorrelref01_Rune.f x0 x1).bind fun t133 => ((sorrelref01_Digit.f t133).bind fun bt134 => (if bt134.2 = 0 then (some ((⟨#[]⟩ : ByteArray), 0, x10, 6)) else (sorrelref07_bind.l0 k x0 x1 x9 x10 x1 bt134.2)))
def sorrelref07_bind.j4 : Nat → ByteArray → Int → ByteArray → Int → Int → Option (ByteArray × Int × Int × Int)
  | 0, _, _, _, _, _ => none
  | k + 1, x0, x1, x9, x10, x12 => if 0 ≤ x10 then (if x10 ≤ x1 then (if x1 ≤ (x0.size : Int) then ((sorrelref06_Read.f k (x0.extract (x10 : Int).toNat (x1 : Int).toNat)).bind fun bt140 => (if bt140.2 = 0 then ((sorrelref07_skip.f k x0 x1).bind fun t142 => (some (x9, bt140.1, t142, 0))) else (some ((⟨#[]⟩ : ByteArray), 0, x12, 10)))) else (none)) else (none)) else (none)
def sorrelref07_bind.l0 : Nat → ByteArray → Int → ByteArray → Int → Int → Int → Option (ByteArray × Int × Int × Int)
  | 0, _, _, _, _, _, _ => none
  | k + 1, x0, x1, x9, x10, x12, x14 => if x1 < (x0.size : Int) then ((sorrelref01_Rune.f x0 x1).bind fun t136 => ((sorrelref01_Digit.f t136).bind fun bt137 => (if bt137.2 = x14 then ((sorrelref01_Width.f x0 x1).bind fun t139 => (sorrelref07_bind.l0 k x0 (wrap64 (x1 + t139)) x9 x10 x12 x14)) else (sorrelref07_bind.j4 k x0 x1 x9 x10 x12)))) else (sorrelref07_bind.j4 k x0 x1 x9 x10 x12)
end
def sorrelref07_bind.f (k : Nat) (a0 : ByteArray) (a1 : Int) : Option (ByteArray × Int × Int × Int) := (sorrelref01_Span.f k a0 a1).bind fun bt126 => (if bt126.2 = 0 then (if 0 ≤ a1 then (if a1 ≤ bt126.1 then (if bt126.1 ≤ (a0.size : Int) then ((sorrelref01_Name.f k (a0.extract (a1 : Int).toNat (bt126.1 : Int).toNat)).bind fun t128 => (if t128 = true then ((sorrelref07_skip.f k a0 bt126.1).bind fun t129 => (if t129 ≥ (a0.size : Int) then (sorrelref07_bind.j0 k a0 t129 (a0.extract (a1 : Int).toNat (bt126.1 : Int).toNat) true) else (if 0 ≤ t129 then (if t129 < (a0.size : Int) then (sorrelref07_bind.j0 k a0 t129 (a0.extract (a1 : Int).toNat (bt126.1 : Int).toNat) ((bt a0 t129) != 61)) else (none)) else (none)))) else (some ((⟨#[]⟩ : ByteArray), 0, a1, 7)))) else (none)) else (none)) else (none)) else (some ((⟨#[]⟩ : ByteArray), 0, a1, 6)))
theorem sorrelref07_bind.mono_l : ∀ k, (∀ y0 y1 y2 y3, LeO (sorrelref07_bind.j0 k y0 y1 y2 y3) (sorrelref07_bind.j0 (k + 1) y0 y1 y2 y3)) ∧ (∀ y0 y1 y2 y3 y4, LeO (sorrelref07_bind.j1 k y0 y1 y2 y3 y4) (sorrelref07_bind.j1 (k + 1) y0 y1 y2 y3 y4)) ∧ (∀ y0 y1 y2 y3, LeO (sorrelref07_bind.j2 k y0 y1 y2 y3) (sorrelref07_bind.j2 (k + 1) y0 y1 y2 y3)) ∧ (∀ y0 y1 y2 y3 y4, LeO (sorrelref07_bind.j4 k y0 y1 y2 y3 y4) (sorrelref07_bind.j4 (k + 1) y0 y1 y2 y3 y4)) ∧ (∀ y0 y1 y2 y3 y4 y5, LeO (sorrelref07_bind.l0 k y0 y1 y2 y3 y4 y5) (sorrelref07_bind.l0 (k + 1) y0 y1 y2 y3 y4 y5))
  | 0 => ⟨fun _ _ _ _ r h => by simp [sorrelref07_bind.j0] at h, fun _ _ _ _ _ r h => by simp [sorrelref07_bind.j1] at h, fun _ _ _ _ r h => by simp [sorrelref07_bind.j2] at h, fun _ _ _ _ _ r h => by simp [sorrelref07_bind.j4] at h, fun _ _ _ _ _ _ r h => by simp [sorrelref07_bind.l0] at h⟩
  | k + 1 => by
    obtain ⟨ih0, ih1, ih2, ih3, ih4⟩ := sorrelref07_bind.mono_l k
    refine ⟨?_, ?_, ?_, ?_, ?_⟩
    · intro y0 y1 y2 y3
      unfold sorrelref07_bind.j0
      repeat' first
      | (with_reducible exact ih0 _ _ _ _)
      | (with_reducible exact ih1 _ _ _ _ _)
      | (with_reducible exact ih2 _ _ _ _)
      | (with_reducible exact ih3 _ _ _ _ _)
      | (with_reducible exact ih4 _ _ _ _ _ _)
      | (with_reducible exact sorrelref01_Name.mono _ _)
      | (with_reducible exact sorrelref01_Span.mono _ _ _)
      | (with_reducible exact sorrelref06_Read.mono _ _)
      | (with_reducible exact sorrelref07_skip.mono _ _ _)
      | (with_reducible exact LeO.refl _)
      | (with_reducible exact LeO.none _)
      | (with_reducible refine LeO.ite ?_ ?_)
      | (with_reducible refine LeO.bind ?_ (fun _ => ?_))
      | exact ih0 _ _ _ _
      | exact ih1 _ _ _ _ _
      | exact ih2 _ _ _ _
      | exact ih3 _ _ _ _ _
      | exact ih4 _ _ _ _ _ _
      | exact sorrelref01_Name.mono _ _
      | exact sorrelref01_Span.mono _ _ _
      | exact sorrelref06_Read.mono _ _
      | exact sorrelref07_skip.mono _ _ _
      | exact LeO.none _
      | refine LeO.ite ?_ ?_
      | refine LeO.bind ?_ (fun _ => ?_)
    · intro y0 y1 y2 y3 y4
      unfold sorrelref07_bind.j1
      repeat' first
      | (with_reducible exact ih0 _ _ _ _)
      | (with_reducible exact ih1 _ _ _ _ _)
      | (with_reducible exact ih2 _ _ _ _)
      | (with_reducible exact ih3 _ _ _ _ _)
      | (with_reducible exact ih4 _ _ _ _ _ _)
      | (with_reducible exact sorrelref01_Name.mono _ _)
      | (with_reducible exact sorrelref01_Span.mono _ _ _)
      | (with_reducible exact sorrelref06_Read.mono _ _)
      | (with_reducible exact sorrelref07_skip.mono _ _ _)
      | (with_reducible exact LeO.refl _)
      | (with_reducible exact LeO.none _)
      | (with_reducible refine LeO.ite ?_ ?_)
      | (with_reducible refine LeO.bind ?_ (fun _ => ?_))
      | exact ih0 _ _ _ _
      | exact ih1 _ _ _ _ _
      | exact ih2 _ _ _ _
      | exact ih3 _ _ _ _ _
      | exact ih4 _ _ _ _ _ _
      | exact sorrelref01_Name.mono _ _
      | exact sorrelref01_Span.mono _ _ _
      | exact sorrelref06_Read.mono _ _
      | exact sorrelref07_skip.mono _ _ _
      | exact LeO.none _
      | refine LeO.ite ?_ ?_
      | refine LeO.bind ?_ (fun _ => ?_)
    · intro y0 y1 y2 y3
      unfold sorrelref07_bind.j2
      repeat' first
      | (with_reducible exact ih0 _ _ _ _)
      | (with_reducible exact ih1 _ _ _ _ _)
      | (with_reducible exact ih2 _ _ _ _)
      | (with_reducible exact ih3 _ _ _ _ _)
      | (with_reducible exact ih4 _ _ _ _ _ _)
      | (with_reducible exact sorrelref01_Name.mono _ _)
      | (with_reducible exact sorrelref01_Span.mono _ _ _)
      | (with_reducible exact sorrelref06_Read.mono _ _)
      | (with_reducible exact sorrelref07_skip.mono _ _ _)
      | (with_reducible exact LeO.refl _)
      | (with_reducible exact LeO.none _)
      | (with_reducible refine LeO.ite ?_ ?_)
      | (with_reducible refine LeO.bind ?_ (fun _ => ?_))
      | exact ih0 _ _ _ _
      | exact ih1 _ _ _ _ _
      | exact ih2 _ _ _ _
      | exact ih3 _ _ _ _ _
      | exact ih4 _ _ _ _ _ _
      | exact sorrelref01_Name.mono _ _
      | exact sorrelref01_Span.mono _ _ _
      | exact sorrelref06_Read.mono _ _
      | exact sorrelref07_skip.mono _ _ _
      | exact LeO.none _
      | refine LeO.ite ?_ ?_
      | refine LeO.bind ?_ (fun _ => ?_)
    · intro y0 y1 y2 y3 y4
      unfold sorrelref07_bind.j4
      repeat' first
      | (with_reducible exact ih0 _ _ _ _)
      | (with_reducible exact ih1 _ _ _ _ _)
      | (with_reducible exact ih2 _ _ _ _)
      | (with_reducible exact ih3 _ _ _ _ _)
      | (with_reducible exact ih4 _ _ _ _ _ _)
      | (with_reducible exact sorrelref01_Name.mono _ _)
      | (with_reducible exact sorrelref01_Span.mono _ _ _)
      | (with_reducible exact sorrelref06_Read.mono _ _)
      | (with_reducible exact sorrelref07_skip.mono _ _ _)
      | (with_reducible exact LeO.refl _)
      | (with_reducible exact LeO.none _)
      | (with_reducible refine LeO.ite ?_ ?_)
      | (with_reducible refine LeO.bind ?_ (fun _ => ?_))
      | exact ih0 _ _ _ _
      | exact ih1 _ _ _ _ _
      | exact ih2 _ _ _ _
      | exact ih3 _ _ _ _ _
      | exact ih4 _ _ _ _ _ _
      | exact sorrelref01_Name.mono _ _
      | exact sorrelref01_Span.mono _ _ _
      | exact sorrelref06_Read.mono _ _
      | exact sorrelref07_skip.mono _ _ _
      | exact LeO.none _
      | refine LeO.ite ?_ ?_
      | refine LeO.bind ?_ (fun _ => ?_)
    · intro y0 y1 y2 y3 y4 y5
      unfold sorrelref07_bind.l0
      repeat' first
      | (with_reducible exact ih0 _ _ _ _)
      | (with_reducible exact ih1 _ _ _ _ _)
      | (with_reducible exact ih2 _ _ _ _)
      | (with_reducible exact ih3 _ _ _ _ _)
      | (with_reducible exact ih4 _ _ _ _ _ _)
      | (with_reducible exact sorrelref01_Name.mono _ _)
      | (with_reducible exact sorrelref01_Span.mono _ _ _)
      | (with_reducible exact sorrelref06_Read.mono _ _)
      | (with_reducible exact sorrelref07_skip.mono _ _ _)
      | (with_reducible exact LeO.refl _)
      | (with_reducible exact LeO.none _)
      | (with_reducible refine LeO.ite ?_ ?_)
      | (with_reducible refine LeO.bind ?_ (fun _ => ?_))
      | exact ih0 _ _ _ _
      | exact ih1 _ _ _ _ _
      | exact ih2 _ _ _ _
      | exact ih3 _ _ _ _ _
      | exact ih4 _ _ _ _ _ _
      | exact sorrelref01_Name.mono _ _
      | exact sorrelref01_Span.mono _ _ _
      | exact sorrelref06_Read.mono _ _
      | exact sorrelref07_skip.mono _ _ _
      | exact LeO.none _
      | refine LeO.ite ?_ ?_
      | refine LeO.bind ?_ (fun _ => ?_)
theorem sorrelref07_bind.mono : ∀ a0 a1 k, LeO (sorrelref07_bind.f k a0 a1) (sorrelref07_bind.f (k + 1) a0 a1) := by
  intro a0 a1 k
  obtain ⟨ih0, ih1, ih2, ih3, ih4⟩ := sorrelref07_bind.mono_l k
  unfold sorrelref07_bind.f
  repeat' first
      | (with_reducible exact ih0 _ _ _ _)
      | (with_reducible exact ih1 _ _ _ _ _)
      | (with_reducible exact ih2 _ _ _ _)
      | (with_reducible exact ih3 _ _ _ _ _)
      | (with_reducible exact ih4 _ _ _ _ _ _)
      | (with_reducible exact sorrelref01_Name.mono _ _)
      | (with_reducible exact sorrelref01_Span.mono _ _ _)
      | (with_reducible exact sorrelref06_Read.mono _ _)
      | (with_reducible exact sorrelref07_skip.mono _ _ _)
      | (with_reducible exact LeO.refl _)
      | (with_reducible exact LeO.none _)
      | (with_reducible refine LeO.ite ?_ ?_)
      | (with_reducible refine LeO.bind ?_ (fun _ => ?_))
      | exact ih0 _ _ _ _
      | exact ih1 _ _ _ _ _
      | exact ih2 _ _ _ _
      | exact ih3 _ _ _ _ _
      | exact ih4 _ _ _ _ _ _
      | exact sorrelref01_Name.mono _ _
      | exact sorrelref01_Span.mono _ _ _
      | exact sorrelref06_Read.mono _ _
      | exact sorrelref07_skip.mono _ _ _
      | exact LeO.none _
      | refine LeO.ite ?_ ?_
      | refine LeO.bind ?_ (fun _ => ?_)
end Go.Proofs.YtadlbegecgpaaaaDoor.S
