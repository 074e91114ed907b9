/- F2: what the claim needs of it (cut by wip/shake.py). -/
-- Printed by a program of this session (wip/mkprint.py: the kit's printer, changed). Not trusted: Lean checks it.
import Derived.Test.YtadlbegecgpaaaaDoorF0
import Derived.Test.YtadlbegecgpaaaaDoorF1
import Derived.Test.YtadlbegecgpaaaaDoorE1
namespace Go.Proofs.YtadlbegecgpaaaaDoor.S
open Go.RowKit Go.Proofs.YtadlbegecgpaaaaDoorW.PrintWords Go.Proofs.YtadlbegecgpaaaaDoorW.PrintLast Go.Proofs.YtadlbegecgpaaaaDoorW.PrintMore
attribute [local go_sem] max2_int min2_int max_two min_two max_three min_three max_four min_four   -- for this text's walks alone
set_option linter.unusedVariables false
set_option linter.unusedSimpArgs false
def sorrelref06_Text.l0 : Nat → Int → ByteArray → Int → Option (ByteArray)
  | 0, _, _, _ => none
  | k + 1, x0, x3, x4 => if x4 > 0 then ((some (([(IntKind.u64.wrap (48 + (Int.tmod x4 10))) % 256] : List Int) : List Int)).bind fun y125 => (if (strOfNums y125).size + x3.size ≤ 9223372036854775807 then (sorrelref06_Text.l0 k x0 ((strOfNums y125) ++ x3) (IntKind.u64.wrap (Int.tdiv x4 10))) else (none))) else (if x3.toList = ([] : List UInt8) then ((some (([(IntKind.u64.wrap (48 + (Int.tmod x4 10))) % 256] : List Int) : List Int)).bind fun y128 => (if (strOfNums y128).size + x3.size ≤ 9223372036854775807 then (sorrelref06_Text.l0 k x0 ((strOfNums y128) ++ x3) (IntKind.u64.wrap (Int.tdiv x4 10))) else (none))) else (if x0 < 0 then (if 1 + x3.size ≤ 9223372036854775807 then (some ((⟨#[45]⟩ : ByteArray) ++ x3)) else (none)) else (some x3)))
def sorrelref06_Text.f (k : Nat) (a0 : Int) : Option (ByteArray) := (sorrelref06_size.f a0).bind fun t124 => (sorrelref06_Text.l0 k a0 (⟨#[]⟩ : ByteArray) t124)
theorem sorrelref06_Text.mono_l : ∀ k, (∀ y0 y1 y2, LeO (sorrelref06_Text.l0 k y0 y1 y2) (sorrelref06_Text.l0 (k + 1) y0 y1 y2))
  | 0 => fun _ _ _ r h => by simp [sorrelref06_Text.l0] at h
  | k + 1 => by
    have ih0 := sorrelref06_Text.mono_l k
    · intro y0 y1 y2
      unfold sorrelref06_Text.l0
      repeat' first
      | (with_reducible exact ih0 _ _ _)
      | (with_reducible exact LeO.refl _)
      | (with_reducible exact LeO.none _)
      | (with_reducible refine LeO.ite ?_ ?_)
      | (with_reducible refine LeO.bind ?_ (fun _ => ?_))
      | exact ih0 _ _ _
      | exact LeO.none _
      | refine LeO.ite ?_ ?_
      | refine LeO.bind ?_ (fun _ => ?_)
theorem sorrelref06_Text.mono : ∀ a0 k, LeO (sorrelref06_Text.f k a0) (sorrelref06_Text.f (k + 1) a0) := by
  intro a0 k
  have ih0 := sorrelref06_Text.mono_l k
  unfold sorrelref06_Text.f
  repeat' first
      | (with_reducible exact ih0 _ _ _)
      | (with_reducible exact LeO.refl _)
      | (with_reducible exact LeO.none _)
      | (with_reducible refine LeO.ite ?_ ?_)
      | (with_reducible refine LeO.bind ?_ (fun _ => ?_))
      | exact ih0 _ _ _
      | exact LeO.none _
      | refine LeO.ite ?_ ?_
      | refine LeO.bind ?_ (fun _ => ?_)
mutual
def sorrelref07_Text.l0 : Nat → List (S63) → Int → Option (ByteArray × Int)
  | 0, _, _ => none
  | k + 1, x0, x4 => if x4 < (x0.length : Int) then (if 0 ≤ x4 then ((sorrelref01_Name.f k ((rd_T63 x0 x4).f0)).bind fun t132 => (if t132 = true then (sorrelref07_Text.l0 k x0 (wrap64 (x4 + 1))) else (some ((⟨#[]⟩ : ByteArray), 7)))) else (none)) else (if (x0.length : Int) > 64 then (some ((⟨#[]⟩ : ByteArray), 10)) else (sorrelref07_Text.l1 k x0 (⟨#[]⟩ : ByteArray) 0))
def sorrelref07_Text.l1 : Nat → List (S63) → ByteArray → Int → Option (ByteArray × Int)
  | 0, _, _, _ => none
  | k + 1, x0, x5, x6 => if x6 < (x0.length : Int) then (if x6 > 0 then (if x5.size + 2 ≤ 9223372036854775807 then (if 0 ≤ x6 then (if x5.size + 2 + ((rd_T63 x0 x6).f0).size ≤ 9223372036854775807 then (if x5.size + 2 + (((rd_T63 x0 x6).f0).size) + 1 ≤ 9223372036854775807 then ((sorrelref06_Text.f k ((rd_T63 x0 x6).f1)).bind fun t135 => (if x5.size + 2 + (((rd_T63 x0 x6).f0).size) + 1 + t135.size ≤ 9223372036854775807 then (sorrelref07_Text.l1 k x0 ((((x5 ++ (⟨#[44, 32]⟩ : ByteArray)) ++ ((rd_T63 x0 x6).f0)) ++ (⟨#[61]⟩ : ByteArray)) ++ t135) (wrap64 (x6 + 1))) else (none))) else (none)) else (none)) else (none)) else (none)) else (if 0 ≤ x6 then (if x5.size + ((rd_T63 x0 x6).f0).size ≤ 9223372036854775807 then (if x5.size + (((rd_T63 x0 x6).f0).size) + 1 ≤ 9223372036854775807 then ((sorrelref06_Text.f k ((rd_T63 x0 x6).f1)).bind fun t138 => (if x5.size + (((rd_T63 x0 x6).f0).size) + 1 + t138.size ≤ 9223372036854775807 then (sorrelref07_Text.l1 k x0 (((x5 ++ ((rd_T63 x0 x6).f0)) ++ (⟨#[61]⟩ : ByteArray)) ++ t138) (wrap64 (x6 + 1))) else (none))) else (none)) else (none)) else (none))) else (some (x5, 0))
end
def sorrelref07_Text.f (k : Nat) (l0 : List (S63)) : Option (ByteArray × Int) := sorrelref07_Text.l0 k l0 0
theorem sorrelref07_Text.mono_l : ∀ k, (∀ y0 y1, LeO (sorrelref07_Text.l0 k y0 y1) (sorrelref07_Text.l0 (k + 1) y0 y1)) ∧ (∀ y0 y1 y2, LeO (sorrelref07_Text.l1 k y0 y1 y2) (sorrelref07_Text.l1 (k + 1) y0 y1 y2))
  | 0 => ⟨fun _ _ r h => by simp [sorrelref07_Text.l0] at h, fun _ _ _ r h => by simp [sorrelref07_Text.l1] at h⟩
  | k + 1 => by
    obtain ⟨ih0, ih1⟩ := sorrelref07_Text.mono_l k
    refine ⟨?_, ?_⟩
    · intro y0 y1
      unfold sorrelref07_Text.l0
      repeat' first
      | (with_reducible exact ih0 _ _)
      | (with_reducible exact ih1 _ _ _)
      | (with_reducible exact sorrelref01_Name.mono _ _)
      | (with_reducible exact sorrelref06_Text.mono _ _)
      | (with_reducible exact LeO.refl _)
      | (with_reducible exact LeO.none _)
      | (with_reducible refine LeO.ite ?_ ?_)
      | (with_reducible refine LeO.bind ?_ (fun _ => ?_))
      | exact ih0 _ _
      | exact ih1 _ _ _
      | exact sorrelref01_Name.mono _ _
      | exact sorrelref06_Text.mono _ _
      | exact LeO.none _
      | refine LeO.ite ?_ ?_
      | refine LeO.bind ?_ (fun _ => ?_)
    · intro y0 y1 y2
      unfold sorrelref07_Text.l1
      repeat' first
      | (with_reducible exact ih0 _ _)
      | (with_reducible exact ih1 _ _ _)
      | (with_reducible exact sorrelref01_Name.mono _ _)
      | (with_reducible exact sorrelref06_Text.mono _ _)
      | (with_reducible exact LeO.refl _)
      | (with_reducible exact LeO.none _)
      | (with_reducible refine LeO.ite ?_ ?_)
      | (with_reducible refine LeO.bind ?_ (fun _ => ?_))
      | exact ih0 _ _
      | exact ih1 _ _ _
      | exact sorrelref01_Name.mono _ _
      | exact sorrelref06_Text.mono _ _
      | exact LeO.none _
      | refine LeO.ite ?_ ?_
      | refine LeO.bind ?_ (fun _ => ?_)
theorem sorrelref07_Text.mono : ∀ a0 k, LeO (sorrelref07_Text.f k a0) (sorrelref07_Text.f (k + 1) a0) := by
  intro a0 k
  obtain ⟨ih0, ih1⟩ := sorrelref07_Text.mono_l k
  unfold sorrelref07_Text.f
  repeat' first
      | (with_reducible exact ih0 _ _)
      | (with_reducible exact ih1 _ _ _)
      | (with_reducible exact sorrelref01_Name.mono _ _)
      | (with_reducible exact sorrelref06_Text.mono _ _)
      | (with_reducible exact LeO.refl _)
      | (with_reducible exact LeO.none _)
      | (with_reducible refine LeO.ite ?_ ?_)
      | (with_reducible refine LeO.bind ?_ (fun _ => ?_))
      | exact ih0 _ _
      | exact ih1 _ _ _
      | exact sorrelref01_Name.mono _ _
      | exact sorrelref06_Text.mono _ _
      | exact LeO.none _
      | refine LeO.ite ?_ ?_
      | refine LeO.bind ?_ (fun _ => ?_)
end Go.Proofs.YtadlbegecgpaaaaDoor.S
