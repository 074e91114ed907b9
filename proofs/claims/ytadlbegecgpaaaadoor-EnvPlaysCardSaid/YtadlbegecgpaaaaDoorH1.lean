/- runes.zero: the digit 0 of the script of a digit. Conditions: what each theorem names (texts below 2^63 bytes; the listed variables of package runes or unicode/utf8 where hGL, hGU or hGN stands). -/
import Derived.Test.YtadlbegecgpaaaaDoorK1
import Derived.Test.YtadlbegecgpaaaaDoorHp
namespace Go.Proofs.YtadlbegecgpaaaaDoor.S
open Go Go.RowKit Go.Proofs.YtadlbegecgpaaaaDoorW.PrintWords Go.Proofs.YtadlbegecgpaaaaDoorW.PrintLast Go.Proofs.YtadlbegecgpaaaaDoorW.PrintMore
theorem gZeros : Tryd.prog.globalNamed "sorrel/runes.zeros" = some 1 := by kernel_rfl
theorem gLetters : Tryd.prog.globalNamed "sorrel/runes.letters" = some 0 := by kernel_rfl
theorem zeros_cell {w : World} (h : LetL w) : ∀ i, i < 3 → w.cell? ⟨1, i, none⟩ = some (.int .i32 ([48, 1632, 65296].getD i 0)) := fun i hi => by
  have h3 := h.2.cell gZeros i hi
  simpa using h3
def runes_zero.f (a0 : Int) : Option (Int × Bool) := some (zeroR a0, decide (zeroR a0 ≠ 0))
theorem ret_ib {a a' : Int} {b b' : Bool} (h : a = a') (h' : b = b') : Ending.returned (.tuple #[.int .i32 a, .bool b]) = .returned (.tuple #[.int .i32 a', .bool b']) := by rw [h, h']
theorem zero_is {a0 r1 : Int} {r2 : Bool} (h : runes_zero.f a0 = some (r1, r2)) (z : Int) (hz : zeroR a0 = z) : z = r1 ∧ decide (z ≠ 0) = r2 := by
  subst hz
  simpa [runes_zero.f] using h
set_option maxHeartbeats 1000000 in
set_option maxRecDepth 100000 in
theorem runes_zero.calls (a0 : Int) (r1 : Int) (r2 : Bool) (w : World) (hGL : Kd.C kGL w GAL 1 [()]) (h : runes_zero.f a0 = some (r1, r2)) :
    Calls Tryd.prog 110 #[.int .i32 a0] w fun e w' => e = .returned (.tuple #[.int .i32 r1, .bool r2]) ∧ Drawn0 w w' := by
  have hL := ghostL hGL
  clear hGL
  have h0 : w.cell? ⟨1, 0, none⟩ = some (.int .i32 48) := zeros_cell hL 0 (by decide)
  have h1 : w.cell? ⟨1, 1, none⟩ = some (.int .i32 1632) := zeros_cell hL 1 (by decide)
  have h2 : w.cell? ⟨1, 2, none⟩ = some (.int .i32 65296) := zeros_cell hL 2 (by decide)
  clear hL
  have ix : ∀ w : World, (Instr.index 174 (.agg #[.int .i32 48, .int .i32 1632, .int .i32 65296]) (.int .i64 0)).run Tryd.prog w = .ok (.int .i32 48) w ∧ (Instr.index 174 (.agg #[.int .i32 48, .int .i32 1632, .int .i32 65296]) (.int .i64 1)).run Tryd.prog w = .ok (.int .i32 1632) w ∧ (Instr.index 174 (.agg #[.int .i32 48, .int .i32 1632, .int .i32 65296]) (.int .i64 2)).run Tryd.prog w = .ok (.int .i32 65296) w := fun _ => ⟨by kernel_rfl, by kernel_rfl, by kernel_rfl⟩
  have ix0 := fun w => (ix w).1
  have ix1 := fun w => (ix w).2.1
  have ix2 := fun w => (ix w).2.2
  clear ix
  have HH := Aside0.mk h
  clear h
  go_enter Tryd.func110, Tryd.ntmps110
  go_wp2
  go_loop [7] (fun i => ∃ k : Nat, k ≤ 3 ∧ i = .int .i64 k ∧ Aside0 ((1 ≤ k → ¬ (48 ≤ a0 ∧ a0 ≤ 57)) ∧ (2 ≤ k → ¬ (1632 ≤ a0 ∧ a0 ≤ 1641)) ∧ (3 ≤ k → ¬ (65296 ≤ a0 ∧ a0 ≤ 65305)))) (fun i => 3 - (intOf i).toNat)
  case atStart => exact ⟨0, by omega, rfl, ⟨by omega, by omega, by omega⟩⟩
  case round =>
    obtain ⟨k, hk, rfl, hn⟩ := hrel
    have hk4 : k = 0 ∨ k = 1 ∨ k = 2 ∨ k = 3 := by omega
    rcases hk4 with rfl | rfl | rfl | rfl
    · go_wp2
      · have e := zero_is HH.out 48 (by unfold zeroR; rw [if_pos (by omega)])
        go_ret2
        exact ⟨ret_ib e.1 e.2, Drawn0.refl _⟩
      · go_round
        case rel => exact ⟨1, by omega, rfl, ⟨by omega, by omega, by omega⟩⟩
        case measure => simp [intOf]
      · go_round
        case rel => exact ⟨1, by omega, rfl, ⟨by omega, by omega, by omega⟩⟩
        case measure => simp [intOf]
    · have hn := hn.out
      go_wp2
      · have e := zero_is HH.out 1632 (by unfold zeroR; rw [if_neg (by omega), if_pos (by omega)])
        go_ret2
        exact ⟨ret_ib e.1 e.2, Drawn0.refl _⟩
      · go_round
        case rel => exact ⟨2, by omega, rfl, ⟨by omega, by omega, by omega⟩⟩
        case measure => simp [intOf]
      · go_round
        case rel => exact ⟨2, by omega, rfl, ⟨by omega, by omega, by omega⟩⟩
        case measure => simp [intOf]
    · have hn := hn.out
      go_wp2
      · have e := zero_is HH.out 65296 (by unfold zeroR; rw [if_neg (by omega), if_neg (by omega), if_pos (by omega)])
        go_ret2
        exact ⟨ret_ib e.1 e.2, Drawn0.refl _⟩
      · go_round
        case rel => exact ⟨3, by omega, rfl, ⟨by omega, by omega, by omega⟩⟩
        case measure => simp [intOf]
      · go_round
        case rel => exact ⟨3, by omega, rfl, ⟨by omega, by omega, by omega⟩⟩
        case measure => simp [intOf]
    · have hn := hn.out
      have e := zero_is HH.out 0 (by unfold zeroR; rw [if_neg (by omega), if_neg (by omega), if_neg (by omega)])
      have e2 := Aside0.mk e
      clear hn e
      go_wp2
      go_ret2
      exact ⟨ret_ib e2.out.1 e2.out.2, Drawn0.refl _⟩
end Go.Proofs.YtadlbegecgpaaaaDoor.S
