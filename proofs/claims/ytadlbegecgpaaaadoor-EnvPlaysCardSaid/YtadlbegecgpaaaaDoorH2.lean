/- runes.has: whether a character stands in a text, by a range over it. Conditions: what each theorem names (texts below 2^63 bytes; the listed variables of package runes or unicode/utf8 where hGL, hGU or hGN stands). -/
import Derived.Test.YtadlbegecgpaaaaDoorK1
import Derived.Test.YtadlbegecgpaaaaDoorHq
import Derived.Test.YtadlbegecgpaaaaDoorH1
import Derived.Lib.OthersKept
namespace Go.Proofs.YtadlbegecgpaaaaDoor.S
open Go Go.RowKit Go.Proofs.YtadlbegecgpaaaaDoorW.PrintWords Go.Proofs.YtadlbegecgpaaaaDoorW.PrintLast Go.Proofs.YtadlbegecgpaaaaDoorW.PrintMore
def hasR (s : ByteArray) (r : Int) : Nat → Nat → Bool
  | 0, _ => false
  | k + 1, p => if p < s.size then (if ((dcode s p).1 : Int) = r then true else hasR s r k (p + (dcode s p).2)) else false
def runes_has.f (a0 : ByteArray) (a1 : Int) : Option Bool := some (hasR a0 a1 (a0.size + 1) 0)
theorem ret_bool {a b : Bool} (h : a = b) : Ending.returned (.bool a) = .returned (.bool b) := by rw [h]
theorem ret_i64 {a b : Int} (h : a = b) : Ending.returned (.int .i64 a) = .returned (.int .i64 b) := by rw [h]
theorem ret_i32 {a b : Int} (h : a = b) : Ending.returned (.int .i32 a) = .returned (.int .i32 b) := by rw [h]
theorem below_iter (w : World) (s : ByteArray) (p : Nat) : Below w.heap.size w (w.iter s p) := (Below.refl _ _).alloc (Nat.le_refl _) _
set_option maxHeartbeats 1000000 in
set_option maxRecDepth 100000 in
theorem runes_has.calls (a0 : ByteArray) (a1 : Int) (r : Bool) (w : World) (h : runes_has.f a0 a1 = some r) :
    Calls Tryd.prog 112 #[.string a0, .int .i32 a1] w fun e w' => e = .returned (.bool r) ∧ Below w.heap.size w w' := by
  have HH := Aside0.mk (Option.some.inj h)
  clear h
  go_enter Tryd.func112, Tryd.ntmps112
  go_wp2
  go_loopw [] (fun wr => ∃ k p : Nat, wr = w.iter a0 p ∧ a0.size < k + p ∧ Aside0 (hasR a0 a1 k p = r)) (fun wr => a0.size - wr.iterPos w.heap.size)
  case atStart => exact ⟨a0.size + 1, 0, rfl, by omega, HH⟩
  case round =>
    clear HH
    obtain ⟨k, p, rfl, hk, HA⟩ := hrel
    by_cases hp : p < a0.size
    · have hnx := fun ty => run_next_any (P := Tryd.prog) w a0 p ty hp
      have hw1 := dcode_pos a0 p hp
      obtain ⟨k, rfl⟩ : ∃ m, k = m + 1 := ⟨k - 1, by omega⟩
      have H := HA.out
      simp only [hasR] at H
      rw [if_pos hp] at H
      change (if ((Utf8.decode a0 p).1 : Int) = a1 then _ else hasR a0 a1 k (p + (Utf8.decode a0 p).2)) = r at H
      change 1 ≤ (Utf8.decode a0 p).2 at hw1
      by_cases hr : ((Utf8.decode a0 p).1 : Int) = a1
      · rw [if_pos hr] at H
        have H2 := Aside0.mk H
        clear H HA
        have hb : (((Utf8.decode a0 p).1 : Int) == a1) = true := beq_iff_eq.2 hr
        clear hr
        go_wp2
        go_ret
        exact ⟨ret_bool H2.out, below_iter w a0 _⟩
      · rw [if_neg hr] at H
        have H2 := Aside0.mk H
        clear H HA
        have hb : (((Utf8.decode a0 p).1 : Int) == a1) = false := beq_eq_false_iff_ne.2 hr
        clear hr
        go_wp2
        go_roundw
        case rel => exact ⟨k, _, rfl, by omega, H2⟩
        case measure => rw [World.iterPos_iter, World.iterPos_iter]; omega
    · have hnx := fun ty => run_next_end (P := Tryd.prog) w a0 p ty hp
      have H2 : Aside0 (false = r) := ⟨by
        have H := HA.out
        cases k with
        | zero => exact H
        | succ k => simp only [hasR] at H; rw [if_neg hp] at H; exact H⟩
      clear HA
      go_wp2
      go_ret
      exact ⟨ret_bool H2.out, below_iter w a0 _⟩
end Go.Proofs.YtadlbegecgpaaaaDoor.S
