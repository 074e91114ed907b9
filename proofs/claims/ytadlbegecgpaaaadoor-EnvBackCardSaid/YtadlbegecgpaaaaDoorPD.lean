/- Folded: PRead1, PRead5, PRead6, PRead7, PRead8, PRead9. -/
import Derived.Test.YtadlbegecgpaaaaDoorPE
import Derived.Test.YtadlbegecgpaaaaDoorHD
import Derived.Test.YtadlbegecgpaaaaDoorG3
import Derived.Test.YtadlbegecgpaaaaDoorG4
set_option linter.unusedVariables false
namespace Go.Proofs.YtadlbegecgpaaaaDoor.S
open Go Go.RowKit Go.Proofs.YtadlbegecgpaaaaDoorW.PrintWords
end Go.Proofs.YtadlbegecgpaaaaDoor.S
namespace Go.Proofs.YtadlbegecgpaaaaDoor.S
open Go Go.RowKit Go.Proofs.YtadlbegecgpaaaaDoorW.PrintWords
end Go.Proofs.YtadlbegecgpaaaaDoor.S
namespace Go.Proofs.YtadlbegecgpaaaaDoor.S
open Go Go.RowKit Go.Proofs.YtadlbegecgpaaaaDoorW.PrintWords
end Go.Proofs.YtadlbegecgpaaaaDoor.S
namespace Go.Proofs.YtadlbegecgpaaaaDoor.S
open Go Go.RowKit Go.Proofs.YtadlbegecgpaaaaDoorW.PrintWords
end Go.Proofs.YtadlbegecgpaaaaDoor.S
namespace Go.Proofs.YtadlbegecgpaaaaDoor.S
open Go Go.RowKit Go.Proofs.YtadlbegecgpaaaaDoorW.PrintWords
theorem one_byte {x : ByteArray} (h : x.size = 1) : x = ⟨#[x.get! 0]⟩ := by
  cases x with
  | mk d =>
    obtain ⟨a, rfl⟩ := Array.size_eq_one_iff.1 h
    rfl
theorem byte_of {b : UInt8} (h : b.toNat = 61) : b = 61 := UInt8.toNat_inj.1 h
theorem eqAt_is (s : ByteArray) (p : Nat) (h : p < s.size) : eqAt s p = (bt s p == 61) := by
  have e1 : (⟨#[61]⟩ : ByteArray).size = 1 := rfl
  have hrs := rest_size s p (by omega)
  have hb : bt s p = ((s.get! p).toNat : Int) := by
    rw [← bt_at s p (by simpa using h)]
    have := get_at s p h
    simp only [Int.toNat_natCast]
    rw [show s[p] = s.get! p from by simpa using this.symm]
  have g0 := get_cut (s.extract p s.size) 0 1 0 (by omega) (by omega)
  have g1 := get_cut s p s.size 0 (by omega) (Nat.le_refl _)
  unfold eqAt
  rw [if_neg (by omega), hb, e1]
  by_cases hc : (s.get! p).toNat = 61
  · have h1 : (s.extract p s.size).extract 0 1 = ⟨#[61]⟩ := by
      have hsz : ((s.extract p s.size).extract 0 1).size = 1 := by rw [ByteArray.size_extract]; omega
      have h2 := one_byte hsz
      rw [g0, show 0 + 0 = 0 from rfl, g1, Nat.add_zero, byte_of hc] at h2
      exact h2
    rw [h1]
    rw [beq_iff_eq.2 (show ((s.get! p).toNat : Int) = 61 by omega)]
    exact beq_self_eq_true _
  · rw [beq_eq_false_iff_ne.2 (show ((s.get! p).toNat : Int) ≠ 61 by omega)]
    refine beq_eq_false_iff_ne.2 (fun h2 => hc ?_)
    have h3 := toList_inj h2
    rw [h3] at g0
    rw [show 0 + 0 = 0 from rfl, g1] at g0
    rw [Nat.add_zero] at g0
    rw [← g0]
    rfl
end Go.Proofs.YtadlbegecgpaaaaDoor.S
namespace Go.Proofs.YtadlbegecgpaaaaDoor.S
open Go Go.RowKit Go.Proofs.YtadlbegecgpaaaaDoorW.PrintWords
theorem readL_end (s : ByteArray) (n : Nat) : readL s (n + 1) s.size [] = ([], 0, 0) := by
  simp only [readL]
  rw [if_neg (by rintro (h | h); · omega
                 · exact h rfl)]
end Go.Proofs.YtadlbegecgpaaaaDoor.S
