/- Contracts of the library (decoding, numbers as texts, Join), as the shelf has them, in the printed form. Conditions: what each theorem names (texts below 2^63 bytes; the listed variables of package runes or unicode/utf8 where hGL, hGU or hGN stands). -/
import Derived.Test.YtadlbegecgpaaaaDoorK1
import Derived.Test.YtadlbegecgpaaaaDoorHq
import Derived.Test.YtadlbegecgpaaaaDoorShelf
import Derived.Lib.AppendIntMem
namespace Go.Proofs.YtadlbegecgpaaaaDoor.S
open Go Go.RowKit Go.Proofs.YtadlbegecgpaaaaDoorW.PrintWords Go.Proofs.YtadlbegecgpaaaaDoorW.PrintLast Go.Proofs.YtadlbegecgpaaaaDoorW.PrintMore
def utf8_DecodeRuneInString.f (a0 : ByteArray) : Option (Int × Int) := some ((Lib.decodeGo a0).1, (Lib.decodeGo a0).2)
theorem utf8_DecodeRuneInString.calls (a0 : ByteArray) (r1 r2 : Int) (w : World) (hGU : Kd.C kGU w GAU 1 [()]) (h : utf8_DecodeRuneInString.f a0 = some (r1, r2)) :
    Calls Tryd.prog 80 #[.string a0] w fun e w' => e = .returned (.tuple #[.int .i32 r1, .int .i64 r2]) ∧ Below w.heap.size w w' := by
  have h2 := Option.some.inj h
  injection h2 with h3 h4
  subst h3 h4
  exact Tryd.utf8_DecodeRuneInString a0 w (ghostU hGU)
def strconv_FormatInt.f (a0 a1 : Int) : Option ByteArray := if a1 = 10 ∧ -9223372036854775808 ≤ a0 ∧ a0 ≤ 9223372036854775807 then some ⟨(Lib.itoa a0).toArray⟩ else none
theorem strconv_FormatInt.calls (a0 a1 : Int) (r : ByteArray) (w : World) (hGN : Kd.C kGN w GAN 1 [()]) (h : strconv_FormatInt.f a0 a1 = some r) :
    Calls Tryd.prog 86 #[.int .i64 a0, .int .i64 a1] w fun e w' => e = .returned (.string r) ∧ Below w.heap.size w w' := by
  unfold strconv_FormatInt.f at h
  by_cases hc : a1 = 10 ∧ -9223372036854775808 ≤ a0 ∧ a0 ≤ 9223372036854775807
  · rw [if_pos hc] at h
    obtain ⟨rfl, h0, h1⟩ := hc
    obtain rfl := Option.some.inj h
    refine (Tryd.strconv_FormatInt_10 a0 h0 h1 w (ghostN hGN)).mono ?_
    rintro e w' ⟨rfl, k, os, rfl⟩
    exact ⟨rfl, Lib.below_grow _ _ (Nat.le_refl _) _ _⟩
  · rw [if_neg hc] at h
    cases h
def strings_Join.f (l0 : List ByteArray) (a1 : ByteArray) : Option ByteArray := if (Lib.join (l0.map (·.data.toList)) a1.data.toList).length ≤ 140737488355328 ∧ l0.length ≤ 140737488355328 then some ⟨(Lib.join (l0.map (·.data.toList)) a1.data.toList).toArray⟩ else none
theorem strings_Join.calls (A0 : Option Addr) (c0 : Nat) (l0 : List ByteArray) (a1 : ByteArray) (r : ByteArray) (w : World) (hr0 : Kd.C Kd.string w A0 l0.length l0) (hc0 : l0.length ≤ c0) (h : strings_Join.f l0 a1 = some r) :
    Calls Tryd.prog 53 #[.slice A0 l0.length c0, .string a1] w fun e w' => e = .returned (.string r) ∧ Below w.heap.size w w' := by
  unfold strings_Join.f at h
  by_cases hc : (Lib.join (l0.map (·.data.toList)) a1.data.toList).length ≤ 140737488355328 ∧ l0.length ≤ 140737488355328
  · rw [if_pos hc] at h
    obtain rfl := Option.some.inj h
    cases l0 with
    | nil =>
      refine (Tryd.strings_Join_none A0 c0 a1 w).mono ?_
      rintro e w' ⟨rfl, rfl⟩
      exact ⟨rfl, Below.refl _ _⟩
    | cons x l =>
      obtain ⟨ad, rfl, hcell0⟩ := hr0.2.2 (by simp)
      have hc1 : ∀ (j : Nat) y, (x :: l)[j]? = some y → w.cell? (ad.add j) = some (.string y) := fun j y hj => by
        obtain ⟨c, _, hk, hcc⟩ := hcell0 j y hj
        have hk' : c = [.string y] := hk
        subst hk'
        have h1 := hcc 0 _ rfl
        rwa [show (Kd.string).sz = 1 from rfl, Nat.mul_one, Nat.add_zero] at h1
      obtain ⟨bk, o, sp⟩ := ad
      have hsp : sp = none := by
        have h0 := hc1 0 x rfl
        cases sp with
        | none => rfl
        | some z =>
          unfold World.cell? Addr.add at h0
          simp at h0
          split at h0 <;> simp_all
      subst hsp
      simp only [add_at] at hc1
      have hbk : bk < w.heap.size := World.block_lt_of_cell? w _ (hc1 0 x rfl)
      exact Tryd.strings_Join bk o c0 (x :: l) a1 w hc1 hbk hc.2 hc0 hc.1
  · rw [if_neg hc] at h
    cases h
end Go.Proofs.YtadlbegecgpaaaaDoor.S
