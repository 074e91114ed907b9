/- Plain law: the reference's Name is the same test of a text as the program's. -/
import Derived.Test.YtadlbegecgpaaaaDoorPEnv
import Derived.Test.YtadlbegecgpaaaaDoorH8
namespace Go.Proofs.YtadlbegecgpaaaaDoor.S
open Go Go.RowKit Go.Proofs.YtadlbegecgpaaaaDoorW.PrintWords
theorem behind_is (a : Int) : sorrelref01_behind.f a = some (inNameR a) := by
  unfold sorrelref01_behind.f sorrelref01_Kind.f inNameR
  simp only [Option.bind_some]
  by_cases h1 : kindR a = 1
  · simp [h1]
  · by_cases h2 : kindR a = 2
    · simp [h2]
    · have e1 : (kindR a == 1) = false := beq_eq_false_iff_ne.2 h1
      have e2 : (kindR a == 2) = false := beq_eq_false_iff_ne.2 h2
      rw [if_neg h1, if_neg h2, e1, e2]
      rfl
theorem kind_neg1 : kindR (-1) = 0 := by decide
theorem inName_neg1 : inNameR (-1) = false := by decide
theorem runeR_in {s : ByteArray} {p : Nat} (h : p < s.size) : runeR s p = if badAt s p = true then -1 else ((dcode s p).1 : Int) := by
  unfold runeR
  rw [if_pos ⟨by omega, by omega⟩, Int.toNat_natCast]
theorem widthR_in {s : ByteArray} {p : Nat} (h : p < s.size) (hb : badAt s p = false) : widthR s p = ((dcode s p).2 : Int) := by
  unfold widthR
  rw [if_pos ⟨by omega, by omega⟩, Int.toNat_natCast, if_neg (by rw [hb]; decide)]
/-- What a name's loop asks of a character is the same whether a bad byte is told as -1 or as U+FFFD. -/
theorem kind_rune {s : ByteArray} {p : Nat} (h : p < s.size) : kindR (runeR s p) = kindR ((dcode s p).1 : Int) := by
  rw [runeR_in h]
  by_cases hb : badAt s p = true
  · rw [if_pos hb, (bad_kind hb).1]; decide
  · rw [if_neg hb]
theorem inName_rune {s : ByteArray} {p : Nat} (h : p < s.size) : inNameR (runeR s p) = inNameR ((dcode s p).1 : Int) := by
  rw [runeR_in h]
  by_cases hb : badAt s p = true
  · rw [if_pos hb, (bad_kind hb).2]; decide
  · rw [if_neg hb]
theorem inName_good {s : ByteArray} {p : Nat} (h : inNameR ((dcode s p).1 : Int) = true) : badAt s p = false := by
  cases hb : badAt s p with
  | false => rfl
  | true => rw [(bad_kind hb).2] at h; cases h
theorem name_l0 (s : ByteArray) (hs : s.size ≤ 9000000000000000000) : ∀ d p n k f, s.size - p = d → p ≤ s.size → n ≤ p → d < k → d < f → sorrelref01_Name.l0 k s (n : Int) (p : Int) = some (nameR s f p n) := by
  intro d
  induction d using Nat.strongRecOn with
  | _ d ih =>
    intro p n k f hd hp hn hk hf
    obtain ⟨k, rfl⟩ : ∃ m, k = m + 1 := ⟨k - 1, by omega⟩
    obtain ⟨f, rfl⟩ : ∃ m, f = m + 1 := ⟨f - 1, by omega⟩
    simp only [sorrelref01_Name.l0, nameR]
    by_cases h : p < s.size
    · have hw := dcode_pos s p h
      have hl := dcode_le s p h
      rw [if_pos (by omega), if_pos h]
      unfold sorrelref01_Rune.f
      rw [if_pos (by omega)]
      simp only [Option.bind_some]
      have step : inNameR ((dcode s p).1 : Int) = true → ((sorrelref01_Width.f s (p : Int)).bind fun t => sorrelref01_Name.l0 k s (wrap64 ((n : Int) + 1)) (wrap64 ((p : Int) + t))) = some (nameR s f (p + (dcode s p).2) (n + 1)) := by
        intro hi
        unfold sorrelref01_Width.f
        rw [if_pos (by omega), widthR_in h (inName_good hi)]
        simp only [Option.bind_some]
        rw [show wrap64 ((n : Int) + 1) = ((n + 1 : Nat) : Int) from by unfold wrap64; omega, show wrap64 ((p : Int) + ((dcode s p).2 : Int)) = ((p + (dcode s p).2 : Nat) : Int) from by unfold wrap64; omega]
        exact ih (d - (dcode s p).2) (by omega) _ _ k f (by omega) hl (by omega) (by omega) (by omega)
      by_cases hn0 : n = 0
      · rw [if_pos (by omega)]
        unfold sorrelref01_Kind.f
        simp only [Option.bind_some]
        rw [kind_rune h, behind_is, inName_rune h]
        simp only [Option.bind_some]
        by_cases hk1 : kindR ((dcode s p).1 : Int) = 1
        · have hc : ¬ (n = 0 ∧ kindR ((dcode s p).1 : Int) ≠ 1) := fun h2 => h2.2 hk1
          rw [if_pos hk1, if_neg hc]
          by_cases hi : inNameR ((dcode s p).1 : Int) = true
          · rw [if_pos hi, if_pos hi]
            exact step hi
          · rw [if_neg hi, if_neg hi]
        · have hc : n = 0 ∧ kindR ((dcode s p).1 : Int) ≠ 1 := ⟨hn0, hk1⟩
          rw [if_neg hk1, if_pos hc]
      · have hc : ¬ (n = 0 ∧ kindR ((dcode s p).1 : Int) ≠ 1) := fun h2 => hn0 h2.1
        rw [if_neg (by omega), behind_is, inName_rune h, if_neg hc]
        simp only [Option.bind_some]
        by_cases hi : inNameR ((dcode s p).1 : Int) = true
        · rw [if_pos hi, if_pos hi]
          exact step hi
        · rw [if_neg hi, if_neg hi]
    · rw [if_neg (by omega), if_neg h]
      by_cases hn1 : 1 ≤ n
      · rw [if_pos (by omega)]
        exact congrArg some (decide_eq_decide.2 (by omega))
      · rw [if_neg (by omega)]
        exact congrArg some (decide_eq_false (by omega)).symm
theorem refName_is (s : ByteArray) (hs : s.size ≤ 9000000000000000000) (k : Nat) (hk : s.size < k) : sorrelref01_Name.f k s = some (nameOk s) := by
  unfold sorrelref01_Name.f nameOk
  exact name_l0 s hs s.size 0 0 k _ (by omega) (by omega) (by omega) hk (by omega)
end Go.Proofs.YtadlbegecgpaaaaDoor.S
