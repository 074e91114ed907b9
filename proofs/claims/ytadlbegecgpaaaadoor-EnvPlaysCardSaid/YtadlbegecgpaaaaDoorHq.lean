/- Plain laws on UTF-8 as the model decodes it: widths, texts cut from the front, the character U+FFFD. No program in sight. -/
import Derived.Test.YtadlbegecgpaaaaDoorHp
import Derived.Laws.Strings
namespace Go.Proofs.YtadlbegecgpaaaaDoor.S
open Go
theorem dcode_pos (s : ByteArray) (p : Nat) (h : p < s.size) : 1 ≤ (dcode s p).2 := by
  unfold dcode
  by_cases hh : 128 ≤ (s[p]'h).toNat
  · exact (decode_high s p h hh).2
  · rw [decode_ascii s p h (by omega)]
    exact Nat.le_refl _
theorem dcode_le (s : ByteArray) (p : Nat) (h : p < s.size) : p + (dcode s p).2 ≤ s.size := by
  simp only [dcode, Utf8.decode, Bool.and_eq_true, decide_eq_true_eq, beq_iff_eq]
  repeat' split
  all_goals (simp only []; omega)
theorem dcode_four (s : ByteArray) (p : Nat) : (dcode s p).2 ≤ 4 := by
  simp only [dcode, Utf8.decode]
  repeat' split
  all_goals (simp only []; omega)
theorem dcode_rune (s : ByteArray) (p : Nat) : (dcode s p).1 ≤ 2147483647 := decode_le s p
theorem get_extract (s : ByteArray) (a k : Nat) (h : a + k < s.size) : (s.extract a s.size).get! k = s.get! (a + k) := by
  have h1 : k < (s.extract a s.size).size := by rw [ByteArray.size_extract]; omega
  have e1 : (s.extract a s.size).get! k = (s.extract a s.size)[k]'h1 := by simpa using get_at (s.extract a s.size) k h1
  have e2 : s.get! (a + k) = s[a + k]'h := by simpa using get_at s (a + k) h
  rw [e1, e2]
  simp [ByteArray.getElem_extract]
theorem dcode_extract (s : ByteArray) (a p : Nat) (h : a + p < s.size) : dcode (s.extract a s.size) p = dcode s (a + p) := by
  have hs : (s.extract a s.size).size = s.size - a := by rw [ByteArray.size_extract]; omega
  have e0 := get_extract s a (p + 0) (by omega)
  have hlt : ∀ k, decide (p + k < s.size - a) = decide (a + p + k < s.size) := fun k => decide_eq_decide.2 (by omega)
  have hc : ∀ k, (decide (p + k < s.size - a) && ((s.extract a s.size).get! (p + k)).toNat / 64 == 2) = (decide (a + p + k < s.size) && (s.get! (a + p + k)).toNat / 64 == 2) := fun k => by
    by_cases hk : a + p + k < s.size
    · rw [get_extract s a (p + k) (by omega), hlt k, Nat.add_assoc]
    · rw [hlt k, decide_eq_false hk]
      rfl
  have e0' : ((s.extract a s.size).get! (p + 0)) = s.get! (a + p + 0) := by rw [e0]; rfl
  have hb : ∀ k, a + p + k < s.size → (s.extract a s.size).get! (p + k) = s.get! (a + p + k) := fun k hk => by rw [get_extract s a (p + k) (by omega), Nat.add_assoc]
  simp only [dcode, Utf8.decode, hs, hc, e0']
  by_cases c1 : (decide (a + p + 1 < s.size) && (s.get! (a + p + 1)).toNat / 64 == 2) = true
  · have k1 : a + p + 1 < s.size := by simp only [Bool.and_eq_true, decide_eq_true_eq] at c1; exact c1.1
    rw [hb 1 k1]
    by_cases c2 : (decide (a + p + 2 < s.size) && (s.get! (a + p + 2)).toNat / 64 == 2) = true
    · have k2 : a + p + 2 < s.size := by simp only [Bool.and_eq_true, decide_eq_true_eq] at c2; exact c2.1
      rw [hb 2 k2]
      by_cases c3 : (decide (a + p + 3 < s.size) && (s.get! (a + p + 3)).toNat / 64 == 2) = true
      · have k3 : a + p + 3 < s.size := by simp only [Bool.and_eq_true, decide_eq_true_eq] at c3; exact c3.1
        rw [hb 3 k3]
      · simp only [Bool.not_eq_true] at c3
        simp only [c3, Bool.and_false, Bool.false_eq_true, if_false]
    · simp only [Bool.not_eq_true] at c2
      simp only [c2, Bool.and_false, Bool.false_and, Bool.false_eq_true, if_false]
  · simp only [Bool.not_eq_true] at c1
    simp only [c1, Bool.and_false, Bool.false_and, Bool.false_eq_true, if_false]
/-- U+FFFD: a bad byte, or the character written out. -/
theorem dcode_fffd (s : ByteArray) (p : Nat) (h : (dcode s p).1 = 65533) : (dcode s p).2 = 1 ∨ ((dcode s p).2 = 3 ∧ p + 2 < s.size ∧ (s.get! p).toNat = 239 ∧ (s.get! (p + 1)).toNat = 191 ∧ (s.get! (p + 2)).toNat = 189) := by
  revert h
  simp only [dcode, Utf8.decode, Bool.and_eq_true, decide_eq_true_eq, beq_iff_eq, Nat.add_zero]
  have l0 := (s.get! p).toNat_lt
  have l1 := (s.get! (p + 1)).toNat_lt
  have l2 := (s.get! (p + 2)).toNat_lt
  have l3 := (s.get! (p + 3)).toNat_lt
  repeat' split
  all_goals first | exact fun _ => Or.inl rfl | (intro h; simp only at h ⊢; omega) | (intro h; simp only at h ⊢; refine Or.inr ⟨?_, ?_, ?_, ?_, ?_⟩ <;> first | trivial | omega)
theorem dcode_fffd_mk (s : ByteArray) (p : Nat) (h : p + 2 < s.size) (h0 : (s.get! p).toNat = 239) (h1 : (s.get! (p + 1)).toNat = 191) (h2 : (s.get! (p + 2)).toNat = 189) : dcode s p = (65533, 3) := by
  have a1 : p + 1 < s.size := by omega
  simp only [dcode, Utf8.decode, Nat.add_zero, h0, h1, h2, h, a1]
  rfl
theorem get_bang (s : ByteArray) (p : Nat) (h : p < s.size) : s.get! p = s[p]'h := by simpa using get_at s p h
theorem extract_three (s : ByteArray) (n : Nat) (h : n + 3 ≤ s.size) : (s.extract n (n + 3)).toList = [s.get! n, s.get! (n + 1), s.get! (n + 2)] := by
  have hz : (s.extract n (n + 3)).size = 3 := by rw [ByteArray.size_extract]; omega
  rw [ByteArray.toList_eq]
  refine List.ext_getElem (by rw [Array.length_toList]; exact hz) fun i h1 h2 => ?_
  have hi : i < 3 := by simpa using h2
  have e : (s.extract n (n + 3)).data.toList[i] = s.get! (n + i) := by
    rw [get_bang s (n + i) (by omega), Array.getElem_toList]
    exact ByteArray.getElem_extract (h := by rw [hz]; exact hi)
  rw [e]
  match i, hi with
  | 0, _ => rfl
  | 1, _ => rfl
  | 2, _ => rfl
theorem fffd_three (s : ByteArray) (n : Nat) (h : n + 3 ≤ s.size) (hc : (dcode s n).1 = 65533) : ((s.extract n (n + 3)).toList == [239, 191, 189]) = decide ((dcode s n).2 = 3) := by
  rw [extract_three s n h, Bool.eq_iff_iff, beq_iff_eq, decide_eq_true_eq]
  constructor
  · intro e
    simp only [List.cons.injEq, and_true] at e
    rw [dcode_fffd_mk s n (by omega) (by rw [e.1]; rfl) (by rw [e.2.1]; rfl) (by rw [e.2.2]; rfl)]
  · intro e
    rcases dcode_fffd s n hc with h1 | ⟨_, _, h1, h2, h3⟩
    · omega
    · have k1 : s.get! n = 239 := UInt8.toNat_inj.1 h1
      have k2 : s.get! (n + 1) = 191 := UInt8.toNat_inj.1 h2
      have k3 : s.get! (n + 2) = 189 := UInt8.toNat_inj.1 h3
      rw [k1, k2, k3]
end Go.Proofs.YtadlbegecgpaaaaDoor.S
