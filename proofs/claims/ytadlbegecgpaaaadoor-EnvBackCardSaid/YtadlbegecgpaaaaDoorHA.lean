/- Folded: Hp, Hq, PRead2. -/
import GoSem.Claim
import Derived.Laws.RangeAny
import Derived.Laws.Strings
namespace Go.Proofs.YtadlbegecgpaaaaDoor.S
open Go
/-- The pairs of runes.letters. -/
def letterR (r : Int) : Bool := [(97, 122), (65, 90), (95, 95), (192, 214), (216, 246), (248, 591), (880, 893), (895, 902), (904, 1023), (1024, 1153), (1162, 1327), (19968, 40959), (66560, 66639)].any fun p : Int × Int => decide (p.1 ≤ r) && decide (r ≤ p.2)
/-- The digit 0 of the script of a digit; 0: none. -/
def zeroR (r : Int) : Int := if 48 ≤ r ∧ r ≤ 57 then 48 else if 1632 ≤ r ∧ r ≤ 1641 then 1632 else if 65296 ≤ r ∧ r ≤ 65305 then 65296 else 0
def blankR (r : Int) : Bool := r == 32 || r == 9 || r == 10 || r == 13 || r == 160 || r == 12288
def signsL : List Int := [40, 41, 43, 45, 42, 47, 37, 38, 124, 94, 126, 60, 62, 61, 63, 58, 59, 44, 64, 172, 183, 215, 247, 8722, 8743, 8744, 8801, 8810, 8811, 8853]
def kindR (r : Int) : Int :=
  if letterR r = true then 1 else if zeroR r ≠ 0 then 2 else if blankR r = true then 3 else if r ∈ signsL then 4 else if 8320 ≤ r ∧ r ≤ 8329 then 5 else 0
def inNameR (r : Int) : Bool := kindR r == 1 || kindR r == 2 || kindR r == 5
/-- The character at a place, and its width in the text; a bad byte: 65533 and 1. -/
def dcode (s : ByteArray) (p : Nat) : Nat × Nat := Utf8.decode s p
/-- Is what stands at a place a bad byte? -/
def badAt (s : ByteArray) (p : Nat) : Bool := (dcode s p).1 == 65533 && (dcode s p).2 == 1
def widthR (s : ByteArray) (at_ : Int) : Int := if 0 ≤ at_ ∧ at_ < s.size then (if badAt s at_.toNat = true then 0 else ((dcode s at_.toNat).2 : Int)) else 0
def runeR (s : ByteArray) (at_ : Int) : Int := if 0 ≤ at_ ∧ at_ < s.size then (if badAt s at_.toNat = true then -1 else ((dcode s at_.toNat).1 : Int)) else -1
/-- The places at which a range comes by from a place on (k: at most so many), and what it finds. -/
def charsR (s : ByteArray) : Nat → Nat → List (Nat × Nat)
  | 0, _ => []
  | k + 1, p => if p < s.size then (p, (dcode s p).1) :: charsR s k (p + (dcode s p).2) else []
/-- From a place on: the first place that is a bad byte's. -/
def checkR (s : ByteArray) : Nat → Nat → Int × Int
  | 0, _ => (0, 0)
  | k + 1, p => if p < s.size then (if badAt s p = true then ((p : Int), 4) else checkR s k (p + (dcode s p).2)) else (0, 0)
/-- From a place on, n characters being read: is it a name? -/
def nameR (s : ByteArray) : Nat → Nat → Nat → Bool
  | 0, _, _ => false
  | k + 1, p, n => if p < s.size then (if n = 0 ∧ kindR (dcode s p).1 ≠ 1 then false else if inNameR (dcode s p).1 = true then nameR s k (p + (dcode s p).2) (n + 1) else false) else decide (1 ≤ n ∧ n ≤ 16)
def nameOk (s : ByteArray) : Bool := nameR s (s.size + 1) 0 0
/-- The place behind characters that hold of a test, from a place on. -/
def whileR (f : Int → Bool) (s : ByteArray) : Nat → Nat → Nat
  | 0, p => p
  | k + 1, p => if p < s.size ∧ f (dcode s p).1 = true then whileR f s k (p + (dcode s p).2) else p
def behindR (f : Int → Bool) (s : ByteArray) (p : Nat) : Nat := min s.size (whileR f s (s.size + 1) p)
/-- What utf8.DecodeRuneInString tells of a text's rest. -/
def headR (s : ByteArray) (p : Nat) : Int := if p < s.size then (dcode s p).1 else 65533
def spanR (s : ByteArray) (at_ : Int) : Int × Int :=
  if at_ < 0 ∨ (s.size : Int) < at_ then (0, 2) else if kindR (headR s at_.toNat) ≠ 1 then (0, 11) else ((behindR inNameR s at_.toNat : Int), 0)
/-- The number that digits of one script write, from a place on. -/
def valueR (z : Int) (s : ByteArray) : Nat → Nat → Nat → Nat
  | 0, _, v => v
  | k + 1, p, v => if p < s.size ∧ zeroR (dcode s p).1 = z then valueR z s k (p + (dcode s p).2) (10 * v + ((dcode s p).1 - z).toNat) else v
def numberR (s : ByteArray) (at_ : Int) : Int × Int × Int :=
  if at_ < 0 ∨ (s.size : Int) < at_ then (0, 0, 2) else
  let z := zeroR (headR s at_.toNat)
  if z = 0 then (0, 0, 11) else
  let v := valueR z s (s.size + 1) at_.toNat 0
  if 18446744073709551615 < v then (0, 0, 10) else ((v : Int), (behindR (fun r => zeroR r == z) s at_.toNat : Int), 0)
end Go.Proofs.YtadlbegecgpaaaaDoor.S
namespace Go.Proofs.YtadlbegecgpaaaaDoor.S
open Go
theorem dcode_pos (s : ByteArray) (p : Nat) (h : p < s.size) : 1 ≤ (dcode s p).2 := by
  unfold dcode
  by_cases hh : 128 ≤ (s[p]'h).toNat
  · exact (decode_high s p h hh).2
  · rw [decode_ascii s p h (by omega)]
    exact Nat.le_refl _
theorem dcode_le (s : ByteArray) (p : Nat) (h : p < s.size) : p + (dcode s p).2 ≤ s.size := by
  simp only [dcode, Utf8.decode, Bool.and_eq_true, decide_eq_true_eq, beq_iff_eq]
  repeat' split
  all_goals (simp only []; omega)
theorem dcode_four (s : ByteArray) (p : Nat) : (dcode s p).2 ≤ 4 := by
  simp only [dcode, Utf8.decode]
  repeat' split
  all_goals (simp only []; omega)
theorem get_extract (s : ByteArray) (a k : Nat) (h : a + k < s.size) : (s.extract a s.size).get! k = s.get! (a + k) := by
  have h1 : k < (s.extract a s.size).size := by rw [ByteArray.size_extract]; omega
  have e1 : (s.extract a s.size).get! k = (s.extract a s.size)[k]'h1 := by simpa using get_at (s.extract a s.size) k h1
  have e2 : s.get! (a + k) = s[a + k]'h := by simpa using get_at s (a + k) h
  rw [e1, e2]
  simp [ByteArray.getElem_extract]
theorem dcode_extract (s : ByteArray) (a p : Nat) (h : a + p < s.size) : dcode (s.extract a s.size) p = dcode s (a + p) := by
  have hs : (s.extract a s.size).size = s.size - a := by rw [ByteArray.size_extract]; omega
  have e0 := get_extract s a (p + 0) (by omega)
  have hlt : ∀ k, decide (p + k < s.size - a) = decide (a + p + k < s.size) := fun k => decide_eq_decide.2 (by omega)
  have hc : ∀ k, (decide (p + k < s.size - a) && ((s.extract a s.size).get! (p + k)).toNat / 64 == 2) = (decide (a + p + k < s.size) && (s.get! (a + p + k)).toNat / 64 == 2) := fun k => by
    by_cases hk : a + p + k < s.size
    · rw [get_extract s a (p + k) (by omega), hlt k, Nat.add_assoc]
    · rw [hlt k, decide_eq_false hk]
      rfl
  have e0' : ((s.extract a s.size).get! (p + 0)) = s.get! (a + p + 0) := by rw [e0]; rfl
  have hb : ∀ k, a + p + k < s.size → (s.extract a s.size).get! (p + k) = s.get! (a + p + k) := fun k hk => by rw [get_extract s a (p + k) (by omega), Nat.add_assoc]
  simp only [dcode, Utf8.decode, hs, hc, e0']
  by_cases c1 : (decide (a + p + 1 < s.size) && (s.get! (a + p + 1)).toNat / 64 == 2) = true
  · have k1 : a + p + 1 < s.size := by simp only [Bool.and_eq_true, decide_eq_true_eq] at c1; exact c1.1
    rw [hb 1 k1]
    by_cases c2 : (decide (a + p + 2 < s.size) && (s.get! (a + p + 2)).toNat / 64 == 2) = true
    · have k2 : a + p + 2 < s.size := by simp only [Bool.and_eq_true, decide_eq_true_eq] at c2; exact c2.1
      rw [hb 2 k2]
      by_cases c3 : (decide (a + p + 3 < s.size) && (s.get! (a + p + 3)).toNat / 64 == 2) = true
      · have k3 : a + p + 3 < s.size := by simp only [Bool.and_eq_true, decide_eq_true_eq] at c3; exact c3.1
        rw [hb 3 k3]
      · simp only [Bool.not_eq_true] at c3
        simp only [c3, Bool.and_false, Bool.false_eq_true, if_false]
    · simp only [Bool.not_eq_true] at c2
      simp only [c2, Bool.and_false, Bool.false_and, Bool.false_eq_true, if_false]
  · simp only [Bool.not_eq_true] at c1
    simp only [c1, Bool.and_false, Bool.false_and, Bool.false_eq_true, if_false]
/-- U+FFFD: a bad byte, or the character written out. -/
theorem dcode_fffd (s : ByteArray) (p : Nat) (h : (dcode s p).1 = 65533) : (dcode s p).2 = 1 ∨ ((dcode s p).2 = 3 ∧ p + 2 < s.size ∧ (s.get! p).toNat = 239 ∧ (s.get! (p + 1)).toNat = 191 ∧ (s.get! (p + 2)).toNat = 189) := by
  revert h
  simp only [dcode, Utf8.decode, Bool.and_eq_true, decide_eq_true_eq, beq_iff_eq, Nat.add_zero]
  have l0 := (s.get! p).toNat_lt
  have l1 := (s.get! (p + 1)).toNat_lt
  have l2 := (s.get! (p + 2)).toNat_lt
  have l3 := (s.get! (p + 3)).toNat_lt
  repeat' split
  all_goals first | exact fun _ => Or.inl rfl | (intro h; simp only at h ⊢; omega) | (intro h; simp only at h ⊢; refine Or.inr ⟨?_, ?_, ?_, ?_, ?_⟩ <;> first | trivial | omega)
theorem dcode_fffd_mk (s : ByteArray) (p : Nat) (h : p + 2 < s.size) (h0 : (s.get! p).toNat = 239) (h1 : (s.get! (p + 1)).toNat = 191) (h2 : (s.get! (p + 2)).toNat = 189) : dcode s p = (65533, 3) := by
  have a1 : p + 1 < s.size := by omega
  simp only [dcode, Utf8.decode, Nat.add_zero, h0, h1, h2, h, a1]
  rfl
theorem get_bang (s : ByteArray) (p : Nat) (h : p < s.size) : s.get! p = s[p]'h := by simpa using get_at s p h
theorem extract_three (s : ByteArray) (n : Nat) (h : n + 3 ≤ s.size) : (s.extract n (n + 3)).toList = [s.get! n, s.get! (n + 1), s.get! (n + 2)] := by
  have hz : (s.extract n (n + 3)).size = 3 := by rw [ByteArray.size_extract]; omega
  rw [ByteArray.toList_eq]
  refine List.ext_getElem (by rw [Array.length_toList]; exact hz) fun i h1 h2 => ?_
  have hi : i < 3 := by simpa using h2
  have e : (s.extract n (n + 3)).data.toList[i] = s.get! (n + i) := by
    rw [get_bang s (n + i) (by omega), Array.getElem_toList]
    exact ByteArray.getElem_extract (h := by rw [hz]; exact hi)
  rw [e]
  match i, hi with
  | 0, _ => rfl
  | 1, _ => rfl
  | 2, _ => rfl
theorem fffd_three (s : ByteArray) (n : Nat) (h : n + 3 ≤ s.size) (hc : (dcode s n).1 = 65533) : ((s.extract n (n + 3)).toList == [239, 191, 189]) = decide ((dcode s n).2 = 3) := by
  rw [extract_three s n h, Bool.eq_iff_iff, beq_iff_eq, decide_eq_true_eq]
  constructor
  · intro e
    simp only [List.cons.injEq, and_true] at e
    rw [dcode_fffd_mk s n (by omega) (by rw [e.1]; rfl) (by rw [e.2.1]; rfl) (by rw [e.2.2]; rfl)]
  · intro e
    rcases dcode_fffd s n hc with h1 | ⟨_, _, h1, h2, h3⟩
    · omega
    · have k1 : s.get! n = 239 := UInt8.toNat_inj.1 h1
      have k2 : s.get! (n + 1) = 191 := UInt8.toNat_inj.1 h2
      have k3 : s.get! (n + 2) = 189 := UInt8.toNat_inj.1 h3
      rw [k1, k2, k3]
end Go.Proofs.YtadlbegecgpaaaaDoor.S
namespace Go.Proofs.YtadlbegecgpaaaaDoor.S
open Go
set_option maxRecDepth 100000 in
theorem dcode_same {s t : ByteArray} {q p : Nat} (hb : ∀ k, k < (dcode s q).2 → t.get! (p + k) = s.get! (q + k)) (hp : p + (dcode s q).2 ≤ t.size) (hg : badAt s q = false) : dcode t p = dcode s q := by
  unfold badAt at hg
  have hs : ∃ c w, dcode s q = (c, w) := ⟨_, _, rfl⟩
  obtain ⟨c, w, hcw⟩ := hs
  rw [hcw] at hb hp hg
  simp only at hb hp hg
  rw [hcw]
  have hnb : ¬ (c = 65533 ∧ w = 1) := fun h => by rw [h.1, h.2] at hg; exact absurd hg (by decide)
  clear hg
  unfold dcode Utf8.decode at hcw ⊢
  simp only [Nat.add_zero] at hcw ⊢
  by_cases h0 : (s.get! q).toNat < 128
  · rw [if_pos h0] at hcw
    simp only [Prod.mk.injEq] at hcw
    obtain ⟨rfl, rfl⟩ := hcw
    have e0 := hb 0 (by omega)
    simp only [Nat.add_zero] at e0
    simp only [e0, h0, if_true]
  · rw [if_neg h0] at hcw
    by_cases h2 : ((s.get! q).toNat / 32 == 6 && (decide (q + 1 < s.size) && (s.get! (q + 1)).toNat / 64 == 2)) = true
    · rw [if_pos h2] at hcw
      split at hcw
      · simp only [Prod.mk.injEq] at hcw
        obtain ⟨hc, rfl⟩ := hcw
        have e0 := hb 0 (by omega)
        have e1 := hb 1 (by omega)
        simp only [Nat.add_zero] at e0
        have k1 : decide (p + 1 < t.size) = true := decide_eq_true (by omega)
        simp only [Bool.and_eq_true, beq_iff_eq, decide_eq_true_eq] at h2
        have h21 : ((s.get! q).toNat / 32 == 6) = true := beq_iff_eq.2 h2.1
        have h22 : ((s.get! (q + 1)).toNat / 64 == 2) = true := beq_iff_eq.2 h2.2.2
        rename_i hge
        simp only [hc] at hge
        simp only [e0, e1, h0, if_false, k1, h21, h22, Bool.and_self, if_true, hc]
        exact if_pos hge
      · simp only [Prod.mk.injEq] at hcw
        exact absurd ⟨hcw.1.symm, hcw.2.symm⟩ hnb
    · rw [if_neg h2] at hcw
      by_cases h3 : ((s.get! q).toNat / 16 == 14 && (decide (q + 1 < s.size) && (s.get! (q + 1)).toNat / 64 == 2) && (decide (q + 2 < s.size) && (s.get! (q + 2)).toNat / 64 == 2)) = true
      · rw [if_pos h3] at hcw
        split at hcw
        · simp only [Prod.mk.injEq] at hcw
          obtain ⟨hc, rfl⟩ := hcw
          have e0 := hb 0 (by omega)
          have e1 := hb 1 (by omega)
          have e2 := hb 2 (by omega)
          simp only [Nat.add_zero] at e0
          have k1 : decide (p + 1 < t.size) = true := decide_eq_true (by omega)
          have k2 : decide (p + 2 < t.size) = true := decide_eq_true (by omega)
          simp only [Bool.and_eq_true, beq_iff_eq, decide_eq_true_eq] at h3
          have h30 : ((s.get! q).toNat / 32 == 6) = false := beq_eq_false_iff_ne.2 (by omega)
          have h31 : ((s.get! q).toNat / 16 == 14) = true := beq_iff_eq.2 h3.1.1
          have h32 : ((s.get! (q + 1)).toNat / 64 == 2) = true := beq_iff_eq.2 h3.1.2.2
          have h33 : ((s.get! (q + 2)).toNat / 64 == 2) = true := beq_iff_eq.2 h3.2.2
          rename_i hge
          simp only [hc] at hge
          simp only [e0, e1, e2, h0, if_false, k1, k2, h30, h31, h32, h33, Bool.and_self, Bool.false_and, Bool.false_eq_true, if_false, if_true, hc]
          exact if_pos hge
        · simp only [Prod.mk.injEq] at hcw
          exact absurd ⟨hcw.1.symm, hcw.2.symm⟩ hnb
      · rw [if_neg h3] at hcw
        by_cases h4 : ((s.get! q).toNat / 8 == 30 && (decide (q + 1 < s.size) && (s.get! (q + 1)).toNat / 64 == 2) && (decide (q + 2 < s.size) && (s.get! (q + 2)).toNat / 64 == 2) && (decide (q + 3 < s.size) && (s.get! (q + 3)).toNat / 64 == 2)) = true
        · rw [if_pos h4] at hcw
          split at hcw
          · simp only [Prod.mk.injEq] at hcw
            obtain ⟨hc, rfl⟩ := hcw
            have e0 := hb 0 (by omega)
            have e1 := hb 1 (by omega)
            have e2 := hb 2 (by omega)
            have e3 := hb 3 (by omega)
            simp only [Nat.add_zero] at e0
            have k1 : decide (p + 1 < t.size) = true := decide_eq_true (by omega)
            have k2 : decide (p + 2 < t.size) = true := decide_eq_true (by omega)
            have k3 : decide (p + 3 < t.size) = true := decide_eq_true (by omega)
            simp only [Bool.and_eq_true, beq_iff_eq, decide_eq_true_eq] at h4
            have h40 : ((s.get! q).toNat / 32 == 6) = false := beq_eq_false_iff_ne.2 (by omega)
            have h41 : ((s.get! q).toNat / 16 == 14) = false := beq_eq_false_iff_ne.2 (by omega)
            have h42 : ((s.get! q).toNat / 8 == 30) = true := beq_iff_eq.2 h4.1.1.1
            have h43 : ((s.get! (q + 1)).toNat / 64 == 2) = true := beq_iff_eq.2 h4.1.1.2.2
            have h44 : ((s.get! (q + 2)).toNat / 64 == 2) = true := beq_iff_eq.2 h4.1.2.2
            have h45 : ((s.get! (q + 3)).toNat / 64 == 2) = true := beq_iff_eq.2 h4.2.2
            rename_i hge
            simp only [hc] at hge
            simp only [e0, e1, e2, e3, h0, if_false, k1, k2, k3, h40, h41, h42, h43, h44, h45, Bool.and_self, Bool.false_and, Bool.false_eq_true, if_false, if_true, hc]
            exact if_pos hge
          · simp only [Prod.mk.injEq] at hcw
            exact absurd ⟨hcw.1.symm, hcw.2.symm⟩ hnb
        · rw [if_neg h4] at hcw
          simp only [Prod.mk.injEq] at hcw
          exact absurd ⟨hcw.1.symm, hcw.2.symm⟩ hnb
end Go.Proofs.YtadlbegecgpaaaaDoor.S
