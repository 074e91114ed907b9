/- Folded: PEnv, PName. -/
import Derived.Test.YtadlbegecgpaaaaDoorE1
import Derived.Test.YtadlbegecgpaaaaDoorHC
/- Plain laws on environments: what Get and Set, as printed from the program, come to; what was set is got, all else is as it was. -/
namespace Go.Proofs.YtadlbegecgpaaaaDoor.S
open Go Go.RowKit Go.Proofs.YtadlbegecgpaaaaDoorW.PrintWords
/-- The name of the bind at a place, byte by byte. -/
def nmAt (l : List S63) (j : Nat) : List UInt8 := (l.getD j z63).f0.toList
def valAt (l : List S63) (j : Nat) : Int := (l.getD j z63).f1
theorem rd_nat (l : List S63) (j : Nat) : rd_T63 l (j : Int) = l.getD j z63 := by unfold rd_T63; rw [Int.toNat_natCast]
def lastD (l : List S63) (nm : List UInt8) : Nat → Int
  | 0 => -1
  | n + 1 => if nmAt l n = nm then (n : Int) else lastD l nm n
def lastR (l : List S63) (nm : ByteArray) : Int := lastD l nm.toList l.length
theorem last_l0 (l : List S63) (nm : ByteArray) (hl : l.length ≤ 9000000000000000000) : ∀ n k, n ≤ l.length → n < k → env_last.l0 k l nm ((n : Int) - 1) = some (lastD l nm.toList n)
  | 0, k, _, hk => by
    obtain ⟨k, rfl⟩ : ∃ m, k = m + 1 := ⟨k - 1, by omega⟩
    simp only [env_last.l0]
    rw [if_neg (by omega)]
    rfl
  | n + 1, k, hn, hk => by
    obtain ⟨k, rfl⟩ : ∃ m, k = m + 1 := ⟨k - 1, by omega⟩
    have e : ((n + 1 : Nat) : Int) - 1 = n := by omega
    rw [e]
    simp only [env_last.l0, lastD]
    rw [if_pos (by omega), if_pos (by omega), if_pos (by omega), rd_nat]
    by_cases h : nmAt l n = nm.toList
    · rw [if_pos h]
      exact if_pos h
    · rw [if_neg h]
      refine (if_neg h).trans ?_
      rw [show wrap64 ((n : Int) - 1) = (n : Int) - 1 from by unfold wrap64; omega]
      exact last_l0 l nm hl n k (by omega) (by omega)
theorem last_is (l : List S63) (nm : ByteArray) (hl : l.length ≤ 9000000000000000000) (k : Nat) (hk : l.length < k) : env_last.f k l nm = some (lastR l nm) := by
  unfold env_last.f lastR
  rw [show wrap64 ((l.length : Int) - 1) = (l.length : Int) - 1 from by unfold wrap64; omega]
  exact last_l0 l nm hl _ k (Nat.le_refl _) hk
theorem lastD_spec (l : List S63) (nm : List UInt8) : ∀ n, (lastD l nm n = -1 ∧ ∀ j, j < n → nmAt l j ≠ nm) ∨ ∃ i : Nat, i < n ∧ lastD l nm n = i ∧ nmAt l i = nm ∧ ∀ j, i < j → j < n → nmAt l j ≠ nm
  | 0 => .inl ⟨rfl, fun j h => by omega⟩
  | n + 1 => by
    simp only [lastD]
    by_cases h : nmAt l n = nm
    · rw [if_pos h]
      exact .inr ⟨n, by omega, rfl, h, fun j h1 h2 => by omega⟩
    · rw [if_neg h]
      rcases lastD_spec l nm n with ⟨h1, h2⟩ | ⟨i, h1, h2, h3, h4⟩
      · refine .inl ⟨h1, fun j hj => ?_⟩
        by_cases e : j = n
        · subst e; exact h
        · exact h2 j (by omega)
      · refine .inr ⟨i, by omega, h2, h3, fun j hj1 hj2 => ?_⟩
        by_cases e : j = n
        · subst e; exact h
        · exact h4 j hj1 (by omega)
theorem lastD_none {l : List S63} {nm : List UInt8} {n : Nat} (h : ∀ j, j < n → nmAt l j ≠ nm) : lastD l nm n = -1 := by
  rcases lastD_spec l nm n with ⟨h1, _⟩ | ⟨i, h1, _, h3, _⟩
  · exact h1
  · exact absurd h3 (h i h1)
theorem lastD_some {l : List S63} {nm : List UInt8} {n i : Nat} (hi : i < n) (h : nmAt l i = nm) (h2 : ∀ j, i < j → j < n → nmAt l j ≠ nm) : lastD l nm n = i := by
  rcases lastD_spec l nm n with ⟨_, h3⟩ | ⟨i', h1, h4, h3, h5⟩
  · exact absurd h (h3 i hi)
  · rw [h4]
    rcases Nat.lt_trichotomy i i' with e | e | e
    · exact absurd h3 (h2 i' e h1)
    · rw [e]
    · exact absurd h (h5 i e hi)
theorem lastD_same {l l' : List S63} {nm : List UInt8} : ∀ {n : Nat}, (∀ j, j < n → nmAt l' j = nmAt l j) → lastD l' nm n = lastD l nm n
  | 0, _ => rfl
  | n + 1, h => by
    simp only [lastD]
    rw [h n (by omega), lastD_same (fun j hj => h j (by omega))]
def getR (l : List S63) (nm : ByteArray) : Int := if 0 ≤ lastR l nm then valAt l (lastR l nm).toNat else 0
theorem lastR_lt (l : List S63) (nm : ByteArray) : lastR l nm < l.length := by
  rcases lastD_spec l nm.toList l.length with ⟨h, _⟩ | ⟨i, h, h2, _⟩
  · unfold lastR; omega
  · unfold lastR; omega
theorem lastR_ge (l : List S63) (nm : ByteArray) : -1 ≤ lastR l nm := by
  rcases lastD_spec l nm.toList l.length with ⟨h, _⟩ | ⟨i, h, h2, _⟩
  · unfold lastR; omega
  · unfold lastR; omega
theorem get_is (l : List S63) (nm : ByteArray) (hl : l.length ≤ 9000000000000000000) (k : Nat) (hk : l.length < k) : env_Get.f k l nm = some (getR l nm) := by
  unfold env_Get.f getR
  rw [last_is l nm hl k hk]
  simp only [Option.bind_some]
  have h1 := lastR_lt l nm
  by_cases h : 0 ≤ lastR l nm
  · rw [if_pos h, if_pos h, if_pos h1, if_pos h]
    rfl
  · rw [if_neg h, if_neg h]
def setR (l : List S63) (nm : ByteArray) (n : Int) : List S63 := if lastR l nm < 0 then l ++ [⟨nm, n⟩] else l.set (lastR l nm).toNat ⟨(l.getD (lastR l nm).toNat z63).f0, n⟩
theorem copied_is (l : List S63) (hl : l.length < 5864062014805) : sorrellaw07_copied.f l = some l := by
  unfold sorrellaw07_copied.f
  simp only [Option.bind_some, List.length_nil, List.nil_append]
  rw [if_pos (by omega)]
theorem clone_is (l : List S63) (hl : l.length < 5864062014805) : slices_Clone_api_Bind.f l = some l := by
  unfold slices_Clone_api_Bind.f
  simp only [Option.bind_some, List.length_nil, List.nil_append]
  rw [if_pos (by omega)]
/-- What Set answers. -/
def setE (l : List S63) (nm : ByteArray) (n : Int) : List S63 × Int := if nameOk nm = true then (if lastR l nm < 0 ∧ 64 ≤ l.length then ([], 10) else (setR l nm n, 0)) else ([], 7)
theorem set_is (l : List S63) (nm : ByteArray) (n : Int) (hs : nm.size ≤ 9223372036854775800) (hl : l.length < 5864062014805) (k : Nat) (hk : l.length < k) : env_Set.f k l nm n = some (setE l nm n) := by
  obtain ⟨k, rfl⟩ : ∃ m, k = m + 1 := ⟨k - 1, by omega⟩
  have h1 := lastR_lt l nm
  unfold env_Set.f setE runes_Name.f
  rw [last_is l nm (by omega) _ hk, if_pos hs]
  simp only [Option.bind_some]
  by_cases ho : nameOk nm = true
  · rw [if_pos ho, if_pos ho]
    by_cases h : lastR l nm < 0
    · rw [if_pos h]
      by_cases h64 : 64 ≤ l.length
      · rw [if_pos ⟨h, h64⟩, show decide ((l.length : Int) ≥ 64) = true from decide_eq_true (by omega)]
        simp only [env_Set.j0]
        rw [if_pos trivial]
      · rw [if_neg (fun h2 => h64 h2.2), show decide ((l.length : Int) ≥ 64) = false from decide_eq_false (by omega)]
        simp only [env_Set.j0]
        rw [if_neg (by decide), clone_is l hl]
        simp only [Option.bind_some]
        rw [if_pos h, if_pos hl]
        unfold setR
        rw [if_pos h]
    · rw [if_neg h, if_neg (fun h2 => h h2.1)]
      simp only [env_Set.j0]
      rw [if_neg (by decide), clone_is l hl]
      simp only [Option.bind_some]
      rw [if_neg h, if_pos (by omega), if_pos h1]
      unfold setR
      rw [if_neg h]
      rfl
  · rw [if_neg ho, if_neg ho]
/-! ### What was set -/
theorem getD_app {l : List S63} {x : S63} {j : Nat} (h : j < l.length) : (l ++ [x]).getD j z63 = l.getD j z63 := by
  rw [List.getD_eq_getElem?_getD, List.getD_eq_getElem?_getD, List.getElem?_append_left h]
theorem nmAt_append {l : List S63} {x : S63} {j : Nat} (h : j < l.length) : nmAt (l ++ [x]) j = nmAt l j := by
  unfold nmAt
  rw [getD_app h]
theorem valAt_append {l : List S63} {x : S63} {j : Nat} (h : j < l.length) : valAt (l ++ [x]) j = valAt l j := by
  unfold valAt
  rw [getD_app h]
theorem getD_last (l : List S63) (x : S63) : (l ++ [x]).getD l.length z63 = x := by simp
theorem getD_set_same {l : List S63} {x : S63} {i : Nat} (h : i < l.length) : (l.set i x).getD i z63 = x := by simp [h]
theorem getD_set_other {l : List S63} {x : S63} {i j : Nat} (h : j ≠ i) : (l.set i x).getD j z63 = l.getD j z63 := by
  rw [List.getD_eq_getElem?_getD, List.getD_eq_getElem?_getD, List.getElem?_set_ne (by omega)]
theorem last_none {l : List S63} {nm : ByteArray} (h : lastR l nm < 0) : ∀ j, j < l.length → nmAt l j ≠ nm.toList := by
  rcases lastD_spec l nm.toList l.length with ⟨_, h2⟩ | ⟨i, _, h2, _⟩
  · exact h2
  · unfold lastR at h; omega
theorem last_some {l : List S63} {nm : ByteArray} (h : ¬ lastR l nm < 0) : (lastR l nm).toNat < l.length ∧ nmAt l (lastR l nm).toNat = nm.toList := by
  rcases lastD_spec l nm.toList l.length with ⟨h2, _⟩ | ⟨i, h1, h2, h3, _⟩
  · unfold lastR at h; omega
  · unfold lastR
    rw [h2, Int.toNat_natCast]
    exact ⟨h1, h3⟩
theorem set_length (l : List S63) (nm : ByteArray) (n : Int) : (setR l nm n).length = if lastR l nm < 0 then l.length + 1 else l.length := by
  unfold setR
  by_cases h : lastR l nm < 0
  · rw [if_pos h, if_pos h]; simp
  · rw [if_neg h, if_neg h]; simp
/-- Where the last bind of a name stands, behind Set of a name. -/
theorem set_last_own (l : List S63) (nm : ByteArray) (n : Int) : lastR (setR l nm n) nm = if lastR l nm < 0 then (l.length : Int) else lastR l nm := by
  by_cases h : lastR l nm < 0
  · rw [if_pos h]
    unfold setR
    rw [if_pos h]
    refine lastD_some (i := l.length) (by simp) ?_ (fun j h1 h2 => by simp at h2; omega)
    unfold nmAt
    rw [getD_last]
  · rw [if_neg h]
    have h1 := last_some h
    unfold setR
    rw [if_neg h]
    unfold lastR at h1 h ⊢
    rw [List.length_set]
    refine lastD_same (fun j hj => ?_)
    unfold nmAt
    by_cases e : j = (lastD l nm.toList l.length).toNat
    · rw [e, getD_set_same h1.1]
    · rw [getD_set_other e]
theorem set_last_other (l : List S63) (nm other : ByteArray) (n : Int) (ho : other.toList ≠ nm.toList) : lastR (setR l nm n) other = lastR l other := by
  by_cases h : lastR l nm < 0
  · unfold setR
    rw [if_pos h]
    unfold lastR
    rw [show (l ++ [(⟨nm, n⟩ : S63)]).length = l.length + 1 by simp]
    simp only [lastD]
    rw [if_neg (by unfold nmAt; rw [getD_last]; exact fun e => ho e.symm)]
    exact lastD_same (fun j hj => nmAt_append hj)
  · have h1 := last_some h
    unfold setR
    rw [if_neg h]
    unfold lastR at h1 h ⊢
    rw [List.length_set]
    refine lastD_same (fun j hj => ?_)
    unfold nmAt
    by_cases e : j = (lastD l nm.toList l.length).toNat
    · rw [e, getD_set_same h1.1]
    · rw [getD_set_other e]
theorem get_set_own (l : List S63) (nm : ByteArray) (n : Int) : getR (setR l nm n) nm = n := by
  unfold getR
  rw [set_last_own]
  by_cases h : lastR l nm < 0
  · rw [if_pos h, if_pos (by omega)]
    unfold setR valAt
    rw [if_pos h, Int.toNat_natCast, getD_last]
  · rw [if_neg h, if_pos (by omega)]
    have h1 := last_some h
    unfold setR valAt
    rw [if_neg h, getD_set_same h1.1]
theorem get_set_other (l : List S63) (nm other : ByteArray) (n : Int) (ho : other.toList ≠ nm.toList) : getR (setR l nm n) other = getR l other := by
  unfold getR
  rw [set_last_other l nm other n ho]
  by_cases h0 : 0 ≤ lastR l other
  · rw [if_pos h0, if_pos h0]
    have h2 := last_some (l := l) (nm := other) (by omega)
    by_cases h : lastR l nm < 0
    · unfold setR
      rw [if_pos h, valAt_append h2.1]
    · unfold setR valAt
      rw [if_neg h, getD_set_other]
      intro e
      have h3 := last_some h
      rw [e] at h2
      exact ho (h2.2.symm.trans h3.2)
  · rw [if_neg h0, if_neg h0]
theorem set_set (l : List S63) (nm : ByteArray) (n : Int) : setR (setR l nm n) nm n = setR l nm n := by
  have hp : ¬ lastR (setR l nm n) nm < 0 := by
    rw [set_last_own]
    by_cases h : lastR l nm < 0
    · rw [if_pos h]; omega
    · rw [if_neg h]; exact h
  have h1 := last_some hp
  have hg := get_set_own l nm n
  unfold getR at hg
  rw [if_pos (by omega)] at hg
  unfold valAt at hg
  obtain ⟨a, ha⟩ : ∃ a, a = setR l nm n := ⟨_, rfl⟩
  rw [← ha] at hp h1 hg ⊢
  unfold setR
  rw [if_neg hp]
  have hx : (⟨(a.getD (lastR a nm).toNat z63).f0, n⟩ : S63) = a[(lastR a nm).toNat]'h1.1 := by
    rw [List.getD_eq_getElem?_getD, List.getElem?_eq_getElem h1.1, Option.getD_some] at hg ⊢
    rw [← hg]
  rw [hx]
  exact List.set_getElem_self h1.1
/-! ### The same list -/
theorem same_l0 (l : List S63) (hl : l.length ≤ 9000000000000000000) : ∀ d n k, l.length - n = d → n ≤ l.length → d < k → sorrellaw07_same.l0 k l l (n : Int) = some true
  | 0, n, k, hd, hn, hk => by
    obtain ⟨k, rfl⟩ : ∃ m, k = m + 1 := ⟨k - 1, by omega⟩
    simp only [sorrellaw07_same.l0]
    rw [if_neg (by omega)]
  | d + 1, n, k, hd, hn, hk => by
    obtain ⟨k, rfl⟩ : ∃ m, k = m + 1 := ⟨k - 1, by omega⟩
    simp only [sorrellaw07_same.l0]
    rw [if_pos (by omega), if_pos (by omega), if_pos (by omega), if_neg (by simp)]
    rw [show wrap64 ((n : Int) + 1) = ((n + 1 : Nat) : Int) from by unfold wrap64; omega]
    exact same_l0 l hl d (n + 1) k (by omega) (by omega) (by omega)
theorem same_is (l : List S63) (hl : l.length ≤ 9000000000000000000) (k : Nat) (hk : l.length < k) : sorrellaw07_same.f k l l = some true := by
  unfold sorrellaw07_same.f
  rw [if_pos rfl]
  exact same_l0 l hl _ 0 k rfl (by omega) (by omega)
theorem awake_is (k : Nat) (hk : 1 < k) : sorrellaw07_awake.f k = some true := by
  unfold sorrellaw07_awake.f
  rw [get_is _ _ (by simp) k (by simpa using hk)]
  rw [show getR [(⟨(⟨#[97]⟩ : ByteArray), 3⟩ : S63)] (⟨#[97]⟩ : ByteArray) = 3 from by
    have h := get_set_own [] (⟨#[97]⟩ : ByteArray) 3
    rwa [show setR [] (⟨#[97]⟩ : ByteArray) 3 = [(⟨(⟨#[97]⟩ : ByteArray), 3⟩ : S63)] from by simp [setR, lastR, lastD]] at h]
  rfl
end Go.Proofs.YtadlbegecgpaaaaDoor.S
/- Plain law: the reference's Name is the same test of a text as the program's. -/
namespace Go.Proofs.YtadlbegecgpaaaaDoor.S
open Go Go.RowKit Go.Proofs.YtadlbegecgpaaaaDoorW.PrintWords
theorem behind_is (a : Int) : sorrelref01_behind.f a = some (inNameR a) := by
  unfold sorrelref01_behind.f sorrelref01_Kind.f inNameR
  simp only [Option.bind_some]
  by_cases h1 : kindR a = 1
  · simp [h1]
  · by_cases h2 : kindR a = 2
    · simp [h2]
    · have e1 : (kindR a == 1) = false := beq_eq_false_iff_ne.2 h1
      have e2 : (kindR a == 2) = false := beq_eq_false_iff_ne.2 h2
      rw [if_neg h1, if_neg h2, e1, e2]
      rfl
theorem kind_neg1 : kindR (-1) = 0 := by decide
theorem inName_neg1 : inNameR (-1) = false := by decide
theorem runeR_in {s : ByteArray} {p : Nat} (h : p < s.size) : runeR s p = if badAt s p = true then -1 else ((dcode s p).1 : Int) := by
  unfold runeR
  rw [if_pos ⟨by omega, by omega⟩, Int.toNat_natCast]
theorem widthR_in {s : ByteArray} {p : Nat} (h : p < s.size) (hb : badAt s p = false) : widthR s p = ((dcode s p).2 : Int) := by
  unfold widthR
  rw [if_pos ⟨by omega, by omega⟩, Int.toNat_natCast, if_neg (by rw [hb]; decide)]
/-- What a name's loop asks of a character is the same whether a bad byte is told as -1 or as U+FFFD. -/
theorem kind_rune {s : ByteArray} {p : Nat} (h : p < s.size) : kindR (runeR s p) = kindR ((dcode s p).1 : Int) := by
  rw [runeR_in h]
  by_cases hb : badAt s p = true
  · rw [if_pos hb, (bad_kind hb).1]; decide
  · rw [if_neg hb]
theorem inName_rune {s : ByteArray} {p : Nat} (h : p < s.size) : inNameR (runeR s p) = inNameR ((dcode s p).1 : Int) := by
  rw [runeR_in h]
  by_cases hb : badAt s p = true
  · rw [if_pos hb, (bad_kind hb).2]; decide
  · rw [if_neg hb]
theorem inName_good {s : ByteArray} {p : Nat} (h : inNameR ((dcode s p).1 : Int) = true) : badAt s p = false := by
  cases hb : badAt s p with
  | false => rfl
  | true => rw [(bad_kind hb).2] at h; cases h
theorem name_l0 (s : ByteArray) (hs : s.size ≤ 9000000000000000000) : ∀ d p n k f, s.size - p = d → p ≤ s.size → n ≤ p → d < k → d < f → sorrelref01_Name.l0 k s (n : Int) (p : Int) = some (nameR s f p n) := by
  intro d
  induction d using Nat.strongRecOn with
  | _ d ih =>
    intro p n k f hd hp hn hk hf
    obtain ⟨k, rfl⟩ : ∃ m, k = m + 1 := ⟨k - 1, by omega⟩
    obtain ⟨f, rfl⟩ : ∃ m, f = m + 1 := ⟨f - 1, by omega⟩
    simp only [sorrelref01_Name.l0, nameR]
    by_cases h : p < s.size
    · have hw := dcode_pos s p h
      have hl := dcode_le s p h
      rw [if_pos (by omega), if_pos h]
      unfold sorrelref01_Rune.f
      rw [if_pos (by omega)]
      simp only [Option.bind_some]
      have step : inNameR ((dcode s p).1 : Int) = true → ((sorrelref01_Width.f s (p : Int)).bind fun t => sorrelref01_Name.l0 k s (wrap64 ((n : Int) + 1)) (wrap64 ((p : Int) + t))) = some (nameR s f (p + (dcode s p).2) (n + 1)) := by
        intro hi
        unfold sorrelref01_Width.f
        rw [if_pos (by omega), widthR_in h (inName_good hi)]
        simp only [Option.bind_some]
        rw [show wrap64 ((n : Int) + 1) = ((n + 1 : Nat) : Int) from by unfold wrap64; omega, show wrap64 ((p : Int) + ((dcode s p).2 : Int)) = ((p + (dcode s p).2 : Nat) : Int) from by unfold wrap64; omega]
        exact ih (d - (dcode s p).2) (by omega) _ _ k f (by omega) hl (by omega) (by omega) (by omega)
      by_cases hn0 : n = 0
      · rw [if_pos (by omega)]
        unfold sorrelref01_Kind.f
        simp only [Option.bind_some]
        rw [kind_rune h, behind_is, inName_rune h]
        simp only [Option.bind_some]
        by_cases hk1 : kindR ((dcode s p).1 : Int) = 1
        · have hc : ¬ (n = 0 ∧ kindR ((dcode s p).1 : Int) ≠ 1) := fun h2 => h2.2 hk1
          rw [if_pos hk1, if_neg hc]
          by_cases hi : inNameR ((dcode s p).1 : Int) = true
          · rw [if_pos hi, if_pos hi]
            exact step hi
          · rw [if_neg hi, if_neg hi]
        · have hc : n = 0 ∧ kindR ((dcode s p).1 : Int) ≠ 1 := ⟨hn0, hk1⟩
          rw [if_neg hk1, if_pos hc]
      · have hc : ¬ (n = 0 ∧ kindR ((dcode s p).1 : Int) ≠ 1) := fun h2 => hn0 h2.1
        rw [if_neg (by omega), behind_is, inName_rune h, if_neg hc]
        simp only [Option.bind_some]
        by_cases hi : inNameR ((dcode s p).1 : Int) = true
        · rw [if_pos hi, if_pos hi]
          exact step hi
        · rw [if_neg hi, if_neg hi]
    · rw [if_neg (by omega), if_neg h]
      by_cases hn1 : 1 ≤ n
      · rw [if_pos (by omega)]
        exact congrArg some (decide_eq_decide.2 (by omega))
      · rw [if_neg (by omega)]
        exact congrArg some (decide_eq_false (by omega)).symm
theorem refName_is (s : ByteArray) (hs : s.size ≤ 9000000000000000000) (k : Nat) (hk : s.size < k) : sorrelref01_Name.f k s = some (nameOk s) := by
  unfold sorrelref01_Name.f nameOk
  exact name_l0 s hs s.size 0 0 k _ (by omega) (by omega) (by omega) hk (by omega)
end Go.Proofs.YtadlbegecgpaaaaDoor.S
