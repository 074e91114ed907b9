/- Folded: PEnv, PName. -/
import Derived.Test.YtadlbegecgpaaaaDoorE1
import Derived.Test.YtadlbegecgpaaaaDoorHC
namespace Go.Proofs.YtadlbegecgpaaaaDoor.S
open Go Go.RowKit Go.Proofs.YtadlbegecgpaaaaDoorW.PrintWords
/-- The name of the bind at a place, byte by byte. -/
def nmAt (l : List S63) (j : Nat) : List UInt8 := (l.getD j z63).f0.toList
def valAt (l : List S63) (j : Nat) : Int := (l.getD j z63).f1
theorem rd_nat (l : List S63) (j : Nat) : rd_T63 l (j : Int) = l.getD j z63 := by unfold rd_T63; rw [Int.toNat_natCast]
def lastD (l : List S63) (nm : List UInt8) : Nat → Int
  | 0 => -1
  | n + 1 => if nmAt l n = nm then (n : Int) else lastD l nm n
def lastR (l : List S63) (nm : ByteArray) : Int := lastD l nm.toList l.length
theorem last_l0 (l : List S63) (nm : ByteArray) (hl : l.length ≤ 9000000000000000000) : ∀ n k, n ≤ l.length → n < k → env_last.l0 k l nm ((n : Int) - 1) = some (lastD l nm.toList n)
  | 0, k, _, hk => by
    obtain ⟨k, rfl⟩ : ∃ m, k = m + 1 := ⟨k - 1, by omega⟩
    simp only [env_last.l0]
    rw [if_neg (by omega)]
    rfl
  | n + 1, k, hn, hk => by
    obtain ⟨k, rfl⟩ : ∃ m, k = m + 1 := ⟨k - 1, by omega⟩
    have e : ((n + 1 : Nat) : Int) - 1 = n := by omega
    rw [e]
    simp only [env_last.l0, lastD]
    rw [if_pos (by omega), if_pos (by omega), if_pos (by omega), rd_nat]
    by_cases h : nmAt l n = nm.toList
    · rw [if_pos h]
      exact if_pos h
    · rw [if_neg h]
      refine (if_neg h).trans ?_
      rw [show wrap64 ((n : Int) - 1) = (n : Int) - 1 from by unfold wrap64; omega]
      exact last_l0 l nm hl n k (by omega) (by omega)
theorem last_is (l : List S63) (nm : ByteArray) (hl : l.length ≤ 9000000000000000000) (k : Nat) (hk : l.length < k) : env_last.f k l nm = some (lastR l nm) := by
  unfold env_last.f lastR
  rw [show wrap64 ((l.length : Int) - 1) = (l.length : Int) - 1 from by unfold wrap64; omega]
  exact last_l0 l nm hl _ k (Nat.le_refl _) hk
theorem lastD_spec (l : List S63) (nm : List UInt8) : ∀ n, (lastD l nm n = -1 ∧ ∀ j, j < n → nmAt l j ≠ nm) ∨ ∃ i : Nat, i < n ∧ lastD l nm n = i ∧ nmAt l i = nm ∧ ∀ j, i < j → j < n → nmAt l j ≠ nm
  | 0 => .inl ⟨rfl, fun j h => by omega⟩
  | n + 1 => by
    simp only [lastD]
    by_cases h : nmAt l n = nm
    · rw [if_pos h]
      exact .inr ⟨n, by omega, rfl, h, fun j h1 h2 => by omega⟩
    · rw [if_neg h]
      rcases lastD_spec l nm n with ⟨h1, h2⟩ | ⟨i, h1, h2, h3, h4⟩
      · refine .inl ⟨h1, fun j hj => ?_⟩
        by_cases e : j = n
        · subst e; exact h
        · exact h2 j (by omega)
      · refine .inr ⟨i, by omega, h2, h3, fun j hj1 hj2 => ?_⟩
        by_cases e : j = n
        · subst e; exact h
        · exact h4 j hj1 (by omega)
theorem lastD_some {l : List S63} {nm : List UInt8} {n i : Nat} (hi : i < n) (h : nmAt l i = nm) (h2 : ∀ j, i < j → j < n → nmAt l j ≠ nm) : lastD l nm n = i := by
  rcases lastD_spec l nm n with ⟨_, h3⟩ | ⟨i', h1, h4, h3, h5⟩
  · exact absurd h (h3 i hi)
  · rw [h4]
    rcases Nat.lt_trichotomy i i' with e | e | e
    · exact absurd h3 (h2 i' e h1)
    · rw [e]
    · exact absurd h (h5 i e hi)
theorem lastD_same {l l' : List S63} {nm : List UInt8} : ∀ {n : Nat}, (∀ j, j < n → nmAt l' j = nmAt l j) → lastD l' nm n = lastD l nm n
  | 0, _ => rfl
  | n + 1, h => by
    simp only [lastD]
    rw [h n (by omega), lastD_same (fun j hj => h j (by omega))]
def getR (l : List S63) (nm : ByteArray) : Int := if 0 ≤ lastR l nm then valAt l (lastR l nm).toNat else 0
theorem lastR_lt (l : List S63) (nm : ByteArray) : lastR l nm < l.length := by
  rcases lastD_spec l nm.toList l.length with ⟨h, _⟩ | ⟨i, h, h2, _⟩
  · unfold lastR; omega
  · unfold lastR; omega
theorem get_is (l : List S63) (nm : ByteArray) (hl : l.length ≤ 9000000000000000000) (k : Nat) (hk : l.length < k) : env_Get.f k l nm = some (getR l nm) := by
  unfold env_Get.f getR
  rw [last_is l nm hl k hk]
  simp only [Option.bind_some]
  have h1 := lastR_lt l nm
  by_cases h : 0 ≤ lastR l nm
  · rw [if_pos h, if_pos h, if_pos h1, if_pos h]
    rfl
  · rw [if_neg h, if_neg h]
def setR (l : List S63) (nm : ByteArray) (n : Int) : List S63 := if lastR l nm < 0 then l ++ [⟨nm, n⟩] else l.set (lastR l nm).toNat ⟨(l.getD (lastR l nm).toNat z63).f0, n⟩
theorem copied_is (l : List S63) (hl : l.length < 5864062014805) : sorrellaw07_copied.f l = some l := by
  unfold sorrellaw07_copied.f
  simp only [Option.bind_some, List.length_nil, List.nil_append]
  rw [if_pos (by omega)]
theorem getD_last (l : List S63) (x : S63) : (l ++ [x]).getD l.length z63 = x := by simp
theorem getD_set_same {l : List S63} {x : S63} {i : Nat} (h : i < l.length) : (l.set i x).getD i z63 = x := by simp [h]
theorem getD_set_other {l : List S63} {x : S63} {i j : Nat} (h : j ≠ i) : (l.set i x).getD j z63 = l.getD j z63 := by
  rw [List.getD_eq_getElem?_getD, List.getD_eq_getElem?_getD, List.getElem?_set_ne (by omega)]
theorem last_some {l : List S63} {nm : ByteArray} (h : ¬ lastR l nm < 0) : (lastR l nm).toNat < l.length ∧ nmAt l (lastR l nm).toNat = nm.toList := by
  rcases lastD_spec l nm.toList l.length with ⟨h2, _⟩ | ⟨i, h1, h2, h3, _⟩
  · unfold lastR at h; omega
  · unfold lastR
    rw [h2, Int.toNat_natCast]
    exact ⟨h1, h3⟩
/-- Where the last bind of a name stands, behind Set of a name. -/
theorem set_last_own (l : List S63) (nm : ByteArray) (n : Int) : lastR (setR l nm n) nm = if lastR l nm < 0 then (l.length : Int) else lastR l nm := by
  by_cases h : lastR l nm < 0
  · rw [if_pos h]
    unfold setR
    rw [if_pos h]
    refine lastD_some (i := l.length) (by simp) ?_ (fun j h1 h2 => by simp at h2; omega)
    unfold nmAt
    rw [getD_last]
  · rw [if_neg h]
    have h1 := last_some h
    unfold setR
    rw [if_neg h]
    unfold lastR at h1 h ⊢
    rw [List.length_set]
    refine lastD_same (fun j hj => ?_)
    unfold nmAt
    by_cases e : j = (lastD l nm.toList l.length).toNat
    · rw [e, getD_set_same h1.1]
    · rw [getD_set_other e]
theorem get_set_own (l : List S63) (nm : ByteArray) (n : Int) : getR (setR l nm n) nm = n := by
  unfold getR
  rw [set_last_own]
  by_cases h : lastR l nm < 0
  · rw [if_pos h, if_pos (by omega)]
    unfold setR valAt
    rw [if_pos h, Int.toNat_natCast, getD_last]
  · rw [if_neg h, if_pos (by omega)]
    have h1 := last_some h
    unfold setR valAt
    rw [if_neg h, getD_set_same h1.1]
theorem same_l0 (l : List S63) (hl : l.length ≤ 9000000000000000000) : ∀ d n k, l.length - n = d → n ≤ l.length → d < k → sorrellaw07_same.l0 k l l (n : Int) = some true
  | 0, n, k, hd, hn, hk => by
    obtain ⟨k, rfl⟩ : ∃ m, k = m + 1 := ⟨k - 1, by omega⟩
    simp only [sorrellaw07_same.l0]
    rw [if_neg (by omega)]
  | d + 1, n, k, hd, hn, hk => by
    obtain ⟨k, rfl⟩ : ∃ m, k = m + 1 := ⟨k - 1, by omega⟩
    simp only [sorrellaw07_same.l0]
    rw [if_pos (by omega), if_pos (by omega), if_pos (by omega), if_neg (by simp)]
    rw [show wrap64 ((n : Int) + 1) = ((n + 1 : Nat) : Int) from by unfold wrap64; omega]
    exact same_l0 l hl d (n + 1) k (by omega) (by omega) (by omega)
theorem same_is (l : List S63) (hl : l.length ≤ 9000000000000000000) (k : Nat) (hk : l.length < k) : sorrellaw07_same.f k l l = some true := by
  unfold sorrellaw07_same.f
  rw [if_pos rfl]
  exact same_l0 l hl _ 0 k rfl (by omega) (by omega)
theorem awake_is (k : Nat) (hk : 1 < k) : sorrellaw07_awake.f k = some true := by
  unfold sorrellaw07_awake.f
  rw [get_is _ _ (by simp) k (by simpa using hk)]
  rw [show getR [(⟨(⟨#[97]⟩ : ByteArray), 3⟩ : S63)] (⟨#[97]⟩ : ByteArray) = 3 from by
    have h := get_set_own [] (⟨#[97]⟩ : ByteArray) 3
    rwa [show setR [] (⟨#[97]⟩ : ByteArray) 3 = [(⟨(⟨#[97]⟩ : ByteArray), 3⟩ : S63)] from by simp [setR, lastR, lastD]] at h]
  rfl
end Go.Proofs.YtadlbegecgpaaaaDoor.S
namespace Go.Proofs.YtadlbegecgpaaaaDoor.S
open Go Go.RowKit Go.Proofs.YtadlbegecgpaaaaDoorW.PrintWords
end Go.Proofs.YtadlbegecgpaaaaDoor.S
