/- Plain laws: EnvPlays, as printed, answers true: the program's Get, Set and Text are the references'; a number as a text; names are short. -/
import Derived.Test.YtadlbegecgpaaaaDoorPE
import Derived.Test.YtadlbegecgpaaaaDoorF2
import Derived.Lib.ItoaLen
import Derived.Lib.Join
import Derived.Test.YtadlbegecgpaaaaDoorPureEnvSets
import Derived.Test.YtadlbegecgpaaaaDoorF3
namespace Go.Proofs.YtadlbegecgpaaaaDoor.S
open Go Go.RowKit Go.Proofs.YtadlbegecgpaaaaDoorW.PrintWords
theorem append_data (a b : ByteArray) : (a ++ b).data.toList = a.data.toList ++ b.data.toList := by simp
def getD (l : List S63) (nm : List UInt8) (n : Nat) : Int := if 0 ≤ lastD l nm n then valAt l (lastD l nm n).toNat else 0
theorem nameR_size (s : ByteArray) : ∀ f p n, nameR s f p n = true → n ≤ 16 ∧ s.size ≤ p + 4 * (16 - n)
  | 0, p, n, h => by simp [nameR] at h
  | f + 1, p, n, h => by
    simp only [nameR] at h
    by_cases hp : p < s.size
    · rw [if_pos hp] at h
      by_cases hc : n = 0 ∧ kindR ((dcode s p).1 : Int) ≠ 1
      · rw [if_pos hc] at h; cases h
      · rw [if_neg hc] at h
        by_cases hi : inNameR ((dcode s p).1 : Int) = true
        · rw [if_pos hi] at h
          have ih := nameR_size s f _ _ h
          have h4 := dcode_four s p
          omega
        · rw [if_neg hi] at h; cases h
    · rw [if_neg hp] at h
      have := of_decide_eq_true h
      omega
theorem nameOk_size {s : ByteArray} (h : nameOk s = true) : s.size ≤ 64 := by
  have := nameR_size s _ 0 0 h
  omega
/-- A bind as a text. -/
def oneT (b : S63) : ByteArray := (b.f0 ++ (⟨#[61]⟩ : ByteArray)) ++ ⟨(Lib.itoa b.f1).toArray⟩
def oneL (b : S63) : List UInt8 := b.f0.data.toList ++ [61] ++ Lib.itoa b.f1
theorem oneT_data (b : S63) : (oneT b).data.toList = oneL b := by unfold oneT oneL; rw [append_data, append_data]
def inI64 (n : Int) : Prop := -9223372036854775808 ≤ n ∧ n ≤ 9223372036854775807
theorem oneL_len {b : S63} (hn : nameOk b.f0 = true) (hv : inI64 b.f1) : (oneL b).length ≤ 86 := by
  unfold oneL
  have h1 := nameOk_size hn
  have h2 := Lib.itoa_length_le b.f1 hv.1 hv.2
  simp only [List.length_append, List.length_cons, List.length_nil, Array.length_toList]
  have : b.f0.data.size = b.f0.size := rfl
  omega
def sepL : List UInt8 := [44, 32]
theorem joinTail_len (sep : List UInt8) (B : Nat) : ∀ (r : List (List UInt8)), (∀ x ∈ r, x.length ≤ B) → (Lib.joinTail sep r).length ≤ r.length * (sep.length + B)
  | [], _ => by simp [Lib.joinTail]
  | x :: r, h => by
    have ih := joinTail_len sep B r (fun y hy => h y (List.mem_cons_of_mem _ hy))
    have hx := h x List.mem_cons_self
    have e : Lib.joinTail sep (x :: r) = (sep ++ x) ++ Lib.joinTail sep r := by simp [Lib.joinTail]
    rw [e, List.length_append, List.length_append, List.length_cons, Nat.add_mul]
    omega
theorem join_len (sep : List UInt8) (B : Nat) (l : List (List UInt8)) (h : ∀ x ∈ l, x.length ≤ B) : (Lib.join l sep).length ≤ l.length * (sep.length + B) := by
  cases l with
  | nil => simp [Lib.join_nil]
  | cons x r =>
    rw [Lib.join_cons, List.length_append, List.length_cons, Nat.add_mul]
    have h1 := joinTail_len sep B r (fun y hy => h y (List.mem_cons_of_mem _ hy))
    have h2 := h x List.mem_cons_self
    omega
/-- What Text answers, its bytes as a list. -/
def textE (l : List S63) : List UInt8 × Int := if l.all (fun b => nameOk b.f0) = true then (if 64 < l.length then ([], 10) else (Lib.join (l.map oneL) sepL, 0)) else ([], 7)
def okEnv (l : List S63) : Prop := ∀ b ∈ l, b.f0.size ≤ 140737488351232 ∧ inI64 b.f1
theorem getD_mem {l : List S63} {i : Nat} (h : i < l.length) : l.getD i z63 ∈ l := by
  rw [List.getD_eq_getElem?_getD, List.getElem?_eq_getElem h]
  exact List.getElem_mem h
theorem text_ok {l : List S63} (hok : okEnv l) (ha : l.all (fun b => nameOk b.f0) = true) : ∀ x ∈ l.map oneL, x.length ≤ 86 := fun x hx => by
  obtain ⟨b, hb, rfl⟩ := List.mem_map.1 hx
  exact oneL_len (List.all_eq_true.1 ha b hb) (hok b hb).2
theorem textL_l0 (l : List S63) (hl : l.length < 5864062014805) (hok : okEnv l) : ∀ d i k (acc : List ByteArray), l.length - i = d → i ≤ l.length → d + 2 < k → acc = (l.take i).map oneT → (l.take i).all (fun b => nameOk b.f0) = true →
    ∃ r, env_Text.l0 k l acc l (l.length : Int) (i : Int) = some (r, (textE l).2) ∧ r.data.toList = (textE l).1
  | 0, i, k, acc, hd, hi, hk, hacc, hall => by
    obtain ⟨k, rfl⟩ : ∃ m, k = m + 1 := ⟨k - 1, by omega⟩
    obtain rfl : i = l.length := by omega
    rw [List.take_length] at hacc hall
    simp only [env_Text.l0]
    rw [if_neg (by omega)]
    unfold textE
    rw [if_pos hall]
    by_cases h64 : 64 < l.length
    · rw [if_pos (by omega), if_pos h64]
      exact ⟨_, rfl, rfl⟩
    · rw [if_neg (by omega), if_neg h64]
      have em : acc.map (·.data.toList) = l.map oneL := by
        rw [hacc, List.map_map]
        exact List.map_congr_left (fun b _ => oneT_data b)
      have hlen := join_len sepL 86 (l.map oneL) (text_ok hok hall)
      rw [List.length_map] at hlen
      have e2 : sepL.length = 2 := rfl
      rw [e2] at hlen
      unfold strings_Join.f
      rw [if_pos (by rw [em]; refine ⟨?_, ?_⟩; · show (Lib.join (l.map oneL) sepL).length ≤ _; omega
                     · rw [hacc, List.length_map]; omega)]
      simp only [Option.bind_some]
      refine ⟨_, rfl, ?_⟩
      rw [em]
      rfl
  | d + 1, i, k, acc, hd, hi, hk, hacc, hall => by
    obtain ⟨k, rfl⟩ : ∃ m, k = m + 1 := ⟨k - 1, by omega⟩
    have hlt : i < l.length := by omega
    have hm := hok _ (getD_mem hlt)
    have e : wrap64 ((i : Int) + 1) = ((i + 1 : Nat) : Int) := by unfold wrap64; omega
    simp only [env_Text.l0]
    rw [if_pos (by omega), if_pos (by omega), if_pos (by omega), rd_nat]
    unfold runes_Name.f
    rw [if_pos (by omega)]
    simp only [Option.bind_some]
    by_cases hn : nameOk (l.getD i z63).f0 = true
    · have hsz := nameOk_size hn
      have htl := Lib.itoa_length_le (l.getD i z63).f1 hm.2.1 hm.2.2
      rw [if_pos hn, if_pos (by omega)]
      unfold arith_Text.f strconv_FormatInt.f
      rw [if_pos ⟨rfl, hm.2.1, hm.2.2⟩]
      simp only [Option.bind_some]
      have hts : (⟨(Lib.itoa (l.getD i z63).f1).toArray⟩ : ByteArray).size ≤ 21 := by
        show (Lib.itoa (l.getD i z63).f1).toArray.size ≤ 21
        rw [List.size_toArray]
        exact htl
      rw [if_pos (by omega), if_pos (by rw [hacc, List.length_map, List.length_take]; omega), e]
      have et : l.take (i + 1) = l.take i ++ [l.getD i z63] := by
        rw [List.getD_eq_getElem?_getD, List.getElem?_eq_getElem hlt]
        exact List.take_succ_eq_append_getElem hlt
      exact textL_l0 l hl hok d (i + 1) k _ (by omega) (by omega) (by omega) (by rw [et, List.map_append, hacc]; rfl) (by rw [et, List.all_append, hall]; simpa using hn)
    · rw [if_neg hn]
      have hna : ¬ l.all (fun b => nameOk b.f0) = true := fun h => hn (List.all_eq_true.1 h _ (getD_mem hlt))
      unfold textE
      rw [if_neg hna]
      exact ⟨_, rfl, rfl⟩
theorem text_is (l : List S63) (hl : l.length < 5864062014805) (hok : okEnv l) (k : Nat) (hk : l.length + 2 < k) : ∃ r, env_Text.f k l = some (r, (textE l).2) ∧ r.data.toList = (textE l).1 := by
  unfold env_Text.f
  exact textL_l0 l hl hok l.length 0 k [] rfl (by omega) hk (by simp) (by simp)
end Go.Proofs.YtadlbegecgpaaaaDoor.S
