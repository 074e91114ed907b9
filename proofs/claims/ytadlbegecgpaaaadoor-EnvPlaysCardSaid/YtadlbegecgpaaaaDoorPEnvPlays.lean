/- Plain laws: EnvPlays, as printed, answers true: the program's Get, Set and Text are the references'; a number as a text; names are short. -/
import Derived.Test.YtadlbegecgpaaaaDoorPName
import Derived.Test.YtadlbegecgpaaaaDoorF2
import Derived.Lib.ItoaLen
import Derived.Lib.Join
import Derived.Test.YtadlbegecgpaaaaDoorPureEnvSets
import Derived.Test.YtadlbegecgpaaaaDoorF3
namespace Go.Proofs.YtadlbegecgpaaaaDoor.S
open Go Go.RowKit Go.Proofs.YtadlbegecgpaaaaDoorW.PrintWords
/-! ### A number as a text -/
def digs (u : Nat) : List UInt8 := if u = 0 then [] else Lib.decDigits u
theorem digs_pos {u : Nat} (h : 0 < u) : digs u = digs (u / 10) ++ [UInt8.ofNat (48 + u % 10)] := by
  unfold digs
  rw [if_neg (by omega)]
  by_cases h10 : u < 10
  · rw [Lib.decDigits_one h10, if_pos (by omega), show u % 10 = u by omega]
    rfl
  · rw [if_neg (by omega)]
    rw [Lib.decDigits, dif_neg h10]
theorem u64_mod (x : Int) : IntKind.u64.wrap x = x % 18446744073709551616 := by
  simp [IntKind.wrap, IntKind.signed, IntKind.bits]
theorem u64_wrap {x : Int} (h0 : 0 ≤ x) (h1 : x ≤ 18446744073709551615) : IntKind.u64.wrap x = x := by
  rw [u64_mod]
  omega
theorem digit_str (u : Nat) : (strOfNums ([(IntKind.u64.wrap (48 + (Int.tmod (u : Int) 10))) % 256] : List Int)).data.toList = [UInt8.ofNat (48 + u % 10)] := by
  have e : Int.tmod (u : Int) 10 = ((u % 10 : Nat) : Int) := by
    rw [Int.tmod_eq_emod_of_nonneg (by omega)]
    omega
  rw [e, u64_wrap (by omega) (by omega)]
  rw [show (48 + ((u % 10 : Nat) : Int)) % 256 = ((48 + u % 10 : Nat) : Int) from by omega]
  unfold strOfNums
  show [UInt8.ofNat ((48 + u % 10 : Nat) : Int).toNat] = _
  rw [Int.toNat_natCast]
theorem digit_size (u : Nat) : (strOfNums ([(IntKind.u64.wrap (48 + (Int.tmod (u : Int) 10))) % 256] : List Int)).size = 1 := by
  have h := congrArg List.length (digit_str u)
  rw [Array.length_toList] at h
  exact h
theorem tdiv_nat (u : Nat) (h : u ≤ 18446744073709551615) : IntKind.u64.wrap (Int.tdiv (u : Int) 10) = ((u / 10 : Nat) : Int) := by
  rw [Int.tdiv_eq_ediv_of_nonneg (by omega), u64_wrap (by omega) (by omega)]
  omega
theorem append_data (a b : ByteArray) : (a ++ b).data.toList = a.data.toList ++ b.data.toList := by simp
theorem toList_nil {a : ByteArray} : a.toList = [] ↔ a.size = 0 := by
  rw [ByteArray.toList_eq, ← List.length_eq_zero_iff, Array.length_toList]
  rfl
theorem text_l0 (n : Int) : ∀ (m u k : Nat) (acc : ByteArray), u < 10 ^ m → m + 2 < k → acc.size + m ≤ 100 → u ≤ 18446744073709551615 → (0 < u ∨ acc.size ≠ 0) →
    ∃ r, sorrelref06_Text.l0 k n acc (u : Int) = some r ∧ r.data.toList = (if n < 0 then [45] else []) ++ (digs u ++ acc.data.toList) := by
  intro m
  induction m with
  | zero =>
    intro u k acc hu hk ha h64 hne
    obtain ⟨k, rfl⟩ : ∃ q, k = q + 1 := ⟨k - 1, by omega⟩
    obtain rfl : u = 0 := by simpa using hu
    simp only [sorrelref06_Text.l0]
    rw [if_neg (by omega), if_neg (by rw [toList_nil]; omega)]
    by_cases hn : n < 0
    · rw [if_pos hn, if_pos hn, if_pos (by omega)]
      exact ⟨_, rfl, by rw [append_data]; simp [digs]⟩
    · rw [if_neg hn, if_neg hn]
      exact ⟨_, rfl, by simp [digs]⟩
  | succ m ih =>
    intro u k acc hu hk ha h64 hne
    obtain ⟨k, rfl⟩ : ∃ q, k = q + 1 := ⟨k - 1, by omega⟩
    by_cases h0 : u = 0
    · subst h0
      simp only [sorrelref06_Text.l0]
      rw [if_neg (by omega), if_neg (by rw [toList_nil]; omega)]
      by_cases hn : n < 0
      · rw [if_pos hn, if_pos hn, if_pos (by omega)]
        exact ⟨_, rfl, by rw [append_data]; simp [digs]⟩
      · rw [if_neg hn, if_neg hn]
        exact ⟨_, rfl, by simp [digs]⟩
    · simp only [sorrelref06_Text.l0]
      rw [if_pos (by omega)]
      simp only [Option.bind_some]
      have hd := digit_size u
      rw [if_pos (by rw [hd]; omega), tdiv_nat u h64]
      have hlt : u / 10 < 10 ^ m := by
        rw [Nat.pow_succ] at hu
        omega
      obtain ⟨r, hr, hd2⟩ := ih (u / 10) k (strOfNums ([(IntKind.u64.wrap (48 + (Int.tmod (u : Int) 10))) % 256] : List Int) ++ acc) hlt (by omega) (by rw [ByteArray.size_append, hd]; omega) (by omega) (.inr (by rw [ByteArray.size_append, hd]; omega))
      exact ⟨r, hr, by rw [hd2, append_data, digit_str, digs_pos (by omega : 0 < u)]; simp⟩
theorem refText_is (n : Int) (h0 : -9223372036854775808 ≤ n) (h1 : n ≤ 9223372036854775807) (k : Nat) (hk : 25 < k) : ∃ r, sorrelref06_Text.f k n = some r ∧ r.data.toList = Lib.itoa n := by
  have hsz : sorrelref06_size.f n = some (n.natAbs : Int) := by
    unfold sorrelref06_size.f
    by_cases hn : n < 0
    · rw [if_pos hn]
      rw [u64_mod, u64_mod]
      congr 1
      omega
    · rw [if_neg hn, u64_wrap (by omega) (by omega)]
      congr 1
      omega
  unfold sorrelref06_Text.f
  rw [hsz]
  simp only [Option.bind_some]
  by_cases hz : n = 0
  · subst hz
    obtain ⟨k, rfl⟩ : ∃ q, k = q + 1 := ⟨k - 1, by omega⟩
    simp only [Int.natAbs_zero, sorrelref06_Text.l0]
    rw [if_neg (by decide), if_pos (by rw [toList_nil]; rfl)]
    simp only [Option.bind_some]
    have hd := digit_size 0
    have hd2 := digit_str 0
    have e0 : ((0 : Nat) : Int) = 0 := rfl
    rw [e0] at hd hd2 ⊢
    rw [if_pos (by rw [hd]; decide), show IntKind.u64.wrap (Int.tdiv 0 10) = ((0 : Nat) : Int) by decide]
    obtain ⟨r, hr, hr2⟩ := text_l0 0 0 0 k (strOfNums ([(IntKind.u64.wrap (48 + (Int.tmod 0 10))) % 256] : List Int) ++ ⟨#[]⟩) (by decide) (by omega) (by rw [ByteArray.size_append, hd]; decide) (by decide) (.inr (by rw [ByteArray.size_append, hd]; decide))
    refine ⟨r, hr, ?_⟩
    rw [hr2, append_data, hd2]
    rw [show Lib.itoa 0 = Lib.decDigits 0 from Lib.itoa_nonneg 0, Lib.decDigits_one (by decide)]
    simp [digs]
  · have hnp : 0 < n.natAbs := by omega
    obtain ⟨r, hr, hr2⟩ := text_l0 n 20 n.natAbs k ⟨#[]⟩ (Nat.lt_of_le_of_lt (m := 9223372036854775808) (by omega) (by decide)) (by omega) (by decide) (by omega) (.inl hnp)
    refine ⟨r, hr, ?_⟩
    rw [hr2]
    unfold Lib.itoa digs
    rw [if_neg (show ¬ n.natAbs = 0 by omega)]
    by_cases hn : n < 0
    · rw [if_pos hn, if_pos hn]
      simp
    · rw [if_neg hn, if_neg hn]
      simp only [List.nil_append]
      rw [show n.natAbs = n.toNat by omega]
      simp
/-! ### Get and Set of the reference -/
def getD (l : List S63) (nm : List UInt8) (n : Nat) : Int := if 0 ≤ lastD l nm n then valAt l (lastD l nm n).toNat else 0
theorem getD_succ (l : List S63) (nm : List UInt8) (n : Nat) : getD l nm (n + 1) = if nmAt l n = nm then valAt l n else getD l nm n := by
  have e : lastD l nm (n + 1) = if nmAt l n = nm then (n : Int) else lastD l nm n := rfl
  by_cases h : nmAt l n = nm
  · rw [if_pos h] at e ⊢
    have hh : 0 ≤ lastD l nm (n + 1) := by omega
    show (if 0 ≤ lastD l nm (n + 1) then valAt l (lastD l nm (n + 1)).toNat else 0) = _
    rw [if_pos hh, e, Int.toNat_natCast]
  · rw [if_neg h] at e ⊢
    by_cases hh : 0 ≤ lastD l nm (n + 1)
    · show (if 0 ≤ lastD l nm (n + 1) then valAt l (lastD l nm (n + 1)).toNat else 0) = (if 0 ≤ lastD l nm n then valAt l (lastD l nm n).toNat else 0)
      rw [if_pos hh, if_pos (e ▸ hh), e]
    · show (if 0 ≤ lastD l nm (n + 1) then valAt l (lastD l nm (n + 1)).toNat else 0) = (if 0 ≤ lastD l nm n then valAt l (lastD l nm n).toNat else 0)
      rw [if_neg hh, if_neg (e ▸ hh)]
theorem refGet_l0 (l : List S63) (nm : ByteArray) (hl : l.length ≤ 9000000000000000000) : ∀ d i k, l.length - i = d → i ≤ l.length → d < k → sorrelref07_Get.l0 k l nm (getD l nm.toList i) (i : Int) = some (getR l nm)
  | 0, i, k, hd, hi, hk => by
    obtain ⟨k, rfl⟩ : ∃ m, k = m + 1 := ⟨k - 1, by omega⟩
    obtain rfl : i = l.length := by omega
    simp only [sorrelref07_Get.l0]
    rw [if_neg (by omega)]
    rfl
  | d + 1, i, k, hd, hi, hk => by
    obtain ⟨k, rfl⟩ : ∃ m, k = m + 1 := ⟨k - 1, by omega⟩
    have ih := refGet_l0 l nm hl d (i + 1) k (by omega) (by omega) (by omega)
    have e : wrap64 ((i : Int) + 1) = ((i + 1 : Nat) : Int) := by unfold wrap64; omega
    simp only [sorrelref07_Get.l0]
    rw [if_pos (by omega), if_pos (by omega), rd_nat, e]
    rw [getD_succ] at ih
    by_cases h : nmAt l i = nm.toList
    · rw [if_pos h] at ih
      exact (if_pos h).trans ih
    · rw [if_neg h] at ih
      exact (if_neg h).trans ih
theorem refGet_is (l : List S63) (nm : ByteArray) (hl : l.length ≤ 9000000000000000000) (k : Nat) (hk : l.length < k) : sorrelref07_Get.f k l nm = some (getR l nm) := by
  have h := refGet_l0 l nm hl l.length 0 k rfl (by omega) hk
  unfold sorrelref07_Get.f
  exact h
theorem refSet_l0 (l : List S63) (nm : ByteArray) (n : Int) (hs : nm.size ≤ 9000000000000000000) (hl : l.length < 5864062014805) : ∀ d i k, l.length - i = d → i ≤ l.length → d + nm.size + 3 < k → sorrelref07_Set.l0 k l nm n (lastD l nm.toList i) (i : Int) = some (setE l nm n)
  | 0, i, k, hd, hi, hk => by
    obtain ⟨k, rfl⟩ : ∃ m, k = m + 1 := ⟨k - 1, by omega⟩
    obtain rfl : i = l.length := by omega
    have h1 := lastR_lt l nm
    simp only [sorrelref07_Set.l0]
    rw [if_neg (by omega), refName_is nm hs k (by omega)]
    simp only [Option.bind_some]
    change (if nameOk nm = true then (if lastR l nm < 0 then sorrelref07_Set.j1 k l nm n (lastR l nm) _ else sorrelref07_Set.j1 k l nm n (lastR l nm) false) else _) = _
    obtain ⟨k, rfl⟩ : ∃ m, k = m + 1 := ⟨k - 1, by omega⟩
    unfold setE
    have hlen : (([] : List S63) ++ l).length = l.length := by simp
    have h0 : (([] : List S63)).length + l.length < 5864062014805 := by simpa using hl
    by_cases ho : nameOk nm = true
    · rw [if_pos ho, if_pos ho]
      by_cases h : lastR l nm < 0
      · rw [if_pos h]
        by_cases h64 : 64 ≤ l.length
        · rw [if_pos ⟨h, h64⟩, show decide ((l.length : Int) ≥ 64) = true from decide_eq_true (by omega)]
          simp only [sorrelref07_Set.j1]
          rw [if_pos trivial]
        · rw [if_neg (fun h2 => h64 h2.2), show decide ((l.length : Int) ≥ 64) = false from decide_eq_false (by omega)]
          simp only [sorrelref07_Set.j1]
          rw [if_neg (by decide)]
          simp only [Option.bind_some]
          rw [if_pos h0, if_pos h, if_pos (by rw [hlen]; exact hl)]
          unfold setR
          rw [if_pos h]
          simp
      · rw [if_neg h, if_neg (fun h2 => h h2.1)]
        simp only [sorrelref07_Set.j1]
        rw [if_neg (by decide)]
        simp only [Option.bind_some]
        rw [if_pos h0, if_neg h, if_pos (by omega), if_pos (by rw [hlen]; exact h1)]
        unfold setR
        rw [if_neg h]
        rfl
    · rw [if_neg ho, if_neg ho]
  | d + 1, i, k, hd, hi, hk => by
    obtain ⟨k, rfl⟩ : ∃ m, k = m + 1 := ⟨k - 1, by omega⟩
    have ih := refSet_l0 l nm n hs hl d (i + 1) k (by omega) (by omega) (by omega)
    have e : wrap64 ((i : Int) + 1) = ((i + 1 : Nat) : Int) := by unfold wrap64; omega
    simp only [sorrelref07_Set.l0]
    rw [if_pos (by omega), if_pos (by omega), rd_nat, e]
    simp only [lastD] at ih
    by_cases h : nmAt l i = nm.toList
    · rw [if_pos h] at ih
      exact (if_pos h).trans ih
    · rw [if_neg h] at ih
      exact (if_neg h).trans ih
theorem refSet_is (l : List S63) (nm : ByteArray) (n : Int) (hs : nm.size ≤ 9000000000000000000) (hl : l.length < 5864062014805) (k : Nat) (hk : l.length + nm.size + 3 < k) : sorrelref07_Set.f k l nm n = some (setE l nm n) := by
  unfold sorrelref07_Set.f
  exact refSet_l0 l nm n hs hl l.length 0 k rfl (by omega) (by omega)
/-! ### Text -/
theorem nameR_size (s : ByteArray) : ∀ f p n, nameR s f p n = true → n ≤ 16 ∧ s.size ≤ p + 4 * (16 - n)
  | 0, p, n, h => by simp [nameR] at h
  | f + 1, p, n, h => by
    simp only [nameR] at h
    by_cases hp : p < s.size
    · rw [if_pos hp] at h
      by_cases hc : n = 0 ∧ kindR ((dcode s p).1 : Int) ≠ 1
      · rw [if_pos hc] at h; cases h
      · rw [if_neg hc] at h
        by_cases hi : inNameR ((dcode s p).1 : Int) = true
        · rw [if_pos hi] at h
          have ih := nameR_size s f _ _ h
          have h4 := dcode_four s p
          omega
        · rw [if_neg hi] at h; cases h
    · rw [if_neg hp] at h
      have := of_decide_eq_true h
      omega
theorem nameOk_size {s : ByteArray} (h : nameOk s = true) : s.size ≤ 64 := by
  have := nameR_size s _ 0 0 h
  omega
/-- A bind as a text. -/
def oneT (b : S63) : ByteArray := (b.f0 ++ (⟨#[61]⟩ : ByteArray)) ++ ⟨(Lib.itoa b.f1).toArray⟩
def oneL (b : S63) : List UInt8 := b.f0.data.toList ++ [61] ++ Lib.itoa b.f1
theorem oneT_data (b : S63) : (oneT b).data.toList = oneL b := by unfold oneT oneL; rw [append_data, append_data]
def inI64 (n : Int) : Prop := -9223372036854775808 ≤ n ∧ n ≤ 9223372036854775807
theorem oneL_len {b : S63} (hn : nameOk b.f0 = true) (hv : inI64 b.f1) : (oneL b).length ≤ 86 := by
  unfold oneL
  have h1 := nameOk_size hn
  have h2 := Lib.itoa_length_le b.f1 hv.1 hv.2
  simp only [List.length_append, List.length_cons, List.length_nil, Array.length_toList]
  have : b.f0.data.size = b.f0.size := rfl
  omega
def sepL : List UInt8 := [44, 32]
theorem joinTail_len (sep : List UInt8) (B : Nat) : ∀ (r : List (List UInt8)), (∀ x ∈ r, x.length ≤ B) → (Lib.joinTail sep r).length ≤ r.length * (sep.length + B)
  | [], _ => by simp [Lib.joinTail]
  | x :: r, h => by
    have ih := joinTail_len sep B r (fun y hy => h y (List.mem_cons_of_mem _ hy))
    have hx := h x List.mem_cons_self
    have e : Lib.joinTail sep (x :: r) = (sep ++ x) ++ Lib.joinTail sep r := by simp [Lib.joinTail]
    rw [e, List.length_append, List.length_append, List.length_cons, Nat.add_mul]
    omega
theorem join_len (sep : List UInt8) (B : Nat) (l : List (List UInt8)) (h : ∀ x ∈ l, x.length ≤ B) : (Lib.join l sep).length ≤ l.length * (sep.length + B) := by
  cases l with
  | nil => simp [Lib.join_nil]
  | cons x r =>
    rw [Lib.join_cons, List.length_append, List.length_cons, Nat.add_mul]
    have h1 := joinTail_len sep B r (fun y hy => h y (List.mem_cons_of_mem _ hy))
    have h2 := h x List.mem_cons_self
    omega
theorem join_snoc (sep y : List UInt8) (l : List (List UInt8)) (h : l ≠ []) : Lib.join (l ++ [y]) sep = Lib.join l sep ++ sep ++ y := by
  cases l with
  | nil => exact absurd rfl h
  | cons x r =>
    rw [List.cons_append, Lib.join_cons, Lib.join_cons]
    simp [Lib.joinTail]
/-- What Text answers, its bytes as a list. -/
def textE (l : List S63) : List UInt8 × Int := if l.all (fun b => nameOk b.f0) = true then (if 64 < l.length then ([], 10) else (Lib.join (l.map oneL) sepL, 0)) else ([], 7)
def okEnv (l : List S63) : Prop := ∀ b ∈ l, b.f0.size ≤ 140737488351232 ∧ inI64 b.f1
theorem getD_mem {l : List S63} {i : Nat} (h : i < l.length) : l.getD i z63 ∈ l := by
  rw [List.getD_eq_getElem?_getD, List.getElem?_eq_getElem h]
  exact List.getElem_mem h
theorem drop_step {l : List S63} {i : Nat} (h : i < l.length) : l.drop i = l.getD i z63 :: l.drop (i + 1) := by
  rw [List.getD_eq_getElem?_getD, List.getElem?_eq_getElem h]
  exact List.drop_eq_getElem_cons h
theorem text_ok {l : List S63} (hok : okEnv l) (ha : l.all (fun b => nameOk b.f0) = true) : ∀ x ∈ l.map oneL, x.length ≤ 86 := fun x hx => by
  obtain ⟨b, hb, rfl⟩ := List.mem_map.1 hx
  exact oneL_len (List.all_eq_true.1 ha b hb) (hok b hb).2
theorem textL_l0 (l : List S63) (hl : l.length < 5864062014805) (hok : okEnv l) : ∀ d i k (acc : List ByteArray), l.length - i = d → i ≤ l.length → d + 2 < k → acc = (l.take i).map oneT → (l.take i).all (fun b => nameOk b.f0) = true →
    ∃ r, env_Text.l0 k l acc l (l.length : Int) (i : Int) = some (r, (textE l).2) ∧ r.data.toList = (textE l).1
  | 0, i, k, acc, hd, hi, hk, hacc, hall => by
    obtain ⟨k, rfl⟩ : ∃ m, k = m + 1 := ⟨k - 1, by omega⟩
    obtain rfl : i = l.length := by omega
    rw [List.take_length] at hacc hall
    simp only [env_Text.l0]
    rw [if_neg (by omega)]
    unfold textE
    rw [if_pos hall]
    by_cases h64 : 64 < l.length
    · rw [if_pos (by omega), if_pos h64]
      exact ⟨_, rfl, rfl⟩
    · rw [if_neg (by omega), if_neg h64]
      have em : acc.map (·.data.toList) = l.map oneL := by
        rw [hacc, List.map_map]
        exact List.map_congr_left (fun b _ => oneT_data b)
      have hlen := join_len sepL 86 (l.map oneL) (text_ok hok hall)
      rw [List.length_map] at hlen
      have e2 : sepL.length = 2 := rfl
      rw [e2] at hlen
      unfold strings_Join.f
      rw [if_pos (by rw [em]; refine ⟨?_, ?_⟩; · show (Lib.join (l.map oneL) sepL).length ≤ _; omega
                     · rw [hacc, List.length_map]; omega)]
      simp only [Option.bind_some]
      refine ⟨_, rfl, ?_⟩
      rw [em]
      rfl
  | d + 1, i, k, acc, hd, hi, hk, hacc, hall => by
    obtain ⟨k, rfl⟩ : ∃ m, k = m + 1 := ⟨k - 1, by omega⟩
    have hlt : i < l.length := by omega
    have hm := hok _ (getD_mem hlt)
    have e : wrap64 ((i : Int) + 1) = ((i + 1 : Nat) : Int) := by unfold wrap64; omega
    simp only [env_Text.l0]
    rw [if_pos (by omega), if_pos (by omega), if_pos (by omega), rd_nat]
    unfold runes_Name.f
    rw [if_pos (by omega)]
    simp only [Option.bind_some]
    by_cases hn : nameOk (l.getD i z63).f0 = true
    · have hsz := nameOk_size hn
      have htl := Lib.itoa_length_le (l.getD i z63).f1 hm.2.1 hm.2.2
      rw [if_pos hn, if_pos (by omega)]
      unfold arith_Text.f strconv_FormatInt.f
      rw [if_pos ⟨rfl, hm.2.1, hm.2.2⟩]
      simp only [Option.bind_some]
      have hts : (⟨(Lib.itoa (l.getD i z63).f1).toArray⟩ : ByteArray).size ≤ 21 := by
        show (Lib.itoa (l.getD i z63).f1).toArray.size ≤ 21
        rw [List.size_toArray]
        exact htl
      rw [if_pos (by omega), if_pos (by rw [hacc, List.length_map, List.length_take]; omega), e]
      have et : l.take (i + 1) = l.take i ++ [l.getD i z63] := by
        rw [List.getD_eq_getElem?_getD, List.getElem?_eq_getElem hlt]
        exact List.take_succ_eq_append_getElem hlt
      exact textL_l0 l hl hok d (i + 1) k _ (by omega) (by omega) (by omega) (by rw [et, List.map_append, hacc]; rfl) (by rw [et, List.all_append, hall]; simpa using hn)
    · rw [if_neg hn]
      have hna : ¬ l.all (fun b => nameOk b.f0) = true := fun h => hn (List.all_eq_true.1 h _ (getD_mem hlt))
      unfold textE
      rw [if_neg hna]
      exact ⟨_, rfl, rfl⟩
theorem text_is (l : List S63) (hl : l.length < 5864062014805) (hok : okEnv l) (k : Nat) (hk : l.length + 2 < k) : ∃ r, env_Text.f k l = some (r, (textE l).2) ∧ r.data.toList = (textE l).1 := by
  unfold env_Text.f
  exact textL_l0 l hl hok l.length 0 k [] rfl (by omega) hk (by simp) (by simp)
theorem refText_l1 (l : List S63) (h64 : l.length ≤ 64) (hok : okEnv l) (hall : l.all (fun b => nameOk b.f0) = true) : ∀ d i k (s : ByteArray), l.length - i = d → i ≤ l.length → d + 40 < k → s.data.toList = Lib.join ((l.take i).map oneL) sepL →
    ∃ r, sorrelref07_Text.l1 k l s (i : Int) = some (r, 0) ∧ r.data.toList = Lib.join (l.map oneL) sepL
  | 0, i, k, s, hd, hi, hk, hs => by
    obtain ⟨k, rfl⟩ : ∃ m, k = m + 1 := ⟨k - 1, by omega⟩
    obtain rfl : i = l.length := by omega
    rw [List.take_length] at hs
    simp only [sorrelref07_Text.l1]
    rw [if_neg (by omega)]
    exact ⟨s, rfl, hs⟩
  | d + 1, i, k, s, hd, hi, hk, hs => by
    obtain ⟨k, rfl⟩ : ∃ m, k = m + 1 := ⟨k - 1, by omega⟩
    have hlt : i < l.length := by omega
    have hm := hok _ (getD_mem hlt)
    have hn : nameOk (l.getD i z63).f0 = true := List.all_eq_true.1 hall _ (getD_mem hlt)
    have hsz := nameOk_size hn
    have e : wrap64 ((i : Int) + 1) = ((i + 1 : Nat) : Int) := by unfold wrap64; omega
    have htake : ∀ x ∈ (l.take i).map oneL, x.length ≤ 86 := fun x hx => text_ok hok hall x (by
      obtain ⟨b, hb, rfl⟩ := List.mem_map.1 hx
      exact List.mem_map.2 ⟨b, List.mem_of_mem_take hb, rfl⟩)
    have hss : s.size ≤ 88 * i := by
      have h1 := join_len sepL 86 _ htake
      rw [← hs, Array.length_toList, List.length_map, List.length_take] at h1
      have e2 : sepL.length = 2 := rfl
      rw [e2] at h1
      have : s.data.size = s.size := rfl
      rw [Nat.min_eq_left hi] at h1
      omega
    obtain ⟨t, ht, htl⟩ := refText_is (l.getD i z63).f1 hm.2.1 hm.2.2 k (by omega)
    have hts : t.size ≤ 21 := by
      have h1 := Lib.itoa_length_le (l.getD i z63).f1 hm.2.1 hm.2.2
      rw [← htl, Array.length_toList] at h1
      exact h1
    have et : (l.take (i + 1)).map oneL = (l.take i).map oneL ++ [oneL (l.getD i z63)] := by
      rw [List.getD_eq_getElem?_getD, List.getElem?_eq_getElem hlt, List.take_succ_eq_append_getElem hlt, List.map_append]
      rfl
    simp only [sorrelref07_Text.l1]
    rw [if_pos (by omega), rd_nat]
    by_cases h0 : i = 0
    · subst h0
      have hs0 : s.data.toList = [] := by rw [hs]; simp [Lib.join_nil]
      rw [if_neg (by omega), if_pos (by omega), if_pos (by omega), if_pos (by omega), ht]
      simp only [Option.bind_some]
      rw [if_pos (by omega), e]
      refine refText_l1 l h64 hok hall d (0 + 1) k _ (by omega) (by omega) (by omega) ?_
      rw [et, append_data, append_data, append_data, hs0, htl]
      simp [Lib.join_one, oneL]
    · have hne : (l.take i).map oneL ≠ [] := by
        intro h1
        have h2 := congrArg List.length h1
        rw [List.length_map, List.length_take, List.length_nil] at h2
        omega
      rw [if_pos (by omega), if_pos (by omega), if_pos (by omega), if_pos (by omega), if_pos (by omega), ht]
      simp only [Option.bind_some]
      rw [if_pos (by omega), e]
      refine refText_l1 l h64 hok hall d (i + 1) k _ (by omega) (by omega) (by omega) ?_
      rw [et, join_snoc _ _ _ hne, append_data, append_data, append_data, append_data, hs, htl]
      simp [oneL, sepL]
theorem refText_l0 (l : List S63) (hl : l.length < 5864062014805) (hok : okEnv l) : ∀ d i k, l.length - i = d → i ≤ l.length → l.length + d + 140737488351232 + 50 < k → (l.take i).all (fun b => nameOk b.f0) = true →
    ∃ r, sorrelref07_Text.l0 k l (i : Int) = some (r, (textE l).2) ∧ r.data.toList = (textE l).1
  | 0, i, k, hd, hi, hk, hall => by
    obtain ⟨k, rfl⟩ : ∃ m, k = m + 1 := ⟨k - 1, by omega⟩
    obtain rfl : i = l.length := by omega
    rw [List.take_length] at hall
    simp only [sorrelref07_Text.l0]
    rw [if_neg (by omega)]
    unfold textE
    rw [if_pos hall]
    by_cases h64 : 64 < l.length
    · rw [if_pos (by omega), if_pos h64]
      exact ⟨_, rfl, rfl⟩
    · rw [if_neg (by omega), if_neg h64]
      exact refText_l1 l (by omega) hok hall l.length 0 k _ rfl (by omega) (by omega) (by simp [Lib.join_nil])
  | d + 1, i, k, hd, hi, hk, hall => by
    obtain ⟨k, rfl⟩ : ∃ m, k = m + 1 := ⟨k - 1, by omega⟩
    have hlt : i < l.length := by omega
    have hm := hok _ (getD_mem hlt)
    have e : wrap64 ((i : Int) + 1) = ((i + 1 : Nat) : Int) := by unfold wrap64; omega
    simp only [sorrelref07_Text.l0]
    rw [if_pos (by omega), if_pos (by omega), rd_nat, refName_is _ (by omega) k (by omega)]
    simp only [Option.bind_some]
    by_cases hn : nameOk (l.getD i z63).f0 = true
    · rw [if_pos hn, e]
      have et : l.take (i + 1) = l.take i ++ [l.getD i z63] := by
        rw [List.getD_eq_getElem?_getD, List.getElem?_eq_getElem hlt]
        exact List.take_succ_eq_append_getElem hlt
      exact refText_l0 l hl hok d (i + 1) k (by omega) (by omega) (by omega) (by rw [et, List.all_append, hall]; simpa using hn)
    · rw [if_neg hn]
      have hna : ¬ l.all (fun b => nameOk b.f0) = true := fun h => hn (List.all_eq_true.1 h _ (getD_mem hlt))
      unfold textE
      rw [if_neg hna]
      exact ⟨_, rfl, rfl⟩
theorem refTextE_is (l : List S63) (hl : l.length < 5864062014805) (hok : okEnv l) (k : Nat) (hk : 2 * l.length + 140737488351232 + 50 < k) : ∃ r, sorrelref07_Text.f k l = some (r, (textE l).2) ∧ r.data.toList = (textE l).1 := by
  unfold sorrelref07_Text.f
  exact refText_l0 l hl hok l.length 0 k rfl (by omega) (by omega) (by simp)
theorem EnvPlays_pure (l : List S63) (nm : ByteArray) (n : Int) (hl : l.length < 5864062014700) (hok : okEnv l) (h1 : nm.size ≤ 9000000000000000000) (k : Nat) (hk : 2 * l.length + nm.size + 140737488351232 + 100 < k) : sorrellaw07_EnvPlays.f k l nm n = some true := by
  unfold sorrellaw07_EnvPlays.f
  rw [awake_is k (by omega), copied_is l (by omega)]
  simp only [Option.bind_some, if_true]
  rw [get_is l nm (by omega) k (by omega), refGet_is l nm (by omega) k (by omega)]
  simp only [Option.bind_some, bne_self_eq_false]
  obtain ⟨k, rfl⟩ : ∃ q, k = q + 1 := ⟨k - 1, by omega⟩
  simp only [sorrellaw07_EnvPlays.j0]
  rw [if_neg (by decide), copied_is l (by omega)]
  simp only [Option.bind_some]
  rw [set_is l nm n (by omega) (by omega) k (by omega), refSet_is l nm n h1 (by omega) k (by omega)]
  simp only [Option.bind_some]
  obtain ⟨r1, hr1, hd1⟩ := text_is l (by omega) hok k (by omega)
  obtain ⟨r2, hr2, hd2⟩ := refTextE_is l (by omega) hok k (by omega)
  rw [hr1, hr2]
  simp only [Option.bind_some]
  have hsl : (setE l nm n).1.length ≤ l.length + 1 := by
    unfold setE
    by_cases ho : nameOk nm = true
    · rw [if_pos ho]
      by_cases hc : lastR l nm < 0 ∧ 64 ≤ l.length
      · rw [if_pos hc]; simp
      · rw [if_neg hc]
        show (setR l nm n).length ≤ _
        rw [set_length]
        by_cases h : lastR l nm < 0
        · rw [if_pos h]; omega
        · rw [if_neg h]; omega
    · rw [if_neg ho]; simp
  rw [same_is _ (by omega) k (by omega)]
  simp only [Option.bind_some, if_true]
  rw [if_pos (by rw [ByteArray.toList_eq, ByteArray.toList_eq, hd1, hd2])]
  simp
end Go.Proofs.YtadlbegecgpaaaaDoor.S
