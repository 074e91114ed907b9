/- Plain laws on texts by what stands from a place on: blanks, names, decimal numbers as the leaf functions read them. No program in sight. -/
import Derived.Test.YtadlbegecgpaaaaDoorHD
import Derived.Lib.ItoaLen
namespace Go.Proofs.YtadlbegecgpaaaaDoor.S
open Go Go.RowKit Go.Proofs.YtadlbegecgpaaaaDoorW.PrintWords
/-- From p on the text's bytes are l. -/
def Suf (s : ByteArray) (p : Nat) (l : List UInt8) : Prop := p ≤ s.size ∧ s.data.toList.drop p = l
theorem Suf.len {s : ByteArray} {p : Nat} {l : List UInt8} (h : Suf s p l) : s.size = p + l.length := by
  have := congrArg List.length h.2
  rw [List.length_drop, Array.length_toList] at this
  have h1 := h.1
  have h2 : s.data.size = s.size := rfl
  omega
theorem suf_zero (s : ByteArray) : Suf s 0 s.data.toList := ⟨Nat.zero_le _, rfl⟩
theorem Suf.app {s : ByteArray} {p : Nat} {a b : List UInt8} (h : Suf s p (a ++ b)) : Suf s (p + a.length) b := by
  have hl := h.len
  rw [List.length_append] at hl
  refine ⟨by omega, ?_⟩
  rw [← List.drop_drop, h.2, List.drop_left]
theorem Suf.tail {s : ByteArray} {p : Nat} {c : UInt8} {l : List UInt8} (h : Suf s p (c :: l)) : Suf s (p + 1) l := Suf.app (a := [c]) h
theorem Suf.lt {s : ByteArray} {p : Nat} {c : UInt8} {l : List UInt8} (h : Suf s p (c :: l)) : p < s.size := by
  have := h.len
  rw [List.length_cons] at this
  omega
theorem get_data (s : ByteArray) (p : Nat) (h : p < s.size) : s.data.toList[p]? = some (s.get! p) := by
  rw [get_bang s p h, List.getElem?_eq_getElem (by rw [Array.length_toList]; exact h)]
  rfl
theorem Suf.get {s : ByteArray} {p : Nat} {l : List UInt8} (h : Suf s p l) {k : Nat} {c : UInt8} (hc : l[k]? = some c) : s.get! (p + k) = c := by
  have hk := (List.getElem?_eq_some_iff.1 hc).1
  have hl := h.len
  have h1 := get_data s (p + k) (by omega)
  rw [← h.2, List.getElem?_drop, h1] at hc
  exact Option.some.inj hc
theorem Suf.nil {s : ByteArray} {p : Nat} (h : Suf s p []) : p = s.size := by
  have := h.len
  rw [List.length_nil] at this
  omega
theorem Suf.cut {s : ByteArray} {p : Nat} {a b : List UInt8} (h : Suf s p (a ++ b)) : s.extract p (p + a.length) = ⟨a.toArray⟩ := by
  apply Go.WideShapes.bytes_inj
  simp only [ByteArray.data_extract, Array.toList_extract, List.extract_eq_take_drop]
  rw [h.2, Nat.add_sub_cancel_left, List.take_left]
theorem Suf.ascii {s : ByteArray} {p : Nat} {c : UInt8} {l : List UInt8} (h : Suf s p (c :: l)) (hc : c.toNat < 128) : dcode s p = (c.toNat, 1) := by
  have hp := h.lt
  have h1 := h.get (k := 0) (c := c) rfl
  rw [Nat.add_zero, get_bang s p hp] at h1
  unfold dcode
  rw [decode_ascii s p hp (by rw [h1]; exact hc), h1]
theorem Suf.bt {s : ByteArray} {p : Nat} {c : UInt8} {l : List UInt8} (h : Suf s p (c :: l)) : bt s (p : Int) = (c.toNat : Int) := by
  have hp := h.lt
  have h1 := h.get (k := 0) (c := c) rfl
  rw [Nat.add_zero, get_bang s p hp] at h1
  have := bt_at s p (by simpa using hp)
  simp only [Int.toNat_natCast] at this
  rw [← this, h1]
theorem Suf.badAt {s : ByteArray} {p : Nat} {c : UInt8} {l : List UInt8} (h : Suf s p (c :: l)) (hc : c.toNat < 128) : badAt s p = false := by
  unfold S.badAt
  rw [h.ascii hc]
  have : (c.toNat == 65533) = false := beq_eq_false_iff_ne.2 (by omega)
  simp [this]
theorem while_fuel (f : Int → Bool) (s : ByteArray) : ∀ d p k k', s.size - p = d → d < k → d < k' → whileR f s k p = whileR f s k' p := by
  intro d
  induction d using Nat.strongRecOn with
  | _ d ih =>
    intro p k k' hd hk hk'
    obtain ⟨k, rfl⟩ : ∃ m, k = m + 1 := ⟨k - 1, by omega⟩
    obtain ⟨k', rfl⟩ : ∃ m, k' = m + 1 := ⟨k' - 1, by omega⟩
    simp only [whileR]
    by_cases hc : p < s.size ∧ f (dcode s p).1 = true
    · rw [if_pos hc, if_pos hc]
      have h1 := dcode_pos s p hc.1
      have h2 := dcode_le s p hc.1
      have h3 := hc.1
      exact ih (s.size - (p + (dcode s p).2)) (by omega) _ _ _ rfl (by omega) (by omega)
    · rw [if_neg hc, if_neg hc]
/-- Where the run of characters that hold of a test ends. -/
def wh (f : Int → Bool) (s : ByteArray) (p : Nat) : Nat := whileR f s (s.size + 1) p
theorem wh_step {f : Int → Bool} {s : ByteArray} {p : Nat} (h : p < s.size) (hf : f (dcode s p).1 = true) : wh f s p = wh f s (p + (dcode s p).2) := by
  have e : wh f s p = whileR f s s.size (p + (dcode s p).2) := by
    unfold wh
    simp only [whileR]
    rw [if_pos ⟨h, hf⟩]
  have h1 := dcode_pos s p h
  have h2 := dcode_le s p h
  rw [e]
  exact while_fuel f s _ _ _ _ rfl (by omega) (by omega)
theorem wh_stop {f : Int → Bool} {s : ByteArray} {p : Nat} (h : p < s.size → f (dcode s p).1 = false) : wh f s p = p := by
  unfold wh
  simp only [whileR]
  rw [if_neg (fun hc => by have := h hc.1; rw [this] at hc; exact absurd hc.2 (by decide))]
theorem wh_end {f : Int → Bool} {s : ByteArray} {p : Nat} (h : s.size ≤ p) : wh f s p = p := wh_stop (fun hp => by omega)
theorem behind_wh {f : Int → Bool} {s : ByteArray} {p : Nat} (h : p ≤ s.size) : behindR f s p = wh f s p := behind_eq f s p h
/-- Does the character at a place not hold of a test, or is it the end? -/
def Halts (f : Int → Bool) (s : ByteArray) (p : Nat) : Prop := p < s.size → f (dcode s p).1 = false
theorem wh_halts {f : Int → Bool} {s : ByteArray} {p : Nat} (h : Halts f s p) : wh f s p = p := wh_stop h
/-- A run in a text of its own is a run where its bytes stand. -/
theorem wh_copy {f : Int → Bool} {s t : ByteArray} (hg : ∀ q, q < t.size → f (dcode t q).1 = true → badAt t q = false) {p : Nat} (hp : p + t.size ≤ s.size) (hb : ∀ k, k < t.size → s.get! (p + k) = t.get! k) (he : Halts f s (p + t.size)) : ∀ d q, t.size - q = d → q ≤ t.size → wh f t q = t.size → wh f s (p + q) = p + t.size := by
  intro d
  induction d using Nat.strongRecOn with
  | _ d ih =>
    intro q hd hq hw
    by_cases hlt : q < t.size
    · cases hf : f (dcode t q).1 with
      | false =>
        rw [wh_stop (fun _ => hf)] at hw
        omega
      | true =>
        have hpos := dcode_pos t q hlt
        have hle := dcode_le t q hlt
        have hds : dcode s (p + q) = dcode t q := dcode_same (fun k hk => by rw [Nat.add_assoc]; exact hb _ (by omega)) (by omega) (hg q hlt hf)
        rw [wh_step hlt hf] at hw
        rw [wh_step (by omega) (by rw [hds]; exact hf), hds, Nat.add_assoc]
        exact ih (t.size - (q + (dcode t q).2)) (by omega) _ rfl hle hw
    · obtain rfl : q = t.size := by omega
      exact wh_halts he
theorem suf_bytes {s t : ByteArray} {p : Nat} {r : List UInt8} (h : Suf s p (t.data.toList ++ r)) : p + t.size ≤ s.size ∧ ∀ k, k < t.size → s.get! (p + k) = t.get! k := by
  have hl := h.len
  rw [List.length_append, Array.length_toList] at hl
  have e : t.data.size = t.size := rfl
  refine ⟨by omega, fun k hk => h.get ?_⟩
  rw [List.getElem?_append_left (by rw [Array.length_toList]; exact hk)]
  exact get_data t k hk
theorem name_wh (s : ByteArray) : ∀ f p n, s.size - p < f → nameR s f p n = true → wh inNameR s p = s.size ∨ s.size < p
  | 0, p, n, hf, h => by simp [nameR] at h
  | f + 1, p, n, hf, h => by
    simp only [nameR] at h
    by_cases hp : p < s.size
    · rw [if_pos hp] at h
      by_cases hc : n = 0 ∧ kindR ((dcode s p).1 : Int) ≠ 1
      · rw [if_pos hc] at h; cases h
      · rw [if_neg hc] at h
        by_cases hi : inNameR ((dcode s p).1 : Int) = true
        · rw [if_pos hi] at h
          have h1 := dcode_pos s p hp
          have h2 := dcode_le s p hp
          rcases name_wh s f _ _ (by omega) h with h3 | h3
          · left; rw [wh_step hp hi]; exact h3
          · omega
        · rw [if_neg hi] at h; cases h
    · by_cases he : s.size < p
      · exact .inr he
      · left
        obtain rfl : p = s.size := by omega
        exact wh_end (Nat.le_refl _)
theorem name_head {s : ByteArray} (h : nameOk s = true) : 0 < s.size ∧ kindR ((dcode s 0).1 : Int) = 1 := by
  unfold nameOk at h
  simp only [nameR] at h
  by_cases hp : 0 < s.size
  · rw [if_pos hp] at h
    by_cases hc : kindR ((dcode s 0).1 : Int) = 1
    · exact ⟨hp, hc⟩
    · rw [if_pos ⟨trivial, hc⟩] at h; cases h
  · rw [if_neg hp] at h
    have := of_decide_eq_true h
    omega
theorem name_run {s : ByteArray} (h : nameOk s = true) : wh inNameR s 0 = s.size := by
  rcases name_wh s _ 0 0 (by omega) h with h1 | h1
  · exact h1
  · omega
theorem bad_inName {s : ByteArray} {p : Nat} (h : inNameR ((dcode s p).1 : Int) = true) : badAt s p = false := by
  cases hb : badAt s p with
  | false => rfl
  | true =>
    unfold badAt at hb
    simp only [Bool.and_eq_true, beq_iff_eq] at hb
    rw [hb.1] at h
    exact absurd h (by decide)
theorem head_copy {s t : ByteArray} {p : Nat} {r : List UInt8} (h : Suf s p (t.data.toList ++ r)) (h0 : 0 < t.size) (hg : badAt t 0 = false) : dcode s p = dcode t 0 := by
  obtain ⟨h1, h2⟩ := suf_bytes h
  have hle := dcode_le t 0 h0
  exact dcode_same (fun k hk => by rw [Nat.zero_add]; exact h2 k (by omega)) (by omega) hg
theorem span_name {s t : ByteArray} {p : Nat} {r : List UInt8} (h : Suf s p (t.data.toList ++ r)) (hn : nameOk t = true) (he : Halts inNameR s (p + t.size)) : spanR s p = (((p + t.size : Nat) : Int), 0) ∧ s.extract p (p + t.size) = t ∧ dcode s p = dcode t 0 := by
  obtain ⟨h0, h1⟩ := name_head hn
  have hi : inNameR ((dcode t 0).1 : Int) = true := by unfold inNameR; rw [h1]; rfl
  obtain ⟨g1, g2⟩ := suf_bytes h
  have hd := head_copy h h0 (bad_inName hi)
  have hc := h.cut
  rw [Array.length_toList] at hc
  refine ⟨?_, hc, hd⟩
  unfold spanR
  have hw := wh_copy (f := inNameR) (fun q _ hf => bad_inName hf) g1 g2 he t.size 0 rfl (Nat.zero_le _) (name_run hn)
  rw [Nat.add_zero] at hw
  have hh : headR s p = ((dcode t 0).1 : Int) := by unfold headR; rw [if_pos (by omega), hd]
  rw [if_neg (by omega), Int.toNat_natCast, hh, if_neg (fun h => h h1), behind_wh (by omega), hw]
theorem check_fuel (s : ByteArray) : ∀ d p k k', s.size - p = d → d < k → d < k' → checkR s k p = checkR s k' p := by
  intro d
  induction d using Nat.strongRecOn with
  | _ d ih =>
    intro p k k' hd hk hk'
    obtain ⟨k, rfl⟩ : ∃ m, k = m + 1 := ⟨k - 1, by omega⟩
    obtain ⟨k', rfl⟩ : ∃ m, k' = m + 1 := ⟨k' - 1, by omega⟩
    simp only [checkR]
    by_cases hp : p < s.size
    · rw [if_pos hp, if_pos hp]
      have h1 := dcode_pos s p hp
      have h2 := dcode_le s p hp
      by_cases hb : badAt s p = true
      · rw [if_pos hb, if_pos hb]
      · rw [if_neg hb, if_neg hb]
        exact ih (s.size - (p + (dcode s p).2)) (by omega) _ _ _ rfl (by omega) (by omega)
    · rw [if_neg hp, if_neg hp]
def chk (s : ByteArray) (p : Nat) : Int × Int := checkR s (s.size + 1) p
theorem chk_step {s : ByteArray} {p : Nat} (h : p < s.size) (hb : badAt s p = false) : chk s p = chk s (p + (dcode s p).2) := by
  have e : chk s p = checkR s s.size (p + (dcode s p).2) := by
    unfold chk
    simp only [checkR]
    rw [if_pos h, if_neg (by rw [hb]; decide)]
  have h1 := dcode_pos s p h
  have h2 := dcode_le s p h
  rw [e]
  exact check_fuel s _ _ _ _ rfl (by omega) (by omega)
theorem chk_end (s : ByteArray) : chk s s.size = (0, 0) := by
  unfold chk
  simp only [checkR]
  rw [if_neg (by omega)]
theorem chk_ascii {s : ByteArray} : ∀ {l : List UInt8} {p : Nat} {r : List UInt8}, Suf s p (l ++ r) → (∀ c ∈ l, c.toNat < 128) → chk s p = chk s (p + l.length)
  | [], p, r, _, _ => rfl
  | c :: l, p, r, h, ha => by
    rw [List.cons_append] at h
    have hc := ha c List.mem_cons_self
    rw [chk_step h.lt (h.badAt hc), h.ascii hc, List.length_cons, chk_ascii h.tail (fun x hx => ha x (List.mem_cons_of_mem _ hx))]
    congr 1
    omega
theorem chk_run {f : Int → Bool} {s : ByteArray} (hg : ∀ q, q < s.size → f (dcode s q).1 = true → badAt s q = false) : ∀ d p, s.size - p = d → p ≤ s.size → chk s p = chk s (wh f s p) := by
  intro d
  induction d using Nat.strongRecOn with
  | _ d ih =>
    intro p hd hp
    by_cases hlt : p < s.size
    · cases hf : f (dcode s p).1 with
      | false => rw [wh_stop (fun _ => hf)]
      | true =>
        have h1 := dcode_pos s p hlt
        have h2 := dcode_le s p hlt
        rw [wh_step hlt hf, chk_step hlt (hg p hlt hf)]
        exact ih _ (by omega) _ rfl h2
    · rw [wh_end (by omega)]
theorem chk_name {s t : ByteArray} {p : Nat} {r : List UInt8} (h : Suf s p (t.data.toList ++ r)) (hn : nameOk t = true) (he : Halts inNameR s (p + t.size)) : chk s p = chk s (p + t.size) := by
  obtain ⟨g1, g2⟩ := suf_bytes h
  have hw := wh_copy (f := inNameR) (fun q _ hf => bad_inName hf) g1 g2 he t.size 0 rfl (Nat.zero_le _) (name_run hn)
  rw [Nat.add_zero] at hw
  rw [← hw]
  exact chk_run (fun q _ hf => bad_inName hf) _ p rfl h.1
theorem val_fuel (z : Int) (s : ByteArray) : ∀ d p k k' v, s.size - p = d → d < k → d < k' → valueR z s k p v = valueR z s k' p v := by
  intro d
  induction d using Nat.strongRecOn with
  | _ d ih =>
    intro p k k' v hd hk hk'
    obtain ⟨k, rfl⟩ : ∃ m, k = m + 1 := ⟨k - 1, by omega⟩
    obtain ⟨k', rfl⟩ : ∃ m, k' = m + 1 := ⟨k' - 1, by omega⟩
    simp only [valueR]
    by_cases hc : p < s.size ∧ zeroR (dcode s p).1 = z
    · rw [if_pos hc, if_pos hc]
      have h1 := dcode_pos s p hc.1
      have h2 := dcode_le s p hc.1
      have h3 := hc.1
      exact ih (s.size - (p + (dcode s p).2)) (by omega) _ _ _ _ rfl (by omega) (by omega)
    · rw [if_neg hc, if_neg hc]
def vl (z : Int) (s : ByteArray) (p v : Nat) : Nat := valueR z s (s.size + 1) p v
theorem vl_step {z : Int} {s : ByteArray} {p v : Nat} (h : p < s.size) (hz : zeroR (dcode s p).1 = z) : vl z s p v = vl z s (p + (dcode s p).2) (10 * v + ((dcode s p).1 - z).toNat) := by
  have e : vl z s p v = valueR z s s.size (p + (dcode s p).2) (10 * v + ((dcode s p).1 - z).toNat) := by
    unfold vl
    simp only [valueR]
    rw [if_pos ⟨h, hz⟩]
  have h1 := dcode_pos s p h
  have h2 := dcode_le s p h
  rw [e]
  exact val_fuel z s _ _ _ _ _ rfl (by omega) (by omega)
theorem vl_stop {z : Int} {s : ByteArray} {p v : Nat} (h : Halts (zK z) s p) : vl z s p v = v := by
  unfold vl
  simp only [valueR]
  rw [if_neg (fun hc => by have := h hc.1; rw [zK_is.2 hc.2] at this; cases this)]
/-- Decimal digits. -/
def Dec (l : List UInt8) : Prop := ∀ c ∈ l, 48 ≤ c.toNat ∧ c.toNat ≤ 57
def decV : Nat → List UInt8 → Nat
  | v, [] => v
  | v, c :: l => decV (10 * v + (c.toNat - 48)) l
theorem decV_one (v : Nat) (c : UInt8) : decV v [c] = 10 * v + (c.toNat - 48) := rfl
theorem decV_app : ∀ (v : Nat) (a b : List UInt8), decV v (a ++ b) = decV (decV v a) b
  | v, [], b => rfl
  | v, c :: a, b => by rw [List.cons_append]; exact decV_app _ a b
theorem zero_dec {c : Nat} (h : 48 ≤ c ∧ c ≤ 57) : zeroR (c : Int) = 48 := by
  unfold zeroR
  rw [if_pos (by omega)]
theorem dec_run {s : ByteArray} : ∀ {l : List UInt8} {p v : Nat} {r : List UInt8}, Suf s p (l ++ r) → Dec l → Halts (zK 48) s (p + l.length) → wh (zK 48) s p = p + l.length ∧ vl 48 s p v = decV v l
  | [], p, v, r, h, hd, he => ⟨wh_halts he, vl_stop he⟩
  | c :: l, p, v, r, h, hd, he => by
    rw [List.cons_append] at h
    have hc := hd c List.mem_cons_self
    have ha := h.ascii (by omega)
    have hz := zero_dec hc
    have ih := dec_run (v := 10 * v + (c.toNat - 48)) h.tail (fun x hx => hd x (List.mem_cons_of_mem _ hx)) (by rw [List.length_cons] at he; rw [show p + 1 + l.length = p + (l.length + 1) by omega]; exact he)
    rw [wh_step h.lt (by rw [ha]; exact zK_is.2 hz), vl_step h.lt (by rw [ha]; exact hz), ha]
    refine ⟨by rw [ih.1, List.length_cons]; omega, ?_⟩
    rw [show (((c.toNat : Nat) : Int) - 48).toNat = c.toNat - 48 by omega]
    exact ih.2
theorem dec_byte (m : Nat) (hm : m < 10) : (UInt8.ofNat (48 + m)).toNat = 48 + m := by
  have : m = 0 ∨ m = 1 ∨ m = 2 ∨ m = 3 ∨ m = 4 ∨ m = 5 ∨ m = 6 ∨ m = 7 ∨ m = 8 ∨ m = 9 := by omega
  rcases this with rfl | rfl | rfl | rfl | rfl | rfl | rfl | rfl | rfl | rfl <;> rfl
theorem decDigits_more {n : Nat} (h : ¬ n < 10) : Lib.decDigits n = Lib.decDigits (n / 10) ++ [UInt8.ofNat (48 + n % 10)] := by
  rw [Lib.decDigits, dif_neg h]
theorem dec_digits : ∀ (n : Nat), Dec (Lib.decDigits n) ∧ decV 0 (Lib.decDigits n) = n ∧ Lib.decDigits n ≠ [] := by
  intro n
  induction n using Nat.strongRecOn with
  | _ n ih =>
    have dg := dec_byte
    by_cases h : n < 10
    · rw [Lib.decDigits_one h]
      refine ⟨fun c hc => ?_, ?_, by simp⟩
      · rw [List.mem_singleton] at hc
        subst hc
        rw [dg n h]
        omega
      · rw [decV_one, dg n h]
        omega
    · obtain ⟨h1, h2, h3⟩ := ih (n / 10) (by omega)
      rw [decDigits_more h]
      refine ⟨fun c hc => ?_, ?_, by simp⟩
      · rcases List.mem_append.1 hc with hc | hc
        · exact h1 c hc
        · rw [List.mem_singleton] at hc
          subst hc
          rw [dg (n % 10) (by omega)]
          omega
      · rw [decV_app, h2, decV_one, dg (n % 10) (by omega)]
        omega
/-- A decimal number that stands at a place, as runes.Number reads it. -/
theorem number_dec {s : ByteArray} {l : List UInt8} {p : Nat} {r : List UInt8} (h : Suf s p (l ++ r)) (hd : Dec l) (h0 : l ≠ []) (he : Halts (zK 48) s (p + l.length)) (hv : decV 0 l ≤ 18446744073709551615) : numberR s p = ((decV 0 l : Int), ((p + l.length : Nat) : Int), 0) := by
  obtain ⟨h1, h2⟩ := dec_run (v := 0) h hd he
  have hp : p < s.size := by
    have := h.len
    rw [List.length_append] at this
    have : 0 < l.length := List.length_pos_iff.2 h0
    omega
  have hz : zeroR (headR s p) = 48 := by
    obtain ⟨c, l', rfl⟩ := List.exists_cons_of_ne_nil h0
    rw [List.cons_append] at h
    have hc := hd c List.mem_cons_self
    unfold headR
    rw [if_pos hp, h.ascii (by omega)]
    exact zero_dec hc
  have hvl : valueR 48 s (s.size + 1) p 0 = decV 0 l := h2
  have hbw : behindR (fun r : Int => zeroR r == 48) s p = p + l.length := (behind_wh (f := zK 48) h.1).trans h1
  generalize decV 0 l = v at hv hvl ⊢
  clear h1 h2
  unfold numberR
  rw [if_neg (by omega), Int.toNat_natCast, hz]
  simp only
  rw [if_neg (show ¬ ((48 : Int) = 0) by decide), hvl, hbw, if_neg (Nat.not_lt.2 hv)]
theorem skip_wh {s : ByteArray} {p : Nat} (h : p ≤ s.size) : skipR s p = wh blankK s p := behind_wh h
theorem skip_stay {s : ByteArray} {p : Nat} (hp : p ≤ s.size) (h : Halts blankK s p) : skipR s p = p := by rw [skip_wh hp, wh_halts h]
theorem skip_one {s : ByteArray} {p : Nat} {c : UInt8} {l : List UInt8} (h : Suf s p (c :: l)) (hc : c.toNat < 128) (hb : blankK (c.toNat : Int) = true) : skipR s p = skipR s (p + 1) := by
  have hp := h.lt
  have ha := h.ascii hc
  rw [skip_wh h.1, skip_wh (by omega), wh_step hp (by rw [ha]; exact hb), ha]
theorem skip_nil {s : ByteArray} {p : Nat} (h : Suf s p []) : skipR s p = p := by
  have := h.nil
  exact skip_stay h.1 (fun hp => by omega)
theorem Suf.halts {f : Int → Bool} {s : ByteArray} {p : Nat} {c : UInt8} {l : List UInt8} (h : Suf s p (c :: l)) (hc : c.toNat < 128) (hf : f (c.toNat : Int) = false) : Halts f s p := fun _ => by
  rw [h.ascii hc]
  exact hf
theorem Suf.halts_nil {f : Int → Bool} {s : ByteArray} {p : Nat} (h : Suf s p []) : Halts f s p := fun hp => by have := h.nil; omega
end Go.Proofs.YtadlbegecgpaaaaDoor.S
