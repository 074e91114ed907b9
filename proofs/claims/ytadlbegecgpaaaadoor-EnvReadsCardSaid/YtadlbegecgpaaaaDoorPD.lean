/- Folded: PRead1, PRead5, PRead6, PRead7, PRead8, PRead9. -/
import Derived.Test.YtadlbegecgpaaaaDoorPE
import Derived.Test.YtadlbegecgpaaaaDoorHD
import Derived.Test.YtadlbegecgpaaaaDoorG3
import Derived.Test.YtadlbegecgpaaaaDoorG4
/- Plain laws: the reference's skip, Span, Check and Digit are the plain words of Hp. -/
set_option linter.unusedVariables false
namespace Go.Proofs.YtadlbegecgpaaaaDoor.S
open Go Go.RowKit Go.Proofs.YtadlbegecgpaaaaDoorW.PrintWords
theorem head_lt {s : ByteArray} {p : Nat} (h : p < s.size) : headR s p = ((dcode s p).1 : Int) := by unfold headR; rw [if_pos h]
theorem head_ge {s : ByteArray} {p : Nat} (h : ¬ p < s.size) : headR s p = 65533 := by unfold headR; rw [if_neg h]
theorem runeR_out {s : ByteArray} {p : Nat} (h : ¬ p < s.size) : runeR s p = -1 := by unfold runeR; rw [if_neg (by omega)]
theorem kind_head (s : ByteArray) (p : Nat) : kindR (runeR s p) = kindR (headR s p) := by
  by_cases h : p < s.size
  · rw [kind_rune h, head_lt h]
  · rw [runeR_out h, head_ge h]; decide
theorem bad_code {s : ByteArray} {p : Nat} (h : badAt s p = true) : (dcode s p).1 = 65533 := by
  unfold badAt at h
  simp only [Bool.and_eq_true, beq_iff_eq] at h
  exact h.1
theorem zero_head (s : ByteArray) (p : Nat) : zeroR (runeR s p) = zeroR (headR s p) := by
  by_cases h : p < s.size
  · rw [head_lt h, runeR_in h]
    by_cases hb : badAt s p = true
    · rw [if_pos hb, bad_code hb]; decide
    · rw [if_neg hb]
  · rw [runeR_out h, head_ge h]; decide
theorem kind_good {s : ByteArray} {p : Nat} (h : kindR ((dcode s p).1 : Int) ≠ 0) : badAt s p = false := by
  cases hb : badAt s p with
  | false => rfl
  | true => rw [(bad_kind hb).1] at h; exact absurd rfl h
theorem zero_good {s : ByteArray} {p : Nat} (h : zeroR ((dcode s p).1 : Int) ≠ 0) : badAt s p = false := by
  cases hb : badAt s p with
  | false => rfl
  | true => rw [bad_code hb] at h; exact absurd (by decide) h
theorem code_good {s : ByteArray} {p : Nat} (h : (dcode s p).1 ≠ 65533) : badAt s p = false := by
  cases hb : badAt s p with
  | false => rfl
  | true => exact absurd (bad_code hb) h
theorem w64 {x : Int} (h0 : -9223372036854775808 ≤ x) (h1 : x ≤ 9223372036854775807) : wrap64 x = x := by unfold wrap64; omega
theorem skip_l0 (s : ByteArray) (hs : s.size ≤ 9000000000000000000) : ∀ d p k f, s.size - p = d → p ≤ s.size → d < k → d < f → sorrelref07_skip.l0 k s (p : Int) = some ((whileR blankK s f p : Nat) : Int) := by
  intro d
  induction d using Nat.strongRecOn with
  | _ d ih =>
    intro p k f hd hp hk hf
    obtain ⟨k, rfl⟩ : ∃ m, k = m + 1 := ⟨k - 1, by omega⟩
    obtain ⟨f, rfl⟩ : ∃ m, f = m + 1 := ⟨f - 1, by omega⟩
    simp only [sorrelref07_skip.l0, whileR]
    by_cases h : p < s.size
    · have hw := dcode_pos s p h
      have hl := dcode_le s p h
      rw [if_pos (by omega)]
      unfold sorrelref01_Rune.f sorrelref01_Kind.f
      rw [if_pos (by omega)]
      simp only [Option.bind_some]
      rw [kind_head, head_lt h]
      by_cases hk3 : kindR ((dcode s p).1 : Int) = 3
      · have hb := kind_good (s := s) (p := p) (by rw [hk3]; decide)
        have hbk : blankK ((dcode s p).1 : Int) = true := by unfold blankK; rw [hk3]; rfl
        rw [if_pos hk3, if_pos ⟨h, hbk⟩]
        unfold sorrelref01_Width.f
        rw [if_pos (by omega), widthR_in h hb]
        simp only [Option.bind_some]
        rw [show wrap64 ((p : Int) + ((dcode s p).2 : Int)) = ((p + (dcode s p).2 : Nat) : Int) from by unfold wrap64; omega]
        exact ih (d - (dcode s p).2) (by omega) _ k f (by omega) hl (by omega) (by omega)
      · have hbk : ¬ (p < s.size ∧ blankK ((dcode s p).1 : Int) = true) := fun h2 => hk3 (by have := h2.2; unfold blankK at this; exact beq_iff_eq.1 this)
        rw [if_neg hk3, if_neg hbk]
    · rw [if_neg (by omega), if_neg (fun h2 => h h2.1)]
theorem skip_is (s : ByteArray) (hs : s.size ≤ 9000000000000000000) (p k : Nat) (hp : p ≤ s.size) (hk : s.size < k) : sorrelref07_skip.f k s (p : Int) = some ((skipR s p : Nat) : Int) := by
  unfold sorrelref07_skip.f skipR
  rw [behind_eq _ _ _ hp]
  exact skip_l0 s hs _ p k _ rfl hp (by omega) (by omega)
theorem span_l0 (s : ByteArray) (hs : s.size ≤ 9000000000000000000) : ∀ d p k f, s.size - p = d → p ≤ s.size → d < k → d < f → sorrelref01_Span.l0 k s (p : Int) = some (((whileR inNameR s f p : Nat) : Int), (0 : Int)) := by
  intro d
  induction d using Nat.strongRecOn with
  | _ d ih =>
    intro p k f hd hp hk hf
    obtain ⟨k, rfl⟩ : ∃ m, k = m + 1 := ⟨k - 1, by omega⟩
    obtain ⟨f, rfl⟩ : ∃ m, f = m + 1 := ⟨f - 1, by omega⟩
    simp only [sorrelref01_Span.l0, whileR]
    by_cases h : p < s.size
    · have hw := dcode_pos s p h
      have hl := dcode_le s p h
      rw [if_pos (by omega)]
      unfold sorrelref01_Rune.f
      rw [if_pos (by omega)]
      simp only [Option.bind_some]
      rw [behind_is, inName_rune h]
      simp only [Option.bind_some]
      by_cases hi : inNameR ((dcode s p).1 : Int) = true
      · rw [if_pos hi, if_pos ⟨h, hi⟩]
        unfold sorrelref01_Width.f
        rw [if_pos (by omega), widthR_in h (inName_good hi)]
        simp only [Option.bind_some]
        rw [show wrap64 ((p : Int) + ((dcode s p).2 : Int)) = ((p + (dcode s p).2 : Nat) : Int) from by unfold wrap64; omega]
        exact ih (d - (dcode s p).2) (by omega) _ k f (by omega) hl (by omega) (by omega)
      · rw [if_neg hi, if_neg (fun h2 => hi h2.2)]
    · rw [if_neg (by omega), if_neg (fun h2 => h h2.1)]
theorem span_is (s : ByteArray) (hs : s.size ≤ 9000000000000000000) (p k : Nat) (hp : p ≤ s.size) (hk : s.size + 1 < k) : sorrelref01_Span.f k s (p : Int) = some (spanR s p) := by
  obtain ⟨k, rfl⟩ : ∃ m, k = m + 1 := ⟨k - 1, by omega⟩
  unfold sorrelref01_Span.f spanR
  rw [if_neg (by omega), if_neg (by omega), decide_eq_false (by omega), Int.toNat_natCast]
  simp only [sorrelref01_Span.j0]
  rw [if_neg (by decide)]
  unfold sorrelref01_Rune.f sorrelref01_Kind.f
  rw [if_pos (by omega)]
  simp only [Option.bind_some]
  rw [kind_head]
  by_cases hk1 : kindR (headR s p) = 1
  · rw [if_pos hk1, if_neg (fun h => h hk1), behind_eq _ _ _ hp]
    exact span_l0 s hs _ p k _ rfl hp (by omega) (by omega)
  · rw [if_neg hk1, if_pos hk1]
theorem check_l0 (s : ByteArray) (hs : s.size ≤ 9000000000000000000) : ∀ d p k f, s.size - p = d → p ≤ s.size → d < k → d < f → sorrelref01_Check.l0 k s (p : Int) = some (checkR s f p) := by
  intro d
  induction d using Nat.strongRecOn with
  | _ d ih =>
    intro p k f hd hp hk hf
    obtain ⟨k, rfl⟩ : ∃ m, k = m + 1 := ⟨k - 1, by omega⟩
    obtain ⟨f, rfl⟩ : ∃ m, f = m + 1 := ⟨f - 1, by omega⟩
    simp only [sorrelref01_Check.l0, checkR]
    by_cases h : p < s.size
    · have hw := dcode_pos s p h
      have hl := dcode_le s p h
      rw [if_pos (by omega), if_pos h]
      unfold sorrelref01_Width.f
      rw [if_pos (by omega)]
      simp only [Option.bind_some]
      cases hb : badAt s p with
      | true =>
        have : widthR s p = 0 := by unfold widthR; rw [if_pos ⟨by omega, by omega⟩, Int.toNat_natCast, if_pos hb]
        rw [this, if_pos rfl, if_pos rfl]
      | false =>
        rw [widthR_in h hb, if_neg (by omega), if_neg (by decide)]
        rw [show wrap64 ((p : Int) + ((dcode s p).2 : Int)) = ((p + (dcode s p).2 : Nat) : Int) from by unfold wrap64; omega]
        exact ih (d - (dcode s p).2) (by omega) _ k f (by omega) hl (by omega) (by omega)
    · rw [if_neg (by omega), if_neg h]
theorem check_is (s : ByteArray) (hs : s.size ≤ 9000000000000000000) (k : Nat) (hk : s.size < k) : sorrelref01_Check.f k s = some (checkR s (s.size + 1) 0) := by
  unfold sorrelref01_Check.f
  exact check_l0 s hs s.size 0 k _ (by omega) (by omega) hk (by omega)
end Go.Proofs.YtadlbegecgpaaaaDoor.S
/- Plain laws: the reference's number (Value, Read) at digits behind a sign is the same. -/
namespace Go.Proofs.YtadlbegecgpaaaaDoor.S
open Go Go.RowKit Go.Proofs.YtadlbegecgpaaaaDoorW.PrintWords
theorem width_ok {s : ByteArray} {p : Nat} (hs : s.size ≤ 9000000000000000000) (h : p < s.size) (hb : badAt s p = false) : sorrelref01_Width.f s (p : Int) = some ((dcode s p).2 : Int) := by
  unfold sorrelref01_Width.f
  rw [if_pos (by omega), widthR_in h hb]
theorem rune_ok {s : ByteArray} {p : Nat} (hs : s.size ≤ 9000000000000000000) (h : p < s.size) (hb : badAt s p = false) : sorrelref01_Rune.f s (p : Int) = some ((dcode s p).1 : Int) := by
  unfold sorrelref01_Rune.f
  rw [if_pos (by omega), runeR_in h, if_neg (by rw [hb]; decide)]
theorem rune_some {s : ByteArray} {p : Nat} (hs : s.size ≤ 9000000000000000000) : sorrelref01_Rune.f s (p : Int) = some (runeR s p) := by
  unfold sorrelref01_Rune.f
  rw [if_pos (by omega)]
/-- What the reference's loop holds: the number so far, or that it has grown beyond all. -/
def ValSt (nv : Int) (lg : Bool) (v : Nat) : Prop := 0 ≤ nv ∧ nv ≤ 18446744073709551615 ∧ (lg = true → 10000000000000000000 ≤ v) ∧ (lg = false → (v : Int) = nv ∧ v ≤ 10000000000000000009)
theorem wrap_step {p w n : Nat} (hs : n ≤ 9000000000000000000) (hl : p + w ≤ n) : wrap64 ((p : Int) + (w : Int)) = ((p + w : Nat) : Int) := by unfold wrap64; omega
theorem u64_small {x : Int} (h0 : 0 ≤ x) (h1 : x ≤ 9) : IntKind.u64.wrap x = x := by rw [u64_mod]; omega
theorem val_big {nv dg : Int} {lg : Bool} {v : Nat} (h : ValSt nv lg v) (h0 : 0 ≤ dg) (hb : nv > 1000000000000000000) : ValSt (IntKind.u64.wrap (IntKind.u64.wrap (10 * nv) + dg)) true (10 * v + dg.toNat) := by
  obtain ⟨_, _, h2, h3⟩ := h
  refine ⟨(u64_in _).1, (u64_in _).2, fun _ => ?_, fun h => by cases h⟩
  cases lg with
  | true => have := h2 rfl; clear h2 h3; omega
  | false => have := h3 rfl; clear h2 h3; omega
theorem val_fit {nv dg : Int} {lg : Bool} {v : Nat} (h : ValSt nv lg v) (hd0 : 0 ≤ dg) (hd1 : dg ≤ 9) (hb : ¬ nv > 1000000000000000000) : IntKind.u64.wrap (IntKind.u64.wrap (10 * nv) + dg) = 10 * nv + dg ∧ ValSt (10 * nv + dg) lg (10 * v + dg.toNat) := by
  obtain ⟨h0, h1, h2, h3⟩ := h
  refine ⟨?_, ?_, ?_, fun e => ?_, fun e => ?_⟩
  · clear h2 h3
    rw [u64_mod, u64_mod]; omega
  · clear h2 h3; omega
  · clear h2 h3; omega
  · have := h2 e; clear h2 h3; omega
  · have := h3 e; clear h2 h3; omega
theorem value_l0 (z : Int) (hz : z ≠ 0) (s : ByteArray) (hs : s.size ≤ 9000000000000000000) : ∀ d p k f nv lg v, s.size - p = d → p ≤ s.size → d < k → d < f → whileR (zK z) s f p = s.size → ValSt nv lg v →
    ∃ nv' lg', sorrelref06_Value.l0 k s nv lg z (p : Int) = some (nv', lg', true) ∧ ValSt nv' lg' (valueR z s f p v) := by
  intro d
  induction d using Nat.strongRecOn with
  | _ d ih =>
    intro p k f nv lg v hd hp hk hf hw hv
    obtain ⟨k, rfl⟩ : ∃ m, k = m + 1 := ⟨k - 1, by omega⟩
    obtain ⟨f, rfl⟩ : ∃ m, f = m + 1 := ⟨f - 1, by omega⟩
    simp only [sorrelref06_Value.l0]
    by_cases h : p < s.size
    · have hpos := dcode_pos s p h
      have hl := dcode_le s p h
      have a1 : d - (dcode s p).2 < d := by omega
      have a2 : s.size - (p + (dcode s p).2) = d - (dcode s p).2 := by omega
      have a3 : d - (dcode s p).2 < k := by omega
      have a4 : d - (dcode s p).2 < f := by omega
      have e := wrap_step hs hl
      obtain ⟨hzc, hw2⟩ := digits_step hw h
      have hb := good_zero hz hzc
      rw [if_pos (Int.ofNat_lt.2 h), rune_ok hs h hb]
      simp only [Option.bind_some]
      obtain ⟨dg, hdg, _, hd1, hd2⟩ := digit_is ((dcode s p).1 : Int)
      rw [hzc] at hdg hd1 hd2
      obtain ⟨hd3, hd4⟩ := hd2 hz
      have hd5 := hd1 hz
      rw [hdg]
      simp only [Option.bind_some, if_true]
      rw [width_ok hs h hb]
      simp only [Option.bind_some]
      have hval : valueR z s (f + 1) p v = valueR z s f (p + (dcode s p).2) (10 * v + (((dcode s p).1 : Int) - z).toNat) := by
        simp only [valueR]
        rw [if_pos ⟨h, hzc⟩]
      have hdt : (((dcode s p).1 : Int) - z).toNat = dg.toNat := by rw [hd5]
      rw [hdt] at hval
      have hwd : IntKind.u64.wrap dg = dg := u64_small hd3 hd4
      rw [e, hwd]
      by_cases hbig : nv > 1000000000000000000
      · rw [if_pos hbig]
        have hst := val_big hv hd3 hbig
        obtain ⟨n', l', g1, g2⟩ := ih (d - (dcode s p).2) a1 _ k f _ _ _ a2 hl a3 a4 hw2 hst
        exact ⟨n', l', g1, by rw [hval]; exact g2⟩
      · rw [if_neg hbig]
        obtain ⟨hws, hst⟩ := val_fit hv hd3 hd4 hbig
        rw [hws]
        obtain ⟨n', l', g1, g2⟩ := ih (d - (dcode s p).2) a1 _ k f _ _ _ a2 hl a3 a4 hw2 hst
        exact ⟨n', l', g1, by rw [hval]; exact g2⟩
    · rw [if_neg (by omega)]
      refine ⟨nv, lg, rfl, ?_⟩
      simp only [valueR]
      rw [if_neg (fun h2 => h h2.1)]
      exact hv
theorem value_is (z : Int) (s : ByteArray) (hs : s.size ≤ 9000000000000000000) (hd : Digits z s) (k : Nat) (hk : s.size < k) : ∃ nv lg, sorrelref06_Value.f k s = some (nv, lg, true) ∧ ValSt nv lg (valueR z s (s.size + 1) 0 0) := by
  obtain ⟨hz, h0, hz0, hw⟩ := hd
  have hr : sorrelref01_Rune.f s 0 = some ((dcode s 0).1 : Int) := rune_ok (p := 0) hs h0 (good_zero hz hz0)
  unfold sorrelref06_Value.f
  rw [hr]
  simp only [Option.bind_some]
  obtain ⟨dg, hdg, _⟩ := digit_is ((dcode s 0).1 : Int)
  rw [hz0] at hdg
  rw [hdg]
  simp only [Option.bind_some]
  rw [if_neg hz]
  exact value_l0 z hz s hs s.size 0 k _ 0 false 0 (by omega) (by omega) hk (by omega) hw ⟨by omega, by omega, fun h => (by cases h), fun _ => ⟨rfl, by omega⟩⟩
theorem signed_is (nv : Int) (mn : Bool) (h0 : 0 ≤ nv) (h1 : nv ≤ (if mn = true then 9223372036854775808 else 9223372036854775807)) : sorrelref06_signed.f nv mn = some (if mn = true then -nv else nv) := by
  unfold sorrelref06_signed.f
  cases mn with
  | true =>
    rw [if_pos rfl] at h1
    rw [if_pos rfl, if_pos rfl, u64_mod]
    congr 1
    unfold wrap64
    omega
  | false =>
    rw [if_neg (by decide)] at h1
    rw [if_neg (by decide), if_neg (by decide)]
    congr 1
    unfold wrap64
    omega
/-- The reference's Read behind its sign. -/
theorem read_j1 (z : Int) (s : ByteArray) (mn : Bool) (hs : s.size ≤ 9000000000000000000) (hd : Digits z s) (k : Nat) (hk : s.size + 1 < k) : sorrelref06_Read.j1 k s mn = some (readV mn (valueR z s (s.size + 1) 0 0)) := by
  obtain ⟨k, rfl⟩ : ∃ m, k = m + 1 := ⟨k - 1, by omega⟩
  obtain ⟨nv, lg, h1, h0, hM, h2, h3⟩ := value_is z s hs hd k (by omega)
  simp only [sorrelref06_Read.j1]
  rw [h1]
  simp only [Option.bind_some, if_true]
  generalize valueR z s (s.size + 1) 0 0 = v at h2 h3 ⊢
  unfold readV
  cases lg with
  | true =>
    have := h2 rfl
    rw [if_pos rfl, if_neg (by cases mn <;> simp <;> omega)]
  | false =>
    have h4 := h3 rfl
    rw [if_neg (by decide)]
    by_cases c1 : nv > 9223372036854775808
    · rw [if_pos c1, if_neg (by cases mn <;> simp <;> omega)]
    · rw [if_neg c1]
      by_cases c2 : nv = 9223372036854775808
      · rw [if_pos c2]
        cases mn with
        | true =>
          rw [if_pos rfl, if_pos (by simp; omega), signed_is nv true h0 (by rw [if_pos rfl]; omega)]
          simp only [Option.bind_some, if_true]
          rw [h4.1]
        | false => rw [if_neg (by decide), if_neg (by simp; omega)]
      · rw [if_neg c2, if_pos (by cases mn <;> simp <;> omega), signed_is nv mn h0 (by cases mn <;> simp <;> omega)]
        simp only [Option.bind_some]
        rw [h4.1]
end Go.Proofs.YtadlbegecgpaaaaDoor.S
/- Plain laws: the reference's Read of a number with its sign, and its bind, are the program's. -/
namespace Go.Proofs.YtadlbegecgpaaaaDoor.S
open Go Go.RowKit Go.Proofs.YtadlbegecgpaaaaDoorW.PrintWords
theorem digits_cut {z : Int} (hz : z ≠ 0) (s t : ByteArray) (p e : Nat) (hp : p < s.size) (h1 : zeroR ((dcode s p).1 : Int) = z) (he : whileR (zK z) s (s.size + 1) p = e) (hts : t.size = e - p) (hb : ∀ k, k < e - p → t.get! k = s.get! (p + k)) : Digits z t ∧ valueR z t (t.size + 1) 0 0 = valueR z s (s.size + 1) p 0 := by
  have hes : e ≤ s.size := by rw [← he]; exact while_le _ _ _ _ (by omega)
  have hpos := dcode_pos s p hp
  have hpe : p + (dcode s p).2 ≤ e := by
    rw [← he]
    simp only [whileR]
    rw [if_pos ⟨hp, zK_is.2 h1⟩]
    exact wh_ge _ _ _ _
  have hcut := cut_while hz s t e hes _ p 0 0 (s.size + 1) (t.size + 1) rfl (by omega) he (by omega) (by omega) (by omega) (fun k hk => by rw [Nat.zero_add]; exact hb k hk)
  have hd := digE_head hcut.1 (by omega)
  exact ⟨⟨hz, by omega, hd.1, hcut.1⟩, hcut.2⟩
theorem refRead_plain (s : ByteArray) (hs : s.size ≤ 4096) (p e : Nat) (z : Int) (hz : z ≠ 0) (hp : p < s.size) (h1 : zeroR ((dcode s p).1 : Int) = z) (he : whileR (zK z) s (s.size + 1) p = e) (k : Nat) (hk : s.size + 5 < k) : sorrelref06_Read.f k (s.extract p e) = some (readV false (valueR z s (s.size + 1) p 0)) := by
  have hes : e ≤ s.size := by rw [← he]; exact while_le _ _ _ _ (by omega)
  have hts : (s.extract p e).size = e - p := by rw [ByteArray.size_extract]; omega
  obtain ⟨hd, hv⟩ := digits_cut hz s (s.extract p e) p e hp h1 he hts (fun k hk => get_cut s p e k (by omega) hes)
  obtain ⟨k, rfl⟩ : ∃ m, k = m + 1 := ⟨k - 1, by omega⟩
  have hr : sorrelref01_Rune.f (s.extract p e) 0 = some ((dcode (s.extract p e) 0).1 : Int) := rune_ok (p := 0) (by omega) hd.2.1 (good_zero hz hd.2.2.1)
  have hzc : zeroR ((dcode (s.extract p e) 0).1 : Int) ≠ 0 := by rw [hd.2.2.1]; exact hz
  unfold sorrelref06_Read.f
  rw [if_neg (by omega), hr]
  simp only [Option.bind_some]
  rw [if_neg (fun h => by rw [h] at hzc; exact hzc (by decide)), beq_eq_false_iff_ne.2 (fun h => by rw [h] at hzc; exact hzc (by decide))]
  simp only [sorrelref06_Read.j0]
  rw [if_neg (by decide), read_j1 z _ false (by omega) hd k (by omega), hv]
theorem refRead_minus (s : ByteArray) (hs : s.size ≤ 4096) (p e : Nat) (z : Int) (hz : z ≠ 0) (hp : p < s.size) (hc : ((dcode s p).1 : Int) = 45 ∨ ((dcode s p).1 : Int) = 8722) (hp2 : p + (dcode s p).2 < s.size) (h1 : zeroR ((dcode s (p + (dcode s p).2)).1 : Int) = z) (he : whileR (zK z) s (s.size + 1) (p + (dcode s p).2) = e) (k : Nat) (hk : s.size + 5 < k) : sorrelref06_Read.f k (s.extract p e) = some (readV true (valueR z s (s.size + 1) (p + (dcode s p).2) 0)) := by
  have hes : e ≤ s.size := by rw [← he]; exact while_le _ _ _ _ (by omega)
  have hpm := wh_ge (zK z) s (s.size + 1) (p + (dcode s p).2)
  rw [he] at hpm
  have hpos := dcode_pos s p hp
  have hts : (s.extract p e).size = e - p := by rw [ByteArray.size_extract]; omega
  have hgood : badAt s p = false := code_good (by rcases hc with h | h <;> omega)
  have hdt : dcode (s.extract p e) 0 = dcode s p := dcode_same (fun k hk => by rw [Nat.zero_add]; exact get_cut s p e k (by omega) hes) (by omega) hgood
  have hbt : badAt (s.extract p e) 0 = false := by
    unfold badAt at hgood ⊢
    rw [hdt]; exact hgood
  obtain ⟨k, rfl⟩ : ∃ m, k = m + 1 := ⟨k - 1, by omega⟩
  have ht0 : 0 < (s.extract p e).size := by omega
  have hr : sorrelref01_Rune.f (s.extract p e) 0 = some ((dcode s p).1 : Int) := by rw [← hdt]; exact rune_ok (p := 0) (by omega) ht0 hbt
  have hwd : sorrelref01_Width.f (s.extract p e) 0 = some ((dcode s p).2 : Int) := by rw [← hdt]; exact width_ok (p := 0) (by omega) ht0 hbt
  have hts2 : ((s.extract p e).extract (dcode s p).2 (s.extract p e).size).size = e - (p + (dcode s p).2) := by rw [ByteArray.size_extract]; omega
  obtain ⟨hd, hv⟩ := digits_cut hz s ((s.extract p e).extract (dcode s p).2 (s.extract p e).size) (p + (dcode s p).2) e hp2 h1 he hts2 (fun k hk => by
    rw [get_cut (s.extract p e) (dcode s p).2 _ k (by omega) (Nat.le_refl _), get_cut s p e _ (by omega) hes, Nat.add_assoc])
  have hj : sorrelref06_Read.j0 (k + 1) (s.extract p e) true = some (readV true (valueR z s (s.size + 1) (p + (dcode s p).2) 0)) := by
    simp only [sorrelref06_Read.j0, if_true]
    rw [hwd]
    simp only [Option.bind_some]
    rw [if_pos (by omega), if_pos (by omega), Int.toNat_natCast, read_j1 z _ true (by omega) hd k (by omega), hv]
  unfold sorrelref06_Read.f
  rw [if_neg (by omega), hr]
  simp only [Option.bind_some]
  rcases hc with h | h
  · rw [if_pos h]; exact hj
  · rw [if_neg (by omega), beq_iff_eq.2 h]; exact hj
/-! ### bind -/
theorem bind_l0 (z : Int) (s nm : ByteArray) (fr dg : Int) (hz : z ≠ 0) (hs : s.size ≤ 4096) : ∀ d p k f, s.size - p = d → p ≤ s.size → d < k → d < f → ∃ k', k ≤ k' + d + 1 ∧ sorrelref07_bind.l0 k s (p : Int) nm fr dg z = sorrelref07_bind.j4 k' s ((whileR (zK z) s f p : Nat) : Int) nm fr dg := by
  intro d
  induction d using Nat.strongRecOn with
  | _ d ih =>
    intro p k f hd hp hk hf
    obtain ⟨k, rfl⟩ : ∃ m, k = m + 1 := ⟨k - 1, by omega⟩
    obtain ⟨f, rfl⟩ : ∃ m, f = m + 1 := ⟨f - 1, by omega⟩
    simp only [sorrelref07_bind.l0, whileR]
    by_cases h : p < s.size
    · have hpos := dcode_pos s p h
      have hl := dcode_le s p h
      rw [if_pos (by omega), rune_some (by omega)]
      simp only [Option.bind_some]
      obtain ⟨d1, hd1, _⟩ := digit_is (runeR s p)
      rw [zero_head, head_lt h] at hd1
      rw [hd1]
      simp only [Option.bind_some]
      by_cases hzc : zeroR ((dcode s p).1 : Int) = z
      · rw [if_pos hzc, if_pos ⟨h, zK_is.2 hzc⟩, width_ok (by omega) h (good_zero hz hzc)]
        simp only [Option.bind_some]
        rw [wrap_step (n := 4096) (by omega) (by omega)]
        obtain ⟨k', h1, h2⟩ := ih (d - (dcode s p).2) (by omega) (p + (dcode s p).2) k f (by omega) hl (by omega) (by omega)
        exact ⟨k', by omega, h2⟩
      · rw [if_neg hzc, if_neg (fun h2 => hzc (zK_is.1 h2.2))]
        exact ⟨k, by omega, rfl⟩
    · rw [if_neg (by omega), if_neg (fun h2 => h h2.1)]
      exact ⟨k, by omega, rfl⟩
end Go.Proofs.YtadlbegecgpaaaaDoor.S
/- Plain law: the reference's bind is the program's. -/
namespace Go.Proofs.YtadlbegecgpaaaaDoor.S
open Go Go.RowKit Go.Proofs.YtadlbegecgpaaaaDoorW.PrintWords
theorem kind_two (r : Int) : kindR r = 2 ↔ zeroR r ≠ 0 := by
  unfold kindR
  constructor
  · intro h hz
    by_cases h1 : letterR r = true
    · rw [if_pos h1] at h; exact absurd h (by decide)
    · rw [if_neg h1, if_neg (fun h => h hz)] at h
      revert h
      repeat' split
      all_goals decide
  · intro hz
    have hl : ¬ letterR r = true := by
      intro hl
      unfold letterR at hl
      simp only [List.any_cons, List.any_nil, Bool.or_eq_true, Bool.and_eq_true, decide_eq_true_eq, Bool.false_eq_true, or_false] at hl
      rcases zero_cases hz with ⟨_, h1, h2⟩ | ⟨_, h1, h2⟩ | ⟨_, h1, h2⟩ <;> omega
    rw [if_neg hl, if_pos hz]
def refP (r : ByteArray × Int × Int × Nat) : ByteArray × Int × Int × Int := (r.1, r.2.1, (r.2.2.2 : Int), r.2.2.1)
theorem tail_ref (s nm : ByteArray) (hs : s.size ≤ 4096) (mn : Bool) (fr p : Nat) (hf : fr ≤ p) (hp : p ≤ s.size) (hmn : zeroR (headR s p) = 0 → fr = p)
    (hr : ∀ z e k, z ≠ 0 → p < s.size → zeroR ((dcode s p).1 : Int) = z → whileR (zK z) s (s.size + 1) p = e → s.size + 5 < k → sorrelref06_Read.f k (s.extract fr e) = some (readV mn (valueR z s (s.size + 1) p 0)))
    (k : Nat) (hk : 9000 < k) : sorrelref07_bind.j2 k s (p : Int) nm (fr : Int) = some (refP (tailP s nm mn p)) := by
  obtain ⟨k, rfl⟩ : ∃ m, k = m + 1 := ⟨k - 1, by omega⟩
  simp only [sorrelref07_bind.j2]
  rw [rune_some (by omega)]
  simp only [Option.bind_some]
  obtain ⟨d1, hd1, _⟩ := digit_is (runeR s p)
  rw [zero_head] at hd1
  rw [hd1]
  simp only [Option.bind_some]
  unfold tailP
  by_cases hz : zeroR (headR s p) = 0
  · have hn : numberR s p = (0, 0, 11) := by
      unfold numberR
      rw [if_neg (by omega), Int.toNat_natCast]
      simp only
      rw [if_pos hz]
    rw [if_pos hz, hn, if_pos rfl, hmn hz]
    rfl
  · rw [if_neg hz]
    have hps : p < s.size := by
      by_cases h : p < s.size
      · exact h
      · rw [head_ge h] at hz; exact absurd (by decide) hz
    have hzh : zeroR ((dcode s p).1 : Int) = zeroR (headR s p) := by rw [head_lt hps]
    obtain ⟨k', hk', hl0⟩ := bind_l0 (zeroR (headR s p)) s nm fr p hz hs _ p k (s.size + 1) rfl hp (by omega) (by omega)
    obtain ⟨e, he⟩ : ∃ e, e = whileR (zK (zeroR (headR s p))) s (s.size + 1) p := ⟨_, rfl⟩
    have hee : e ≤ s.size := by rw [he]; exact while_le _ _ _ _ hp
    have hpe : p ≤ e := by rw [he]; exact wh_ge _ _ _ _
    rw [hl0, ← he]
    obtain ⟨k', rfl⟩ : ∃ m, k' = m + 1 := ⟨k' - 1, by omega⟩
    simp only [sorrelref07_bind.j4]
    rw [if_pos (by omega), if_pos (by omega), if_pos (by omega), Int.toNat_natCast, Int.toNat_natCast, hr _ e k' hz hps hzh he.symm (by omega)]
    simp only [Option.bind_some]
    by_cases hbig : 18446744073709551615 < valueR (zeroR (headR s p)) s (s.size + 1) p 0
    · have hn : numberR s p = (0, 0, 10) := by
        unfold numberR
        rw [if_neg (by omega), Int.toNat_natCast]
        simp only
        rw [if_neg hz, if_pos hbig]
      have hrv : readV mn (valueR (zeroR (headR s p)) s (s.size + 1) p 0) = (0, 10) := by
        generalize valueR (zeroR (headR s p)) s (s.size + 1) p 0 = v at hbig ⊢
        clear hr
        unfold readV
        rw [if_neg (by cases mn <;> simp <;> omega)]
      rw [hrv, hn, if_neg (by decide), if_neg (by decide), if_pos rfl]
      rfl
    · have hn : numberR s p = (((valueR (zeroR (headR s p)) s (s.size + 1) p 0 : Nat) : Int), (e : Int), (0 : Int)) := by
        unfold numberR
        rw [if_neg (by omega), Int.toNat_natCast]
        simp only
        rw [if_neg hz, if_neg hbig, he, ← behind_eq _ _ _ hp]
        rfl
      rw [hn]
      simp only
      rw [if_neg (show ¬ ((0 : Int) = 11) by decide), if_neg (show ¬ ((0 : Int) = 10) by decide), Int.toNat_natCast, Int.toNat_natCast]
      by_cases h0 : (readV mn (valueR (zeroR (headR s p)) s (s.size + 1) p 0)).2 = 0
      · rw [if_pos h0, if_pos h0, skip_is s (by omega) e k' hee (by omega)]
        rfl
      · rw [if_neg h0, if_neg h0]
        rfl
end Go.Proofs.YtadlbegecgpaaaaDoor.S
/- Plain law: EnvReads, as printed, answers true. -/
namespace Go.Proofs.YtadlbegecgpaaaaDoor.S
open Go Go.RowKit Go.Proofs.YtadlbegecgpaaaaDoorW.PrintWords
theorem sign_ref (s nm : ByteArray) (hs : s.size ≤ 4096) (p : Nat) (hp : p ≤ s.size) (k : Nat) (hk : 9100 < k) :
    ((sorrelref01_Rune.f s (p : Int)).bind fun t131 => (if t131 = 45 then (sorrelref07_bind.j1 k s (p : Int) nm (p : Int) true) else (sorrelref07_bind.j1 k s (p : Int) nm (p : Int) (t131 == 8722)))) = some (refP (signP s nm p)) := by
  obtain ⟨k, rfl⟩ : ∃ m, k = m + 1 := ⟨k - 1, by omega⟩
  rw [rune_some (by omega)]
  simp only [Option.bind_some]
  have hj : ∀ b : Bool, (runeR s p = 45 ∨ runeR s p = 8722 ↔ b = true) → sorrelref07_bind.j1 (k + 1) s (p : Int) nm (p : Int) b = some (refP (signP s nm p)) := by
    intro b hb
    unfold signP
    cases b with
    | true =>
      have hc := hb.2 rfl
      have hps : p < s.size := by
        by_cases h : p < s.size
        · exact h
        · rw [runeR_out h] at hc; omega
      have hg : badAt s p = false := by
        cases hbd : badAt s p with
        | false => rfl
        | true => rw [runeR_in hps, if_pos hbd] at hc; omega
      have hcc : ((dcode s p).1 : Int) = 45 ∨ ((dcode s p).1 : Int) = 8722 := by
        rw [runeR_in hps, if_neg (by rw [hg]; decide)] at hc; exact hc
      have hl := dcode_le s p hps
      rw [head_lt hps, if_pos hcc]
      simp only [sorrelref07_bind.j1, if_true]
      rw [width_ok (by omega) hps hg]
      simp only [Option.bind_some]
      rw [wrap_step (n := 4096) (by omega) (by omega)]
      by_cases hk2 : kindR (headR s (p + (dcode s p).2)) = 2
      · rw [if_pos hk2]
        have hz := (kind_two _).1 hk2
        exact tail_ref s nm hs true p (p + (dcode s p).2) (by omega) hl (fun h => absurd h hz) (fun z e k hz hps2 h1 he hk => refRead_minus s hs p e z hz hps hcc hps2 h1 he k hk) k (by omega)
      · rw [if_neg hk2]
        have hz : zeroR (headR s (p + (dcode s p).2)) = 0 := by
          by_cases h : zeroR (headR s (p + (dcode s p).2)) = 0
          · exact h
          · exact absurd ((kind_two _).2 h) hk2
        obtain ⟨k, rfl⟩ : ∃ m, k = m + 1 := ⟨k - 1, by omega⟩
        simp only [sorrelref07_bind.j2]
        rw [rune_some (by omega)]
        simp only [Option.bind_some]
        obtain ⟨d1, hd1, _⟩ := digit_is (runeR s ((p + (dcode s p).2 : Nat) : Int))
        rw [zero_head, hz] at hd1
        rw [hd1]
        rfl
    | false =>
      have hc : ¬ (headR s p = 45 ∨ headR s p = 8722) := by
        intro h
        have hps := head_in h
        rw [head_lt hps] at h
        have hg := code_good (s := s) (p := p) (by rcases h with h | h <;> omega)
        have := hb.1 (by rw [runeR_in hps, if_neg (by rw [hg]; decide)]; exact h)
        cases this
      rw [if_neg hc]
      simp only [sorrelref07_bind.j1]
      rw [if_neg (by decide)]
      exact tail_ref s nm hs false p p (Nat.le_refl _) hp (fun _ => rfl) (fun z e k hz hps2 h1 he hk => refRead_plain s hs p e z hz hps2 h1 he k hk) k (by omega)
  by_cases h45 : runeR s p = 45
  · rw [if_pos h45]
    exact hj true ⟨fun _ => rfl, fun _ => .inl h45⟩
  · rw [if_neg h45]
    refine hj _ ⟨fun h => ?_, fun h => .inr (beq_iff_eq.1 h)⟩
    rcases h with h | h
    · exact absurd h h45
    · exact beq_iff_eq.2 h
theorem one_byte {x : ByteArray} (h : x.size = 1) : x = ⟨#[x.get! 0]⟩ := by
  cases x with
  | mk d =>
    obtain ⟨a, rfl⟩ := Array.size_eq_one_iff.1 h
    rfl
theorem byte_of {b : UInt8} (h : b.toNat = 61) : b = 61 := UInt8.toNat_inj.1 h
theorem eqAt_is (s : ByteArray) (p : Nat) (h : p < s.size) : eqAt s p = (bt s p == 61) := by
  have e1 : (⟨#[61]⟩ : ByteArray).size = 1 := rfl
  have hrs := rest_size s p (by omega)
  have hb : bt s p = ((s.get! p).toNat : Int) := by
    rw [← bt_at s p (by simpa using h)]
    have := get_at s p h
    simp only [Int.toNat_natCast]
    rw [show s[p] = s.get! p from by simpa using this.symm]
  have g0 := get_cut (s.extract p s.size) 0 1 0 (by omega) (by omega)
  have g1 := get_cut s p s.size 0 (by omega) (Nat.le_refl _)
  unfold eqAt
  rw [if_neg (by omega), hb, e1]
  by_cases hc : (s.get! p).toNat = 61
  · have h1 : (s.extract p s.size).extract 0 1 = ⟨#[61]⟩ := by
      have hsz : ((s.extract p s.size).extract 0 1).size = 1 := by rw [ByteArray.size_extract]; omega
      have h2 := one_byte hsz
      rw [g0, show 0 + 0 = 0 from rfl, g1, Nat.add_zero, byte_of hc] at h2
      exact h2
    rw [h1]
    rw [beq_iff_eq.2 (show ((s.get! p).toNat : Int) = 61 by omega)]
    exact beq_self_eq_true _
  · rw [beq_eq_false_iff_ne.2 (show ((s.get! p).toNat : Int) ≠ 61 by omega)]
    refine beq_eq_false_iff_ne.2 (fun h2 => hc ?_)
    have h3 := toList_inj h2
    rw [h3] at g0
    rw [show 0 + 0 = 0 from rfl, g1] at g0
    rw [Nat.add_zero] at g0
    rw [← g0]
    rfl
theorem eqAt_out (s : ByteArray) (p : Nat) (h : s.size ≤ p) : eqAt s p = false := by
  have e1 : (⟨#[61]⟩ : ByteArray).size = 1 := rfl
  unfold eqAt
  rw [if_pos (by rw [e1, ByteArray.size_extract]; omega)]
theorem bind_is (s : ByteArray) (hs : s.size ≤ 4096) (p : Nat) (hp : p ≤ s.size) (k : Nat) (hk : 9200 < k) : sorrelref07_bind.f k s (p : Int) = some (refP (bindP s p)) := by
  unfold sorrelref07_bind.f bindP
  rw [span_is s (by omega) p k hp (by omega)]
  simp only [Option.bind_some]
  by_cases h0 : (spanR s p).2 = 0
  · obtain ⟨e, he, hpe, hes⟩ := span_ok h0 hp
    rw [if_pos h0, if_pos h0, he]
    simp only
    rw [if_pos (by omega), if_pos (by omega), if_pos (by omega), Int.toNat_natCast, Int.toNat_natCast, refName_is _ (by rw [ByteArray.size_extract]; omega) k (by rw [ByteArray.size_extract]; omega)]
    simp only [Option.bind_some]
    by_cases hn : nameOk (s.extract p e) = true
    · rw [if_pos hn, if_pos hn, skip_is s (by omega) e k hes (by omega)]
      simp only [Option.bind_some]
      have hk1 := skip_le s e
      generalize skipR s e = p1 at hk1 ⊢
      obtain ⟨k, rfl⟩ : ∃ m, k = m + 1 := ⟨k - 1, by omega⟩
      by_cases hp1 : p1 < s.size
      · rw [if_neg (by omega), if_pos (by omega), if_pos (by omega), eqAt_is s p1 hp1]
        simp only [sorrelref07_bind.j0]
        by_cases hq : bt s p1 = 61
        · rw [if_neg (by rw [bne_iff_ne]; exact fun h => h hq), if_pos (beq_iff_eq.2 hq), show wrap64 ((p1 : Int) + 1) = ((p1 + 1 : Nat) : Int) from by unfold wrap64; omega, skip_is s (by omega) (p1 + 1) k (by omega) (by omega)]
          simp only [Option.bind_some]
          exact sign_ref s _ hs _ (skip_le _ _) k (by omega)
        · rw [if_pos (bne_iff_ne.2 hq), if_neg (by rw [beq_iff_eq]; exact hq)]
          rfl
      · rw [if_pos (by omega), eqAt_out s p1 (by omega), if_neg (by decide)]
        simp only [sorrelref07_bind.j0, if_true]
        rfl
    · rw [if_neg hn, if_neg hn]
      rfl
  · rw [if_neg h0, if_neg h0]
    rfl
end Go.Proofs.YtadlbegecgpaaaaDoor.S
/- Plain law: EnvReads, as printed, answers true. -/
namespace Go.Proofs.YtadlbegecgpaaaaDoor.S
open Go Go.RowKit Go.Proofs.YtadlbegecgpaaaaDoorW.PrintWords
theorem read_l0 (s : ByteArray) (hs : s.size ≤ 4096) : ∀ n p xs k, xs.length + n = 66 → xs.length < 64 → p ≤ s.size → (p < s.size ∨ xs ≠ []) → 9300 + n < k → sorrelref07_Read.l0 k s (p : Int) xs = some (readL s n p xs)
  | 0, p, xs, k, h1, h2, hp, hc, hk => by omega
  | n + 1, p, xs, k, h1, h2, hp, hc, hk => by
    obtain ⟨k, rfl⟩ : ∃ m, k = m + 1 := ⟨k - 1, by omega⟩
    simp only [sorrelref07_Read.l0, readL]
    rw [bind_is s hs p hp k (by omega), if_pos hc]
    simp only [Option.bind_some, refP]
    have hle := bindP_le s p hp
    have hlx : (xs ++ [(⟨(bindP s p).1, (bindP s p).2.1⟩ : S63)]).length = xs.length + 1 := by simp
    by_cases h0 : (bindP s p).2.2.1 = 0
    · rw [if_pos h0, if_pos h0, if_pos (by omega)]
      generalize (bindP s p).2.2.2 = q at hle ⊢
      by_cases he : q = s.size
      · rw [if_pos he, if_pos (by omega)]
      · rw [if_neg he, if_neg (by omega), if_pos (by omega), if_pos (by omega)]
        by_cases h44 : bt s q = 44
        · rw [if_pos h44, if_pos h44]
          by_cases h64 : xs.length + 1 = 64
          · rw [if_pos h64, if_pos (by rw [hlx]; omega)]
          · rw [if_neg h64, if_neg (by rw [hlx]; omega), show wrap64 ((q : Int) + 1) = ((q + 1 : Nat) : Int) from by unfold wrap64; omega, skip_is s (by omega) (q + 1) k (by omega) (by omega)]
            simp only [Option.bind_some]
            exact read_l0 s hs n _ _ k (by rw [hlx]; omega) (by rw [hlx]; omega) (skip_le _ _) (.inr (by simp)) (by omega)
        · rw [if_neg h44, if_neg h44]
    · rw [if_neg h0, if_neg h0]
theorem readL_end (s : ByteArray) (n : Nat) : readL s (n + 1) s.size [] = ([], 0, 0) := by
  simp only [readL]
  rw [if_neg (by rintro (h | h); · omega
                 · exact h rfl)]
theorem refRead_is (s : ByteArray) (hs : s.size ≤ 140737488351232) (k : Nat) (hk : s.size + 9500 < k) : sorrelref07_Read.f k s = env_Read.f s := by
  unfold sorrelref07_Read.f env_Read.f
  rw [if_pos (show s.size ≤ 9223372036854775800 by omega)]
  by_cases hl : 4096 < s.size
  · rw [if_pos hl, if_pos (by omega)]
  · rw [if_neg hl, if_neg (by omega), check_is s (by omega) k (by omega)]
    simp only [Option.bind_some]
    by_cases h0 : (checkR s (s.size + 1) 0).2 = 0
    · have hsk := skip_is s (by omega) 0 k (by omega) (by omega)
      rw [if_pos h0, if_pos h0, show (0 : Int) = ((0 : Nat) : Int) from rfl, hsk]
      simp only [Option.bind_some]
      have hle := skip_le s 0
      by_cases he : skipR s 0 = s.size
      · rw [if_pos (by omega), he]
        exact congrArg some (readL_end s 65).symm
      · rw [if_neg (by omega)]
        exact read_l0 s (by omega) 66 _ [] k rfl (by decide) hle (.inl (by omega)) (by omega)
    · rw [if_neg h0, if_neg h0]
theorem readL_len (s : ByteArray) : ∀ n p xs, (readL s n p xs).1.length ≤ xs.length + n
  | 0, p, xs => by simp [readL]
  | n + 1, p, xs => by
    simp only [readL]
    repeat' split
    · simp
    · simp
    · have := readL_len s n (skipR s ((bindP s p).2.2.2 + 1)) (xs ++ [(⟨(bindP s p).1, (bindP s p).2.1⟩ : S63)])
      rw [List.length_append, List.length_singleton] at this
      omega
    · simp
    · simp
    · exact Nat.le_add_right _ _
theorem EnvReads_pure (s : ByteArray) (hs : s.size ≤ 140737488351232) (k : Nat) (hk : s.size + 9500 < k) : sorrellaw07_EnvReads.f k s = some true := by
  unfold sorrellaw07_EnvReads.f
  rw [awake_is k (by omega), refRead_is s hs k hk]
  simp only [Option.bind_some, if_true]
  have hr : ∃ r, env_Read.f s = some r ∧ r.1.length ≤ 66 := by
    unfold env_Read.f
    rw [if_pos (by omega)]
    refine ⟨_, rfl, ?_⟩
    split
    · simp
    · split
      · exact Nat.le_trans (readL_len s 66 _ []) (by simp)
      · simp
  obtain ⟨r, hr, hl⟩ := hr
  rw [hr]
  simp only [Option.bind_some]
  rw [same_is _ (by omega) k (by omega)]
  simp
end Go.Proofs.YtadlbegecgpaaaaDoor.S
