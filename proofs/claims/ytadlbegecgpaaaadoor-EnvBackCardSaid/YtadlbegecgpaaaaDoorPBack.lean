/- Plain law: EnvBack, as printed, answers true: Read of Text is the environment. -/
import Derived.Test.YtadlbegecgpaaaaDoorPText
import Derived.Test.YtadlbegecgpaaaaDoorPEnvPlays
import Derived.Test.YtadlbegecgpaaaaDoorPD
import Derived.Test.YtadlbegecgpaaaaDoorJ1
set_option linter.unusedVariables false
namespace Go.Proofs.YtadlbegecgpaaaaDoor.S
open Go Go.RowKit Go.Proofs.YtadlbegecgpaaaaDoorW.PrintWords
/-- Binds as a text: behind each but the last some blanks, a comma, a blank. -/
def itemsT : List (S63 × Nat) → List UInt8
  | [] => []
  | [x] => oneL x.1
  | x :: y :: r => oneL x.1 ++ (List.replicate x.2 32 ++ (44 :: 32 :: itemsT (y :: r)))
/-- What may stand behind a bind. -/
def Behind (r : List UInt8) : Prop := r = [] ∨ ∃ (a : Nat) (r' : List UInt8), r = List.replicate a 32 ++ (44 :: r')
theorem behind_head {r : List UInt8} (h : Behind r) : r = [] ∨ ∃ (c : UInt8) (r' : List UInt8), r = c :: r' ∧ (c = 32 ∨ c = 44) := by
  rcases h with rfl | ⟨a, r', rfl⟩
  · exact .inl rfl
  · right
    cases a with
    | zero => exact ⟨44, r', rfl, .inr rfl⟩
    | succ a => exact ⟨32, _, by rw [List.replicate_succ, List.cons_append], .inl rfl⟩
theorem behind_halts {f : Int → Bool} (h32 : f 32 = false) (h44 : f 44 = false) {s : ByteArray} {p : Nat} {r : List UInt8} (h : Suf s p r) (hb : Behind r) : Halts f s p := by
  rcases behind_head hb with rfl | ⟨c, r', rfl, rfl | rfl⟩
  · exact h.halts_nil
  · exact h.halts (by decide) h32
  · exact h.halts (by decide) h44
theorem skip_blanks {s : ByteArray} : ∀ {a p : Nat} {r : List UInt8}, Suf s p (List.replicate a 32 ++ r) → skipR s p = skipR s (p + a)
  | 0, p, r, _ => rfl
  | a + 1, p, r, h => by
    rw [List.replicate_succ, List.cons_append] at h
    rw [skip_one h (by decide) (by decide), skip_blanks h.tail]
    congr 1
    omega
theorem itoa_split (n : Int) (hn : inI64 n) : (∃ ds, Lib.itoa n = ds ∧ Dec ds ∧ ds ≠ [] ∧ 0 ≤ n ∧ (decV 0 ds : Int) = n) ∨ ∃ ds, Lib.itoa n = 45 :: ds ∧ Dec ds ∧ ds ≠ [] ∧ n < 0 ∧ (decV 0 ds : Int) = -n := by
  by_cases h : n < 0
  · right
    obtain ⟨h1, h2, h3⟩ := dec_digits n.natAbs
    refine ⟨Lib.decDigits n.natAbs, ?_, h1, h3, h, by rw [h2]; omega⟩
    unfold Lib.itoa
    rw [if_pos h]
  · left
    obtain ⟨h1, h2, h3⟩ := dec_digits n.toNat
    exact ⟨Lib.decDigits n.toNat, by unfold Lib.itoa; rw [if_neg h], h1, h3, by omega, by rw [h2]; omega⟩
theorem tail_dec {s nm : ByteArray} {p : Nat} {ds r : List UInt8} (h : Suf s p (ds ++ r)) (hd : Dec ds) (h0 : ds ≠ []) (hb : Behind r) (mn : Bool) (hv : decV 0 ds ≤ (if mn = true then 9223372036854775808 else 9223372036854775807)) :
    tailP s nm mn p = (nm, (if mn = true then -(decV 0 ds : Int) else (decV 0 ds : Int)), 0, skipR s (p + ds.length)) := by
  have hn := number_dec h hd h0 (behind_halts (by decide) (by decide) h.app hb) (by cases mn <;> simp at hv <;> omega)
  unfold tailP
  rw [hn]
  simp only
  rw [if_neg (by decide), if_neg (by decide), Int.toNat_natCast, Int.toNat_natCast]
  have hr : readV mn (decV 0 ds) = ((if mn = true then -(decV 0 ds : Int) else (decV 0 ds : Int)), 0) := by unfold readV; rw [if_pos hv]
  rw [hr, if_pos rfl]
theorem dec_head {s : ByteArray} {p : Nat} {ds r : List UInt8} (h : Suf s p (ds ++ r)) (hd : Dec ds) (h0 : ds ≠ []) : ∃ c : Nat, headR s p = (c : Int) ∧ 48 ≤ c ∧ c ≤ 57 := by
  obtain ⟨c, l, rfl⟩ := List.exists_cons_of_ne_nil h0
  rw [List.cons_append] at h
  have hc := hd c List.mem_cons_self
  refine ⟨c.toNat, ?_, hc⟩
  unfold headR
  rw [if_pos h.lt, h.ascii (by omega)]
theorem sign_text {s nm : ByteArray} {p : Nat} {n : Int} {r : List UInt8} (h : Suf s p (Lib.itoa n ++ r)) (hn : inI64 n) (hb : Behind r) : signP s nm p = (nm, n, 0, skipR s (p + (Lib.itoa n).length)) := by
  unfold signP
  rcases itoa_split n hn with ⟨ds, e, hd, h0, hp, hv⟩ | ⟨ds, e, hd, h0, hp, hv⟩
  · rw [e] at h ⊢
    obtain ⟨c, hc, h1, h2⟩ := dec_head h hd h0
    rw [hc, if_neg (by omega), tail_dec h hd h0 hb false (by simp; unfold inI64 at hn; omega)]
    simp [hv]
  · rw [e] at h ⊢
    rw [List.cons_append] at h
    have ha := h.ascii (by decide)
    have hh : headR s p = 45 := by unfold headR; rw [if_pos h.lt, ha]; rfl
    obtain ⟨c, hc, h1, h2⟩ := dec_head h.tail hd h0
    have hk : kindR (headR s (p + 1)) = 2 := by
      rw [hc]
      unfold kindR
      have hl : ¬ letterR (c : Int) = true := by
        unfold letterR
        simp only [List.any_cons, List.any_nil, Bool.or_eq_true, Bool.and_eq_true, decide_eq_true_eq, Bool.false_eq_true, or_false]
        omega
      rw [if_neg hl, if_pos (by rw [zero_dec ⟨h1, h2⟩]; decide)]
    rw [hh, if_pos (.inl rfl), ha]
    simp only
    rw [if_pos hk, tail_dec h.tail hd h0 hb true (by simp; unfold inI64 at hn; omega), List.length_cons]
    simp only [if_true, Prod.mk.injEq, true_and]
    refine ⟨by omega, by congr 1; omega⟩
/-- The reader at a bind that Text wrote. -/
theorem bind_text {s : ByteArray} {p : Nat} {b : S63} {r : List UInt8} (h : Suf s p (oneL b ++ r)) (hn : nameOk b.f0 = true) (hv : inI64 b.f1) (hb : Behind r) : bindP s p = (b.f0, b.f1, 0, skipR s (p + (oneL b).length)) := by
  have hs : oneL b ++ r = b.f0.data.toList ++ (61 :: (Lib.itoa b.f1 ++ r)) := by unfold oneL; simp
  rw [hs] at h
  have h1 := h.app
  rw [Array.length_toList] at h1
  have ez : b.f0.data.size = b.f0.size := rfl
  rw [ez] at h1
  obtain ⟨hsp, hcut, _⟩ := span_name h hn (h1.halts (by decide) (by decide))
  unfold bindP
  rw [hsp]
  simp only
  rw [if_pos trivial, Int.toNat_natCast, hcut, if_pos hn, skip_stay h1.1 (h1.halts (by decide) (by decide))]
  have hq : eqAt s (p + b.f0.size) = true := by rw [eqAt_is s _ h1.lt, h1.bt]; rfl
  rw [if_pos hq]
  have h2 := h1.tail
  have hst : skipR s (p + b.f0.size + 1) = p + b.f0.size + 1 := by
    refine skip_stay h2.1 ?_
    rcases itoa_split b.f1 hv with ⟨ds, e, hd, h0, _⟩ | ⟨ds, e, hd, h0, _⟩
    · rw [e] at h2
      obtain ⟨c, l, rfl⟩ := List.exists_cons_of_ne_nil h0
      rw [List.cons_append] at h2
      have hc := hd c List.mem_cons_self
      refine h2.halts (by omega) ?_
      unfold blankK kindR
      have hl : ¬ letterR (c.toNat : Int) = true := by
        unfold letterR
        simp only [List.any_cons, List.any_nil, Bool.or_eq_true, Bool.and_eq_true, decide_eq_true_eq, Bool.false_eq_true, or_false]
        omega
      rw [if_neg hl, if_pos (by rw [zero_dec hc]; decide)]
      rfl
    · rw [e, List.cons_append] at h2
      exact h2.halts (by decide) (by decide)
  rw [hst, sign_text h2 hv hb]
  have el : (oneL b).length = b.f0.size + (1 + (Lib.itoa b.f1).length) := by
    unfold oneL
    rw [List.length_append, List.length_append, Array.length_toList, ez, List.length_singleton]
    omega
  rw [el, show p + (b.f0.size + (1 + (Lib.itoa b.f1).length)) = p + b.f0.size + 1 + (Lib.itoa b.f1).length by omega]
theorem skip_name {s : ByteArray} {p : Nat} {b : S63} {r : List UInt8} (h : Suf s p (oneL b ++ r)) (hn : nameOk b.f0 = true) : skipR s p = p := by
  have hs : oneL b ++ r = b.f0.data.toList ++ (61 :: (Lib.itoa b.f1 ++ r)) := by unfold oneL; simp
  rw [hs] at h
  obtain ⟨h0, h1⟩ := name_head hn
  have hi : inNameR ((dcode b.f0 0).1 : Int) = true := by unfold inNameR; rw [h1]; rfl
  have hd := head_copy h h0 (bad_inName hi)
  refine skip_stay h.1 (fun _ => ?_)
  rw [hd]
  unfold blankK
  rw [h1]
  rfl
def okItems (l : List (S63 × Nat)) : Prop := ∀ x ∈ l, nameOk x.1.f0 = true ∧ inI64 x.1.f1
theorem oneL_pos (b : S63) : 0 < (oneL b).length := by
  unfold oneL
  rw [List.length_append, List.length_append, List.length_singleton]
  omega
theorem items_cons (x y : S63 × Nat) (r : List (S63 × Nat)) : itemsT (x :: y :: r) = oneL x.1 ++ (List.replicate x.2 32 ++ (44 :: 32 :: itemsT (y :: r))) := rfl
theorem items_head (y : S63 × Nat) (r : List (S63 × Nat)) : ∃ r', itemsT (y :: r) = oneL y.1 ++ r' := by
  cases r with
  | nil => exact ⟨[], by rw [List.append_nil]; rfl⟩
  | cons z r => exact ⟨_, rfl⟩
theorem read_items {s : ByteArray} : ∀ (l : List (S63 × Nat)) (n p : Nat) (xs : List S63), l ≠ [] → Suf s p (itemsT l) → okItems l → xs.length < 64 → xs.length + n = 66 →
    (xs.length + l.length ≤ 64 → readL s n p xs = (xs ++ l.map (·.1), 0, 0)) ∧ (64 < xs.length + l.length → (readL s n p xs).2.2 = 10)
  | [], _, _, _, h, _, _, _, _ => absurd rfl h
  | [x], n, p, xs, _, h, hok, hx, hn => by
    obtain ⟨n, rfl⟩ : ∃ m, n = m + 1 := ⟨n - 1, by omega⟩
    refine ⟨fun _ => ?_, fun hc => by simp at hc; omega⟩
    obtain ⟨h1, h2⟩ := hok x (by simp)
    have h' : Suf s p (oneL x.1 ++ []) := by rw [List.append_nil]; exact h
    have hb := bind_text h' h1 h2 (.inl rfl)
    have he := h'.app
    have hsz := he.nil
    have hp : p < s.size := by
      have : 0 < (oneL x.1).length := oneL_pos _
      omega
    simp only [readL]
    rw [if_pos (.inl hp), hb]
    simp only
    rw [if_pos trivial, skip_nil he, if_pos hsz]
    simp
  | x :: y :: r, n, p, xs, _, h, hok, hx, hn => by
    obtain ⟨n, rfl⟩ : ∃ m, n = m + 1 := ⟨n - 1, by omega⟩
    obtain ⟨h1, h2⟩ := hok x (by simp)
    rw [items_cons] at h
    have hb := bind_text h h1 h2 (.inr ⟨_, _, rfl⟩)
    have he := h.app
    have hp : p < s.size := by
      have hl := h.len
      rw [List.length_append] at hl
      have : 0 < (oneL x.1).length := oneL_pos _
      omega
    have hc := he.app
    rw [List.length_replicate] at hc
    have hq : skipR s (p + (oneL x.1).length) = p + (oneL x.1).length + x.2 := by
      rw [skip_blanks he, skip_stay hc.1 (hc.halts (by decide) (by decide))]
    have hlt := hc.lt
    obtain ⟨r', hr'⟩ := items_head y r
    have h3 := hc.tail.tail
    have hyok := hok y (by simp)
    have hsk : skipR s (p + (oneL x.1).length + x.2 + 1) = p + (oneL x.1).length + x.2 + 1 + 1 := by
      rw [skip_one hc.tail (by decide) (by decide)]
      rw [hr'] at h3
      exact skip_name h3 hyok.1
    have hxl : (xs ++ [x.1]).length = xs.length + 1 := by simp
    simp only [readL]
    rw [if_pos (.inl hp), hb]
    simp only
    rw [if_pos trivial, hq, if_neg (by omega), if_pos (by rw [hc.bt]; rfl)]
    by_cases h64 : xs.length + 1 = 64
    · rw [if_pos h64]
      exact ⟨fun hcc => by simp at hcc; omega, fun _ => rfl⟩
    · rw [if_neg h64, hsk]
      have ih := read_items (y :: r) n _ (xs ++ [x.1]) (by simp) h3 (fun z hz => hok z (List.mem_cons_of_mem _ hz)) (by rw [hxl]; omega) (by rw [hxl]; omega)
      rw [hxl] at ih
      simp only [List.length_cons] at ih ⊢
      refine ⟨fun hcc => ?_, fun hcc => ih.2 (by omega)⟩
      rw [ih.1 (by omega)]
      simp
theorem chk_one {s : ByteArray} {p : Nat} {b : S63} {r : List UInt8} (h : Suf s p (oneL b ++ r)) (hn : nameOk b.f0 = true) (hv : inI64 b.f1) : chk s p = chk s (p + (oneL b).length) := by
  have hs : oneL b ++ r = b.f0.data.toList ++ ((61 :: Lib.itoa b.f1) ++ r) := by unfold oneL; simp
  have el : (oneL b).length = b.f0.size + (61 :: Lib.itoa b.f1).length := by
    unfold oneL
    rw [List.length_append, List.length_append, Array.length_toList, List.length_singleton, List.length_cons]
    have : b.f0.data.size = b.f0.size := rfl
    omega
  rw [hs] at h
  have h1 := h.app
  rw [Array.length_toList] at h1
  have ez : b.f0.data.size = b.f0.size := rfl
  rw [ez] at h1
  have h1' : Suf s (p + b.f0.size) (61 :: (Lib.itoa b.f1 ++ r)) := h1
  rw [chk_name h hn (h1'.halts (by decide) (by decide)), el, ← Nat.add_assoc]
  refine chk_ascii h1 (fun c hc => ?_)
  rcases List.mem_cons.1 hc with rfl | hc
  · decide
  · rcases itoa_split b.f1 hv with ⟨ds, e, hd, _⟩ | ⟨ds, e, hd, _⟩
    · rw [e] at hc
      have := hd c hc
      omega
    · rw [e] at hc
      rcases List.mem_cons.1 hc with rfl | hc
      · decide
      · have := hd c hc
        omega
theorem chk_items {s : ByteArray} : ∀ (l : List (S63 × Nat)) (p : Nat), Suf s p (itemsT l) → okItems l → chk s p = (0, 0)
  | [], p, h, _ => by rw [h.nil]; exact chk_end s
  | [x], p, h, hok => by
    obtain ⟨h1, h2⟩ := hok x (by simp)
    have h' : Suf s p (oneL x.1 ++ []) := by rw [List.append_nil]; exact h
    rw [chk_one h' h1 h2, h'.app.nil]
    exact chk_end s
  | x :: y :: r, p, h, hok => by
    obtain ⟨h1, h2⟩ := hok x (by simp)
    rw [items_cons] at h
    have he := h.app
    have he2 : Suf s (p + (oneL x.1).length) ((List.replicate x.2 32 ++ [44, 32]) ++ itemsT (y :: r)) := by
      rw [List.append_assoc]; exact he
    rw [chk_one h h1 h2, chk_ascii he2 (fun c hc => by
      rcases List.mem_append.1 hc with hc | hc
      · rw [(List.mem_replicate.1 hc).2]; decide
      · simp at hc
        rcases hc with rfl | rfl <;> decide)]
    exact chk_items (y :: r) _ he2.app (fun z hz => hok z (List.mem_cons_of_mem _ hz))
/-- Read of such a text. -/
theorem read_text {s : ByteArray} {l : List (S63 × Nat)} (hs : s.data.toList = itemsT l) (hok : okItems l) (hz : s.size ≤ 4096) :
    (l.length ≤ 64 → env_Read.f s = some (l.map (·.1), 0, 0)) ∧ (64 < l.length → ∃ r, env_Read.f s = some r ∧ r.2.2 = 10) := by
  have h0 : Suf s 0 (itemsT l) := by rw [← hs]; exact suf_zero s
  have hck : checkR s (s.size + 1) 0 = (0, 0) := chk_items l 0 h0 hok
  have he : env_Read.f s = some (readL s 66 (skipR s 0) []) := by
    unfold env_Read.f
    rw [if_pos (by omega), if_neg (by omega), hck, if_pos rfl]
  rw [he]
  cases l with
  | nil =>
    have h1 : s.size = 0 := (h0.nil).symm
    refine ⟨fun _ => ?_, fun h => by simp at h⟩
    rw [skip_nil h0]
    have h2 := readL_end s 65
    rw [h1] at h2
    exact congrArg some h2
  | cons x r =>
    obtain ⟨r', hr'⟩ := items_head x r
    have hsk : skipR s 0 = 0 := by
      have := h0
      rw [hr'] at this
      exact skip_name this (hok x (by simp)).1
    rw [hsk]
    obtain ⟨g1, g2⟩ := read_items (x :: r) 66 0 [] (by simp) h0 hok (by simp) rfl
    simp only [List.length_nil, Nat.zero_add, List.nil_append] at g1 g2
    exact ⟨fun h => congrArg some (g1 h), fun h => ⟨_, rfl, g2 h⟩⟩
theorem tail_sep (a : List UInt8) (r : List (List UInt8)) : Lib.joinTail sepL (a :: r) = 44 :: 32 :: (a ++ Lib.joinTail sepL r) := by
  have e : Lib.joinTail sepL (a :: r) = (sepL ++ a) ++ Lib.joinTail sepL r := by
    unfold Lib.joinTail
    rw [List.map_cons, List.flatten_cons]
  rw [e, List.append_assoc]
  rfl
theorem join_items : ∀ (l : List S63), itemsT (l.map fun b => (b, 0)) = Lib.join (l.map oneL) sepL
  | [] => by simp [itemsT, Lib.join_nil]
  | [x] => by simp [itemsT, Lib.join_one]
  | x :: y :: r => by
    have ih := join_items (y :: r)
    rw [List.map_cons, List.map_cons, items_cons]
    rw [List.map_cons] at ih
    rw [ih, List.map_cons, List.map_cons, Lib.join_cons, Lib.join_cons, List.map_cons, tail_sep]
    rfl
/-- The last of l bears one blank more behind it. -/
def seam : List S63 → List S63 → List (S63 × Nat)
  | [], m => m.map fun b => (b, 0)
  | [x], m => (x, 1) :: m.map fun b => (b, 0)
  | x :: y :: r, m => (x, 0) :: seam (y :: r) m
theorem map_nul : ∀ (m : List S63), (m.map fun b => ((b, 0) : S63 × Nat)).map (·.1) = m
  | [] => rfl
  | b :: m => congrArg (b :: ·) (map_nul m)
theorem seam_fst : ∀ (l m : List S63), (seam l m).map (·.1) = l ++ m
  | [], m => map_nul m
  | [x], m => congrArg (x :: ·) (map_nul m)
  | x :: y :: r, m => congrArg (x :: ·) (seam_fst (y :: r) m)
theorem seam_text : ∀ (l m : List S63), l ≠ [] → m ≠ [] → itemsT (seam l m) = Lib.join (l.map oneL) sepL ++ ([32, 44, 32] ++ Lib.join (m.map oneL) sepL)
  | [], m, h, _ => absurd rfl h
  | [x], m, _, hm => by
    obtain ⟨b, m, rfl⟩ := List.exists_cons_of_ne_nil hm
    have := join_items (b :: m)
    rw [List.map_cons] at this
    rw [show seam [x] (b :: m) = (x, 1) :: (b, 0) :: m.map (fun b => (b, 0)) from rfl, items_cons, this]
    simp [Lib.join_one]
  | x :: y :: r, m, _, hm => by
    have ih := seam_text (y :: r) m (by simp) hm
    have hne : ∃ a t, seam (y :: r) m = a :: t := by
      cases r with
      | nil => exact ⟨_, _, rfl⟩
      | cons z r => exact ⟨_, _, rfl⟩
    obtain ⟨a, t, ha⟩ := hne
    rw [ha] at ih
    rw [show seam (x :: y :: r) m = (x, 0) :: seam (y :: r) m from rfl, ha, items_cons, ih, List.map_cons, List.map_cons, Lib.join_cons, Lib.join_cons, List.map_cons, tail_sep, List.replicate_zero, List.nil_append, List.append_assoc, List.cons_append, List.cons_append, List.append_assoc]
    simp only [List.cons_append, List.append_assoc]
theorem textE_cases (l : List S63) : ((textE l).2 = 0 ∧ l.all (fun b => nameOk b.f0) = true ∧ l.length ≤ 64 ∧ (textE l).1 = Lib.join (l.map oneL) sepL) ∨ ((textE l).2 ≠ 0 ∧ (textE l).1 = []) := by
  unfold textE
  by_cases h : l.all (fun b => nameOk b.f0) = true
  · rw [if_pos h]
    by_cases h64 : 64 < l.length
    · rw [if_pos h64]; exact .inr ⟨by decide, rfl⟩
    · rw [if_neg h64]; exact .inl ⟨rfl, h, by omega, rfl⟩
  · rw [if_neg h]; exact .inr ⟨by decide, rfl⟩
theorem wrap_sum3 {a b : Nat} (ha : a ≤ 10000) (hb : b ≤ 10000) : wrap64 (wrap64 ((a : Int) + (b : Int)) + 3) = (a : Int) + b + 3 := by unfold wrap64; omega
theorem wrap_sum {a b : Nat} (ha : a ≤ 10000) (hb : b ≤ 10000) : wrap64 ((a : Int) + (b : Int)) = (a : Int) + b := by unfold wrap64; omega
theorem EnvBack_pure (l m : List S63) (hl : l.length < 5864062014805) (hm : m.length < 5864062014805) (okl : okEnv l) (okm : okEnv m) (k : Nat) (hk : l.length + m.length + 200 < k) : sorrellaw07_EnvBack.f k l m = some true := by
  obtain ⟨s, hs, hs2⟩ := text_is l hl okl k (by omega)
  obtain ⟨t, ht, ht2⟩ := text_is m hm okm k (by omega)
  unfold sorrellaw07_EnvBack.f
  rw [awake_is k (by omega), copied_is l hl, copied_is m hm]
  simp only [Option.bind_some, if_true]
  rw [hs]
  simp only [Option.bind_some]
  rw [ht]
  simp only [Option.bind_some]
  obtain ⟨k, rfl⟩ : ∃ q, k = q + 1 := ⟨k - 1, by omega⟩
  rcases textE_cases l with ⟨e0, hal, hl64, hst⟩ | ⟨e0, hst⟩
  · rw [if_pos e0]
    rw [hst] at hs2
    by_cases hbig : 4096 < s.size
    · rw [decide_eq_true (by omega)]
      simp only [sorrellaw07_EnvBack.j0, if_true]
      rw [if_pos e0]
    · rw [decide_eq_false (by omega)]
      have hoki : okItems (l.map fun b => (b, 0)) := fun x hx => by
        obtain ⟨b, hb, rfl⟩ := List.mem_map.1 hx
        exact ⟨List.all_eq_true.1 hal b hb, (okl b hb).2⟩
      have hr := (read_text (l := l.map fun b => (b, 0)) (by rw [hs2, join_items]) hoki (by omega)).1 (by simpa using hl64)
      have hmap := map_nul l
      rw [hmap] at hr
      simp only [sorrellaw07_EnvBack.j0]
      rw [if_neg (by decide), hr]
      simp only [Option.bind_some, if_true]
      rw [same_is l (by omega) k (by omega)]
      simp only [Option.bind_some, Bool.not_true]
      obtain ⟨k, rfl⟩ : ∃ q, k = q + 1 := ⟨k - 1, by omega⟩
      simp only [sorrellaw07_EnvBack.j1]
      rw [if_neg (by decide)]
      obtain ⟨k, rfl⟩ : ∃ q, k = q + 1 := ⟨k - 1, by omega⟩
      have jt : sorrellaw07_EnvBack.j2 (k + 1) l m s t true = some true := by simp only [sorrellaw07_EnvBack.j2, if_true]
      rcases textE_cases m with ⟨f0, ham, hm64, hmt⟩ | ⟨f0, hmt⟩
      · rw [if_pos f0]
        rw [hmt] at ht2
        by_cases l0 : l.length = 0
        · rw [if_pos (by omega)]; exact jt
        · rw [if_neg (by omega)]
          by_cases m0 : m.length = 0
          · rw [if_pos (by omega)]; exact jt
          · rw [if_neg (by omega)]
            have hts : t.size ≤ 5632 := by
              have h1 := join_len sepL 86 (m.map oneL) (text_ok okm ham)
              rw [← ht2, Array.length_toList, List.length_map] at h1
              have e2 : sepL.length = 2 := rfl
              rw [e2] at h1
              have : t.data.size = t.size := rfl
              omega
            rw [wrap_sum3 (by omega) (by omega)]
            by_cases hbg : 4096 < s.size + t.size + 3
            · rw [decide_eq_true (by omega)]; exact jt
            · rw [decide_eq_false (by omega)]
              simp only [sorrellaw07_EnvBack.j2]
              rw [if_neg (by decide), if_pos (by omega), if_pos (by omega)]
              have hlne : l ≠ [] := fun h => l0 (by rw [h]; rfl)
              have hmne : m ≠ [] := fun h => m0 (by rw [h]; rfl)
              have hoks : okItems (seam l m) := fun x hx => by
                have h1 : x.1 ∈ l ++ m := by rw [← seam_fst l m]; exact List.mem_map.2 ⟨x, hx, rfl⟩
                rcases List.mem_append.1 h1 with h1 | h1
                · exact ⟨List.all_eq_true.1 hal _ h1, (okl _ h1).2⟩
                · exact ⟨List.all_eq_true.1 ham _ h1, (okm _ h1).2⟩
              have hcat : ((s ++ (⟨#[32, 44, 32]⟩ : ByteArray)) ++ t).data.toList = itemsT (seam l m) := by
                rw [seam_text l m hlne hmne, append_data, append_data, hs2, ht2, List.append_assoc]
              have hsz : ((s ++ (⟨#[32, 44, 32]⟩ : ByteArray)) ++ t).size = s.size + 3 + t.size := by
                rw [ByteArray.size_append, ByteArray.size_append]; rfl
              have hlen : (seam l m).length = l.length + m.length := by
                have := congrArg List.length (seam_fst l m)
                rw [List.length_map, List.length_append] at this
                exact this
              obtain ⟨g1, g2⟩ := read_text hcat hoks (by rw [hsz]; omega)
              rw [wrap_sum (by omega) (by omega)]
              by_cases h64 : 64 < l.length + m.length
              · obtain ⟨r, hr2, hr3⟩ := g2 (by rw [hlen]; exact h64)
                rw [hr2]
                simp only [Option.bind_some]
                rw [if_pos (by omega), hr3]
                rfl
              · have hr2 := g1 (by rw [hlen]; omega)
                rw [seam_fst] at hr2
                rw [hr2]
                simp only [Option.bind_some]
                rw [if_neg (by omega)]
                rw [if_pos trivial, copied_is l hl]
                simp only [Option.bind_some]
                rw [if_pos (by omega), same_is (l ++ m) (by rw [List.length_append]; omega) k (by rw [List.length_append]; omega)]
                rfl
      · rw [if_neg f0]; exact jt
  · rw [if_neg e0]
    simp only [sorrellaw07_EnvBack.j0, if_true]
    rw [if_neg e0]
    have : s.toList = [] := by rw [ByteArray.toList_eq, hs2, hst]
    rw [this]
    simp
end Go.Proofs.YtadlbegecgpaaaaDoor.S
