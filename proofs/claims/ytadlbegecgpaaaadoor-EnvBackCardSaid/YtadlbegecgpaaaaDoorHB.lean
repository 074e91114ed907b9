/- Folded: H1, H2, H3, H4. -/
import Derived.Test.YtadlbegecgpaaaaDoorK1
import Derived.Test.YtadlbegecgpaaaaDoorHA
import Derived.Lib.OthersKept
import Derived.Test.YtadlbegecgpaaaaDoorShelf
import Derived.Test.YtadlbegecgpaaaaDoorA1
namespace Go.Proofs.YtadlbegecgpaaaaDoor.S
open Go Go.RowKit Go.Proofs.YtadlbegecgpaaaaDoorW.PrintWords Go.Proofs.YtadlbegecgpaaaaDoorW.PrintLast Go.Proofs.YtadlbegecgpaaaaDoorW.PrintMore
theorem gZeros : Tryd.prog.globalNamed "sorrel/runes.zeros" = some 1 := by kernel_rfl
theorem gLetters : Tryd.prog.globalNamed "sorrel/runes.letters" = some 0 := by kernel_rfl
theorem zeros_cell {w : World} (h : LetL w) : ∀ i, i < 3 → w.cell? ⟨1, i, none⟩ = some (.int .i32 ([48, 1632, 65296].getD i 0)) := fun i hi => by
  have h3 := h.2.cell gZeros i hi
  simpa using h3
def runes_zero.f (a0 : Int) : Option (Int × Bool) := some (zeroR a0, decide (zeroR a0 ≠ 0))
theorem ret_ib {a a' : Int} {b b' : Bool} (h : a = a') (h' : b = b') : Ending.returned (.tuple #[.int .i32 a, .bool b]) = .returned (.tuple #[.int .i32 a', .bool b']) := by rw [h, h']
theorem zero_is {a0 r1 : Int} {r2 : Bool} (h : runes_zero.f a0 = some (r1, r2)) (z : Int) (hz : zeroR a0 = z) : z = r1 ∧ decide (z ≠ 0) = r2 := by
  subst hz
  simpa [runes_zero.f] using h
set_option maxHeartbeats 1000000 in
set_option maxRecDepth 100000 in
theorem runes_zero.calls (a0 : Int) (r1 : Int) (r2 : Bool) (w : World) (hGL : Kd.C kGL w GAL 1 [()]) (h : runes_zero.f a0 = some (r1, r2)) :
    Calls Tryd.prog 110 #[.int .i32 a0] w fun e w' => e = .returned (.tuple #[.int .i32 r1, .bool r2]) ∧ Drawn0 w w' := by
  have hL := ghostL hGL
  clear hGL
  have h0 : w.cell? ⟨1, 0, none⟩ = some (.int .i32 48) := zeros_cell hL 0 (by decide)
  have h1 : w.cell? ⟨1, 1, none⟩ = some (.int .i32 1632) := zeros_cell hL 1 (by decide)
  have h2 : w.cell? ⟨1, 2, none⟩ = some (.int .i32 65296) := zeros_cell hL 2 (by decide)
  clear hL
  have ix : ∀ w : World, (Instr.index 174 (.agg #[.int .i32 48, .int .i32 1632, .int .i32 65296]) (.int .i64 0)).run Tryd.prog w = .ok (.int .i32 48) w ∧ (Instr.index 174 (.agg #[.int .i32 48, .int .i32 1632, .int .i32 65296]) (.int .i64 1)).run Tryd.prog w = .ok (.int .i32 1632) w ∧ (Instr.index 174 (.agg #[.int .i32 48, .int .i32 1632, .int .i32 65296]) (.int .i64 2)).run Tryd.prog w = .ok (.int .i32 65296) w := fun _ => ⟨by kernel_rfl, by kernel_rfl, by kernel_rfl⟩
  have ix0 := fun w => (ix w).1
  have ix1 := fun w => (ix w).2.1
  have ix2 := fun w => (ix w).2.2
  clear ix
  have HH := Aside0.mk h
  clear h
  go_enter Tryd.func110, Tryd.ntmps110
  go_wp2
  go_loop [7] (fun i => ∃ k : Nat, k ≤ 3 ∧ i = .int .i64 k ∧ Aside0 ((1 ≤ k → ¬ (48 ≤ a0 ∧ a0 ≤ 57)) ∧ (2 ≤ k → ¬ (1632 ≤ a0 ∧ a0 ≤ 1641)) ∧ (3 ≤ k → ¬ (65296 ≤ a0 ∧ a0 ≤ 65305)))) (fun i => 3 - (intOf i).toNat)
  case atStart => exact ⟨0, by omega, rfl, ⟨by omega, by omega, by omega⟩⟩
  case round =>
    obtain ⟨k, hk, rfl, hn⟩ := hrel
    have hk4 : k = 0 ∨ k = 1 ∨ k = 2 ∨ k = 3 := by omega
    rcases hk4 with rfl | rfl | rfl | rfl
    · go_wp2
      · have e := zero_is HH.out 48 (by unfold zeroR; rw [if_pos (by omega)])
        go_ret2
        exact ⟨ret_ib e.1 e.2, Drawn0.refl _⟩
      · go_round
        case rel => exact ⟨1, by omega, rfl, ⟨by omega, by omega, by omega⟩⟩
        case measure => simp [intOf]
      · go_round
        case rel => exact ⟨1, by omega, rfl, ⟨by omega, by omega, by omega⟩⟩
        case measure => simp [intOf]
    · have hn := hn.out
      go_wp2
      · have e := zero_is HH.out 1632 (by unfold zeroR; rw [if_neg (by omega), if_pos (by omega)])
        go_ret2
        exact ⟨ret_ib e.1 e.2, Drawn0.refl _⟩
      · go_round
        case rel => exact ⟨2, by omega, rfl, ⟨by omega, by omega, by omega⟩⟩
        case measure => simp [intOf]
      · go_round
        case rel => exact ⟨2, by omega, rfl, ⟨by omega, by omega, by omega⟩⟩
        case measure => simp [intOf]
    · have hn := hn.out
      go_wp2
      · have e := zero_is HH.out 65296 (by unfold zeroR; rw [if_neg (by omega), if_neg (by omega), if_pos (by omega)])
        go_ret2
        exact ⟨ret_ib e.1 e.2, Drawn0.refl _⟩
      · go_round
        case rel => exact ⟨3, by omega, rfl, ⟨by omega, by omega, by omega⟩⟩
        case measure => simp [intOf]
      · go_round
        case rel => exact ⟨3, by omega, rfl, ⟨by omega, by omega, by omega⟩⟩
        case measure => simp [intOf]
    · have hn := hn.out
      have e := zero_is HH.out 0 (by unfold zeroR; rw [if_neg (by omega), if_neg (by omega), if_neg (by omega)])
      have e2 := Aside0.mk e
      clear hn e
      go_wp2
      go_ret2
      exact ⟨ret_ib e2.out.1 e2.out.2, Drawn0.refl _⟩
end Go.Proofs.YtadlbegecgpaaaaDoor.S
namespace Go.Proofs.YtadlbegecgpaaaaDoor.S
open Go Go.RowKit Go.Proofs.YtadlbegecgpaaaaDoorW.PrintWords Go.Proofs.YtadlbegecgpaaaaDoorW.PrintLast Go.Proofs.YtadlbegecgpaaaaDoorW.PrintMore
def hasR (s : ByteArray) (r : Int) : Nat → Nat → Bool
  | 0, _ => false
  | k + 1, p => if p < s.size then (if ((dcode s p).1 : Int) = r then true else hasR s r k (p + (dcode s p).2)) else false
def runes_has.f (a0 : ByteArray) (a1 : Int) : Option Bool := some (hasR a0 a1 (a0.size + 1) 0)
theorem ret_bool {a b : Bool} (h : a = b) : Ending.returned (.bool a) = .returned (.bool b) := by rw [h]
theorem ret_i64 {a b : Int} (h : a = b) : Ending.returned (.int .i64 a) = .returned (.int .i64 b) := by rw [h]
theorem below_iter (w : World) (s : ByteArray) (p : Nat) : Below w.heap.size w (w.iter s p) := (Below.refl _ _).alloc (Nat.le_refl _) _
set_option maxHeartbeats 1000000 in
set_option maxRecDepth 100000 in
theorem runes_has.calls (a0 : ByteArray) (a1 : Int) (r : Bool) (w : World) (h : runes_has.f a0 a1 = some r) :
    Calls Tryd.prog 112 #[.string a0, .int .i32 a1] w fun e w' => e = .returned (.bool r) ∧ Below w.heap.size w w' := by
  have HH := Aside0.mk (Option.some.inj h)
  clear h
  go_enter Tryd.func112, Tryd.ntmps112
  go_wp2
  go_loopw [] (fun wr => ∃ k p : Nat, wr = w.iter a0 p ∧ a0.size < k + p ∧ Aside0 (hasR a0 a1 k p = r)) (fun wr => a0.size - wr.iterPos w.heap.size)
  case atStart => exact ⟨a0.size + 1, 0, rfl, by omega, HH⟩
  case round =>
    clear HH
    obtain ⟨k, p, rfl, hk, HA⟩ := hrel
    by_cases hp : p < a0.size
    · have hnx := fun ty => run_next_any (P := Tryd.prog) w a0 p ty hp
      have hw1 := dcode_pos a0 p hp
      obtain ⟨k, rfl⟩ : ∃ m, k = m + 1 := ⟨k - 1, by omega⟩
      have H := HA.out
      simp only [hasR] at H
      rw [if_pos hp] at H
      change (if ((Utf8.decode a0 p).1 : Int) = a1 then _ else hasR a0 a1 k (p + (Utf8.decode a0 p).2)) = r at H
      change 1 ≤ (Utf8.decode a0 p).2 at hw1
      by_cases hr : ((Utf8.decode a0 p).1 : Int) = a1
      · rw [if_pos hr] at H
        have H2 := Aside0.mk H
        clear H HA
        have hb : (((Utf8.decode a0 p).1 : Int) == a1) = true := beq_iff_eq.2 hr
        clear hr
        go_wp2
        go_ret
        exact ⟨ret_bool H2.out, below_iter w a0 _⟩
      · rw [if_neg hr] at H
        have H2 := Aside0.mk H
        clear H HA
        have hb : (((Utf8.decode a0 p).1 : Int) == a1) = false := beq_eq_false_iff_ne.2 hr
        clear hr
        go_wp2
        go_roundw
        case rel => exact ⟨k, _, rfl, by omega, H2⟩
        case measure => rw [World.iterPos_iter, World.iterPos_iter]; omega
    · have hnx := fun ty => run_next_end (P := Tryd.prog) w a0 p ty hp
      have H2 : Aside0 (false = r) := ⟨by
        have H := HA.out
        cases k with
        | zero => exact H
        | succ k => simp only [hasR] at H; rw [if_neg hp] at H; exact H⟩
      clear HA
      go_wp2
      go_ret
      exact ⟨ret_bool H2.out, below_iter w a0 _⟩
end Go.Proofs.YtadlbegecgpaaaaDoor.S
namespace Go.Proofs.YtadlbegecgpaaaaDoor.S
open Go Go.RowKit Go.Proofs.YtadlbegecgpaaaaDoorW.PrintWords Go.Proofs.YtadlbegecgpaaaaDoorW.PrintLast Go.Proofs.YtadlbegecgpaaaaDoorW.PrintMore
theorem hasR_any (s : ByteArray) (r : Int) : ∀ k p, hasR s r k p = (charsR s k p).any fun c => decide ((c.2 : Int) = r)
  | 0, _ => rfl
  | k + 1, p => by
    simp only [hasR, charsR]
    by_cases h : p < s.size
    · rw [if_pos h, if_pos h, List.any_cons, hasR_any s r k]
      by_cases e : ((dcode s p).1 : Int) = r <;> simp [e]
    · rw [if_neg h, if_neg h]
      rfl
def blanksB : ByteArray := ⟨#[32, 9, 10, 13, 194, 160, 227, 128, 128]⟩
def signsB : ByteArray := ⟨#[40, 41, 43, 45, 42, 47, 37, 38, 124, 94, 126, 60, 62, 61, 63, 58, 59, 44, 64, 194, 172, 194, 183, 195, 151, 195, 183, 226, 136, 146, 226, 136, 167, 226, 136, 168, 226, 137, 161, 226, 137, 170, 226, 137, 171, 226, 138, 149]⟩
theorem chars_blanks : charsR blanksB (blanksB.size + 1) 0 = [(0, 32), (1, 9), (2, 10), (3, 13), (4, 160), (6, 12288)] := by decide +kernel
theorem chars_signs : (charsR signsB (signsB.size + 1) 0).map (·.2) = [40, 41, 43, 45, 42, 47, 37, 38, 124, 94, 126, 60, 62, 61, 63, 58, 59, 44, 64, 172, 183, 215, 247, 8722, 8743, 8744, 8801, 8810, 8811, 8853] := by decide +kernel
theorem has_blanks (r : Int) : hasR blanksB r (blanksB.size + 1) 0 = blankR r := by
  rw [hasR_any, chars_blanks]
  simp only [List.any_cons, List.any_nil, blankR, Bool.or_false]
  rw [Bool.eq_iff_iff]
  simp only [Bool.or_eq_true, decide_eq_true_eq, beq_iff_eq]
  omega
theorem any_snd (l : List (Nat × Nat)) (r : Int) : (l.any fun c => decide ((c.2 : Int) = r)) = ((l.map fun c : Nat × Nat => c.2).any fun c : Nat => decide ((c : Int) = r)) := by
  induction l with
  | nil => rfl
  | cons x l ih => simp only [List.any_cons, List.map_cons, ih]
theorem has_signs (r : Int) : hasR signsB r (signsB.size + 1) 0 = decide (r ∈ signsL) := by
  rw [hasR_any, any_snd, chars_signs]
  simp only [List.any_cons, List.any_nil, signsL, Bool.or_false]
  rw [Bool.eq_iff_iff]
  simp only [Bool.or_eq_true, decide_eq_true_eq, List.mem_cons, List.mem_nil_iff, or_false]
  omega
theorem letters_block {w : World} (h : LetL w) : ∃ t fr, w.heap[0]? = some (.cells #[.int .i32 97, .int .i32 122, .int .i32 65, .int .i32 90, .int .i32 95, .int .i32 95, .int .i32 192, .int .i32 214, .int .i32 216, .int .i32 246, .int .i32 248, .int .i32 591, .int .i32 880, .int .i32 893, .int .i32 895, .int .i32 902, .int .i32 904, .int .i32 1023, .int .i32 1024, .int .i32 1153, .int .i32 1162, .int .i32 1327, .int .i32 19968, .int .i32 40959, .int .i32 66560, .int .i32 66639] t fr) := by
  have h1 := h.1
  unfold World.var? at h1
  rw [gLetters] at h1
  simp only [Option.bind_some] at h1
  cases hw : w.heap[0]? with
  | none => rw [hw] at h1; cases h1
  | some o =>
    rw [hw] at h1
    cases o with
    | cells cs t fr => exact ⟨t, fr, by rw [Option.some.inj h1]; rfl⟩
    | _ => cases h1
theorem letters_index (k : Nat) (hk : k < 13) : ∃ lo hi : Int, (∀ w : World, (Instr.index 153 (.agg #[.int .i32 97, .int .i32 122, .int .i32 65, .int .i32 90, .int .i32 95, .int .i32 95, .int .i32 192, .int .i32 214, .int .i32 216, .int .i32 246, .int .i32 248, .int .i32 591, .int .i32 880, .int .i32 893, .int .i32 895, .int .i32 902, .int .i32 904, .int .i32 1023, .int .i32 1024, .int .i32 1153, .int .i32 1162, .int .i32 1327, .int .i32 19968, .int .i32 40959, .int .i32 66560, .int .i32 66639]) (.int .i64 k)).run Tryd.prog w = .ok (.agg #[.int .i32 lo, .int .i32 hi]) w) ∧ lettersT[k]? = some (lo, hi) := by
  match k, hk with
  | 0, _ => exact ⟨97, 122, fun _ => by kernel_rfl, rfl⟩
  | 1, _ => exact ⟨65, 90, fun _ => by kernel_rfl, rfl⟩
  | 2, _ => exact ⟨95, 95, fun _ => by kernel_rfl, rfl⟩
  | 3, _ => exact ⟨192, 214, fun _ => by kernel_rfl, rfl⟩
  | 4, _ => exact ⟨216, 246, fun _ => by kernel_rfl, rfl⟩
  | 5, _ => exact ⟨248, 591, fun _ => by kernel_rfl, rfl⟩
  | 6, _ => exact ⟨880, 893, fun _ => by kernel_rfl, rfl⟩
  | 7, _ => exact ⟨895, 902, fun _ => by kernel_rfl, rfl⟩
  | 8, _ => exact ⟨904, 1023, fun _ => by kernel_rfl, rfl⟩
  | 9, _ => exact ⟨1024, 1153, fun _ => by kernel_rfl, rfl⟩
  | 10, _ => exact ⟨1162, 1327, fun _ => by kernel_rfl, rfl⟩
  | 11, _ => exact ⟨19968, 40959, fun _ => by kernel_rfl, rfl⟩
  | 12, _ => exact ⟨66560, 66639, fun _ => by kernel_rfl, rfl⟩
def runes_Kind.f (a0 : Int) : Option Int := some (kindR a0)
/-- None of the first pairs holds r. -/
def noneOf (r : Int) (k : Nat) : Prop := ∀ j p, j < k → lettersT[j]? = some p → ¬ (p.1 ≤ r ∧ r ≤ p.2)
theorem noneOf_zero (r : Int) : noneOf r 0 := fun _ _ h => by omega
theorem noneOf_succ {r lo hi : Int} {k : Nat} (h : noneOf r k) (hk : lettersT[k]? = some (lo, hi)) (hn : ¬ (lo ≤ r ∧ r ≤ hi)) : noneOf r (k + 1) := fun j p hj hp => by
  by_cases e : j = k
  · subst e
    rw [hk] at hp
    cases hp
    exact hn
  · exact h j p (by omega) hp
theorem letterR_no {r : Int} (h : noneOf r 13) : letterR r = false := by
  have hh : ∀ p ∈ lettersT, ¬ (p.1 ≤ r ∧ r ≤ p.2) := fun p hp => by
    obtain ⟨j, hj, he⟩ := List.getElem_of_mem hp
    exact h j p hj (by rw [← he]; exact List.getElem?_eq_getElem hj)
  unfold letterR
  rw [show ([(97, 122), (65, 90), (95, 95), (192, 214), (216, 246), (248, 591), (880, 893), (895, 902), (904, 1023), (1024, 1153), (1162, 1327), (19968, 40959), (66560, 66639)] : List (Int × Int)) = lettersT from rfl]
  rw [List.any_eq_false]
  intro p hp
  have := hh p hp
  simp only [Bool.and_eq_true, decide_eq_true_eq]
  exact this
theorem letterR_yes {r lo hi : Int} {k : Nat} (hk : lettersT[k]? = some (lo, hi)) (hn : lo ≤ r ∧ r ≤ hi) : letterR r = true := by
  unfold letterR
  rw [show ([(97, 122), (65, 90), (95, 95), (192, 214), (216, 246), (248, 591), (880, 893), (895, 902), (904, 1023), (1024, 1153), (1162, 1327), (19968, 40959), (66560, 66639)] : List (Int × Int)) = lettersT from rfl]
  rw [List.any_eq_true]
  exact ⟨(lo, hi), List.mem_of_getElem? hk, by simp [hn.1, hn.2]⟩
theorem kind_none {r : Int} (hN : letterR r = false) (hz : zeroR r = 0) (h : Lib.validRune r = false ∨ r = 65533) : kindR r = 0 := by
  unfold kindR
  rw [if_neg (by rw [hN]; decide), if_neg (by omega)]
  have hb : blankR r = false := by
    unfold blankR
    rw [Bool.eq_false_iff]
    intro hb
    simp only [Bool.or_eq_true, beq_iff_eq] at hb
    rcases h with h | h
    · unfold Lib.validRune at h
      simp only [decide_eq_false_iff_not] at h
      omega
    · omega
  have hs : r ∉ signsL := by
    intro hs
    simp only [signsL, List.mem_cons, List.mem_nil_iff, or_false] at hs
    rcases h with h | h
    · unfold Lib.validRune at h
      simp only [decide_eq_false_iff_not] at h
      omega
    · omega
  have hi : ¬ (8320 ≤ r ∧ r ≤ 8329) := by
    intro hi
    rcases h with h | h
    · unfold Lib.validRune at h
      simp only [decide_eq_false_iff_not] at h
      omega
    · omega
  rw [if_neg (by rw [hb]; decide), if_neg hs, if_neg hi]
theorem kind_some {r : Int} (hN : letterR r = false) (hz : zeroR r = 0) : kindR r = if blankR r = true then 3 else if r ∈ signsL then 4 else if 8320 ≤ r ∧ r ≤ 8329 then 5 else 0 := by
  unfold kindR
  rw [if_neg (by rw [hN]; decide), if_neg (by omega)]
set_option maxHeartbeats 2000000 in
set_option maxRecDepth 100000 in
theorem runes_Kind.calls (a0 : Int) (r : Int) (w : World) (hGL : Kd.C kGL w GAL 1 [()]) (h : runes_Kind.f a0 = some r) :
    Calls Tryd.prog 73 #[.int .i32 a0] w fun e w' => e = .returned (.int .i64 r) ∧ Below w.heap.size w w' := by
  have HH := Aside0.mk (Option.some.inj h)
  clear h
  have HRGL := Aside0.mk hGL
  have hL := ghostL hGL
  clear hGL
  obtain ⟨tb, fr, hblk⟩ := letters_block hL
  clear hL
  have hsz : (Tryd.prog.info? 153).map (·.size) = some 26 := by kernel_rfl
  go_enter Tryd.func73, Tryd.ntmps73
  go_wp2_with (refine wpList_load_row rfl 153 _ rfl 0 rfl tb _ fr _ hblk Tryd.underlying153 rfl hsz ?_)
  clear hblk
  go_loopw [8] (fun i wr => ∃ k : Nat, k ≤ 13 ∧ i = .int .i64 k ∧ Aside0 (noneOf a0 k) ∧ Aside0 (Below w.heap.size w wr)) (fun i _ => 13 - (intOf i).toNat)
  case atStart => exact ⟨0, by omega, rfl, ⟨noneOf_zero a0⟩, ⟨Below.refl _ _⟩⟩
  case round =>
    obtain ⟨k, hk, rfl, hn, HB⟩ := hrel
    by_cases hlt : k < 13
    · obtain ⟨lo, hi, hix, hT⟩ := letters_index k hlt
      have HT := Aside0.mk hT
      clear hT
      by_cases hin : lo ≤ a0 ∧ a0 ≤ hi
      · have hlo : decide (lo ≤ a0) = true := decide_eq_true hin.1
        have hhi : decide (a0 ≤ hi) = true := decide_eq_true hin.2
        have HIN := Aside0.mk hin
        clear hin
        go_wp2
        go_ret
        exact ⟨ret_i64 (by rw [← HH.out, kindR, if_pos (letterR_yes HT.out HIN.out)]), HB.out.alloc HB.out.size _⟩
      · have HN := Aside0.mk (noneOf_succ hn.out HT.out hin)
        by_cases hlo : lo ≤ a0
        · have hlo' : decide (lo ≤ a0) = true := decide_eq_true hlo
          have hhi : decide (a0 ≤ hi) = false := decide_eq_false (fun h => hin ⟨hlo, h⟩)
          clear hin hlo
          go_wp2
          go_roundw
          case rel => exact ⟨k + 1, by omega, by go_num, HN, ⟨HB.out.alloc HB.out.size _⟩⟩
          case measure => simp [intOf]; omega
        · have hlo' : decide (lo ≤ a0) = false := decide_eq_false hlo
          clear hin hlo
          go_wp2
          go_roundw
          case rel => exact ⟨k + 1, by omega, by go_num, HN, ⟨HB.out.alloc HB.out.size _⟩⟩
          case measure => simp [intOf]; omega
    · obtain rfl : k = 13 := by omega
      have hN := letterR_no hn.out
      have HK : Aside0 (kindR a0 = r) := HH
      clear hlt hk hn HH
      have hLw := Aside0.mk (Kd.C_below HRGL.out HB.out)
      by_cases hz : zeroR a0 = 0
      · have hzb : (!decide (zeroR a0 = 0)) = false := by rw [decide_eq_true hz]; rfl
        have HZ := Aside0.mk hz
        clear hz
        cases hv : Lib.validRune a0 with
        | false =>
          have HE := Aside0.mk (kind_none hN HZ.out (.inl hv))
          go_wp2_with fail
          refine (runes_zero.calls a0 _ _ wr hLw.out rfl).mono ?_
          rintro e w' ⟨rfl, ⟨n, rfl⟩⟩
          go_wp2_with fail
          refine (Tryd.utf8_ValidRune a0 _).mono ?_
          rintro e w' ⟨rfl, rfl⟩
          go_wp2_with fail
          go_ret
          exact ⟨ret_i64 (by rw [← HK.out, HE.out]), pw_below_drewN HB.out _⟩
        | true =>
          by_cases hf : a0 = 65533
          · have HE := Aside0.mk (kind_none hN HZ.out (.inr hf))
            have hfb : (a0 == 65533) = true := beq_iff_eq.2 hf
            clear hf
            go_wp2_with fail
            refine (runes_zero.calls a0 _ _ wr hLw.out rfl).mono ?_
            rintro e w' ⟨rfl, ⟨n, rfl⟩⟩
            go_wp2_with fail
            refine (Tryd.utf8_ValidRune a0 _).mono ?_
            rintro e w' ⟨rfl, rfl⟩
            go_wp2_with fail
            go_ret
            exact ⟨ret_i64 (by rw [← HK.out, HE.out]), pw_below_drewN HB.out _⟩
          · have HE := Aside0.mk (kind_some hN HZ.out)
            have hfb : (a0 == 65533) = false := beq_eq_false_iff_ne.2 hf
            clear hf
            cases hbl : blankR a0 with
            | true =>
              have HB3 := Aside0.mk hbl
              clear hbl
              go_wp2_with fail
              refine (runes_zero.calls a0 _ _ wr hLw.out rfl).mono ?_
              rintro e w' ⟨rfl, ⟨n, rfl⟩⟩
              go_wp2_with fail
              refine (Tryd.utf8_ValidRune a0 _).mono ?_
              rintro e w' ⟨rfl, rfl⟩
              go_wp2_with fail
              refine (runes_has.calls blanksB a0 true _ (by rw [runes_has.f, has_blanks, HB3.out])).mono ?_
              rintro e w2 ⟨rfl, hb2⟩
              go_wp2_with fail
              go_ret
              exact ⟨ret_i64 (by rw [← HK.out, HE.out, if_pos HB3.out]), below_step (pw_below_drewN HB.out _) hb2⟩
            | false =>
              have HB3 := Aside0.mk hbl
              clear hbl
              by_cases hs : a0 ∈ signsL
              · have HS := Aside0.mk hs
                clear hs
                go_wp2_with fail
                refine (runes_zero.calls a0 _ _ wr hLw.out rfl).mono ?_
                rintro e w' ⟨rfl, ⟨n, rfl⟩⟩
                go_wp2_with fail
                refine (Tryd.utf8_ValidRune a0 _).mono ?_
                rintro e w' ⟨rfl, rfl⟩
                go_wp2_with fail
                refine (runes_has.calls blanksB a0 false _ (by rw [runes_has.f, has_blanks, HB3.out])).mono ?_
                rintro e w2 ⟨rfl, hb2⟩
                go_wp2_with fail
                refine (runes_has.calls signsB a0 true _ (by rw [runes_has.f, has_signs, decide_eq_true HS.out])).mono ?_
                rintro e w3 ⟨rfl, hb3⟩
                go_wp2_with fail
                go_ret
                exact ⟨ret_i64 (by rw [← HK.out, HE.out, if_neg (by rw [HB3.out]; decide), if_pos HS.out]), below_step (below_step (pw_below_drewN HB.out _) hb2) hb3⟩
              · have HS := Aside0.mk hs
                clear hs
                by_cases hi : 8320 ≤ a0 ∧ a0 ≤ 8329
                all_goals
                  have HI := Aside0.mk hi
                  have h1 : decide (8320 ≤ a0) = decide (8320 ≤ a0) := rfl
                  clear hi h1
                  go_wp2_with fail
                  refine (runes_zero.calls a0 _ _ wr hLw.out rfl).mono ?_
                  rintro e w' ⟨rfl, ⟨n, rfl⟩⟩
                  go_wp2_with fail
                  refine (Tryd.utf8_ValidRune a0 _).mono ?_
                  rintro e w' ⟨rfl, rfl⟩
                  go_wp2_with fail
                  refine (runes_has.calls blanksB a0 false _ (by rw [runes_has.f, has_blanks, HB3.out])).mono ?_
                  rintro e w2 ⟨rfl, hb2⟩
                  go_wp2_with fail
                  refine (runes_has.calls signsB a0 false _ (by rw [runes_has.f, has_signs, decide_eq_false HS.out])).mono ?_
                  rintro e w3 ⟨rfl, hb3⟩
                  go_wp2_with fail
                  all_goals
                    have HI := HI.out
                    go_ret
                    exact ⟨ret_i64 (by rw [← HK.out, HE.out, if_neg (by rw [HB3.out]; decide), if_neg HS.out]; first | (exfalso; omega) | rw [if_pos (by omega)] | rw [if_neg (by omega)]), below_step (below_step (pw_below_drewN HB.out _) hb2) hb3⟩
      · have hzb : (!decide (zeroR a0 = 0)) = true := by rw [decide_eq_false hz]; rfl
        have HZ := Aside0.mk hz
        clear hz
        go_wp2_with fail
        refine (runes_zero.calls a0 _ _ wr hLw.out rfl).mono ?_
        rintro e w' ⟨rfl, ⟨n, rfl⟩⟩
        go_wp2_with fail
        go_ret
        exact ⟨ret_i64 (by rw [← HK.out, kindR, if_neg (by rw [hN]; decide), if_pos HZ.out]), pw_below_drewN HB.out _⟩
end Go.Proofs.YtadlbegecgpaaaaDoor.S
namespace Go.Proofs.YtadlbegecgpaaaaDoor.S
open Go Go.RowKit Go.Proofs.YtadlbegecgpaaaaDoorW.PrintWords Go.Proofs.YtadlbegecgpaaaaDoorW.PrintLast Go.Proofs.YtadlbegecgpaaaaDoorW.PrintMore
def sorrelref01_Kind.f (a0 : Int) : Option Int := some (kindR a0)
end Go.Proofs.YtadlbegecgpaaaaDoor.S
