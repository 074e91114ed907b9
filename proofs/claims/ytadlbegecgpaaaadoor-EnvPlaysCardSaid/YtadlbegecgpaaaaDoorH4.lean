/- The reference's Kind is the same kind. Conditions: what each theorem names (texts below 2^63 bytes; the listed variables of package runes or unicode/utf8 where hGL, hGU or hGN stands). -/
import Derived.Test.YtadlbegecgpaaaaDoorA1
import Derived.Test.YtadlbegecgpaaaaDoorH3
namespace Go.Proofs.YtadlbegecgpaaaaDoor.S
open Go Go.RowKit Go.Proofs.YtadlbegecgpaaaaDoorW.PrintWords Go.Proofs.YtadlbegecgpaaaaDoorW.PrintLast Go.Proofs.YtadlbegecgpaaaaDoorW.PrintMore
theorem letterR_iff (r : Int) : letterR r = true ↔ (97 ≤ r ∧ r ≤ 122) ∨ (65 ≤ r ∧ r ≤ 90) ∨ (95 ≤ r ∧ r ≤ 95) ∨ (192 ≤ r ∧ r ≤ 214) ∨ (216 ≤ r ∧ r ≤ 246) ∨ (248 ≤ r ∧ r ≤ 591) ∨ (880 ≤ r ∧ r ≤ 893) ∨ (895 ≤ r ∧ r ≤ 902) ∨ (904 ≤ r ∧ r ≤ 1023) ∨ (1024 ≤ r ∧ r ≤ 1153) ∨ (1162 ≤ r ∧ r ≤ 1327) ∨ (19968 ≤ r ∧ r ≤ 40959) ∨ (66560 ≤ r ∧ r ≤ 66639) := by
  simp only [letterR, List.any_cons, List.any_nil, Bool.or_false, Bool.or_eq_true, Bool.and_eq_true, decide_eq_true_eq]
theorem within_is (a lo hi : Int) : sorrelref01_within.f a lo hi = some (decide (lo ≤ a ∧ a ≤ hi)) := by
  unfold sorrelref01_within.f
  by_cases h : a ≥ lo
  · rw [if_pos h]
    congr 1
    exact decide_eq_decide.2 ⟨fun h2 => ⟨h, h2⟩, fun h2 => h2.2⟩
  · rw [if_neg h]
    congr 1
    exact (decide_eq_false (fun h2 => h h2.1)).symm
theorem letter_is (a : Int) : sorrelref01_letter.f 2 a = some (letterR a) := by
  have key : ∀ b : Bool, (b = true ↔ letterR a = true) → (some b : Option Bool) = some (letterR a) := fun b h => congrArg some (Bool.eq_iff_iff.2 h)
  rw [letterR_iff] at key
  unfold sorrelref01_letter.f
  simp only [within_is, Option.bind_some, sorrelref01_letter.j0, decide_eq_true_eq, beq_iff_eq]
  repeat' split
  all_goals (refine key _ ?_; simp only [decide_eq_true_eq, bne_iff_ne, ne_eq, Bool.not_eq_true', decide_eq_false_iff_not, false_iff, true_iff, Bool.false_eq_true])
  all_goals first | omega | (exfalso; simp_all; done)
theorem digit_is (a : Int) : ∃ d, sorrelref01_Digit.f a = some (d, zeroR a) ∧ (zeroR a = 0 → d = -1) ∧ (zeroR a ≠ 0 → d = a - zeroR a) ∧ (zeroR a ≠ 0 → 0 ≤ d ∧ d ≤ 9) := by
  unfold sorrelref01_Digit.f
  simp only [within_is, Option.bind_some, decide_eq_true_eq]
  unfold zeroR
  by_cases h1 : 48 ≤ a ∧ a ≤ 57
  · rw [if_pos h1, if_pos h1]
    exact ⟨_, rfl, by omega, fun _ => by unfold wrap64 wrap32; omega, fun _ => by unfold wrap64 wrap32; omega⟩
  · rw [if_neg h1, if_neg h1]
    by_cases h2 : 1632 ≤ a ∧ a ≤ 1641
    · rw [if_pos h2, if_pos h2]
      exact ⟨_, rfl, by omega, fun _ => by unfold wrap64 wrap32; omega, fun _ => by unfold wrap64 wrap32; omega⟩
    · rw [if_neg h2, if_neg h2]
      by_cases h3 : 65296 ≤ a ∧ a ≤ 65305
      · rw [if_pos h3, if_pos h3]
        exact ⟨_, rfl, by omega, fun _ => by unfold wrap64 wrap32; omega, fun _ => by unfold wrap64 wrap32; omega⟩
      · rw [if_neg h3, if_neg h3]
        exact ⟨_, rfl, fun _ => rfl, by omega, by omega⟩
def bit4 : Bool → Int
  | true => 4
  | false => 0
def sorrelref01_Kind.f (a0 : Int) : Option Int := some (kindR a0)
set_option maxHeartbeats 2000000 in
set_option maxRecDepth 100000 in
theorem sorrelref01_Kind.calls (a0 : Int) (r : Int) (w : World) (h : sorrelref01_Kind.f a0 = some r) :
    Calls Tryd.prog 43 #[.int .i32 a0] w fun e w' => e = .returned (.int .i64 r) ∧ Below w.heap.size w w' := by
  have HH := Aside0.mk (Option.some.inj h)
  clear h
  obtain ⟨d, hd, hd0, hd1, hd2⟩ := digit_is a0
  have HD := Aside0.mk hd
  clear hd
  go_enter Tryd.func43, Tryd.ntmps43
  go_wp2_with fail
  refine (sorrelref01_Digit.calls a0 d _ _ HD.out).mono ?_
  rintro e w' ⟨rfl, ⟨n, rfl⟩⟩
  go_wp2_with fail
  refine (sorrelref01_letter.calls 2 a0 _ _ (letter_is a0)).mono ?_
  rintro e w' ⟨rfl, ⟨n2, rfl⟩⟩
  cases hl : letterR a0 with
  | true =>
    have hLT := Aside0.mk hl
    clear hl
    go_wp2_with fail
    go_ret
    exact ⟨ret_i64 (by rw [← HH.out, kindR, if_pos hLT.out]), pw_below_drewN (Below.refl _ _) _⟩
  | false =>
    have hLT := Aside0.mk hl
    clear hl
    by_cases hz : zeroR a0 = 0
    · have hdd : decide (0 ≤ d) = false := decide_eq_false (by have := hd0 hz; omega)
      have HZ := Aside0.mk hz
      have HE := Aside0.mk (kind_some hLT.out hz)
      clear hz hd0 hd1 hd2
      by_cases hb : a0 = 32 ∨ a0 = 9 ∨ a0 = 10 ∨ a0 = 13 ∨ a0 = 160 ∨ a0 = 12288
      · have hk : Aside0 (3 = r) := ⟨by rw [← HH.out, HE.out, if_pos (by unfold blankR; simp only [Bool.or_eq_true, beq_iff_eq]; omega)]⟩
        rcases hb with rfl | rfl | rfl | rfl | rfl | rfl
        all_goals
          go_wp2_with fail
          go_ret
          exact ⟨ret_i64 hk.out, pw_below_drewN (Below.refl _ _) _⟩
      · have hbl : blankR a0 = false := by
          rw [Bool.eq_false_iff]
          unfold blankR
          simp only [ne_eq, Bool.or_eq_true, beq_iff_eq]
          omega
        have b1 : (a0 == 32) = false := beq_eq_false_iff_ne.2 (by omega)
        have b2 : (a0 == 9) = false := beq_eq_false_iff_ne.2 (by omega)
        have b3 : (a0 == 10) = false := beq_eq_false_iff_ne.2 (by omega)
        have b4 : (a0 == 13) = false := beq_eq_false_iff_ne.2 (by omega)
        have b5 : (a0 == 160) = false := beq_eq_false_iff_ne.2 (by omega)
        have b6 : (a0 == 12288) = false := beq_eq_false_iff_ne.2 (by omega)
        have HBL := Aside0.mk hbl
        clear hbl hb
        by_cases hi : 8320 ≤ a0 ∧ a0 ≤ 8329
        · have hs : a0 ∉ signsL := by
            intro hs
            simp only [signsL, List.mem_cons, List.mem_nil_iff, or_false] at hs
            omega
          have hk : Aside0 (5 = r) := ⟨by rw [← HH.out, HE.out, if_neg (by rw [HBL.out]; decide), if_neg hs, if_pos hi]⟩
          have hi1 : decide (8320 ≤ a0) = true := decide_eq_true hi.1
          have hi2 : decide (a0 ≤ 8329) = true := decide_eq_true hi.2
          clear hs hi
          go_wp2_with (go_at_call 77; refine (sorrelref01_within.calls a0 8320 8329 true _ (by rw [within_is]; exact congrArg some (decide_eq_true ⟨of_decide_eq_true hi1, of_decide_eq_true hi2⟩))).mono ?_; rintro e w' ⟨rfl, ⟨n3, rfl⟩⟩)
          go_ret
          exact ⟨ret_i64 hk.out, pw_below_drewN (Below.refl _ _) _⟩
        · have hk : Aside0 ((if a0 ∈ signsL then 4 else 0) = r) := ⟨by
            rw [← HH.out, HE.out, if_neg (show ¬ blankR a0 = true by rw [HBL.out]; decide)]
            by_cases hs : a0 ∈ signsL
            · rw [if_pos hs, if_pos hs]
            · rw [if_neg hs, if_neg hs, if_neg hi]⟩
          have hw : sorrelref01_within.f a0 8320 8329 = some false := by rw [within_is]; exact congrArg some (decide_eq_false hi)
          have HW := Aside0.mk hw
          clear hw hi
          go_wp2_with (go_at_call 77; refine (sorrelref01_within.calls a0 8320 8329 false _ HW.out).mono ?_; rintro e w' ⟨rfl, ⟨n3, rfl⟩⟩)
          have hk2 : Aside0 (bit4 (hasR signsB a0 (signsB.size + 1) 0) = r) := ⟨by rw [← hk.out, has_signs]; by_cases hs : a0 ∈ signsL <;> simp only [hs, decide_true, decide_false, if_true, if_false, bit4]⟩
          clear hk
          go_loopw [] (fun wr => ∃ k p : Nat, wr = (w.drewN (n + n2 + n3)).iter signsB p ∧ signsB.size < k + p ∧ Aside0 (bit4 (hasR signsB a0 k p) = r)) (fun wr => signsB.size - wr.iterPos w.heap.size)
          case atStart => exact ⟨signsB.size + 1, 0, rfl, by omega, hk2⟩
          case round =>
            clear hk2
            obtain ⟨k, p, rfl, hk, HA⟩ := hrel
            by_cases hp : p < signsB.size
            · have hnx : ∀ ty, (Instr.next (.pointer (some ⟨w.heap.size, 0, none⟩)) true ty).run Tryd.prog ((w.drewN (n + n2 + n3)).iter signsB p) = .ok (.tuple #[.bool true, .int .i64 p, .int .i32 (Utf8.decode signsB p).1]) ((w.drewN (n + n2 + n3)).iter signsB (p + (Utf8.decode signsB p).2)) := fun ty => run_next_any (P := Tryd.prog) (w.drewN (n + n2 + n3)) signsB p ty hp
              have hw1 := dcode_pos signsB p hp
              obtain ⟨k, rfl⟩ : ∃ m, k = m + 1 := ⟨k - 1, by omega⟩
              have H := HA.out
              simp only [hasR] at H
              rw [if_pos hp] at H
              change bit4 (if ((Utf8.decode signsB p).1 : Int) = a0 then true else hasR signsB a0 k (p + (Utf8.decode signsB p).2)) = r at H
              change 1 ≤ (Utf8.decode signsB p).2 at hw1
              by_cases hr : ((Utf8.decode signsB p).1 : Int) = a0
              · rw [if_pos hr] at H
                have H2 := Aside0.mk H
                clear H HA
                have hb : (((Utf8.decode signsB p).1 : Int) == a0) = true := beq_iff_eq.2 hr
                clear hr
                go_wp2
                go_ret
                exact ⟨ret_i64 H2.out, (pw_below_drewN (Below.refl w.heap.size w) (n + n2 + n3)).alloc (Nat.le_refl _) _⟩
              · rw [if_neg hr] at H
                have H2 := Aside0.mk H
                clear H HA
                have hb : (((Utf8.decode signsB p).1 : Int) == a0) = false := beq_eq_false_iff_ne.2 hr
                clear hr
                go_wp2
                go_roundw
                case rel => exact ⟨k, _, rfl, by omega, H2⟩
                case measure =>
                  rw [show w.heap.size = (w.drewN (n + n2 + n3)).heap.size from rfl, World.iterPos_iter, World.iterPos_iter]
                  omega
            · have hnx : ∀ ty, (Instr.next (.pointer (some ⟨w.heap.size, 0, none⟩)) true ty).run Tryd.prog ((w.drewN (n + n2 + n3)).iter signsB p) = .ok (.tuple #[.bool false]) ((w.drewN (n + n2 + n3)).iter signsB p) := fun ty => run_next_end (P := Tryd.prog) (w.drewN (n + n2 + n3)) signsB p ty hp
              have H2 : Aside0 (0 = r) := ⟨by
                have H := HA.out
                cases k with
                | zero => exact H
                | succ k => simp only [hasR] at H; rw [if_neg hp] at H; exact H⟩
              clear HA
              go_wp2
              go_ret
              exact ⟨ret_i64 H2.out, (pw_below_drewN (Below.refl w.heap.size w) (n + n2 + n3)).alloc (Nat.le_refl _) _⟩
    · have hdd : decide (0 ≤ d) = true := decide_eq_true (by have := hd2 hz; omega)
      have HZ := Aside0.mk hz
      clear hz hd0 hd1 hd2
      go_wp2_with fail
      go_ret
      exact ⟨ret_i64 (by rw [← HH.out, kindR, if_neg (by rw [hLT.out]; decide), if_pos HZ.out]), pw_below_drewN (Below.refl _ _) _⟩
end Go.Proofs.YtadlbegecgpaaaaDoor.S
