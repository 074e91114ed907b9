/- The reference's Width of the character at a place. Conditions: what each theorem names (texts below 2^63 bytes; the listed variables of package runes or unicode/utf8 where hGL, hGU or hGN stands). -/
import Derived.Test.YtadlbegecgpaaaaDoorA1
import Derived.Test.YtadlbegecgpaaaaDoorH4
namespace Go.Proofs.YtadlbegecgpaaaaDoor.S
open Go Go.RowKit Go.Proofs.YtadlbegecgpaaaaDoorW.PrintWords Go.Proofs.YtadlbegecgpaaaaDoorW.PrintLast Go.Proofs.YtadlbegecgpaaaaDoorW.PrintMore
def sorrelref01_Width.f (a0 : ByteArray) (a1 : Int) : Option Int := if a0.size ≤ 9223372036854775800 then some (widthR a0 a1) else none
set_option maxHeartbeats 2000000 in
set_option maxRecDepth 100000 in
theorem width_in (a0 : ByteArray) (n : Nat) (w : World) (hs : a0.size ≤ 9223372036854775800) (hn : n < a0.size) :
    Calls Tryd.prog 45 #[.string a0, .int .i64 n] w fun e w' => e = .returned (.int .i64 (widthR a0 n)) ∧ Below w.heap.size w w' := by
  have hES : (a0.extract n a0.size).size = a0.size - n := by rw [ByteArray.size_extract]; omega
  have hdc : dcode (a0.extract n a0.size) 0 = dcode a0 n := dcode_extract a0 n 0 (by omega)
  have hpos := dcode_pos a0 n hn
  have hle := dcode_le a0 n hn
  have hnx := fun ty => run_next_any (P := Tryd.prog) w (a0.extract n a0.size) 0 ty (by rw [hES]; omega)
  rw [show Utf8.decode (a0.extract n a0.size) 0 = dcode a0 n from hdc] at hnx
  simp only [Nat.zero_add] at hnx
  have HES := Aside0.mk hES
  clear hES hdc
  obtain ⟨c, m, hcm⟩ : ∃ c m, dcode a0 n = (c, m) := ⟨_, _, rfl⟩
  have HCM := Aside0.mk hcm
  rw [hcm] at hpos hle hnx
  clear hcm
  simp only at hpos hle hnx
  have hmm : m ≤ 4 := by have := dcode_four a0 n; rw [HCM.out] at this; exact this
  have HN2 : Aside0 (∀ ty, m < a0.size - n → (Instr.next (.pointer (some ⟨w.heap.size, 0, none⟩)) true ty).run Tryd.prog (w.iter (a0.extract n a0.size) (m)) = .ok (.tuple #[.bool true, .int .i64 ((m : Nat) : Int), .int .i32 ((Utf8.decode (a0.extract n a0.size) (m)).1 : Int)]) (w.iter (a0.extract n a0.size) (m + (Utf8.decode (a0.extract n a0.size) (m)).2))) :=
    ⟨fun ty h => run_next_any (P := Tryd.prog) w (a0.extract n a0.size) (m) ty (by rw [HES.out]; exact h)⟩
  have HN3 : Aside0 (∀ ty, ¬ m < a0.size - n → (Instr.next (.pointer (some ⟨w.heap.size, 0, none⟩)) true ty).run Tryd.prog (w.iter (a0.extract n a0.size) (m)) = .ok (.tuple #[.bool false]) (w.iter (a0.extract n a0.size) (m))) :=
    ⟨fun ty h => run_next_end (P := Tryd.prog) w (a0.extract n a0.size) (m) ty (by rw [HES.out]; exact h)⟩
  have HW : Aside0 (¬ (c = 65533 ∧ m = 1) → widthR a0 n = m) := ⟨fun h => by
    unfold widthR
    rw [if_pos ⟨by omega, by omega⟩, show badAt a0 (n : Int).toNat = (c == 65533 && m == 1) from by unfold badAt; rw [Int.toNat_natCast, HCM.out], if_neg (by simpa using h), Int.toNat_natCast, HCM.out]⟩
  have HW0 : Aside0 (c = 65533 ∧ m = 1 → widthR a0 n = 0) := ⟨fun h => by
    unfold widthR
    rw [if_pos ⟨by omega, by omega⟩, show badAt a0 (n : Int).toNat = (c == 65533 && m == 1) from by unfold badAt; rw [Int.toNat_natCast, HCM.out], if_pos (by simpa using h)]⟩
  have HX : Aside0 (n + 3 ≤ a0.size → c = 65533 → (!(a0.extract n (n + 3)).toList == [239, 191, 189]) = decide (m ≠ 3)) := ⟨fun h3 hc => by
    rw [fffd_three a0 n h3 (by rw [HCM.out]; exact hc), HCM.out]
    by_cases hm : m = 3 <;> simp [hm]⟩
  by_cases hc : c = 65533
  · subst hc
    by_cases hm : m = 1
    · have hr := Aside0.mk (HW0.out ⟨rfl, hm⟩)
      by_cases h3 : a0.size < n + 3
      · have h3b : decide ((a0.size : Int) - (n : Int) < 3) = true := decide_eq_true (by omega)
        clear HW HW0 hm HX
        go_enter Tryd.func45, Tryd.ntmps45
        go_wp2_with fail
        refine wp_loop_rounds 2 ?_
        rw [rounds_succ]
        go_wp2_with fail
        go_ret
        exact ⟨ret_i64 hr.out.symm, below_iter w _ _⟩
      · have h3b : decide ((a0.size : Int) - (n : Int) < 3) = false := decide_eq_false (by omega)
        have h3c : (n : Int) + 3 ≤ (a0.size : Int) := by omega
        have h3d : n + 3 ≤ a0.size := by omega
        have h3e : (n : Int) ≤ (n : Int) + 3 := by omega
        have h3f : 0 ≤ (n : Int) + 3 := by omega
        have hx := (HX.out (by omega) rfl).trans (decide_eq_true (by omega))
        clear HW HW0 hm HX
        go_enter Tryd.func45, Tryd.ntmps45
        go_wp2_with fail
        refine wp_loop_rounds 2 ?_
        rw [rounds_succ]
        go_wp2_with fail
        go_ret
        exact ⟨ret_i64 hr.out.symm, below_iter w _ _⟩
    · have h3 : m = 3 := by
        have h0 := dcode_fffd a0 n (by rw [HCM.out])
        rw [HCM.out] at h0
        simp only at h0
        omega
      have hr := Aside0.mk (HW.out (fun h => hm h.2))
      have h3b : decide ((a0.size : Int) - (n : Int) < 3) = false := decide_eq_false (by omega)
      have h3c : (n : Int) + 3 ≤ (a0.size : Int) := by omega
      have h3d : n + 3 ≤ a0.size := by omega
      have h3e : (n : Int) ≤ (n : Int) + 3 := by omega
      have h3f : 0 ≤ (n : Int) + 3 := by omega
      have hx := (HX.out (by omega) rfl).trans (decide_eq_false (by omega))
      clear HW HW0 hm HX h3
      by_cases hend : m < a0.size - n
      · have hnx2 := fun ty => HN2.out ty hend
        clear HN2 HN3
        have hmp : decide (0 < (m : Int)) = true := decide_eq_true (by omega)
        go_enter Tryd.func45, Tryd.ntmps45
        go_wp2_with fail
        refine wp_loop_rounds 2 ?_
        rw [rounds_succ]
        go_wp2_with fail
        rw [rounds_succ]
        go_wp2_with fail
        go_ret
        exact ⟨ret_i64 hr.out.symm, below_iter w _ _⟩
      · have hnx2 := fun ty => HN3.out ty hend
        clear HN2 HN3
        go_enter Tryd.func45, Tryd.ntmps45
        go_wp2_with fail
        refine wp_loop_rounds 2 ?_
        rw [rounds_succ]
        go_wp2_with fail
        rw [rounds_succ]
        go_wp2_with fail
        go_ret
        exact ⟨ret_i64 (by rw [hr.out]; omega), below_iter w _ _⟩
  · have hcb : ((c : Int) == 65533) = false := beq_eq_false_iff_ne.2 (by omega)
    have hr := Aside0.mk (HW.out (fun h => hc h.1))
    clear hc HW HW0 HX
    by_cases hend : m < a0.size - n
    · have hnx2 := fun ty => HN2.out ty hend
      clear HN2 HN3
      have hmp : decide (0 < (m : Int)) = true := decide_eq_true (by omega)
      go_enter Tryd.func45, Tryd.ntmps45
      go_wp2_with fail
      refine wp_loop_rounds 2 ?_
      rw [rounds_succ]
      go_wp2_with fail
      rw [rounds_succ]
      go_wp2_with fail
      go_ret
      exact ⟨ret_i64 hr.out.symm, below_iter w _ _⟩
    · have hnx2 := fun ty => HN3.out ty hend
      clear HN2 HN3
      go_enter Tryd.func45, Tryd.ntmps45
      go_wp2_with fail
      refine wp_loop_rounds 2 ?_
      rw [rounds_succ]
      go_wp2_with fail
      rw [rounds_succ]
      go_wp2_with fail
      go_ret
      exact ⟨ret_i64 (by rw [hr.out]; omega), below_iter w _ _⟩
set_option maxHeartbeats 2000000 in
set_option maxRecDepth 100000 in
theorem sorrelref01_Width.calls (a0 : ByteArray) (a1 : Int) (r : Int) (w : World) (h : sorrelref01_Width.f a0 a1 = some r) :
    Calls Tryd.prog 45 #[.string a0, .int .i64 a1] w fun e w' => e = .returned (.int .i64 r) ∧ Below w.heap.size w w' := by
  unfold sorrelref01_Width.f at h
  by_cases hs : a0.size ≤ 9223372036854775800
  · rw [if_pos hs] at h
    obtain rfl := Option.some.inj h
    by_cases hin : 0 ≤ a1 ∧ a1 < a0.size
    · obtain ⟨n, rfl⟩ := Int.eq_ofNat_of_zero_le hin.1
      exact width_in a0 n w hs (by omega)
    · have hr : Aside0 (widthR a0 a1 = 0) := ⟨by unfold widthR; rw [if_neg hin]⟩
      by_cases h0 : a1 < 0
      · clear hin h
        go_enter Tryd.func45, Tryd.ntmps45
        go_wp2_with fail
        go_ret
        exact ⟨ret_i64 hr.out.symm, Below.refl _ _⟩
      · have h0b : decide (a1 < 0) = false := decide_eq_false h0
        have h1b : decide ((a0.size : Int) ≤ a1) = true := decide_eq_true (by omega)
        clear hin h h0
        go_enter Tryd.func45, Tryd.ntmps45
        go_wp2_with fail
        go_ret
        exact ⟨ret_i64 hr.out.symm, Below.refl _ _⟩
  · rw [if_neg hs] at h
    cases h
end Go.Proofs.YtadlbegecgpaaaaDoor.S
