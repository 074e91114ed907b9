/- The reference's Rune at a place. Conditions: what each theorem names (texts below 2^63 bytes; the listed variables of package runes or unicode/utf8 where hGL, hGU or hGN stands). -/
import Derived.Test.YtadlbegecgpaaaaDoorH5
namespace Go.Proofs.YtadlbegecgpaaaaDoor.S
open Go Go.RowKit Go.Proofs.YtadlbegecgpaaaaDoorW.PrintWords Go.Proofs.YtadlbegecgpaaaaDoorW.PrintLast Go.Proofs.YtadlbegecgpaaaaDoorW.PrintMore
def sorrelref01_Rune.f (a0 : ByteArray) (a1 : Int) : Option Int := if a0.size ≤ 9223372036854775800 then some (runeR a0 a1) else none
theorem rune_neg {a0 : ByteArray} {a1 : Int} (h : widthR a0 a1 = 0) : runeR a0 a1 = -1 := by
  unfold widthR at h
  unfold runeR
  by_cases hin : 0 ≤ a1 ∧ a1 < a0.size
  · rw [if_pos hin] at h ⊢
    by_cases hb : badAt a0 a1.toNat = true
    · rw [if_pos hb]
    · rw [if_neg hb] at h
      have := dcode_pos a0 a1.toNat (by omega)
      omega
  · rw [if_neg hin]
theorem rune_pos {a0 : ByteArray} {a1 : Int} (h : widthR a0 a1 ≠ 0) : 0 ≤ a1 ∧ a1 < a0.size ∧ runeR a0 a1 = (dcode a0 a1.toNat).1 ∧ widthR a0 a1 = (dcode a0 a1.toNat).2 := by
  unfold widthR at *
  unfold runeR
  by_cases hin : 0 ≤ a1 ∧ a1 < a0.size
  · rw [if_pos hin] at h ⊢
    by_cases hb : badAt a0 a1.toNat = true
    · rw [if_pos hb] at h
      exact absurd rfl h
    · rw [if_neg hb, if_neg hb]
      exact ⟨hin.1, hin.2, rfl, by rw [if_pos hin]⟩
  · rw [if_neg hin] at h
    exact absurd rfl h
set_option maxHeartbeats 2000000 in
set_option maxRecDepth 100000 in
theorem sorrelref01_Rune.calls (a0 : ByteArray) (a1 : Int) (r : Int) (w : World) (h : sorrelref01_Rune.f a0 a1 = some r) :
    Calls Tryd.prog 42 #[.string a0, .int .i64 a1] w fun e w' => e = .returned (.int .i32 r) ∧ Below w.heap.size w w' := by
  unfold sorrelref01_Rune.f at h
  by_cases hs : a0.size ≤ 9223372036854775800
  · rw [if_pos hs] at h
    have HH := Aside0.mk (Option.some.inj h)
    clear h
    by_cases hw : widthR a0 a1 = 0
    · have hr := Aside0.mk (rune_neg hw)
      have HW := Aside0.mk hw
      clear hw
      go_enter Tryd.func42, Tryd.ntmps42
      go_wp2_with fail
      refine (sorrelref01_Width.calls a0 a1 0 _ (by rw [sorrelref01_Width.f, if_pos hs, HW.out])).mono ?_
      rintro e w' ⟨rfl, hb⟩
      go_wp2_with fail
      go_ret
      exact ⟨ret_i32 (by rw [← HH.out, hr.out]), hb⟩
    · obtain ⟨h0, h1, hr, hwv⟩ := rune_pos hw
      obtain ⟨n, rfl⟩ := Int.eq_ofNat_of_zero_le h0
      rw [Int.toNat_natCast] at hr hwv
      have HR := Aside0.mk hr
      obtain ⟨m, hm⟩ : ∃ m, m = widthR a0 n := ⟨_, rfl⟩
      rw [← hm] at hw
      have hmb : (m == 0) = false := beq_eq_false_iff_ne.2 hw
      have HM := Aside0.mk hm
      have hn : n < a0.size := by omega
      have hES : (a0.extract n a0.size).size = a0.size - n := by rw [ByteArray.size_extract]; omega
      have hdc : Utf8.decode (a0.extract n a0.size) 0 = dcode a0 n := dcode_extract a0 n 0 (by omega)
      have HNX : Aside0 (∀ (w : World) ty, (Instr.next (.pointer (some ⟨w.heap.size, 0, none⟩)) true ty).run Tryd.prog (w.iter (a0.extract n a0.size) 0) = .ok (.tuple #[.bool true, .int .i64 0, .int .i32 ((dcode a0 n).1 : Int)]) (w.iter (a0.extract n a0.size) (dcode a0 n).2)) := ⟨fun w ty => by
        have := run_next_any (P := Tryd.prog) w (a0.extract n a0.size) 0 ty (by rw [hES]; omega)
        rw [hdc, Nat.zero_add] at this
        exact this⟩
      clear hr hwv h0 hES hdc hm hw
      go_enter Tryd.func42, Tryd.ntmps42
      go_wp2_with fail
      refine (sorrelref01_Width.calls a0 n m _ (by rw [sorrelref01_Width.f, if_pos hs, HM.out])).mono ?_
      rintro e w' ⟨rfl, hb⟩
      have hnx := HNX.out w'
      go_wp2_with fail
      refine wp_loop_rounds 1 ?_
      rw [rounds_succ]
      go_wp2_with fail
      go_ret
      exact ⟨ret_i32 (by rw [← HH.out, HR.out]), hb.alloc hb.size _⟩
  · rw [if_neg hs] at h
    cases h
end Go.Proofs.YtadlbegecgpaaaaDoor.S
