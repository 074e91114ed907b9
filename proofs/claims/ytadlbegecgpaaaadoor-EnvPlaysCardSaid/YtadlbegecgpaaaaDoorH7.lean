/- runes.Check: the place of the first bad byte. Conditions: what each theorem names (texts below 2^63 bytes; the listed variables of package runes or unicode/utf8 where hGL, hGU or hGN stands). -/
import Derived.Test.YtadlbegecgpaaaaDoorB1
import Derived.Test.YtadlbegecgpaaaaDoorA1
import Derived.Test.YtadlbegecgpaaaaDoorH6
namespace Go.Proofs.YtadlbegecgpaaaaDoor.S
open Go Go.RowKit Go.Proofs.YtadlbegecgpaaaaDoorW.PrintWords Go.Proofs.YtadlbegecgpaaaaDoorW.PrintLast Go.Proofs.YtadlbegecgpaaaaDoorW.PrintMore
theorem hasPrefix_is (s p : ByteArray) : strings_HasPrefix.f s p = some (if s.size < p.size then false else ((s.extract 0 p.size).toList == p.toList)) := by
  unfold strings_HasPrefix.f stringslite_HasPrefix.f
  by_cases h : (s.size : Int) ≥ (p.size : Int)
  · rw [if_pos h, if_pos (by omega), if_pos (by omega), if_neg (by omega)]
    rfl
  · rw [if_neg h, if_pos (by omega)]
    rfl
theorem extract_extract0 (s : ByteArray) (n m : Nat) (h : n + m ≤ s.size) : (s.extract n s.size).extract 0 m = s.extract n (n + m) := by
  apply Go.WideShapes.bytes_inj
  simp only [ByteArray.data_extract, Array.toList_extract, List.extract_eq_take_drop, List.drop_zero, Nat.sub_zero]
  rw [List.take_take, Nat.min_eq_left (by omega)]
  congr 1
  omega
theorem bad_is (s : ByteArray) (p : Nat) (h : p < s.size) : runes_bad.f s p (dcode s p).1 = some (badAt s p) := by
  have hES : (s.extract p s.size).size = s.size - p := by rw [ByteArray.size_extract]; omega
  unfold runes_bad.f badAt
  by_cases hc : (dcode s p).1 = 65533
  · rw [if_pos (by omega), if_pos (by omega), if_pos (by omega), hasPrefix_is, Int.toNat_natCast]
    simp only [Option.bind_some]
    rw [hES, show (⟨#[239, 191, 189]⟩ : ByteArray).size = 3 from rfl, hc]
    by_cases h3 : s.size - p < 3
    · rw [if_pos h3]
      have h0 := dcode_fffd s p hc
      rw [show (dcode s p).2 = 1 by omega]
      rfl
    · rw [if_neg h3, extract_extract0 s p 3 (by omega)]
      rw [show (⟨#[239, 191, 189]⟩ : ByteArray).toList = [239, 191, 189] from by rw [ByteArray.toList_eq], fffd_three s p (by omega) hc]
      have h0 := dcode_fffd s p hc
      rcases h0 with h0 | ⟨h0, _⟩
      · rw [h0]; rfl
      · rw [h0]; rfl
  · rw [if_neg (by omega)]
    rw [show ((dcode s p).1 == 65533) = false from beq_eq_false_iff_ne.2 hc]
    rfl
def runes_Check.f (a0 : ByteArray) : Option (Int × Int) := if a0.size ≤ 9223372036854775800 then some (checkR a0 (a0.size + 1) 0) else none
theorem ret_ii {a a' b b' : Int} (h : (a, b) = (a', b')) : Ending.returned (.tuple #[.int .i64 a, .int .i64 b]) = .returned (.tuple #[.int .i64 a', .int .i64 b']) := by
  cases h
  rfl
theorem iterPos_of {w : World} {k p : Nat} {s : ByteArray} (h : w.heap[k]? = some (.stringIter s p)) : w.iterPos k = p := by
  unfold World.iterPos
  rw [h]
set_option maxHeartbeats 2000000 in
set_option maxRecDepth 100000 in
theorem runes_Check.calls (a0 : ByteArray) (r1 r2 : Int) (w : World) (h : runes_Check.f a0 = some (r1, r2)) :
    Calls Tryd.prog 46 #[.string a0] w fun e w' => e = .returned (.tuple #[.int .i64 r1, .int .i64 r2]) ∧ Below w.heap.size w w' := by
  unfold runes_Check.f at h
  by_cases hs : a0.size ≤ 9223372036854775800
  · rw [if_pos hs] at h
    have HH := Aside0.mk (Option.some.inj h)
    clear h
    go_enter Tryd.func46, Tryd.ntmps46
    go_wp2_with fail
    go_loopw [] (fun wr => ∃ k p : Nat, Aside0 (wr.heap[w.heap.size]? = some (.stringIter a0 p)) ∧ Aside0 (Below w.heap.size w wr) ∧ a0.size < k + p ∧ Aside0 (checkR a0 k p = (r1, r2))) (fun wr => a0.size - wr.iterPos w.heap.size)
    case atStart => exact ⟨a0.size + 1, 0, ⟨World.iter_heap w a0 0⟩, ⟨below_iter w a0 0⟩, by omega, HH⟩
    case round =>
      clear HH
      obtain ⟨k, p, hit, HB, hk, HA⟩ := hrel
      by_cases hp : p < a0.size
      · have hnx := fun ty => Lib.run_next_any_at (P := Tryd.prog) wr w.heap.size a0 p ty hit.out hp
        have hw1 := dcode_pos a0 p hp
        change 1 ≤ (Utf8.decode a0 p).2 at hw1
        obtain ⟨k, rfl⟩ : ∃ m, k = m + 1 := ⟨k - 1, by omega⟩
        have H := HA.out
        simp only [checkR] at H
        rw [if_pos hp] at H
        have HBD := Aside0.mk (bad_is a0 p hp)
        cases hb : badAt a0 p with
        | true =>
          rw [if_pos hb] at H
          have H2 := Aside0.mk H
          have Hb := Aside0.mk hb
          clear H HA hb
          go_wp2_with fail
          refine (runes_bad.calls a0 p _ true _ (by rw [← Hb.out]; exact HBD.out)).mono ?_
          rintro e w' ⟨rfl, ⟨n, rfl⟩⟩
          go_wp2_with fail
          go_ret2
          exact ⟨ret_ii H2.out, pw_below_drewN (Lib.below_iterAt HB.out (Nat.le_refl _) _ _) _⟩
        | false =>
          rw [if_neg (by rw [hb]; decide)] at H
          have H2 := Aside0.mk H
          have Hb := Aside0.mk hb
          clear H HA hb
          go_wp2_with fail
          refine (runes_bad.calls a0 p _ false _ (by rw [← Hb.out]; exact HBD.out)).mono ?_
          rintro e w' ⟨rfl, ⟨n, rfl⟩⟩
          go_wp2_with fail
          go_roundw
          case rel => exact ⟨k, _, ⟨Lib.iterAt_heap wr _ a0 p _ hit.out⟩, ⟨pw_below_drewN (Lib.below_iterAt HB.out (Nat.le_refl _) _ _) _⟩, by omega, H2⟩
          case measure =>
            have e1 := iterPos_of hit.out
            have e2 := iterPos_of (w := (wr.iterAt w.heap.size a0 (p + (Utf8.decode a0 p).2)).drewN n) (Lib.iterAt_heap wr _ a0 p _ hit.out)
            rw [e1, e2]
            omega
      · have hnx := fun ty => Lib.run_next_end_at (P := Tryd.prog) wr w.heap.size a0 p ty hit.out hp
        have H2 : Aside0 ((0, 0) = (r1, r2)) := ⟨by
          have H := HA.out
          cases k with
          | zero => exact H
          | succ k => simp only [checkR] at H; rw [if_neg hp] at H; exact H⟩
        clear HA
        go_wp2_with fail
        go_ret2
        exact ⟨ret_ii H2.out, HB.out⟩
  · rw [if_neg hs] at h
    cases h
end Go.Proofs.YtadlbegecgpaaaaDoor.S
