/- Folded: H5, H6, H7, H8, H9, Hs, H10, H11, H12. -/
import Derived.Test.YtadlbegecgpaaaaDoorA1
import Derived.Test.YtadlbegecgpaaaaDoorHB
import Derived.Test.YtadlbegecgpaaaaDoorB1
import Derived.Test.YtadlbegecgpaaaaDoorK1
import Derived.WalkSpells
import Derived.Test.YtadlbegecgpaaaaDoorHA
import Derived.Test.YtadlbegecgpaaaaDoorShelf
import Derived.Lib.AppendIntMem
import Derived.Deep.RegionHeld3
namespace Go.Proofs.YtadlbegecgpaaaaDoor.S
open Go Go.RowKit Go.Proofs.YtadlbegecgpaaaaDoorW.PrintWords Go.Proofs.YtadlbegecgpaaaaDoorW.PrintLast Go.Proofs.YtadlbegecgpaaaaDoorW.PrintMore
def sorrelref01_Width.f (a0 : ByteArray) (a1 : Int) : Option Int := if a0.size ≤ 9223372036854775800 then some (widthR a0 a1) else none
end Go.Proofs.YtadlbegecgpaaaaDoor.S
namespace Go.Proofs.YtadlbegecgpaaaaDoor.S
open Go Go.RowKit Go.Proofs.YtadlbegecgpaaaaDoorW.PrintWords Go.Proofs.YtadlbegecgpaaaaDoorW.PrintLast Go.Proofs.YtadlbegecgpaaaaDoorW.PrintMore
def sorrelref01_Rune.f (a0 : ByteArray) (a1 : Int) : Option Int := if a0.size ≤ 9223372036854775800 then some (runeR a0 a1) else none
end Go.Proofs.YtadlbegecgpaaaaDoor.S
namespace Go.Proofs.YtadlbegecgpaaaaDoor.S
open Go Go.RowKit Go.Proofs.YtadlbegecgpaaaaDoorW.PrintWords Go.Proofs.YtadlbegecgpaaaaDoorW.PrintLast Go.Proofs.YtadlbegecgpaaaaDoorW.PrintMore
theorem hasPrefix_is (s p : ByteArray) : strings_HasPrefix.f s p = some (if s.size < p.size then false else ((s.extract 0 p.size).toList == p.toList)) := by
  unfold strings_HasPrefix.f stringslite_HasPrefix.f
  by_cases h : (s.size : Int) ≥ (p.size : Int)
  · rw [if_pos h, if_pos (by omega), if_pos (by omega), if_neg (by omega)]
    rfl
  · rw [if_neg h, if_pos (by omega)]
    rfl
theorem extract_extract0 (s : ByteArray) (n m : Nat) (h : n + m ≤ s.size) : (s.extract n s.size).extract 0 m = s.extract n (n + m) := by
  apply Go.WideShapes.bytes_inj
  simp only [ByteArray.data_extract, Array.toList_extract, List.extract_eq_take_drop, List.drop_zero, Nat.sub_zero]
  rw [List.take_take, Nat.min_eq_left (by omega)]
  congr 1
  omega
theorem bad_is (s : ByteArray) (p : Nat) (h : p < s.size) : runes_bad.f s p (dcode s p).1 = some (badAt s p) := by
  have hES : (s.extract p s.size).size = s.size - p := by rw [ByteArray.size_extract]; omega
  unfold runes_bad.f badAt
  by_cases hc : (dcode s p).1 = 65533
  · rw [if_pos (by omega), if_pos (by omega), if_pos (by omega), hasPrefix_is, Int.toNat_natCast]
    simp only [Option.bind_some]
    rw [hES, show (⟨#[239, 191, 189]⟩ : ByteArray).size = 3 from rfl, hc]
    by_cases h3 : s.size - p < 3
    · rw [if_pos h3]
      have h0 := dcode_fffd s p hc
      rw [show (dcode s p).2 = 1 by omega]
      rfl
    · rw [if_neg h3, extract_extract0 s p 3 (by omega)]
      rw [show (⟨#[239, 191, 189]⟩ : ByteArray).toList = [239, 191, 189] from by rw [ByteArray.toList_eq], fffd_three s p (by omega) hc]
      have h0 := dcode_fffd s p hc
      rcases h0 with h0 | ⟨h0, _⟩
      · rw [h0]; rfl
      · rw [h0]; rfl
  · rw [if_neg (by omega)]
    rw [show ((dcode s p).1 == 65533) = false from beq_eq_false_iff_ne.2 hc]
    rfl
def runes_Check.f (a0 : ByteArray) : Option (Int × Int) := if a0.size ≤ 9223372036854775800 then some (checkR a0 (a0.size + 1) 0) else none
theorem ret_ii {a a' b b' : Int} (h : (a, b) = (a', b')) : Ending.returned (.tuple #[.int .i64 a, .int .i64 b]) = .returned (.tuple #[.int .i64 a', .int .i64 b']) := by
  cases h
  rfl
theorem iterPos_of {w : World} {k p : Nat} {s : ByteArray} (h : w.heap[k]? = some (.stringIter s p)) : w.iterPos k = p := by
  unfold World.iterPos
  rw [h]
set_option maxHeartbeats 2000000 in
set_option maxRecDepth 100000 in
theorem runes_Check.calls (a0 : ByteArray) (r1 r2 : Int) (w : World) (h : runes_Check.f a0 = some (r1, r2)) :
    Calls Tryd.prog 46 #[.string a0] w fun e w' => e = .returned (.tuple #[.int .i64 r1, .int .i64 r2]) ∧ Below w.heap.size w w' := by
  unfold runes_Check.f at h
  by_cases hs : a0.size ≤ 9223372036854775800
  · rw [if_pos hs] at h
    have HH := Aside0.mk (Option.some.inj h)
    clear h
    go_enter Tryd.func46, Tryd.ntmps46
    go_wp2_with fail
    go_loopw [] (fun wr => ∃ k p : Nat, Aside0 (wr.heap[w.heap.size]? = some (.stringIter a0 p)) ∧ Aside0 (Below w.heap.size w wr) ∧ a0.size < k + p ∧ Aside0 (checkR a0 k p = (r1, r2))) (fun wr => a0.size - wr.iterPos w.heap.size)
    case atStart => exact ⟨a0.size + 1, 0, ⟨World.iter_heap w a0 0⟩, ⟨below_iter w a0 0⟩, by omega, HH⟩
    case round =>
      clear HH
      obtain ⟨k, p, hit, HB, hk, HA⟩ := hrel
      by_cases hp : p < a0.size
      · have hnx := fun ty => Lib.run_next_any_at (P := Tryd.prog) wr w.heap.size a0 p ty hit.out hp
        have hw1 := dcode_pos a0 p hp
        change 1 ≤ (Utf8.decode a0 p).2 at hw1
        obtain ⟨k, rfl⟩ : ∃ m, k = m + 1 := ⟨k - 1, by omega⟩
        have H := HA.out
        simp only [checkR] at H
        rw [if_pos hp] at H
        have HBD := Aside0.mk (bad_is a0 p hp)
        cases hb : badAt a0 p with
        | true =>
          rw [if_pos hb] at H
          have H2 := Aside0.mk H
          have Hb := Aside0.mk hb
          clear H HA hb
          go_wp2_with fail
          refine (runes_bad.calls a0 p _ true _ (by rw [← Hb.out]; exact HBD.out)).mono ?_
          rintro e w' ⟨rfl, ⟨n, rfl⟩⟩
          go_wp2_with fail
          go_ret2
          exact ⟨ret_ii H2.out, pw_below_drewN (Lib.below_iterAt HB.out (Nat.le_refl _) _ _) _⟩
        | false =>
          rw [if_neg (by rw [hb]; decide)] at H
          have H2 := Aside0.mk H
          have Hb := Aside0.mk hb
          clear H HA hb
          go_wp2_with fail
          refine (runes_bad.calls a0 p _ false _ (by rw [← Hb.out]; exact HBD.out)).mono ?_
          rintro e w' ⟨rfl, ⟨n, rfl⟩⟩
          go_wp2_with fail
          go_roundw
          case rel => exact ⟨k, _, ⟨Lib.iterAt_heap wr _ a0 p _ hit.out⟩, ⟨pw_below_drewN (Lib.below_iterAt HB.out (Nat.le_refl _) _ _) _⟩, by omega, H2⟩
          case measure =>
            have e1 := iterPos_of hit.out
            have e2 := iterPos_of (w := (wr.iterAt w.heap.size a0 (p + (Utf8.decode a0 p).2)).drewN n) (Lib.iterAt_heap wr _ a0 p _ hit.out)
            rw [e1, e2]
            omega
      · have hnx := fun ty => Lib.run_next_end_at (P := Tryd.prog) wr w.heap.size a0 p ty hit.out hp
        have H2 : Aside0 ((0, 0) = (r1, r2)) := ⟨by
          have H := HA.out
          cases k with
          | zero => exact H
          | succ k => simp only [checkR] at H; rw [if_neg hp] at H; exact H⟩
        clear HA
        go_wp2_with fail
        go_ret2
        exact ⟨ret_ii H2.out, HB.out⟩
  · rw [if_neg hs] at h
    cases h
end Go.Proofs.YtadlbegecgpaaaaDoor.S
namespace Go.Proofs.YtadlbegecgpaaaaDoor.S
open Go Go.RowKit Go.Proofs.YtadlbegecgpaaaaDoorW.PrintWords Go.Proofs.YtadlbegecgpaaaaDoorW.PrintLast Go.Proofs.YtadlbegecgpaaaaDoorW.PrintMore
theorem inName_is (a : Int) : runes_inName.f a = some (inNameR a) := by
  unfold runes_inName.f runes_Kind.f inNameR
  simp only [Option.bind_some]
  by_cases h1 : kindR a = 1
  · simp [h1]
  · by_cases h2 : kindR a = 2
    · simp [h2]
    · have e1 : (kindR a == 1) = false := beq_eq_false_iff_ne.2 h1
      have e2 : (kindR a == 2) = false := beq_eq_false_iff_ne.2 h2
      rw [if_neg h1, if_neg h2, e1, e2]
      rfl
theorem bad_kind {s : ByteArray} {p : Nat} (h : badAt s p = true) : kindR (dcode s p).1 = 0 ∧ inNameR (dcode s p).1 = false := by
  unfold badAt at h
  simp only [Bool.and_eq_true, beq_iff_eq] at h
  rw [h.1]
  exact ⟨by decide, by decide⟩
/-- An iterator's block, behind what makes memory. -/
theorem iter_below {w w1 : World} {k : Nat} {o : Obj} (h : w.heap[k]? = some o) (hb : Below w.heap.size w w1) : w1.heap[k]? = some o := (hb.block k (blk_lt h)).trans h
theorem iter_drewN {w : World} {k : Nat} {o : Obj} (h : w.heap[k]? = some o) (n : Nat) : (w.drewN n).heap[k]? = some o := h
def runes_Name.f (a0 : ByteArray) : Option Bool := if a0.size ≤ 9223372036854775800 then some (nameOk a0) else none
set_option maxHeartbeats 2000000 in
set_option maxRecDepth 100000 in
theorem runes_Name.calls (a0 : ByteArray) (r : Bool) (w : World) (hGL : Kd.C kGL w GAL 1 [()]) (h : runes_Name.f a0 = some r) :
    Calls Tryd.prog 40 #[.string a0] w fun e w' => e = .returned (.bool r) ∧ Below w.heap.size w w' := by
  unfold runes_Name.f at h
  by_cases hs : a0.size ≤ 9223372036854775800
  · rw [if_pos hs] at h
    have HH := Aside0.mk (Option.some.inj h)
    clear h
    have HRGL := Aside0.mk hGL
    clear hGL
    go_enter Tryd.func40, Tryd.ntmps40
    go_wp2_with fail
    go_loopw [3] (fun v3 wr => ∃ k p n : Nat, v3 = .int .i64 n ∧ n ≤ p ∧ p ≤ a0.size ∧ Aside0 (p = 0 ↔ n = 0) ∧ Aside0 (wr.heap[w.heap.size]? = some (.stringIter a0 p)) ∧ Aside0 (Below w.heap.size w wr) ∧ a0.size < k + p ∧ Aside0 (nameR a0 k p n = r)) (fun _ wr => a0.size - wr.iterPos w.heap.size)
    case atStart => exact ⟨a0.size + 1, 0, 0, rfl, by omega, by omega, ⟨by omega⟩, ⟨World.iter_heap w a0 0⟩, ⟨below_iter w a0 0⟩, by omega, HH⟩
    case round =>
      clear HH
      obtain ⟨k, p, n, rfl, hnp, hps, HPN, hit, HB, hk, HA⟩ := hrel
      by_cases hp : p < a0.size
      · have hnx := fun ty => Lib.run_next_any_at (P := Tryd.prog) wr w.heap.size a0 p ty hit.out hp
        have hw1 := dcode_pos a0 p hp
        have hw2 := dcode_le a0 p hp
        change 1 ≤ (Utf8.decode a0 p).2 at hw1
        change p + (Utf8.decode a0 p).2 ≤ a0.size at hw2
        obtain ⟨k, rfl⟩ : ∃ m, k = m + 1 := ⟨k - 1, by omega⟩
        have H := HA.out
        simp only [nameR] at H
        rw [if_pos hp] at H
        have HBD := Aside0.mk (bad_is a0 p hp)
        have HIN := Aside0.mk (inName_is (dcode a0 p).1)
        have HB1 := Aside0.mk (Lib.below_iterAt HB.out (Nat.le_refl _) a0 (p + (Utf8.decode a0 p).2))
        have HI1 := Aside0.mk (Lib.iterAt_heap wr _ a0 p (p + (Utf8.decode a0 p).2) hit.out)
        cases hb : badAt a0 p with
        | true =>
          have hz := bad_kind hb
          rw [hz.1, hz.2] at H
          have H2 : Aside0 (false = r) := ⟨by
            by_cases hn : n = 0
            · rw [if_pos ⟨hn, by decide⟩] at H; exact H
            · rw [if_neg (fun h => hn h.1), if_neg (by decide)] at H; exact H⟩
          have Hb := Aside0.mk hb
          clear H HA hb hz
          go_wp2_with fail
          refine (runes_bad.calls a0 p _ true _ (by rw [← Hb.out]; exact HBD.out)).mono ?_
          rintro e w' ⟨rfl, ⟨n, rfl⟩⟩
          go_wp2_with fail
          go_ret
          exact ⟨ret_bool H2.out, pw_below_drewN HB1.out _⟩
        | false =>
          have Hb := Aside0.mk hb
          clear HA hb
          cases hi : inNameR (dcode a0 p).1 with
          | false =>
            rw [hi] at H
            have H2 : Aside0 (false = r) := ⟨by
              by_cases hn : n = 0 ∧ kindR (dcode a0 p).1 ≠ 1
              · rw [if_pos hn] at H; exact H
              · rw [if_neg hn, if_neg (by decide)] at H; exact H⟩
            have Hi := Aside0.mk hi
            clear H hi
            by_cases hp0 : p = 0
            · subst hp0
              simp only [Nat.zero_add] at HB1 HI1
              have hk0 : (kindR ((Utf8.decode a0 0).1 : Int) != 1) = true := by
                have := Hi.out
                unfold inNameR at this
                simp only [Bool.or_eq_false_iff, beq_eq_false_iff_ne] at this
                exact bne_iff_ne.2 this.1.1
              go_wp2_with fail
              refine (runes_bad.calls a0 0 _ false _ (by rw [← Hb.out]; exact HBD.out)).mono ?_
              rintro e w' ⟨rfl, ⟨nq, rfl⟩⟩
              go_wp2_with fail
              refine (runes_Kind.calls _ (kindR ((Utf8.decode a0 0).1 : Int)) _ (Kd.C_below HRGL.out (pw_below_drewN HB1.out _)) rfl).mono ?_
              rintro e w2 ⟨rfl, hb2⟩
              go_wp2_with fail
              go_ret
              exact ⟨ret_bool H2.out, below_step (pw_below_drewN HB1.out _) hb2⟩
            · have hp0b : ((p : Int) == 0) = false := beq_eq_false_iff_ne.2 (by omega)
              clear hp0
              go_wp2_with fail
              refine (runes_bad.calls a0 p _ false _ (by rw [← Hb.out]; exact HBD.out)).mono ?_
              rintro e w' ⟨rfl, ⟨nq, rfl⟩⟩
              go_wp2_with fail
              refine (runes_inName.calls _ false _ (Kd.C_below HRGL.out (pw_below_drewN HB1.out _)) (by rw [← Hi.out]; exact HIN.out)).mono ?_
              rintro e w2 ⟨rfl, hb2⟩
              go_wp2_with fail
              go_ret
              exact ⟨ret_bool H2.out, below_step (pw_below_drewN HB1.out _) hb2⟩
          | true =>
            rw [hi] at H
            have Hi := Aside0.mk hi
            clear hi
            by_cases hp0 : p = 0
            · subst hp0
              simp only [Nat.zero_add] at HB1 HI1
              rw [Nat.zero_add] at H
              obtain rfl : n = 0 := HPN.out.1 rfl
              by_cases hk1 : kindR ((Utf8.decode a0 0).1 : Int) = 1
              · have hk1' : kindR ((dcode a0 0).1 : Int) = 1 := hk1
                rw [if_neg (fun h => h.2 hk1'), if_pos rfl] at H
                have hk0 : (kindR ((Utf8.decode a0 0).1 : Int) != 1) = false := bne_eq_false_iff_eq.2 hk1
                have H2 := Aside0.mk H
                clear H hk1 hk1'
                go_wp2_with fail
                refine (runes_bad.calls a0 0 _ false _ (by rw [← Hb.out]; exact HBD.out)).mono ?_
                rintro e w' ⟨rfl, ⟨nq, rfl⟩⟩
                go_wp2_with fail
                refine (runes_Kind.calls _ (kindR ((Utf8.decode a0 0).1 : Int)) _ (Kd.C_below HRGL.out (pw_below_drewN HB1.out _)) rfl).mono ?_
                rintro e w2 ⟨rfl, hb2⟩
                go_wp2_with fail
                refine (runes_inName.calls _ true _ (Kd.C_below HRGL.out (below_step (pw_below_drewN HB1.out _) hb2)) (by rw [← Hi.out]; exact HIN.out)).mono ?_
                rintro e w3 ⟨rfl, hb3⟩
                go_wp2_with fail
                have hI3 := iter_below (iter_below (iter_drewN HI1.out nq) hb2) hb3
                go_roundw
                case rel => exact ⟨k, (Utf8.decode a0 0).2, 1, rfl, by omega, by omega, ⟨by omega⟩, ⟨hI3⟩, ⟨below_step (below_step (pw_below_drewN HB1.out _) hb2) hb3⟩, by omega, H2⟩
                case measure => rw [iterPos_of hit.out, iterPos_of hI3]; omega
              · have hk1' : kindR ((dcode a0 0).1 : Int) ≠ 1 := hk1
                rw [if_pos ⟨rfl, hk1'⟩] at H
                have hk0 : (kindR ((Utf8.decode a0 0).1 : Int) != 1) = true := bne_iff_ne.2 hk1
                have H2 := Aside0.mk H
                clear H hk1 hk1'
                go_wp2_with fail
                refine (runes_bad.calls a0 0 _ false _ (by rw [← Hb.out]; exact HBD.out)).mono ?_
                rintro e w' ⟨rfl, ⟨nq, rfl⟩⟩
                go_wp2_with fail
                refine (runes_Kind.calls _ (kindR ((Utf8.decode a0 0).1 : Int)) _ (Kd.C_below HRGL.out (pw_below_drewN HB1.out _)) rfl).mono ?_
                rintro e w2 ⟨rfl, hb2⟩
                go_wp2_with fail
                go_ret
                exact ⟨ret_bool H2.out, below_step (pw_below_drewN HB1.out _) hb2⟩
            · have hp0b : ((p : Int) == 0) = false := beq_eq_false_iff_ne.2 (by omega)
              rw [if_neg (fun h => hp0 (HPN.out.2 h.1)), if_pos rfl] at H
              have H2 := Aside0.mk H
              have Hp0 := Aside0.mk hp0
              clear hp0 H
              go_wp2_with fail
              refine (runes_bad.calls a0 p _ false _ (by rw [← Hb.out]; exact HBD.out)).mono ?_
              rintro e w' ⟨rfl, ⟨nq, rfl⟩⟩
              go_wp2_with fail
              refine (runes_inName.calls _ true _ (Kd.C_below HRGL.out (pw_below_drewN HB1.out _)) (by rw [← Hi.out]; exact HIN.out)).mono ?_
              rintro e w3 ⟨rfl, hb3⟩
              go_wp2_with fail
              have hI3 := iter_below (iter_drewN HI1.out nq) hb3
              go_roundw
              case rel => exact ⟨k, _, n + 1, by go_num, by omega, hw2, ⟨by omega⟩, ⟨hI3⟩, ⟨below_step (pw_below_drewN HB1.out _) hb3⟩, by omega, H2⟩
              case measure => rw [iterPos_of hit.out, iterPos_of hI3]; omega
      · have hnx := fun ty => Lib.run_next_end_at (P := Tryd.prog) wr w.heap.size a0 p ty hit.out hp
        have H2 : Aside0 (decide (1 ≤ n ∧ n ≤ 16) = r) := ⟨by
          have H := HA.out
          cases k with
          | zero => omega
          | succ k => simp only [nameR] at H; rw [if_neg hp] at H; exact H⟩
        clear HA
        go_wp2_with fail
        · go_ret
          exact ⟨ret_bool (by rw [← H2.out]; exact decide_eq_decide.2 (by omega)), HB.out⟩
        · go_ret
          exact ⟨ret_bool (by rw [← H2.out]; exact (decide_eq_false (by omega)).symm), HB.out⟩
  · rw [if_neg hs] at h
    cases h
end Go.Proofs.YtadlbegecgpaaaaDoor.S
namespace Go.Proofs.YtadlbegecgpaaaaDoor.S
open Go.RowKit Go.Proofs.YtadlbegecgpaaaaDoorW.PrintWords Go.Proofs.YtadlbegecgpaaaaDoorW.PrintLast Go.Proofs.YtadlbegecgpaaaaDoorW.PrintMore
attribute [local go_sem] max2_int min2_int max_two min_two max_three min_three max_four min_four   -- for this text's walks alone
set_option linter.unusedVariables false
set_option linter.unusedSimpArgs false
def slices_Clone_api_Bind.f (l0 : List (S63)) : Option ((List (S63))) := (some (([] : List (S63)) : List (S63))).bind fun y101 => (if y101.length + l0.length < 5864062014805 then (some (y101 ++ l0)) else (none))
end Go.Proofs.YtadlbegecgpaaaaDoor.S
namespace Go.Proofs.YtadlbegecgpaaaaDoor.S
open Go Go.RowKit Go.Proofs.YtadlbegecgpaaaaDoorW.PrintWords Go.Proofs.YtadlbegecgpaaaaDoorW.PrintLast Go.Proofs.YtadlbegecgpaaaaDoorW.PrintMore
def utf8_DecodeRuneInString.f (a0 : ByteArray) : Option (Int × Int) := some ((Lib.decodeGo a0).1, (Lib.decodeGo a0).2)
theorem utf8_DecodeRuneInString.calls (a0 : ByteArray) (r1 r2 : Int) (w : World) (hGU : Kd.C kGU w GAU 1 [()]) (h : utf8_DecodeRuneInString.f a0 = some (r1, r2)) :
    Calls Tryd.prog 80 #[.string a0] w fun e w' => e = .returned (.tuple #[.int .i32 r1, .int .i64 r2]) ∧ Below w.heap.size w w' := by
  have h2 := Option.some.inj h
  injection h2 with h3 h4
  subst h3 h4
  exact Tryd.utf8_DecodeRuneInString a0 w (ghostU hGU)
def strconv_FormatInt.f (a0 a1 : Int) : Option ByteArray := if a1 = 10 ∧ -9223372036854775808 ≤ a0 ∧ a0 ≤ 9223372036854775807 then some ⟨(Lib.itoa a0).toArray⟩ else none
theorem strconv_FormatInt.calls (a0 a1 : Int) (r : ByteArray) (w : World) (hGN : Kd.C kGN w GAN 1 [()]) (h : strconv_FormatInt.f a0 a1 = some r) :
    Calls Tryd.prog 86 #[.int .i64 a0, .int .i64 a1] w fun e w' => e = .returned (.string r) ∧ Below w.heap.size w w' := by
  unfold strconv_FormatInt.f at h
  by_cases hc : a1 = 10 ∧ -9223372036854775808 ≤ a0 ∧ a0 ≤ 9223372036854775807
  · rw [if_pos hc] at h
    obtain ⟨rfl, h0, h1⟩ := hc
    obtain rfl := Option.some.inj h
    refine (Tryd.strconv_FormatInt_10 a0 h0 h1 w (ghostN hGN)).mono ?_
    rintro e w' ⟨rfl, k, os, rfl⟩
    exact ⟨rfl, Lib.below_grow _ _ (Nat.le_refl _) _ _⟩
  · rw [if_neg hc] at h
    cases h
def strings_Join.f (l0 : List ByteArray) (a1 : ByteArray) : Option ByteArray := if (Lib.join (l0.map (·.data.toList)) a1.data.toList).length ≤ 140737488355328 ∧ l0.length ≤ 140737488355328 then some ⟨(Lib.join (l0.map (·.data.toList)) a1.data.toList).toArray⟩ else none
theorem strings_Join.calls (A0 : Option Addr) (c0 : Nat) (l0 : List ByteArray) (a1 : ByteArray) (r : ByteArray) (w : World) (hr0 : Kd.C Kd.string w A0 l0.length l0) (hc0 : l0.length ≤ c0) (h : strings_Join.f l0 a1 = some r) :
    Calls Tryd.prog 53 #[.slice A0 l0.length c0, .string a1] w fun e w' => e = .returned (.string r) ∧ Below w.heap.size w w' := by
  unfold strings_Join.f at h
  by_cases hc : (Lib.join (l0.map (·.data.toList)) a1.data.toList).length ≤ 140737488355328 ∧ l0.length ≤ 140737488355328
  · rw [if_pos hc] at h
    obtain rfl := Option.some.inj h
    cases l0 with
    | nil =>
      refine (Tryd.strings_Join_none A0 c0 a1 w).mono ?_
      rintro e w' ⟨rfl, rfl⟩
      exact ⟨rfl, Below.refl _ _⟩
    | cons x l =>
      obtain ⟨ad, rfl, hcell0⟩ := hr0.2.2 (by simp)
      have hc1 : ∀ (j : Nat) y, (x :: l)[j]? = some y → w.cell? (ad.add j) = some (.string y) := fun j y hj => by
        obtain ⟨c, _, hk, hcc⟩ := hcell0 j y hj
        have hk' : c = [.string y] := hk
        subst hk'
        have h1 := hcc 0 _ rfl
        rwa [show (Kd.string).sz = 1 from rfl, Nat.mul_one, Nat.add_zero] at h1
      obtain ⟨bk, o, sp⟩ := ad
      have hsp : sp = none := by
        have h0 := hc1 0 x rfl
        cases sp with
        | none => rfl
        | some z =>
          unfold World.cell? Addr.add at h0
          simp at h0
          split at h0 <;> simp_all
      subst hsp
      simp only [add_at] at hc1
      have hbk : bk < w.heap.size := World.block_lt_of_cell? w _ (hc1 0 x rfl)
      exact Tryd.strings_Join bk o c0 (x :: l) a1 w hc1 hbk hc.2 hc0 hc.1
  · rw [if_neg hc] at h
    cases h
end Go.Proofs.YtadlbegecgpaaaaDoor.S
namespace Go.Proofs.YtadlbegecgpaaaaDoor.S
open Go Go.RowKit Go.Proofs.YtadlbegecgpaaaaDoorW.PrintWords Go.Proofs.YtadlbegecgpaaaaDoorW.PrintLast Go.Proofs.YtadlbegecgpaaaaDoorW.PrintMore
theorem rest_size (a : ByteArray) (n : Nat) (h : n ≤ a.size) : (a.extract n a.size).size = a.size - n := by rw [ByteArray.size_extract]; omega
/-- What DecodeRuneInString tells of a text's rest. -/
theorem decode_rest (a : ByteArray) (n : Nat) (h : n ≤ a.size) : ∃ m : Nat, utf8_DecodeRuneInString.f (a.extract n a.size) = some (headR a n, (m : Int)) ∧ n + m ≤ a.size ∧ (n < a.size → m = (dcode a n).2 ∧ 1 ≤ m ∧ m ≤ 4) := by
  unfold utf8_DecodeRuneInString.f Lib.decodeGo headR
  by_cases hn : n < a.size
  · rw [if_neg (by rw [rest_size a n h]; omega), if_pos hn, show Utf8.decode (a.extract n a.size) 0 = dcode a n from dcode_extract a n 0 (by omega)]
    have h1 := dcode_pos a n hn
    have h2 := dcode_le a n hn
    have h3 := dcode_four a n
    exact ⟨_, rfl, h2, fun _ => ⟨rfl, h1, h3⟩⟩
  · rw [if_pos (by rw [rest_size a n h]; omega), if_neg hn]
    exact ⟨0, rfl, by omega, fun h => absurd h hn⟩
theorem while_le (f : Int → Bool) (s : ByteArray) : ∀ k p, p ≤ s.size → whileR f s k p ≤ s.size
  | 0, _, h => h
  | k + 1, p, h => by
    simp only [whileR]
    by_cases hc : p < s.size ∧ f (dcode s p).1 = true
    · rw [if_pos hc]
      exact while_le f s k _ (dcode_le s p hc.1)
    · rw [if_neg hc]; exact h
theorem behind_eq (f : Int → Bool) (s : ByteArray) (p : Nat) (h : p ≤ s.size) : behindR f s p = whileR f s (s.size + 1) p := by
  unfold behindR
  have := while_le f s (s.size + 1) p h
  omega
theorem span_next (a : ByteArray) (n q : Nat) (h : n + q < a.size) : Utf8.decode (a.extract n a.size) q = dcode a (n + q) := dcode_extract a n q (by omega)
def runes_Span.f (a0 : ByteArray) (a1 : Int) : Option (Int × Int) := if a0.size ≤ 9223372036854775800 then some (spanR a0 a1) else none
set_option maxHeartbeats 2000000 in
set_option maxRecDepth 100000 in
theorem span_in (a0 : ByteArray) (n : Nat) (r1 r2 : Int) (w : World) (hs : a0.size ≤ 9223372036854775800) (hn : n ≤ a0.size) (hGL : Kd.C kGL w GAL 1 [()]) (hGU : Kd.C kGU w GAU 1 [()]) (h : spanR a0 n = (r1, r2)) :
    Calls Tryd.prog 78 #[.string a0, .int .i64 n] w fun e w' => e = .returned (.tuple #[.int .i64 r1, .int .i64 r2]) ∧ Below w.heap.size w w' := by
  have HRGL := Aside0.mk hGL
  have HRGU := Aside0.mk hGU
  clear hGL hGU
  unfold spanR at h
  rw [if_neg (by omega), Int.toNat_natCast] at h
  have HES := Aside0.mk (rest_size a0 n hn)
  obtain ⟨m0, hdr, hm0, _⟩ := decode_rest a0 n hn
  have HDR := Aside0.mk hdr
  clear hdr
  have HH := Aside0.mk h
  clear h
  go_enter Tryd.func78, Tryd.ntmps78
  go_wp2_with fail
  refine (utf8_DecodeRuneInString.calls _ _ _ _ HRGU.out HDR.out).mono ?_
  rintro e w1 ⟨rfl, hb1⟩
  have HB1 := Aside0.mk hb1
  clear hb1
  go_wp2_with fail
  refine (runes_Kind.calls _ (kindR (headR a0 n)) _ (Kd.C_below HRGL.out HB1.out) rfl).mono ?_
  rintro e w2 ⟨rfl, hb2⟩
  have HB2 := Aside0.mk (below_step HB1.out hb2)
  clear hb2 HB1
  have HKD := Aside0.mk (span_next a0 n)
  by_cases hk : kindR (headR a0 n) = 1
  · have hkb : (kindR (headR a0 n) != 1) = false := bne_eq_false_iff_eq.2 hk
    have H := HH.out
    rw [if_neg (fun h => h hk)] at H
    have H2 := Aside0.mk H
    clear HH hk H HDR HRGU
    go_wp2_with fail
    go_loopw [] (fun wr => ∃ k q : Nat, n + q ≤ a0.size ∧ Aside0 (wr.heap[w2.heap.size]? = some (.stringIter (a0.extract n a0.size) q)) ∧ Aside0 (Below w.heap.size w wr) ∧ a0.size < k + (n + q) ∧ Aside0 (whileR inNameR a0 k (n + q) = behindR inNameR a0 n)) (fun wr => a0.size - wr.iterPos w2.heap.size)
    case atStart => exact ⟨a0.size + 1, 0, by omega, ⟨World.iter_heap w2 _ 0⟩, ⟨below_step HB2.out (below_iter w2 _ 0)⟩, by omega, ⟨(behind_eq inNameR a0 n hn).symm⟩⟩
    case round =>
      obtain ⟨k, q, hq, hit, HB, hk, HA⟩ := hrel
      obtain ⟨k, rfl⟩ : ∃ m, k = m + 1 := ⟨k - 1, by omega⟩
      have H := HA.out
      simp only [whileR] at H
      by_cases hp : n + q < a0.size
      · have hqe : q < (a0.extract n a0.size).size := by rw [HES.out]; omega
        have hnx := fun ty => Lib.run_next_any_at (P := Tryd.prog) wr w2.heap.size (a0.extract n a0.size) q ty hit.out hqe
        have hw1 := dcode_pos a0 (n + q) hp
        have hw2 := dcode_le a0 (n + q) hp
        rw [HKD.out q hp] at hnx
        have HB1 := Aside0.mk (Lib.below_iterAt HB.out HB2.out.size (a0.extract n a0.size) (q + (dcode a0 (n + q)).2))
        have HI1 := Aside0.mk (Lib.iterAt_heap wr _ (a0.extract n a0.size) q (q + (dcode a0 (n + q)).2) hit.out)
        have HIN := Aside0.mk (inName_is (dcode a0 (n + q)).1)
        cases hi : inNameR (dcode a0 (n + q)).1 with
        | true =>
          rw [if_pos ⟨hp, hi⟩, Nat.add_assoc] at H
          have HI := Aside0.mk hi
          have H3 := Aside0.mk H
          clear hi H HA hqe
          go_wp2_with fail
          refine (runes_inName.calls _ true _ (Kd.C_below HRGL.out HB1.out) (by rw [← HI.out]; exact HIN.out)).mono ?_
          rintro e w' ⟨rfl, hb3⟩
          go_wp2_with fail
          have hI3 := iter_below HI1.out hb3
          go_roundw
          case rel => exact ⟨k, _, by omega, ⟨hI3⟩, ⟨below_step HB1.out hb3⟩, by omega, H3⟩
          case measure => rw [iterPos_of hit.out, iterPos_of hI3]; omega
        | false =>
          rw [if_neg (fun h => by rw [hi] at h; exact absurd h.2 (by decide))] at H
          have HI := Aside0.mk hi
          have H3 := Aside0.mk H
          clear hi H HA hqe
          go_wp2_with fail
          refine (runes_inName.calls _ false _ (Kd.C_below HRGL.out HB1.out) (by rw [← HI.out]; exact HIN.out)).mono ?_
          rintro e w' ⟨rfl, hb3⟩
          go_wp2_with fail
          go_ret2
          exact ⟨ret_ii (by rw [← H2.out, ← H3.out]; congr 1), below_step HB1.out hb3⟩
      · have hqe : ¬ q < (a0.extract n a0.size).size := by rw [HES.out]; omega
        have hnx := fun ty => Lib.run_next_end_at (P := Tryd.prog) wr w2.heap.size (a0.extract n a0.size) q ty hit.out hqe
        rw [if_neg (fun h => hp h.1)] at H
        have H3 := Aside0.mk H
        clear H HA hqe
        go_wp2_with fail
        go_ret2
        exact ⟨ret_ii (by rw [← H2.out, ← H3.out]; congr 1; omega), HB.out⟩
  · have hkb : (kindR (headR a0 n) != 1) = true := bne_iff_ne.2 hk
    have H := HH.out
    rw [if_pos hk] at H
    have H2 := Aside0.mk H
    clear HH hk H HDR HRGU HKD
    go_wp2_with fail
    go_ret2
    exact ⟨ret_ii H2.out, HB2.out⟩
set_option maxHeartbeats 2000000 in
set_option maxRecDepth 100000 in
theorem runes_Span.calls (a0 : ByteArray) (a1 : Int) (r1 r2 : Int) (w : World) (hGL : Kd.C kGL w GAL 1 [()]) (hGU : Kd.C kGU w GAU 1 [()]) (h : runes_Span.f a0 a1 = some (r1, r2)) :
    Calls Tryd.prog 78 #[.string a0, .int .i64 a1] w fun e w' => e = .returned (.tuple #[.int .i64 r1, .int .i64 r2]) ∧ Below w.heap.size w w' := by
  unfold runes_Span.f at h
  by_cases hs : a0.size ≤ 9223372036854775800
  · rw [if_pos hs] at h
    by_cases hin : 0 ≤ a1 ∧ a1 ≤ a0.size
    · obtain ⟨n, rfl⟩ := Int.eq_ofNat_of_zero_le hin.1
      exact span_in a0 n r1 r2 w hs (by omega) hGL hGU (Option.some.inj h)
    · have hr : Aside0 (((0 : Int), (2 : Int)) = (r1, r2)) := ⟨by rw [← Option.some.inj h]; unfold spanR; rw [if_pos (by omega)]⟩
      by_cases h0 : a1 < 0
      · clear hin h hGL hGU
        go_enter Tryd.func78, Tryd.ntmps78
        go_wp2_with fail
        go_ret2
        exact ⟨ret_ii hr.out, Below.refl _ _⟩
      · have h0b : decide (a1 < 0) = false := decide_eq_false h0
        have h1b : decide ((a0.size : Int) < a1) = true := decide_eq_true (by omega)
        clear hin h h0 hGL hGU
        go_enter Tryd.func78, Tryd.ntmps78
        go_wp2_with fail
        go_ret2
        exact ⟨ret_ii hr.out, Below.refl _ _⟩
  · rw [if_neg hs] at h
    cases h
end Go.Proofs.YtadlbegecgpaaaaDoor.S
namespace Go.Proofs.YtadlbegecgpaaaaDoor.S
open Go Go.RowKit Go.Proofs.YtadlbegecgpaaaaDoorW.PrintWords Go.Proofs.YtadlbegecgpaaaaDoorW.PrintLast Go.Proofs.YtadlbegecgpaaaaDoorW.PrintMore
def blankK (r : Int) : Bool := kindR r == 3
def skipR (s : ByteArray) (p : Nat) : Nat := behindR blankK s p
theorem skip_le (s : ByteArray) (p : Nat) : skipR s p ≤ s.size := by unfold skipR behindR; omega
set_option maxHeartbeats 2000000 in
set_option maxRecDepth 100000 in
theorem env_reader_skip.calls (g : Nat) (a0 : ByteArray) (n : Nat) (w0 w : World) (hs : a0.size ≤ 9223372036854775800) (hn : n ≤ a0.size) (hI : IsS74 w0 w g a0 n) (hB : Below w0.heap.size w0 w) (hGL : Kd.C kGL w0 GAL 1 [()]) :
    Calls Tryd.prog 47 #[.pointer (some ⟨g, 0, none⟩)] w fun e w' => e = .returned (.tuple #[]) ∧ IsS74 w0 w' g a0 (skipR a0 n) ∧ Below w0.heap.size w0 w' ∧ KeepBut w w' g none := by
  have HRGL := Aside0.mk hGL
  have HI := Aside0.mk hI
  have HB0 := Aside0.mk hB
  clear hGL hI hB
  have HES := Aside0.mk (rest_size a0 n hn)
  have HKD := Aside0.mk (span_next a0 n)
  have hc0 : w.cell? ⟨g, 0, none⟩ = some (.string a0) := cellS74_0 HI.out.1
  have hc1 : w.cell? ⟨g, 1, none⟩ = some (.int .i64 n) := cellS74_1 HI.out.1
  have HII : ∀ s p, IsS74 w0 (w.drew.iter s p) g a0 n := fun s p => IsS74.below (IsS74.drew HI.out) (below_iter w.drew s p)
  have hci0 : ∀ s p, (w.drew.iter s p).cell? ⟨g, 0, none⟩ = some (.string a0) := fun s p => cellS74_0 (HII s p).1
  have hci1 : ∀ s p, (w.drew.iter s p).cell? ⟨g, 1, none⟩ = some (.int .i64 n) := fun s p => cellS74_1 (HII s p).1
  have hB0s := HB0.out.size
  go_enter Tryd.func47, Tryd.ntmps47
  go_wp2_with fail
  go_region_held3 (fun W_ => W_.cell? ⟨g, 0, none⟩ = some (.string a0) ∧ W_.cell? ⟨g, 1, none⟩ = some (.int .i64 n)) (first | go_keep | exact ⟨hci0 _ _, hci1 _ _⟩) (fail)
  all_goals go_wp2_with fail
  go_loopw [] (fun wr => ∃ k q : Nat, n + q ≤ a0.size ∧ Aside0 (wr.heap[w.heap.size]? = some (.stringIter (a0.extract n a0.size) q)) ∧ Aside0 (Below w.heap.size w wr) ∧ a0.size < k + (n + q) ∧ Aside0 (whileR blankK a0 k (n + q) = skipR a0 n)) (fun wr => a0.size - wr.iterPos w.heap.size)
  case atStart => exact ⟨a0.size + 1, 0, by omega, ⟨World.iter_heap w.drew _ 0⟩, ⟨below_step (below_drew1 (Below.refl _ _)) (below_iter w.drew _ 0)⟩, by omega, ⟨(behind_eq blankK a0 n hn).symm⟩⟩
  case round =>
    clear hc0 hc1 hci0 hci1 HII
    obtain ⟨k, q, hq, hit, HB, hk, HA⟩ := hrel
    have HB9 := Aside0.mk (below_step HB0.out HB.out)
    obtain ⟨k, rfl⟩ : ∃ m, k = m + 1 := ⟨k - 1, by omega⟩
    have H := HA.out
    simp only [whileR] at H
    by_cases hp : n + q < a0.size
    · have hqe : q < (a0.extract n a0.size).size := by rw [HES.out]; omega
      have hnx := fun ty => Lib.run_next_any_at (P := Tryd.prog) wr w.heap.size (a0.extract n a0.size) q ty hit.out hqe
      have hw1 := dcode_pos a0 (n + q) hp
      have hw2 := dcode_le a0 (n + q) hp
      rw [HKD.out q hp] at hnx
      have HB1 := Aside0.mk (Lib.below_iterAt HB.out (Nat.le_refl _) (a0.extract n a0.size) (q + (dcode a0 (n + q)).2))
      have HB1r := Aside0.mk (Lib.below_iterAt HB9.out (hB0s) (a0.extract n a0.size) (q + (dcode a0 (n + q)).2))
      have HI1 := Aside0.mk (Lib.iterAt_heap wr _ (a0.extract n a0.size) q (q + (dcode a0 (n + q)).2) hit.out)
      by_cases hi : kindR (dcode a0 (n + q)).1 = 3
      · have hib : blankK (dcode a0 (n + q)).1 = true := by unfold blankK; rw [hi]; rfl
        rw [if_pos ⟨hp, hib⟩, Nat.add_assoc] at H
        have hkb : (kindR ((dcode a0 (n + q)).1 : Int) != 3) = false := bne_eq_false_iff_eq.2 hi
        have H3 := Aside0.mk H
        clear hi H HA hqe
        go_wp2_with fail
        refine (runes_Kind.calls _ (kindR ((dcode a0 (n + q)).1 : Int)) _ (Kd.C_below HRGL.out HB1r.out) rfl).mono ?_
        rintro e w' ⟨rfl, hb3⟩
        go_wp2_with fail
        have hI3 := iter_below HI1.out hb3
        go_roundw
        case rel => exact ⟨k, _, by omega, ⟨hI3⟩, ⟨below_step HB1.out hb3⟩, by omega, H3⟩
        case measure => rw [iterPos_of hit.out, iterPos_of hI3]; omega
      · have hib : ¬ (n + q < a0.size ∧ blankK (dcode a0 (n + q)).1 = true) := fun h => hi (by have := h.2; unfold blankK at this; exact beq_iff_eq.1 this)
        rw [if_neg hib] at H
        have hkb : (kindR ((dcode a0 (n + q)).1 : Int) != 3) = true := bne_iff_ne.2 hi
        have H3 := Aside0.mk H
        clear hi H HA hqe hib
        go_wp2_with fail
        refine (runes_Kind.calls _ (kindR ((dcode a0 (n + q)).1 : Int)) _ (Kd.C_below HRGL.out HB1r.out) rfl).mono ?_
        rintro e w' ⟨rfl, hb3⟩
        have HBX := Aside0.mk (below_step HB1.out hb3)
        have HBY := Aside0.mk (below_step HB1r.out hb3)
        have HIX := Aside0.mk (IsS74.below HI.out HBX.out)
        have hc0 : w'.cell? ⟨g, 0, none⟩ = some (.string a0) := cellS74_0 HIX.out.1
        have hc1 : w'.cell? ⟨g, 1, none⟩ = some (.int .i64 n) := cellS74_1 HIX.out.1
        have hf1 : w'.frozen? ⟨g, 1, none⟩ = false := blk_frozen HIX.out.1 1
        go_wp2_with fail
        first | go_end0 | ((try simp only [Exit.inBlock, Exit.then]); refine bodyPost_ret (results_none rfl _ _ _) rfl ?_)
        exact ⟨rfl, by rw [← H3.out]; exact IsS74.set_1 HIX.out _, HBY.out.setCell (p := ⟨g, 1, none⟩) HI.out.2 _, (KeepBut.of_below HBX.out g none).set_ 1 _⟩
    · have hqe : ¬ q < (a0.extract n a0.size).size := by rw [HES.out]; omega
      have hnx := fun ty => Lib.run_next_end_at (P := Tryd.prog) wr w.heap.size (a0.extract n a0.size) q ty hit.out hqe
      rw [if_neg (fun h => hp h.1)] at H
      have H3 := Aside0.mk H
      have HIX := Aside0.mk (IsS74.below HI.out HB.out)
      have hc0 : wr.cell? ⟨g, 0, none⟩ = some (.string a0) := cellS74_0 HIX.out.1
      have hc1 : wr.cell? ⟨g, 1, none⟩ = some (.int .i64 n) := cellS74_1 HIX.out.1
      have hf1 : wr.frozen? ⟨g, 1, none⟩ = false := blk_frozen HIX.out.1 1
      clear H HA hqe
      go_wp2_with fail
      first | go_end0 | ((try simp only [Exit.inBlock, Exit.then]); refine bodyPost_ret (results_none rfl _ _ _) rfl ?_)
      exact ⟨rfl, by rw [← H3.out]; exact (show ((n + q : Nat) : Int) = (a0.size : Int) from by omega) ▸ IsS74.set_1 HIX.out _, HB9.out.setCell (p := ⟨g, 1, none⟩) HI.out.2 _, (KeepBut.of_below HB.out g none).set_ 1 _⟩
end Go.Proofs.YtadlbegecgpaaaaDoor.S
namespace Go.Proofs.YtadlbegecgpaaaaDoor.S
open Go Go.RowKit Go.Proofs.YtadlbegecgpaaaaDoorW.PrintWords Go.Proofs.YtadlbegecgpaaaaDoorW.PrintLast Go.Proofs.YtadlbegecgpaaaaDoorW.PrintMore
def zK (z : Int) (r : Int) : Bool := zeroR r == z
theorem zero_range {r : Int} (h : zeroR r ≠ 0) : 48 ≤ zeroR r ∧ zeroR r ≤ 65296 ∧ zeroR r ≤ r ∧ r ≤ zeroR r + 9 := by
  unfold zeroR at h ⊢
  by_cases h1 : 48 ≤ r ∧ r ≤ 57
  · rw [if_pos h1] at h ⊢; omega
  · rw [if_neg h1] at h ⊢
    by_cases h2 : 1632 ≤ r ∧ r ≤ 1641
    · rw [if_pos h2] at h ⊢; omega
    · rw [if_neg h2] at h ⊢
      by_cases h3 : 65296 ≤ r ∧ r ≤ 65305
      · rw [if_pos h3] at h ⊢; omega
      · rw [if_neg h3] at h; exact absurd rfl h
/-- What stands in the loop: the number so far, or that it is too large. -/
def NumSt (nv : Int) (lg : Bool) (v : Nat) : Prop := 0 ≤ nv ∧ nv ≤ 18446744073709551615 ∧ (lg = true → 18446744073709551615 < v) ∧ (lg = false → (v : Int) = nv)
def runes_Number.f (a0 : ByteArray) (a1 : Int) : Option (Int × Int × Int) := if a0.size ≤ 9223372036854775800 then some (numberR a0 a1) else none
theorem ret_uii {a a' b b' c c' : Int} (h : (a, b, c) = (a', b', c')) : Ending.returned (.tuple #[.int .u64 a, .int .i64 b, .int .i64 c]) = .returned (.tuple #[.int .u64 a', .int .i64 b', .int .i64 c']) := by
  simp only [Prod.mk.injEq] at h
  obtain ⟨rfl, rfl, rfl⟩ := h
  rfl
theorem u64_mod (x : Int) : IntKind.u64.wrap x = x % 18446744073709551616 := by
  simp [IntKind.wrap, IntKind.signed, IntKind.bits]
theorem u64_in (x : Int) : 0 ≤ IntKind.u64.wrap x ∧ IntKind.u64.wrap x ≤ 18446744073709551615 := by
  rw [u64_mod]
  omega
theorem num_large {z nv : Int} {lg : Bool} {d k p V : Nat} {a0 : ByteArray} (h : Aside0 (∃ v, NumSt nv lg v ∧ valueR z a0 k p (10 * v + d) = V)) (hd : d ≤ 9) (hlt : (18446744073709551615 - (d : Int)) / 10 < nv) :
    Aside0 (∃ v, NumSt (IntKind.u64.wrap (IntKind.u64.wrap (10 * nv) + d)) true v ∧ valueR z a0 k p v = V) := by
  obtain ⟨v, ⟨h0, h1, h2, h3⟩, h4⟩ := h.out
  refine ⟨_, ⟨(u64_in _).1, (u64_in _).2, fun _ => ?_, fun h => by cases h⟩, h4⟩
  cases lg with
  | true => have := h2 rfl; omega
  | false => have := h3 rfl; omega
theorem num_fits {z nv : Int} {lg : Bool} {d k p V : Nat} {a0 : ByteArray} (h : Aside0 (∃ v, NumSt nv lg v ∧ valueR z a0 k p (10 * v + d) = V)) (hd : d ≤ 9) (hn : 0 ≤ nv) (hle : nv ≤ (18446744073709551615 - (d : Int)) / 10) :
    Aside0 (∃ v, NumSt (10 * nv + d) lg v ∧ valueR z a0 k p v = V) := by
  obtain ⟨v, ⟨h0, h1, h2, h3⟩, h4⟩ := h.out
  refine ⟨_, ⟨by omega, by omega, fun e => ?_, fun e => ?_⟩, h4⟩
  · have := h2 e; omega
  · have := h3 e; omega
/-- What is answered behind the loop. -/
theorem num_end {a0 : ByteArray} {n : Nat} {z nv r1 r2 r3 : Int} {lg : Bool} (hz : z = zeroR (headR a0 n))
    (h : (if 18446744073709551615 < valueR (zeroR (headR a0 n)) a0 (a0.size + 1) n 0 then ((0 : Int), (0 : Int), (10 : Int)) else ((valueR (zeroR (headR a0 n)) a0 (a0.size + 1) n 0 : Nat), (behindR (fun r => zeroR r == zeroR (headR a0 n)) a0 n : Nat), 0)) = (r1, r2, r3))
    (e : Nat) (he : e = behindR (zK z) a0 n) (hv : ∃ v, NumSt nv lg v ∧ v = valueR z a0 (a0.size + 1) n 0) :
    (if lg = true then ((0 : Int), (0 : Int), (10 : Int)) else (nv, (e : Int), 0)) = (r1, r2, r3) := by
  rw [← h, ← hz]
  obtain ⟨v, ⟨h0, h1, h2, h3⟩, h4⟩ := hv
  rw [← h4, he]
  cases lg with
  | true => rw [if_pos rfl, if_pos (h2 rfl)]
  | false =>
    have := h3 rfl
    rw [if_neg (by decide), if_neg (by omega), this]
    rfl
set_option maxHeartbeats 2000000 in
set_option maxRecDepth 100000 in
theorem number_in (a0 : ByteArray) (n : Nat) (r1 r2 r3 : Int) (w : World) (hs : a0.size ≤ 9223372036854775800) (hn : n ≤ a0.size) (hGL : Kd.C kGL w GAL 1 [()]) (hGU : Kd.C kGU w GAU 1 [()]) (h : numberR a0 n = (r1, r2, r3)) :
    Calls Tryd.prog 81 #[.string a0, .int .i64 n] w fun e w' => e = .returned (.tuple #[.int .u64 r1, .int .i64 r2, .int .i64 r3]) ∧ Below w.heap.size w w' := by
  have HRGL := Aside0.mk hGL
  have HRGU := Aside0.mk hGU
  clear hGL hGU
  unfold numberR at h
  rw [if_neg (by omega), Int.toNat_natCast] at h
  have HES := Aside0.mk (rest_size a0 n hn)
  obtain ⟨m0, hdr, hm0, _⟩ := decode_rest a0 n hn
  have HDR := Aside0.mk hdr
  clear hdr
  have HH := Aside0.mk h
  clear h
  have HKD := Aside0.mk (span_next a0 n)
  by_cases hz : zeroR (headR a0 n) = 0
  · have hzb : decide (zeroR (headR a0 n) ≠ 0) = false := decide_eq_false (fun h => h hz)
    have H := HH.out
    simp only at H
    rw [if_pos hz] at H
    have H2 := Aside0.mk H
    clear HH H
    go_enter Tryd.func81, Tryd.ntmps81
    go_wp2_with fail
    refine (utf8_DecodeRuneInString.calls _ _ _ _ HRGU.out HDR.out).mono ?_
    rintro e w1 ⟨rfl, hb1⟩
    have HB1 := Aside0.mk hb1
    clear hb1
    go_wp2_with fail
    refine (runes_zero.calls _ (zeroR (headR a0 n)) false _ (Kd.C_below HRGL.out HB1.out) (by unfold runes_zero.f; rw [← hzb])).mono ?_
    rintro e w2 ⟨rfl, ⟨nd, rfl⟩⟩
    go_wp2_with fail
    go_ret3
    exact ⟨ret_uii H2.out, pw_below_drewN HB1.out _⟩
  · have hzb : decide (zeroR (headR a0 n) ≠ 0) = true := decide_eq_true hz
    have hzr := zero_range hz
    have H := HH.out
    simp only at H
    rw [if_neg hz] at H
    have H2 := Aside0.mk H
    clear HH H
    obtain ⟨z, hze⟩ : ∃ z, z = zeroR (headR a0 n) := ⟨_, rfl⟩
    rw [← hze] at hzr
    have HZE := Aside0.mk hze
    clear hze hz
    go_enter Tryd.func81, Tryd.ntmps81
    go_wp2_with fail
    refine (utf8_DecodeRuneInString.calls _ _ _ _ HRGU.out HDR.out).mono ?_
    rintro e w1 ⟨rfl, hb1⟩
    have HB1 := Aside0.mk hb1
    clear hb1
    go_wp2_with fail
    refine (runes_zero.calls _ z true _ (Kd.C_below HRGL.out HB1.out) (by unfold runes_zero.f; rw [← hzb, HZE.out])).mono ?_
    rintro e w2 ⟨rfl, ⟨nd, rfl⟩⟩
    have HB2 := Aside0.mk (pw_below_drewN HB1.out nd)
    clear HB1
    go_wp2_with fail
    go_loopw [11, 12, 13] (fun v11 v12 v13 wr => ∃ (k q : Nat) (nv : Int) (lg : Bool), v11 = .int .u64 nv ∧ v12 = .int .i64 a0.size ∧ v13 = .bool lg ∧ 0 ≤ nv ∧ nv ≤ 18446744073709551615 ∧ n + q ≤ a0.size ∧ Aside0 (wr.heap[w1.heap.size]? = some (.stringIter (a0.extract n a0.size) q)) ∧ Aside0 (Below w.heap.size w wr) ∧ a0.size < k + (n + q) ∧ Aside0 (whileR (zK z) a0 k (n + q) = behindR (zK z) a0 n) ∧ Aside0 (∃ v, NumSt nv lg v ∧ valueR z a0 k (n + q) v = valueR z a0 (a0.size + 1) n 0)) (fun _ _ _ wr => a0.size - wr.iterPos w1.heap.size)
    case atStart => exact ⟨a0.size + 1, 0, 0, false, rfl, rfl, rfl, by omega, by omega, by omega, ⟨World.iter_heap _ _ 0⟩, ⟨below_step HB2.out (below_iter _ _ 0)⟩, by omega, ⟨(behind_eq (zK z) a0 n hn).symm⟩, ⟨0, ⟨by omega, by omega, (fun h => by cases h), fun _ => rfl⟩, rfl⟩⟩
    case round =>
      obtain ⟨k, q, nv, lg, rfl, rfl, rfl, hn0, hn1, hq, hit, HB, hk, HE, HV⟩ := hrel
      obtain ⟨k, rfl⟩ : ∃ m, k = m + 1 := ⟨k - 1, by omega⟩
      by_cases hp : n + q < a0.size
      · have hqe : q < (a0.extract n a0.size).size := by rw [HES.out]; omega
        have hnx := fun ty => Lib.run_next_any_at (P := Tryd.prog) wr w1.heap.size (a0.extract n a0.size) q ty hit.out hqe
        have hw1 := dcode_pos a0 (n + q) hp
        have hw2 := dcode_le a0 (n + q) hp
        rw [HKD.out q hp] at hnx
        have HB1 := Aside0.mk (Lib.below_iterAt HB.out HB2.out.size (a0.extract n a0.size) (q + (dcode a0 (n + q)).2))
        have HI1 := Aside0.mk (Lib.iterAt_heap wr _ (a0.extract n a0.size) q (q + (dcode a0 (n + q)).2) hit.out)
        by_cases hi : zeroR (dcode a0 (n + q)).1 = z
        · have hwl : zK z (dcode a0 (n + q)).1 = true := by unfold zK; rw [hi]; exact beq_self_eq_true z
          have HE2 : Aside0 (whileR (zK z) a0 k (n + (q + (dcode a0 (n + q)).2)) = behindR (zK z) a0 n) := ⟨by
            have := HE.out
            simp only [whileR] at this
            rw [if_pos ⟨hp, hwl⟩, Nat.add_assoc] at this
            exact this⟩
          have HV2 : Aside0 (∃ v, NumSt nv lg v ∧ valueR z a0 k (n + (q + (dcode a0 (n + q)).2)) (10 * v + (((dcode a0 (n + q)).1 : Int) - z).toNat) = valueR z a0 (a0.size + 1) n 0) := ⟨by
            obtain ⟨v, h1, h2⟩ := HV.out
            simp only [valueR] at h2
            rw [if_pos ⟨hp, hi⟩, Nat.add_assoc] at h2
            exact ⟨v, h1, h2⟩⟩
          have hcz := zero_range (r := ((dcode a0 (n + q)).1 : Int)) (by rw [hi]; omega)
          rw [hi] at hcz
          have HZR : Aside0 (runes_zero.f ((dcode a0 (n + q)).1 : Int) = some (z, true)) := ⟨by unfold runes_zero.f; rw [hi, decide_eq_true (by omega)]⟩
          obtain ⟨d, hd⟩ : ∃ d : Nat, ((dcode a0 (n + q)).1 : Int) = z + d := ⟨(((dcode a0 (n + q)).1 : Int) - z).toNat, by omega⟩
          have hd9 : d ≤ 9 := by omega
          have hsub : ((dcode a0 (n + q)).1 : Int) - z = d := by omega
          have hdt : (((dcode a0 (n + q)).1 : Int) - z).toNat = d := by omega
          rw [hdt] at HV2
          clear HE HV hi hwl hqe hcz hdt hd
          go_wp2_with fail
          refine (runes_zero.calls _ z true _ (Kd.C_below HRGL.out HB1.out) HZR.out).mono ?_
          rintro e w3 ⟨rfl, ⟨nd3, rfl⟩⟩
          go_wp2_with fail
          · rename_i hlt
            go_roundw
            case rel => exact ⟨k, _, _, true, rfl, rfl, rfl, (u64_in _).1, (u64_in _).2, by omega, HI1, ⟨pw_below_drewN HB1.out _⟩, by omega, HE2, num_large HV2 hd9 hlt⟩
            case measure => rw [iterPos_of hit.out, iterPos_of (iter_drewN HI1.out nd3)]; omega
          · rename_i hle
            go_roundw
            case rel => exact ⟨k, _, _, lg, rfl, rfl, rfl, by omega, by omega, by omega, HI1, ⟨pw_below_drewN HB1.out _⟩, by omega, HE2, num_fits HV2 hd9 hn0 hle⟩
            case measure => rw [iterPos_of hit.out, iterPos_of (iter_drewN HI1.out nd3)]; omega
        · have hwl : ¬ (n + q < a0.size ∧ zK z (dcode a0 (n + q)).1 = true) := fun h => hi (by have := h.2; unfold zK at this; exact beq_iff_eq.1 this)
          have HF := num_end HZE.out H2.out (n + q) (by have := HE.out; simp only [whileR] at this; rw [if_neg hwl] at this; exact this) (by
            obtain ⟨v, h1, h2⟩ := HV.out
            simp only [valueR] at h2
            rw [if_neg (fun h => hi h.2)] at h2
            exact ⟨v, h1, h2⟩)
          have HF' := Aside0.mk HF
          clear HE HV HF hwl hqe
          by_cases hz0 : zeroR (dcode a0 (n + q)).1 = 0
          · have HZR : Aside0 (runes_zero.f ((dcode a0 (n + q)).1 : Int) = some (0, false)) := ⟨by unfold runes_zero.f; rw [hz0]; rfl⟩
            clear hi hz0
            cases lg with
            | false =>
              go_wp2_with fail
              refine (runes_zero.calls _ 0 false _ (Kd.C_below HRGL.out HB1.out) HZR.out).mono ?_
              rintro e w3 ⟨rfl, ⟨nd3, rfl⟩⟩
              go_wp2_with fail
              go_ret3
              exact ⟨ret_uii HF'.out, pw_below_drewN HB1.out _⟩
            | true =>
              go_wp2_with fail
              refine (runes_zero.calls _ 0 false _ (Kd.C_below HRGL.out HB1.out) HZR.out).mono ?_
              rintro e w3 ⟨rfl, ⟨nd3, rfl⟩⟩
              go_wp2_with fail
              go_ret3
              exact ⟨ret_uii HF'.out, pw_below_drewN HB1.out _⟩
          · have HZR : Aside0 (runes_zero.f ((dcode a0 (n + q)).1 : Int) = some (zeroR (dcode a0 (n + q)).1, true)) := ⟨by unfold runes_zero.f; rw [decide_eq_true hz0]⟩
            have hzn : ((zeroR ((dcode a0 (n + q)).1 : Int)) != z) = true := bne_iff_ne.2 hi
            clear hi hz0
            cases lg with
            | false =>
              go_wp2_with fail
              refine (runes_zero.calls _ (zeroR (dcode a0 (n + q)).1) true _ (Kd.C_below HRGL.out HB1.out) HZR.out).mono ?_
              rintro e w3 ⟨rfl, ⟨nd3, rfl⟩⟩
              go_wp2_with fail
              go_ret3
              exact ⟨ret_uii HF'.out, pw_below_drewN HB1.out _⟩
            | true =>
              go_wp2_with fail
              refine (runes_zero.calls _ (zeroR (dcode a0 (n + q)).1) true _ (Kd.C_below HRGL.out HB1.out) HZR.out).mono ?_
              rintro e w3 ⟨rfl, ⟨nd3, rfl⟩⟩
              go_wp2_with fail
              go_ret3
              exact ⟨ret_uii HF'.out, pw_below_drewN HB1.out _⟩
      · have hqe : ¬ q < (a0.extract n a0.size).size := by rw [HES.out]; omega
        have hnx := fun ty => Lib.run_next_end_at (P := Tryd.prog) wr w1.heap.size (a0.extract n a0.size) q ty hit.out hqe
        have HF := num_end HZE.out H2.out a0.size (by have := HE.out; simp only [whileR] at this; rw [if_neg (fun h => hp h.1)] at this; omega) (by
          obtain ⟨v, h1, h2⟩ := HV.out
          simp only [valueR] at h2
          rw [if_neg (fun h => hp h.1)] at h2
          exact ⟨v, h1, h2⟩)
        have HF' := Aside0.mk HF
        clear HE HV HF hqe
        cases lg with
        | false =>
          go_wp2_with fail
          go_ret3
          exact ⟨ret_uii HF'.out, HB.out⟩
        | true =>
          go_wp2_with fail
          go_ret3
          exact ⟨ret_uii HF'.out, HB.out⟩
end Go.Proofs.YtadlbegecgpaaaaDoor.S
