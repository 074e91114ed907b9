/- runes.Name: whether a text is a name. Conditions: what each theorem names (texts below 2^63 bytes; the listed variables of package runes or unicode/utf8 where hGL, hGU or hGN stands). -/
import Derived.Test.YtadlbegecgpaaaaDoorH7
namespace Go.Proofs.YtadlbegecgpaaaaDoor.S
open Go Go.RowKit Go.Proofs.YtadlbegecgpaaaaDoorW.PrintWords Go.Proofs.YtadlbegecgpaaaaDoorW.PrintLast Go.Proofs.YtadlbegecgpaaaaDoorW.PrintMore
theorem inName_is (a : Int) : runes_inName.f a = some (inNameR a) := by
  unfold runes_inName.f runes_Kind.f inNameR
  simp only [Option.bind_some]
  by_cases h1 : kindR a = 1
  · simp [h1]
  · by_cases h2 : kindR a = 2
    · simp [h2]
    · have e1 : (kindR a == 1) = false := beq_eq_false_iff_ne.2 h1
      have e2 : (kindR a == 2) = false := beq_eq_false_iff_ne.2 h2
      rw [if_neg h1, if_neg h2, e1, e2]
      rfl
theorem kind_fffd : kindR 65533 = 0 := by decide
theorem bad_kind {s : ByteArray} {p : Nat} (h : badAt s p = true) : kindR (dcode s p).1 = 0 ∧ inNameR (dcode s p).1 = false := by
  unfold badAt at h
  simp only [Bool.and_eq_true, beq_iff_eq] at h
  rw [h.1]
  exact ⟨by decide, by decide⟩
/-- An iterator's block, behind what makes memory. -/
theorem iter_below {w w1 : World} {k : Nat} {o : Obj} (h : w.heap[k]? = some o) (hb : Below w.heap.size w w1) : w1.heap[k]? = some o := (hb.block k (blk_lt h)).trans h
theorem iter_drewN {w : World} {k : Nat} {o : Obj} (h : w.heap[k]? = some o) (n : Nat) : (w.drewN n).heap[k]? = some o := h
def runes_Name.f (a0 : ByteArray) : Option Bool := if a0.size ≤ 9223372036854775800 then some (nameOk a0) else none
set_option maxHeartbeats 2000000 in
set_option maxRecDepth 100000 in
theorem runes_Name.calls (a0 : ByteArray) (r : Bool) (w : World) (hGL : Kd.C kGL w GAL 1 [()]) (h : runes_Name.f a0 = some r) :
    Calls Tryd.prog 40 #[.string a0] w fun e w' => e = .returned (.bool r) ∧ Below w.heap.size w w' := by
  unfold runes_Name.f at h
  by_cases hs : a0.size ≤ 9223372036854775800
  · rw [if_pos hs] at h
    have HH := Aside0.mk (Option.some.inj h)
    clear h
    have HRGL := Aside0.mk hGL
    clear hGL
    go_enter Tryd.func40, Tryd.ntmps40
    go_wp2_with fail
    go_loopw [3] (fun v3 wr => ∃ k p n : Nat, v3 = .int .i64 n ∧ n ≤ p ∧ p ≤ a0.size ∧ Aside0 (p = 0 ↔ n = 0) ∧ Aside0 (wr.heap[w.heap.size]? = some (.stringIter a0 p)) ∧ Aside0 (Below w.heap.size w wr) ∧ a0.size < k + p ∧ Aside0 (nameR a0 k p n = r)) (fun _ wr => a0.size - wr.iterPos w.heap.size)
    case atStart => exact ⟨a0.size + 1, 0, 0, rfl, by omega, by omega, ⟨by omega⟩, ⟨World.iter_heap w a0 0⟩, ⟨below_iter w a0 0⟩, by omega, HH⟩
    case round =>
      clear HH
      obtain ⟨k, p, n, rfl, hnp, hps, HPN, hit, HB, hk, HA⟩ := hrel
      by_cases hp : p < a0.size
      · have hnx := fun ty => Lib.run_next_any_at (P := Tryd.prog) wr w.heap.size a0 p ty hit.out hp
        have hw1 := dcode_pos a0 p hp
        have hw2 := dcode_le a0 p hp
        change 1 ≤ (Utf8.decode a0 p).2 at hw1
        change p + (Utf8.decode a0 p).2 ≤ a0.size at hw2
        obtain ⟨k, rfl⟩ : ∃ m, k = m + 1 := ⟨k - 1, by omega⟩
        have H := HA.out
        simp only [nameR] at H
        rw [if_pos hp] at H
        have HBD := Aside0.mk (bad_is a0 p hp)
        have HIN := Aside0.mk (inName_is (dcode a0 p).1)
        have HB1 := Aside0.mk (Lib.below_iterAt HB.out (Nat.le_refl _) a0 (p + (Utf8.decode a0 p).2))
        have HI1 := Aside0.mk (Lib.iterAt_heap wr _ a0 p (p + (Utf8.decode a0 p).2) hit.out)
        cases hb : badAt a0 p with
        | true =>
          have hz := bad_kind hb
          rw [hz.1, hz.2] at H
          have H2 : Aside0 (false = r) := ⟨by
            by_cases hn : n = 0
            · rw [if_pos ⟨hn, by decide⟩] at H; exact H
            · rw [if_neg (fun h => hn h.1), if_neg (by decide)] at H; exact H⟩
          have Hb := Aside0.mk hb
          clear H HA hb hz
          go_wp2_with fail
          refine (runes_bad.calls a0 p _ true _ (by rw [← Hb.out]; exact HBD.out)).mono ?_
          rintro e w' ⟨rfl, ⟨n, rfl⟩⟩
          go_wp2_with fail
          go_ret
          exact ⟨ret_bool H2.out, pw_below_drewN HB1.out _⟩
        | false =>
          have Hb := Aside0.mk hb
          clear HA hb
          cases hi : inNameR (dcode a0 p).1 with
          | false =>
            rw [hi] at H
            have H2 : Aside0 (false = r) := ⟨by
              by_cases hn : n = 0 ∧ kindR (dcode a0 p).1 ≠ 1
              · rw [if_pos hn] at H; exact H
              · rw [if_neg hn, if_neg (by decide)] at H; exact H⟩
            have Hi := Aside0.mk hi
            clear H hi
            by_cases hp0 : p = 0
            · subst hp0
              simp only [Nat.zero_add] at HB1 HI1
              have hk0 : (kindR ((Utf8.decode a0 0).1 : Int) != 1) = true := by
                have := Hi.out
                unfold inNameR at this
                simp only [Bool.or_eq_false_iff, beq_eq_false_iff_ne] at this
                exact bne_iff_ne.2 this.1.1
              go_wp2_with fail
              refine (runes_bad.calls a0 0 _ false _ (by rw [← Hb.out]; exact HBD.out)).mono ?_
              rintro e w' ⟨rfl, ⟨nq, rfl⟩⟩
              go_wp2_with fail
              refine (runes_Kind.calls _ (kindR ((Utf8.decode a0 0).1 : Int)) _ (Kd.C_below HRGL.out (pw_below_drewN HB1.out _)) rfl).mono ?_
              rintro e w2 ⟨rfl, hb2⟩
              go_wp2_with fail
              go_ret
              exact ⟨ret_bool H2.out, below_step (pw_below_drewN HB1.out _) hb2⟩
            · have hp0b : ((p : Int) == 0) = false := beq_eq_false_iff_ne.2 (by omega)
              clear hp0
              go_wp2_with fail
              refine (runes_bad.calls a0 p _ false _ (by rw [← Hb.out]; exact HBD.out)).mono ?_
              rintro e w' ⟨rfl, ⟨nq, rfl⟩⟩
              go_wp2_with fail
              refine (runes_inName.calls _ false _ (Kd.C_below HRGL.out (pw_below_drewN HB1.out _)) (by rw [← Hi.out]; exact HIN.out)).mono ?_
              rintro e w2 ⟨rfl, hb2⟩
              go_wp2_with fail
              go_ret
              exact ⟨ret_bool H2.out, below_step (pw_below_drewN HB1.out _) hb2⟩
          | true =>
            rw [hi] at H
            have Hi := Aside0.mk hi
            clear hi
            by_cases hp0 : p = 0
            · subst hp0
              simp only [Nat.zero_add] at HB1 HI1
              rw [Nat.zero_add] at H
              obtain rfl : n = 0 := HPN.out.1 rfl
              by_cases hk1 : kindR ((Utf8.decode a0 0).1 : Int) = 1
              · have hk1' : kindR ((dcode a0 0).1 : Int) = 1 := hk1
                rw [if_neg (fun h => h.2 hk1'), if_pos rfl] at H
                have hk0 : (kindR ((Utf8.decode a0 0).1 : Int) != 1) = false := bne_eq_false_iff_eq.2 hk1
                have H2 := Aside0.mk H
                clear H hk1 hk1'
                go_wp2_with fail
                refine (runes_bad.calls a0 0 _ false _ (by rw [← Hb.out]; exact HBD.out)).mono ?_
                rintro e w' ⟨rfl, ⟨nq, rfl⟩⟩
                go_wp2_with fail
                refine (runes_Kind.calls _ (kindR ((Utf8.decode a0 0).1 : Int)) _ (Kd.C_below HRGL.out (pw_below_drewN HB1.out _)) rfl).mono ?_
                rintro e w2 ⟨rfl, hb2⟩
                go_wp2_with fail
                refine (runes_inName.calls _ true _ (Kd.C_below HRGL.out (below_step (pw_below_drewN HB1.out _) hb2)) (by rw [← Hi.out]; exact HIN.out)).mono ?_
                rintro e w3 ⟨rfl, hb3⟩
                go_wp2_with fail
                have hI3 := iter_below (iter_below (iter_drewN HI1.out nq) hb2) hb3
                go_roundw
                case rel => exact ⟨k, (Utf8.decode a0 0).2, 1, rfl, by omega, by omega, ⟨by omega⟩, ⟨hI3⟩, ⟨below_step (below_step (pw_below_drewN HB1.out _) hb2) hb3⟩, by omega, H2⟩
                case measure => rw [iterPos_of hit.out, iterPos_of hI3]; omega
              · have hk1' : kindR ((dcode a0 0).1 : Int) ≠ 1 := hk1
                rw [if_pos ⟨rfl, hk1'⟩] at H
                have hk0 : (kindR ((Utf8.decode a0 0).1 : Int) != 1) = true := bne_iff_ne.2 hk1
                have H2 := Aside0.mk H
                clear H hk1 hk1'
                go_wp2_with fail
                refine (runes_bad.calls a0 0 _ false _ (by rw [← Hb.out]; exact HBD.out)).mono ?_
                rintro e w' ⟨rfl, ⟨nq, rfl⟩⟩
                go_wp2_with fail
                refine (runes_Kind.calls _ (kindR ((Utf8.decode a0 0).1 : Int)) _ (Kd.C_below HRGL.out (pw_below_drewN HB1.out _)) rfl).mono ?_
                rintro e w2 ⟨rfl, hb2⟩
                go_wp2_with fail
                go_ret
                exact ⟨ret_bool H2.out, below_step (pw_below_drewN HB1.out _) hb2⟩
            · have hp0b : ((p : Int) == 0) = false := beq_eq_false_iff_ne.2 (by omega)
              rw [if_neg (fun h => hp0 (HPN.out.2 h.1)), if_pos rfl] at H
              have H2 := Aside0.mk H
              have Hp0 := Aside0.mk hp0
              clear hp0 H
              go_wp2_with fail
              refine (runes_bad.calls a0 p _ false _ (by rw [← Hb.out]; exact HBD.out)).mono ?_
              rintro e w' ⟨rfl, ⟨nq, rfl⟩⟩
              go_wp2_with fail
              refine (runes_inName.calls _ true _ (Kd.C_below HRGL.out (pw_below_drewN HB1.out _)) (by rw [← Hi.out]; exact HIN.out)).mono ?_
              rintro e w3 ⟨rfl, hb3⟩
              go_wp2_with fail
              have hI3 := iter_below (iter_drewN HI1.out nq) hb3
              go_roundw
              case rel => exact ⟨k, _, n + 1, by go_num, by omega, hw2, ⟨by omega⟩, ⟨hI3⟩, ⟨below_step (pw_below_drewN HB1.out _) hb3⟩, by omega, H2⟩
              case measure => rw [iterPos_of hit.out, iterPos_of hI3]; omega
      · have hnx := fun ty => Lib.run_next_end_at (P := Tryd.prog) wr w.heap.size a0 p ty hit.out hp
        have H2 : Aside0 (decide (1 ≤ n ∧ n ≤ 16) = r) := ⟨by
          have H := HA.out
          cases k with
          | zero => omega
          | succ k => simp only [nameR] at H; rw [if_neg hp] at H; exact H⟩
        clear HA
        go_wp2_with fail
        · go_ret
          exact ⟨ret_bool (by rw [← H2.out]; exact decide_eq_decide.2 (by omega)), HB.out⟩
        · go_ret
          exact ⟨ret_bool (by rw [← H2.out]; exact (decide_eq_false (by omega)).symm), HB.out⟩
  · rw [if_neg hs] at h
    cases h
end Go.Proofs.YtadlbegecgpaaaaDoor.S
