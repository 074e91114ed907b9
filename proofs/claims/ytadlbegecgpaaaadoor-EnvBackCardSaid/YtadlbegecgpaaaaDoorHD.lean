/- Folded: H13, H14, PRead3, PRead4, H15, H16. -/
import Derived.Test.YtadlbegecgpaaaaDoorHC
import Derived.Test.YtadlbegecgpaaaaDoorD1
import Derived.Test.YtadlbegecgpaaaaDoorHA
namespace Go.Proofs.YtadlbegecgpaaaaDoor.S
open Go Go.RowKit Go.Proofs.YtadlbegecgpaaaaDoorW.PrintWords Go.Proofs.YtadlbegecgpaaaaDoorW.PrintLast Go.Proofs.YtadlbegecgpaaaaDoorW.PrintMore
theorem zero_cases {r : Int} (h : zeroR r ≠ 0) : (zeroR r = 48 ∧ 48 ≤ r ∧ r ≤ 57) ∨ (zeroR r = 1632 ∧ 1632 ≤ r ∧ r ≤ 1641) ∨ (zeroR r = 65296 ∧ 65296 ≤ r ∧ r ≤ 65305) := by
  unfold zeroR at h ⊢
  by_cases h1 : 48 ≤ r ∧ r ≤ 57
  · rw [if_pos h1]; omega
  · rw [if_neg h1] at h ⊢
    by_cases h2 : 1632 ≤ r ∧ r ≤ 1641
    · rw [if_pos h2]; omega
    · rw [if_neg h2] at h ⊢
      by_cases h3 : 65296 ≤ r ∧ r ≤ 65305
      · rw [if_pos h3]; omega
      · rw [if_neg h3] at h; exact absurd rfl h
set_option maxHeartbeats 4000000 in
set_option maxRecDepth 100000 in
theorem same_in (a0 : ByteArray) (r : Int) (w : World) (h0 : 0 < a0.size) (hz : zeroR (dcode a0 0).1 ≠ 0) (hr : zeroR r = zeroR (dcode a0 0).1) :
    Calls Tryd.prog 116 #[.string a0, .int .i32 r] w fun e w' => e = .returned (.bool true) ∧ Below w.heap.size w w' := by
  have hnx := fun ty => run_next_any (P := Tryd.prog) w a0 0 ty h0
  obtain ⟨c, hc⟩ : ∃ c : Int, c = ((dcode a0 0).1 : Int) := ⟨_, rfl⟩
  rw [show ((Utf8.decode a0 0).1 : Int) = c from hc.symm] at hnx
  rw [← hc] at hz hr
  have hr0 : zeroR r ≠ 0 := by rw [hr]; exact hz
  rcases zero_cases hz with ⟨e1, l1, l2⟩ | ⟨e1, l1, l2⟩ | ⟨e1, l1, l2⟩
  · rcases zero_cases hr0 with ⟨e2, m1, m2⟩ | ⟨e2, m1, m2⟩ | ⟨e2, m1, m2⟩
    · clear hz hr hr0 e1 e2 hc
      go_enter Tryd.func116, Tryd.ntmps116
      go_wp2_with fail
      refine wp_loop_rounds 1 ?_
      rw [rounds_succ]
      go_wp2_with fail
      refine wp_loop_rounds 1 ?_
      rw [rounds_succ]
      go_wp2_with fail
      go_ret
      exact ⟨rfl, below_alloc (below_iter w _ _) _⟩
    · omega
    · omega
  · rcases zero_cases hr0 with ⟨e2, m1, m2⟩ | ⟨e2, m1, m2⟩ | ⟨e2, m1, m2⟩
    · omega
    · clear hz hr hr0 e1 e2 hc
      go_enter Tryd.func116, Tryd.ntmps116
      go_wp2_with fail
      refine wp_loop_rounds 1 ?_
      rw [rounds_succ]
      go_wp2_with fail
      refine wp_loop_rounds 2 ?_
      rw [rounds_succ]
      go_wp2_with fail
      rw [rounds_succ]
      go_wp2_with fail
      go_ret
      exact ⟨rfl, below_alloc (below_iter w _ _) _⟩
    · omega
  · rcases zero_cases hr0 with ⟨e2, m1, m2⟩ | ⟨e2, m1, m2⟩ | ⟨e2, m1, m2⟩
    · omega
    · omega
    · clear hz hr hr0 e1 e2 hc
      go_enter Tryd.func116, Tryd.ntmps116
      go_wp2_with fail
      refine wp_loop_rounds 1 ?_
      rw [rounds_succ]
      go_wp2_with fail
      refine wp_loop_rounds 3 ?_
      rw [rounds_succ]
      go_wp2_with fail
      rw [rounds_succ]
      go_wp2_with fail
      rw [rounds_succ]
      go_wp2_with fail
      go_ret
      exact ⟨rfl, below_alloc (below_iter w _ _) _⟩
end Go.Proofs.YtadlbegecgpaaaaDoor.S
namespace Go.Proofs.YtadlbegecgpaaaaDoor.S
open Go Go.RowKit Go.Proofs.YtadlbegecgpaaaaDoorW.PrintWords Go.Proofs.YtadlbegecgpaaaaDoorW.PrintLast Go.Proofs.YtadlbegecgpaaaaDoorW.PrintMore
/-- The value of digits, behind a minus or not. -/
def readV (mn : Bool) (v : Nat) : Int × Int := if v ≤ (if mn = true then 9223372036854775808 else 9223372036854775807) then (if mn = true then -(v : Int) else (v : Int), 0) else (0, 10)
/-- All of a text's characters are digits of one script. -/
def Digits (z : Int) (s : ByteArray) : Prop := z ≠ 0 ∧ 0 < s.size ∧ zeroR (dcode s 0).1 = z ∧ whileR (zK z) s (s.size + 1) 0 = s.size
def cutM (mn : Bool) (a0 rest : ByteArray) : Prop := (mn = true ∧ strings_CutPrefix.f a0 ⟨#[45]⟩ = some (rest, true)) ∨ (mn = false ∧ rest = a0 ∧ strings_CutPrefix.f a0 ⟨#[45]⟩ = some (a0, false) ∧ strings_CutPrefix.f a0 ⟨#[226, 136, 146]⟩ = some (a0, false))
theorem digits_number {z : Int} {s : ByteArray} (h : Digits z s) : numberR s (0 : Nat) = (if 18446744073709551615 < valueR z s (s.size + 1) 0 0 then ((0 : Int), (0 : Int), (10 : Int)) else ((valueR z s (s.size + 1) 0 0 : Nat), (s.size : Int), 0)) := by
  obtain ⟨h1, h2, h3, h4⟩ := h
  unfold numberR headR
  rw [if_neg (by omega), Int.toNat_natCast, if_pos h2, h3]
  simp only
  rw [if_neg h1, show (fun r => zeroR r == z) = zK z from rfl, behind_eq _ _ _ (by omega), h4]
theorem digits_step {z : Int} {s : ByteArray} {k q : Nat} (h : whileR (zK z) s (k + 1) q = s.size) (hq : q < s.size) : zeroR (dcode s q).1 = z ∧ whileR (zK z) s k (q + (dcode s q).2) = s.size := by
  simp only [whileR] at h
  by_cases hc : q < s.size ∧ zK z (dcode s q).1 = true
  · rw [if_pos hc] at h
    have h2 := hc.2
    unfold zK at h2
    exact ⟨beq_iff_eq.1 h2, h⟩
  · rw [if_neg hc] at h
    omega
theorem neg_i64 (v : Nat) (h : v ≤ 9223372036854775808) : wrap64 (-wrap64 (v : Int)) = -(v : Int) := by unfold wrap64; omega
set_option maxHeartbeats 4000000 in
set_option maxRecDepth 100000 in
/-- Behind the cut, with the number read. -/
theorem read_digits (a0 rest : ByteArray) (mn : Bool) (z : Int) (w : World) (hs : a0.size ≤ 4096) (hsr : rest.size ≤ 4096) (hc : cutM mn a0 rest) (hd : Digits z rest) (hGL : Kd.C kGL w GAL 1 [()]) (hGU : Kd.C kGU w GAU 1 [()]) :
    Calls Tryd.prog 82 #[.string a0] w fun e w' => e = .returned (.tuple #[.int .i64 (readV mn (valueR z rest (rest.size + 1) 0 0)).1, .int .i64 (readV mn (valueR z rest (rest.size + 1) 0 0)).2]) ∧ Below w.heap.size w w' := by
  have HRGL := Aside0.mk hGL
  have HRGU := Aside0.mk hGU
  have HN := Aside0.mk (digits_number hd)
  have HD := Aside0.mk hd
  clear hGL hGU hd
  have hsb : decide (4096 < (a0.size : Int)) = false := decide_eq_false (by omega)
  obtain ⟨v, hv⟩ : ∃ v, v = valueR z rest (rest.size + 1) 0 0 := ⟨_, rfl⟩
  rw [← hv] at HN ⊢
  by_cases hl : 18446744073709551615 < v
  · have HN2 : Aside0 (numberR rest (0 : Nat) = (0, 0, 10)) := ⟨by have := HN.out; rw [if_pos hl] at this; exact this⟩
    have HR : Aside0 (readV mn v = (0, 10)) := ⟨by unfold readV; rw [if_neg (by cases mn <;> simp <;> omega)]⟩
    clear HN hl hv
    rcases hc with ⟨rfl, hc1⟩ | ⟨rfl, hre, hc1, hc2⟩
    · have HC1 := Aside0.mk hc1
      clear hc1
      go_enter Tryd.func82, Tryd.ntmps82
      go_wp2_with fail
      refine (strings_CutPrefix.calls _ _ _ _ _ HC1.out).mono ?_
      rintro e w1 ⟨rfl, ⟨nd1, rfl⟩⟩
      go_wp2_with fail
      refine (number_in rest 0 0 0 10 _ (by omega) (by omega) (Kd.C_drewN HRGL.out _) (Kd.C_drewN HRGU.out _) HN2.out).mono ?_
      rintro e w2 ⟨rfl, hb2⟩
      have HB2 := Aside0.mk (below_step (pw_below_drewN (Below.refl _ w) nd1) hb2)
      clear hb2
      go_wp2_with fail
      go_loopw [] (fun wr => ∃ k q : Nat, q ≤ rest.size ∧ Aside0 (wr.heap[w2.heap.size]? = some (.stringIter rest q)) ∧ Aside0 (Below w.heap.size w wr) ∧ rest.size < k + q ∧ Aside0 (whileR (zK z) rest k q = rest.size)) (fun wr => rest.size - wr.iterPos w2.heap.size)
      case atStart => exact ⟨rest.size + 1, 0, by omega, ⟨World.iter_heap _ _ 0⟩, ⟨below_step HB2.out (below_iter _ _ 0)⟩, by omega, ⟨HD.out.2.2.2⟩⟩
      case round =>
        obtain ⟨k, q, hq, hit, HB, hk, HA⟩ := hrel
        obtain ⟨k, rfl⟩ : ∃ m, k = m + 1 := ⟨k - 1, by omega⟩
        by_cases hp : q < rest.size
        · have hnx := fun ty => Lib.run_next_any_at (P := Tryd.prog) wr w2.heap.size rest q ty hit.out hp
          have hw1 := dcode_pos rest q hp
          have hw2 := dcode_le rest q hp
          rw [show Utf8.decode rest q = dcode rest q from rfl] at hnx
          have HB1 := Aside0.mk (Lib.below_iterAt HB.out HB2.out.size rest (q + (dcode rest q).2))
          have HI1 := Aside0.mk (Lib.iterAt_heap wr _ rest q (q + (dcode rest q).2) hit.out)
          have hzk := digits_step HA.out hp
          have HS := Aside0.mk hzk.1
          have HA2 := Aside0.mk hzk.2
          clear HA hzk
          by_cases h0 : q = 0
          · subst h0
            simp only [Nat.zero_add] at HB1 HI1 HA2
            go_wp2_with fail
            go_roundw
            case rel => exact ⟨k, _, by simpa using hw2, HI1, HB1, by omega, HA2⟩
            case measure => rw [iterPos_of hit.out, iterPos_of HI1.out]; omega
          · have hq0 : 0 < q := by omega
            clear h0
            go_wp2_with fail
            refine (same_in rest _ _ (by omega) (by rw [HD.out.2.2.1]; exact HD.out.1) (by rw [HD.out.2.2.1]; exact HS.out)).mono ?_
            rintro e w4 ⟨rfl, hb4⟩
            go_wp2_with fail
            have hI4 := iter_below HI1.out hb4
            go_roundw
            case rel => exact ⟨k, _, hw2, ⟨hI4⟩, ⟨below_step HB1.out hb4⟩, by omega, HA2⟩
            case measure => rw [iterPos_of hit.out, iterPos_of hI4]; omega
        · have hnx := fun ty => Lib.run_next_end_at (P := Tryd.prog) wr w2.heap.size rest q ty hit.out hp
          clear HA
          go_wp2_with fail
          go_ret2
          exact ⟨ret_ii (by rw [HR.out]), HB.out⟩
    · subst hre
      have HC1 := Aside0.mk hc1
      have HC2 := Aside0.mk hc2
      clear hc1 hc2
      go_enter Tryd.func82, Tryd.ntmps82
      go_wp2_with fail
      refine (strings_CutPrefix.calls _ _ _ _ _ HC1.out).mono ?_
      rintro e w1 ⟨rfl, ⟨nd1, rfl⟩⟩
      go_wp2_with fail
      refine (strings_CutPrefix.calls _ _ _ _ _ HC2.out).mono ?_
      rintro e w1 ⟨rfl, ⟨nd2, rfl⟩⟩
      go_wp2_with fail
      refine (number_in rest 0 0 0 10 _ (by omega) (by omega) (Kd.C_drewN HRGL.out _) (Kd.C_drewN HRGU.out _) HN2.out).mono ?_
      rintro e w2 ⟨rfl, hb2⟩
      have HB2 := Aside0.mk (below_step (pw_below_drewN (Below.refl _ w) (nd1 + nd2)) hb2)
      clear hb2
      go_wp2_with fail
      go_loopw [] (fun wr => ∃ k q : Nat, q ≤ rest.size ∧ Aside0 (wr.heap[w2.heap.size]? = some (.stringIter rest q)) ∧ Aside0 (Below w.heap.size w wr) ∧ rest.size < k + q ∧ Aside0 (whileR (zK z) rest k q = rest.size)) (fun wr => rest.size - wr.iterPos w2.heap.size)
      case atStart => exact ⟨rest.size + 1, 0, by omega, ⟨World.iter_heap _ _ 0⟩, ⟨below_step HB2.out (below_iter _ _ 0)⟩, by omega, ⟨HD.out.2.2.2⟩⟩
      case round =>
        obtain ⟨k, q, hq, hit, HB, hk, HA⟩ := hrel
        obtain ⟨k, rfl⟩ : ∃ m, k = m + 1 := ⟨k - 1, by omega⟩
        by_cases hp : q < rest.size
        · have hnx := fun ty => Lib.run_next_any_at (P := Tryd.prog) wr w2.heap.size rest q ty hit.out hp
          have hw1 := dcode_pos rest q hp
          have hw2 := dcode_le rest q hp
          rw [show Utf8.decode rest q = dcode rest q from rfl] at hnx
          have HB1 := Aside0.mk (Lib.below_iterAt HB.out HB2.out.size rest (q + (dcode rest q).2))
          have HI1 := Aside0.mk (Lib.iterAt_heap wr _ rest q (q + (dcode rest q).2) hit.out)
          have hzk := digits_step HA.out hp
          have HS := Aside0.mk hzk.1
          have HA2 := Aside0.mk hzk.2
          clear HA hzk
          by_cases h0 : q = 0
          · subst h0
            simp only [Nat.zero_add] at HB1 HI1 HA2
            go_wp2_with fail
            go_roundw
            case rel => exact ⟨k, _, by simpa using hw2, HI1, HB1, by omega, HA2⟩
            case measure => rw [iterPos_of hit.out, iterPos_of HI1.out]; omega
          · have hq0 : 0 < q := by omega
            clear h0
            go_wp2_with fail
            refine (same_in rest _ _ (by omega) (by rw [HD.out.2.2.1]; exact HD.out.1) (by rw [HD.out.2.2.1]; exact HS.out)).mono ?_
            rintro e w4 ⟨rfl, hb4⟩
            go_wp2_with fail
            have hI4 := iter_below HI1.out hb4
            go_roundw
            case rel => exact ⟨k, _, hw2, ⟨hI4⟩, ⟨below_step HB1.out hb4⟩, by omega, HA2⟩
            case measure => rw [iterPos_of hit.out, iterPos_of hI4]; omega
        · have hnx := fun ty => Lib.run_next_end_at (P := Tryd.prog) wr w2.heap.size rest q ty hit.out hp
          clear HA
          go_wp2_with fail
          go_ret2
          exact ⟨ret_ii (by rw [HR.out]), HB.out⟩
  · have HN2 : Aside0 (numberR rest (0 : Nat) = ((v : Int), (rest.size : Int), 0)) := ⟨by have := HN.out; rw [if_neg hl] at this; exact this⟩
    clear HN hv HD
    rcases hc with ⟨rfl, hc1⟩ | ⟨rfl, hre, hc1, hc2⟩
    · have HC1 := Aside0.mk hc1
      clear hc1
      by_cases ht : v ≤ 9223372036854775808
      · have HR : Aside0 (readV true v = (-(v : Int), 0)) := ⟨by unfold readV; rw [if_pos (by simpa using ht)]; rfl⟩
        have htb : decide (9223372036854775808 < (v : Int)) = false := decide_eq_false (by omega)
        go_enter Tryd.func82, Tryd.ntmps82
        go_wp2_with fail
        refine (strings_CutPrefix.calls _ _ _ _ _ HC1.out).mono ?_
        rintro e w1 ⟨rfl, ⟨nd1, rfl⟩⟩
        go_wp2_with fail
        refine (number_in rest 0 v rest.size 0 _ (by omega) (by omega) (Kd.C_drewN HRGL.out _) (Kd.C_drewN HRGU.out _) HN2.out).mono ?_
        rintro e w2 ⟨rfl, hb2⟩
        have HB2 := Aside0.mk (below_step (pw_below_drewN (Below.refl _ w) nd1) hb2)
        clear hb2
        go_wp2_with fail
        go_ret2
        exact ⟨ret_ii (by rw [HR.out, neg_i64 v ht]), HB2.out⟩
      · have HR : Aside0 (readV true v = (0, 10)) := ⟨by unfold readV; rw [if_neg (by simpa using ht)]⟩
        have htb : decide (9223372036854775808 < (v : Int)) = true := decide_eq_true (by omega)
        go_enter Tryd.func82, Tryd.ntmps82
        go_wp2_with fail
        refine (strings_CutPrefix.calls _ _ _ _ _ HC1.out).mono ?_
        rintro e w1 ⟨rfl, ⟨nd1, rfl⟩⟩
        go_wp2_with fail
        refine (number_in rest 0 v rest.size 0 _ (by omega) (by omega) (Kd.C_drewN HRGL.out _) (Kd.C_drewN HRGU.out _) HN2.out).mono ?_
        rintro e w2 ⟨rfl, hb2⟩
        have HB2 := Aside0.mk (below_step (pw_below_drewN (Below.refl _ w) nd1) hb2)
        clear hb2
        go_wp2_with fail
        go_ret2
        exact ⟨ret_ii (by rw [HR.out]), HB2.out⟩
    · subst hre
      have HC1 := Aside0.mk hc1
      have HC2 := Aside0.mk hc2
      clear hc1 hc2
      by_cases ht : v ≤ 9223372036854775807
      · have HR : Aside0 (readV false v = ((v : Int), 0)) := ⟨by unfold readV; rw [if_pos (by simpa using ht)]; rfl⟩
        have htb : decide (9223372036854775807 < (v : Int)) = false := decide_eq_false (by omega)
        go_enter Tryd.func82, Tryd.ntmps82
        go_wp2_with fail
        refine (strings_CutPrefix.calls _ _ _ _ _ HC1.out).mono ?_
        rintro e w1 ⟨rfl, ⟨nd1, rfl⟩⟩
        go_wp2_with fail
        refine (strings_CutPrefix.calls _ _ _ _ _ HC2.out).mono ?_
        rintro e w1 ⟨rfl, ⟨nd2, rfl⟩⟩
        go_wp2_with fail
        refine (number_in rest 0 v rest.size 0 _ (by omega) (by omega) (Kd.C_drewN HRGL.out _) (Kd.C_drewN HRGU.out _) HN2.out).mono ?_
        rintro e w2 ⟨rfl, hb2⟩
        have HB2 := Aside0.mk (below_step (pw_below_drewN (Below.refl _ w) (nd1 + nd2)) hb2)
        clear hb2
        go_wp2_with fail
        go_ret2
        exact ⟨ret_ii (by rw [HR.out]), HB2.out⟩
      · have HR : Aside0 (readV false v = (0, 10)) := ⟨by unfold readV; rw [if_neg (by simpa using ht)]⟩
        have htb : decide (9223372036854775807 < (v : Int)) = true := decide_eq_true (by omega)
        go_enter Tryd.func82, Tryd.ntmps82
        go_wp2_with fail
        refine (strings_CutPrefix.calls _ _ _ _ _ HC1.out).mono ?_
        rintro e w1 ⟨rfl, ⟨nd1, rfl⟩⟩
        go_wp2_with fail
        refine (strings_CutPrefix.calls _ _ _ _ _ HC2.out).mono ?_
        rintro e w1 ⟨rfl, ⟨nd2, rfl⟩⟩
        go_wp2_with fail
        refine (number_in rest 0 v rest.size 0 _ (by omega) (by omega) (Kd.C_drewN HRGL.out _) (Kd.C_drewN HRGU.out _) HN2.out).mono ?_
        rintro e w2 ⟨rfl, hb2⟩
        have HB2 := Aside0.mk (below_step (pw_below_drewN (Below.refl _ w) (nd1 + nd2)) hb2)
        clear hb2
        go_wp2_with fail
        go_ret2
        exact ⟨ret_ii (by rw [HR.out]), HB2.out⟩
end Go.Proofs.YtadlbegecgpaaaaDoor.S
namespace Go.Proofs.YtadlbegecgpaaaaDoor.S
open Go Go.RowKit Go.Proofs.YtadlbegecgpaaaaDoorW.PrintWords
theorem get_cut (s : ByteArray) (a e k : Nat) (h : a + k < e) (he : e ≤ s.size) : (s.extract a e).get! k = s.get! (a + k) := by
  have h1 : k < (s.extract a e).size := by rw [ByteArray.size_extract]; omega
  have e1 : (s.extract a e).get! k = (s.extract a e)[k]'h1 := by simpa using get_at (s.extract a e) k h1
  have e2 : s.get! (a + k) = s[a + k]'(by omega) := by simpa using get_at s (a + k) (by omega)
  rw [e1, e2]
  simp [ByteArray.getElem_extract]
theorem wh_ge (f : Int → Bool) (s : ByteArray) : ∀ k p, p ≤ whileR f s k p
  | 0, _ => Nat.le_refl _
  | k + 1, p => by
    simp only [whileR]
    by_cases hc : p < s.size ∧ f (dcode s p).1 = true
    · rw [if_pos hc]
      exact Nat.le_trans (Nat.le_add_right _ _) (wh_ge f s k _)
    · rw [if_neg hc]; exact Nat.le_refl _
theorem zK_is {z r : Int} : zK z r = true ↔ zeroR r = z := by unfold zK; exact beq_iff_eq
theorem good_zero {s : ByteArray} {p : Nat} {z : Int} (hz : z ≠ 0) (h : zeroR ((dcode s p).1 : Int) = z) : badAt s p = false := by
  cases hb : badAt s p with
  | false => rfl
  | true =>
    unfold badAt at hb
    simp only [Bool.and_eq_true, beq_iff_eq] at hb
    rw [hb.1] at h
    exact absurd (h.symm.trans (by decide)) hz
theorem cut_while {z : Int} (hz : z ≠ 0) (s t : ByteArray) (e : Nat) (he : e ≤ s.size) : ∀ d q o v f g, e - q = d → q ≤ e → whileR (zK z) s f q = e → s.size - q < f → t.size - o < g → t.size = o + (e - q) → (∀ k, k < e - q → t.get! (o + k) = s.get! (q + k)) → whileR (zK z) t g o = t.size ∧ valueR z t g o v = valueR z s f q v := by
  intro d
  induction d using Nat.strongRecOn with
  | _ d ih =>
    intro q o v f g hd hq hw hf hg hts hb
    obtain ⟨f, rfl⟩ : ∃ m, f = m + 1 := ⟨f - 1, by omega⟩
    obtain ⟨g, rfl⟩ : ∃ m, g = m + 1 := ⟨g - 1, by omega⟩
    simp only [whileR, valueR] at hw ⊢
    by_cases hc : q < s.size ∧ zK z ((dcode s q).1 : Int) = true
    · rw [if_pos hc] at hw
      have hge := wh_ge (zK z) s f (q + (dcode s q).2)
      have hpos := dcode_pos s q hc.1
      rw [hw] at hge
      have hzc := zK_is.1 hc.2
      have hdt : dcode t o = dcode s q := dcode_same (fun k hk => hb k (by omega)) (by omega) (good_zero hz hzc)
      have hc2 : q < s.size ∧ zeroR ((dcode s q).1 : Int) = z := ⟨hc.1, hzc⟩
      rw [hdt, if_pos (show o < t.size ∧ zK z ((dcode s q).1 : Int) = true from ⟨by omega, hc.2⟩), if_pos (show o < t.size ∧ zeroR ((dcode s q).1 : Int) = z from ⟨by omega, hzc⟩), if_pos hc2]
      exact ih (e - (q + (dcode s q).2)) (by omega) _ _ _ f g rfl hge hw (by omega) (by omega) (by omega) (fun k hk => by rw [Nat.add_assoc, Nat.add_assoc]; exact hb _ (by omega))
    · rw [if_neg hc] at hw
      subst hw
      have hto : t.size = o := by omega
      have hc2 : ¬ (q < s.size ∧ zeroR ((dcode s q).1 : Int) = z) := fun h => hc ⟨h.1, zK_is.2 h.2⟩
      rw [if_neg (show ¬ (o < t.size ∧ _) from fun h => by have := h.1; omega), if_neg (show ¬ (o < t.size ∧ _) from fun h => by have := h.1; omega), if_neg hc2]
      exact ⟨hto.symm, rfl⟩
/-- All digits of one script, or empty. -/
def DigE (z : Int) (s : ByteArray) : Prop := whileR (zK z) s (s.size + 1) 0 = s.size
def valE (z : Int) (s : ByteArray) : Nat := valueR z s (s.size + 1) 0 0
theorem decode_at (s : ByteArray) (h : 0 < s.size) : utf8_DecodeRuneInString.f s = some (((dcode s 0).1 : Int), ((dcode s 0).2 : Int)) := by
  unfold utf8_DecodeRuneInString.f Lib.decodeGo
  rw [if_neg (by omega)]
  rfl
theorem digE_head {z : Int} {s : ByteArray} (h : DigE z s) (h0 : 0 < s.size) : zeroR ((dcode s 0).1 : Int) = z ∧ whileR (zK z) s s.size (dcode s 0).2 = s.size ∧ valE z s = valueR z s s.size (dcode s 0).2 (((dcode s 0).1 : Int) - z).toNat := by
  unfold DigE at h
  unfold valE
  simp only [whileR, valueR, Nat.zero_add, Nat.mul_zero] at h ⊢
  by_cases hc : 0 < s.size ∧ zK z ((dcode s 0).1 : Int) = true
  · rw [if_pos hc] at h
    rw [if_pos ⟨h0, zK_is.1 hc.2⟩]
    exact ⟨zK_is.1 hc.2, h, rfl⟩
  · rw [if_neg hc] at h
    omega
theorem bare_l0 {z : Int} (hz : z ≠ 0) : ∀ d x k, x.size = d → d < k → DigE z x → ∃ b, env_bare.l0 k x = some b ∧ DigE z b ∧ valE z b = valE z x ∧ b.size ≤ x.size := by
  intro d
  induction d using Nat.strongRecOn with
  | _ d ih =>
    intro x k hd hk hx
    obtain ⟨k, rfl⟩ : ∃ m, k = m + 1 := ⟨k - 1, by omega⟩
    simp only [env_bare.l0]
    by_cases h0 : x.toList = []
    · rw [if_pos h0]
      exact ⟨x, rfl, hx, rfl, Nat.le_refl _⟩
    · rw [if_neg h0]
      have h1 : 0 < x.size := by
        rcases Nat.eq_zero_or_pos x.size with h | h
        · exact absurd (by rw [ByteArray.toList_eq, ← List.length_eq_zero_iff, Array.length_toList]; exact h) h0
        · exact h
      obtain ⟨hzc, hw, hv⟩ := digE_head hx h1
      have hpos := dcode_pos x 0 h1
      have hle := dcode_le x 0 h1
      rw [decode_at x h1]
      simp only [Option.bind_some, Int.toNat_natCast]
      have go : ((dcode x 0).1 : Int) = z → ∃ b, env_bare.l0 k (x.extract (dcode x 0).2 x.size) = some b ∧ DigE z b ∧ valE z b = valE z x ∧ b.size ≤ x.size := by
        intro hcz
        have hs : (x.extract (dcode x 0).2 x.size).size = x.size - (dcode x 0).2 := by rw [ByteArray.size_extract]; omega
        have hcut := cut_while hz x (x.extract (dcode x 0).2 x.size) x.size (Nat.le_refl _) _ (dcode x 0).2 0 0 x.size ((x.extract (dcode x 0).2 x.size).size + 1) rfl (by omega) hw (by omega) (by omega) (by omega) (fun k hk => by rw [Nat.zero_add]; exact get_cut x _ _ k (by omega) (Nat.le_refl _))
        obtain ⟨b, hb1, hb2, hb3, hb4⟩ := ih (x.size - (dcode x 0).2) (by omega) _ k hs (by omega) hcut.1
        refine ⟨b, hb1, hb2, ?_, by omega⟩
        rw [hb3, hv, hcz, Int.sub_self]
        exact hcut.2
      have hz2 : zeroR ((dcode x 0).1 : Int) ≠ 0 := by rw [hzc]; exact hz
      by_cases c1 : ((dcode x 0).1 : Int) = 48
      · rw [if_pos c1, if_pos (by omega), if_pos (by omega)]
        exact go (by rw [← hzc, c1]; decide)
      · rw [if_neg c1]
        by_cases c2 : ((dcode x 0).1 : Int) = 1632
        · rw [if_pos c2, if_pos (by omega), if_pos (by omega)]
          exact go (by rw [← hzc, c2]; decide)
        · rw [if_neg c2]
          by_cases c3 : ((dcode x 0).1 : Int) = 65296
          · rw [if_pos c3, if_pos (by omega), if_pos (by omega)]
            exact go (by rw [← hzc, c3]; decide)
          · rw [if_neg c3]
            exact ⟨x, rfl, hx, rfl, Nat.le_refl _⟩
end Go.Proofs.YtadlbegecgpaaaaDoor.S
namespace Go.Proofs.YtadlbegecgpaaaaDoor.S
open Go Go.RowKit Go.Proofs.YtadlbegecgpaaaaDoorW.PrintWords
theorem size0 {a : ByteArray} (h : a.size = 0) : a = ⟨#[]⟩ := by
  cases a with
  | mk d => simp only [ByteArray.size] at h; rw [Array.eq_empty_of_size_eq_zero h]
theorem nil_append (a : ByteArray) : (⟨#[]⟩ : ByteArray) ++ a = a := by
  apply ByteArray.ext
  simp
theorem append_nil (a : ByteArray) : a ++ (⟨#[]⟩ : ByteArray) = a := by
  apply ByteArray.ext
  simp
theorem toList_size0 {a : ByteArray} : a.toList = [] ↔ a.size = 0 := by
  rw [ByteArray.toList_eq, ← List.length_eq_zero_iff, Array.length_toList]
  rfl
theorem prefix_is (s p : ByteArray) : stringslite_HasPrefix.f s p = some (if s.size < p.size then false else ((s.extract 0 p.size).toList == p.toList)) := by
  have h := hasPrefix_is s p
  unfold strings_HasPrefix.f at h
  cases hc : stringslite_HasPrefix.f s p with
  | none => rw [hc] at h; cases h
  | some v => rw [hc] at h; exact h
theorem cutPrefix_is (s p : ByteArray) : strings_CutPrefix.f s p = some (if s.size < p.size then (s, false) else if ((s.extract 0 p.size).toList == p.toList) = true then (s.extract p.size s.size, true) else (s, false)) := by
  unfold strings_CutPrefix.f stringslite_CutPrefix.f
  rw [prefix_is]
  simp only [Option.bind_some]
  by_cases h : s.size < p.size
  · rw [if_pos h, if_pos h, if_neg (by decide)]
    rfl
  · rw [if_neg h, if_neg h]
    by_cases h2 : ((s.extract 0 p.size).toList == p.toList) = true
    · rw [if_pos h2, if_pos h2, if_pos (by omega), if_pos (by omega), Int.toNat_natCast]
      rfl
    · rw [if_neg h2, if_neg h2]
      rfl
/-- A digit's first byte is no minus. -/
theorem digit_bytes {s : ByteArray} (h0 : 0 < s.size) (hz : zeroR ((dcode s 0).1 : Int) ≠ 0) : s.get! 0 ≠ 45 ∧ ¬ (3 ≤ s.size ∧ s.get! 0 = 226 ∧ s.get! 1 = 136 ∧ s.get! 2 = 146) := by
  refine ⟨fun h => ?_, fun ⟨h3, e0, e1, e2⟩ => ?_⟩
  · have : dcode s 0 = dcode ⟨#[45]⟩ 0 := dcode_same (s := ⟨#[45]⟩) (t := s) (q := 0) (p := 0) (fun k hk => by
      obtain rfl : k = 0 := by have : (dcode ⟨#[45]⟩ 0).2 = 1 := by decide
                               omega
      exact h) (by show 0 + 1 ≤ _; omega) (by decide)
    rw [this] at hz
    exact absurd (by decide) hz
  · have : dcode s 0 = dcode ⟨#[226, 136, 146]⟩ 0 := dcode_same (s := ⟨#[226, 136, 146]⟩) (t := s) (q := 0) (p := 0) (fun k hk => by
      have h3 : (dcode ⟨#[226, 136, 146]⟩ 0).2 = 3 := by decide
      have hk3 : k = 0 ∨ k = 1 ∨ k = 2 := by omega
      rcases hk3 with rfl | rfl | rfl
      · exact e0
      · exact e1
      · exact e2) (by have h4 : (dcode ⟨#[226, 136, 146]⟩ 0).2 = 3 := by decide
                      omega) (by decide)
    rw [this] at hz
    exact absurd (by decide) hz
theorem toList_inj {a b : ByteArray} (h : a.toList = b.toList) : a = b := by
  rw [ByteArray.toList_eq, ByteArray.toList_eq] at h
  exact ByteArray.ext (Array.toList_inj.1 h)
theorem cut_minus (r : ByteArray) : strings_CutPrefix.f ((⟨#[45]⟩ : ByteArray) ++ r) ⟨#[45]⟩ = some (r, true) := by
  have e1 : (⟨#[45]⟩ : ByteArray).size = 1 := rfl
  have hs : ((⟨#[45]⟩ : ByteArray) ++ r).size = 1 + r.size := by rw [ByteArray.size_append]; rfl
  rw [cutPrefix_is, if_neg (by omega)]
  have hp : (((⟨#[45]⟩ : ByteArray) ++ r).extract 0 (⟨#[45]⟩ : ByteArray).size) = ⟨#[45]⟩ := by
    rw [ByteArray.extract_append_eq_left rfl]
  rw [hp, if_pos (beq_self_eq_true _)]
  congr 2
  rw [hs, e1]
  exact ByteArray.extract_append_eq_right rfl (by rw [e1])
theorem cut_none {s : ByteArray} (h0 : 0 < s.size) (hz : zeroR ((dcode s 0).1 : Int) ≠ 0) : strings_CutPrefix.f s ⟨#[45]⟩ = some (s, false) ∧ strings_CutPrefix.f s ⟨#[226, 136, 146]⟩ = some (s, false) := by
  obtain ⟨h1, h2⟩ := digit_bytes h0 hz
  constructor
  · have e1 : (⟨#[45]⟩ : ByteArray).size = 1 := rfl
    rw [cutPrefix_is, if_neg (by omega), if_neg (fun h => ?_)]
    have h3 := toList_inj (beq_iff_eq.1 h)
    have h4 := get_cut s 0 1 0 (by omega) (by omega)
    rw [e1] at h3
    rw [h3] at h4
    exact h1 (h4.symm.trans rfl)
  · have e3 : (⟨#[226, 136, 146]⟩ : ByteArray).size = 3 := rfl
    rw [cutPrefix_is]
    by_cases hs : s.size < 3
    · rw [if_pos (by omega)]
    · rw [if_neg (by omega), if_neg (fun h => ?_)]
      have h3 := toList_inj (beq_iff_eq.1 h)
      rw [e3] at h3
      have g0 := get_cut s 0 3 0 (by omega) (by omega)
      have g1 := get_cut s 0 3 1 (by omega) (by omega)
      have g2 := get_cut s 0 3 2 (by omega) (by omega)
      rw [h3] at g0 g1 g2
      exact h2 ⟨by omega, g0.symm.trans rfl, g1.symm.trans rfl, g2.symm.trans rfl⟩
theorem read_arg (s : ByteArray) (p : Nat) (hp : p ≤ s.size) (hz : zeroR (headR s p) ≠ 0) (mn : Bool) : ∃ k b zz z, env_bare.f k (s.extract p (behindR (zK (zeroR (headR s p))) s p)) = some b ∧ env_zero.f k (s.extract p (behindR (zK (zeroR (headR s p))) s p)) = some zz ∧ Digits z (b ++ zz) ∧ valueR z (b ++ zz) ((b ++ zz).size + 1) 0 0 = valueR (zeroR (headR s p)) s (s.size + 1) p 0 ∧ (b ++ zz).size ≤ s.size - p ∧ cutM mn (((if mn = true then (⟨#[45]⟩ : ByteArray) else ⟨#[]⟩) ++ b) ++ zz) (b ++ zz) := by
  have hps : p < s.size := by
    unfold headR at hz
    by_cases h : p < s.size
    · exact h
    · rw [if_neg h] at hz; exact absurd (by decide) hz
  obtain ⟨z, hze⟩ : ∃ z, z = zeroR (headR s p) := ⟨_, rfl⟩
  rw [← hze] at hz ⊢
  have hhd : zeroR ((dcode s p).1 : Int) = z := by rw [hze]; unfold headR; rw [if_pos hps]
  obtain ⟨e, he⟩ : ∃ e, e = behindR (zK z) s p := ⟨_, rfl⟩
  rw [← he]
  rw [behind_eq _ _ _ hp] at he
  have hes : e ≤ s.size := by rw [he]; exact while_le _ _ _ _ hp
  have hpe : p + (dcode s p).2 ≤ e := by
    rw [he]
    simp only [whileR]
    rw [if_pos ⟨hps, zK_is.2 hhd⟩]
    exact wh_ge _ _ _ _
  have hpos := dcode_pos s p hps
  have hts : (s.extract p e).size = e - p := by rw [ByteArray.size_extract]; omega
  have hcut := cut_while hz s (s.extract p e) e hes _ p 0 0 (s.size + 1) ((s.extract p e).size + 1) rfl (by omega) he.symm (by omega) (by omega) (by omega) (fun k hk => by rw [Nat.zero_add]; exact get_cut s p e k (by omega) hes)
  obtain ⟨b, hb1, hb2, hb3, hb4⟩ := bare_l0 hz _ (s.extract p e) (s.size + 1) rfl (by omega) hcut.1
  have hval : valE z b = valueR z s (s.size + 1) p 0 := hb3.trans hcut.2
  have hcm : ∀ r : ByteArray, 0 < r.size → zeroR ((dcode r 0).1 : Int) ≠ 0 → ∀ b zz : ByteArray, b ++ zz = r → cutM mn (((if mn = true then (⟨#[45]⟩ : ByteArray) else ⟨#[]⟩) ++ b) ++ zz) (b ++ zz) := by
    intro r hr hrz b zz hbz
    rw [ByteArray.append_assoc, hbz]
    cases mn with
    | true =>
      left
      exact ⟨rfl, cut_minus r⟩
    | false =>
      right
      rw [if_neg (by decide), nil_append]
      exact ⟨rfl, rfl, (cut_none hr hrz).1, (cut_none hr hrz).2⟩
  have hzero : env_zero.f (s.size + 1) (s.extract p e) = some (if b.size = 0 then ⟨#[48]⟩ else ⟨#[]⟩) := by
    unfold env_zero.f env_bare.f
    rw [hb1]
    simp only [Option.bind_some]
    by_cases h : b.size = 0
    · rw [if_pos (toList_size0.2 h), if_pos h]
    · rw [if_neg (fun h2 => h (toList_size0.1 h2)), if_neg h]
  by_cases h : b.size = 0
  · have hb0 := size0 h
    subst hb0
    refine ⟨s.size + 1, ⟨#[]⟩, ⟨#[48]⟩, 48, hb1, by rw [hzero, if_pos h], ?_, ?_, ?_, ?_⟩
    · rw [nil_append]
      exact ⟨by decide, by decide, by decide, by decide⟩
    · rw [nil_append, ← hval]
      have h1 : valE z ⟨#[]⟩ = 0 := by
        unfold valE
        simp only [valueR]
        rw [if_neg (fun h => absurd h.1 (by decide))]
      rw [h1]
      decide
    · rw [nil_append]
      show 1 ≤ _
      omega
    · exact hcm ⟨#[48]⟩ (by decide) (by decide) _ _ (nil_append _)
  · have hd := digE_head hb2 (by omega)
    refine ⟨s.size + 1, b, ⟨#[]⟩, z, hb1, by rw [hzero, if_neg h], ?_, ?_, ?_, ?_⟩
    · rw [append_nil]
      exact ⟨hz, by omega, hd.1, hb2⟩
    · rw [append_nil]
      exact hval
    · rw [append_nil]; omega
    · exact hcm b (by omega) (by rw [hd.1]; exact hz) _ _ (append_nil _)
end Go.Proofs.YtadlbegecgpaaaaDoor.S
namespace Go.Proofs.YtadlbegecgpaaaaDoor.S
open Go Go.RowKit Go.Proofs.YtadlbegecgpaaaaDoorW.PrintWords Go.Proofs.YtadlbegecgpaaaaDoorW.PrintLast Go.Proofs.YtadlbegecgpaaaaDoorW.PrintMore
/-- What holds from step to step in the reader's bind: the reader, elder blocks, the result's own block (R). -/
structure StB (w0 w W : World) (g : Nat) (a0 : ByteArray) (p : Int) (R : Nat) : Prop where
  I : IsS74 w0 W g a0 p
  B : Below w0.heap.size w0 W
  K : KeepBut w W g none
  Q : W.heap[R]? = some (.cells #[.string ⟨#[]⟩, .int .i64 0] 63 (0, 0))
  H : w.heap.size ≤ R ∧ w0.heap.size ≤ R
  N : g ≠ R
theorem StB.below {w0 w W W1 : World} {g R : Nat} {a0 : ByteArray} {p : Int} (h : StB w0 w W g a0 p R) (hb : Below W.heap.size W W1) : StB w0 w W1 g a0 p R :=
  ⟨IsS74.below h.I hb, below_step h.B hb, h.K.trans (KeepBut.of_below hb g none) (.inl rfl), iter_below h.Q hb, h.H, h.N⟩
theorem StB.drew {w0 w W : World} {g R : Nat} {a0 : ByteArray} {p : Int} (h : StB w0 w W g a0 p R) : StB w0 w W.drew g a0 p R := ⟨h.I, below_drew1 h.B, h.K, h.Q, h.H, h.N⟩
theorem StB.drewN {w0 w W : World} {g R : Nat} {a0 : ByteArray} {p : Int} (h : StB w0 w W g a0 p R) (n : Nat) : StB w0 w (W.drewN n) g a0 p R := ⟨h.I, pw_below_drewN h.B n, h.K, h.Q, h.H, h.N⟩
theorem StB.set {w0 w W : World} {g R : Nat} {a0 : ByteArray} {p : Int} (h : StB w0 w W g a0 p R) (q : Int) : StB w0 w (W.setCell ⟨g, 1, none⟩ (.int .i64 q)) g a0 q R :=
  ⟨IsS74.set_1 h.I q, h.B.setCell (p := ⟨g, 1, none⟩) h.I.2 _, h.K.set_ 1 _, blk_far h.Q (p := ⟨g, 1, none⟩) (Ne.symm h.N) _, h.H, h.N⟩
/-- The reader's skip, from such a state. -/
theorem StB.skip {w0 w W W1 : World} {g R : Nat} {a0 : ByteArray} {p : Int} {q : Nat} (h : StB w0 w W g a0 p R) (hI : IsS74 w0 W1 g a0 q) (hB : Below w0.heap.size w0 W1) (hK : KeepBut W W1 g none) : StB w0 w W1 g a0 q R :=
  ⟨hI, hB, h.K.trans hK (.inl rfl), hK.blk h.Q (Ne.symm h.N) (by simp), h.H, h.N⟩
theorem StB.c0 {w0 w W : World} {g R : Nat} {a0 : ByteArray} {p : Int} (h : StB w0 w W g a0 p R) : W.cell? ⟨g, 0, none⟩ = some (.string a0) := cellS74_0 h.I.1
theorem StB.c1 {w0 w W : World} {g R : Nat} {a0 : ByteArray} {p : Int} (h : StB w0 w W g a0 p R) : W.cell? ⟨g, 1, none⟩ = some (.int .i64 p) := cellS74_1 h.I.1
theorem StB.q0 {w0 w W : World} {g R : Nat} {a0 : ByteArray} {p : Int} (h : StB w0 w W g a0 p R) : W.cell? ⟨R, 0, none⟩ = some (.string ⟨#[]⟩) := (blk_cell h.Q 0).trans rfl
theorem StB.q1 {w0 w W : World} {g R : Nat} {a0 : ByteArray} {p : Int} (h : StB w0 w W g a0 p R) : W.cell? ⟨R, 1, none⟩ = some (.int .i64 0) := (blk_cell h.Q 1).trans rfl
theorem StB.f1 {w0 w W : World} {g R : Nat} {a0 : ByteArray} {p : Int} (h : StB w0 w W g a0 p R) : W.frozen? ⟨g, 1, none⟩ = false := blk_frozen h.I.1 1
theorem StB.e0 {w0 w W : World} {g R : Nat} {a0 : ByteArray} {p : Int} (h : StB w0 w W g a0 p R) : W.frozen? ⟨R, 0, none⟩ = false := blk_frozen h.Q 0
theorem StB.e1 {w0 w W : World} {g R : Nat} {a0 : ByteArray} {p : Int} (h : StB w0 w W g a0 p R) : W.frozen? ⟨R, 1, none⟩ = false := blk_frozen h.Q 1
theorem StB.new {w0 w : World} {g : Nat} {a0 : ByteArray} {p : Int} (hI : IsS74 w0 w g a0 p) (hB : Below w0.heap.size w0 w) : StB w0 w (w.alloc (.cells #[.string ⟨#[]⟩, .int .i64 0] 63)) g a0 p w.heap.size :=
  ⟨hI.alloc _, below_alloc hB _, KeepBut.of_below (below_alloc (Below.refl _ _) _) g none, by simpa using heap_alloc_new w _, ⟨Nat.le_refl _, hB.size⟩, Nat.ne_of_lt hI.lt⟩
theorem StB.put {w0 w W : World} {g R : Nat} {a0 : ByteArray} {p : Int} (h : StB w0 w W g a0 p R) (nm : ByteArray) (v : Int) :
    ((W.setCell ⟨R, 0, none⟩ (.string nm)).setCell ⟨R, 1, none⟩ (.int .i64 v)).heap[R]? = some (.cells #[.string nm, .int .i64 v] 63 (0, 0)) ∧ IsS74 w0 ((W.setCell ⟨R, 0, none⟩ (.string nm)).setCell ⟨R, 1, none⟩ (.int .i64 v)) g a0 p ∧ Below w0.heap.size w0 ((W.setCell ⟨R, 0, none⟩ (.string nm)).setCell ⟨R, 1, none⟩ (.int .i64 v)) ∧ KeepBut w ((W.setCell ⟨R, 0, none⟩ (.string nm)).setCell ⟨R, 1, none⟩ (.int .i64 v)) g none :=
  ⟨by simpa using blk_set (blk_set h.Q 0 (.string nm)) 1 (.int .i64 v), (h.I.far (p := ⟨R, 0, none⟩) h.N _).far (p := ⟨R, 1, none⟩) h.N _, (h.B.setCell (p := ⟨R, 0, none⟩) h.H.2 _).setCell (p := ⟨R, 1, none⟩) h.H.2 _, keep_far (keep_far h.K (p := ⟨R, 0, none⟩) h.H.1 _) (p := ⟨R, 1, none⟩) h.H.1 _⟩
def eqAt (s : ByteArray) (p : Nat) : Bool := if (s.extract p s.size).size < (⟨#[61]⟩ : ByteArray).size then false else (((s.extract p s.size).extract 0 (⟨#[61]⟩ : ByteArray).size).toList == (⟨#[61]⟩ : ByteArray).toList)
def errP (e : Int) (p : Nat) : ByteArray × Int × Int × Nat := (⟨#[]⟩, 0, e, p)
def tailP (s nm : ByteArray) (mn : Bool) (p : Nat) : ByteArray × Int × Int × Nat :=
  if (numberR s p).2.2 = 11 then errP 6 p else if (numberR s p).2.2 = 10 then errP 10 p else
  if (readV mn (numberR s p).1.toNat).2 = 0 then (nm, (readV mn (numberR s p).1.toNat).1, 0, skipR s (numberR s p).2.1.toNat) else errP 10 p
def signP (s nm : ByteArray) (p : Nat) : ByteArray × Int × Int × Nat :=
  if headR s p = 45 ∨ headR s p = 8722 then (if kindR (headR s (p + (dcode s p).2)) = 2 then tailP s nm true (p + (dcode s p).2) else errP 6 p) else tailP s nm false p
def bindP (s : ByteArray) (p : Nat) : ByteArray × Int × Int × Nat :=
  if (spanR s p).2 = 0 then (if nameOk (s.extract p (spanR s p).1.toNat) = true then (if eqAt s (skipR s (spanR s p).1.toNat) = true then signP s (s.extract p (spanR s p).1.toNat) (skipR s (skipR s (spanR s p).1.toNat + 1)) else errP 6 (skipR s (spanR s p).1.toNat)) else errP 7 p) else errP 6 p
theorem while_ge (f : Int → Bool) (s : ByteArray) : ∀ k p, p ≤ whileR f s k p
  | 0, _ => Nat.le_refl _
  | k + 1, p => by
    simp only [whileR]
    by_cases hc : p < s.size ∧ f (dcode s p).1 = true
    · rw [if_pos hc]
      exact Nat.le_trans (Nat.le_add_right _ _) (while_ge f s k _)
    · rw [if_neg hc]; exact Nat.le_refl _
theorem behind_ge (f : Int → Bool) (s : ByteArray) (p : Nat) (h : p ≤ s.size) : p ≤ behindR f s p := by
  rw [behind_eq f s p h]
  exact while_ge f s _ p
theorem span_ok {s : ByteArray} {p : Nat} (h : (spanR s p).2 = 0) (hp : p ≤ s.size) : ∃ e : Nat, spanR s p = ((e : Int), 0) ∧ p ≤ e ∧ e ≤ s.size := by
  unfold spanR at h ⊢
  rw [if_neg (by omega), Int.toNat_natCast] at h ⊢
  by_cases hk : kindR (headR s p) = 1
  · rw [if_neg (fun h => h hk)]
    exact ⟨_, rfl, behind_ge _ _ _ hp, Nat.min_le_left _ _⟩
  · rw [if_pos hk] at h
    exact absurd h (by simp)
theorem number_cases (s : ByteArray) (p : Nat) (hp : p ≤ s.size) : numberR s p = (0, 0, 11) ∨ numberR s p = (0, 0, 10) ∨ ∃ v e : Nat, numberR s p = ((v : Int), (e : Int), 0) ∧ p ≤ e ∧ e ≤ s.size ∧ v ≤ 18446744073709551615 ∧ zeroR (headR s p) ≠ 0 ∧ v = valueR (zeroR (headR s p)) s (s.size + 1) p 0 ∧ e = behindR (zK (zeroR (headR s p))) s p := by
  unfold numberR
  rw [if_neg (by omega), Int.toNat_natCast]
  simp only
  by_cases hz : zeroR (headR s p) = 0
  · rw [if_pos hz]; exact .inl rfl
  · rw [if_neg hz]
    by_cases hl : 18446744073709551615 < valueR (zeroR (headR s p)) s (s.size + 1) p 0
    · rw [if_pos hl]; exact .inr (.inl rfl)
    · rw [if_neg hl]
      exact .inr (.inr ⟨_, _, rfl, behind_ge _ _ _ hp, Nat.min_le_left _ _, by omega, hz, rfl, rfl⟩)
theorem head_in {s : ByteArray} {p : Nat} (h : headR s p = 45 ∨ headR s p = 8722) : p < s.size := by
  unfold headR at h
  by_cases hp : p < s.size
  · exact hp
  · rw [if_neg hp] at h; omega
theorem eqAt_in {s : ByteArray} {p : Nat} (hp : p ≤ s.size) (h : eqAt s p = true) : p < s.size := by
  unfold eqAt at h
  by_cases hc : (s.extract p s.size).size < (⟨#[61]⟩ : ByteArray).size
  · rw [if_pos hc] at h; cases h
  · rw [rest_size s p hp] at hc
    have e : (⟨#[61]⟩ : ByteArray).size = 1 := rfl
    omega
theorem ret_bind {w0 w W : World} {g : Nat} {a0 : ByteArray} {p : Nat} {nm : ByteArray} {v e : Int} {r : ByteArray × Int × Int × Nat} (hr : Aside0 (r = (nm, v, e, p))) (h : IsS74 w0 W g a0 (p : Int) ∧ Below w0.heap.size w0 W ∧ KeepBut w W g none) :
    Ending.returned (.tuple #[.agg #[.string nm, .int .i64 v], .int .i64 e]) = .returned (.tuple #[.agg #[.string r.1, .int .i64 r.2.1], .int .i64 r.2.2.1]) ∧ IsS74 w0 W g a0 (r.2.2.2 : Int) ∧ Below w0.heap.size w0 W ∧ KeepBut w W g none := by
  rw [hr.out]
  exact ⟨rfl, h⟩
theorem drawn_below {w w1 : World} (h : Drawn0 w w1) : Below w.heap.size w w1 := by
  obtain ⟨nd, rfl⟩ := h
  exact pw_below_drewN (Below.refl _ w) nd
theorem skip_cast {w0 w : World} {g R : Nat} {a0 : ByteArray} {W : World} {p q : Int} (h : StB w0 w W g a0 p R) (e : p = q) : StB w0 w W g a0 q R := e ▸ h
set_option maxHeartbeats 8000000 in
set_option maxRecDepth 100000 in
theorem env_reader_bind.calls (g : Nat) (a0 : ByteArray) (n : Nat) (w0 w : World) (hs : a0.size ≤ 4096) (hn : n ≤ a0.size) (hI : IsS74 w0 w g a0 n) (hB : Below w0.heap.size w0 w) (hGL : Kd.C kGL w0 GAL 1 [()]) (hGU : Kd.C kGU w0 GAU 1 [()]) :
    Calls Tryd.prog 48 #[.pointer (some ⟨g, 0, none⟩)] w fun e w' => e = .returned (.tuple #[.agg #[.string (bindP a0 n).1, .int .i64 (bindP a0 n).2.1], .int .i64 (bindP a0 n).2.2.1]) ∧ IsS74 w0 w' g a0 ((bindP a0 n).2.2.2 : Int) ∧ Below w0.heap.size w0 w' ∧ KeepBut w w' g none := by
  obtain ⟨r, hr⟩ : ∃ r, bindP a0 n = r := ⟨_, rfl⟩
  rw [hr]
  have HP := Aside0.mk hr.symm
  clear hr
  have HRGL := Aside0.mk hGL
  have HRGU := Aside0.mk hGU
  have HS0 := Aside0.mk (StB.new hI hB)
  clear hGL hGU hI hB
  have hu63 := Tryd.underlying63
  go_enter Tryd.func48, Tryd.ntmps48
  go_wp2_with fail
  generalize w.alloc (Obj.cells #[Value.string { data := #[] }, Value.int IntKind.i64 0] 63) = W1 at HS0 ⊢
  generalize hRe : w.heap.size = R at HS0 ⊢
  clear hRe
  obtain ⟨s1, s2, hsp⟩ : ∃ s1 s2, spanR a0 n = (s1, s2) := ⟨_, _, rfl⟩
  have HSP : Aside0 (runes_Span.f a0 n = some (s1, s2)) := ⟨by unfold runes_Span.f; rw [if_pos (by omega), hsp]⟩
  have hc0 := HS0.out.c0
  have hc1 := HS0.out.c1
  go_region_held3 (fun W_ => W_.cell? ⟨g, 0, none⟩ = some (.string a0) ∧ W_.cell? ⟨g, 1, none⟩ = some (.int .i64 n)) (first | go_keep | exact ⟨(HS0.out.drew.below (by assumption)).c0, (HS0.out.drew.below (by assumption)).c1⟩)
    (first | (go_at_call 78; refine (runes_Span.calls a0 n s1 s2 _ (Kd.C_below HRGL.out HS0.out.drew.B) (Kd.C_below HRGU.out HS0.out.drew.B) HSP.out).mono ?_; rintro e w2 ⟨rfl, hb⟩))
  have HS1 := Aside0.mk (HS0.out.drew.below hb)
  clear hb hc0 hc1 HS0
  by_cases hs2 : s2 = 0
  · obtain ⟨en, hen, hen1, hen2⟩ := span_ok (s := a0) (p := n) (by rw [hsp]; exact hs2) hn
    rw [hsp] at hen
    simp only [Prod.mk.injEq] at hen
    obtain ⟨rfl, _⟩ := hen
    subst hs2
    have H : r = if nameOk (a0.extract n en) = true then (if eqAt a0 (skipR a0 en) = true then signP a0 (a0.extract n en) (skipR a0 (skipR a0 en + 1)) else errP 6 (skipR a0 en)) else errP 7 n := by
      rw [HP.out]
      unfold bindP
      rw [hsp, if_pos rfl]
      rfl
    clear HP HSP hsp
    obtain ⟨nm, hnm⟩ : ∃ nm, nm = a0.extract n en := ⟨_, rfl⟩
    rw [← hnm] at H
    have HNM := Aside0.mk hnm
    have hnms : nm.size ≤ 4096 := by rw [hnm, ByteArray.size_extract]; omega
    have HP1 := Aside0.mk H
    clear H
    have hc0 := HS1.out.c0
    have hc1 := HS1.out.c1
    go_wp2_with fail
    go_region_held3 (fun W_ => W_.cell? ⟨g, 0, none⟩ = some (.string a0) ∧ W_.cell? ⟨g, 1, none⟩ = some (.int .i64 n)) (first | go_keep | exact ⟨(HS1.out.drew.below (by assumption)).c0, (HS1.out.drew.below (by assumption)).c1⟩) (fail)
    go_wp2_with fail
    rw [← HNM.out]
    have HNO : Aside0 (runes_Name.f nm = some (nameOk nm)) := ⟨by unfold runes_Name.f; rw [if_pos (by omega)]⟩
    refine (runes_Name.calls nm (nameOk nm) _ (Kd.C_below HRGL.out HS1.out.drew.B) HNO.out).mono ?_
    rintro e w3 ⟨rfl, hb⟩
    have HS2 := Aside0.mk (HS1.out.drew.below hb)
    clear hb hc0 hc1 HS1 HNO
    cases hno : nameOk nm with
    | false =>
      have H : Aside0 (r = (⟨#[]⟩, 0, 7, n)) := ⟨by
        have := HP1.out
        rw [hno, if_neg (by decide)] at this
        exact this⟩
      clear HP1 hno
      have hq0 := HS2.out.q0
      have hq1 := HS2.out.q1
      have he0 := HS2.out.e0
      have he1 := HS2.out.e1
      go_wp2_with fail
      have hput := HS2.out.put ⟨#[]⟩ 0
      refine bodyPost_ret (results_ct rfl _ _ R 63 #[.string ⟨#[]⟩, .int .i64 0] (0, 0) _ rfl hput.1 Tryd.underlying63 rfl (by kernel_rfl)) rfl ?_
      exact ret_bind H hput.2
    | true =>
      have HP2 : Aside0 (r = if eqAt a0 (skipR a0 en) = true then signP a0 nm (skipR a0 (skipR a0 en + 1)) else errP 6 (skipR a0 en)) := ⟨by
        have := HP1.out
        rw [hno, if_pos rfl] at this
        exact this⟩
      clear HP1 hno
      have hc1 := HS2.out.c1
      have hf1 := HS2.out.f1
      go_wp2_with fail
      have HS3 := Aside0.mk (HS2.out.set en)
      refine (env_reader_skip.calls g a0 en w0 _ (by omega) hen2 HS3.out.I HS3.out.B HRGL.out).mono ?_
      rintro e w4 ⟨rfl, hIe, hBe, hKe⟩
      have HS4 := Aside0.mk (HS3.out.skip hIe hBe hKe)
      clear hIe hBe hKe hc1 hf1 HS2 HS3
      have hp1 := skip_le a0 en
      generalize skipR a0 en = p1 at HS4 HP2 hp1 ⊢
      have hc0 := HS4.out.c0
      have hc1 := HS4.out.c1
      have hst := Aside0.mk HS4.out.drew
      have HEQ : Aside0 (strings_HasPrefix.f (a0.extract p1 a0.size) ⟨#[61]⟩ = some (eqAt a0 p1)) := ⟨hasPrefix_is _ _⟩
      go_wp2_with fail
      go_region_held3 (fun W_ => W_.cell? ⟨g, 0, none⟩ = some (.string a0) ∧ W_.cell? ⟨g, 1, none⟩ = some (.int .i64 p1)) (first | go_keep | exact ⟨hst.out.c0, hst.out.c1⟩)
        (first | (go_at_call 79; refine (strings_HasPrefix.calls _ _ (eqAt a0 p1) _ HEQ.out).mono ?_; rintro e w5 ⟨rfl, hd⟩; have hb := drawn_below hd; clear hd; replace hst := Aside0.mk (hst.out.below hb); clear hb))
      clear hc0 hc1 HS4 HEQ
      cases heq : eqAt a0 p1 with
      | false =>
        have H : Aside0 (r = (⟨#[]⟩, 0, 6, p1)) := ⟨by
          have := HP2.out
          rw [heq, if_neg (by decide)] at this
          exact this⟩
        clear HP2 heq
        have hq0 := hst.out.q0
        have hq1 := hst.out.q1
        have he0 := hst.out.e0
        have he1 := hst.out.e1
        go_wp2_with fail
        have hput := hst.out.put ⟨#[]⟩ 0
        refine bodyPost_ret (results_ct rfl _ _ R 63 #[.string ⟨#[]⟩, .int .i64 0] (0, 0) _ rfl hput.1 Tryd.underlying63 rfl (by kernel_rfl)) rfl ?_
        exact ret_bind H hput.2
      | true =>
        have HP3 : Aside0 (r = signP a0 nm (skipR a0 (p1 + 1))) := ⟨by
          have := HP2.out
          rw [heq, if_pos rfl] at this
          exact this⟩
        have hp1s := eqAt_in hp1 heq
        clear HP2 heq
        have hc1 := hst.out.c1
        have hf1 := hst.out.f1
        go_wp2_with fail
        have HS6 := Aside0.mk (skip_cast (hst.out.set ((p1 : Int) + 1)) (show (p1 : Int) + 1 = ((p1 + 1 : Nat) : Int) by omega))
        refine (env_reader_skip.calls g a0 (p1 + 1) w0 _ (by omega) (by omega) HS6.out.I HS6.out.B HRGL.out).mono ?_
        rintro e w6 ⟨rfl, hIe, hBe, hKe⟩
        have HS7 := Aside0.mk (HS6.out.skip hIe hBe hKe)
        clear hIe hBe hKe hc1 hf1 HS6 hst
        have hp2 := skip_le a0 (p1 + 1)
        have hp2g : 1 ≤ skipR a0 (p1 + 1) := Nat.le_trans (Nat.le_add_left 1 p1) (behind_ge blankK a0 (p1 + 1) (by omega))
        generalize skipR a0 (p1 + 1) = p2 at HS7 HP3 hp2 hp2g ⊢
        obtain ⟨m, hdr, hm, hm2⟩ := decode_rest a0 p2 hp2
        have HDR := Aside0.mk hdr
        have H : r = if headR a0 p2 = 45 ∨ headR a0 p2 = 8722 then (if kindR (headR a0 (p2 + (dcode a0 p2).2)) = 2 then tailP a0 nm true (p2 + (dcode a0 p2).2) else errP 6 p2) else tailP a0 nm false p2 := HP3.out
        have HP4 := Aside0.mk H
        have HHI := Aside0.mk (fun h => head_in (s := a0) (p := p2) h)
        have HM2 := Aside0.mk hm2
        clear H HP3 hdr hm2
        obtain ⟨c, hc⟩ : ∃ c, c = headR a0 p2 := ⟨_, rfl⟩
        rw [← hc] at HP4 HDR HHI
        clear hc
        go_wp2_with fail
        have hc0 := HS7.out.c0
        have hc1 := HS7.out.c1
        have hst := Aside0.mk HS7.out.drew
        go_region_held3 (fun W_ => W_.cell? ⟨g, 0, none⟩ = some (.string a0) ∧ W_.cell? ⟨g, 1, none⟩ = some (.int .i64 p2)) (first | go_keep | exact ⟨hst.out.c0, hst.out.c1⟩)
          (first | (go_at_call 80; refine (utf8_DecodeRuneInString.calls _ _ _ _ (Kd.C_below HRGU.out hst.out.B) HDR.out).mono ?_; rintro e w7 ⟨rfl, hb⟩; replace hst := Aside0.mk (hst.out.below hb); clear hb))
        clear hc0 hc1 HS7 HDR
        by_cases hs : c = 45 ∨ c = 8722
        · have hpm := HM2.out (HHI.out hs)
          have H := HP4.out
          rw [if_pos hs, ← hpm.1] at H
          have HP5 := Aside0.mk H
          clear H HP4 HHI HM2
          obtain ⟨p3, hp3⟩ : ∃ p3, p3 = p2 + m := ⟨_, rfl⟩
          have hmV : (p2 : Int) + (m : Int) = (p3 : Int) := by omega
          have hmW : IntKind.i64.wrap ((p2 : Int) + (m : Int)) = (p3 : Int) := by rw [i64_w]; unfold wrap64; omega
          have hp3s : p3 ≤ a0.size := by omega
          have hmX : IntKind.i64.wrap (p3 : Int) = (p3 : Int) := by rw [i64_w]; unfold wrap64; omega
          have hp3g : 1 ≤ p3 := by omega
          rw [← hp3] at HP5
          clear hp3 hm hpm
          obtain ⟨m2, hdr, hm3, _⟩ := decode_rest a0 p3 hp3s
          have HDR := Aside0.mk hdr
          clear hdr
          rcases hs with rfl | rfl
          · have hst2 := hst
            clear hst
            have HS8 := hst2
            clear hst2
            go_wp2_with fail
            have hc0 := HS8.out.c0
            have hc1 := HS8.out.c1
            have hst := Aside0.mk HS8.out.drew
            go_region_held3 (fun W_ => W_.cell? ⟨g, 0, none⟩ = some (.string a0) ∧ W_.cell? ⟨g, 1, none⟩ = some (.int .i64 p2)) (first | go_keep | exact ⟨hst.out.c0, hst.out.c1⟩)
              (first | (go_at_call 80; refine (utf8_DecodeRuneInString.calls _ _ _ _ (Kd.C_below HRGU.out hst.out.B) HDR.out).mono ?_; rintro e w8 ⟨rfl, hb⟩; replace hst := Aside0.mk (hst.out.below hb); clear hb))
            clear hc0 hc1 HS8
            go_wp2_with fail
            refine (runes_Kind.calls _ (kindR (headR a0 p3)) _ (Kd.C_below HRGL.out hst.out.B) rfl).mono ?_
            rintro e w9 ⟨rfl, hb⟩
            replace hst := Aside0.mk (hst.out.below hb)
            clear hb
            by_cases hk : kindR (headR a0 p3) = 2
            · have hkb : (kindR (headR a0 p3) != 2) = false := bne_eq_false_iff_eq.2 hk
              have HP6 : Aside0 (r = tailP a0 nm true p3) := ⟨by
                have := HP5.out
                rw [if_pos hk] at this
                exact this⟩
              clear HP5 hk HDR
              have hc1 := hst.out.c1
              have hf1 := hst.out.f1
              go_wp2_with fail
              have HS9 := Aside0.mk (hst.out.set (p3 : Int))
              clear hc1 hf1 hst hkb
              have hst := Aside0.mk HS9.out.drew
              have hc0 := HS9.out.c0
              have hc1 := HS9.out.c1
              obtain ⟨n1, n2, n3, hnum⟩ : ∃ n1 n2 n3, numberR a0 p3 = (n1, n2, n3) := ⟨_, _, _, rfl⟩
              have HNUM := Aside0.mk hnum
              have hncs := number_cases a0 p3 (by omega)
              rw [hnum] at hncs
              have H := HP6.out
              unfold tailP at H
              rw [hnum] at H
              have HP7 := Aside0.mk H
              clear H HP6 hnum
              have HNCS := Aside0.mk hncs
              clear hncs
              go_region_held3 (fun W_ => W_.cell? ⟨g, 0, none⟩ = some (.string a0) ∧ W_.cell? ⟨g, 1, none⟩ = some (.int .i64 p3)) (first | go_keep | exact ⟨hst.out.c0, hst.out.c1⟩)
                (first | (go_at_call 81; refine (number_in a0 p3 n1 n2 n3 _ (by omega) (by omega) (Kd.C_below HRGL.out hst.out.B) (Kd.C_below HRGU.out hst.out.B) HNUM.out).mono ?_; rintro e w9 ⟨rfl, hb⟩; replace hst := Aside0.mk (hst.out.below hb); clear hb))
              clear hc0 hc1
              rcases HNCS.out with h1 | h1 | ⟨nv, ne, h1, hne1, hne2, hnv, hnz, hnve, hnee⟩
              · simp only [Prod.mk.injEq] at h1
                obtain ⟨rfl, rfl, rfl⟩ := h1
                have H : Aside0 (r = (⟨#[]⟩, 0, 6, p3)) := ⟨by
                  have := HP7.out
                  simpa [errP] using this⟩
                clear HP7
                have hq0 := hst.out.q0
                have hq1 := hst.out.q1
                have he0 := hst.out.e0
                have he1 := hst.out.e1
                go_wp2_with fail
                have hput := hst.out.put ⟨#[]⟩ 0
                refine bodyPost_ret (results_ct rfl _ _ R 63 #[.string ⟨#[]⟩, .int .i64 0] (0, 0) _ rfl hput.1 Tryd.underlying63 rfl (by kernel_rfl)) rfl ?_
                exact ret_bind H hput.2
              · simp only [Prod.mk.injEq] at h1
                obtain ⟨rfl, rfl, rfl⟩ := h1
                have H : Aside0 (r = (⟨#[]⟩, 0, 10, p3)) := ⟨by
                  have := HP7.out
                  simpa [errP] using this⟩
                clear HP7
                have hq0 := hst.out.q0
                have hq1 := hst.out.q1
                have he0 := hst.out.e0
                have he1 := hst.out.e1
                go_wp2_with fail
                have hput := hst.out.put ⟨#[]⟩ 0
                refine bodyPost_ret (results_ct rfl _ _ R 63 #[.string ⟨#[]⟩, .int .i64 0] (0, 0) _ rfl hput.1 Tryd.underlying63 rfl (by kernel_rfl)) rfl ?_
                exact ret_bind H hput.2
              · simp only [Prod.mk.injEq] at h1
                obtain ⟨rfl, rfl, rfl⟩ := h1
                have H := HP7.out
                (try simp only at H)
                rw [if_neg (by decide), if_neg (by decide), Int.toNat_natCast, Int.toNat_natCast] at H
                obtain ⟨k, b, zz, z, hbare, hzero, hdig, hval, hsz, hcut⟩ := read_arg a0 p3 (by omega) hnz true
                rw [← hnee] at hbare hzero
                rw [← hnve] at hval
                have hbs : b.size ≤ 4095 := by rw [ByteArray.size_append] at hsz; omega
                have hzs : zz.size ≤ 4095 := by rw [ByteArray.size_append] at hsz; omega
                have hbz : b.size + zz.size ≤ 4095 := by rw [ByteArray.size_append] at hsz; omega
                have hy1 : b.size ≤ 9223372036854775807 := by omega
                have hy2 : b.size + zz.size ≤ 9223372036854775807 := by omega
                have hy3 : 1 + b.size ≤ 9223372036854775807 := by omega
                have hy4 : 1 + b.size + zz.size ≤ 9223372036854775807 := by omega
                have hy5 : (9223372036854775807 < b.size) = False := eq_false (by omega)
                have hy6 : (9223372036854775807 < b.size + zz.size) = False := eq_false (by omega)
                have hy7 : (9223372036854775807 < 1 + b.size) = False := eq_false (by omega)
                have hy8 : (9223372036854775807 < 1 + b.size + zz.size) = False := eq_false (by omega)
                have HBR := Aside0.mk hbare
                have HZR := Aside0.mk hzero
                have HDG := Aside0.mk hdig
                have HVL := Aside0.mk hval
                have HCT : Aside0 (cutM true ((⟨#[45]⟩ ++ b) ++ zz) (b ++ zz)) := ⟨hcut⟩
                have HP8 := Aside0.mk H
                clear H HP7 hbare hzero hdig hval hcut hsz hnee hnve hnz
                have hc0 := hst.out.c0
                have hc1 := hst.out.c1
                go_wp2_with fail
                replace hst := Aside0.mk hst.out.drew
                obtain ⟨x1, x2, hx⟩ : ∃ x1 x2, readV true nv = (x1, x2) := ⟨_, _, rfl⟩
                rw [show readV true nv = (x1, x2) from hx] at HP8
                have HX : Aside0 ((readV true (valueR z (b ++ zz) ((b ++ zz).size + 1) 0 0)) = (x1, x2)) := ⟨by rw [HVL.out]; exact hx⟩
                clear hx
                go_region_held3 (fun W_ => W_.cell? ⟨g, 0, none⟩ = some (.string a0) ∧ W_.cell? ⟨g, 1, none⟩ = some (.int .i64 p3)) (first | go_keep | exact ⟨hst.out.c0, hst.out.c1⟩)
                  (first | (go_at_call 83; refine (env_bare.calls k _ b _ (Kd.C_below HRGU.out hst.out.B) HBR.out).mono ?_; rintro e w9 ⟨rfl, hb⟩; replace hst := Aside0.mk (hst.out.below hb); clear hb) | (go_at_call 84; refine (env_zero.calls k _ zz _ (Kd.C_below HRGU.out hst.out.B) HZR.out).mono ?_; rintro e w9 ⟨rfl, hb⟩; replace hst := Aside0.mk (hst.out.below hb); clear hb) | (go_at_call 82; refine (read_digits _ (b ++ zz) true z _ (by simp only [ByteArray.size_append]; have e45 : (⟨#[45]⟩ : ByteArray).size = 1 := rfl; have e0 : (⟨#[]⟩ : ByteArray).size = 0 := rfl; omega) (by simp only [ByteArray.size_append]; omega) HCT.out HDG.out (Kd.C_below HRGL.out hst.out.B) (Kd.C_below HRGU.out hst.out.B)).mono ?_; rw [HX.out]; rintro e w9 ⟨rfl, hb⟩; replace hst := Aside0.mk (hst.out.below hb); clear hb))
                all_goals clear hc0 hc1
                all_goals (
                  by_cases hx2 : x2 = 0
                  · (subst hx2
                     have HP9 : Aside0 (r = (nm, x1, 0, skipR a0 ne)) := ⟨by simpa using HP8.out⟩
                     rw [HNM.out] at HP9
                     clear HP8
                     have hc1 := hst.out.c1
                     have hf1 := hst.out.f1
                     go_wp2_with fail
                     have HSe := Aside0.mk (hst.out.set ne)
                     refine (env_reader_skip.calls g a0 ne w0 _ (by omega) hne2 HSe.out.I HSe.out.B HRGL.out).mono ?_
                     rintro e w10 ⟨rfl, hIe, hBe, hKe⟩
                     have HSf := Aside0.mk (HSe.out.skip hIe hBe hKe)
                     clear hIe hBe hKe hc1 hf1
                     have hq0 := HSf.out.q0
                     have hq1 := HSf.out.q1
                     have he0 := HSf.out.e0
                     have he1 := HSf.out.e1
                     go_wp2_with fail
                     have hput := HSf.out.put (a0.extract n en) x1
                     refine bodyPost_ret (results_ct rfl _ _ R 63 #[.string (a0.extract n en), .int .i64 x1] (0, 0) _ rfl hput.1 Tryd.underlying63 rfl (by kernel_rfl)) rfl ?_
                     exact ret_bind HP9 hput.2)
                  · (have H : Aside0 (r = (⟨#[]⟩, 0, 10, p3)) := ⟨by
                       have := HP8.out
                       (try simp only at this)
                       rw [if_neg hx2] at this
                       exact this⟩
                     have hxb : (x2 != 0) = true := bne_iff_ne.2 hx2
                     clear HP8 hx2
                     have hq0 := hst.out.q0
                     have hq1 := hst.out.q1
                     have he0 := hst.out.e0
                     have he1 := hst.out.e1
                     go_wp2_with fail
                     have hput := hst.out.put ⟨#[]⟩ 0
                     refine bodyPost_ret (results_ct rfl _ _ R 63 #[.string ⟨#[]⟩, .int .i64 0] (0, 0) _ rfl hput.1 Tryd.underlying63 rfl (by kernel_rfl)) rfl ?_
                     exact ret_bind H hput.2))
            · have hkb : (kindR (headR a0 p3) != 2) = true := bne_iff_ne.2 hk
              have H : Aside0 (r = (⟨#[]⟩, 0, 6, p2)) := ⟨by
                have := HP5.out
                rw [if_neg hk] at this
                exact this⟩
              clear HP5 hk
              have hq0 := hst.out.q0
              have hq1 := hst.out.q1
              have he0 := hst.out.e0
              have he1 := hst.out.e1
              go_wp2_with fail
              have hput := hst.out.put ⟨#[]⟩ 0
              refine bodyPost_ret (results_ct rfl _ _ R 63 #[.string ⟨#[]⟩, .int .i64 0] (0, 0) _ rfl hput.1 Tryd.underlying63 rfl (by kernel_rfl)) rfl ?_
              exact ret_bind H hput.2
          · have hst2 := hst
            clear hst
            have HS8 := hst2
            clear hst2
            go_wp2_with fail
            have hc0 := HS8.out.c0
            have hc1 := HS8.out.c1
            have hst := Aside0.mk HS8.out.drew
            go_region_held3 (fun W_ => W_.cell? ⟨g, 0, none⟩ = some (.string a0) ∧ W_.cell? ⟨g, 1, none⟩ = some (.int .i64 p2)) (first | go_keep | exact ⟨hst.out.c0, hst.out.c1⟩)
              (first | (go_at_call 80; refine (utf8_DecodeRuneInString.calls _ _ _ _ (Kd.C_below HRGU.out hst.out.B) HDR.out).mono ?_; rintro e w8 ⟨rfl, hb⟩; replace hst := Aside0.mk (hst.out.below hb); clear hb))
            clear hc0 hc1 HS8
            go_wp2_with fail
            refine (runes_Kind.calls _ (kindR (headR a0 p3)) _ (Kd.C_below HRGL.out hst.out.B) rfl).mono ?_
            rintro e w9 ⟨rfl, hb⟩
            replace hst := Aside0.mk (hst.out.below hb)
            clear hb
            by_cases hk : kindR (headR a0 p3) = 2
            · have hkb : (kindR (headR a0 p3) != 2) = false := bne_eq_false_iff_eq.2 hk
              have HP6 : Aside0 (r = tailP a0 nm true p3) := ⟨by
                have := HP5.out
                rw [if_pos hk] at this
                exact this⟩
              clear HP5 hk HDR
              have hc1 := hst.out.c1
              have hf1 := hst.out.f1
              go_wp2_with fail
              have HS9 := Aside0.mk (hst.out.set (p3 : Int))
              clear hc1 hf1 hst hkb
              have hst := Aside0.mk HS9.out.drew
              have hc0 := HS9.out.c0
              have hc1 := HS9.out.c1
              obtain ⟨n1, n2, n3, hnum⟩ : ∃ n1 n2 n3, numberR a0 p3 = (n1, n2, n3) := ⟨_, _, _, rfl⟩
              have HNUM := Aside0.mk hnum
              have hncs := number_cases a0 p3 (by omega)
              rw [hnum] at hncs
              have H := HP6.out
              unfold tailP at H
              rw [hnum] at H
              have HP7 := Aside0.mk H
              clear H HP6 hnum
              have HNCS := Aside0.mk hncs
              clear hncs
              go_region_held3 (fun W_ => W_.cell? ⟨g, 0, none⟩ = some (.string a0) ∧ W_.cell? ⟨g, 1, none⟩ = some (.int .i64 p3)) (first | go_keep | exact ⟨hst.out.c0, hst.out.c1⟩)
                (first | (go_at_call 81; refine (number_in a0 p3 n1 n2 n3 _ (by omega) (by omega) (Kd.C_below HRGL.out hst.out.B) (Kd.C_below HRGU.out hst.out.B) HNUM.out).mono ?_; rintro e w9 ⟨rfl, hb⟩; replace hst := Aside0.mk (hst.out.below hb); clear hb))
              clear hc0 hc1
              rcases HNCS.out with h1 | h1 | ⟨nv, ne, h1, hne1, hne2, hnv, hnz, hnve, hnee⟩
              · simp only [Prod.mk.injEq] at h1
                obtain ⟨rfl, rfl, rfl⟩ := h1
                have H : Aside0 (r = (⟨#[]⟩, 0, 6, p3)) := ⟨by
                  have := HP7.out
                  simpa [errP] using this⟩
                clear HP7
                have hq0 := hst.out.q0
                have hq1 := hst.out.q1
                have he0 := hst.out.e0
                have he1 := hst.out.e1
                go_wp2_with fail
                have hput := hst.out.put ⟨#[]⟩ 0
                refine bodyPost_ret (results_ct rfl _ _ R 63 #[.string ⟨#[]⟩, .int .i64 0] (0, 0) _ rfl hput.1 Tryd.underlying63 rfl (by kernel_rfl)) rfl ?_
                exact ret_bind H hput.2
              · simp only [Prod.mk.injEq] at h1
                obtain ⟨rfl, rfl, rfl⟩ := h1
                have H : Aside0 (r = (⟨#[]⟩, 0, 10, p3)) := ⟨by
                  have := HP7.out
                  simpa [errP] using this⟩
                clear HP7
                have hq0 := hst.out.q0
                have hq1 := hst.out.q1
                have he0 := hst.out.e0
                have he1 := hst.out.e1
                go_wp2_with fail
                have hput := hst.out.put ⟨#[]⟩ 0
                refine bodyPost_ret (results_ct rfl _ _ R 63 #[.string ⟨#[]⟩, .int .i64 0] (0, 0) _ rfl hput.1 Tryd.underlying63 rfl (by kernel_rfl)) rfl ?_
                exact ret_bind H hput.2
              · simp only [Prod.mk.injEq] at h1
                obtain ⟨rfl, rfl, rfl⟩ := h1
                have H := HP7.out
                (try simp only at H)
                rw [if_neg (by decide), if_neg (by decide), Int.toNat_natCast, Int.toNat_natCast] at H
                obtain ⟨k, b, zz, z, hbare, hzero, hdig, hval, hsz, hcut⟩ := read_arg a0 p3 (by omega) hnz true
                rw [← hnee] at hbare hzero
                rw [← hnve] at hval
                have hbs : b.size ≤ 4095 := by rw [ByteArray.size_append] at hsz; omega
                have hzs : zz.size ≤ 4095 := by rw [ByteArray.size_append] at hsz; omega
                have hbz : b.size + zz.size ≤ 4095 := by rw [ByteArray.size_append] at hsz; omega
                have hy1 : b.size ≤ 9223372036854775807 := by omega
                have hy2 : b.size + zz.size ≤ 9223372036854775807 := by omega
                have hy3 : 1 + b.size ≤ 9223372036854775807 := by omega
                have hy4 : 1 + b.size + zz.size ≤ 9223372036854775807 := by omega
                have hy5 : (9223372036854775807 < b.size) = False := eq_false (by omega)
                have hy6 : (9223372036854775807 < b.size + zz.size) = False := eq_false (by omega)
                have hy7 : (9223372036854775807 < 1 + b.size) = False := eq_false (by omega)
                have hy8 : (9223372036854775807 < 1 + b.size + zz.size) = False := eq_false (by omega)
                have HBR := Aside0.mk hbare
                have HZR := Aside0.mk hzero
                have HDG := Aside0.mk hdig
                have HVL := Aside0.mk hval
                have HCT : Aside0 (cutM true ((⟨#[45]⟩ ++ b) ++ zz) (b ++ zz)) := ⟨hcut⟩
                have HP8 := Aside0.mk H
                clear H HP7 hbare hzero hdig hval hcut hsz hnee hnve hnz
                have hc0 := hst.out.c0
                have hc1 := hst.out.c1
                go_wp2_with fail
                replace hst := Aside0.mk hst.out.drew
                obtain ⟨x1, x2, hx⟩ : ∃ x1 x2, readV true nv = (x1, x2) := ⟨_, _, rfl⟩
                rw [show readV true nv = (x1, x2) from hx] at HP8
                have HX : Aside0 ((readV true (valueR z (b ++ zz) ((b ++ zz).size + 1) 0 0)) = (x1, x2)) := ⟨by rw [HVL.out]; exact hx⟩
                clear hx
                go_region_held3 (fun W_ => W_.cell? ⟨g, 0, none⟩ = some (.string a0) ∧ W_.cell? ⟨g, 1, none⟩ = some (.int .i64 p3)) (first | go_keep | exact ⟨hst.out.c0, hst.out.c1⟩)
                  (first | (go_at_call 83; refine (env_bare.calls k _ b _ (Kd.C_below HRGU.out hst.out.B) HBR.out).mono ?_; rintro e w9 ⟨rfl, hb⟩; replace hst := Aside0.mk (hst.out.below hb); clear hb) | (go_at_call 84; refine (env_zero.calls k _ zz _ (Kd.C_below HRGU.out hst.out.B) HZR.out).mono ?_; rintro e w9 ⟨rfl, hb⟩; replace hst := Aside0.mk (hst.out.below hb); clear hb) | (go_at_call 82; refine (read_digits _ (b ++ zz) true z _ (by simp only [ByteArray.size_append]; have e45 : (⟨#[45]⟩ : ByteArray).size = 1 := rfl; have e0 : (⟨#[]⟩ : ByteArray).size = 0 := rfl; omega) (by simp only [ByteArray.size_append]; omega) HCT.out HDG.out (Kd.C_below HRGL.out hst.out.B) (Kd.C_below HRGU.out hst.out.B)).mono ?_; rw [HX.out]; rintro e w9 ⟨rfl, hb⟩; replace hst := Aside0.mk (hst.out.below hb); clear hb))
                all_goals clear hc0 hc1
                all_goals (
                  by_cases hx2 : x2 = 0
                  · (subst hx2
                     have HP9 : Aside0 (r = (nm, x1, 0, skipR a0 ne)) := ⟨by simpa using HP8.out⟩
                     rw [HNM.out] at HP9
                     clear HP8
                     have hc1 := hst.out.c1
                     have hf1 := hst.out.f1
                     go_wp2_with fail
                     have HSe := Aside0.mk (hst.out.set ne)
                     refine (env_reader_skip.calls g a0 ne w0 _ (by omega) hne2 HSe.out.I HSe.out.B HRGL.out).mono ?_
                     rintro e w10 ⟨rfl, hIe, hBe, hKe⟩
                     have HSf := Aside0.mk (HSe.out.skip hIe hBe hKe)
                     clear hIe hBe hKe hc1 hf1
                     have hq0 := HSf.out.q0
                     have hq1 := HSf.out.q1
                     have he0 := HSf.out.e0
                     have he1 := HSf.out.e1
                     go_wp2_with fail
                     have hput := HSf.out.put (a0.extract n en) x1
                     refine bodyPost_ret (results_ct rfl _ _ R 63 #[.string (a0.extract n en), .int .i64 x1] (0, 0) _ rfl hput.1 Tryd.underlying63 rfl (by kernel_rfl)) rfl ?_
                     exact ret_bind HP9 hput.2)
                  · (have H : Aside0 (r = (⟨#[]⟩, 0, 10, p3)) := ⟨by
                       have := HP8.out
                       (try simp only at this)
                       rw [if_neg hx2] at this
                       exact this⟩
                     have hxb : (x2 != 0) = true := bne_iff_ne.2 hx2
                     clear HP8 hx2
                     have hq0 := hst.out.q0
                     have hq1 := hst.out.q1
                     have he0 := hst.out.e0
                     have he1 := hst.out.e1
                     go_wp2_with fail
                     have hput := hst.out.put ⟨#[]⟩ 0
                     refine bodyPost_ret (results_ct rfl _ _ R 63 #[.string ⟨#[]⟩, .int .i64 0] (0, 0) _ rfl hput.1 Tryd.underlying63 rfl (by kernel_rfl)) rfl ?_
                     exact ret_bind H hput.2))
            · have hkb : (kindR (headR a0 p3) != 2) = true := bne_iff_ne.2 hk
              have H : Aside0 (r = (⟨#[]⟩, 0, 6, p2)) := ⟨by
                have := HP5.out
                rw [if_neg hk] at this
                exact this⟩
              clear HP5 hk
              have hq0 := hst.out.q0
              have hq1 := hst.out.q1
              have he0 := hst.out.e0
              have he1 := hst.out.e1
              go_wp2_with fail
              have hput := hst.out.put ⟨#[]⟩ 0
              refine bodyPost_ret (results_ct rfl _ _ R 63 #[.string ⟨#[]⟩, .int .i64 0] (0, 0) _ rfl hput.1 Tryd.underlying63 rfl (by kernel_rfl)) rfl ?_
              exact ret_bind H hput.2
        · have hcb1 : (c == 45) = false := beq_eq_false_iff_ne.2 (fun h => hs (.inl h))
          have hcb2 : (c == 8722) = false := beq_eq_false_iff_ne.2 (fun h => hs (.inr h))
          have H := HP4.out
          rw [if_neg hs] at H
          have HP6 := Aside0.mk H
          clear H HP4 HHI HM2 hs
          go_wp2_with fail
          have HS9 := hst
          clear hst
          have hst := Aside0.mk HS9.out.drew
          have hc0 := HS9.out.c0
          have hc1 := HS9.out.c1
          obtain ⟨n1, n2, n3, hnum⟩ : ∃ n1 n2 n3, numberR a0 p2 = (n1, n2, n3) := ⟨_, _, _, rfl⟩
          have HNUM := Aside0.mk hnum
          have hncs := number_cases a0 p2 (by omega)
          rw [hnum] at hncs
          have H := HP6.out
          unfold tailP at H
          rw [hnum] at H
          have HP7 := Aside0.mk H
          clear H HP6 hnum
          have HNCS := Aside0.mk hncs
          clear hncs
          go_region_held3 (fun W_ => W_.cell? ⟨g, 0, none⟩ = some (.string a0) ∧ W_.cell? ⟨g, 1, none⟩ = some (.int .i64 p2)) (first | go_keep | exact ⟨hst.out.c0, hst.out.c1⟩)
            (first | (go_at_call 81; refine (number_in a0 p2 n1 n2 n3 _ (by omega) (by omega) (Kd.C_below HRGL.out hst.out.B) (Kd.C_below HRGU.out hst.out.B) HNUM.out).mono ?_; rintro e w9 ⟨rfl, hb⟩; replace hst := Aside0.mk (hst.out.below hb); clear hb))
          clear hc0 hc1
          rcases HNCS.out with h1 | h1 | ⟨nv, ne, h1, hne1, hne2, hnv, hnz, hnve, hnee⟩
          · simp only [Prod.mk.injEq] at h1
            obtain ⟨rfl, rfl, rfl⟩ := h1
            have H : Aside0 (r = (⟨#[]⟩, 0, 6, p2)) := ⟨by
              have := HP7.out
              simpa [errP] using this⟩
            clear HP7
            have hq0 := hst.out.q0
            have hq1 := hst.out.q1
            have he0 := hst.out.e0
            have he1 := hst.out.e1
            go_wp2_with fail
            have hput := hst.out.put ⟨#[]⟩ 0
            refine bodyPost_ret (results_ct rfl _ _ R 63 #[.string ⟨#[]⟩, .int .i64 0] (0, 0) _ rfl hput.1 Tryd.underlying63 rfl (by kernel_rfl)) rfl ?_
            exact ret_bind H hput.2
          · simp only [Prod.mk.injEq] at h1
            obtain ⟨rfl, rfl, rfl⟩ := h1
            have H : Aside0 (r = (⟨#[]⟩, 0, 10, p2)) := ⟨by
              have := HP7.out
              simpa [errP] using this⟩
            clear HP7
            have hq0 := hst.out.q0
            have hq1 := hst.out.q1
            have he0 := hst.out.e0
            have he1 := hst.out.e1
            go_wp2_with fail
            have hput := hst.out.put ⟨#[]⟩ 0
            refine bodyPost_ret (results_ct rfl _ _ R 63 #[.string ⟨#[]⟩, .int .i64 0] (0, 0) _ rfl hput.1 Tryd.underlying63 rfl (by kernel_rfl)) rfl ?_
            exact ret_bind H hput.2
          · simp only [Prod.mk.injEq] at h1
            obtain ⟨rfl, rfl, rfl⟩ := h1
            have H := HP7.out
            (try simp only at H)
            rw [if_neg (by decide), if_neg (by decide), Int.toNat_natCast, Int.toNat_natCast] at H
            obtain ⟨k, b, zz, z, hbare, hzero, hdig, hval, hsz, hcut⟩ := read_arg a0 p2 (by omega) hnz false
            rw [← hnee] at hbare hzero
            rw [← hnve] at hval
            have hbs : b.size ≤ 4095 := by rw [ByteArray.size_append] at hsz; omega
            have hzs : zz.size ≤ 4095 := by rw [ByteArray.size_append] at hsz; omega
            have hbz : b.size + zz.size ≤ 4095 := by rw [ByteArray.size_append] at hsz; omega
            have hy1 : b.size ≤ 9223372036854775807 := by omega
            have hy2 : b.size + zz.size ≤ 9223372036854775807 := by omega
            have hy3 : 1 + b.size ≤ 9223372036854775807 := by omega
            have hy4 : 1 + b.size + zz.size ≤ 9223372036854775807 := by omega
            have hy5 : (9223372036854775807 < b.size) = False := eq_false (by omega)
            have hy6 : (9223372036854775807 < b.size + zz.size) = False := eq_false (by omega)
            have hy7 : (9223372036854775807 < 1 + b.size) = False := eq_false (by omega)
            have hy8 : (9223372036854775807 < 1 + b.size + zz.size) = False := eq_false (by omega)
            have HBR := Aside0.mk hbare
            have HZR := Aside0.mk hzero
            have HDG := Aside0.mk hdig
            have HVL := Aside0.mk hval
            have HCT : Aside0 (cutM false ((⟨#[]⟩ ++ b) ++ zz) (b ++ zz)) := ⟨hcut⟩
            have HP8 := Aside0.mk H
            clear H HP7 hbare hzero hdig hval hcut hsz hnee hnve hnz
            have hc0 := hst.out.c0
            have hc1 := hst.out.c1
            go_wp2_with fail
            replace hst := Aside0.mk hst.out.drew
            obtain ⟨x1, x2, hx⟩ : ∃ x1 x2, readV false nv = (x1, x2) := ⟨_, _, rfl⟩
            rw [show readV false nv = (x1, x2) from hx] at HP8
            have HX : Aside0 ((readV false (valueR z (b ++ zz) ((b ++ zz).size + 1) 0 0)) = (x1, x2)) := ⟨by rw [HVL.out]; exact hx⟩
            clear hx
            go_region_held3 (fun W_ => W_.cell? ⟨g, 0, none⟩ = some (.string a0) ∧ W_.cell? ⟨g, 1, none⟩ = some (.int .i64 p2)) (first | go_keep | exact ⟨hst.out.c0, hst.out.c1⟩)
              (first | (go_at_call 83; refine (env_bare.calls k _ b _ (Kd.C_below HRGU.out hst.out.B) HBR.out).mono ?_; rintro e w9 ⟨rfl, hb⟩; replace hst := Aside0.mk (hst.out.below hb); clear hb) | (go_at_call 84; refine (env_zero.calls k _ zz _ (Kd.C_below HRGU.out hst.out.B) HZR.out).mono ?_; rintro e w9 ⟨rfl, hb⟩; replace hst := Aside0.mk (hst.out.below hb); clear hb) | (go_at_call 82; refine (read_digits _ (b ++ zz) false z _ (by simp only [ByteArray.size_append]; have e45 : (⟨#[45]⟩ : ByteArray).size = 1 := rfl; have e0 : (⟨#[]⟩ : ByteArray).size = 0 := rfl; omega) (by simp only [ByteArray.size_append]; omega) HCT.out HDG.out (Kd.C_below HRGL.out hst.out.B) (Kd.C_below HRGU.out hst.out.B)).mono ?_; rw [HX.out]; rintro e w9 ⟨rfl, hb⟩; replace hst := Aside0.mk (hst.out.below hb); clear hb))
            all_goals clear hc0 hc1
            all_goals (
              by_cases hx2 : x2 = 0
              · (subst hx2
                 have HP9 : Aside0 (r = (nm, x1, 0, skipR a0 ne)) := ⟨by simpa using HP8.out⟩
                 rw [HNM.out] at HP9
                 clear HP8
                 have hc1 := hst.out.c1
                 have hf1 := hst.out.f1
                 go_wp2_with fail
                 have HSe := Aside0.mk (hst.out.set ne)
                 refine (env_reader_skip.calls g a0 ne w0 _ (by omega) hne2 HSe.out.I HSe.out.B HRGL.out).mono ?_
                 rintro e w10 ⟨rfl, hIe, hBe, hKe⟩
                 have HSf := Aside0.mk (HSe.out.skip hIe hBe hKe)
                 clear hIe hBe hKe hc1 hf1
                 have hq0 := HSf.out.q0
                 have hq1 := HSf.out.q1
                 have he0 := HSf.out.e0
                 have he1 := HSf.out.e1
                 go_wp2_with fail
                 have hput := HSf.out.put (a0.extract n en) x1
                 refine bodyPost_ret (results_ct rfl _ _ R 63 #[.string (a0.extract n en), .int .i64 x1] (0, 0) _ rfl hput.1 Tryd.underlying63 rfl (by kernel_rfl)) rfl ?_
                 exact ret_bind HP9 hput.2)
              · (have H : Aside0 (r = (⟨#[]⟩, 0, 10, p2)) := ⟨by
                   have := HP8.out
                   (try simp only at this)
                   rw [if_neg hx2] at this
                   exact this⟩
                 have hxb : (x2 != 0) = true := bne_iff_ne.2 hx2
                 clear HP8 hx2
                 have hq0 := hst.out.q0
                 have hq1 := hst.out.q1
                 have he0 := hst.out.e0
                 have he1 := hst.out.e1
                 go_wp2_with fail
                 have hput := hst.out.put ⟨#[]⟩ 0
                 refine bodyPost_ret (results_ct rfl _ _ R 63 #[.string ⟨#[]⟩, .int .i64 0] (0, 0) _ rfl hput.1 Tryd.underlying63 rfl (by kernel_rfl)) rfl ?_
                 exact ret_bind H hput.2))
  · have hsb : (s2 != 0) = true := bne_iff_ne.2 hs2
    have H : Aside0 (r = (⟨#[]⟩, 0, 6, n)) := ⟨by
      rw [HP.out]
      unfold bindP errP
      rw [hsp, if_neg hs2]⟩
    clear HP HSP hsp hs2
    have hq0 := HS1.out.q0
    have hq1 := HS1.out.q1
    have he0 := HS1.out.e0
    have he1 := HS1.out.e1
    go_wp2_with fail
    have hput := HS1.out.put ⟨#[]⟩ 0
    refine bodyPost_ret (results_ct rfl _ _ R 63 #[.string ⟨#[]⟩, .int .i64 0] (0, 0) _ rfl hput.1 Tryd.underlying63 rfl (by kernel_rfl)) rfl ?_
    exact ret_bind H hput.2
end Go.Proofs.YtadlbegecgpaaaaDoor.S
namespace Go.Proofs.YtadlbegecgpaaaaDoor.S
open Go Go.RowKit Go.Proofs.YtadlbegecgpaaaaDoorW.PrintWords Go.Proofs.YtadlbegecgpaaaaDoorW.PrintLast Go.Proofs.YtadlbegecgpaaaaDoorW.PrintMore
/-- The loop of Read, from a place on, binds being read. -/
def readL (s : ByteArray) : Nat → Nat → List S63 → List S63 × Int × Int
  | 0, _, _ => ([], 0, 0)
  | k + 1, p, xs =>
    if p < s.size ∨ xs ≠ [] then
      if (bindP s p).2.2.1 = 0 then
        if (bindP s p).2.2.2 = s.size then (xs ++ [⟨(bindP s p).1, (bindP s p).2.1⟩], 0, 0)
        else if bt s (bindP s p).2.2.2 = 44 then
          if xs.length + 1 = 64 then ([], (bindP s p).2.2.2, 10)
          else readL s k (skipR s ((bindP s p).2.2.2 + 1)) (xs ++ [⟨(bindP s p).1, (bindP s p).2.1⟩])
        else ([], (bindP s p).2.2.2, 6)
      else ([], (bindP s p).2.2.2, (bindP s p).2.2.1)
    else (xs, 0, 0)
def env_Read.f (a0 : ByteArray) : Option (List S63 × Int × Int) :=
  if a0.size ≤ 9223372036854775800 then some (if 4096 < a0.size then ([], 0, 3) else if (checkR a0 (a0.size + 1) 0).2 = 0 then readL a0 66 (skipR a0 0) [] else ([], (checkR a0 (a0.size + 1) 0).1, (checkR a0 (a0.size + 1) 0).2)) else none
theorem tail_le (s nm : ByteArray) (mn : Bool) (p : Nat) (hp : p ≤ s.size) : (tailP s nm mn p).2.2.2 ≤ s.size := by
  unfold tailP errP
  split
  · exact hp
  · split
    · exact hp
    · split
      · exact skip_le _ _
      · exact hp
theorem sign_le (s nm : ByteArray) (p : Nat) (hp : p ≤ s.size) : (signP s nm p).2.2.2 ≤ s.size := by
  unfold signP errP
  by_cases hc : headR s p = 45 ∨ headR s p = 8722
  · rw [if_pos hc]
    have h1 := dcode_le s p (head_in hc)
    split
    · exact tail_le _ _ _ _ h1
    · exact hp
  · rw [if_neg hc]; exact tail_le _ _ _ _ hp
theorem bindP_le (s : ByteArray) (p : Nat) (hp : p ≤ s.size) : (bindP s p).2.2.2 ≤ s.size := by
  unfold bindP errP
  split
  · split
    · split
      · exact sign_le _ _ _ (skip_le _ _)
      · exact skip_le _ _
    · exact hp
  · exact hp
set_option maxHeartbeats 8000000 in
set_option maxRecDepth 100000 in
theorem env_Read.calls (a0 : ByteArray) (r1 : List S63) (r2 r3 : Int) (w : World) (hGL : Kd.C kGL w GAL 1 [()]) (hGU : Kd.C kGU w GAU 1 [()]) (h : env_Read.f a0 = some (r1, r2, r3)) :
    Calls Tryd.prog 20 #[.string a0] w fun e w' => ∃ v0_ : Value, e = .returned (.tuple #[v0_, .int .i64 r2, .int .i64 r3]) ∧ Kd.R k63 63 w' w.heap.size (fun _ => True) v0_ r1 ∧ Below w.heap.size w w' := by
  unfold env_Read.f at h
  by_cases hs : a0.size ≤ 9223372036854775800
  · rw [if_pos hs] at h
    replace h := Option.some.inj h
    have HRGL := Aside0.mk hGL
    have HRGU := Aside0.mk hGU
    clear hGL hGU
    by_cases hl : 4096 < a0.size
    · rw [if_pos hl] at h
      simp only [Prod.mk.injEq] at h
      obtain ⟨rfl, rfl, rfl⟩ := h
      go_enter Tryd.func20, Tryd.ntmps20
      go_wp2_with fail
      go_ret3
      exact ⟨_, rfl, Kd.R_nil _ _ _ _ _, Below.refl _ _⟩
    · rw [if_neg hl] at h
      have hls : a0.size ≤ 4096 := by omega
      obtain ⟨q1, q2, hq⟩ : ∃ q1 q2, checkR a0 (a0.size + 1) 0 = (q1, q2) := ⟨_, _, rfl⟩
      have HCK : Aside0 (runes_Check.f a0 = some (q1, q2)) := ⟨by unfold runes_Check.f; rw [if_pos hs, hq]⟩
      rw [hq] at h
      simp only at h
      clear hq
      by_cases hq2 : q2 = 0
      · subst hq2
        rw [if_pos rfl] at h
        have HH := Aside0.mk h
        clear h
        have hu74 := Tryd.underlying74
        have hu63 := Tryd.underlying63
        go_enter Tryd.func20, Tryd.ntmps20
        go_wp2_with fail
        refine (runes_Check.calls a0 q1 0 _ HCK.out).mono ?_
        rintro e w1 ⟨rfl, hb1⟩
        go_wp2_with fail
        have HI0 : Aside0 (IsS74 w (w1.alloc (Obj.cells #[Value.string a0, Value.int IntKind.i64 0] 74)) w1.heap.size a0 ((0 : Nat) : Int)) := ⟨IsS74.new w w1 a0 0 hb1⟩
        have HB0 := Aside0.mk (below_alloc hb1 (Obj.cells #[Value.string a0, Value.int IntKind.i64 0] 74))
        generalize w1.alloc (Obj.cells #[Value.string a0, Value.int IntKind.i64 0] 74) = W2 at HI0 HB0 ⊢
        generalize w1.heap.size = g at HI0 ⊢
        clear hb1
        refine (env_reader_skip.calls g a0 0 w _ hs (by omega) HI0.out HB0.out HRGL.out).mono ?_
        rintro e w3 ⟨rfl, hI, hB, hK⟩
        clear HI0 HB0 hK
        have HI1 := Aside0.mk hI
        have HB1 := Aside0.mk hB
        clear hI hB
        go_wp2_with fail
        go_loopg [2] 66 (fun kq v2 w' => ∃ (p : Nat) (xs : List S63), p ≤ a0.size ∧ ((xs = [] ∧ v2 = .slice none 0 0) ∨ xs ≠ []) ∧ xs.length + kq = 66 ∧ xs.length < 64 ∧ Aside0 (readL a0 kq p xs = (r1, r2, r3)) ∧ Aside0 (IsS74 w w' g a0 p) ∧ Aside0 (Below w.heap.size w w') ∧ Aside0 (Kd.R k63 63 w' w.heap.size (fun _ => True) v2 xs))
        case atStart => exact ⟨skipR a0 0, [], skip_le a0 0, .inl ⟨rfl, rfl⟩, rfl, by decide, HH, HI1, HB1, ⟨Kd.R_nil _ _ _ _ _⟩⟩
        case round =>
          clear HH HI1 HB1
          obtain ⟨p, xs, hp, hform, hkq, hxl, HA, HI, HB, HO⟩ := hrel
          cases gk with
          | zero => omega
          | succ k1 =>
            have H := HA.out
            clear HA
            simp only [readL] at H
            by_cases hc : p < a0.size ∨ xs ≠ []
            · rw [if_pos hc] at H
              have HA := Aside0.mk H
              clear H
              by_cases hps : p < a0.size
              · clear hc
                obtain ⟨⟨nm, v, er, p2⟩, hbp⟩ : ∃ b, bindP a0 p = b := ⟨_, rfl⟩
                have hp2 := bindP_le a0 p hp
                have HBP := env_reader_bind.calls g a0 p w
                rw [hbp] at HA HBP hp2
                simp only at HA HBP hp2
                clear hbp
                have hc1 := cellS74_1 HI.out.1
                go_wp2_with fail
                clear hc1
                refine (HBP _ hls hp HI.out HB.out HRGL.out HRGU.out).mono ?_
                rintro e w5 ⟨rfl, hI, hB, hK⟩
                have HI5 := Aside0.mk hI
                have HB5 := Aside0.mk hB
                have HO5 : Aside0 (Kd.R k63 63 w5 w.heap.size (fun _ => True) u2 xs) := ⟨Kd.R_mono (Kd.R_keep (IsS74.apart HI.out HO.out (by decide)) hK (fun k h => h.2)) (fun k h => h.1)⟩
                clear hI hB hK HI HB HO HBP
                by_cases her : er = 0
                · subst her
                  rw [if_pos rfl] at HA
                  have hxs1 : (xs ++ [(⟨nm, v⟩ : S63)]).length = xs.length + 1 := by simp
                  go_upto_region 12 with (fail)
                  have hbx : (w5.alloc (Obj.cells #[.string nm, .int .i64 v] 63)).heap[w5.heap.size]? = some (Obj.cells #[.string nm, .int .i64 v] 63 (0, 0)) := by simpa using heap_alloc_new w5 _
                  replace HI5 := Aside0.mk (HI5.out.alloc (Obj.cells #[.string nm, .int .i64 v] 63))
                  replace HB5 := Aside0.mk (below_alloc HB5.out (Obj.cells #[.string nm, .int .i64 v] 63))
                  replace HO5 := Aside0.mk (Kd.R_alloc HO5.out (Obj.cells #[.string nm, .int .i64 v] 63))
                  have hx0 := (blk_cell hbx 0).trans rfl
                  have hx1 := (blk_cell hbx 1).trans rfl
                  clear hbx
                  generalize w5.alloc (Obj.cells #[.string nm, .int .i64 v] 63) = W5 at HI5 HB5 HO5 hx0 hx1 ⊢
                  generalize w5.heap.size = bx at hx0 hx1 ⊢
                  by_cases hpe : p2 = a0.size
                  · have H := HA.out
                    rw [if_pos hpe] at H
                    simp only [Prod.mk.injEq] at H
                    obtain ⟨rfl, rfl, rfl⟩ := H
                    clear HA
                    have hpb : ((p2 : Int) == (a0.size : Int)) = true := beq_iff_eq.2 (by omega)
                    clear hpe
                    go_wp2_with (first | ((with_reducible refine gate_builtin (b := .append) (xs := #[.tmp 51, .tmp 53]) rfl ?_); at_builtin; refine Kd.R_append k63 (w0 := w) w.heap.size rfl (.tmp 51) (.tmp 53) 22 63 (.agg #[(.string ⟨#[]⟩), (.int .i64 0)]) 24 rfl Tryd.underlying22 info63 rfl (by decide) (by omega) u2 xs (⟨nm, v⟩ : S63) [.string nm, .int .i64 v] (fun _ => True) (fun _ => False) rfl rfl ?aP (fun _ hk => hk.elim) ?aF ?aO ?aB ?aS ?aL ?_; (case aP => exact k63_mkM _ _ _ (⟨nm, v⟩ : S63)); (case aB => exact HB5.out); (case aF => exact (fun _ _ => trivial)); (case aO => exact HO5.out); (case aS => exact HB5.out.size); (case aL => omega); intro v1 w6 ho hb hg hat; have HI6 := Aside0.mk (IsS74.grown HI5.out hg (IsS74.own_ne HI5.out HO5.out (by decide))); have HB6 := Aside0.mk hb; have HO6 := Aside0.mk ho; clear hb ho hg hat; have hc1 := cellS74_1 HI6.out.1; have hf1 : w6.frozen? ⟨g, 1, none⟩ = false := blk_frozen HI6.out.1 1; obtain ⟨go6, co6, ev6, _, _, _⟩ := Kd.R_form HO6.out (by simp); subst ev6; rw [hxs1]))
                    go_ret3
                    exact ⟨_, rfl, by have h1 := HO6.out; rw [hxs1] at h1; exact h1, HB6.out⟩
                  · have H := HA.out
                    rw [if_neg hpe] at H
                    have HA2 := Aside0.mk H
                    clear H HA
                    have hpb : ((p2 : Int) == (a0.size : Int)) = false := beq_eq_false_iff_ne.2 (by omega)
                    have hp2s : p2 < a0.size := by omega
                    have hbt : ∀ h : p2 < a0.size, ((a0[p2]'h).toNat : Int) = bt a0 p2 := fun h => bt_at a0 p2 (by simpa using h)
                    clear hpe
                    by_cases h44 : bt a0 p2 = 44
                    · have H := HA2.out
                      rw [if_pos h44] at H
                      have HA3 := Aside0.mk H
                      clear H HA2
                      have h44b : (bt a0 p2 != 44) = false := bne_eq_false_iff_eq.2 h44
                      clear h44
                      by_cases h64 : xs.length + 1 = 64
                      · have H := HA3.out
                        rw [if_pos h64] at H
                        simp only [Prod.mk.injEq] at H
                        obtain ⟨rfl, rfl, rfl⟩ := H
                        clear HA3
                        have h64b : (((xs.length : Int) + 1) == 64) = true := beq_iff_eq.2 (by omega)
                        have h64c : (((xs.length + 1 : Nat) : Int) == 64) = true := beq_iff_eq.2 (by omega)
                        clear h64
                        go_wp2_with (first | ((with_reducible refine gate_builtin (b := .append) (xs := #[.tmp 51, .tmp 53]) rfl ?_); at_builtin; refine Kd.R_append k63 (w0 := w) w.heap.size rfl (.tmp 51) (.tmp 53) 22 63 (.agg #[(.string ⟨#[]⟩), (.int .i64 0)]) 24 rfl Tryd.underlying22 info63 rfl (by decide) (by omega) u2 xs (⟨nm, v⟩ : S63) [.string nm, .int .i64 v] (fun _ => True) (fun _ => False) rfl rfl ?aP (fun _ hk => hk.elim) ?aF ?aO ?aB ?aS ?aL ?_; (case aP => exact k63_mkM _ _ _ (⟨nm, v⟩ : S63)); (case aB => exact HB5.out); (case aF => exact (fun _ _ => trivial)); (case aO => exact HO5.out); (case aS => exact HB5.out.size); (case aL => omega); intro v1 w6 ho hb hg hat; have HI6 := Aside0.mk (IsS74.grown HI5.out hg (IsS74.own_ne HI5.out HO5.out (by decide))); have HB6 := Aside0.mk hb; have HO6 := Aside0.mk ho; clear hb ho hg hat; have hc1 := cellS74_1 HI6.out.1; have hf1 : w6.frozen? ⟨g, 1, none⟩ = false := blk_frozen HI6.out.1 1; obtain ⟨go6, co6, ev6, _, _, _⟩ := Kd.R_form HO6.out (by simp); subst ev6; rw [hxs1]))
                        go_region_held3 (fun W_ => W_.cell? ⟨g, 1, none⟩ = some (.int .i64 p2)) (go_keep) (fail)
                        go_wp2_with fail
                        go_ret3
                        exact ⟨_, rfl, Kd.R_nil _ _ _ _ _, below_drew1 HB6.out⟩
                      · have H := HA3.out
                        rw [if_neg h64] at H
                        have HA4 := Aside0.mk H
                        clear HA3 H
                        have h64b : (((xs.length : Int) + 1) == 64) = false := beq_eq_false_iff_ne.2 (by omega)
                        have h64c : (((xs.length + 1 : Nat) : Int) == 64) = false := beq_eq_false_iff_ne.2 (by omega)
                        go_wp2_with (first | ((with_reducible refine gate_builtin (b := .append) (xs := #[.tmp 51, .tmp 53]) rfl ?_); at_builtin; refine Kd.R_append k63 (w0 := w) w.heap.size rfl (.tmp 51) (.tmp 53) 22 63 (.agg #[(.string ⟨#[]⟩), (.int .i64 0)]) 24 rfl Tryd.underlying22 info63 rfl (by decide) (by omega) u2 xs (⟨nm, v⟩ : S63) [.string nm, .int .i64 v] (fun _ => True) (fun _ => False) rfl rfl ?aP (fun _ hk => hk.elim) ?aF ?aO ?aB ?aS ?aL ?_; (case aP => exact k63_mkM _ _ _ (⟨nm, v⟩ : S63)); (case aB => exact HB5.out); (case aF => exact (fun _ _ => trivial)); (case aO => exact HO5.out); (case aS => exact HB5.out.size); (case aL => omega); intro v1 w6 ho hb hg hat; have HI6 := Aside0.mk (IsS74.grown HI5.out hg (IsS74.own_ne HI5.out HO5.out (by decide))); have HB6 := Aside0.mk hb; have HO6 := Aside0.mk ho; clear hb ho hg hat; have hc1 := cellS74_1 HI6.out.1; have hf1 : w6.frozen? ⟨g, 1, none⟩ = false := blk_frozen HI6.out.1 1; obtain ⟨go6, co6, ev6, _, _, _⟩ := Kd.R_form HO6.out (by simp); subst ev6; rw [hxs1]))
                        have HI7 : Aside0 (IsS74 w (w6.setCell ⟨g, 1, none⟩ (.int .i64 ((p2 : Int) + 1))) g a0 ((p2 + 1 : Nat) : Int)) := ⟨(show (p2 : Int) + 1 = ((p2 + 1 : Nat) : Int) from by omega) ▸ IsS74.set_1 HI6.out _⟩
                        have HB7 := Aside0.mk (HB6.out.setCell (p := ⟨g, 1, none⟩) HI6.out.2 (.int .i64 ((p2 : Int) + 1)))
                        have HO7 : Aside0 (Kd.R k63 63 (w6.setCell ⟨g, 1, none⟩ (.int .i64 ((p2 : Int) + 1))) w.heap.size (fun _ => True) (.slice (some ⟨go6, 0, none⟩) (xs.length + 1) co6) (xs ++ [(⟨nm, v⟩ : S63)])) := ⟨by
                          have h1 := HO6.out
                          rw [hxs1] at h1
                          exact Kd.R_mono (Kd.R_far (IsS74.apart HI6.out h1 (by decide)) (p := ⟨g, 1, none⟩) (fun k h => h.2) _) (fun k h => h.1)⟩
                        clear hc1 hf1
                        refine (env_reader_skip.calls g a0 (p2 + 1) w _ hs (by omega) HI7.out HB7.out HRGL.out).mono ?_
                        rintro e w8 ⟨rfl, hI, hB, hK⟩
                        go_wp2_with fail
                        go_roundg k1
                        case measure => omega
                        case rel => exact ⟨skipR a0 (p2 + 1), xs ++ [(⟨nm, v⟩ : S63)], skip_le _ _, .inr (by simp), by rw [hxs1]; omega, by rw [hxs1]; omega, HA4, ⟨hI⟩, ⟨hB⟩, ⟨Kd.R_mono (Kd.R_keep (IsS74.apart HI7.out HO7.out (by decide)) hK (fun k h => h.2)) (fun k h => h.1)⟩⟩
                    · have H := HA2.out
                      rw [if_neg h44] at H
                      simp only [Prod.mk.injEq] at H
                      obtain ⟨rfl, rfl, rfl⟩ := H
                      clear HA2
                      have h44b : (bt a0 p2 != 44) = true := bne_iff_ne.2 h44
                      clear h44
                      go_wp2_with (first | ((with_reducible refine gate_builtin (b := .append) (xs := #[.tmp 51, .tmp 53]) rfl ?_); at_builtin; refine Kd.R_append k63 (w0 := w) w.heap.size rfl (.tmp 51) (.tmp 53) 22 63 (.agg #[(.string ⟨#[]⟩), (.int .i64 0)]) 24 rfl Tryd.underlying22 info63 rfl (by decide) (by omega) u2 xs (⟨nm, v⟩ : S63) [.string nm, .int .i64 v] (fun _ => True) (fun _ => False) rfl rfl ?aP (fun _ hk => hk.elim) ?aF ?aO ?aB ?aS ?aL ?_; (case aP => exact k63_mkM _ _ _ (⟨nm, v⟩ : S63)); (case aB => exact HB5.out); (case aF => exact (fun _ _ => trivial)); (case aO => exact HO5.out); (case aS => exact HB5.out.size); (case aL => omega); intro v1 w6 ho hb hg hat; have HI6 := Aside0.mk (IsS74.grown HI5.out hg (IsS74.own_ne HI5.out HO5.out (by decide))); have HB6 := Aside0.mk hb; have HO6 := Aside0.mk ho; clear hb ho hg hat; have hc1 := cellS74_1 HI6.out.1; have hf1 : w6.frozen? ⟨g, 1, none⟩ = false := blk_frozen HI6.out.1 1; obtain ⟨go6, co6, ev6, _, _, _⟩ := Kd.R_form HO6.out (by simp); subst ev6; rw [hxs1]))
                      go_region_held3 (fun W_ => W_.cell? ⟨g, 1, none⟩ = some (.int .i64 p2)) (go_keep) (fail)
                      go_wp2_with fail
                      go_ret3
                      exact ⟨_, rfl, Kd.R_nil _ _ _ _ _, below_drew1 HB6.out⟩
                · have heb : (er != 0) = true := bne_iff_ne.2 her
                  have H := HA.out
                  rw [if_neg her] at H
                  simp only [Prod.mk.injEq] at H
                  obtain ⟨rfl, rfl, rfl⟩ := H
                  clear HA her
                  go_wp2_with fail
                  have HI6 := Aside0.mk (HI5.out.alloc (Obj.cells #[.string nm, .int .i64 v] 63))
                  have hc1 := cellS74_1 HI6.out.1
                  go_region_held3 (fun W_ => W_.cell? ⟨g, 1, none⟩ = some (.int .i64 p2)) (go_keep) (fail)
                  go_wp2_with fail
                  go_ret3
                  exact ⟨_, rfl, Kd.R_nil _ _ _ _ _, below_drew1 (below_alloc HB5.out _)⟩
              · have hxn : xs ≠ [] := by
                  rcases hc with h | h
                  · exact absurd h hps
                  · exact h
                have hxp : 0 < xs.length := List.length_pos_iff.2 hxn
                obtain ⟨go5, co5, ev5, _, _, _⟩ := Kd.R_form HO.out hxp
                subst ev5
                have hpl : decide ((p : Int) < (a0.size : Int)) = false := decide_eq_false (by omega)
                clear hc hform
                obtain ⟨⟨nm, v, er, p2⟩, hbp⟩ : ∃ b, bindP a0 p = b := ⟨_, rfl⟩
                have hp2 := bindP_le a0 p hp
                have HBP := env_reader_bind.calls g a0 p w
                rw [hbp] at HA HBP hp2
                simp only at HA HBP hp2
                clear hbp
                have hc1 := cellS74_1 HI.out.1
                go_wp2_with fail
                clear hc1
                refine (HBP _ hls hp HI.out HB.out HRGL.out HRGU.out).mono ?_
                rintro e w5 ⟨rfl, hI, hB, hK⟩
                have HI5 := Aside0.mk hI
                have HB5 := Aside0.mk hB
                have HO5 : Aside0 (Kd.R k63 63 w5 w.heap.size (fun _ => True) (.slice (some ⟨go5, 0, none⟩) xs.length co5) xs) := ⟨Kd.R_mono (Kd.R_keep (IsS74.apart HI.out HO.out (by decide)) hK (fun k h => h.2)) (fun k h => h.1)⟩
                clear hI hB hK HI HB HO HBP
                by_cases her : er = 0
                · subst her
                  rw [if_pos rfl] at HA
                  have hxs1 : (xs ++ [(⟨nm, v⟩ : S63)]).length = xs.length + 1 := by simp
                  go_upto_region 12 with (fail)
                  have hbx : (w5.alloc (Obj.cells #[.string nm, .int .i64 v] 63)).heap[w5.heap.size]? = some (Obj.cells #[.string nm, .int .i64 v] 63 (0, 0)) := by simpa using heap_alloc_new w5 _
                  replace HI5 := Aside0.mk (HI5.out.alloc (Obj.cells #[.string nm, .int .i64 v] 63))
                  replace HB5 := Aside0.mk (below_alloc HB5.out (Obj.cells #[.string nm, .int .i64 v] 63))
                  replace HO5 := Aside0.mk (Kd.R_alloc HO5.out (Obj.cells #[.string nm, .int .i64 v] 63))
                  have hx0 := (blk_cell hbx 0).trans rfl
                  have hx1 := (blk_cell hbx 1).trans rfl
                  clear hbx
                  generalize w5.alloc (Obj.cells #[.string nm, .int .i64 v] 63) = W5 at HI5 HB5 HO5 hx0 hx1 ⊢
                  generalize w5.heap.size = bx at hx0 hx1 ⊢
                  by_cases hpe : p2 = a0.size
                  · have H := HA.out
                    rw [if_pos hpe] at H
                    simp only [Prod.mk.injEq] at H
                    obtain ⟨rfl, rfl, rfl⟩ := H
                    clear HA
                    have hpb : ((p2 : Int) == (a0.size : Int)) = true := beq_iff_eq.2 (by omega)
                    clear hpe
                    go_wp2_with (first | ((with_reducible refine gate_builtin (b := .append) (xs := #[.tmp 51, .tmp 53]) rfl ?_); at_builtin; refine Kd.R_append k63 (w0 := w) w.heap.size rfl (.tmp 51) (.tmp 53) 22 63 (.agg #[(.string ⟨#[]⟩), (.int .i64 0)]) 24 rfl Tryd.underlying22 info63 rfl (by decide) (by omega) (.slice (some ⟨go5, 0, none⟩) xs.length co5) xs (⟨nm, v⟩ : S63) [.string nm, .int .i64 v] (fun _ => True) (fun _ => False) rfl rfl ?aP (fun _ hk => hk.elim) ?aF ?aO ?aB ?aS ?aL ?_; (case aP => exact k63_mkM _ _ _ (⟨nm, v⟩ : S63)); (case aB => exact HB5.out); (case aF => exact (fun _ _ => trivial)); (case aO => exact HO5.out); (case aS => exact HB5.out.size); (case aL => omega); intro v1 w6 ho hb hg hat; have HI6 := Aside0.mk (IsS74.grown HI5.out hg (IsS74.own_ne HI5.out HO5.out (by decide))); have HB6 := Aside0.mk hb; have HO6 := Aside0.mk ho; clear hb ho hg hat; have hc1 := cellS74_1 HI6.out.1; have hf1 : w6.frozen? ⟨g, 1, none⟩ = false := blk_frozen HI6.out.1 1; obtain ⟨go6, co6, ev6, _, _, _⟩ := Kd.R_form HO6.out (by simp); subst ev6; rw [hxs1]))
                    go_ret3
                    exact ⟨_, rfl, by have h1 := HO6.out; rw [hxs1] at h1; exact h1, HB6.out⟩
                  · have H := HA.out
                    rw [if_neg hpe] at H
                    have HA2 := Aside0.mk H
                    clear H HA
                    have hpb : ((p2 : Int) == (a0.size : Int)) = false := beq_eq_false_iff_ne.2 (by omega)
                    have hp2s : p2 < a0.size := by omega
                    have hbt : ∀ h : p2 < a0.size, ((a0[p2]'h).toNat : Int) = bt a0 p2 := fun h => bt_at a0 p2 (by simpa using h)
                    clear hpe
                    by_cases h44 : bt a0 p2 = 44
                    · have H := HA2.out
                      rw [if_pos h44] at H
                      have HA3 := Aside0.mk H
                      clear H HA2
                      have h44b : (bt a0 p2 != 44) = false := bne_eq_false_iff_eq.2 h44
                      clear h44
                      by_cases h64 : xs.length + 1 = 64
                      · have H := HA3.out
                        rw [if_pos h64] at H
                        simp only [Prod.mk.injEq] at H
                        obtain ⟨rfl, rfl, rfl⟩ := H
                        clear HA3
                        have h64b : (((xs.length : Int) + 1) == 64) = true := beq_iff_eq.2 (by omega)
                        have h64c : (((xs.length + 1 : Nat) : Int) == 64) = true := beq_iff_eq.2 (by omega)
                        clear h64
                        go_wp2_with (first | ((with_reducible refine gate_builtin (b := .append) (xs := #[.tmp 51, .tmp 53]) rfl ?_); at_builtin; refine Kd.R_append k63 (w0 := w) w.heap.size rfl (.tmp 51) (.tmp 53) 22 63 (.agg #[(.string ⟨#[]⟩), (.int .i64 0)]) 24 rfl Tryd.underlying22 info63 rfl (by decide) (by omega) (.slice (some ⟨go5, 0, none⟩) xs.length co5) xs (⟨nm, v⟩ : S63) [.string nm, .int .i64 v] (fun _ => True) (fun _ => False) rfl rfl ?aP (fun _ hk => hk.elim) ?aF ?aO ?aB ?aS ?aL ?_; (case aP => exact k63_mkM _ _ _ (⟨nm, v⟩ : S63)); (case aB => exact HB5.out); (case aF => exact (fun _ _ => trivial)); (case aO => exact HO5.out); (case aS => exact HB5.out.size); (case aL => omega); intro v1 w6 ho hb hg hat; have HI6 := Aside0.mk (IsS74.grown HI5.out hg (IsS74.own_ne HI5.out HO5.out (by decide))); have HB6 := Aside0.mk hb; have HO6 := Aside0.mk ho; clear hb ho hg hat; have hc1 := cellS74_1 HI6.out.1; have hf1 : w6.frozen? ⟨g, 1, none⟩ = false := blk_frozen HI6.out.1 1; obtain ⟨go6, co6, ev6, _, _, _⟩ := Kd.R_form HO6.out (by simp); subst ev6; rw [hxs1]))
                        go_region_held3 (fun W_ => W_.cell? ⟨g, 1, none⟩ = some (.int .i64 p2)) (go_keep) (fail)
                        go_wp2_with fail
                        go_ret3
                        exact ⟨_, rfl, Kd.R_nil _ _ _ _ _, below_drew1 HB6.out⟩
                      · have H := HA3.out
                        rw [if_neg h64] at H
                        have HA4 := Aside0.mk H
                        clear HA3 H
                        have h64b : (((xs.length : Int) + 1) == 64) = false := beq_eq_false_iff_ne.2 (by omega)
                        have h64c : (((xs.length + 1 : Nat) : Int) == 64) = false := beq_eq_false_iff_ne.2 (by omega)
                        go_wp2_with (first | ((with_reducible refine gate_builtin (b := .append) (xs := #[.tmp 51, .tmp 53]) rfl ?_); at_builtin; refine Kd.R_append k63 (w0 := w) w.heap.size rfl (.tmp 51) (.tmp 53) 22 63 (.agg #[(.string ⟨#[]⟩), (.int .i64 0)]) 24 rfl Tryd.underlying22 info63 rfl (by decide) (by omega) (.slice (some ⟨go5, 0, none⟩) xs.length co5) xs (⟨nm, v⟩ : S63) [.string nm, .int .i64 v] (fun _ => True) (fun _ => False) rfl rfl ?aP (fun _ hk => hk.elim) ?aF ?aO ?aB ?aS ?aL ?_; (case aP => exact k63_mkM _ _ _ (⟨nm, v⟩ : S63)); (case aB => exact HB5.out); (case aF => exact (fun _ _ => trivial)); (case aO => exact HO5.out); (case aS => exact HB5.out.size); (case aL => omega); intro v1 w6 ho hb hg hat; have HI6 := Aside0.mk (IsS74.grown HI5.out hg (IsS74.own_ne HI5.out HO5.out (by decide))); have HB6 := Aside0.mk hb; have HO6 := Aside0.mk ho; clear hb ho hg hat; have hc1 := cellS74_1 HI6.out.1; have hf1 : w6.frozen? ⟨g, 1, none⟩ = false := blk_frozen HI6.out.1 1; obtain ⟨go6, co6, ev6, _, _, _⟩ := Kd.R_form HO6.out (by simp); subst ev6; rw [hxs1]))
                        have HI7 : Aside0 (IsS74 w (w6.setCell ⟨g, 1, none⟩ (.int .i64 ((p2 : Int) + 1))) g a0 ((p2 + 1 : Nat) : Int)) := ⟨(show (p2 : Int) + 1 = ((p2 + 1 : Nat) : Int) from by omega) ▸ IsS74.set_1 HI6.out _⟩
                        have HB7 := Aside0.mk (HB6.out.setCell (p := ⟨g, 1, none⟩) HI6.out.2 (.int .i64 ((p2 : Int) + 1)))
                        have HO7 : Aside0 (Kd.R k63 63 (w6.setCell ⟨g, 1, none⟩ (.int .i64 ((p2 : Int) + 1))) w.heap.size (fun _ => True) (.slice (some ⟨go6, 0, none⟩) (xs.length + 1) co6) (xs ++ [(⟨nm, v⟩ : S63)])) := ⟨by
                          have h1 := HO6.out
                          rw [hxs1] at h1
                          exact Kd.R_mono (Kd.R_far (IsS74.apart HI6.out h1 (by decide)) (p := ⟨g, 1, none⟩) (fun k h => h.2) _) (fun k h => h.1)⟩
                        clear hc1 hf1
                        refine (env_reader_skip.calls g a0 (p2 + 1) w _ hs (by omega) HI7.out HB7.out HRGL.out).mono ?_
                        rintro e w8 ⟨rfl, hI, hB, hK⟩
                        go_wp2_with fail
                        go_roundg k1
                        case measure => omega
                        case rel => exact ⟨skipR a0 (p2 + 1), xs ++ [(⟨nm, v⟩ : S63)], skip_le _ _, .inr (by simp), by rw [hxs1]; omega, by rw [hxs1]; omega, HA4, ⟨hI⟩, ⟨hB⟩, ⟨Kd.R_mono (Kd.R_keep (IsS74.apart HI7.out HO7.out (by decide)) hK (fun k h => h.2)) (fun k h => h.1)⟩⟩
                    · have H := HA2.out
                      rw [if_neg h44] at H
                      simp only [Prod.mk.injEq] at H
                      obtain ⟨rfl, rfl, rfl⟩ := H
                      clear HA2
                      have h44b : (bt a0 p2 != 44) = true := bne_iff_ne.2 h44
                      clear h44
                      go_wp2_with (first | ((with_reducible refine gate_builtin (b := .append) (xs := #[.tmp 51, .tmp 53]) rfl ?_); at_builtin; refine Kd.R_append k63 (w0 := w) w.heap.size rfl (.tmp 51) (.tmp 53) 22 63 (.agg #[(.string ⟨#[]⟩), (.int .i64 0)]) 24 rfl Tryd.underlying22 info63 rfl (by decide) (by omega) (.slice (some ⟨go5, 0, none⟩) xs.length co5) xs (⟨nm, v⟩ : S63) [.string nm, .int .i64 v] (fun _ => True) (fun _ => False) rfl rfl ?aP (fun _ hk => hk.elim) ?aF ?aO ?aB ?aS ?aL ?_; (case aP => exact k63_mkM _ _ _ (⟨nm, v⟩ : S63)); (case aB => exact HB5.out); (case aF => exact (fun _ _ => trivial)); (case aO => exact HO5.out); (case aS => exact HB5.out.size); (case aL => omega); intro v1 w6 ho hb hg hat; have HI6 := Aside0.mk (IsS74.grown HI5.out hg (IsS74.own_ne HI5.out HO5.out (by decide))); have HB6 := Aside0.mk hb; have HO6 := Aside0.mk ho; clear hb ho hg hat; have hc1 := cellS74_1 HI6.out.1; have hf1 : w6.frozen? ⟨g, 1, none⟩ = false := blk_frozen HI6.out.1 1; obtain ⟨go6, co6, ev6, _, _, _⟩ := Kd.R_form HO6.out (by simp); subst ev6; rw [hxs1]))
                      go_region_held3 (fun W_ => W_.cell? ⟨g, 1, none⟩ = some (.int .i64 p2)) (go_keep) (fail)
                      go_wp2_with fail
                      go_ret3
                      exact ⟨_, rfl, Kd.R_nil _ _ _ _ _, below_drew1 HB6.out⟩
                · have heb : (er != 0) = true := bne_iff_ne.2 her
                  have H := HA.out
                  rw [if_neg her] at H
                  simp only [Prod.mk.injEq] at H
                  obtain ⟨rfl, rfl, rfl⟩ := H
                  clear HA her
                  go_wp2_with fail
                  have HI6 := Aside0.mk (HI5.out.alloc (Obj.cells #[.string nm, .int .i64 v] 63))
                  have hc1 := cellS74_1 HI6.out.1
                  go_region_held3 (fun W_ => W_.cell? ⟨g, 1, none⟩ = some (.int .i64 p2)) (go_keep) (fail)
                  go_wp2_with fail
                  go_ret3
                  exact ⟨_, rfl, Kd.R_nil _ _ _ _ _, below_drew1 (below_alloc HB5.out _)⟩
            · rw [if_neg hc] at H
              have hx0 : xs = [] := by
                cases xs with
                | nil => rfl
                | cons a l => exact absurd (.inr (by simp)) hc
              subst hx0
              simp only [Prod.mk.injEq] at H
              obtain ⟨rfl, rfl, rfl⟩ := H
              have hpl : decide ((p : Int) < (a0.size : Int)) = false := decide_eq_false (fun h => hc (.inl (by omega)))
              have hpn : ¬ p < a0.size := fun h => hc (.inl h)
              have ev : u2 = .slice none 0 0 := by
                rcases hform with h | h
                · exact h.2
                · exact absurd rfl h
              subst ev
              clear hc hform
              have hc1 := cellS74_1 HI.out.1
              go_wp2_with fail
              go_ret3
              exact ⟨_, rfl, Kd.R_nil _ _ _ _ _, HB.out⟩
      · rw [if_neg hq2] at h
        simp only [Prod.mk.injEq] at h
        obtain ⟨rfl, rfl, rfl⟩ := h
        have hqb : (q2 != 0) = true := bne_iff_ne.2 hq2
        clear hq2
        go_enter Tryd.func20, Tryd.ntmps20
        go_wp2_with fail
        refine (runes_Check.calls a0 q1 q2 _ HCK.out).mono ?_
        rintro e w1 ⟨rfl, hb1⟩
        go_wp2_with fail
        go_ret3
        exact ⟨_, rfl, Kd.R_nil _ _ _ _ _, hb1⟩
  · rw [if_neg hs] at h
    cases h
end Go.Proofs.YtadlbegecgpaaaaDoor.S
