-- Printed by a program of this session (wip/mkprint.py: the kit's printer, changed). Not trusted: Lean checks it.
import Derived.Test.YtadlbegecgpaaaaDoorG0
import Derived.Test.YtadlbegecgpaaaaDoorA1
import Derived.Test.YtadlbegecgpaaaaDoorB1
import Derived.Test.YtadlbegecgpaaaaDoorHB
import Derived.Test.YtadlbegecgpaaaaDoorHC
namespace Go.Proofs.YtadlbegecgpaaaaDoor.S
open Go.RowKit Go.Proofs.YtadlbegecgpaaaaDoorW.PrintWords Go.Proofs.YtadlbegecgpaaaaDoorW.PrintLast Go.Proofs.YtadlbegecgpaaaaDoorW.PrintMore
attribute [local go_sem] max2_int min2_int max_two min_two max_three min_three max_four min_four   -- for this text's walks alone
set_option linter.unusedVariables false
set_option linter.unusedSimpArgs false

/-! ### sorrelref01_Check: function 49 -/
def sorrelref01_Check.l0 : Nat → ByteArray → Int → Option (Int × Int)
  | 0, _, _ => none
  | k + 1, x0, x4 => if x4 < (x0.size : Int) then ((sorrelref01_Width.f x0 x4).bind fun t101 => (if t101 = 0 then (some (x4, 4)) else (sorrelref01_Check.l0 k x0 (wrap64 (x4 + t101))))) else (some (0, 0))
def sorrelref01_Check.f (k : Nat) (a0 : ByteArray) : Option (Int × Int) := sorrelref01_Check.l0 k a0 0
theorem sorrelref01_Check.mono_l : ∀ k, (∀ y0 y1, LeO (sorrelref01_Check.l0 k y0 y1) (sorrelref01_Check.l0 (k + 1) y0 y1))
  | 0 => fun _ _ r h => by simp [sorrelref01_Check.l0] at h
  | k + 1 => by
    have ih0 := sorrelref01_Check.mono_l k
    · intro y0 y1
      unfold sorrelref01_Check.l0
      repeat' first
      | (with_reducible exact ih0 _ _)
      | (with_reducible exact LeO.refl _)
      | (with_reducible exact LeO.none _)
      | (with_reducible refine LeO.ite ?_ ?_)
      | (with_reducible refine LeO.bind ?_ (fun _ => ?_))
      | exact ih0 _ _
      | exact LeO.none _
      | refine LeO.ite ?_ ?_
      | refine LeO.bind ?_ (fun _ => ?_)
theorem sorrelref01_Check.mono : ∀ a0 k, LeO (sorrelref01_Check.f k a0) (sorrelref01_Check.f (k + 1) a0) := by
  intro a0 k
  have ih0 := sorrelref01_Check.mono_l k
  unfold sorrelref01_Check.f
  repeat' first
      | (with_reducible exact ih0 _ _)
      | (with_reducible exact LeO.refl _)
      | (with_reducible exact LeO.none _)
      | (with_reducible refine LeO.ite ?_ ?_)
      | (with_reducible refine LeO.bind ?_ (fun _ => ?_))
      | exact ih0 _ _
      | exact LeO.none _
      | refine LeO.ite ?_ ?_
      | refine LeO.bind ?_ (fun _ => ?_)
set_option maxHeartbeats 8000000 in
set_option maxRecDepth 100000 in
theorem sorrelref01_Check.calls (k : Nat) (a0 : ByteArray) (r1 : Int) (r2 : Int) (w : World) (h : sorrelref01_Check.f k a0 = some (r1, r2)) :
    Calls Tryd.prog 49 #[.string a0] w fun e w' => e = .returned (.tuple #[.int .i64 r1, .int .i64 r2]) ∧ Below w.heap.size w w' := by
  have HB := Aside0.mk (Below.refl w.heap.size w)
  have H : (sorrelref01_Check.l0 k a0 0) = some (r1, r2) := h
  clear h
  have H' := Aside0.mk H
  clear H
  go_enter Tryd.func49, Tryd.ntmps49
  go_wp2
  go_loopg [4] k (fun kq v4 w' => ∃ (x4_1 : Int), v4 = .int .i64 x4_1 ∧ Aside0 (sorrelref01_Check.l0 kq a0 x4_1 = some (r1, r2)) ∧ Aside0 (kq ≤ k) ∧ Aside0 (Below w.heap.size w w'))
  case atStart => exact ⟨(0), (by first | rfl | (simp; done) | (simp [*]; done)), H', ⟨Nat.le_refl _⟩, ⟨by repeat (first | (with_reducible first | exact HB.out | apply below_alloc | apply pw_below_drewN | apply below_drew1) | exact HB.out)⟩⟩
  case round =>
    clear H'
    obtain ⟨x4_1, rfl, HA, HK1, HB⟩ := hrel
    cases gk with
    | zero => exact absurd HA.out (by simp [sorrelref01_Check.l0])
    | succ k1 =>
      have H := HA.out
      clear HA
      simp only [sorrelref01_Check.l0] at H
      by_cases c2 : x4_1 < (a0.size : Int)
      · rw [if_pos c2] at H
        have c2b0 : decide (x4_1 < (a0.size : Int)) = true := decide_eq_true c2
        clear c2
        replace H := Option.bind_eq_some_iff.mp H
        obtain ⟨t101, A30, H⟩ := H
        replace H : (if t101 = 0 then (some (x4_1, 4)) else (sorrelref01_Check.l0 k1 a0 (wrap64 (x4_1 + t101)))) = some (r1, r2) := H
        have A3 := Aside0.mk A30
        clear A30
        by_cases c4 : t101 = 0
        · rw [if_pos c4] at H
          have c4b0 : (t101 == 0) = true := beq_iff_eq.mpr c4
          have c4b1 : (t101 != 0) = false := bne_eq_false_iff_eq.mpr c4
          clear c4
          simp only [Option.some.injEq, Prod.mk.injEq] at H
          obtain ⟨rfl, rfl⟩ := H
          go_wp2_with (first | ((with_reducible refine gate_callee (f := 45) rfl ?_); refine goesL_ (some 12) rfl rfl Tryd.func45 (by kernel_rfl) rfl #[.string a0, .int .i64 x4_1] rfl (by (try simp only [List.map_toArray, List.map_cons, List.map_nil]); first | done | rfl | (simp only [List.length_drop, List.length_take]; rfl)) ?_; (with_reducible refine (sorrelref01_Width.calls a0 x4_1 t101 _ A3.out).mono ?_); rintro e w5 ⟨rfl, hb⟩; refine ⟨_, rfl, ?_⟩; have n0_ := Aside0.mk (below_step (by repeat (first | (with_reducible first | exact HB.out | apply below_alloc | apply pw_below_drewN | apply below_drew1) | exact HB.out)) hb); clear HB; have HB := n0_; clear n0_; (try clear hb); (try clear hb2); (try clear hk); (try clear hi)))
          go_ret2
          exact ⟨by first | rfl | (simp [errW_none, errW_some] <;> rfl) | (simp [*, errW_none, errW_some] <;> rfl), by repeat (first | (with_reducible first | exact HB.out | apply below_alloc | apply pw_below_drewN | apply below_drew1) | exact HB.out)⟩
        · rw [if_neg c4] at H
          have c4b0 : (t101 == 0) = false := beq_eq_false_iff_ne.mpr c4
          have c4b1 : (t101 != 0) = true := bne_iff_ne.mpr c4
          have H' := Aside0.mk H
          clear H
          go_wp2_with (first | ((with_reducible refine gate_callee (f := 45) rfl ?_); refine goesL_ (some 12) rfl rfl Tryd.func45 (by kernel_rfl) rfl #[.string a0, .int .i64 x4_1] rfl (by (try simp only [List.map_toArray, List.map_cons, List.map_nil]); first | done | rfl | (simp only [List.length_drop, List.length_take]; rfl)) ?_; (with_reducible refine (sorrelref01_Width.calls a0 x4_1 t101 _ A3.out).mono ?_); rintro e w6 ⟨rfl, hb⟩; refine ⟨_, rfl, ?_⟩; have n0_ := Aside0.mk (below_step (by repeat (first | (with_reducible first | exact HB.out | apply below_alloc | apply pw_below_drewN | apply below_drew1) | exact HB.out)) hb); clear HB; have HB := n0_; clear n0_; (try clear hb); (try clear hb2); (try clear hk); (try clear hi)))
          go_roundg k1
          case measure => have := HK1.out; omega
          case rel => exact ⟨(wrap64 (x4_1 + t101)), (by first | rfl | (simp; done) | (simp [*]; done)), H', ⟨by have := HK1.out; omega⟩, ⟨by repeat (first | (with_reducible first | exact HB.out | apply below_alloc | apply pw_below_drewN | apply below_drew1) | exact HB.out)⟩⟩
      · rw [if_neg c2] at H
        have c2b0 : decide (x4_1 < (a0.size : Int)) = false := decide_eq_false c2
        clear c2
        simp only [Option.some.injEq, Prod.mk.injEq] at H
        obtain ⟨rfl, rfl⟩ := H
        go_wp2
        go_ret2
        exact ⟨by first | rfl | (simp [errW_none, errW_some] <;> rfl) | (simp [*, errW_none, errW_some] <;> rfl), by repeat (first | (with_reducible first | exact HB.out | apply below_alloc | apply pw_below_drewN | apply below_drew1) | exact HB.out)⟩

/-! ### sorrelref07_skip: function 50 -/
def sorrelref07_skip.l0 : Nat → ByteArray → Int → Option (Int)
  | 0, _, _ => none
  | k + 1, x0, x1 => if x1 < (x0.size : Int) then ((sorrelref01_Rune.f x0 x1).bind fun t102 => ((sorrelref01_Kind.f t102).bind fun t103 => (if t103 = 3 then ((sorrelref01_Width.f x0 x1).bind fun t104 => (sorrelref07_skip.l0 k x0 (wrap64 (x1 + t104)))) else (some x1)))) else (some x1)
def sorrelref07_skip.f (k : Nat) (a0 : ByteArray) (a1 : Int) : Option (Int) := sorrelref07_skip.l0 k a0 a1
theorem sorrelref07_skip.mono_l : ∀ k, (∀ y0 y1, LeO (sorrelref07_skip.l0 k y0 y1) (sorrelref07_skip.l0 (k + 1) y0 y1))
  | 0 => fun _ _ r h => by simp [sorrelref07_skip.l0] at h
  | k + 1 => by
    have ih0 := sorrelref07_skip.mono_l k
    · intro y0 y1
      unfold sorrelref07_skip.l0
      repeat' first
      | (with_reducible exact ih0 _ _)
      | (with_reducible exact LeO.refl _)
      | (with_reducible exact LeO.none _)
      | (with_reducible refine LeO.ite ?_ ?_)
      | (with_reducible refine LeO.bind ?_ (fun _ => ?_))
      | exact ih0 _ _
      | exact LeO.none _
      | refine LeO.ite ?_ ?_
      | refine LeO.bind ?_ (fun _ => ?_)
theorem sorrelref07_skip.mono : ∀ a0 a1 k, LeO (sorrelref07_skip.f k a0 a1) (sorrelref07_skip.f (k + 1) a0 a1) := by
  intro a0 a1 k
  have ih0 := sorrelref07_skip.mono_l k
  unfold sorrelref07_skip.f
  repeat' first
      | (with_reducible exact ih0 _ _)
      | (with_reducible exact LeO.refl _)
      | (with_reducible exact LeO.none _)
      | (with_reducible refine LeO.ite ?_ ?_)
      | (with_reducible refine LeO.bind ?_ (fun _ => ?_))
      | exact ih0 _ _
      | exact LeO.none _
      | refine LeO.ite ?_ ?_
      | refine LeO.bind ?_ (fun _ => ?_)
set_option maxHeartbeats 8000000 in
set_option maxRecDepth 100000 in
theorem sorrelref07_skip.calls (k : Nat) (a0 : ByteArray) (a1 : Int) (r : Int) (w : World) (h : sorrelref07_skip.f k a0 a1 = some r) :
    Calls Tryd.prog 50 #[.string a0, .int .i64 a1] w fun e w' => e = .returned (.int .i64 r) ∧ Below w.heap.size w w' := by
  have HB := Aside0.mk (Below.refl w.heap.size w)
  have H : (sorrelref07_skip.l0 k a0 a1) = some r := h
  clear h
  have H' := Aside0.mk H
  clear H
  go_enter Tryd.func50, Tryd.ntmps50
  go_wp2
  go_loopg [1] k (fun kq v1 w' => ∃ (x1_1 : Int), v1 = .int .i64 x1_1 ∧ Aside0 (sorrelref07_skip.l0 kq a0 x1_1 = some r) ∧ Aside0 (kq ≤ k) ∧ Aside0 (Below w.heap.size w w'))
  case atStart => exact ⟨(a1), (by first | rfl | (simp; done) | (simp [*]; done)), H', ⟨Nat.le_refl _⟩, ⟨by repeat (first | (with_reducible first | exact HB.out | apply below_alloc | apply pw_below_drewN | apply below_drew1) | exact HB.out)⟩⟩
  case round =>
    clear H'
    try clear p2
    obtain ⟨x1_1, rfl, HA, HK1, HB⟩ := hrel
    cases gk with
    | zero => exact absurd HA.out (by simp [sorrelref07_skip.l0])
    | succ k1 =>
      have H := HA.out
      clear HA
      simp only [sorrelref07_skip.l0] at H
      by_cases c3 : x1_1 < (a0.size : Int)
      · rw [if_pos c3] at H
        have c3b0 : decide (x1_1 < (a0.size : Int)) = true := decide_eq_true c3
        clear c3
        replace H := Option.bind_eq_some_iff.mp H
        obtain ⟨t102, A40, H⟩ := H
        replace H : ((sorrelref01_Kind.f t102).bind fun t103 => (if t103 = 3 then ((sorrelref01_Width.f a0 x1_1).bind fun t104 => (sorrelref07_skip.l0 k1 a0 (wrap64 (x1_1 + t104)))) else (some x1_1))) = some r := H
        have A4 := Aside0.mk A40
        clear A40
        replace H := Option.bind_eq_some_iff.mp H
        obtain ⟨t103, A50, H⟩ := H
        replace H : (if t103 = 3 then ((sorrelref01_Width.f a0 x1_1).bind fun t104 => (sorrelref07_skip.l0 k1 a0 (wrap64 (x1_1 + t104)))) else (some x1_1)) = some r := H
        have A5 := Aside0.mk A50
        clear A50
        by_cases c6 : t103 = 3
        · rw [if_pos c6] at H
          have c6b0 : (t103 == 3) = true := beq_iff_eq.mpr c6
          have c6b1 : (t103 != 3) = false := bne_eq_false_iff_eq.mpr c6
          clear c6
          replace H := Option.bind_eq_some_iff.mp H
          obtain ⟨t104, A70, H⟩ := H
          replace H : (sorrelref07_skip.l0 k1 a0 (wrap64 (x1_1 + t104))) = some r := H
          have A7 := Aside0.mk A70
          clear A70
          have H' := Aside0.mk H
          clear H
          go_wp2_with (first | (go_at_call 42; (with_reducible refine (sorrelref01_Rune.calls a0 x1_1 t102 _ A4.out).mono ?_); rintro e w8 ⟨rfl, hb⟩; have n0_ := Aside0.mk (below_step (by repeat (first | (with_reducible first | exact HB.out | apply below_alloc | apply pw_below_drewN | apply below_drew1) | exact HB.out)) hb); clear HB; have HB := n0_; clear n0_; (try clear hb); (try clear hb2); (try clear hk); (try clear hi)) | (go_at_call 43; (with_reducible refine (sorrelref01_Kind.calls t102 t103 _ A5.out).mono ?_); rintro e w9 ⟨rfl, hb⟩; have n0_ := Aside0.mk (below_step (by repeat (first | (with_reducible first | exact HB.out | apply below_alloc | apply pw_below_drewN | apply below_drew1) | exact HB.out)) hb); clear HB; have HB := n0_; clear n0_; (try clear hb); (try clear hb2); (try clear hk); (try clear hi)) | ((with_reducible refine gate_callee (f := 45) rfl ?_); refine goesL_ (some 19) rfl rfl Tryd.func45 (by kernel_rfl) rfl #[.string a0, .int .i64 x1_1] rfl (by (try simp only [List.map_toArray, List.map_cons, List.map_nil]); first | done | rfl | (simp only [List.length_drop, List.length_take]; rfl)) ?_; (with_reducible refine (sorrelref01_Width.calls a0 x1_1 t104 _ A7.out).mono ?_); rintro e w10 ⟨rfl, hb⟩; refine ⟨_, rfl, ?_⟩; have n0_ := Aside0.mk (below_step (by repeat (first | (with_reducible first | exact HB.out | apply below_alloc | apply pw_below_drewN | apply below_drew1) | exact HB.out)) hb); clear HB; have HB := n0_; clear n0_; (try clear hb); (try clear hb2); (try clear hk); (try clear hi)))
          go_roundg k1
          case measure => have := HK1.out; omega
          case rel => exact ⟨(wrap64 (x1_1 + t104)), (by first | rfl | (simp; done) | (simp [*]; done)), H', ⟨by have := HK1.out; omega⟩, ⟨by repeat (first | (with_reducible first | exact HB.out | apply below_alloc | apply pw_below_drewN | apply below_drew1) | exact HB.out)⟩⟩
        · rw [if_neg c6] at H
          have c6b0 : (t103 == 3) = false := beq_eq_false_iff_ne.mpr c6
          have c6b1 : (t103 != 3) = true := bne_iff_ne.mpr c6
          obtain rfl := Option.some.inj H
          go_wp2_with (first | (go_at_call 42; (with_reducible refine (sorrelref01_Rune.calls a0 x1_1 t102 _ A4.out).mono ?_); rintro e w11 ⟨rfl, hb⟩; have n0_ := Aside0.mk (below_step (by repeat (first | (with_reducible first | exact HB.out | apply below_alloc | apply pw_below_drewN | apply below_drew1) | exact HB.out)) hb); clear HB; have HB := n0_; clear n0_; (try clear hb); (try clear hb2); (try clear hk); (try clear hi)) | (go_at_call 43; (with_reducible refine (sorrelref01_Kind.calls t102 t103 _ A5.out).mono ?_); rintro e w12 ⟨rfl, hb⟩; have n0_ := Aside0.mk (below_step (by repeat (first | (with_reducible first | exact HB.out | apply below_alloc | apply pw_below_drewN | apply below_drew1) | exact HB.out)) hb); clear HB; have HB := n0_; clear n0_; (try clear hb); (try clear hb2); (try clear hk); (try clear hi)))
          go_ret
          exact ⟨by first | rfl | (simp [errW_none, errW_some] <;> rfl) | (simp [*, errW_none, errW_some] <;> rfl), by repeat (first | (with_reducible first | exact HB.out | apply below_alloc | apply pw_below_drewN | apply below_drew1) | exact HB.out)⟩
      · rw [if_neg c3] at H
        have c3b0 : decide (x1_1 < (a0.size : Int)) = false := decide_eq_false c3
        clear c3
        obtain rfl := Option.some.inj H
        go_wp2
        go_ret
        exact ⟨by first | rfl | (simp [errW_none, errW_some] <;> rfl) | (simp [*, errW_none, errW_some] <;> rfl), by repeat (first | (with_reducible first | exact HB.out | apply below_alloc | apply pw_below_drewN | apply below_drew1) | exact HB.out)⟩

/-! ### sorrelref01_Span: function 65 -/
mutual
def sorrelref01_Span.j0 : Nat → ByteArray → Int → Bool → Option (Int × Int)
  | 0, _, _, _ => none
  | k + 1, x0, x1, x13 => if x13 = true then (some (0, 2)) else ((sorrelref01_Rune.f x0 x1).bind fun t105 => ((sorrelref01_Kind.f t105).bind fun t106 => (if t106 = 1 then (sorrelref01_Span.l0 k x0 x1) else (some (0, 11)))))
def sorrelref01_Span.l0 : Nat → ByteArray → Int → Option (Int × Int)
  | 0, _, _ => none
  | k + 1, x0, x1 => if x1 < (x0.size : Int) then ((sorrelref01_Rune.f x0 x1).bind fun t107 => ((sorrelref01_behind.f t107).bind fun t108 => (if t108 = true then ((sorrelref01_Width.f x0 x1).bind fun t109 => (sorrelref01_Span.l0 k x0 (wrap64 (x1 + t109)))) else (some (x1, 0))))) else (some (x1, 0))
end
def sorrelref01_Span.f (k : Nat) (a0 : ByteArray) (a1 : Int) : Option (Int × Int) := if a1 < 0 then (sorrelref01_Span.j0 k a0 a1 true) else (sorrelref01_Span.j0 k a0 a1 (decide (a1 > (a0.size : Int))))
theorem sorrelref01_Span.mono_l : ∀ k, (∀ y0 y1 y2, LeO (sorrelref01_Span.j0 k y0 y1 y2) (sorrelref01_Span.j0 (k + 1) y0 y1 y2)) ∧ (∀ y0 y1, LeO (sorrelref01_Span.l0 k y0 y1) (sorrelref01_Span.l0 (k + 1) y0 y1))
  | 0 => ⟨fun _ _ _ r h => by simp [sorrelref01_Span.j0] at h, fun _ _ r h => by simp [sorrelref01_Span.l0] at h⟩
  | k + 1 => by
    obtain ⟨ih0, ih1⟩ := sorrelref01_Span.mono_l k
    refine ⟨?_, ?_⟩
    · intro y0 y1 y2
      unfold sorrelref01_Span.j0
      repeat' first
      | (with_reducible exact ih0 _ _ _)
      | (with_reducible exact ih1 _ _)
      | (with_reducible exact LeO.refl _)
      | (with_reducible exact LeO.none _)
      | (with_reducible refine LeO.ite ?_ ?_)
      | (with_reducible refine LeO.bind ?_ (fun _ => ?_))
      | exact ih0 _ _ _
      | exact ih1 _ _
      | exact LeO.none _
      | refine LeO.ite ?_ ?_
      | refine LeO.bind ?_ (fun _ => ?_)
    · intro y0 y1
      unfold sorrelref01_Span.l0
      repeat' first
      | (with_reducible exact ih0 _ _ _)
      | (with_reducible exact ih1 _ _)
      | (with_reducible exact LeO.refl _)
      | (with_reducible exact LeO.none _)
      | (with_reducible refine LeO.ite ?_ ?_)
      | (with_reducible refine LeO.bind ?_ (fun _ => ?_))
      | exact ih0 _ _ _
      | exact ih1 _ _
      | exact LeO.none _
      | refine LeO.ite ?_ ?_
      | refine LeO.bind ?_ (fun _ => ?_)
theorem sorrelref01_Span.mono : ∀ a0 a1 k, LeO (sorrelref01_Span.f k a0 a1) (sorrelref01_Span.f (k + 1) a0 a1) := by
  intro a0 a1 k
  obtain ⟨ih0, ih1⟩ := sorrelref01_Span.mono_l k
  unfold sorrelref01_Span.f
  repeat' first
      | (with_reducible exact ih0 _ _ _)
      | (with_reducible exact ih1 _ _)
      | (with_reducible exact LeO.refl _)
      | (with_reducible exact LeO.none _)
      | (with_reducible refine LeO.ite ?_ ?_)
      | (with_reducible refine LeO.bind ?_ (fun _ => ?_))
      | exact ih0 _ _ _
      | exact ih1 _ _
      | exact LeO.none _
      | refine LeO.ite ?_ ?_
      | refine LeO.bind ?_ (fun _ => ?_)
set_option maxHeartbeats 8000000 in
set_option maxRecDepth 100000 in
theorem sorrelref01_Span.calls (k : Nat) (a0 : ByteArray) (a1 : Int) (r1 : Int) (r2 : Int) (w : World) (h : sorrelref01_Span.f k a0 a1 = some (r1, r2)) :
    Calls Tryd.prog 65 #[.string a0, .int .i64 a1] w fun e w' => e = .returned (.tuple #[.int .i64 r1, .int .i64 r2]) ∧ Below w.heap.size w w' := by
  have HB := Aside0.mk (Below.refl w.heap.size w)
  have H : (if a1 < 0 then (sorrelref01_Span.j0 k a0 a1 true) else (sorrelref01_Span.j0 k a0 a1 (decide (a1 > (a0.size : Int))))) = some (r1, r2) := h
  clear h
  have HC3 := Aside0.mk H
  clear H
  go_enter Tryd.func65, Tryd.ntmps65
  go_upto_region 1 with (fail)
  go_cut [13] (fun v13 wc => ∃ (kq : Nat) (x13_2 : Bool), v13 = .bool x13_2 ∧ Aside0 (sorrelref01_Span.j0 kq a0 a1 x13_2 = some (r1, r2)) ∧ Aside0 (kq ≤ k) ∧ Aside0 (Below w.heap.size w wc))
  case first =>
    have H := HC3.out
    clear HC3
    by_cases c4 : a1 < 0
    · rw [if_pos c4] at H
      have c4b0 : decide (a1 < 0) = true := decide_eq_true c4
      clear c4
      (first | rw [c4b0] | (simp only [i64_w, i32_w]; rw [c4b0]) | skip)
      have H' := Aside0.mk H
      clear H
      go_wp2
      go_meet
      case rel => exact ⟨_, (true), (by first | rfl | (simp; done) | (simp [*]; done)), H', ⟨by first | omega | exact Nat.le_refl _⟩, ⟨by repeat (first | (with_reducible first | exact HB.out | apply below_alloc | apply pw_below_drewN | apply below_drew1) | exact HB.out)⟩⟩
    · rw [if_neg c4] at H
      have c4b0 : decide (a1 < 0) = false := decide_eq_false c4
      clear c4
      (first | rw [c4b0] | (simp only [i64_w, i32_w]; rw [c4b0]) | skip)
      have H' := Aside0.mk H
      clear H
      go_wp2
      go_meet
      case rel => exact ⟨_, (decide (a1 > (a0.size : Int))), (by first | rfl | (simp; done) | (simp [*]; done)), H', ⟨by first | omega | exact Nat.le_refl _⟩, ⟨by repeat (first | (with_reducible first | exact HB.out | apply below_alloc | apply pw_below_drewN | apply below_drew1) | exact HB.out)⟩⟩
  case rest =>
    clear HC3
    try clear p2
    try clear c4
    try clear c4b0
    obtain ⟨kq, x13_2, rfl, HA, HJ2, HB⟩ := hcut
    cases kq with
    | zero => exact absurd HA.out (by simp [sorrelref01_Span.j0])
    | succ kj2 =>
      have H := HA.out
      clear HA
      simp only [sorrelref01_Span.j0] at H
      by_cases c5 : x13_2 = true
      · subst c5
        have H1 : (some (0, 2)) = some (r1, r2) := by rw [if_pos rfl] at H; exact H
        clear H
        have H := H1
        clear H1
        simp only [Option.some.injEq, Prod.mk.injEq] at H
        obtain ⟨rfl, rfl⟩ := H
        go_wp2
        go_ret2
        exact ⟨by first | rfl | (simp [errW_none, errW_some] <;> rfl) | (simp [*, errW_none, errW_some] <;> rfl), by repeat (first | (with_reducible first | exact HB.out | apply below_alloc | apply pw_below_drewN | apply below_drew1) | exact HB.out)⟩
      · replace c5 := Bool.eq_false_iff.mpr c5
        subst c5
        have H1 : ((sorrelref01_Rune.f a0 a1).bind fun t105 => ((sorrelref01_Kind.f t105).bind fun t106 => (if t106 = 1 then (sorrelref01_Span.l0 kj2 a0 a1) else (some (0, 11))))) = some (r1, r2) := by rw [if_neg (show ¬ (false = true) by decide)] at H; exact H
        clear H
        have H := H1
        clear H1
        replace H := Option.bind_eq_some_iff.mp H
        obtain ⟨t105, A60, H⟩ := H
        replace H : ((sorrelref01_Kind.f t105).bind fun t106 => (if t106 = 1 then (sorrelref01_Span.l0 kj2 a0 a1) else (some (0, 11)))) = some (r1, r2) := H
        have A6 := Aside0.mk A60
        clear A60
        replace H := Option.bind_eq_some_iff.mp H
        obtain ⟨t106, A70, H⟩ := H
        replace H : (if t106 = 1 then (sorrelref01_Span.l0 kj2 a0 a1) else (some (0, 11))) = some (r1, r2) := H
        have A7 := Aside0.mk A70
        clear A70
        by_cases c8 : t106 = 1
        · rw [if_pos c8] at H
          have c8b0 : (t106 == 1) = true := beq_iff_eq.mpr c8
          have c8b1 : (t106 != 1) = false := bne_eq_false_iff_eq.mpr c8
          clear c8
          have H' := Aside0.mk H
          clear H
          go_wp2_with (first | ((with_reducible refine gate_callee (f := 42) rfl ?_); refine goesL_ (some 16) rfl rfl Tryd.func42 (by kernel_rfl) rfl #[.string a0, .int .i64 a1] rfl (by (try simp only [List.map_toArray, List.map_cons, List.map_nil]); first | done | rfl | (simp only [List.length_drop, List.length_take]; rfl)) ?_; (with_reducible refine (sorrelref01_Rune.calls a0 a1 t105 _ A6.out).mono ?_); rintro e w9 ⟨rfl, hb⟩; refine ⟨_, rfl, ?_⟩; have n0_ := Aside0.mk (below_step (by repeat (first | (with_reducible first | exact HB.out | apply below_alloc | apply pw_below_drewN | apply below_drew1) | exact HB.out)) hb); clear HB; have HB := n0_; clear n0_; (try clear hb); (try clear hb2); (try clear hk); (try clear hi)) | ((with_reducible refine gate_callee (f := 43) rfl ?_); refine goesL_ (some 17) rfl rfl Tryd.func43 (by kernel_rfl) rfl #[.int .i32 t105] rfl (by (try simp only [List.map_toArray, List.map_cons, List.map_nil]); first | done | rfl | (simp only [List.length_drop, List.length_take]; rfl)) ?_; (with_reducible refine (sorrelref01_Kind.calls t105 t106 _ A7.out).mono ?_); rintro e w10 ⟨rfl, hb⟩; refine ⟨_, rfl, ?_⟩; have n0_ := Aside0.mk (below_step (by repeat (first | (with_reducible first | exact HB.out | apply below_alloc | apply pw_below_drewN | apply below_drew1) | exact HB.out)) hb); clear HB; have HB := n0_; clear n0_; (try clear hb); (try clear hb2); (try clear hk); (try clear hi)))
          go_loopg [1] kj2 (fun kq v1 w' => ∃ (x1_2 : Int), v1 = .int .i64 x1_2 ∧ Aside0 (sorrelref01_Span.l0 kq a0 x1_2 = some (r1, r2)) ∧ Aside0 (kq ≤ kj2) ∧ Aside0 (Below w.heap.size w w'))
          case atStart => exact ⟨(a1), (by first | rfl | (simp; done) | (simp [*]; done)), H', ⟨Nat.le_refl _⟩, ⟨by repeat (first | (with_reducible first | exact HB.out | apply below_alloc | apply pw_below_drewN | apply below_drew1) | exact HB.out)⟩⟩
          case round =>
            clear H'
            try clear p2
            try clear c4
            try clear c4b0
            try clear c5
            try clear c6
            try clear c8
            try clear c8b0
            try clear c8b1
            try clear p2
            obtain ⟨x1_2, rfl, HA, HK2, HB⟩ := hrel
            cases gk with
            | zero => exact absurd HA.out (by simp [sorrelref01_Span.l0])
            | succ k2 =>
              have H := HA.out
              clear HA
              simp only [sorrelref01_Span.l0] at H
              by_cases c11 : x1_2 < (a0.size : Int)
              · rw [if_pos c11] at H
                have c11b0 : decide (x1_2 < (a0.size : Int)) = true := decide_eq_true c11
                clear c11
                replace H := Option.bind_eq_some_iff.mp H
                obtain ⟨t107, A120, H⟩ := H
                replace H : ((sorrelref01_behind.f t107).bind fun t108 => (if t108 = true then ((sorrelref01_Width.f a0 x1_2).bind fun t109 => (sorrelref01_Span.l0 k2 a0 (wrap64 (x1_2 + t109)))) else (some (x1_2, 0)))) = some (r1, r2) := H
                have A12 := Aside0.mk A120
                clear A120
                replace H := Option.bind_eq_some_iff.mp H
                obtain ⟨t108, A130, H⟩ := H
                replace H : (if t108 = true then ((sorrelref01_Width.f a0 x1_2).bind fun t109 => (sorrelref01_Span.l0 k2 a0 (wrap64 (x1_2 + t109)))) else (some (x1_2, 0))) = some (r1, r2) := H
                have A13 := Aside0.mk A130
                clear A130
                by_cases c14 : t108 = true
                · subst c14
                  have H1 : ((sorrelref01_Width.f a0 x1_2).bind fun t109 => (sorrelref01_Span.l0 k2 a0 (wrap64 (x1_2 + t109)))) = some (r1, r2) := by rw [if_pos rfl] at H; exact H
                  clear H
                  have H := H1
                  clear H1
                  replace H := Option.bind_eq_some_iff.mp H
                  obtain ⟨t109, A150, H⟩ := H
                  replace H : (sorrelref01_Span.l0 k2 a0 (wrap64 (x1_2 + t109))) = some (r1, r2) := H
                  have A15 := Aside0.mk A150
                  clear A150
                  have H' := Aside0.mk H
                  clear H
                  go_wp2_with (first | (go_at_call 42; (with_reducible refine (sorrelref01_Rune.calls a0 x1_2 t107 _ A12.out).mono ?_); rintro e w16 ⟨rfl, hb⟩; have n0_ := Aside0.mk (below_step (by repeat (first | (with_reducible first | exact HB.out | apply below_alloc | apply pw_below_drewN | apply below_drew1) | exact HB.out)) hb); clear HB; have HB := n0_; clear n0_; (try clear hb); (try clear hb2); (try clear hk); (try clear hi)) | (go_at_call 44; (with_reducible refine (sorrelref01_behind.calls t107 true _ A13.out).mono ?_); rintro e w17 ⟨rfl, hb⟩; have n0_ := Aside0.mk (below_step (by repeat (first | (with_reducible first | exact HB.out | apply below_alloc | apply pw_below_drewN | apply below_drew1) | exact HB.out)) hb); clear HB; have HB := n0_; clear n0_; (try clear hb); (try clear hb2); (try clear hk); (try clear hi)) | ((with_reducible refine gate_callee (f := 45) rfl ?_); refine goesL_ (some 32) rfl rfl Tryd.func45 (by kernel_rfl) rfl #[.string a0, .int .i64 x1_2] rfl (by (try simp only [List.map_toArray, List.map_cons, List.map_nil]); first | done | rfl | (simp only [List.length_drop, List.length_take]; rfl)) ?_; (with_reducible refine (sorrelref01_Width.calls a0 x1_2 t109 _ A15.out).mono ?_); rintro e w18 ⟨rfl, hb⟩; refine ⟨_, rfl, ?_⟩; have n0_ := Aside0.mk (below_step (by repeat (first | (with_reducible first | exact HB.out | apply below_alloc | apply pw_below_drewN | apply below_drew1) | exact HB.out)) hb); clear HB; have HB := n0_; clear n0_; (try clear hb); (try clear hb2); (try clear hk); (try clear hi)))
                  go_roundg k2
                  case measure => have := HJ2.out; have := HK2.out; omega
                  case rel => exact ⟨(wrap64 (x1_2 + t109)), (by first | rfl | (simp; done) | (simp [*]; done)), H', ⟨by have := HJ2.out; have := HK2.out; omega⟩, ⟨by repeat (first | (with_reducible first | exact HB.out | apply below_alloc | apply pw_below_drewN | apply below_drew1) | exact HB.out)⟩⟩
                · replace c14 := Bool.eq_false_iff.mpr c14
                  subst c14
                  have H1 : (some (x1_2, 0)) = some (r1, r2) := by rw [if_neg (show ¬ (false = true) by decide)] at H; exact H
                  clear H
                  have H := H1
                  clear H1
                  simp only [Option.some.injEq, Prod.mk.injEq] at H
                  obtain ⟨rfl, rfl⟩ := H
                  go_wp2_with (first | (go_at_call 42; (with_reducible refine (sorrelref01_Rune.calls a0 x1_2 t107 _ A12.out).mono ?_); rintro e w19 ⟨rfl, hb⟩; have n0_ := Aside0.mk (below_step (by repeat (first | (with_reducible first | exact HB.out | apply below_alloc | apply pw_below_drewN | apply below_drew1) | exact HB.out)) hb); clear HB; have HB := n0_; clear n0_; (try clear hb); (try clear hb2); (try clear hk); (try clear hi)) | (go_at_call 44; (with_reducible refine (sorrelref01_behind.calls t107 false _ A13.out).mono ?_); rintro e w20 ⟨rfl, hb⟩; have n0_ := Aside0.mk (below_step (by repeat (first | (with_reducible first | exact HB.out | apply below_alloc | apply pw_below_drewN | apply below_drew1) | exact HB.out)) hb); clear HB; have HB := n0_; clear n0_; (try clear hb); (try clear hb2); (try clear hk); (try clear hi)))
                  go_ret2
                  exact ⟨by first | rfl | (simp [errW_none, errW_some] <;> rfl) | (simp [*, errW_none, errW_some] <;> rfl), by repeat (first | (with_reducible first | exact HB.out | apply below_alloc | apply pw_below_drewN | apply below_drew1) | exact HB.out)⟩
              · rw [if_neg c11] at H
                have c11b0 : decide (x1_2 < (a0.size : Int)) = false := decide_eq_false c11
                clear c11
                simp only [Option.some.injEq, Prod.mk.injEq] at H
                obtain ⟨rfl, rfl⟩ := H
                go_wp2
                go_ret2
                exact ⟨by first | rfl | (simp [errW_none, errW_some] <;> rfl) | (simp [*, errW_none, errW_some] <;> rfl), by repeat (first | (with_reducible first | exact HB.out | apply below_alloc | apply pw_below_drewN | apply below_drew1) | exact HB.out)⟩
        · rw [if_neg c8] at H
          have c8b0 : (t106 == 1) = false := beq_eq_false_iff_ne.mpr c8
          have c8b1 : (t106 != 1) = true := bne_iff_ne.mpr c8
          simp only [Option.some.injEq, Prod.mk.injEq] at H
          obtain ⟨rfl, rfl⟩ := H
          go_wp2_with (first | ((with_reducible refine gate_callee (f := 42) rfl ?_); refine goesL_ (some 16) rfl rfl Tryd.func42 (by kernel_rfl) rfl #[.string a0, .int .i64 a1] rfl (by (try simp only [List.map_toArray, List.map_cons, List.map_nil]); first | done | rfl | (simp only [List.length_drop, List.length_take]; rfl)) ?_; (with_reducible refine (sorrelref01_Rune.calls a0 a1 t105 _ A6.out).mono ?_); rintro e w21 ⟨rfl, hb⟩; refine ⟨_, rfl, ?_⟩; have n0_ := Aside0.mk (below_step (by repeat (first | (with_reducible first | exact HB.out | apply below_alloc | apply pw_below_drewN | apply below_drew1) | exact HB.out)) hb); clear HB; have HB := n0_; clear n0_; (try clear hb); (try clear hb2); (try clear hk); (try clear hi)) | ((with_reducible refine gate_callee (f := 43) rfl ?_); refine goesL_ (some 17) rfl rfl Tryd.func43 (by kernel_rfl) rfl #[.int .i32 t105] rfl (by (try simp only [List.map_toArray, List.map_cons, List.map_nil]); first | done | rfl | (simp only [List.length_drop, List.length_take]; rfl)) ?_; (with_reducible refine (sorrelref01_Kind.calls t105 t106 _ A7.out).mono ?_); rintro e w22 ⟨rfl, hb⟩; refine ⟨_, rfl, ?_⟩; have n0_ := Aside0.mk (below_step (by repeat (first | (with_reducible first | exact HB.out | apply below_alloc | apply pw_below_drewN | apply below_drew1) | exact HB.out)) hb); clear HB; have HB := n0_; clear n0_; (try clear hb); (try clear hb2); (try clear hk); (try clear hi)))
          go_ret2
          exact ⟨by first | rfl | (simp [errW_none, errW_some] <;> rfl) | (simp [*, errW_none, errW_some] <;> rfl), by repeat (first | (with_reducible first | exact HB.out | apply below_alloc | apply pw_below_drewN | apply below_drew1) | exact HB.out)⟩

/-! ### sorrelref06_Value: function 117 -/
def sorrelref06_Value.l0 : Nat → ByteArray → Int → Bool → Int → Int → Option (Int × Bool × Bool)
  | 0, _, _, _, _, _ => none
  | k + 1, x0, x2, x3, x6, x7 => if x7 < (x0.size : Int) then ((sorrelref01_Rune.f x0 x7).bind fun t113 => ((sorrelref01_Digit.f t113).bind fun bt114 => (if bt114.2 = x6 then (if x2 > 1000000000000000000 then ((sorrelref01_Width.f x0 x7).bind fun t116 => (sorrelref06_Value.l0 k x0 (IntKind.u64.wrap ((IntKind.u64.wrap (10 * x2)) + (IntKind.u64.wrap (bt114.1)))) true x6 (wrap64 (x7 + t116)))) else ((sorrelref01_Width.f x0 x7).bind fun t117 => (sorrelref06_Value.l0 k x0 (IntKind.u64.wrap ((IntKind.u64.wrap (10 * x2)) + (IntKind.u64.wrap (bt114.1)))) x3 x6 (wrap64 (x7 + t117))))) else (some (0, false, false))))) else (some (x2, x3, true))
def sorrelref06_Value.f (k : Nat) (a0 : ByteArray) : Option (Int × Bool × Bool) := (sorrelref01_Rune.f a0 0).bind fun t110 => ((sorrelref01_Digit.f t110).bind fun bt111 => (if bt111.2 = 0 then (some (0, false, false)) else (sorrelref06_Value.l0 k a0 0 false bt111.2 0)))
theorem sorrelref06_Value.mono_l : ∀ k, (∀ y0 y1 y2 y3 y4, LeO (sorrelref06_Value.l0 k y0 y1 y2 y3 y4) (sorrelref06_Value.l0 (k + 1) y0 y1 y2 y3 y4))
  | 0 => fun _ _ _ _ _ r h => by simp [sorrelref06_Value.l0] at h
  | k + 1 => by
    have ih0 := sorrelref06_Value.mono_l k
    · intro y0 y1 y2 y3 y4
      unfold sorrelref06_Value.l0
      repeat' first
      | (with_reducible exact ih0 _ _ _ _ _)
      | (with_reducible exact LeO.refl _)
      | (with_reducible exact LeO.none _)
      | (with_reducible refine LeO.ite ?_ ?_)
      | (with_reducible refine LeO.bind ?_ (fun _ => ?_))
      | exact ih0 _ _ _ _ _
      | exact LeO.none _
      | refine LeO.ite ?_ ?_
      | refine LeO.bind ?_ (fun _ => ?_)
theorem sorrelref06_Value.mono : ∀ a0 k, LeO (sorrelref06_Value.f k a0) (sorrelref06_Value.f (k + 1) a0) := by
  intro a0 k
  have ih0 := sorrelref06_Value.mono_l k
  unfold sorrelref06_Value.f
  repeat' first
      | (with_reducible exact ih0 _ _ _ _ _)
      | (with_reducible exact LeO.refl _)
      | (with_reducible exact LeO.none _)
      | (with_reducible refine LeO.ite ?_ ?_)
      | (with_reducible refine LeO.bind ?_ (fun _ => ?_))
      | exact ih0 _ _ _ _ _
      | exact LeO.none _
      | refine LeO.ite ?_ ?_
      | refine LeO.bind ?_ (fun _ => ?_)
set_option maxHeartbeats 8000000 in
set_option maxRecDepth 100000 in
theorem sorrelref06_Value.calls (k : Nat) (a0 : ByteArray) (r1 : Int) (r2 : Bool) (r3 : Bool) (w : World) (h : sorrelref06_Value.f k a0 = some (r1, r2, r3)) :
    Calls Tryd.prog 117 #[.string a0] w fun e w' => e = .returned (.tuple #[.int .u64 r1, .bool r2, .bool r3]) ∧ Below w.heap.size w w' := by
  have HB := Aside0.mk (Below.refl w.heap.size w)
  have H : ((sorrelref01_Rune.f a0 0).bind fun t110 => ((sorrelref01_Digit.f t110).bind fun bt111 => (if bt111.2 = 0 then (some (0, false, false)) else (sorrelref06_Value.l0 k a0 0 false bt111.2 0)))) = some (r1, r2, r3) := h
  clear h
  replace H := Option.bind_eq_some_iff.mp H
  obtain ⟨t110, A20, H⟩ := H
  replace H : ((sorrelref01_Digit.f t110).bind fun bt111 => (if bt111.2 = 0 then (some (0, false, false)) else (sorrelref06_Value.l0 k a0 0 false bt111.2 0))) = some (r1, r2, r3) := H
  have A2 := Aside0.mk A20
  clear A20
  replace H := Option.bind_eq_some_iff.mp H
  obtain ⟨⟨t111, t112⟩, A30, H⟩ := H
  replace H : (if t112 = 0 then (some (0, false, false)) else (sorrelref06_Value.l0 k a0 0 false t112 0)) = some (r1, r2, r3) := H
  have A3 := Aside0.mk A30
  clear A30
  by_cases c4 : t112 = 0
  · rw [if_pos c4] at H
    have c4b0 : (t112 == 0) = true := beq_iff_eq.mpr c4
    have c4b1 : (t112 != 0) = false := bne_eq_false_iff_eq.mpr c4
    clear c4
    simp only [Option.some.injEq, Prod.mk.injEq] at H
    obtain ⟨rfl, rfl, rfl⟩ := H
    go_enter Tryd.func117, Tryd.ntmps117
    go_wp2_with (first | ((with_reducible refine gate_callee (f := 42) rfl ?_); refine goesL_ (some 12) rfl rfl Tryd.func42 (by kernel_rfl) rfl #[.string a0, .int .i64 0] rfl (by (try simp only [List.map_toArray, List.map_cons, List.map_nil]); first | done | rfl | (simp only [List.length_drop, List.length_take]; rfl)) ?_; (with_reducible refine (sorrelref01_Rune.calls a0 0 t110 _ A2.out).mono ?_); rintro e w5 ⟨rfl, hb⟩; refine ⟨_, rfl, ?_⟩; have n0_ := Aside0.mk (below_step (by repeat (first | (with_reducible first | exact HB.out | apply below_alloc | apply pw_below_drewN | apply below_drew1) | exact HB.out)) hb); clear HB; have HB := n0_; clear n0_; (try clear hb); (try clear hb2); (try clear hk); (try clear hi)) | ((with_reducible refine gate_callee (f := 75) rfl ?_); refine goesL_ (some 13) rfl rfl Tryd.func75 (by kernel_rfl) rfl #[.int .i32 t110] rfl (by (try simp only [List.map_toArray, List.map_cons, List.map_nil]); first | done | rfl | (simp only [List.length_drop, List.length_take]; rfl)) ?_; (with_reducible refine (sorrelref01_Digit.calls t110 t111 t112 _ A3.out).mono ?_); rintro e w' ⟨rfl, ⟨nd, rfl⟩⟩; refine ⟨_, rfl, ?_⟩))
    go_ret3
    exact ⟨by first | rfl | (simp [errW_none, errW_some] <;> rfl) | (simp [*, errW_none, errW_some] <;> rfl), by repeat (first | (with_reducible first | exact HB.out | apply below_alloc | apply pw_below_drewN | apply below_drew1) | exact HB.out)⟩
  · rw [if_neg c4] at H
    have c4b0 : (t112 == 0) = false := beq_eq_false_iff_ne.mpr c4
    have c4b1 : (t112 != 0) = true := bne_iff_ne.mpr c4
    have H' := Aside0.mk H
    clear H
    go_enter Tryd.func117, Tryd.ntmps117
    go_wp2_with (first | ((with_reducible refine gate_callee (f := 42) rfl ?_); refine goesL_ (some 12) rfl rfl Tryd.func42 (by kernel_rfl) rfl #[.string a0, .int .i64 0] rfl (by (try simp only [List.map_toArray, List.map_cons, List.map_nil]); first | done | rfl | (simp only [List.length_drop, List.length_take]; rfl)) ?_; (with_reducible refine (sorrelref01_Rune.calls a0 0 t110 _ A2.out).mono ?_); rintro e w6 ⟨rfl, hb⟩; refine ⟨_, rfl, ?_⟩; have n0_ := Aside0.mk (below_step (by repeat (first | (with_reducible first | exact HB.out | apply below_alloc | apply pw_below_drewN | apply below_drew1) | exact HB.out)) hb); clear HB; have HB := n0_; clear n0_; (try clear hb); (try clear hb2); (try clear hk); (try clear hi)) | ((with_reducible refine gate_callee (f := 75) rfl ?_); refine goesL_ (some 13) rfl rfl Tryd.func75 (by kernel_rfl) rfl #[.int .i32 t110] rfl (by (try simp only [List.map_toArray, List.map_cons, List.map_nil]); first | done | rfl | (simp only [List.length_drop, List.length_take]; rfl)) ?_; (with_reducible refine (sorrelref01_Digit.calls t110 t111 t112 _ A3.out).mono ?_); rintro e w' ⟨rfl, ⟨nd, rfl⟩⟩; refine ⟨_, rfl, ?_⟩))
    go_loopg [2, 3, 7] k (fun kq v2 v3 v7 w' => ∃ (x2_1 : Int) (x3_1 : Bool) (x7_1 : Int), v2 = .int .u64 x2_1 ∧ v3 = .bool x3_1 ∧ v7 = .int .i64 x7_1 ∧ Aside0 (sorrelref06_Value.l0 kq a0 x2_1 x3_1 t112 x7_1 = some (r1, r2, r3)) ∧ Aside0 (kq ≤ k) ∧ Aside0 (Below w.heap.size w w'))
    case atStart => exact ⟨(0), (false), (0), (by first | rfl | (simp; done) | (simp [*]; done)), (by first | rfl | (simp; done) | (simp [*]; done)), (by first | rfl | (simp; done) | (simp [*]; done)), H', ⟨Nat.le_refl _⟩, ⟨by repeat (first | (with_reducible first | exact HB.out | apply below_alloc | apply pw_below_drewN | apply below_drew1) | exact HB.out)⟩⟩
    case round =>
      clear H'
      try clear c1
      try clear p2
      try clear c4
      try clear c4b0
      try clear c4b1
      obtain ⟨x2_1, x3_1, x7_1, rfl, rfl, rfl, HA, HK1, HB⟩ := hrel
      cases gk with
      | zero => exact absurd HA.out (by simp [sorrelref06_Value.l0])
      | succ k1 =>
        have H := HA.out
        clear HA
        simp only [sorrelref06_Value.l0] at H
        by_cases c7 : x7_1 < (a0.size : Int)
        · rw [if_pos c7] at H
          have c7b0 : decide (x7_1 < (a0.size : Int)) = true := decide_eq_true c7
          clear c7
          replace H := Option.bind_eq_some_iff.mp H
          obtain ⟨t113, A80, H⟩ := H
          replace H : ((sorrelref01_Digit.f t113).bind fun bt114 => (if bt114.2 = t112 then (if x2_1 > 1000000000000000000 then ((sorrelref01_Width.f a0 x7_1).bind fun t116 => (sorrelref06_Value.l0 k1 a0 (IntKind.u64.wrap ((IntKind.u64.wrap (10 * x2_1)) + (IntKind.u64.wrap (bt114.1)))) true t112 (wrap64 (x7_1 + t116)))) else ((sorrelref01_Width.f a0 x7_1).bind fun t117 => (sorrelref06_Value.l0 k1 a0 (IntKind.u64.wrap ((IntKind.u64.wrap (10 * x2_1)) + (IntKind.u64.wrap (bt114.1)))) x3_1 t112 (wrap64 (x7_1 + t117))))) else (some (0, false, false)))) = some (r1, r2, r3) := H
          have A8 := Aside0.mk A80
          clear A80
          replace H := Option.bind_eq_some_iff.mp H
          obtain ⟨⟨t114, t115⟩, A90, H⟩ := H
          replace H : (if t115 = t112 then (if x2_1 > 1000000000000000000 then ((sorrelref01_Width.f a0 x7_1).bind fun t116 => (sorrelref06_Value.l0 k1 a0 (IntKind.u64.wrap ((IntKind.u64.wrap (10 * x2_1)) + (IntKind.u64.wrap (t114)))) true t112 (wrap64 (x7_1 + t116)))) else ((sorrelref01_Width.f a0 x7_1).bind fun t117 => (sorrelref06_Value.l0 k1 a0 (IntKind.u64.wrap ((IntKind.u64.wrap (10 * x2_1)) + (IntKind.u64.wrap (t114)))) x3_1 t112 (wrap64 (x7_1 + t117))))) else (some (0, false, false))) = some (r1, r2, r3) := H
          have A9 := Aside0.mk A90
          clear A90
          by_cases c10 : t115 = t112
          · rw [if_pos c10] at H
            have c10b0 : (t115 == t112) = true := beq_iff_eq.mpr c10
            have c10b1 : (t115 != t112) = false := bne_eq_false_iff_eq.mpr c10
            clear c10
            by_cases c11 : x2_1 > 1000000000000000000
            · rw [if_pos c11] at H
              have c11b0 : decide (1000000000000000000 < x2_1) = true := decide_eq_true c11
              clear c11
              replace H := Option.bind_eq_some_iff.mp H
              obtain ⟨t116, A120, H⟩ := H
              replace H : (sorrelref06_Value.l0 k1 a0 (IntKind.u64.wrap ((IntKind.u64.wrap (10 * x2_1)) + (IntKind.u64.wrap (t114)))) true t112 (wrap64 (x7_1 + t116))) = some (r1, r2, r3) := H
              have A12 := Aside0.mk A120
              clear A120
              have H' := Aside0.mk H
              clear H
              go_wp2_with (first | ((with_reducible refine gate_callee (f := 42) rfl ?_); refine goesL_ (some 25) rfl rfl Tryd.func42 (by kernel_rfl) rfl #[.string a0, .int .i64 x7_1] rfl (by (try simp only [List.map_toArray, List.map_cons, List.map_nil]); first | done | rfl | (simp only [List.length_drop, List.length_take]; rfl)) ?_; (with_reducible refine (sorrelref01_Rune.calls a0 x7_1 t113 _ A8.out).mono ?_); rintro e w13 ⟨rfl, hb⟩; refine ⟨_, rfl, ?_⟩; have n0_ := Aside0.mk (below_step (by repeat (first | (with_reducible first | exact HB.out | apply below_alloc | apply pw_below_drewN | apply below_drew1) | exact HB.out)) hb); clear HB; have HB := n0_; clear n0_; (try clear hb); (try clear hb2); (try clear hk); (try clear hi)) | ((with_reducible refine gate_callee (f := 75) rfl ?_); refine goesL_ (some 26) rfl rfl Tryd.func75 (by kernel_rfl) rfl #[.int .i32 t113] rfl (by (try simp only [List.map_toArray, List.map_cons, List.map_nil]); first | done | rfl | (simp only [List.length_drop, List.length_take]; rfl)) ?_; (with_reducible refine (sorrelref01_Digit.calls t113 t114 t115 _ A9.out).mono ?_); rintro e w' ⟨rfl, ⟨nd, rfl⟩⟩; refine ⟨_, rfl, ?_⟩) | ((with_reducible refine gate_callee (f := 45) rfl ?_); refine goesL_ (some 42) rfl rfl Tryd.func45 (by kernel_rfl) rfl #[.string a0, .int .i64 x7_1] rfl (by (try simp only [List.map_toArray, List.map_cons, List.map_nil]); first | done | rfl | (simp only [List.length_drop, List.length_take]; rfl)) ?_; (with_reducible refine (sorrelref01_Width.calls a0 x7_1 t116 _ A12.out).mono ?_); rintro e w14 ⟨rfl, hb⟩; refine ⟨_, rfl, ?_⟩; have n0_ := Aside0.mk (below_step (by repeat (first | (with_reducible first | exact HB.out | apply below_alloc | apply pw_below_drewN | apply below_drew1) | exact HB.out)) hb); clear HB; have HB := n0_; clear n0_; (try clear hb); (try clear hb2); (try clear hk); (try clear hi)))
              go_roundg k1
              case measure => have := HK1.out; omega
              case rel => exact ⟨(IntKind.u64.wrap ((IntKind.u64.wrap (10 * x2_1)) + (IntKind.u64.wrap (t114)))), (true), (wrap64 (x7_1 + t116)), (by first | rfl | (simp; done) | (simp [*]; done)), (by first | rfl | (simp; done) | (simp [*]; done)), (by first | rfl | (simp; done) | (simp [*]; done)), H', ⟨by have := HK1.out; omega⟩, ⟨by repeat (first | (with_reducible first | exact HB.out | apply below_alloc | apply pw_below_drewN | apply below_drew1) | exact HB.out)⟩⟩
            · rw [if_neg c11] at H
              have c11b0 : decide (1000000000000000000 < x2_1) = false := decide_eq_false c11
              clear c11
              replace H := Option.bind_eq_some_iff.mp H
              obtain ⟨t117, A150, H⟩ := H
              replace H : (sorrelref06_Value.l0 k1 a0 (IntKind.u64.wrap ((IntKind.u64.wrap (10 * x2_1)) + (IntKind.u64.wrap (t114)))) x3_1 t112 (wrap64 (x7_1 + t117))) = some (r1, r2, r3) := H
              have A15 := Aside0.mk A150
              clear A150
              have H' := Aside0.mk H
              clear H
              go_wp2_with (first | ((with_reducible refine gate_callee (f := 42) rfl ?_); refine goesL_ (some 25) rfl rfl Tryd.func42 (by kernel_rfl) rfl #[.string a0, .int .i64 x7_1] rfl (by (try simp only [List.map_toArray, List.map_cons, List.map_nil]); first | done | rfl | (simp only [List.length_drop, List.length_take]; rfl)) ?_; (with_reducible refine (sorrelref01_Rune.calls a0 x7_1 t113 _ A8.out).mono ?_); rintro e w16 ⟨rfl, hb⟩; refine ⟨_, rfl, ?_⟩; have n0_ := Aside0.mk (below_step (by repeat (first | (with_reducible first | exact HB.out | apply below_alloc | apply pw_below_drewN | apply below_drew1) | exact HB.out)) hb); clear HB; have HB := n0_; clear n0_; (try clear hb); (try clear hb2); (try clear hk); (try clear hi)) | ((with_reducible refine gate_callee (f := 75) rfl ?_); refine goesL_ (some 26) rfl rfl Tryd.func75 (by kernel_rfl) rfl #[.int .i32 t113] rfl (by (try simp only [List.map_toArray, List.map_cons, List.map_nil]); first | done | rfl | (simp only [List.length_drop, List.length_take]; rfl)) ?_; (with_reducible refine (sorrelref01_Digit.calls t113 t114 t115 _ A9.out).mono ?_); rintro e w' ⟨rfl, ⟨nd, rfl⟩⟩; refine ⟨_, rfl, ?_⟩) | ((with_reducible refine gate_callee (f := 45) rfl ?_); refine goesL_ (some 42) rfl rfl Tryd.func45 (by kernel_rfl) rfl #[.string a0, .int .i64 x7_1] rfl (by (try simp only [List.map_toArray, List.map_cons, List.map_nil]); first | done | rfl | (simp only [List.length_drop, List.length_take]; rfl)) ?_; (with_reducible refine (sorrelref01_Width.calls a0 x7_1 t117 _ A15.out).mono ?_); rintro e w17 ⟨rfl, hb⟩; refine ⟨_, rfl, ?_⟩; have n0_ := Aside0.mk (below_step (by repeat (first | (with_reducible first | exact HB.out | apply below_alloc | apply pw_below_drewN | apply below_drew1) | exact HB.out)) hb); clear HB; have HB := n0_; clear n0_; (try clear hb); (try clear hb2); (try clear hk); (try clear hi)))
              go_roundg k1
              case measure => have := HK1.out; omega
              case rel => exact ⟨(IntKind.u64.wrap ((IntKind.u64.wrap (10 * x2_1)) + (IntKind.u64.wrap (t114)))), (x3_1), (wrap64 (x7_1 + t117)), (by first | rfl | (simp; done) | (simp [*]; done)), (by first | rfl | (simp; done) | (simp [*]; done)), (by first | rfl | (simp; done) | (simp [*]; done)), H', ⟨by have := HK1.out; omega⟩, ⟨by repeat (first | (with_reducible first | exact HB.out | apply below_alloc | apply pw_below_drewN | apply below_drew1) | exact HB.out)⟩⟩
          · rw [if_neg c10] at H
            have c10b0 : (t115 == t112) = false := beq_eq_false_iff_ne.mpr c10
            have c10b1 : (t115 != t112) = true := bne_iff_ne.mpr c10
            simp only [Option.some.injEq, Prod.mk.injEq] at H
            obtain ⟨rfl, rfl, rfl⟩ := H
            go_wp2_with (first | ((with_reducible refine gate_callee (f := 42) rfl ?_); refine goesL_ (some 25) rfl rfl Tryd.func42 (by kernel_rfl) rfl #[.string a0, .int .i64 x7_1] rfl (by (try simp only [List.map_toArray, List.map_cons, List.map_nil]); first | done | rfl | (simp only [List.length_drop, List.length_take]; rfl)) ?_; (with_reducible refine (sorrelref01_Rune.calls a0 x7_1 t113 _ A8.out).mono ?_); rintro e w18 ⟨rfl, hb⟩; refine ⟨_, rfl, ?_⟩; have n0_ := Aside0.mk (below_step (by repeat (first | (with_reducible first | exact HB.out | apply below_alloc | apply pw_below_drewN | apply below_drew1) | exact HB.out)) hb); clear HB; have HB := n0_; clear n0_; (try clear hb); (try clear hb2); (try clear hk); (try clear hi)) | ((with_reducible refine gate_callee (f := 75) rfl ?_); refine goesL_ (some 26) rfl rfl Tryd.func75 (by kernel_rfl) rfl #[.int .i32 t113] rfl (by (try simp only [List.map_toArray, List.map_cons, List.map_nil]); first | done | rfl | (simp only [List.length_drop, List.length_take]; rfl)) ?_; (with_reducible refine (sorrelref01_Digit.calls t113 t114 t115 _ A9.out).mono ?_); rintro e w' ⟨rfl, ⟨nd, rfl⟩⟩; refine ⟨_, rfl, ?_⟩))
            go_ret3
            exact ⟨by first | rfl | (simp [errW_none, errW_some] <;> rfl) | (simp [*, errW_none, errW_some] <;> rfl), by repeat (first | (with_reducible first | exact HB.out | apply below_alloc | apply pw_below_drewN | apply below_drew1) | exact HB.out)⟩
        · rw [if_neg c7] at H
          have c7b0 : decide (x7_1 < (a0.size : Int)) = false := decide_eq_false c7
          clear c7
          simp only [Option.some.injEq, Prod.mk.injEq] at H
          obtain ⟨rfl, rfl, rfl⟩ := H
          go_wp2
          go_ret3
          exact ⟨by first | rfl | (simp [errW_none, errW_some] <;> rfl) | (simp [*, errW_none, errW_some] <;> rfl), by repeat (first | (with_reducible first | exact HB.out | apply below_alloc | apply pw_below_drewN | apply below_drew1) | exact HB.out)⟩

/-! ### sorrelref06_signed: function 118 -/
def sorrelref06_signed.f (a0 : Int) (a1 : Bool) : Option (Int) := if a1 = true then (some (wrap64 (IntKind.u64.wrap (-a0)))) else (some (wrap64 (a0)))
set_option maxHeartbeats 8000000 in
set_option maxRecDepth 100000 in
theorem sorrelref06_signed.calls (a0 : Int) (a1 : Bool) (r : Int) (w : World) (h : sorrelref06_signed.f a0 a1 = some r) :
    Calls Tryd.prog 118 #[.int .u64 a0, .bool a1] w fun e w' => e = .returned (.int .i64 r) ∧ Drawn0 w w' := by
  have H : (if a1 = true then (some (wrap64 (IntKind.u64.wrap (-a0)))) else (some (wrap64 (a0)))) = some r := h
  clear h
  by_cases c3 : a1 = true
  · subst c3
    have H1 : (some (wrap64 (IntKind.u64.wrap (-a0)))) = some r := by rw [if_pos rfl] at H; exact H
    clear H
    have H := H1
    clear H1
    obtain rfl := Option.some.inj H
    go_enter Tryd.func118, Tryd.ntmps118
    go_wp2
    go_ret
    exact ⟨by first | rfl | (simp; done) | (simp [*]; done), by repeat (first | exact Drawn0.refl _ | apply Drawn0.step)⟩
  · replace c3 := Bool.eq_false_iff.mpr c3
    subst c3
    have H1 : (some (wrap64 (a0))) = some r := by rw [if_neg (show ¬ (false = true) by decide)] at H; exact H
    clear H
    have H := H1
    clear H1
    obtain rfl := Option.some.inj H
    go_enter Tryd.func118, Tryd.ntmps118
    go_wp2
    go_ret
    exact ⟨by first | rfl | (simp; done) | (simp [*]; done), by repeat (first | exact Drawn0.refl _ | apply Drawn0.step)⟩

end Go.Proofs.YtadlbegecgpaaaaDoor.S
