-- Printed by a program of this session (wip/mkprint.py: the kit's printer, changed). Not trusted: Lean checks it.
import Derived.Test.YtadlbegecgpaaaaDoorG0
import Derived.Test.YtadlbegecgpaaaaDoorG1
import Derived.Test.YtadlbegecgpaaaaDoorG2
import Derived.Test.YtadlbegecgpaaaaDoorA1
import Derived.Test.YtadlbegecgpaaaaDoorE1
import Derived.Test.YtadlbegecgpaaaaDoorHC
namespace Go.Proofs.YtadlbegecgpaaaaDoor.S
open Go.RowKit Go.Proofs.YtadlbegecgpaaaaDoorW.PrintWords Go.Proofs.YtadlbegecgpaaaaDoorW.PrintLast Go.Proofs.YtadlbegecgpaaaaDoorW.PrintMore
attribute [local go_sem] max2_int min2_int max_two min_two max_three min_three max_four min_four   -- for this text's walks alone
set_option linter.unusedVariables false
set_option linter.unusedSimpArgs false

/-! ### sorrelref07_bind: function 51 -/
mutual
def sorrelref07_bind.j0 : Nat → ByteArray → Int → ByteArray → Bool → Option (ByteArray × Int × Int × Int)
  | 0, _, _, _, _ => none
  | k + 1, x0, x1, x9, x49 => if x49 = true then (some ((⟨#[]⟩ : ByteArray), 0, x1, 6)) else ((sorrelref07_skip.f k x0 (wrap64 (x1 + 1))).bind fun t130 => ((sorrelref01_Rune.f x0 t130).bind fun t131 => (if t131 = 45 then (sorrelref07_bind.j1 k x0 t130 x9 t130 true) else (sorrelref07_bind.j1 k x0 t130 x9 t130 (t131 == 8722)))))
def sorrelref07_bind.j1 : Nat → ByteArray → Int → ByteArray → Int → Bool → Option (ByteArray × Int × Int × Int)
  | 0, _, _, _, _, _ => none
  | k + 1, x0, x1, x9, x10, x65 => if x65 = true then ((sorrelref01_Width.f x0 x1).bind fun t132 => (sorrelref07_bind.j2 k x0 (wrap64 (x1 + t132)) x9 x10)) else (sorrelref07_bind.j2 k x0 x1 x9 x10)
def sorrelref07_bind.j2 : Nat → ByteArray → Int → ByteArray → Int → Option (ByteArray × Int × Int × Int)
  | 0, _, _, _, _ => none
  | k + 1, x0, x1, x9, x10 => (sorrelref01_Rune.f x0 x1).bind fun t133 => ((sorrelref01_Digit.f t133).bind fun bt134 => (if bt134.2 = 0 then (some ((⟨#[]⟩ : ByteArray), 0, x10, 6)) else (sorrelref07_bind.l0 k x0 x1 x9 x10 x1 bt134.2)))
def sorrelref07_bind.j4 : Nat → ByteArray → Int → ByteArray → Int → Int → Option (ByteArray × Int × Int × Int)
  | 0, _, _, _, _, _ => none
  | k + 1, x0, x1, x9, x10, x12 => if 0 ≤ x10 then (if x10 ≤ x1 then (if x1 ≤ (x0.size : Int) then ((sorrelref06_Read.f k (x0.extract (x10 : Int).toNat (x1 : Int).toNat)).bind fun bt140 => (if bt140.2 = 0 then ((sorrelref07_skip.f k x0 x1).bind fun t142 => (some (x9, bt140.1, t142, 0))) else (some ((⟨#[]⟩ : ByteArray), 0, x12, 10)))) else (none)) else (none)) else (none)
def sorrelref07_bind.l0 : Nat → ByteArray → Int → ByteArray → Int → Int → Int → Option (ByteArray × Int × Int × Int)
  | 0, _, _, _, _, _, _ => none
  | k + 1, x0, x1, x9, x10, x12, x14 => if x1 < (x0.size : Int) then ((sorrelref01_Rune.f x0 x1).bind fun t136 => ((sorrelref01_Digit.f t136).bind fun bt137 => (if bt137.2 = x14 then ((sorrelref01_Width.f x0 x1).bind fun t139 => (sorrelref07_bind.l0 k x0 (wrap64 (x1 + t139)) x9 x10 x12 x14)) else (sorrelref07_bind.j4 k x0 x1 x9 x10 x12)))) else (sorrelref07_bind.j4 k x0 x1 x9 x10 x12)
end
def sorrelref07_bind.f (k : Nat) (a0 : ByteArray) (a1 : Int) : Option (ByteArray × Int × Int × Int) := (sorrelref01_Span.f k a0 a1).bind fun bt126 => (if bt126.2 = 0 then (if 0 ≤ a1 then (if a1 ≤ bt126.1 then (if bt126.1 ≤ (a0.size : Int) then ((sorrelref01_Name.f k (a0.extract (a1 : Int).toNat (bt126.1 : Int).toNat)).bind fun t128 => (if t128 = true then ((sorrelref07_skip.f k a0 bt126.1).bind fun t129 => (if t129 ≥ (a0.size : Int) then (sorrelref07_bind.j0 k a0 t129 (a0.extract (a1 : Int).toNat (bt126.1 : Int).toNat) true) else (if 0 ≤ t129 then (if t129 < (a0.size : Int) then (sorrelref07_bind.j0 k a0 t129 (a0.extract (a1 : Int).toNat (bt126.1 : Int).toNat) ((bt a0 t129) != 61)) else (none)) else (none)))) else (some ((⟨#[]⟩ : ByteArray), 0, a1, 7)))) else (none)) else (none)) else (none)) else (some ((⟨#[]⟩ : ByteArray), 0, a1, 6)))
theorem sorrelref07_bind.mono_l : ∀ k, (∀ y0 y1 y2 y3, LeO (sorrelref07_bind.j0 k y0 y1 y2 y3) (sorrelref07_bind.j0 (k + 1) y0 y1 y2 y3)) ∧ (∀ y0 y1 y2 y3 y4, LeO (sorrelref07_bind.j1 k y0 y1 y2 y3 y4) (sorrelref07_bind.j1 (k + 1) y0 y1 y2 y3 y4)) ∧ (∀ y0 y1 y2 y3, LeO (sorrelref07_bind.j2 k y0 y1 y2 y3) (sorrelref07_bind.j2 (k + 1) y0 y1 y2 y3)) ∧ (∀ y0 y1 y2 y3 y4, LeO (sorrelref07_bind.j4 k y0 y1 y2 y3 y4) (sorrelref07_bind.j4 (k + 1) y0 y1 y2 y3 y4)) ∧ (∀ y0 y1 y2 y3 y4 y5, LeO (sorrelref07_bind.l0 k y0 y1 y2 y3 y4 y5) (sorrelref07_bind.l0 (k + 1) y0 y1 y2 y3 y4 y5))
  | 0 => ⟨fun _ _ _ _ r h => by simp [sorrelref07_bind.j0] at h, fun _ _ _ _ _ r h => by simp [sorrelref07_bind.j1] at h, fun _ _ _ _ r h => by simp [sorrelref07_bind.j2] at h, fun _ _ _ _ _ r h => by simp [sorrelref07_bind.j4] at h, fun _ _ _ _ _ _ r h => by simp [sorrelref07_bind.l0] at h⟩
  | k + 1 => by
    obtain ⟨ih0, ih1, ih2, ih3, ih4⟩ := sorrelref07_bind.mono_l k
    refine ⟨?_, ?_, ?_, ?_, ?_⟩
    · intro y0 y1 y2 y3
      unfold sorrelref07_bind.j0
      repeat' first
      | (with_reducible exact ih0 _ _ _ _)
      | (with_reducible exact ih1 _ _ _ _ _)
      | (with_reducible exact ih2 _ _ _ _)
      | (with_reducible exact ih3 _ _ _ _ _)
      | (with_reducible exact ih4 _ _ _ _ _ _)
      | (with_reducible exact sorrelref01_Name.mono _ _)
      | (with_reducible exact sorrelref01_Span.mono _ _ _)
      | (with_reducible exact sorrelref06_Read.mono _ _)
      | (with_reducible exact sorrelref07_skip.mono _ _ _)
      | (with_reducible exact LeO.refl _)
      | (with_reducible exact LeO.none _)
      | (with_reducible refine LeO.ite ?_ ?_)
      | (with_reducible refine LeO.bind ?_ (fun _ => ?_))
      | exact ih0 _ _ _ _
      | exact ih1 _ _ _ _ _
      | exact ih2 _ _ _ _
      | exact ih3 _ _ _ _ _
      | exact ih4 _ _ _ _ _ _
      | exact sorrelref01_Name.mono _ _
      | exact sorrelref01_Span.mono _ _ _
      | exact sorrelref06_Read.mono _ _
      | exact sorrelref07_skip.mono _ _ _
      | exact LeO.none _
      | refine LeO.ite ?_ ?_
      | refine LeO.bind ?_ (fun _ => ?_)
    · intro y0 y1 y2 y3 y4
      unfold sorrelref07_bind.j1
      repeat' first
      | (with_reducible exact ih0 _ _ _ _)
      | (with_reducible exact ih1 _ _ _ _ _)
      | (with_reducible exact ih2 _ _ _ _)
      | (with_reducible exact ih3 _ _ _ _ _)
      | (with_reducible exact ih4 _ _ _ _ _ _)
      | (with_reducible exact sorrelref01_Name.mono _ _)
      | (with_reducible exact sorrelref01_Span.mono _ _ _)
      | (with_reducible exact sorrelref06_Read.mono _ _)
      | (with_reducible exact sorrelref07_skip.mono _ _ _)
      | (with_reducible exact LeO.refl _)
      | (with_reducible exact LeO.none _)
      | (with_reducible refine LeO.ite ?_ ?_)
      | (with_reducible refine LeO.bind ?_ (fun _ => ?_))
      | exact ih0 _ _ _ _
      | exact ih1 _ _ _ _ _
      | exact ih2 _ _ _ _
      | exact ih3 _ _ _ _ _
      | exact ih4 _ _ _ _ _ _
      | exact sorrelref01_Name.mono _ _
      | exact sorrelref01_Span.mono _ _ _
      | exact sorrelref06_Read.mono _ _
      | exact sorrelref07_skip.mono _ _ _
      | exact LeO.none _
      | refine LeO.ite ?_ ?_
      | refine LeO.bind ?_ (fun _ => ?_)
    · intro y0 y1 y2 y3
      unfold sorrelref07_bind.j2
      repeat' first
      | (with_reducible exact ih0 _ _ _ _)
      | (with_reducible exact ih1 _ _ _ _ _)
      | (with_reducible exact ih2 _ _ _ _)
      | (with_reducible exact ih3 _ _ _ _ _)
      | (with_reducible exact ih4 _ _ _ _ _ _)
      | (with_reducible exact sorrelref01_Name.mono _ _)
      | (with_reducible exact sorrelref01_Span.mono _ _ _)
      | (with_reducible exact sorrelref06_Read.mono _ _)
      | (with_reducible exact sorrelref07_skip.mono _ _ _)
      | (with_reducible exact LeO.refl _)
      | (with_reducible exact LeO.none _)
      | (with_reducible refine LeO.ite ?_ ?_)
      | (with_reducible refine LeO.bind ?_ (fun _ => ?_))
      | exact ih0 _ _ _ _
      | exact ih1 _ _ _ _ _
      | exact ih2 _ _ _ _
      | exact ih3 _ _ _ _ _
      | exact ih4 _ _ _ _ _ _
      | exact sorrelref01_Name.mono _ _
      | exact sorrelref01_Span.mono _ _ _
      | exact sorrelref06_Read.mono _ _
      | exact sorrelref07_skip.mono _ _ _
      | exact LeO.none _
      | refine LeO.ite ?_ ?_
      | refine LeO.bind ?_ (fun _ => ?_)
    · intro y0 y1 y2 y3 y4
      unfold sorrelref07_bind.j4
      repeat' first
      | (with_reducible exact ih0 _ _ _ _)
      | (with_reducible exact ih1 _ _ _ _ _)
      | (with_reducible exact ih2 _ _ _ _)
      | (with_reducible exact ih3 _ _ _ _ _)
      | (with_reducible exact ih4 _ _ _ _ _ _)
      | (with_reducible exact sorrelref01_Name.mono _ _)
      | (with_reducible exact sorrelref01_Span.mono _ _ _)
      | (with_reducible exact sorrelref06_Read.mono _ _)
      | (with_reducible exact sorrelref07_skip.mono _ _ _)
      | (with_reducible exact LeO.refl _)
      | (with_reducible exact LeO.none _)
      | (with_reducible refine LeO.ite ?_ ?_)
      | (with_reducible refine LeO.bind ?_ (fun _ => ?_))
      | exact ih0 _ _ _ _
      | exact ih1 _ _ _ _ _
      | exact ih2 _ _ _ _
      | exact ih3 _ _ _ _ _
      | exact ih4 _ _ _ _ _ _
      | exact sorrelref01_Name.mono _ _
      | exact sorrelref01_Span.mono _ _ _
      | exact sorrelref06_Read.mono _ _
      | exact sorrelref07_skip.mono _ _ _
      | exact LeO.none _
      | refine LeO.ite ?_ ?_
      | refine LeO.bind ?_ (fun _ => ?_)
    · intro y0 y1 y2 y3 y4 y5
      unfold sorrelref07_bind.l0
      repeat' first
      | (with_reducible exact ih0 _ _ _ _)
      | (with_reducible exact ih1 _ _ _ _ _)
      | (with_reducible exact ih2 _ _ _ _)
      | (with_reducible exact ih3 _ _ _ _ _)
      | (with_reducible exact ih4 _ _ _ _ _ _)
      | (with_reducible exact sorrelref01_Name.mono _ _)
      | (with_reducible exact sorrelref01_Span.mono _ _ _)
      | (with_reducible exact sorrelref06_Read.mono _ _)
      | (with_reducible exact sorrelref07_skip.mono _ _ _)
      | (with_reducible exact LeO.refl _)
      | (with_reducible exact LeO.none _)
      | (with_reducible refine LeO.ite ?_ ?_)
      | (with_reducible refine LeO.bind ?_ (fun _ => ?_))
      | exact ih0 _ _ _ _
      | exact ih1 _ _ _ _ _
      | exact ih2 _ _ _ _
      | exact ih3 _ _ _ _ _
      | exact ih4 _ _ _ _ _ _
      | exact sorrelref01_Name.mono _ _
      | exact sorrelref01_Span.mono _ _ _
      | exact sorrelref06_Read.mono _ _
      | exact sorrelref07_skip.mono _ _ _
      | exact LeO.none _
      | refine LeO.ite ?_ ?_
      | refine LeO.bind ?_ (fun _ => ?_)
theorem sorrelref07_bind.mono : ∀ a0 a1 k, LeO (sorrelref07_bind.f k a0 a1) (sorrelref07_bind.f (k + 1) a0 a1) := by
  intro a0 a1 k
  obtain ⟨ih0, ih1, ih2, ih3, ih4⟩ := sorrelref07_bind.mono_l k
  unfold sorrelref07_bind.f
  repeat' first
      | (with_reducible exact ih0 _ _ _ _)
      | (with_reducible exact ih1 _ _ _ _ _)
      | (with_reducible exact ih2 _ _ _ _)
      | (with_reducible exact ih3 _ _ _ _ _)
      | (with_reducible exact ih4 _ _ _ _ _ _)
      | (with_reducible exact sorrelref01_Name.mono _ _)
      | (with_reducible exact sorrelref01_Span.mono _ _ _)
      | (with_reducible exact sorrelref06_Read.mono _ _)
      | (with_reducible exact sorrelref07_skip.mono _ _ _)
      | (with_reducible exact LeO.refl _)
      | (with_reducible exact LeO.none _)
      | (with_reducible refine LeO.ite ?_ ?_)
      | (with_reducible refine LeO.bind ?_ (fun _ => ?_))
      | exact ih0 _ _ _ _
      | exact ih1 _ _ _ _ _
      | exact ih2 _ _ _ _
      | exact ih3 _ _ _ _ _
      | exact ih4 _ _ _ _ _ _
      | exact sorrelref01_Name.mono _ _
      | exact sorrelref01_Span.mono _ _ _
      | exact sorrelref06_Read.mono _ _
      | exact sorrelref07_skip.mono _ _ _
      | exact LeO.none _
      | refine LeO.ite ?_ ?_
      | refine LeO.bind ?_ (fun _ => ?_)
set_option maxHeartbeats 8000000 in
set_option maxRecDepth 100000 in
theorem sorrelref07_bind.calls (k : Nat) (a0 : ByteArray) (a1 : Int) (r1 : ByteArray) (r2 : Int) (r3 : Int) (r4 : Int) (w : World) (h : sorrelref07_bind.f k a0 a1 = some (r1, r2, r3, r4)) :
    Calls Tryd.prog 51 #[.string a0, .int .i64 a1] w fun e w' => e = .returned (.tuple #[.agg #[.string r1, .int .i64 r2], .int .i64 r3, .int .i64 r4]) ∧ Below w.heap.size w w' := by
  have hu63 := Tryd.underlying63
  have HB := Aside0.mk (Below.refl w.heap.size w)
  have H : ((sorrelref01_Span.f k a0 a1).bind fun bt126 => (if bt126.2 = 0 then (if 0 ≤ a1 then (if a1 ≤ bt126.1 then (if bt126.1 ≤ (a0.size : Int) then ((sorrelref01_Name.f k (a0.extract (a1 : Int).toNat (bt126.1 : Int).toNat)).bind fun t128 => (if t128 = true then ((sorrelref07_skip.f k a0 bt126.1).bind fun t129 => (if t129 ≥ (a0.size : Int) then (sorrelref07_bind.j0 k a0 t129 (a0.extract (a1 : Int).toNat (bt126.1 : Int).toNat) true) else (if 0 ≤ t129 then (if t129 < (a0.size : Int) then (sorrelref07_bind.j0 k a0 t129 (a0.extract (a1 : Int).toNat (bt126.1 : Int).toNat) ((bt a0 t129) != 61)) else (none)) else (none)))) else (some ((⟨#[]⟩ : ByteArray), 0, a1, 7)))) else (none)) else (none)) else (none)) else (some ((⟨#[]⟩ : ByteArray), 0, a1, 6)))) = some (r1, r2, r3, r4) := h
  clear h
  replace H := Option.bind_eq_some_iff.mp H
  obtain ⟨⟨t126, t127⟩, A30, H⟩ := H
  replace H : (if t127 = 0 then (if 0 ≤ a1 then (if a1 ≤ t126 then (if t126 ≤ (a0.size : Int) then ((sorrelref01_Name.f k (a0.extract (a1 : Int).toNat (t126 : Int).toNat)).bind fun t128 => (if t128 = true then ((sorrelref07_skip.f k a0 t126).bind fun t129 => (if t129 ≥ (a0.size : Int) then (sorrelref07_bind.j0 k a0 t129 (a0.extract (a1 : Int).toNat (t126 : Int).toNat) true) else (if 0 ≤ t129 then (if t129 < (a0.size : Int) then (sorrelref07_bind.j0 k a0 t129 (a0.extract (a1 : Int).toNat (t126 : Int).toNat) ((bt a0 t129) != 61)) else (none)) else (none)))) else (some ((⟨#[]⟩ : ByteArray), 0, a1, 7)))) else (none)) else (none)) else (none)) else (some ((⟨#[]⟩ : ByteArray), 0, a1, 6))) = some (r1, r2, r3, r4) := H
  have A3 := Aside0.mk A30
  clear A30
  by_cases c4 : t127 = 0
  · rw [if_pos c4] at H
    have c4b0 : (t127 == 0) = true := beq_iff_eq.mpr c4
    have c4b1 : (t127 != 0) = false := bne_eq_false_iff_eq.mpr c4
    clear c4
    by_cases c5 : 0 ≤ a1
    · rw [if_pos c5] at H
      have c5b0 := eq_true c5
      have c5b1 : decide (0 ≤ a1) = true := decide_eq_true c5
      clear c5
      by_cases c6 : a1 ≤ t126
      · rw [if_pos c6] at H
        have c6b0 := eq_true c6
        have c6b1 : decide (a1 ≤ t126) = true := decide_eq_true c6
        clear c6
        by_cases c7 : t126 ≤ (a0.size : Int)
        · rw [if_pos c7] at H
          have c7b0 := eq_true c7
          have c7b1 : decide (t126 ≤ (a0.size : Int)) = true := decide_eq_true c7
          clear c7
          replace H := Option.bind_eq_some_iff.mp H
          obtain ⟨t128, A80, H⟩ := H
          replace H : (if t128 = true then ((sorrelref07_skip.f k a0 t126).bind fun t129 => (if t129 ≥ (a0.size : Int) then (sorrelref07_bind.j0 k a0 t129 (a0.extract (a1 : Int).toNat (t126 : Int).toNat) true) else (if 0 ≤ t129 then (if t129 < (a0.size : Int) then (sorrelref07_bind.j0 k a0 t129 (a0.extract (a1 : Int).toNat (t126 : Int).toNat) ((bt a0 t129) != 61)) else (none)) else (none)))) else (some ((⟨#[]⟩ : ByteArray), 0, a1, 7))) = some (r1, r2, r3, r4) := H
          have A8 := Aside0.mk A80
          clear A80
          by_cases c9 : t128 = true
          · subst c9
            have H1 : ((sorrelref07_skip.f k a0 t126).bind fun t129 => (if t129 ≥ (a0.size : Int) then (sorrelref07_bind.j0 k a0 t129 (a0.extract (a1 : Int).toNat (t126 : Int).toNat) true) else (if 0 ≤ t129 then (if t129 < (a0.size : Int) then (sorrelref07_bind.j0 k a0 t129 (a0.extract (a1 : Int).toNat (t126 : Int).toNat) ((bt a0 t129) != 61)) else (none)) else (none)))) = some (r1, r2, r3, r4) := by rw [if_pos rfl] at H; exact H
            clear H
            have H := H1
            clear H1
            replace H := Option.bind_eq_some_iff.mp H
            obtain ⟨t129, A100, H⟩ := H
            replace H : (if t129 ≥ (a0.size : Int) then (sorrelref07_bind.j0 k a0 t129 (a0.extract (a1 : Int).toNat (t126 : Int).toNat) true) else (if 0 ≤ t129 then (if t129 < (a0.size : Int) then (sorrelref07_bind.j0 k a0 t129 (a0.extract (a1 : Int).toNat (t126 : Int).toNat) ((bt a0 t129) != 61)) else (none)) else (none))) = some (r1, r2, r3, r4) := H
            have A10 := Aside0.mk A100
            clear A100
            have HC11 := Aside0.mk H
            clear H
            go_enter Tryd.func51, Tryd.ntmps51
            go_upto_region 8 with (first | ((with_reducible refine gate_dst (N := 4) rfl ?_); refine box_event ?hg (N := 4) ?hd (cs := #[.string (⟨#[]⟩ : ByteArray), .int .i64 0]) (t := 63) ?hr ?_; (case hd => rfl); (case hg => rfl); (case hr => first | (go_simp; done) | (go_simp; rfl)); intro gb125 hg w12 hbox hb; have n0_ := Aside0.mk (below_step (by repeat (first | (with_reducible first | exact HB.out | apply below_alloc | apply pw_below_drewN | apply below_drew1) | exact HB.out)) hb); have n1_ := Aside0.mk (hbox); have n2_ := Aside0.mk ((by rw [hg]; exact (below_size (by repeat (first | (with_reducible first | exact HB.out | apply below_alloc | apply pw_below_drewN | apply below_drew1) | exact HB.out))) : w.heap.size ≤ gb125)); have n3_ := Aside0.mk ((by rw [hg]; exact (below_size (by repeat (first | (with_reducible first | exact HB.out | apply below_alloc | apply pw_below_drewN | apply below_drew1) | exact HB.out))) : w.heap.size ≤ gb125)); clear HB; have HB := n0_; have BK125 := n1_; have GW125 := n2_; have GE125 := n3_; clear n0_ n1_ n2_ n3_; clear hb hbox hg) | ((with_reducible refine gate_callee (f := 65) rfl ?_); refine goesL_ (some 21) rfl rfl Tryd.func65 (by kernel_rfl) rfl #[.string a0, .int .i64 a1] rfl (by (try simp only [List.map_toArray, List.map_cons, List.map_nil]); first | done | rfl | (simp only [List.length_drop, List.length_take]; rfl)) ?_; (with_reducible refine (sorrelref01_Span.calls k a0 a1 t126 t127 _ A3.out).mono ?_); rintro e w13 ⟨rfl, hb⟩; refine ⟨_, rfl, ?_⟩; have n0_ := Aside0.mk (blk_below (g := gb125) (o := .cells #[.string (⟨#[]⟩ : ByteArray), .int .i64 0] 63 (0, 0)) (by (with_reducible repeat (first | refine blk_drewN ?_ _ | refine blk_drew ?_ | refine blk_alloc ?_ _)); exact BK125.out) hb); have n1_ := Aside0.mk (below_step (by repeat (first | (with_reducible first | exact HB.out | apply below_alloc | apply pw_below_drewN | apply below_drew1 | refine below_set ?_ GE125.out) | exact HB.out)) hb); clear BK125; clear HB; have BK125 := n0_; have HB := n1_; clear n0_ n1_; (try clear hb); (try clear hb2); (try clear hk); (try clear hi)) | ((with_reducible refine gate_callee (f := 17) rfl ?_); refine goesL_ (some 33) rfl rfl Tryd.func17 (by kernel_rfl) rfl #[.string (a0.extract (a1 : Int).toNat (t126 : Int).toNat)] rfl (by (try simp only [List.map_toArray, List.map_cons, List.map_nil]); first | done | rfl | (simp only [List.length_drop, List.length_take]; rfl)) ?_; (with_reducible refine (sorrelref01_Name.calls k (a0.extract (a1 : Int).toNat (t126 : Int).toNat) true _ A8.out).mono ?_); rintro e w14 ⟨rfl, hb⟩; refine ⟨_, rfl, ?_⟩; have n0_ := Aside0.mk (blk_below (g := gb125) (o := .cells #[.string (⟨#[]⟩ : ByteArray), .int .i64 0] 63 (0, 0)) (by (with_reducible repeat (first | refine blk_drewN ?_ _ | refine blk_drew ?_ | refine blk_alloc ?_ _)); exact BK125.out) hb); have n1_ := Aside0.mk (below_step (by repeat (first | (with_reducible first | exact HB.out | apply below_alloc | apply pw_below_drewN | apply below_drew1 | refine below_set ?_ GE125.out) | exact HB.out)) hb); clear BK125; clear HB; have BK125 := n0_; have HB := n1_; clear n0_ n1_; (try clear hb); (try clear hb2); (try clear hk); (try clear hi)) | ((with_reducible refine gate_callee (f := 50) rfl ?_); refine goesL_ (some 39) rfl rfl Tryd.func50 (by kernel_rfl) rfl #[.string a0, .int .i64 t126] rfl (by (try simp only [List.map_toArray, List.map_cons, List.map_nil]); first | done | rfl | (simp only [List.length_drop, List.length_take]; rfl)) ?_; (with_reducible refine (sorrelref07_skip.calls k a0 t126 t129 _ A10.out).mono ?_); rintro e w15 ⟨rfl, hb⟩; refine ⟨_, rfl, ?_⟩; have n0_ := Aside0.mk (blk_below (g := gb125) (o := .cells #[.string (⟨#[]⟩ : ByteArray), .int .i64 0] 63 (0, 0)) (by (with_reducible repeat (first | refine blk_drewN ?_ _ | refine blk_drew ?_ | refine blk_alloc ?_ _)); exact BK125.out) hb); have n1_ := Aside0.mk (below_step (by repeat (first | (with_reducible first | exact HB.out | apply below_alloc | apply pw_below_drewN | apply below_drew1 | refine below_set ?_ GE125.out) | exact HB.out)) hb); clear BK125; clear HB; have BK125 := n0_; have HB := n1_; clear n0_ n1_; (try clear hb); (try clear hb2); (try clear hk); (try clear hi)))
            (try simp only [Act.put, List.setIfInBounds_toArray, List.set_cons_zero, List.set_cons_succ])
            go_cut [49] (fun v49 wc => ∃ (kq : Nat) (x49_10 : Bool), v49 = .bool x49_10 ∧ Aside0 (sorrelref07_bind.j0 kq a0 t129 (a0.extract (a1 : Int).toNat (t126 : Int).toNat) x49_10 = some (r1, r2, r3, r4)) ∧ Aside0 (kq ≤ k) ∧ Aside0 (wc.heap[gb125]? = some (.cells #[.string (⟨#[]⟩ : ByteArray), .int .i64 0] 63 (0, 0))) ∧ Aside0 (Below w.heap.size w wc))
            case first =>
              have H := HC11.out
              clear HC11
              by_cases c16 : t129 ≥ (a0.size : Int)
              · rw [if_pos c16] at H
                have c16b0 : decide ((a0.size : Int) ≤ t129) = true := decide_eq_true c16
                clear c16
                (first | rw [c16b0] | (simp only [i64_w, i32_w]; rw [c16b0]) | skip)
                have H' := Aside0.mk H
                clear H
                go_wp2
                go_meet
                case rel => exact ⟨_, (true), (by first | rfl | (simp; done) | (simp [*]; done)), H', ⟨by first | omega | exact Nat.le_refl _⟩, ⟨by (with_reducible repeat (first | refine blk_drewN ?_ _ | refine blk_drew ?_ | refine blk_alloc ?_ _)); exact BK125.out⟩, ⟨by repeat (first | (with_reducible first | exact HB.out | apply below_alloc | apply pw_below_drewN | apply below_drew1 | refine below_set ?_ GE125.out) | exact HB.out)⟩⟩
              · rw [if_neg c16] at H
                have c16b0 : decide ((a0.size : Int) ≤ t129) = false := decide_eq_false c16
                clear c16
                (first | rw [c16b0] | (simp only [i64_w, i32_w]; rw [c16b0]) | skip)
                by_cases c17 : 0 ≤ t129
                · rw [if_pos c17] at H
                  have c17b0 : decide (0 ≤ t129) = true := decide_eq_true c17
                  clear c17
                  by_cases c18 : t129 < (a0.size : Int)
                  · rw [if_pos c18] at H
                    have c18b0 : decide (t129 < (a0.size : Int)) = true := decide_eq_true c18
                    clear c18
                    have H' := Aside0.mk H
                    clear H
                    have p19 : 0 ≤ (t129 : Int) := of_decide_eq_true (by first | (with_reducible assumption) | assumption)
                    have q19 : t129 < (a0.size : Int) := of_decide_eq_true (by first | (with_reducible assumption) | assumption)
                    have hx19 := bt_at a0 t129
                    replace p19 := eq_true p19
                    replace q19 := eq_true q19
                    go_wp2
                    go_meet
                    case rel => exact ⟨_, (((bt a0 t129) != 61)), (by first | rfl | (simp; done) | (simp [*]; done)), H', ⟨by first | omega | exact Nat.le_refl _⟩, ⟨by (with_reducible repeat (first | refine blk_drewN ?_ _ | refine blk_drew ?_ | refine blk_alloc ?_ _)); exact BK125.out⟩, ⟨by repeat (first | (with_reducible first | exact HB.out | apply below_alloc | apply pw_below_drewN | apply below_drew1 | refine below_set ?_ GE125.out) | exact HB.out)⟩⟩
                  · rw [if_neg c18] at H
                    exact absurd H (by simp)
                · rw [if_neg c17] at H
                  exact absurd H (by simp)
            case rest =>
              clear HC11
              try clear c1
              try clear p1
              try clear q1
              try clear hx1
              try clear p2
              try clear c4
              try clear c4b0
              try clear c4b1
              try clear c5
              try clear c5b0
              try clear c5b1
              try clear c6
              try clear c6b0
              try clear c6b1
              try clear c7
              try clear c7b0
              try clear c7b1
              try clear c9
              try clear c16
              try clear c16b0
              try clear c17
              try clear c17b0
              try clear c18
              try clear c18b0
              try clear p19
              try clear q19
              try clear hx19
              try clear p19
              try clear q19
              obtain ⟨kq, x49_10, rfl, HA, HJ10, BK125, HB⟩ := hcut
              cases kq with
              | zero => exact absurd HA.out (by simp [sorrelref07_bind.j0])
              | succ kj10 =>
                have H := HA.out
                clear HA
                simp only [sorrelref07_bind.j0] at H
                by_cases c20 : x49_10 = true
                · subst c20
                  have H1 : (some ((⟨#[]⟩ : ByteArray), 0, t129, 6)) = some (r1, r2, r3, r4) := by rw [if_pos rfl] at H; exact H
                  clear H
                  have H := H1
                  clear H1
                  simp only [Option.some.injEq, Prod.mk.injEq] at H
                  obtain ⟨rfl, rfl, rfl, rfl⟩ := H
                  have hcz21_0 : wc.cell? ⟨gb125, 0, none⟩ = some (.string (⟨#[]⟩ : ByteArray)) := (blk_cell BK125.out 0).trans rfl
                  have hcz21_1 : wc.cell? ⟨gb125, 1, none⟩ = some (.int .i64 0) := (blk_cell BK125.out 1).trans rfl
                  have hfz21_0 := blk_frozen BK125.out 0
                  have hfz21_1 := blk_frozen BK125.out 1
                  go_wp2
                  refine bodyPost_ret (results_ctt rfl _ _ gb125 63 #[.string (⟨#[]⟩ : ByteArray), .int .i64 0] (0, 0) _ rfl (by (with_reducible repeat (first | refine blk_drewN ?_ _ | refine blk_drew ?_ | refine blk_alloc ?_ _)); refine blk_put (cs := #[.string (⟨#[]⟩ : ByteArray), .int .i64 0]) ?_ 1 _ rfl; (with_reducible repeat (first | refine blk_drewN ?_ _ | refine blk_drew ?_ | refine blk_alloc ?_ _)); refine blk_put (cs := #[.string (⟨#[]⟩ : ByteArray), .int .i64 0]) ?_ 0 _ rfl; (with_reducible repeat (first | refine blk_drewN ?_ _ | refine blk_drew ?_ | refine blk_alloc ?_ _)); exact BK125.out) Tryd.underlying63 rfl (by kernel_rfl)) rfl ?_
                  exact ⟨by first | rfl | (simp [errW_none, errW_some] <;> rfl) | (simp [*, errW_none, errW_some] <;> rfl), by repeat (first | (with_reducible first | exact HB.out | apply below_alloc | apply pw_below_drewN | apply below_drew1 | refine below_set ?_ GE125.out) | exact HB.out)⟩
                · replace c20 := Bool.eq_false_iff.mpr c20
                  subst c20
                  have H1 : ((sorrelref07_skip.f kj10 a0 (wrap64 (t129 + 1))).bind fun t130 => ((sorrelref01_Rune.f a0 t130).bind fun t131 => (if t131 = 45 then (sorrelref07_bind.j1 kj10 a0 t130 (a0.extract (a1 : Int).toNat (t126 : Int).toNat) t130 true) else (sorrelref07_bind.j1 kj10 a0 t130 (a0.extract (a1 : Int).toNat (t126 : Int).toNat) t130 (t131 == 8722))))) = some (r1, r2, r3, r4) := by rw [if_neg (show ¬ (false = true) by decide)] at H; exact H
                  clear H
                  have H := H1
                  clear H1
                  replace H := Option.bind_eq_some_iff.mp H
                  obtain ⟨t130, A220, H⟩ := H
                  replace H : ((sorrelref01_Rune.f a0 t130).bind fun t131 => (if t131 = 45 then (sorrelref07_bind.j1 kj10 a0 t130 (a0.extract (a1 : Int).toNat (t126 : Int).toNat) t130 true) else (sorrelref07_bind.j1 kj10 a0 t130 (a0.extract (a1 : Int).toNat (t126 : Int).toNat) t130 (t131 == 8722)))) = some (r1, r2, r3, r4) := H
                  have A22 := Aside0.mk A220
                  clear A220
                  replace H := Option.bind_eq_some_iff.mp H
                  obtain ⟨t131, A230, H⟩ := H
                  replace H : (if t131 = 45 then (sorrelref07_bind.j1 kj10 a0 t130 (a0.extract (a1 : Int).toNat (t126 : Int).toNat) t130 true) else (sorrelref07_bind.j1 kj10 a0 t130 (a0.extract (a1 : Int).toNat (t126 : Int).toNat) t130 (t131 == 8722))) = some (r1, r2, r3, r4) := H
                  have A23 := Aside0.mk A230
                  clear A230
                  have HC24 := Aside0.mk H
                  clear H
                  go_upto_region 13 with (first | ((with_reducible refine gate_callee (f := 50) rfl ?_); refine goesL_ (some 55) rfl rfl Tryd.func50 (by kernel_rfl) rfl #[.string a0, .int .i64 (wrap64 (t129 + 1))] rfl (by (try simp only [List.map_toArray, List.map_cons, List.map_nil]); first | done | rfl | (simp only [List.length_drop, List.length_take]; rfl)) ?_; (with_reducible refine (sorrelref07_skip.calls kj10 a0 (wrap64 (t129 + 1)) t130 _ A22.out).mono ?_); rintro e w25 ⟨rfl, hb⟩; refine ⟨_, rfl, ?_⟩; have n0_ := Aside0.mk (blk_below (g := gb125) (o := .cells #[.string (⟨#[]⟩ : ByteArray), .int .i64 0] 63 (0, 0)) (by (with_reducible repeat (first | refine blk_drewN ?_ _ | refine blk_drew ?_ | refine blk_alloc ?_ _)); exact BK125.out) hb); have n1_ := Aside0.mk (below_step (by repeat (first | (with_reducible first | exact HB.out | apply below_alloc | apply pw_below_drewN | apply below_drew1 | refine below_set ?_ GE125.out) | exact HB.out)) hb); clear BK125; clear HB; have BK125 := n0_; have HB := n1_; clear n0_ n1_; (try clear hb); (try clear hb2); (try clear hk); (try clear hi)) | ((with_reducible refine gate_callee (f := 42) rfl ?_); refine goesL_ (some 59) rfl rfl Tryd.func42 (by kernel_rfl) rfl #[.string a0, .int .i64 t130] rfl (by (try simp only [List.map_toArray, List.map_cons, List.map_nil]); first | done | rfl | (simp only [List.length_drop, List.length_take]; rfl)) ?_; (with_reducible refine (sorrelref01_Rune.calls a0 t130 t131 _ A23.out).mono ?_); rintro e w26 ⟨rfl, hb⟩; refine ⟨_, rfl, ?_⟩; have n0_ := Aside0.mk (blk_below (g := gb125) (o := .cells #[.string (⟨#[]⟩ : ByteArray), .int .i64 0] 63 (0, 0)) (by (with_reducible repeat (first | refine blk_drewN ?_ _ | refine blk_drew ?_ | refine blk_alloc ?_ _)); exact BK125.out) hb); have n1_ := Aside0.mk (below_step (by repeat (first | (with_reducible first | exact HB.out | apply below_alloc | apply pw_below_drewN | apply below_drew1 | refine below_set ?_ GE125.out) | exact HB.out)) hb); clear BK125; clear HB; have BK125 := n0_; have HB := n1_; clear n0_ n1_; (try clear hb); (try clear hb2); (try clear hk); (try clear hi)))
                  (try simp only [Act.put, List.setIfInBounds_toArray, List.set_cons_zero, List.set_cons_succ])
                  go_cut [65] (fun v65 wc => ∃ (kq : Nat) (x65_23 : Bool), v65 = .bool x65_23 ∧ Aside0 (sorrelref07_bind.j1 kq a0 t130 (a0.extract (a1 : Int).toNat (t126 : Int).toNat) t130 x65_23 = some (r1, r2, r3, r4)) ∧ Aside0 (kq ≤ kj10) ∧ Aside0 (wc.heap[gb125]? = some (.cells #[.string (⟨#[]⟩ : ByteArray), .int .i64 0] 63 (0, 0))) ∧ Aside0 (Below w.heap.size w wc))
                  case first =>
                    have H := HC24.out
                    clear HC24
                    by_cases c27 : t131 = 45
                    · rw [if_pos c27] at H
                      have c27b0 : (t131 == 45) = true := beq_iff_eq.mpr c27
                      have c27b1 : (t131 != 45) = false := bne_eq_false_iff_eq.mpr c27
                      clear c27
                      (first | rw [c27b0] | (simp only [i64_w, i32_w]; rw [c27b0]) | skip)
                      have H' := Aside0.mk H
                      clear H
                      go_wp2
                      go_meet
                      case rel => exact ⟨_, (true), (by first | rfl | (simp; done) | (simp [*]; done)), H', ⟨by have := HJ10.out; first | omega | exact Nat.le_refl _⟩, ⟨by (with_reducible repeat (first | refine blk_drewN ?_ _ | refine blk_drew ?_ | refine blk_alloc ?_ _)); exact BK125.out⟩, ⟨by repeat (first | (with_reducible first | exact HB.out | apply below_alloc | apply pw_below_drewN | apply below_drew1 | refine below_set ?_ GE125.out) | exact HB.out)⟩⟩
                    · rw [if_neg c27] at H
                      have c27b0 : (t131 == 45) = false := beq_eq_false_iff_ne.mpr c27
                      have c27b1 : (t131 != 45) = true := bne_iff_ne.mpr c27
                      (first | rw [c27b0] | (simp only [i64_w, i32_w]; rw [c27b0]) | skip)
                      have H' := Aside0.mk H
                      clear H
                      go_wp2
                      go_meet
                      case rel => exact ⟨_, ((t131 == 8722)), (by first | rfl | (simp; done) | (simp [*]; done)), H', ⟨by have := HJ10.out; first | omega | exact Nat.le_refl _⟩, ⟨by (with_reducible repeat (first | refine blk_drewN ?_ _ | refine blk_drew ?_ | refine blk_alloc ?_ _)); exact BK125.out⟩, ⟨by repeat (first | (with_reducible first | exact HB.out | apply below_alloc | apply pw_below_drewN | apply below_drew1 | refine below_set ?_ GE125.out) | exact HB.out)⟩⟩
                  case rest =>
                    clear HC24
                    try clear c1
                    try clear p1
                    try clear q1
                    try clear hx1
                    try clear c2
                    try clear p2
                    try clear c4
                    try clear c4b0
                    try clear c4b1
                    try clear c5
                    try clear c5b0
                    try clear c5b1
                    try clear c6
                    try clear c6b0
                    try clear c6b1
                    try clear p6
                    try clear c7
                    try clear c7b0
                    try clear c7b1
                    try clear c9
                    try clear c16
                    try clear c16b0
                    try clear c17
                    try clear c17b0
                    try clear c18
                    try clear c18b0
                    try clear p19
                    try clear q19
                    try clear hx19
                    try clear c20
                    try clear c27
                    try clear c27b0
                    try clear c27b1
                    try clear hcz21_0
                    try clear hcz21_1
                    try clear hfz21_0
                    try clear hfz21_1
                    try clear p1
                    try clear p19
                    try clear p2
                    try clear q1
                    try clear q19
                    obtain ⟨kq, x65_23, rfl, HA, HJ23, BK125, HB⟩ := hcut
                    cases kq with
                    | zero => exact absurd HA.out (by simp [sorrelref07_bind.j1])
                    | succ kj23 =>
                      have H := HA.out
                      clear HA
                      simp only [sorrelref07_bind.j1] at H
                      have HC28 := Aside0.mk H
                      clear H
                      go_upto_if 65 with (fail)
                      go_cut [1] (fun v1 wc => ∃ (kq : Nat) (x1_27 : Int), v1 = .int .i64 x1_27 ∧ Aside0 (sorrelref07_bind.j2 kq a0 x1_27 (a0.extract (a1 : Int).toNat (t126 : Int).toNat) t130 = some (r1, r2, r3, r4)) ∧ Aside0 (kq ≤ kj23) ∧ Aside0 (wc.heap[gb125]? = some (.cells #[.string (⟨#[]⟩ : ByteArray), .int .i64 0] 63 (0, 0))) ∧ Aside0 (Below w.heap.size w wc))
                      case first =>
                        have H := HC28.out
                        clear HC28
                        by_cases c29 : x65_23 = true
                        · subst c29
                          have H1 : ((sorrelref01_Width.f a0 t130).bind fun t132 => (sorrelref07_bind.j2 kj23 a0 (wrap64 (t130 + t132)) (a0.extract (a1 : Int).toNat (t126 : Int).toNat) t130)) = some (r1, r2, r3, r4) := by rw [if_pos rfl] at H; exact H
                          clear H
                          have H := H1
                          clear H1
                          replace H := Option.bind_eq_some_iff.mp H
                          obtain ⟨t132, A300, H⟩ := H
                          replace H : (sorrelref07_bind.j2 kj23 a0 (wrap64 (t130 + t132)) (a0.extract (a1 : Int).toNat (t126 : Int).toNat) t130) = some (r1, r2, r3, r4) := H
                          have A30 := Aside0.mk A300
                          clear A300
                          have H' := Aside0.mk H
                          clear H
                          go_wp2_with (first | ((with_reducible refine gate_callee (f := 45) rfl ?_); refine goesL_ (some 69) rfl rfl Tryd.func45 (by kernel_rfl) rfl #[.string a0, .int .i64 t130] rfl (by (try simp only [List.map_toArray, List.map_cons, List.map_nil]); first | done | rfl | (simp only [List.length_drop, List.length_take]; rfl)) ?_; (with_reducible refine (sorrelref01_Width.calls a0 t130 t132 _ A30.out).mono ?_); rintro e w31 ⟨rfl, hb⟩; refine ⟨_, rfl, ?_⟩; have n0_ := Aside0.mk (blk_below (g := gb125) (o := .cells #[.string (⟨#[]⟩ : ByteArray), .int .i64 0] 63 (0, 0)) (by (with_reducible repeat (first | refine blk_drewN ?_ _ | refine blk_drew ?_ | refine blk_alloc ?_ _)); exact BK125.out) hb); have n1_ := Aside0.mk (below_step (by repeat (first | (with_reducible first | exact HB.out | apply below_alloc | apply pw_below_drewN | apply below_drew1 | refine below_set ?_ GE125.out) | exact HB.out)) hb); clear BK125; clear HB; have BK125 := n0_; have HB := n1_; clear n0_ n1_; (try clear hb); (try clear hb2); (try clear hk); (try clear hi)))
                          go_meet
                          case rel => exact ⟨_, (wrap64 (t130 + t132)), (by first | rfl | (simp; done) | (simp [*]; done)), H', ⟨by have := HJ10.out; have := HJ23.out; first | omega | exact Nat.le_refl _⟩, ⟨by (with_reducible repeat (first | refine blk_drewN ?_ _ | refine blk_drew ?_ | refine blk_alloc ?_ _)); exact BK125.out⟩, ⟨by repeat (first | (with_reducible first | exact HB.out | apply below_alloc | apply pw_below_drewN | apply below_drew1 | refine below_set ?_ GE125.out) | exact HB.out)⟩⟩
                        · replace c29 := Bool.eq_false_iff.mpr c29
                          subst c29
                          have H1 : (sorrelref07_bind.j2 kj23 a0 t130 (a0.extract (a1 : Int).toNat (t126 : Int).toNat) t130) = some (r1, r2, r3, r4) := by rw [if_neg (show ¬ (false = true) by decide)] at H; exact H
                          clear H
                          have H := H1
                          clear H1
                          have H' := Aside0.mk H
                          clear H
                          go_wp2
                          go_meet
                          case rel => exact ⟨_, (t130), (by first | rfl | (simp; done) | (simp [*]; done)), H', ⟨by have := HJ10.out; have := HJ23.out; first | omega | exact Nat.le_refl _⟩, ⟨by (with_reducible repeat (first | refine blk_drewN ?_ _ | refine blk_drew ?_ | refine blk_alloc ?_ _)); exact BK125.out⟩, ⟨by repeat (first | (with_reducible first | exact HB.out | apply below_alloc | apply pw_below_drewN | apply below_drew1 | refine below_set ?_ GE125.out) | exact HB.out)⟩⟩
                      case rest =>
                        clear HC28
                        try clear c1
                        try clear p1
                        try clear q1
                        try clear hx1
                        try clear c2
                        try clear p2
                        try clear c4
                        try clear c4b0
                        try clear c4b1
                        try clear c5
                        try clear c5b0
                        try clear c5b1
                        try clear c6
                        try clear c6b0
                        try clear c6b1
                        try clear p6
                        try clear c7
                        try clear c7b0
                        try clear c7b1
                        try clear c9
                        try clear c16
                        try clear c16b0
                        try clear c17
                        try clear c17b0
                        try clear c18
                        try clear c18b0
                        try clear p19
                        try clear q19
                        try clear hx19
                        try clear c20
                        try clear c27
                        try clear c27b0
                        try clear c27b1
                        try clear c29
                        try clear hcz21_0
                        try clear hcz21_1
                        try clear hfz21_0
                        try clear hfz21_1
                        try clear p1
                        try clear p19
                        try clear p2
                        try clear p6
                        try clear q1
                        try clear q19
                        obtain ⟨kq, x1_27, rfl, HA, HJ27, BK125, HB⟩ := hcut
                        cases kq with
                        | zero => exact absurd HA.out (by simp [sorrelref07_bind.j2])
                        | succ kj27 =>
                          have H := HA.out
                          clear HA
                          simp only [sorrelref07_bind.j2] at H
                          replace H := Option.bind_eq_some_iff.mp H
                          obtain ⟨t133, A320, H⟩ := H
                          replace H : ((sorrelref01_Digit.f t133).bind fun bt134 => (if bt134.2 = 0 then (some ((⟨#[]⟩ : ByteArray), 0, t130, 6)) else (sorrelref07_bind.l0 kj27 a0 x1_27 (a0.extract (a1 : Int).toNat (t126 : Int).toNat) t130 x1_27 bt134.2))) = some (r1, r2, r3, r4) := H
                          have A32 := Aside0.mk A320
                          clear A320
                          replace H := Option.bind_eq_some_iff.mp H
                          obtain ⟨⟨t134, t135⟩, A330, H⟩ := H
                          replace H : (if t135 = 0 then (some ((⟨#[]⟩ : ByteArray), 0, t130, 6)) else (sorrelref07_bind.l0 kj27 a0 x1_27 (a0.extract (a1 : Int).toNat (t126 : Int).toNat) t130 x1_27 t135)) = some (r1, r2, r3, r4) := H
                          have A33 := Aside0.mk A330
                          clear A330
                          by_cases c34 : t135 = 0
                          · rw [if_pos c34] at H
                            have c34b0 : (t135 == 0) = true := beq_iff_eq.mpr c34
                            have c34b1 : (t135 != 0) = false := bne_eq_false_iff_eq.mpr c34
                            clear c34
                            simp only [Option.some.injEq, Prod.mk.injEq] at H
                            obtain ⟨rfl, rfl, rfl, rfl⟩ := H
                            go_wp2_with (first | ((with_reducible refine gate_callee (f := 42) rfl ?_); refine goesL_ (some 75) rfl rfl Tryd.func42 (by kernel_rfl) rfl #[.string a0, .int .i64 x1_27] rfl (by (try simp only [List.map_toArray, List.map_cons, List.map_nil]); first | done | rfl | (simp only [List.length_drop, List.length_take]; rfl)) ?_; (with_reducible refine (sorrelref01_Rune.calls a0 x1_27 t133 _ A32.out).mono ?_); rintro e w35 ⟨rfl, hb⟩; refine ⟨_, rfl, ?_⟩; have n0_ := Aside0.mk (blk_below (g := gb125) (o := .cells #[.string (⟨#[]⟩ : ByteArray), .int .i64 0] 63 (0, 0)) (by (with_reducible repeat (first | refine blk_drewN ?_ _ | refine blk_drew ?_ | refine blk_alloc ?_ _)); exact BK125.out) hb); have n1_ := Aside0.mk (below_step (by repeat (first | (with_reducible first | exact HB.out | apply below_alloc | apply pw_below_drewN | apply below_drew1 | refine below_set ?_ GE125.out) | exact HB.out)) hb); clear BK125; clear HB; have BK125 := n0_; have HB := n1_; clear n0_ n1_; (try clear hb); (try clear hb2); (try clear hk); (try clear hi)) | ((with_reducible refine gate_callee (f := 75) rfl ?_); refine goesL_ (some 76) rfl rfl Tryd.func75 (by kernel_rfl) rfl #[.int .i32 t133] rfl (by (try simp only [List.map_toArray, List.map_cons, List.map_nil]); first | done | rfl | (simp only [List.length_drop, List.length_take]; rfl)) ?_; (with_reducible refine (sorrelref01_Digit.calls t133 t134 t135 _ A33.out).mono ?_); rintro e w' ⟨rfl, ⟨nd, rfl⟩⟩; refine ⟨_, rfl, ?_⟩; (try (rw [drewN_self w35]; generalize hq_ : World.drewN w35 _ = w35; have n0_ : Aside0 (w35.heap[gb125]? = some (.cells #[.string (⟨#[]⟩ : ByteArray), .int .i64 0] 63 (0, 0))) := ⟨by rw [← hq_]; exact (by (with_reducible repeat (first | refine blk_drewN ?_ _ | refine blk_drew ?_ | refine blk_alloc ?_ _)); exact BK125.out)⟩; have n1_ : Aside0 (Below w.heap.size w w35) := ⟨by rw [← hq_]; exact (by repeat (first | (with_reducible first | exact HB.out | apply below_alloc | apply pw_below_drewN | apply below_drew1 | refine below_set ?_ GE125.out) | exact HB.out))⟩; clear BK125 HB hq_; have BK125 := n0_; have HB := n1_; clear n0_ n1_)); have hcz36_0 : w35.cell? ⟨gb125, 0, none⟩ = some (.string (⟨#[]⟩ : ByteArray)) := (blk_cell BK125.out 0).trans rfl; have hcz36_1 : w35.cell? ⟨gb125, 1, none⟩ = some (.int .i64 0) := (blk_cell BK125.out 1).trans rfl; have hfz36_0 := blk_frozen BK125.out 0; have hfz36_1 := blk_frozen BK125.out 1))
                            refine bodyPost_ret (results_ctt rfl _ _ gb125 63 #[.string (⟨#[]⟩ : ByteArray), .int .i64 0] (0, 0) _ rfl (by (with_reducible repeat (first | refine blk_drewN ?_ _ | refine blk_drew ?_ | refine blk_alloc ?_ _)); refine blk_put (cs := #[.string (⟨#[]⟩ : ByteArray), .int .i64 0]) ?_ 1 _ rfl; (with_reducible repeat (first | refine blk_drewN ?_ _ | refine blk_drew ?_ | refine blk_alloc ?_ _)); refine blk_put (cs := #[.string (⟨#[]⟩ : ByteArray), .int .i64 0]) ?_ 0 _ rfl; (with_reducible repeat (first | refine blk_drewN ?_ _ | refine blk_drew ?_ | refine blk_alloc ?_ _)); exact BK125.out) Tryd.underlying63 rfl (by kernel_rfl)) rfl ?_
                            exact ⟨by first | rfl | (simp [errW_none, errW_some] <;> rfl) | (simp [*, errW_none, errW_some] <;> rfl), by repeat (first | (with_reducible first | exact HB.out | apply below_alloc | apply pw_below_drewN | apply below_drew1 | refine below_set ?_ GE125.out) | exact HB.out)⟩
                          · rw [if_neg c34] at H
                            have c34b0 : (t135 == 0) = false := beq_eq_false_iff_ne.mpr c34
                            have c34b1 : (t135 != 0) = true := bne_iff_ne.mpr c34
                            have HC37 := Aside0.mk H
                            clear H
                            go_upto_block 0 with (first | ((with_reducible refine gate_callee (f := 42) rfl ?_); refine goesL_ (some 75) rfl rfl Tryd.func42 (by kernel_rfl) rfl #[.string a0, .int .i64 x1_27] rfl (by (try simp only [List.map_toArray, List.map_cons, List.map_nil]); first | done | rfl | (simp only [List.length_drop, List.length_take]; rfl)) ?_; (with_reducible refine (sorrelref01_Rune.calls a0 x1_27 t133 _ A32.out).mono ?_); rintro e w38 ⟨rfl, hb⟩; refine ⟨_, rfl, ?_⟩; have n0_ := Aside0.mk (blk_below (g := gb125) (o := .cells #[.string (⟨#[]⟩ : ByteArray), .int .i64 0] 63 (0, 0)) (by (with_reducible repeat (first | refine blk_drewN ?_ _ | refine blk_drew ?_ | refine blk_alloc ?_ _)); exact BK125.out) hb); have n1_ := Aside0.mk (below_step (by repeat (first | (with_reducible first | exact HB.out | apply below_alloc | apply pw_below_drewN | apply below_drew1 | refine below_set ?_ GE125.out) | exact HB.out)) hb); clear BK125; clear HB; have BK125 := n0_; have HB := n1_; clear n0_ n1_; (try clear hb); (try clear hb2); (try clear hk); (try clear hi)) | ((with_reducible refine gate_callee (f := 75) rfl ?_); refine goesL_ (some 76) rfl rfl Tryd.func75 (by kernel_rfl) rfl #[.int .i32 t133] rfl (by (try simp only [List.map_toArray, List.map_cons, List.map_nil]); first | done | rfl | (simp only [List.length_drop, List.length_take]; rfl)) ?_; (with_reducible refine (sorrelref01_Digit.calls t133 t134 t135 _ A33.out).mono ?_); rintro e w' ⟨rfl, ⟨nd, rfl⟩⟩; refine ⟨_, rfl, ?_⟩))
                            (try simp only [Act.put, List.setIfInBounds_toArray, List.set_cons_zero, List.set_cons_succ])
                            go_cut [1] (fun v1 wc => ∃ (kq : Nat) (x1_36 : Int), v1 = .int .i64 x1_36 ∧ Aside0 (sorrelref07_bind.j4 kq a0 x1_36 (a0.extract (a1 : Int).toNat (t126 : Int).toNat) t130 x1_27 = some (r1, r2, r3, r4)) ∧ Aside0 (kq ≤ kj27) ∧ Aside0 (wc.heap[gb125]? = some (.cells #[.string (⟨#[]⟩ : ByteArray), .int .i64 0] 63 (0, 0))) ∧ Aside0 (Below w.heap.size w wc))
                            case first =>
                              have H := HC37.out
                              clear HC37
                              have H' := Aside0.mk H
                              clear H
                              go_wp2
                              go_loopg [1] kj27 (fun kq v1 w' => ∃ (x1_4 : Int), v1 = .int .i64 x1_4 ∧ Aside0 (sorrelref07_bind.l0 kq a0 x1_4 (a0.extract (a1 : Int).toNat (t126 : Int).toNat) t130 x1_27 t135 = some (r1, r2, r3, r4)) ∧ Aside0 (kq ≤ kj27) ∧ Aside0 (w'.heap[gb125]? = some (.cells #[.string (⟨#[]⟩ : ByteArray), .int .i64 0] 63 (0, 0))) ∧ Aside0 (Below w.heap.size w w'))
                              case atStart => exact ⟨(x1_27), (by first | rfl | (simp; done) | (simp [*]; done)), H', ⟨Nat.le_refl _⟩, ⟨by (with_reducible repeat (first | refine blk_drewN ?_ _ | refine blk_drew ?_ | refine blk_alloc ?_ _)); exact BK125.out⟩, ⟨by repeat (first | (with_reducible first | exact HB.out | apply below_alloc | apply pw_below_drewN | apply below_drew1 | refine below_set ?_ GE125.out) | exact HB.out)⟩⟩
                              case round =>
                                clear H'
                                try clear c1
                                try clear p1
                                try clear q1
                                try clear hx1
                                try clear c2
                                try clear p2
                                try clear c3
                                try clear c4
                                try clear c4b0
                                try clear c4b1
                                try clear c5
                                try clear c5b0
                                try clear c5b1
                                try clear c6
                                try clear c6b0
                                try clear c6b1
                                try clear p6
                                try clear c7
                                try clear c7b0
                                try clear c7b1
                                try clear c9
                                try clear c16
                                try clear c16b0
                                try clear c17
                                try clear c17b0
                                try clear c18
                                try clear c18b0
                                try clear p19
                                try clear q19
                                try clear hx19
                                try clear c20
                                try clear c27
                                try clear c27b0
                                try clear c27b1
                                try clear c29
                                try clear c34
                                try clear c34b0
                                try clear c34b1
                                try clear hcz21_0
                                try clear hcz21_1
                                try clear hcz36_0
                                try clear hcz36_1
                                try clear hfz21_0
                                try clear hfz21_1
                                try clear hfz36_0
                                try clear hfz36_1
                                try clear p1
                                try clear p19
                                try clear p2
                                try clear p6
                                try clear q1
                                try clear q19
                                obtain ⟨x1_4, rfl, HA, HK4, BK125, HB⟩ := hrel
                                cases gk with
                                | zero => exact absurd HA.out (by simp [sorrelref07_bind.l0])
                                | succ k4 =>
                                  have H := HA.out
                                  clear HA
                                  simp only [sorrelref07_bind.l0] at H
                                  by_cases c39 : x1_4 < (a0.size : Int)
                                  · rw [if_pos c39] at H
                                    have c39b0 : decide (x1_4 < (a0.size : Int)) = true := decide_eq_true c39
                                    clear c39
                                    (first | rw [c39b0] | (simp only [i64_w, i32_w]; rw [c39b0]) | skip)
                                    replace H := Option.bind_eq_some_iff.mp H
                                    obtain ⟨t136, A400, H⟩ := H
                                    replace H : ((sorrelref01_Digit.f t136).bind fun bt137 => (if bt137.2 = t135 then ((sorrelref01_Width.f a0 x1_4).bind fun t139 => (sorrelref07_bind.l0 k4 a0 (wrap64 (x1_4 + t139)) (a0.extract (a1 : Int).toNat (t126 : Int).toNat) t130 x1_27 t135)) else (sorrelref07_bind.j4 k4 a0 x1_4 (a0.extract (a1 : Int).toNat (t126 : Int).toNat) t130 x1_27))) = some (r1, r2, r3, r4) := H
                                    have A40 := Aside0.mk A400
                                    clear A400
                                    replace H := Option.bind_eq_some_iff.mp H
                                    obtain ⟨⟨t137, t138⟩, A410, H⟩ := H
                                    replace H : (if t138 = t135 then ((sorrelref01_Width.f a0 x1_4).bind fun t139 => (sorrelref07_bind.l0 k4 a0 (wrap64 (x1_4 + t139)) (a0.extract (a1 : Int).toNat (t126 : Int).toNat) t130 x1_27 t135)) else (sorrelref07_bind.j4 k4 a0 x1_4 (a0.extract (a1 : Int).toNat (t126 : Int).toNat) t130 x1_27)) = some (r1, r2, r3, r4) := H
                                    have A41 := Aside0.mk A410
                                    clear A410
                                    by_cases c42 : t138 = t135
                                    · rw [if_pos c42] at H
                                      have c42b0 : (t138 == t135) = true := beq_iff_eq.mpr c42
                                      have c42b1 : (t138 != t135) = false := bne_eq_false_iff_eq.mpr c42
                                      clear c42
                                      replace H := Option.bind_eq_some_iff.mp H
                                      obtain ⟨t139, A430, H⟩ := H
                                      replace H : (sorrelref07_bind.l0 k4 a0 (wrap64 (x1_4 + t139)) (a0.extract (a1 : Int).toNat (t126 : Int).toNat) t130 x1_27 t135) = some (r1, r2, r3, r4) := H
                                      have A43 := Aside0.mk A430
                                      clear A430
                                      have H' := Aside0.mk H
                                      clear H
                                      go_wp2_with (first | ((with_reducible refine gate_callee (f := 42) rfl ?_); refine goesL_ (some 90) rfl rfl Tryd.func42 (by kernel_rfl) rfl #[.string a0, .int .i64 x1_4] rfl (by (try simp only [List.map_toArray, List.map_cons, List.map_nil]); first | done | rfl | (simp only [List.length_drop, List.length_take]; rfl)) ?_; (with_reducible refine (sorrelref01_Rune.calls a0 x1_4 t136 _ A40.out).mono ?_); rintro e w44 ⟨rfl, hb⟩; refine ⟨_, rfl, ?_⟩; have n0_ := Aside0.mk (blk_below (g := gb125) (o := .cells #[.string (⟨#[]⟩ : ByteArray), .int .i64 0] 63 (0, 0)) (by (with_reducible repeat (first | refine blk_drewN ?_ _ | refine blk_drew ?_ | refine blk_alloc ?_ _)); exact BK125.out) hb); have n1_ := Aside0.mk (below_step (by repeat (first | (with_reducible first | exact HB.out | apply below_alloc | apply pw_below_drewN | apply below_drew1 | refine below_set ?_ GE125.out) | exact HB.out)) hb); clear BK125; clear HB; have BK125 := n0_; have HB := n1_; clear n0_ n1_; (try clear hb); (try clear hb2); (try clear hk); (try clear hi)) | ((with_reducible refine gate_callee (f := 75) rfl ?_); refine goesL_ (some 91) rfl rfl Tryd.func75 (by kernel_rfl) rfl #[.int .i32 t136] rfl (by (try simp only [List.map_toArray, List.map_cons, List.map_nil]); first | done | rfl | (simp only [List.length_drop, List.length_take]; rfl)) ?_; (with_reducible refine (sorrelref01_Digit.calls t136 t137 t138 _ A41.out).mono ?_); rintro e w' ⟨rfl, ⟨nd, rfl⟩⟩; refine ⟨_, rfl, ?_⟩) | ((with_reducible refine gate_callee (f := 45) rfl ?_); refine goesL_ (some 100) rfl rfl Tryd.func45 (by kernel_rfl) rfl #[.string a0, .int .i64 x1_4] rfl (by (try simp only [List.map_toArray, List.map_cons, List.map_nil]); first | done | rfl | (simp only [List.length_drop, List.length_take]; rfl)) ?_; (with_reducible refine (sorrelref01_Width.calls a0 x1_4 t139 _ A43.out).mono ?_); rintro e w45 ⟨rfl, hb⟩; refine ⟨_, rfl, ?_⟩; have n0_ := Aside0.mk (blk_below (g := gb125) (o := .cells #[.string (⟨#[]⟩ : ByteArray), .int .i64 0] 63 (0, 0)) (by (with_reducible repeat (first | refine blk_drewN ?_ _ | refine blk_drew ?_ | refine blk_alloc ?_ _)); exact BK125.out) hb); have n1_ := Aside0.mk (below_step (by repeat (first | (with_reducible first | exact HB.out | apply below_alloc | apply pw_below_drewN | apply below_drew1 | refine below_set ?_ GE125.out) | exact HB.out)) hb); clear BK125; clear HB; have BK125 := n0_; have HB := n1_; clear n0_ n1_; (try clear hb); (try clear hb2); (try clear hk); (try clear hi)))
                                      go_roundg k4
                                      case measure => have := HJ10.out; have := HJ23.out; have := HJ27.out; have := HK4.out; omega
                                      case rel => exact ⟨(wrap64 (x1_4 + t139)), (by first | rfl | (simp; done) | (simp [*]; done)), H', ⟨by have := HJ10.out; have := HJ23.out; have := HJ27.out; have := HK4.out; omega⟩, ⟨by (with_reducible repeat (first | refine blk_drewN ?_ _ | refine blk_drew ?_ | refine blk_alloc ?_ _)); exact BK125.out⟩, ⟨by repeat (first | (with_reducible first | exact HB.out | apply below_alloc | apply pw_below_drewN | apply below_drew1 | refine below_set ?_ GE125.out) | exact HB.out)⟩⟩
                                    · rw [if_neg c42] at H
                                      have c42b0 : (t138 == t135) = false := beq_eq_false_iff_ne.mpr c42
                                      have c42b1 : (t138 != t135) = true := bne_iff_ne.mpr c42
                                      have H' := Aside0.mk H
                                      clear H
                                      go_wp2_with (first | ((with_reducible refine gate_callee (f := 42) rfl ?_); refine goesL_ (some 90) rfl rfl Tryd.func42 (by kernel_rfl) rfl #[.string a0, .int .i64 x1_4] rfl (by (try simp only [List.map_toArray, List.map_cons, List.map_nil]); first | done | rfl | (simp only [List.length_drop, List.length_take]; rfl)) ?_; (with_reducible refine (sorrelref01_Rune.calls a0 x1_4 t136 _ A40.out).mono ?_); rintro e w46 ⟨rfl, hb⟩; refine ⟨_, rfl, ?_⟩; have n0_ := Aside0.mk (blk_below (g := gb125) (o := .cells #[.string (⟨#[]⟩ : ByteArray), .int .i64 0] 63 (0, 0)) (by (with_reducible repeat (first | refine blk_drewN ?_ _ | refine blk_drew ?_ | refine blk_alloc ?_ _)); exact BK125.out) hb); have n1_ := Aside0.mk (below_step (by repeat (first | (with_reducible first | exact HB.out | apply below_alloc | apply pw_below_drewN | apply below_drew1 | refine below_set ?_ GE125.out) | exact HB.out)) hb); clear BK125; clear HB; have BK125 := n0_; have HB := n1_; clear n0_ n1_; (try clear hb); (try clear hb2); (try clear hk); (try clear hi)) | ((with_reducible refine gate_callee (f := 75) rfl ?_); refine goesL_ (some 91) rfl rfl Tryd.func75 (by kernel_rfl) rfl #[.int .i32 t136] rfl (by (try simp only [List.map_toArray, List.map_cons, List.map_nil]); first | done | rfl | (simp only [List.length_drop, List.length_take]; rfl)) ?_; (with_reducible refine (sorrelref01_Digit.calls t136 t137 t138 _ A41.out).mono ?_); rintro e w' ⟨rfl, ⟨nd, rfl⟩⟩; refine ⟨_, rfl, ?_⟩))
                                      go_meet
                                      case rel => exact ⟨_, (x1_4), (by first | rfl | (simp; done) | (simp [*]; done)), H', ⟨by have := HJ10.out; have := HJ23.out; have := HJ27.out; have := HK4.out; first | omega | exact Nat.le_refl _⟩, ⟨by (with_reducible repeat (first | refine blk_drewN ?_ _ | refine blk_drew ?_ | refine blk_alloc ?_ _)); exact BK125.out⟩, ⟨by repeat (first | (with_reducible first | exact HB.out | apply below_alloc | apply pw_below_drewN | apply below_drew1 | refine below_set ?_ GE125.out) | exact HB.out)⟩⟩
                                  · rw [if_neg c39] at H
                                    have c39b0 : decide (x1_4 < (a0.size : Int)) = false := decide_eq_false c39
                                    clear c39
                                    (first | rw [c39b0] | (simp only [i64_w, i32_w]; rw [c39b0]) | skip)
                                    have H' := Aside0.mk H
                                    clear H
                                    go_wp2
                                    go_meet
                                    case rel => exact ⟨_, (x1_4), (by first | rfl | (simp; done) | (simp [*]; done)), H', ⟨by have := HJ10.out; have := HJ23.out; have := HJ27.out; have := HK4.out; first | omega | exact Nat.le_refl _⟩, ⟨by (with_reducible repeat (first | refine blk_drewN ?_ _ | refine blk_drew ?_ | refine blk_alloc ?_ _)); exact BK125.out⟩, ⟨by repeat (first | (with_reducible first | exact HB.out | apply below_alloc | apply pw_below_drewN | apply below_drew1 | refine below_set ?_ GE125.out) | exact HB.out)⟩⟩
                            case rest =>
                              clear HC37
                              try clear c1
                              try clear p1
                              try clear q1
                              try clear hx1
                              try clear c2
                              try clear p2
                              try clear c3
                              try clear c4
                              try clear c4b0
                              try clear c4b1
                              try clear c5
                              try clear c5b0
                              try clear c5b1
                              try clear c6
                              try clear c6b0
                              try clear c6b1
                              try clear p6
                              try clear c7
                              try clear c7b0
                              try clear c7b1
                              try clear c9
                              try clear c16
                              try clear c16b0
                              try clear c17
                              try clear c17b0
                              try clear c18
                              try clear c18b0
                              try clear p19
                              try clear q19
                              try clear hx19
                              try clear c20
                              try clear c27
                              try clear c27b0
                              try clear c27b1
                              try clear c29
                              try clear c34
                              try clear c34b0
                              try clear c34b1
                              try clear c39
                              try clear c39b0
                              try clear c42
                              try clear c42b0
                              try clear c42b1
                              try clear c45
                              try clear hcz21_0
                              try clear hcz21_1
                              try clear hcz36_0
                              try clear hcz36_1
                              try clear hfz21_0
                              try clear hfz21_1
                              try clear hfz36_0
                              try clear hfz36_1
                              try clear p1
                              try clear p19
                              try clear p2
                              try clear p6
                              try clear q1
                              try clear q19
                              obtain ⟨kq, x1_36, rfl, HA, HJ36, BK125, HB⟩ := hcut
                              cases kq with
                              | zero => exact absurd HA.out (by simp [sorrelref07_bind.j4])
                              | succ kj36 =>
                                have H := HA.out
                                clear HA
                                simp only [sorrelref07_bind.j4] at H
                                by_cases c47 : 0 ≤ t130
                                · rw [if_pos c47] at H
                                  have c47b0 := eq_true c47
                                  have c47b1 : decide (0 ≤ t130) = true := decide_eq_true c47
                                  clear c47
                                  by_cases c48 : t130 ≤ x1_36
                                  · rw [if_pos c48] at H
                                    have c48b0 := eq_true c48
                                    have c48b1 : decide (t130 ≤ x1_36) = true := decide_eq_true c48
                                    clear c48
                                    by_cases c49 : x1_36 ≤ (a0.size : Int)
                                    · rw [if_pos c49] at H
                                      have c49b0 := eq_true c49
                                      have c49b1 : decide (x1_36 ≤ (a0.size : Int)) = true := decide_eq_true c49
                                      clear c49
                                      replace H := Option.bind_eq_some_iff.mp H
                                      obtain ⟨⟨t140, t141⟩, A500, H⟩ := H
                                      replace H : (if t141 = 0 then ((sorrelref07_skip.f kj36 a0 x1_36).bind fun t142 => (some ((a0.extract (a1 : Int).toNat (t126 : Int).toNat), t140, t142, 0))) else (some ((⟨#[]⟩ : ByteArray), 0, x1_27, 10))) = some (r1, r2, r3, r4) := H
                                      have A50 := Aside0.mk A500
                                      clear A500
                                      by_cases c51 : t141 = 0
                                      · rw [if_pos c51] at H
                                        have c51b0 : (t141 == 0) = true := beq_iff_eq.mpr c51
                                        have c51b1 : (t141 != 0) = false := bne_eq_false_iff_eq.mpr c51
                                        clear c51
                                        replace H := Option.bind_eq_some_iff.mp H
                                        obtain ⟨t142, A520, H⟩ := H
                                        replace H : (some ((a0.extract (a1 : Int).toNat (t126 : Int).toNat), t140, t142, 0)) = some (r1, r2, r3, r4) := H
                                        have A52 := Aside0.mk A520
                                        clear A520
                                        simp only [Option.some.injEq, Prod.mk.injEq] at H
                                        obtain ⟨rfl, rfl, rfl, rfl⟩ := H
                                        go_wp2_with (first | ((with_reducible refine gate_callee (f := 85) rfl ?_); refine goesL_ (some 107) rfl rfl Tryd.func85 (by kernel_rfl) rfl #[.string (a0.extract (t130 : Int).toNat (x1_36 : Int).toNat)] rfl (by (try simp only [List.map_toArray, List.map_cons, List.map_nil]); first | done | rfl | (simp only [List.length_drop, List.length_take]; rfl)) ?_; (with_reducible refine (sorrelref06_Read.calls kj36 (a0.extract (t130 : Int).toNat (x1_36 : Int).toNat) t140 t141 _ A50.out).mono ?_); rintro e w53 ⟨rfl, hb⟩; refine ⟨_, rfl, ?_⟩; have n0_ := Aside0.mk (blk_below (g := gb125) (o := .cells #[.string (⟨#[]⟩ : ByteArray), .int .i64 0] 63 (0, 0)) (by (with_reducible repeat (first | refine blk_drewN ?_ _ | refine blk_drew ?_ | refine blk_alloc ?_ _)); exact BK125.out) hb); have n1_ := Aside0.mk (below_step (by repeat (first | (with_reducible first | exact HB.out | apply below_alloc | apply pw_below_drewN | apply below_drew1 | refine below_set ?_ GE125.out) | exact HB.out)) hb); clear BK125; clear HB; have BK125 := n0_; have HB := n1_; clear n0_ n1_; (try clear hb); (try clear hb2); (try clear hk); (try clear hi)) | ((with_reducible refine gate_callee (f := 50) rfl ?_); refine goesL_ (some 119) rfl rfl Tryd.func50 (by kernel_rfl) rfl #[.string a0, .int .i64 x1_36] rfl (by (try simp only [List.map_toArray, List.map_cons, List.map_nil]); first | done | rfl | (simp only [List.length_drop, List.length_take]; rfl)) ?_; (with_reducible refine (sorrelref07_skip.calls kj36 a0 x1_36 t142 _ A52.out).mono ?_); rintro e w54 ⟨rfl, hb⟩; refine ⟨_, rfl, ?_⟩; have n0_ := Aside0.mk (blk_below (g := gb125) (o := .cells #[.string (⟨#[]⟩ : ByteArray), .int .i64 0] 63 (0, 0)) (by (with_reducible repeat (first | refine blk_drewN ?_ _ | refine blk_drew ?_ | refine blk_alloc ?_ _)); exact BK125.out) hb); have n1_ := Aside0.mk (below_step (by repeat (first | (with_reducible first | exact HB.out | apply below_alloc | apply pw_below_drewN | apply below_drew1 | refine below_set ?_ GE125.out) | exact HB.out)) hb); clear BK125; clear HB; have BK125 := n0_; have HB := n1_; clear n0_ n1_; (try clear hb); (try clear hb2); (try clear hk); (try clear hi); have hcz55_0 : w54.cell? ⟨gb125, 0, none⟩ = some (.string (⟨#[]⟩ : ByteArray)) := (blk_cell BK125.out 0).trans rfl; have hcz55_1 : w54.cell? ⟨gb125, 1, none⟩ = some (.int .i64 0) := (blk_cell BK125.out 1).trans rfl; have hfz55_0 := blk_frozen BK125.out 0; have hfz55_1 := blk_frozen BK125.out 1))
                                        refine bodyPost_ret (results_ctt rfl _ _ gb125 63 #[.string (a0.extract (a1 : Int).toNat (t126 : Int).toNat), .int .i64 t140] (0, 0) _ rfl (by (with_reducible repeat (first | refine blk_drewN ?_ _ | refine blk_drew ?_ | refine blk_alloc ?_ _)); refine blk_put (cs := #[.string (a0.extract (a1 : Int).toNat (t126 : Int).toNat), .int .i64 0]) ?_ 1 _ rfl; (with_reducible repeat (first | refine blk_drewN ?_ _ | refine blk_drew ?_ | refine blk_alloc ?_ _)); refine blk_put (cs := #[.string (⟨#[]⟩ : ByteArray), .int .i64 0]) ?_ 0 _ rfl; (with_reducible repeat (first | refine blk_drewN ?_ _ | refine blk_drew ?_ | refine blk_alloc ?_ _)); exact BK125.out) Tryd.underlying63 rfl (by kernel_rfl)) rfl ?_
                                        exact ⟨by first | rfl | (simp [errW_none, errW_some] <;> rfl) | (simp [*, errW_none, errW_some] <;> rfl), by repeat (first | (with_reducible first | exact HB.out | apply below_alloc | apply pw_below_drewN | apply below_drew1 | refine below_set ?_ GE125.out) | exact HB.out)⟩
                                      · rw [if_neg c51] at H
                                        have c51b0 : (t141 == 0) = false := beq_eq_false_iff_ne.mpr c51
                                        have c51b1 : (t141 != 0) = true := bne_iff_ne.mpr c51
                                        simp only [Option.some.injEq, Prod.mk.injEq] at H
                                        obtain ⟨rfl, rfl, rfl, rfl⟩ := H
                                        go_wp2_with (first | ((with_reducible refine gate_callee (f := 85) rfl ?_); refine goesL_ (some 107) rfl rfl Tryd.func85 (by kernel_rfl) rfl #[.string (a0.extract (t130 : Int).toNat (x1_36 : Int).toNat)] rfl (by (try simp only [List.map_toArray, List.map_cons, List.map_nil]); first | done | rfl | (simp only [List.length_drop, List.length_take]; rfl)) ?_; (with_reducible refine (sorrelref06_Read.calls kj36 (a0.extract (t130 : Int).toNat (x1_36 : Int).toNat) t140 t141 _ A50.out).mono ?_); rintro e w56 ⟨rfl, hb⟩; refine ⟨_, rfl, ?_⟩; have n0_ := Aside0.mk (blk_below (g := gb125) (o := .cells #[.string (⟨#[]⟩ : ByteArray), .int .i64 0] 63 (0, 0)) (by (with_reducible repeat (first | refine blk_drewN ?_ _ | refine blk_drew ?_ | refine blk_alloc ?_ _)); exact BK125.out) hb); have n1_ := Aside0.mk (below_step (by repeat (first | (with_reducible first | exact HB.out | apply below_alloc | apply pw_below_drewN | apply below_drew1 | refine below_set ?_ GE125.out) | exact HB.out)) hb); clear BK125; clear HB; have BK125 := n0_; have HB := n1_; clear n0_ n1_; (try clear hb); (try clear hb2); (try clear hk); (try clear hi); have hcz57_0 : w56.cell? ⟨gb125, 0, none⟩ = some (.string (⟨#[]⟩ : ByteArray)) := (blk_cell BK125.out 0).trans rfl; have hcz57_1 : w56.cell? ⟨gb125, 1, none⟩ = some (.int .i64 0) := (blk_cell BK125.out 1).trans rfl; have hfz57_0 := blk_frozen BK125.out 0; have hfz57_1 := blk_frozen BK125.out 1))
                                        refine bodyPost_ret (results_ctt rfl _ _ gb125 63 #[.string (⟨#[]⟩ : ByteArray), .int .i64 0] (0, 0) _ rfl (by (with_reducible repeat (first | refine blk_drewN ?_ _ | refine blk_drew ?_ | refine blk_alloc ?_ _)); refine blk_put (cs := #[.string (⟨#[]⟩ : ByteArray), .int .i64 0]) ?_ 1 _ rfl; (with_reducible repeat (first | refine blk_drewN ?_ _ | refine blk_drew ?_ | refine blk_alloc ?_ _)); refine blk_put (cs := #[.string (⟨#[]⟩ : ByteArray), .int .i64 0]) ?_ 0 _ rfl; (with_reducible repeat (first | refine blk_drewN ?_ _ | refine blk_drew ?_ | refine blk_alloc ?_ _)); exact BK125.out) Tryd.underlying63 rfl (by kernel_rfl)) rfl ?_
                                        exact ⟨by first | rfl | (simp [errW_none, errW_some] <;> rfl) | (simp [*, errW_none, errW_some] <;> rfl), by repeat (first | (with_reducible first | exact HB.out | apply below_alloc | apply pw_below_drewN | apply below_drew1 | refine below_set ?_ GE125.out) | exact HB.out)⟩
                                    · rw [if_neg c49] at H
                                      exact absurd H (by simp)
                                  · rw [if_neg c48] at H
                                    exact absurd H (by simp)
                                · rw [if_neg c47] at H
                                  exact absurd H (by simp)
          · replace c9 := Bool.eq_false_iff.mpr c9
            subst c9
            have H1 : (some ((⟨#[]⟩ : ByteArray), 0, a1, 7)) = some (r1, r2, r3, r4) := by rw [if_neg (show ¬ (false = true) by decide)] at H; exact H
            clear H
            have H := H1
            clear H1
            simp only [Option.some.injEq, Prod.mk.injEq] at H
            obtain ⟨rfl, rfl, rfl, rfl⟩ := H
            go_enter Tryd.func51, Tryd.ntmps51
            go_wp2_with (first | ((with_reducible refine gate_dst (N := 4) rfl ?_); refine box_event ?hg (N := 4) ?hd (cs := #[.string (⟨#[]⟩ : ByteArray), .int .i64 0]) (t := 63) ?hr ?_; (case hd => rfl); (case hg => rfl); (case hr => first | (go_simp; done) | (go_simp; rfl)); intro gb125 hg w58 hbox hb; have n0_ := Aside0.mk (below_step (by repeat (first | (with_reducible first | exact HB.out | apply below_alloc | apply pw_below_drewN | apply below_drew1) | exact HB.out)) hb); have n1_ := Aside0.mk (hbox); have n2_ := Aside0.mk ((by rw [hg]; exact (below_size (by repeat (first | (with_reducible first | exact HB.out | apply below_alloc | apply pw_below_drewN | apply below_drew1) | exact HB.out))) : w.heap.size ≤ gb125)); have n3_ := Aside0.mk ((by rw [hg]; exact (below_size (by repeat (first | (with_reducible first | exact HB.out | apply below_alloc | apply pw_below_drewN | apply below_drew1) | exact HB.out))) : w.heap.size ≤ gb125)); clear HB; have HB := n0_; have BK125 := n1_; have GW125 := n2_; have GE125 := n3_; clear n0_ n1_ n2_ n3_; clear hb hbox hg) | ((with_reducible refine gate_callee (f := 65) rfl ?_); refine goesL_ (some 21) rfl rfl Tryd.func65 (by kernel_rfl) rfl #[.string a0, .int .i64 a1] rfl (by (try simp only [List.map_toArray, List.map_cons, List.map_nil]); first | done | rfl | (simp only [List.length_drop, List.length_take]; rfl)) ?_; (with_reducible refine (sorrelref01_Span.calls k a0 a1 t126 t127 _ A3.out).mono ?_); rintro e w59 ⟨rfl, hb⟩; refine ⟨_, rfl, ?_⟩; have n0_ := Aside0.mk (blk_below (g := gb125) (o := .cells #[.string (⟨#[]⟩ : ByteArray), .int .i64 0] 63 (0, 0)) (by (with_reducible repeat (first | refine blk_drewN ?_ _ | refine blk_drew ?_ | refine blk_alloc ?_ _)); exact BK125.out) hb); have n1_ := Aside0.mk (below_step (by repeat (first | (with_reducible first | exact HB.out | apply below_alloc | apply pw_below_drewN | apply below_drew1 | refine below_set ?_ GE125.out) | exact HB.out)) hb); clear BK125; clear HB; have BK125 := n0_; have HB := n1_; clear n0_ n1_; (try clear hb); (try clear hb2); (try clear hk); (try clear hi)) | ((with_reducible refine gate_callee (f := 17) rfl ?_); refine goesL_ (some 33) rfl rfl Tryd.func17 (by kernel_rfl) rfl #[.string (a0.extract (a1 : Int).toNat (t126 : Int).toNat)] rfl (by (try simp only [List.map_toArray, List.map_cons, List.map_nil]); first | done | rfl | (simp only [List.length_drop, List.length_take]; rfl)) ?_; (with_reducible refine (sorrelref01_Name.calls k (a0.extract (a1 : Int).toNat (t126 : Int).toNat) false _ A8.out).mono ?_); rintro e w60 ⟨rfl, hb⟩; refine ⟨_, rfl, ?_⟩; have n0_ := Aside0.mk (blk_below (g := gb125) (o := .cells #[.string (⟨#[]⟩ : ByteArray), .int .i64 0] 63 (0, 0)) (by (with_reducible repeat (first | refine blk_drewN ?_ _ | refine blk_drew ?_ | refine blk_alloc ?_ _)); exact BK125.out) hb); have n1_ := Aside0.mk (below_step (by repeat (first | (with_reducible first | exact HB.out | apply below_alloc | apply pw_below_drewN | apply below_drew1 | refine below_set ?_ GE125.out) | exact HB.out)) hb); clear BK125; clear HB; have BK125 := n0_; have HB := n1_; clear n0_ n1_; (try clear hb); (try clear hb2); (try clear hk); (try clear hi); have hcz61_0 : w60.cell? ⟨gb125, 0, none⟩ = some (.string (⟨#[]⟩ : ByteArray)) := (blk_cell BK125.out 0).trans rfl; have hcz61_1 : w60.cell? ⟨gb125, 1, none⟩ = some (.int .i64 0) := (blk_cell BK125.out 1).trans rfl; have hfz61_0 := blk_frozen BK125.out 0; have hfz61_1 := blk_frozen BK125.out 1))
            refine bodyPost_ret (results_ctt rfl _ _ gb125 63 #[.string (⟨#[]⟩ : ByteArray), .int .i64 0] (0, 0) _ rfl (by (with_reducible repeat (first | refine blk_drewN ?_ _ | refine blk_drew ?_ | refine blk_alloc ?_ _)); refine blk_put (cs := #[.string (⟨#[]⟩ : ByteArray), .int .i64 0]) ?_ 1 _ rfl; (with_reducible repeat (first | refine blk_drewN ?_ _ | refine blk_drew ?_ | refine blk_alloc ?_ _)); refine blk_put (cs := #[.string (⟨#[]⟩ : ByteArray), .int .i64 0]) ?_ 0 _ rfl; (with_reducible repeat (first | refine blk_drewN ?_ _ | refine blk_drew ?_ | refine blk_alloc ?_ _)); exact BK125.out) Tryd.underlying63 rfl (by kernel_rfl)) rfl ?_
            exact ⟨by first | rfl | (simp [errW_none, errW_some] <;> rfl) | (simp [*, errW_none, errW_some] <;> rfl), by repeat (first | (with_reducible first | exact HB.out | apply below_alloc | apply pw_below_drewN | apply below_drew1 | refine below_set ?_ GE125.out) | exact HB.out)⟩
        · rw [if_neg c7] at H
          exact absurd H (by simp)
      · rw [if_neg c6] at H
        exact absurd H (by simp)
    · rw [if_neg c5] at H
      exact absurd H (by simp)
  · rw [if_neg c4] at H
    have c4b0 : (t127 == 0) = false := beq_eq_false_iff_ne.mpr c4
    have c4b1 : (t127 != 0) = true := bne_iff_ne.mpr c4
    simp only [Option.some.injEq, Prod.mk.injEq] at H
    obtain ⟨rfl, rfl, rfl, rfl⟩ := H
    go_enter Tryd.func51, Tryd.ntmps51
    go_wp2_with (first | ((with_reducible refine gate_dst (N := 4) rfl ?_); refine box_event ?hg (N := 4) ?hd (cs := #[.string (⟨#[]⟩ : ByteArray), .int .i64 0]) (t := 63) ?hr ?_; (case hd => rfl); (case hg => rfl); (case hr => first | (go_simp; done) | (go_simp; rfl)); intro gb125 hg w62 hbox hb; have n0_ := Aside0.mk (below_step (by repeat (first | (with_reducible first | exact HB.out | apply below_alloc | apply pw_below_drewN | apply below_drew1) | exact HB.out)) hb); have n1_ := Aside0.mk (hbox); have n2_ := Aside0.mk ((by rw [hg]; exact (below_size (by repeat (first | (with_reducible first | exact HB.out | apply below_alloc | apply pw_below_drewN | apply below_drew1) | exact HB.out))) : w.heap.size ≤ gb125)); have n3_ := Aside0.mk ((by rw [hg]; exact (below_size (by repeat (first | (with_reducible first | exact HB.out | apply below_alloc | apply pw_below_drewN | apply below_drew1) | exact HB.out))) : w.heap.size ≤ gb125)); clear HB; have HB := n0_; have BK125 := n1_; have GW125 := n2_; have GE125 := n3_; clear n0_ n1_ n2_ n3_; clear hb hbox hg) | ((with_reducible refine gate_callee (f := 65) rfl ?_); refine goesL_ (some 21) rfl rfl Tryd.func65 (by kernel_rfl) rfl #[.string a0, .int .i64 a1] rfl (by (try simp only [List.map_toArray, List.map_cons, List.map_nil]); first | done | rfl | (simp only [List.length_drop, List.length_take]; rfl)) ?_; (with_reducible refine (sorrelref01_Span.calls k a0 a1 t126 t127 _ A3.out).mono ?_); rintro e w63 ⟨rfl, hb⟩; refine ⟨_, rfl, ?_⟩; have n0_ := Aside0.mk (blk_below (g := gb125) (o := .cells #[.string (⟨#[]⟩ : ByteArray), .int .i64 0] 63 (0, 0)) (by (with_reducible repeat (first | refine blk_drewN ?_ _ | refine blk_drew ?_ | refine blk_alloc ?_ _)); exact BK125.out) hb); have n1_ := Aside0.mk (below_step (by repeat (first | (with_reducible first | exact HB.out | apply below_alloc | apply pw_below_drewN | apply below_drew1 | refine below_set ?_ GE125.out) | exact HB.out)) hb); clear BK125; clear HB; have BK125 := n0_; have HB := n1_; clear n0_ n1_; (try clear hb); (try clear hb2); (try clear hk); (try clear hi); have hcz64_0 : w63.cell? ⟨gb125, 0, none⟩ = some (.string (⟨#[]⟩ : ByteArray)) := (blk_cell BK125.out 0).trans rfl; have hcz64_1 : w63.cell? ⟨gb125, 1, none⟩ = some (.int .i64 0) := (blk_cell BK125.out 1).trans rfl; have hfz64_0 := blk_frozen BK125.out 0; have hfz64_1 := blk_frozen BK125.out 1))
    refine bodyPost_ret (results_ctt rfl _ _ gb125 63 #[.string (⟨#[]⟩ : ByteArray), .int .i64 0] (0, 0) _ rfl (by (with_reducible repeat (first | refine blk_drewN ?_ _ | refine blk_drew ?_ | refine blk_alloc ?_ _)); refine blk_put (cs := #[.string (⟨#[]⟩ : ByteArray), .int .i64 0]) ?_ 1 _ rfl; (with_reducible repeat (first | refine blk_drewN ?_ _ | refine blk_drew ?_ | refine blk_alloc ?_ _)); refine blk_put (cs := #[.string (⟨#[]⟩ : ByteArray), .int .i64 0]) ?_ 0 _ rfl; (with_reducible repeat (first | refine blk_drewN ?_ _ | refine blk_drew ?_ | refine blk_alloc ?_ _)); exact BK125.out) Tryd.underlying63 rfl (by kernel_rfl)) rfl ?_
    exact ⟨by first | rfl | (simp [errW_none, errW_some] <;> rfl) | (simp [*, errW_none, errW_some] <;> rfl), by repeat (first | (with_reducible first | exact HB.out | apply below_alloc | apply pw_below_drewN | apply below_drew1 | refine below_set ?_ GE125.out) | exact HB.out)⟩

end Go.Proofs.YtadlbegecgpaaaaDoor.S
