/- K: what the claim needs of it (cut by wip/shake.py). -/
-- Printed by a program of this session (wip/mkprint.py: the kit's printer, changed). Not trusted: Lean checks it.
import Derived.Test.YtadlbegecgpaaaaDoorProg
import Derived.Below
import Derived.Deep.Draws
import Derived.Deep.AppendLies
import Derived.Maps.AppendAt
import Derived.OwnWalk
import Derived.Laws.BytesArg
import Derived.Laws.MakeOwn
import Derived.Laws.OwnMore
import Derived.Deep.OwnRows
import Derived.Tactics
import Derived.Lib.ConvBytes
import Derived.Laws.Slices
import Derived.WalkKit
import Derived.KernelRfl
import Derived.RowKit3
import Derived.Deep.LoopGhost
import Derived.Deep.QuietTactic
import Derived.BigQuiet
import Derived.WideLaws
import Derived.Deep.DeepCutAuto
import Derived.Deep.CutBlock
import Derived.Deep.RegionHeld3
import Derived.Laws.Rows
import Derived.Lib.AppendStr
import Derived.ArgAppend
import Derived.Laws.IdiomCopy
import Derived.OrdersHeld
import Derived.Laws.BitsLemmas
import Derived.RowKit
import Derived.Lib.LaidTab
import Derived.Shelf.Unicode.DecodeSlow
import Derived.Lib.ItoaMem
import Derived.Test.YtadlbegecgpaaaaDoorWWords
import Derived.Test.YtadlbegecgpaaaaDoorWLast
import Derived.Test.YtadlbegecgpaaaaDoorWTab
import Derived.Test.YtadlbegecgpaaaaDoorWFour
import Derived.Test.YtadlbegecgpaaaaDoorWQPut
import Derived.Test.YtadlbegecgpaaaaDoorWApart
import Derived.Test.YtadlbegecgpaaaaDoorWArr
import Derived.Test.YtadlbegecgpaaaaDoorWZeros
import Derived.Test.YtadlbegecgpaaaaDoorWFoot
import Derived.Test.YtadlbegecgpaaaaDoorWKept
import Derived.Test.YtadlbegecgpaaaaDoorWShare
import Derived.Test.YtadlbegecgpaaaaDoorWN
import Derived.Test.YtadlbegecgpaaaaDoorWFootNe
import Derived.Test.YtadlbegecgpaaaaDoorWAt
import Derived.Test.YtadlbegecgpaaaaDoorWEqStruct
import Derived.Test.YtadlbegecgpaaaaDoorWRepsOne
import Derived.Test.YtadlbegecgpaaaaDoorWInv
import Derived.Test.YtadlbegecgpaaaaDoorWInvWords
import Derived.Test.YtadlbegecgpaaaaDoorWGuard
import Derived.Test.YtadlbegecgpaaaaDoorWNEv
import Derived.Test.YtadlbegecgpaaaaDoorWMore
namespace Go.Proofs.YtadlbegecgpaaaaDoor.S
open Go.RowKit Go.Proofs.YtadlbegecgpaaaaDoorW.PrintWords Go.Proofs.YtadlbegecgpaaaaDoorW.PrintLast Go.Proofs.YtadlbegecgpaaaaDoorW.PrintMore
attribute [local go_sem] max2_int min2_int max_two min_two max_three min_three max_four min_four   -- for this text's walks alone
set_option linter.unusedVariables false
set_option linter.unusedSimpArgs false
def errW : Option Int → Value
  | none => .nilIface
  | some c => .iface 0 (.int .i64 c)
theorem errW_none : errW none = .nilIface := rfl
theorem errW_some (c : Int) : errW (some c) = .iface 0 (.int .i64 c) := rfl
theorem info9 : (Tryd.prog.info? 9).map (fun i => (i.zero, i.size, i.bytes)) = some (some (.string ⟨#[]⟩), 1, 16) := by kernel_rfl
theorem info63 : (Tryd.prog.info? 63).map (fun i => (i.zero, i.size, i.bytes)) = some (some (.agg #[(.string ⟨#[]⟩), (.int .i64 0)]), 2, 24) := by kernel_rfl
structure S63 where
  f0 : ByteArray
  f1 : Int
def z63 : S63 := ⟨(⟨#[]⟩ : ByteArray), (0 : Int)⟩
def k63 : Kd S63 := Kd.iso (Kd.pair Kd.string (Kd.int .i64)) (fun x : S63 => (x.f0, x.f1))
theorem k63_open {w : World} {x : S63} {cs : List Value} (h : k63.K w x cs) : cs = [.string x.f0, .int .i64 x.f1] := by
  obtain ⟨_, _, rfl, rfl, rfl⟩ := h
  exact rfl
theorem k63_mk (w : World) (x : S63)  : k63.K w x [.string x.f0, .int .i64 x.f1] := ⟨[.string x.f0], [.int .i64 x.f1], rfl, rfl, rfl⟩
theorem k63_mkM (w : World) (base : Nat) (ok : Nat → Prop) (x : S63)  : k63.M w base ok x [.string x.f0, .int .i64 x.f1] := ⟨[.string x.f0], [.int .i64 x.f1], rfl, rfl, rfl⟩
def rd_T63 (xs : List S63) (i : Int) : S63 := xs.getD i.toNat z63
theorem at_T63 {w : World} {A : Option Addr} {n : Nat} {xs : List S63} (h : Kd.C k63 w A n xs) (i : Int) (h0 : 0 ≤ i) (h1 : i < n) : ∃ ad , A = some ad ∧ w.cell? (ad.add (i.toNat * 2)) = some (.string (rd_T63 xs i).f0) ∧ w.cell? ⟨(ad.add (i.toNat * 2)).block, (ad.add (i.toNat * 2)).off + 1, none⟩ = some (.int .i64 (rd_T63 xs i).f1) := by
  obtain ⟨ad, c, e, _, hK, hc0⟩ := Kd.C_get h z63 i h0 h1
  have hc : ∀ j u, c[j]? = some u → w.cell? (ad.add (i.toNat * 2 + j)) = some u := hc0
  obtain rfl := k63_open hK
  exact ⟨ad, e, hc 0 _ rfl, by rw [← add_field _ _ 1 (by omega)]; exact hc 1 _ rfl⟩
structure S139 where
  f0 : ByteArray
  f1 : Bool
  f2 : Int
  f3 : Int
  f4 : Int
  f5 : Int
def z139 : S139 := ⟨(⟨#[]⟩ : ByteArray), false, (0 : Int), (0 : Int), (0 : Int), (0 : Int)⟩
/-- A state of type 74 at block g of W; what its slices lead to came in by w0. -/
def IsS74 (w0 W : World) (g : Nat) (f0 : ByteArray) (f1 : Int) : Prop := W.heap[g]? = some (.cells #[.string f0, .int .i64 f1] 74 (0, 0)) ∧ w0.heap.size ≤ g
theorem IsS74.grown {w0 W : World} {g : Nat} {f0 : ByteArray} {f1 : Int} {W1 : World} {row : Option Nat} (h : IsS74 w0 W g f0 f1) (hw : W.grownBy W1 row) (hne : some g ≠ row) : IsS74 w0 W1 g f0 f1 := by
  obtain ⟨hb, hg⟩ := h
  exact ⟨blk_grown hb hw hne, hg⟩
theorem IsS74.kept {w0 W : World} {g : Nat} {f0 : ByteArray} {f1 : Int} {W1 : World} {S : Nat → Prop} (h : IsS74 w0 W g f0 f1) (hk : Kept W W1 S) (hne : ¬ S g) : IsS74 w0 W1 g f0 f1 := by
  obtain ⟨hb, hg⟩ := h
  exact ⟨blk_kept hb hk hne, hg⟩
theorem IsS74.below {w0 W : World} {g : Nat} {f0 : ByteArray} {f1 : Int} {W1 : World} (h : IsS74 w0 W g f0 f1) (hw : Below W.heap.size W W1) : IsS74 w0 W1 g f0 f1 := h.grown (grown_of_below hw none) (by simp)
theorem IsS74.alloc {w0 W : World} {g : Nat} {f0 : ByteArray} {f1 : Int} (h : IsS74 w0 W g f0 f1) (o : Obj) : IsS74 w0 (W.alloc o) g f0 f1 := h.below (below_alloc (Below.refl _ _) o)
theorem IsS74.drewN {w0 W : World} {g : Nat} {f0 : ByteArray} {f1 : Int} (h : IsS74 w0 W g f0 f1) (m : Nat) : IsS74 w0 (W.drewN m) g f0 f1 := h
theorem IsS74.drew {w0 W : World} {g : Nat} {f0 : ByteArray} {f1 : Int} (h : IsS74 w0 W g f0 f1) : IsS74 w0 W.drew g f0 f1 := h
theorem IsS74.at_ {w0 W : World} {g : Nat} {f0 : ByteArray} {f1 : Int} {w' : World} {m : Nat} (hq : W.drewN m = w') (h : IsS74 w0 W g f0 f1) : IsS74 w0 w' g f0 f1 := by subst hq; exact IsS74.drewN h m
theorem IsS74.apart {w0 W : World} {g : Nat} {f0 : ByteArray} {f1 : Int} {α : Type} {d : Kd α} {e : Nat} {base : Nat} {ok : Nat → Prop} {v : Value} {xs : List α} (h : IsS74 w0 W g f0 f1) (ho : d.R e W base ok v xs) (ht : ∀ q, q ∈ e :: d.E → q ≠ 74) : d.R e W base (fun k => ok k ∧ k ≠ g) v xs := by
  obtain ⟨hb, hg⟩ := h
  exact Kd.R_types ho hb ht
theorem IsS74.own_ne {w0 W : World} {g : Nat} {f0 : ByteArray} {f1 : Int} {α : Type} {d : Kd α} {e : Nat} {base : Nat} {ok : Nat → Prop} {v : Value} {xs : List α} (h : IsS74 w0 W g f0 f1) (ho : d.R e W base ok v xs) (ht : e ≠ 74) : some g ≠ v.ownBlock := by
  obtain ⟨hb, hg⟩ := h
  exact Kd.R_ne ho hb ht
theorem IsS74.lt {w0 W : World} {g : Nat} {f0 : ByteArray} {f1 : Int} (h : IsS74 w0 W g f0 f1) : g < W.heap.size := by
  obtain ⟨hb, hg⟩ := h
  exact blk_lt hb
theorem IsS74.far {w0 W : World} {g : Nat} {f0 : ByteArray} {f1 : Int} {p : Addr} (h : IsS74 w0 W g f0 f1) (hne : g ≠ p.block) (u : Value) : IsS74 w0 (W.setCell p u) g f0 f1 := by
  obtain ⟨hb, hg⟩ := h
  exact ⟨blk_far hb hne u, hg⟩
theorem cellS74_0 {W : World} {g : Nat} {f0 : ByteArray} {f1 : Int} (h : W.heap[g]? = some (.cells #[.string f0, .int .i64 f1] 74 (0, 0))) : W.cell? ⟨g, 0, none⟩ = some (.string f0) := (blk_cell h 0).trans rfl
theorem cellS74_1 {W : World} {g : Nat} {f0 : ByteArray} {f1 : Int} (h : W.heap[g]? = some (.cells #[.string f0, .int .i64 f1] 74 (0, 0))) : W.cell? ⟨g, 1, none⟩ = some (.int .i64 f1) := (blk_cell h 1).trans rfl
theorem IsS74.set_1 {w0 W : World} {g : Nat} {f0 : ByteArray} {f1 : Int} (h : IsS74 w0 W g f0 f1) (x : Int) : IsS74 w0 (W.setCell ⟨g, 1, none⟩ (.int .i64 x)) g f0 x := by
  obtain ⟨hb, hg⟩ := h
  exact ⟨by simpa using blk_set hb 1 (.int .i64 x), hg⟩
theorem IsS74.new (w0 W : World) (f0 : ByteArray) (f1 : Int) (hB : Below w0.heap.size w0 W) : IsS74 w0 (W.alloc (.cells #[.string f0, .int .i64 f1] 74)) W.heap.size f0 f1 := ⟨by simpa using heap_alloc_new W _, hB.size⟩
/-- A state of type 139 at block g of W; what its slices lead to came in by w0. -/
def IsS139 (w0 W : World) (g : Nat) (f0 : ByteArray) (f1 : Bool) (f2 : Int) (f3 : Int) (f4 : Int) (f5 : Int) : Prop := W.heap[g]? = some (.cells #[.string f0, .bool f1, .int .i64 f2, .int .i64 f3, .int .i64 f4, .int .i64 f5] 139 (0, 0)) ∧ w0.heap.size ≤ g
theorem IsS139.grown {w0 W : World} {g : Nat} {f0 : ByteArray} {f1 : Bool} {f2 : Int} {f3 : Int} {f4 : Int} {f5 : Int} {W1 : World} {row : Option Nat} (h : IsS139 w0 W g f0 f1 f2 f3 f4 f5) (hw : W.grownBy W1 row) (hne : some g ≠ row) : IsS139 w0 W1 g f0 f1 f2 f3 f4 f5 := by
  obtain ⟨hb, hg⟩ := h
  exact ⟨blk_grown hb hw hne, hg⟩
theorem IsS139.kept {w0 W : World} {g : Nat} {f0 : ByteArray} {f1 : Bool} {f2 : Int} {f3 : Int} {f4 : Int} {f5 : Int} {W1 : World} {S : Nat → Prop} (h : IsS139 w0 W g f0 f1 f2 f3 f4 f5) (hk : Kept W W1 S) (hne : ¬ S g) : IsS139 w0 W1 g f0 f1 f2 f3 f4 f5 := by
  obtain ⟨hb, hg⟩ := h
  exact ⟨blk_kept hb hk hne, hg⟩
theorem IsS139.below {w0 W : World} {g : Nat} {f0 : ByteArray} {f1 : Bool} {f2 : Int} {f3 : Int} {f4 : Int} {f5 : Int} {W1 : World} (h : IsS139 w0 W g f0 f1 f2 f3 f4 f5) (hw : Below W.heap.size W W1) : IsS139 w0 W1 g f0 f1 f2 f3 f4 f5 := h.grown (grown_of_below hw none) (by simp)
theorem IsS139.alloc {w0 W : World} {g : Nat} {f0 : ByteArray} {f1 : Bool} {f2 : Int} {f3 : Int} {f4 : Int} {f5 : Int} (h : IsS139 w0 W g f0 f1 f2 f3 f4 f5) (o : Obj) : IsS139 w0 (W.alloc o) g f0 f1 f2 f3 f4 f5 := h.below (below_alloc (Below.refl _ _) o)
theorem IsS139.drewN {w0 W : World} {g : Nat} {f0 : ByteArray} {f1 : Bool} {f2 : Int} {f3 : Int} {f4 : Int} {f5 : Int} (h : IsS139 w0 W g f0 f1 f2 f3 f4 f5) (m : Nat) : IsS139 w0 (W.drewN m) g f0 f1 f2 f3 f4 f5 := h
theorem IsS139.drew {w0 W : World} {g : Nat} {f0 : ByteArray} {f1 : Bool} {f2 : Int} {f3 : Int} {f4 : Int} {f5 : Int} (h : IsS139 w0 W g f0 f1 f2 f3 f4 f5) : IsS139 w0 W.drew g f0 f1 f2 f3 f4 f5 := h
theorem IsS139.at_ {w0 W : World} {g : Nat} {f0 : ByteArray} {f1 : Bool} {f2 : Int} {f3 : Int} {f4 : Int} {f5 : Int} {w' : World} {m : Nat} (hq : W.drewN m = w') (h : IsS139 w0 W g f0 f1 f2 f3 f4 f5) : IsS139 w0 w' g f0 f1 f2 f3 f4 f5 := by subst hq; exact IsS139.drewN h m
theorem IsS139.apart {w0 W : World} {g : Nat} {f0 : ByteArray} {f1 : Bool} {f2 : Int} {f3 : Int} {f4 : Int} {f5 : Int} {α : Type} {d : Kd α} {e : Nat} {base : Nat} {ok : Nat → Prop} {v : Value} {xs : List α} (h : IsS139 w0 W g f0 f1 f2 f3 f4 f5) (ho : d.R e W base ok v xs) (ht : ∀ q, q ∈ e :: d.E → q ≠ 139) : d.R e W base (fun k => ok k ∧ k ≠ g) v xs := by
  obtain ⟨hb, hg⟩ := h
  exact Kd.R_types ho hb ht
theorem IsS139.own_ne {w0 W : World} {g : Nat} {f0 : ByteArray} {f1 : Bool} {f2 : Int} {f3 : Int} {f4 : Int} {f5 : Int} {α : Type} {d : Kd α} {e : Nat} {base : Nat} {ok : Nat → Prop} {v : Value} {xs : List α} (h : IsS139 w0 W g f0 f1 f2 f3 f4 f5) (ho : d.R e W base ok v xs) (ht : e ≠ 139) : some g ≠ v.ownBlock := by
  obtain ⟨hb, hg⟩ := h
  exact Kd.R_ne ho hb ht
theorem IsS139.lt {w0 W : World} {g : Nat} {f0 : ByteArray} {f1 : Bool} {f2 : Int} {f3 : Int} {f4 : Int} {f5 : Int} (h : IsS139 w0 W g f0 f1 f2 f3 f4 f5) : g < W.heap.size := by
  obtain ⟨hb, hg⟩ := h
  exact blk_lt hb
theorem IsS139.far {w0 W : World} {g : Nat} {f0 : ByteArray} {f1 : Bool} {f2 : Int} {f3 : Int} {f4 : Int} {f5 : Int} {p : Addr} (h : IsS139 w0 W g f0 f1 f2 f3 f4 f5) (hne : g ≠ p.block) (u : Value) : IsS139 w0 (W.setCell p u) g f0 f1 f2 f3 f4 f5 := by
  obtain ⟨hb, hg⟩ := h
  exact ⟨blk_far hb hne u, hg⟩
def ghostKd (z : Value) (hz : z.oneCell' = true) (P : World → Prop) (hP : ∀ w w1 : World, (∀ k, k < w.heap.size → w1.heap[k]? = w.heap[k]?) → P w → P w1) : Kd Unit where
  sz := 1
  E := []
  K := fun w _ cs => cs = [z] ∧ P w
  M := fun _ _ _ _ _ => False
  K_len := by
    rintro w x cs ⟨rfl, _⟩
    rfl
  K_one := by
    rintro w x cs ⟨rfl, _⟩ u hu
    simp only [List.mem_cons, List.mem_nil_iff, or_false] at hu
    subst hu
    exact hz
  K_below := by
    rintro w w1 x cs hb ⟨h, hp⟩
    exact ⟨h, hP _ _ (fun k hk => hb.block k hk) hp⟩
  K_of_M := fun h => h.elim
  M_mono := fun _ h => h.elim
  M_bound := fun h => h.elim
  M_move := fun _ h => h.elim
  M_lower := fun _ h => h.elim
theorem ghost_out {z : Value} {hz : z.oneCell' = true} {P : World → Prop} {hP : ∀ w w1 : World, (∀ k, k < w.heap.size → w1.heap[k]? = w.heap[k]?) → P w → P w1} {w : World} {A : Option Addr} (h : Kd.C (ghostKd z hz P hP) w A 1 [()]) : P w := by
  obtain ⟨_, _, h⟩ := h
  obtain ⟨ad, _, hc⟩ := h (by decide)
  obtain ⟨c, _, hk, _⟩ := hc 0 () rfl
  exact hk.2
theorem ghost_mk {z : Value} {hz : z.oneCell' = true} {P : World → Prop} {hP : ∀ w w1 : World, (∀ k, k < w.heap.size → w1.heap[k]? = w.heap[k]?) → P w → P w1} {w : World} {g : Nat} (h : P w) (hc : w.cell? ⟨g, 0, none⟩ = some z) : Kd.C (ghostKd z hz P hP) w (some ⟨g, 0, none⟩) 1 [()] := by
  refine ⟨rfl, by decide, fun _ => ⟨_, rfl, fun j p hj => ?_⟩⟩
  cases j with
  | succ j => simp at hj
  | zero =>
    refine ⟨[z], rfl, ⟨rfl, h⟩, fun i u hu => ?_⟩
    cases i with
    | succ i => simp at hu
    | zero =>
      simp only [List.getElem?_cons_zero, Option.some.injEq] at hu
      subst hu
      exact hc
/-- runes.letters, pair by pair; runes.zeros. -/
def lettersT : List (Int × Int) := [(97, 122), (65, 90), (95, 95), (192, 214), (216, 246), (248, 591), (880, 893), (895, 902), (904, 1023), (1024, 1153), (1162, 1327), (19968, 40959), (66560, 66639)]
def LetL (w : World) : Prop := w.var? Tryd.prog "sorrel/runes.letters" = some (lettersT.flatMap fun p => [Value.int .i32 p.1, Value.int .i32 p.2]).toArray ∧ Lib.TabIs Tryd.prog w "sorrel/runes.zeros" .i32 [48, 1632, 65296]
def LetU (w : World) : Prop := Lib.Utf8Tabs 2 3 w
def LetN (w : World) : Prop := Lib.TabIs Tryd.prog w "internal/strconv.uint64pow10" .u64 Lib.pow10Tab
theorem var_moves {w w1 : World} {nm : String} {cs : Array Value} (hb : ∀ k, k < w.heap.size → w1.heap[k]? = w.heap[k]?) (h : w.var? Tryd.prog nm = some cs) : w1.var? Tryd.prog nm = some cs := by
  unfold World.var? at h ⊢
  cases hg : Tryd.prog.globalNamed nm with
  | none => rw [hg] at h; cases h
  | some g =>
    rw [hg] at h
    simp only [Option.bind_some] at h ⊢
    cases hw : w.heap[g]? with
    | none => rw [hw] at h; cases h
    | some o =>
      rw [hb g (Array.getElem?_eq_some_iff.1 hw).1, hw]
      rw [hw] at h
      exact h
theorem LetL_moves (w w1 : World) (hb : ∀ k, k < w.heap.size → w1.heap[k]? = w.heap[k]?) (h : LetL w) : LetL w1 := ⟨var_moves hb h.1, var_moves hb h.2⟩
theorem LetN_moves (w w1 : World) (hb : ∀ k, k < w.heap.size → w1.heap[k]? = w.heap[k]?) (h : LetN w) : LetN w1 := var_moves hb h
theorem LetU_moves (w w1 : World) (hb : ∀ k, k < w.heap.size → w1.heap[k]? = w.heap[k]?) (h : LetU w) : LetU w1 :=
  ⟨fun c hc => Kd.cell_heap hb (h.1 c hc), fun i hi => ⟨Kd.cell_heap hb (h.2 i hi).1, Kd.cell_heap hb (h.2 i hi).2⟩⟩
def kGL : Kd Unit := ghostKd (.int .i32 97) rfl LetL LetL_moves
def kGU : Kd Unit := ghostKd (.int .u8 240) rfl LetU LetU_moves
def kGN : Kd Unit := ghostKd (.int .u64 1) rfl LetN LetN_moves
def GAL : Option Addr := some ⟨0, 0, none⟩
def GAU : Option Addr := some ⟨2, 0, none⟩
def GAN : Option Addr := some ⟨4, 0, none⟩
theorem ghostL {w : World} (h : Kd.C kGL w GAL 1 [()]) : LetL w := ghost_out h
theorem ghostU {w : World} (h : Kd.C kGU w GAU 1 [()]) : LetU w := ghost_out h
theorem ghostN {w : World} (h : Kd.C kGN w GAN 1 [()]) : LetN w := ghost_out h
end Go.Proofs.YtadlbegecgpaaaaDoor.S
