/- From a row's reading of its arguments to what the printed contracts ask of them; the ghosts out of what a row lists. -/
import Derived.Test.YtadlbegecgpaaaaDoorK1
import Derived.Test.YtadlbegecgpaaaaDoorRows
import Derived.Test.YtadlbegecgpaaaaDoorShelf
import Derived.WalkKit
import Derived.ProofKit
import Derived.OpenShut
import Derived.ShutString
import Derived.ChangeOld
import Derived.Below
import Derived.SizedLaws
import Derived.Deep.DeepHandedRow
import Derived.Deep.Slices
import Derived.Lib.LaidTab
import Derived.Lib.LaidU8
namespace Go.Proofs.YtadlbegecgpaaaaDoor.S
open Go Go.RowKit Go.ChangeShapes Go.WideShapes Go.Deep Go.Proofs.YtadlbegecgpaaaaDoorW.PrintWords
open Go.ChangeMaps (open_string shut_string)
section
variable {H : Type} {enc : TypeId × Value → H} {W : World}
/-- What reads as a type is told by a kind, and G holds of it. -/
structure OfTrod (enc : TypeId × Value → H) (W : World) {α : Type} (kd : Kd α) (t : TypeId) (G : α → Prop) : Prop where
  get : ∀ {fuel : Nat} {cs : List Value} {x : DataW H × List MemPlace}, DataW.trod enc Tryd.prog W 0 (fun _ => true) true fuel t cs = some x → (∀ n ∈ x.1.weights Tryd.prog t, n ≤ reachBytes) → ∃ a, kd.K W a cs ∧ G a
theorem of_int (k : IntKind) (t : TypeId) (ht : Tryd.prog.underlying t = some (.int k)) : OfTrod enc W (Kd.int k) t (fun n => (Lit.int k n).wf = true) := ⟨fun h _ => by
  obtain ⟨n, rfl, _, hw⟩ := DataW.trod_int ht h
  exact ⟨n, rfl, hw⟩⟩
theorem of_string (t : TypeId) (ht : Tryd.prog.underlying t = some .string) : OfTrod enc W Kd.string t (fun s => s.size ≤ 140737488351232) := ⟨fun h hw => by
  obtain ⟨s, rfl, rfl, _⟩ := DataW.trod_string ht h
  have h1 := hw s.data.toList.length (by simp [DataW.weights])
  rw [Array.length_toList] at h1
  exact ⟨s, rfl, h1⟩⟩
theorem weightsAll_mem {P : Program} {e : TypeId} {d : DataW H} {n : Nat} : ∀ {l : List (DataW H)}, d ∈ l → n ∈ d.weights P e → n ∈ DataW.weightsAll P e l
  | [], h, _ => by cases h
  | x :: l, h, hn => by
    simp only [DataW.weightsAll, List.mem_append]
    rcases List.mem_cons.1 h with rfl | h
    · exact .inl hn
    · exact .inr (weightsAll_mem h hn)
theorem weightsEach_mem {P : Program} : ∀ {ts : List TypeId} {ds : List (DataW H)} {j : Nat} {t : TypeId} {d : DataW H}, ts[j]? = some t → ds[j]? = some d → ∀ n ∈ d.weights P t, n ∈ DataW.weightsEach P ts ds := DataW.weights_mem_each
theorem list_of {α : Type} {Q : Nat → α → Prop} : ∀ (n : Nat), (∀ i, i < n → ∃ a, Q i a) → ∃ xs : List α, xs.length = n ∧ ∀ i a, xs[i]? = some a → Q i a
  | 0, _ => ⟨[], rfl, fun i a h => by simp at h⟩
  | n + 1, h => by
    obtain ⟨xs, hl, hq⟩ := list_of n (fun i hi => h i (by omega))
    obtain ⟨a, ha⟩ := h n (by omega)
    refine ⟨xs ++ [a], by simp [hl], fun i b hb => ?_⟩
    by_cases hi : i < n
    · rw [List.getElem?_append_left (by omega)] at hb
      exact hq i b hb
    · have hin : i = n := by
        have := (List.getElem?_eq_some_iff.1 hb).1
        simp [hl] at this
        omega
      subst hin
      rw [List.getElem?_append_right (by omega), hl, Nat.sub_self] at hb
      simp only [List.getElem?_cons_zero, Option.some.injEq] at hb
      rw [← hb]
      exact ha
theorem of_slice {α : Type} {kd : Kd α} {G : α → Prop} (t e : TypeId) (B : Nat) (ht : Tryd.prog.underlying t = some (.slice e)) (hB : Tryd.prog.bytesOf e = B) (hsz : Tryd.prog.cellsOf e = kd.sz) (he : OfTrod enc W kd e G) :
    OfTrod enc W (Kd.slice e kd) t (fun xs => xs.length * B ≤ 140737488351232 ∧ xs.length ≤ maxLen ∧ ∀ a ∈ xs, G a) := ⟨fun h hw => by
  rcases open_slice ht h with ⟨rfl, rfl⟩ | ⟨a, len, cap, m, n, D, Pl, rfl, _, hl, hm, hmm, rfl, hx⟩
  · exact ⟨[], ⟨none, 0, rfl, by simp, Kd.C_nil _ _⟩, by simp, by simp, fun a h => by cases h⟩
  · have hmm' : m = cap := by rw [hmm]; rfl
    have hwl : ((List.range len).map D).length * B ≤ 140737488351232 := by
      have h1 := hw (((List.range len).map D).length * B + ((List.range (m - len)).map fun j => D (len + j)).length * B) (by
        simp only [DataW.weights, ht, hB, List.mem_cons]
        left
        rw [Nat.add_mul])
      exact Nat.le_trans (Nat.le_add_right _ _) h1
    have hel : ∀ i, i < len → ∃ b : α, (∃ cs', W.cells? 0 (a.add (i * Tryd.prog.cellsOf e)) (Tryd.prog.cellsOf e) = some cs' ∧ kd.K W b cs') ∧ G b := fun i hi => by
      obtain ⟨cs', h1, h2⟩ := hx i (by omega)
      obtain ⟨b, hb, hg⟩ := he.get h2 (fun q hq => hw q (by
        simp only [DataW.weights, ht, List.mem_cons, List.mem_append]
        exact .inr (.inl (weightsAll_mem (List.mem_map.2 ⟨i, List.mem_range.2 hi, rfl⟩) hq))))
      exact ⟨b, ⟨cs', h1, hb⟩, hg⟩
    obtain ⟨xs, hxl, hq⟩ := list_of len hel
    rw [List.length_map, List.length_range] at hwl
    refine ⟨xs, ⟨some a, cap, by rw [hxl], by omega, ⟨rfl, ?_, fun _ => ⟨a, rfl, fun j p hj => ?_⟩⟩⟩, by rw [hxl]; exact hwl, by rw [hxl]; omega, fun b hb => ?_⟩
    · have : maxLen = 9223372036854775807 := rfl
      omega
    · obtain ⟨⟨cs', h1, h2⟩, _⟩ := hq j p hj
      obtain ⟨_, hcl, hat⟩ := World.cells?_some h1
      refine ⟨cs', kd.K_len h2, h2, fun i u hu => ?_⟩
      have hi : i < cs'.length := (List.getElem?_eq_some_iff.1 hu).1
      have := hat i (by omega)
      rw [← hsz, ← Deep.add_add, this, hu]
    · obtain ⟨i, hi, rfl⟩ := List.getElem_of_mem hb
      exact (hq i _ (List.getElem?_eq_getElem hi)).2⟩
set_option maxRecDepth 100000
/-- A bind. -/
theorem of_bind : OfTrod enc W k63 63 (fun b => b.f0.size ≤ 140737488351232 ∧ (Lit.int .i64 b.f1).wf = true) := ⟨fun {fuel cs x} h hw => by
  obtain ⟨y0, y1, n, rfl, hl, h0, h1⟩ := trod_struct2 Tryd.underlying63 h
  obtain ⟨s, hs, hs2⟩ := (of_string (enc := enc) (W := W) 9 Tryd.underlying9).get h0 (fun q hq => hw q (by
    simp only [DataW.weights, Tryd.underlying63]
    exact weightsEach_mem (j := 0) rfl rfl q hq))
  obtain ⟨v, hv, hv2⟩ := (of_int (enc := enc) (W := W) .i64 2 Tryd.underlying2).get h1 (fun q hq => hw q (by
    simp only [DataW.weights, Tryd.underlying63]
    exact weightsEach_mem (j := 1) rfl rfl q hq))
  refine ⟨⟨s, v⟩, ?_, hs2, hv2⟩
  have hc : cs = [.string s, .int .i64 v] := by
    have e0 : (cs.drop 0).take 1 = [.string s] := hs
    have e1 : (cs.drop 1).take 1 = [.int .i64 v] := hv
    have hl2 : cs.length = 2 := hl
    match cs, hl2 with
    | [a, b], _ =>
      simp only [List.drop_zero, List.take_succ_cons, List.take_zero, List.drop_succ_cons, List.cons.injEq, and_true] at e0 e1
      rw [e0, e1]
  rw [hc]
  exact k63_mk W _⟩
/-- An argument that is a list of binds. -/
theorem of_binds : OfTrod enc W (Kd.slice 63 k63) 22 (fun xs => xs.length * 24 ≤ 140737488351232 ∧ xs.length ≤ maxLen ∧ ∀ b ∈ xs, b.f0.size ≤ 140737488351232 ∧ (Lit.int .i64 b.f1).wf = true) :=
  of_slice 22 63 24 Tryd.underlying22 (by kernel_rfl) (by kernel_rfl) of_bind
end
theorem cells_L0 : Tryd.prog.cellsOf 21 = 1 := by kernel_rfl
theorem gL1 : Tryd.prog.globalNamed "sorrel/runes.letters" = some 0 := by kernel_rfl
theorem gL1t : (Tryd.prog.globals[0]?).map (·.type) = some 153 := by kernel_rfl
theorem gL2 : Tryd.prog.globalNamed "sorrel/runes.zeros" = some 1 := by kernel_rfl
theorem gL2t : (Tryd.prog.globals[1]?).map (·.type) = some 174 := by kernel_rfl
theorem letters_as : (Rows.laid_sorrel_runes_letters : DataW Unit) = .agg (lettersT.map fun p => .agg ([p.1, p.2].map fun z => .lit (.int .i32 z))) := rfl
theorem of_pairs {α : Type} : ∀ (n : Nat) (f : Nat → List α) (l : List α), l.length = n * 2 → (∀ i, i < n → (l.drop (i * 2)).take 2 = f i) → l = (List.range n).flatMap f
  | 0, f, l, hl, _ => by
    have : l = [] := List.eq_nil_of_length_eq_zero (by omega)
    rw [this]
    rfl
  | n + 1, f, l, hl, h => by
    have h0 := h 0 (by omega)
    rw [Nat.zero_mul, List.drop_zero] at h0
    have ih := of_pairs n (fun i => f (i + 1)) (l.drop 2) (by rw [List.length_drop]; omega) (fun i hi => by
      rw [List.drop_drop, show 2 + i * 2 = (i + 1) * 2 from by omega]
      exact h (i + 1) (by omega))
    rw [List.range_succ_eq_map, List.flatMap_cons, List.flatMap_map, ← h0]
    exact (List.take_append_drop 2 l).symm.trans (congrArg _ ih)
/-- runes.letters and runes.zeros, out of a row that lists them. -/
theorem ghostL_of {W : World} {l : List (String × DataW Unit)} (h : laidMet Tryd.prog l W) (h0 : ("sorrel/runes.letters", (Rows.laid_sorrel_runes_letters : DataW Unit)) ∈ l) (h1 : ("sorrel/runes.zeros", (Rows.laid_sorrel_runes_zeros : DataW Unit)) ∈ l) : LetL W := by
  refine ⟨?_, ?_⟩
  · obtain ⟨g, t, cs, fuel, p, hg, hty, hvar, hd⟩ := Lib.laidMet.reads h h0
    obtain rfl := Option.some.inj (gL1.symm.trans hg)
    obtain rfl := Option.some.inj (gL1t.symm.trans hty)
    rw [letters_as] at hd
    rw [hvar]
    refine congrArg some (Array.ext' ?_)
    have hlen : cs.toList.length = 26 := by
      cases fuel with
      | zero => simp [DataW.trod] at hd
      | succ f =>
        simp only [DataW.trod, Tryd.underlying153] at hd
        split at hd
        · rename_i hl
          have c153 : Tryd.prog.cellsOf 153 = 26 := by kernel_rfl
          rw [c153] at hl
          exact hl
        · cases hd
    have key : ∀ i, i < 13 → (cs.toList.drop (i * 2)).take 2 = [Value.int .i32 (lettersT.getD i (0, 0)).1, Value.int .i32 (lettersT.getD i (0, 0)).2] := fun i hi => by
      obtain ⟨fuel', d, q, hdi, he⟩ := Lib.array_elem Tryd.underlying153 hd i hi
      rw [List.getElem?_map, List.getElem?_eq_getElem (show i < lettersT.length from hi)] at hdi
      simp only [Option.map_some, Option.some.injEq] at hdi
      subst hdi
      have c152 : Tryd.prog.cellsOf 152 = 2 := by kernel_rfl
      rw [c152] at he
      have := Lib.ints_of_struct (k := .i32) Tryd.underlying152 (fun j f hj => by
        match j, hj with
        | 0, hj => simp at hj; subst hj; exact ⟨Tryd.underlying21, rfl, cells_L0⟩
        | 1, hj => simp at hj; subst hj; exact ⟨Tryd.underlying21, rfl, cells_L0⟩
        | j + 2, hj => simp at hj) (by rw [c152]; rfl) he
      rw [this, List.getD_eq_getElem?_getD, List.getElem?_eq_getElem (show i < lettersT.length from hi)]
      rfl
    rw [of_pairs 13 _ cs.toList hlen key]
    rfl
  · obtain ⟨g, t, cs, fuel, p, hg, hty, hvar, hd⟩ := Lib.laidMet.reads h h1
    obtain rfl := Option.some.inj (gL2.symm.trans hg)
    obtain rfl := Option.some.inj (gL2t.symm.trans hty)
    have hcs := Lib.cells_of_tab (zs := [48, 1632, 65296]) Tryd.underlying174 Tryd.underlying21 cells_L0 (by kernel_rfl) hd
    unfold Lib.TabIs
    rw [hvar]
    refine congrArg some (Array.ext' ?_)
    rw [hcs]
theorem ghostL_mk {W : World} (h : LetL W) : Kd.C kGL W GAL 1 [()] := ghost_mk h (by
  have h1 := h.1
  unfold World.var? at h1
  rw [gL1] at h1
  simp only [Option.bind_some] at h1
  cases hw : W.heap[0]? with
  | none => rw [hw] at h1; cases h1
  | some o =>
    rw [hw] at h1
    cases o with
    | cells cs t fr =>
      have h2 := Option.some.inj h1
      subst h2
      rw [cell_of_row W 0 0 _ t fr hw]
      rfl
    | _ => cases h1)
theorem gN1 : Tryd.prog.globalNamed "internal/strconv.uint64pow10" = some 4 := by kernel_rfl
theorem gN1t : (Tryd.prog.globals[4]?).map (·.type) = some 192 := by kernel_rfl
theorem pow10_as : (Rows.laid_internal_strconv_uint64pow10 : DataW Unit) = .agg (Lib.pow10Tab.map fun z => .lit (.int .u64 z)) := by rfl
theorem ghost_cell {W : World} {nm : String} {g : Nat} {cs : Array Value} {v : Value} (hg : Tryd.prog.globalNamed nm = some g) (h : W.var? Tryd.prog nm = some cs) (h0 : cs[0]? = some v) : W.cell? ⟨g, 0, none⟩ = some v := by
  rw [World.var?_cell hg h 0]
  exact h0
theorem ghostN_of {W : World} {l : List (String × DataW Unit)} (h : laidMet Tryd.prog l W) (h0 : ("internal/strconv.uint64pow10", (Rows.laid_internal_strconv_uint64pow10 : DataW Unit)) ∈ l) : LetN W := by
  obtain ⟨g, t, cs, fuel, p, hg, hty, hvar, hd⟩ := Lib.laidMet.reads h h0
  obtain rfl := Option.some.inj (gN1.symm.trans hg)
  obtain rfl := Option.some.inj (gN1t.symm.trans hty)
  rw [pow10_as] at hd
  have hcs := Lib.cells_of_tab (zs := Lib.pow10Tab) Tryd.underlying192 Tryd.underlying109 (by kernel_rfl) (by kernel_rfl) hd
  unfold LetN Lib.TabIs
  rw [hvar]
  refine congrArg some (Array.ext' ?_)
  rw [hcs]
theorem ghostN_mk {W : World} (h : LetN W) : Kd.C kGN W GAN 1 [()] := ghost_mk h (ghost_cell gN1 h (by rfl))
theorem wf_i64 {n : Int} (h : (Lit.int .i64 n).wf = true) : -9223372036854775808 ≤ n ∧ n ≤ 9223372036854775807 := by
  simp only [Lit.wf, Bool.and_eq_true, decide_eq_true_eq] at h
  exact h
theorem gU1 : Tryd.prog.globalNamed "unicode/utf8.first" = some 2 := by kernel_rfl
theorem gU1t : (Tryd.prog.globals[2]?).map (·.type) = some 175 := by kernel_rfl
theorem gU2 : Tryd.prog.globalNamed "unicode/utf8.acceptRanges" = some 3 := by kernel_rfl
theorem gU2t : (Tryd.prog.globals[3]?).map (·.type) = some 178 := by kernel_rfl
theorem first_as : Rows.laid_unicode_utf8_first = Lib.firstData := by kernel_rfl
theorem accept_as : (Rows.laid_unicode_utf8_acceptRanges : DataW Unit) = Lib.acceptData := by rfl
theorem cells_U5 : Tryd.prog.cellsOf 5 = 1 := by kernel_rfl
theorem cells_U177 : Tryd.prog.cellsOf 177 = 2 := by kernel_rfl
theorem ghostU_of {W : World} {l : List (String × DataW Unit)} (h : laidMet Tryd.prog l W) (h3 : ("unicode/utf8.first", Rows.laid_unicode_utf8_first) ∈ l) (h4 : ("unicode/utf8.acceptRanges", (Rows.laid_unicode_utf8_acceptRanges : DataW Unit)) ∈ l) : LetU W := by
  refine ⟨fun c hc => ?_, fun i hi => ?_⟩
  · obtain ⟨g, t, cs, fuel, p, hg, hty, hvar, hd⟩ := Lib.laidMet.reads h h3
    obtain rfl := Option.some.inj (gU1.symm.trans hg)
    obtain rfl := Option.some.inj (gU1t.symm.trans hty)
    rw [first_as] at hd
    have hcs := Lib.cells_of_tab (zs := Lib.firstTab) Tryd.underlying175 Tryd.underlying5 cells_U5 (by kernel_rfl) hd
    have := World.var?_cell hg hvar c
    rw [this, ← Array.getElem?_toList, hcs]
    simp [Lib.firstTab, hc]
  · obtain ⟨g, t, cs, fuel, p, hg, hty, hvar, hd⟩ := Lib.laidMet.reads h h4
    obtain rfl := Option.some.inj (gU2.symm.trans hg)
    obtain rfl := Option.some.inj (gU2t.symm.trans hty)
    rw [accept_as] at hd
    obtain ⟨fuel', d, q, hdi, he⟩ := Lib.array_elem Tryd.underlying178 hd i hi
    simp only [List.getElem?_map, List.getElem?_range hi, Option.map_some, Option.some.injEq] at hdi
    subst hdi
    rw [cells_U177] at he
    have hcs := Lib.ints_of_struct (k := .u8) Tryd.underlying177 (fun j f hj => by
      match j, hj with
      | 0, hj => simp at hj; subst hj; exact ⟨Tryd.underlying5, rfl, cells_U5⟩
      | 1, hj => simp at hj; subst hj; exact ⟨Tryd.underlying5, rfl, cells_U5⟩
      | j + 2, hj => simp at hj) (by rw [cells_U177]; rfl) he
    have e0 := congrArg (·[0]?) hcs
    have e1 := congrArg (·[1]?) hcs
    simp only [List.getElem?_take, List.getElem?_drop] at e0 e1
    constructor
    · rw [World.var?_cell hg hvar (2 * i), ← Array.getElem?_toList]
      simpa [Nat.mul_comm] using e0
    · rw [World.var?_cell hg hvar (2 * i + 1), ← Array.getElem?_toList]
      simpa [Nat.mul_comm] using e1
theorem ghostU_mk {W : World} (h : LetU W) : Kd.C kGU W GAU 1 [()] := ghost_mk h ((h.1 0 (by decide)).trans (by rfl))
end Go.Proofs.YtadlbegecgpaaaaDoor.S
