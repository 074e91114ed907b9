/- Plain law: EnvSets, as printed, answers true for every list of fewer than 5864062014700 binds. -/
import Derived.Test.YtadlbegecgpaaaaDoorPName
import Derived.Test.YtadlbegecgpaaaaDoorE2
namespace Go.Proofs.YtadlbegecgpaaaaDoor.S
open Go Go.RowKit Go.Proofs.YtadlbegecgpaaaaDoorW.PrintWords
theorem setE_ok {l : List S63} {nm : ByteArray} {n : Int} (h : (setE l nm n).2 = 0) : nameOk nm = true ∧ ¬ (lastR l nm < 0 ∧ 64 ≤ l.length) ∧ (setE l nm n).1 = setR l nm n := by
  unfold setE at *
  by_cases ho : nameOk nm = true
  · rw [if_pos ho] at h ⊢
    by_cases hc : lastR l nm < 0 ∧ 64 ≤ l.length
    · rw [if_pos hc] at h; cases h
    · rw [if_neg hc]; exact ⟨ho, hc, rfl⟩
  · rw [if_neg ho] at h; cases h
theorem setE_mk {l : List S63} {nm : ByteArray} (n : Int) (ho : nameOk nm = true) (hc : ¬ (lastR l nm < 0 ∧ 64 ≤ l.length)) : setE l nm n = (setR l nm n, 0) := by
  unfold setE
  rw [if_pos ho, if_neg hc]
theorem setE_bad {l : List S63} {nm : ByteArray} {n : Int} (h : (setE l nm n).2 ≠ 0) : (setE l nm n).1 = [] ∧ (nameOk nm = true → 64 ≤ l.length) := by
  unfold setE at *
  by_cases ho : nameOk nm = true
  · rw [if_pos ho] at h ⊢
    by_cases hc : lastR l nm < 0 ∧ 64 ≤ l.length
    · rw [if_pos hc]; exact ⟨rfl, fun _ => hc.2⟩
    · rw [if_neg hc] at h; exact absurd rfl h
  · rw [if_neg ho]; exact ⟨rfl, fun h2 => absurd h2 ho⟩
theorem EnvSets_pure (l : List S63) (nm other : ByteArray) (n m : Int) (hl : l.length < 5864062014700) (h1 : nm.size ≤ 9000000000000000000) (h2 : other.size ≤ 9000000000000000000) (k : Nat) (hk : l.length + nm.size + 20 < k) : sorrellaw07_EnvSets.f k l nm other n m = some true := by
  unfold sorrellaw07_EnvSets.f
  rw [awake_is k (by omega), copied_is l (by omega)]
  simp only [Option.bind_some, if_true]
  rw [set_is l nm n (by omega) (by omega) k (by omega)]
  simp only [Option.bind_some]
  by_cases he : (setE l nm n).2 = 0
  · obtain ⟨ho, hc, ha⟩ := setE_ok he
    rw [if_pos he, ha]
    obtain ⟨a, haa⟩ : ∃ a, a = setR l nm n := ⟨_, rfl⟩
    rw [← haa]
    have hlen : a.length = if lastR l nm < 0 then l.length + 1 else l.length := by rw [haa, set_length]
    have hlen1 : l.length ≤ a.length ∧ a.length ≤ l.length + 1 := by rw [hlen]; by_cases h : lastR l nm < 0 <;> simp only [h, if_true, if_false] <;> omega
    have hga : getR a nm = n := by rw [haa, get_set_own]
    have hla : ¬ lastR a nm < 0 := by
      rw [haa, set_last_own]
      by_cases h : lastR l nm < 0
      · rw [if_pos h]; omega
      · rw [if_neg h]; exact h
    rw [get_is a nm (by omega) k (by omega)]
    simp only [Option.bind_some]
    rw [if_pos hga]
    have hlt : ¬ (a.length : Int) < (l.length : Int) := by omega
    have hgt : decide ((a.length : Int) > (wrap64 ((l.length : Int) + 1))) = false := decide_eq_false (by unfold wrap64; omega)
    -- from the joining point on
    have key : sorrellaw07_EnvSets.j0 k l nm other n m a false = some true := by
      obtain ⟨k, rfl⟩ : ∃ q, k = q + 1 := ⟨k - 1, by omega⟩
      simp only [sorrellaw07_EnvSets.j0]
      rw [if_neg (by decide), copied_is a (by omega)]
      simp only [Option.bind_some]
      rw [set_is a nm n (by omega) (by omega) k (by omega), setE_mk n ho (fun h => hla h.1)]
      simp only [Option.bind_some, if_true]
      rw [show setR a nm n = a by rw [haa, set_set], same_is a (by omega) k (by omega)]
      simp only [Option.bind_some, Bool.not_true]
      obtain ⟨k, rfl⟩ : ∃ q, k = q + 1 := ⟨k - 1, by omega⟩
      simp only [sorrellaw07_EnvSets.j1]
      rw [if_neg (by decide), copied_is a (by omega)]
      simp only [Option.bind_some]
      rw [set_is a other m (by omega) (by omega) k (by omega)]
      simp only [Option.bind_some]
      obtain ⟨k, rfl⟩ : ∃ q, k = q + 1 := ⟨k - 1, by omega⟩
      by_cases hb : (setE a other m).2 = 0
      · rw [if_pos hb]
        obtain ⟨hob, hcb, hbb⟩ := setE_ok hb
        simp only [sorrellaw07_EnvSets.j2]
        by_cases heq : other.toList = nm.toList
        · rw [if_pos (beq_iff_eq.2 heq), if_pos hb]
        · rw [if_neg (by simpa using heq)]
          have hother : lastR a other = lastR l other := by rw [haa, set_last_other l nm other n heq]
          have hcc : ¬ (lastR l other < 0 ∧ 64 ≤ l.length) := by
            rintro ⟨h3, h4⟩
            exact hcb ⟨by rw [hother]; exact h3, by omega⟩
          rw [copied_is l (by omega)]
          simp only [Option.bind_some]
          rw [set_is l other m (by omega) (by omega) k (by omega), setE_mk m hob hcc]
          simp only [Option.bind_some, if_true]
          obtain ⟨c, hcdef⟩ : ∃ c, c = setR l other m := ⟨_, rfl⟩
          rw [← hcdef]
          have hclen : c.length = if lastR l other < 0 then l.length + 1 else l.length := by rw [hcdef, set_length]
          have hclen1 : c.length ≤ l.length + 1 := by rw [hclen]; by_cases h : lastR l other < 0 <;> simp only [h, if_true, if_false] <;> omega
          have heq' : nm.toList ≠ other.toList := fun e => heq e.symm
          have hcn : lastR c nm = lastR l nm := by rw [hcdef, set_last_other l other nm m heq']
          have hcd : ¬ (lastR c nm < 0 ∧ 64 ≤ c.length) := by
            rintro ⟨h3, h4⟩
            rw [hcn] at h3
            by_cases h5 : lastR l other < 0
            · refine hcb ⟨by rw [hother]; exact h5, ?_⟩
              rw [hlen, if_pos h3]
              rw [hclen, if_pos h5] at h4
              exact h4
            · rw [hclen, if_neg h5] at h4
              exact hc ⟨h3, h4⟩
          rw [copied_is c (by omega)]
          simp only [Option.bind_some]
          rw [set_is c nm n (by omega) (by omega) k (by omega), setE_mk n ho hcd]
          simp only [Option.bind_some, if_true]
          rw [hbb]
          have hblen : (setR a other m).length ≤ a.length + 1 := by rw [set_length]; by_cases h : lastR a other < 0 <;> simp only [h, if_true, if_false] <;> omega
          have hdlen : (setR c nm n).length ≤ c.length + 1 := by rw [set_length]; by_cases h : lastR c nm < 0 <;> simp only [h, if_true, if_false] <;> omega
          rw [get_is _ nm (by omega) k (by omega), get_is _ nm (by omega) k (by omega)]
          simp only [Option.bind_some]
          rw [get_set_other a other nm m heq', hga, get_set_own, if_pos rfl, get_is _ other (by omega) k (by omega), get_is _ other (by omega) k (by omega)]
          simp only [Option.bind_some]
          rw [get_set_own, get_set_other c nm other n heq]
          rw [show getR c other = m by rw [hcdef, get_set_own], if_pos rfl]
          have hee : (setR a other m).length = (setR c nm n).length := by
            rw [set_length, set_length, hother, hcn, hlen, hclen]
            by_cases h5 : lastR l other < 0 <;> by_cases h6 : lastR l nm < 0 <;> simp only [h5, h6, if_true, if_false]
          rw [hee]
          simp
      · rw [if_neg hb]
        simp only [sorrellaw07_EnvSets.j2]
        rw [if_pos trivial, if_neg hb, (setE_bad hb).1]
        rfl
    by_cases heq : other.toList = nm.toList
    · rw [if_pos heq, if_neg hlt, hgt]
      exact key
    · rw [if_neg heq, get_is a other (by omega) k (by omega)]
      simp only [Option.bind_some]
      rw [get_is l other (by omega) k (by omega)]
      simp only [Option.bind_some]
      rw [if_pos (by rw [haa, get_set_other l nm other n heq]), if_neg hlt, hgt]
      exact key
  · obtain ⟨h3, h4⟩ := setE_bad he
    rw [if_neg he, h3, if_pos (by rfl), refName_is nm h1 k (by omega)]
    simp only [Option.bind_some]
    by_cases ho : nameOk nm = true
    · rw [if_pos ho]
      have := h4 ho
      exact congrArg some (decide_eq_true (by omega))
    · rw [if_neg ho]
end Go.Proofs.YtadlbegecgpaaaaDoor.S
