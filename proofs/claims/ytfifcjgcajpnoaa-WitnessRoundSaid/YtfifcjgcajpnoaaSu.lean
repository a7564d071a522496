/- The walk of MachineDead. No condition. -/
import Derived.Test.YtfifcjgcajpnoaaRj
import Derived.Test.YtfifcjgcajpnoaaZq
import Derived.Test.YtfifcjgcajpnoaaSj
import Derived.Test.YtfifcjgcajpnoaaSm
namespace Go.Proofs.Ytfifcjgcajpnoaa
set_option linter.unusedSimpArgs false
set_option linter.unusedVariables false
set_option maxRecDepth 20000
open Go Go.Proofs Go.Vc

section
variable {u : Un} {c : Cf} {m r : Int}
theorem moves_none : (movesF u c m r).length = 0 ↔ ∀ a, a ∈ agsF u m → canA u c m r a = false := by
  unfold movesF mvK
  rw [List.length_map, List.length_eq_zero_iff, List.filter_eq_nil_iff]
  constructor
  · intro h a ha
    obtain ⟨i, hi⟩ := List.getElem?_of_mem ha
    have := h i (List.mem_range.2 (List.getElem?_eq_some_iff.1 hi).1)
    simpa [hi] using this
  · intro h i hi
    have hi := List.mem_range.1 hi
    have hx : (agsF u m)[i]? = some (agsF u m)[i] := List.getElem?_eq_getElem hi
    rw [hx]
    simpa using h _ (List.getElem_mem hi)
theorem ended_at {i : Nat} {x : Ins} {row : List Int} {b : List En} {p : Nat} (ha : At10 u c i x row b p) : endedB u c (i : Nat) = (x.op == 22) := by
  obtain ⟨rw0, n, k1, k2, k3, k4, k5⟩ := ha.kind
  simp [endedB, k1, ha.pc, k3]
theorem quiet_buf {i : Nat} {b : List En} (h : quietB c = true) (hb : c.bufs[i]? = some b) : b = [] := by
  unfold quietB at h
  have := List.all_eq_true.1 h b (List.mem_of_getElem? hb)
  simpa using this
theorem final_none (h : Rt u c m r) (hF : finalB u c = true) : (movesF u c m r).length = 0 := by
  rw [moves_none]
  intro a ha
  have hl := h.lens
  have hu := h.uhead
  simp only [finalB, Bool.and_eq_true, List.all_eq_true] at hF
  obtain ⟨h1, h2⟩ := hF
  cases a with
  | th t =>
    show enT u c m r (t : Nat) = false
    by_cases ht : t ≥ c.pc.length
    · exact enT_no (.inr (by omega))
    obtain ⟨x, row, b, p, hat⟩ := h.at (i := t) (by omega)
    have := h1 t (List.mem_range.2 (by omega))
    rw [ended_at hat] at this
    rw [enT_at hat.thr]
    simp [enB, show x.op = 22 by simpa using this]
  | fl t l =>
    show flushB c m (t : Nat) l = false
    unfold flushB
    split
    · rename_i b _ hb
      rw [quiet_buf h2 hb]
      have hg := h.gate
      rcases (show m = 1 ∨ m = 2 ∨ m = 3 by omega) with rfl | rfl | rfl <;> simp [popF, nextF, fstI]
    · rfl
end

end Go.Proofs.Ytfifcjgcajpnoaa
/- Plain laws of witnesses: a circle that comes home can be gone round; twice; as part of the path; strongly fair is weakly fair. No condition. -/
namespace Go.Proofs.Ytfifcjgcajpnoaa
set_option linter.unusedSimpArgs false
set_option linter.unusedVariables false
set_option maxRecDepth 20000
open Go Go.Proofs Go.Vc

section
variable {u : Un} {m r : Int}

theorem enM_bad {c : Cf} {a : Int} (h : a < 0 ∨ 1000 ≤ a) : enM u c m r a = false := by
  cases he : enM u c m r a with
  | false => rfl
  | true =>
    have := enM_lt he
    have := agsF_len u m
    omega
theorem rep_bad {a : Int} (h : a < 0 ∨ 1000 ≤ a) : ((repF u m r [a]).2.2 == 0) = false := by
  unfold repF
  split
  · rfl
  · rfl
  · simp only [goF, enM_bad h]
    rfl
theorem final_en {c : Cf} (h : Rt u c m r) {a : Int} (he : enM u c m r a = true) : finalB u c = false ∧ deadB u c m r = false := by
  obtain ⟨h0, h1⟩ := enM_lt he
  have hn : (movesF u c m r).length ≠ 0 := fun hn => by
    have hm := moves_none.1 hn (agF u m a.toNat) (List.mem_of_getElem? (ag_at h1).1)
    have := enM_at (u := u) (c := c) (m := m) (r := r) h1
    rw [hm, Int.toNat_of_nonneg h0, he] at this
    cases this
  have hf : finalB u c = false := by
    cases hF : finalB u c with
    | false => rfl
    | true => exact absurd (final_none h hF) hn
  exact ⟨hf, by unfold deadB; rw [decide_eq_false hn, Bool.and_false]⟩

theorem las_spec {md : Int} {p w : List Int} (h : wLas u m r md p w = true) : ((repF u m r p).2.2 == 0) = true ∧ 0 < w.length ∧ (md = 1 ∨ md = 2) ∧ cyOk u m r (repF u m r p).1 w w.length = true ∧
    cyC u m r (repF u m r p).1 w w.length = (repF u m r p).1 ∧ cyU u m r md w (repF u m r p).1 = -1 := by
  unfold wLas lasB at h
  simp only [Bool.and_eq_true, Bool.not_eq_true', decide_eq_false_iff_not, Bool.or_eq_true, beq_iff_eq] at h
  obtain ⟨h1, h2, h3, h4, h5, h6⟩ := h
  exact ⟨by simpa using h1, by omega, h3, h4, sameC_eq h5, h6⟩
theorem las_mk {md : Int} {p w : List Int} (h1 : ((repF u m r p).2.2 == 0) = true) (h2 : 0 < w.length) (h3 : md = 1 ∨ md = 2) (h4 : cyOk u m r (repF u m r p).1 w w.length = true)
    (h5 : cyC u m r (repF u m r p).1 w w.length = (repF u m r p).1) (h6 : cyU u m r md w (repF u m r p).1 = -1) : wLas u m r md p w = true := by
  unfold wLas lasB
  rw [h1, h4, h5, h6, sameC_refl, decide_eq_false (by omega)]
  rcases h3 with rfl | rfl <;> rfl

theorem unf_spec {md stops : Int} {on ac : List Int} (h : unfF md stops on ac = -1) : ∀ i, i < on.length → badA md stops on ac i = false := by
  intro i hi
  unfold unfF at h
  cases hf : (List.range on.length).find? (badA md stops on ac) with
  | some a => rw [hf] at h; simp only at h; omega
  | none =>
    rw [List.find?_eq_none] at hf
    have := hf i (List.mem_range.2 hi)
    simpa using this
theorem tabI_getD {n a : Nat} (f : Nat → Nat) (h : a < n) : (tabI n f).getD a 0 = ((f a : Nat) : Int) := by
  rw [List.getD_eq_getElem?_getD, tabI_at f h]
  rfl
/-- What 'unfair to nobody' says. -/
theorem cyU_iff {md : Int} {w : List Int} {c : Cf} : cyU u m r md w c = -1 ↔ ∀ a, a < (agsF u m).length → cyAc w w.length a = 0 → ¬ (md = 1 ∧ cyOn u m r c w w.length a = w.length) ∧ ¬ (md = 2 ∧ cyOn u m r c w w.length a > 0) := by
  unfold cyU
  constructor
  · intro h a ha h0
    have := unf_spec h a (by rw [tabI_len]; exact ha)
    unfold badA at this
    rw [tabI_getD _ ha, tabI_getD _ ha, h0] at this
    refine ⟨fun ⟨h1, h2⟩ => ?_, fun ⟨h1, h2⟩ => ?_⟩
    · subst h1; rw [h2] at this; simp at this
    · subst h1; simp at this; omega
  · intro h
    refine unfF_no fun a ha => ?_
    rw [tabI_len] at ha
    unfold badA
    rw [tabI_getD _ ha, tabI_getD _ ha]
    by_cases h0 : cyAc w w.length a = 0
    · obtain ⟨h1, h2⟩ := h a ha h0
      rw [Bool.and_eq_false_iff]
      right
      rw [Bool.or_eq_false_iff]
      constructor
      · rw [Bool.and_eq_false_iff]
        by_cases e : md = 1
        · right; rw [beq_eq_false_iff_ne]; intro hh; exact h1 ⟨e, by omega⟩
        · left; simpa using e
      · rw [Bool.and_eq_false_iff]
        by_cases e : md = 2
        · right; rw [decide_eq_false_iff_not]; intro hh; exact h2 ⟨e, by omega⟩
        · left; simpa using e
    · rw [Bool.and_eq_false_iff]
      left
      rw [beq_eq_false_iff_ne]
      omega

theorem cyC_two {c : Cf} {w : List Int} (h : cyC u m r c w w.length = c) (k : Nat) : cyC u m r c (w ++ w) (w.length + k) = cyC u m r c w k ∧ (k ≤ w.length → cyC u m r c (w ++ w) k = cyC u m r c w k) := by
  unfold cyC at h ⊢
  rw [List.take_length] at h
  refine ⟨?_, fun hk => ?_⟩
  · rw [List.take_append, List.take_of_length_le (by omega), show w.length + k - w.length = k by omega, List.foldl_append, h]
  · rw [List.take_append, show k - w.length = 0 by omega, List.take_zero, List.append_nil]
theorem count_two {f g : Nat → Bool} {n : Nat} (h1 : ∀ i, i < n → f i = g i) (h2 : ∀ i, i < n → f (n + i) = g i) : (List.range (n + n)).countP f = (List.range n).countP g + (List.range n).countP g := by
  rw [List.range_add, List.countP_append, List.countP_map]
  congr 1
  · exact List.countP_congr fun i hi => by rw [h1 i (List.mem_range.1 hi)]
  · exact List.countP_congr fun i hi => by simp only [Function.comp]; rw [h2 i (List.mem_range.1 hi)]
theorem cyOn_two {c : Cf} {w : List Int} (h : cyC u m r c w w.length = c) (a : Nat) : cyOn u m r c (w ++ w) (w ++ w).length a = cyOn u m r c w w.length a + cyOn u m r c w w.length a := by
  unfold cyOn
  rw [List.length_append]
  exact count_two (fun i hi => by rw [(cyC_two h i).2 (by omega)]) (fun i hi => by rw [(cyC_two h i).1])
theorem cyAc_two (w : List Int) (a : Nat) : cyAc (w ++ w) (w ++ w).length a = cyAc w w.length a + cyAc w w.length a := by
  unfold cyAc
  rw [List.take_length, List.take_length, List.count_append]
theorem cyOk_two {c : Cf} {w : List Int} (h : cyC u m r c w w.length = c) (hk : cyOk u m r c w w.length = true) : cyOk u m r c (w ++ w) (w ++ w).length = true := by
  unfold cyOk at hk ⊢
  rw [List.all_eq_true] at hk ⊢
  intro i hi
  rw [List.length_append, List.mem_range] at hi
  rcases Nat.lt_or_ge i w.length with hlt | hge
  · rw [(cyC_two h i).2 (by omega), List.getD_eq_getElem?_getD, List.getElem?_append_left hlt, ← List.getD_eq_getElem?_getD]
    exact hk i (List.mem_range.2 hlt)
  · obtain ⟨j, rfl⟩ : ∃ j, i = w.length + j := ⟨i - w.length, by omega⟩
    rw [(cyC_two h j).1, List.getD_eq_getElem?_getD, List.getElem?_append_right (by omega), ← List.getD_eq_getElem?_getD, show w.length + j - w.length = j by omega]
    exact hk j (List.mem_range.2 (by omega))

/-- What WitnessRound says. -/
theorem las_round {md : Int} {p w : List Int} (h : wLas u m r md p w = true) : wRun u m r p w 7 = true ∧ wLas u m r md (p ++ w) w = true ∧ wLas u m r md p (w ++ w) = true ∧ wLas u m r 1 p w = true := by
  obtain ⟨h1, h2, h3, h4, h5, h6⟩ := las_spec h
  have ra := repF_app u m r p w
  rw [h1, h4] at ra
  refine ⟨?_, ?_, ?_, ?_⟩
  · unfold wRun runB
    rw [h1, h4, h5, sameC_refl]
    rfl
  · have e : (repF u m r (p ++ w)).1 = (repF u m r p).1 := by
      rw [ra.2 rfl, h5]
    have ra1 : ((repF u m r (p ++ w)).2.2 == 0) = true := ra.1
    exact las_mk ra1 h2 h3 (by rw [e]; exact h4) (by rw [e]; exact h5) (by rw [e]; exact h6)
  · refine las_mk h1 (by rw [List.length_append]; omega) h3 (cyOk_two h5 h4) ?_ ?_
    · rw [List.length_append, (cyC_two h5 w.length).1, h5]
    · rw [cyU_iff] at h6 ⊢
      intro a ha h0
      rw [cyAc_two] at h0
      rw [cyOn_two h5, List.length_append]
      have := h6 a ha (by omega)
      refine ⟨fun ⟨e1, e2⟩ => this.1 ⟨e1, by omega⟩, fun ⟨e1, e2⟩ => this.2 ⟨e1, by omega⟩⟩
  · refine las_mk h1 h2 (.inl rfl) h4 h5 ?_
    rcases h3 with rfl | rfl
    · exact h6
    · rw [cyU_iff] at h6 ⊢
      intro a ha h0
      have := h6 a ha h0
      exact ⟨fun ⟨_, e2⟩ => this.2 ⟨rfl, by omega⟩, fun ⟨e1, _⟩ => by omega⟩
/-- What WitnessPlain says. -/
theorem las_plain (hu : OkU u) {md : Int} {p w : List Int} (h : wLas u m r md p w = true) : wDead u m r p = false ∧ wFin u m r p = false ∧ wUnf u m r md p w = -1 := by
  obtain ⟨h1, h2, h3, h4, h5, h6⟩ := las_spec h
  have hR := repF_rt hu h1
  have he : enM u (repF u m r p).1 m r (w.getD 0 0) = true := by
    have := h4
    unfold cyOk at this
    rw [List.all_eq_true] at this
    have := this 0 (List.mem_range.2 h2)
    rwa [cyC_zero] at this
  obtain ⟨hF, hD⟩ := final_en hR he
  refine ⟨?_, ?_, ?_⟩
  · unfold wDead; rw [hD, Bool.and_false]
  · unfold wFin; rw [hF, Bool.and_false]
  · unfold wUnf; rw [h1, h4]; exact h6
theorem plain_no (md : Int) (p w : List Int) : wLas u m r md p [] = false ∧ wLas u m r md [-1] w = false ∧ wDead u m r [-1] = false ∧ wFin u m r [1000] = false ∧ wRun u m r [-1] [] 0 = false := by
  have b1 := rep_bad (u := u) (m := m) (r := r) (a := -1) (.inl (by decide))
  have b2 := rep_bad (u := u) (m := m) (r := r) (a := 1000) (.inr (by decide))
  refine ⟨?_, ?_, ?_, ?_, ?_⟩
  · unfold wLas; simp
  · unfold wLas; rw [b1]; rfl
  · unfold wDead; rw [b1]; rfl
  · unfold wFin; rw [b2]; rfl
  · unfold wRun; rw [b1]; rfl
end
end Go.Proofs.Ytfifcjgcajpnoaa
