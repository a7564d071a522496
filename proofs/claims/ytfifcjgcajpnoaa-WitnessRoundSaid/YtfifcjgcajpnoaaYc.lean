/- The plain law of code's value. No condition. -/
import Derived.Test.YtfifcjgcajpnoaaXk
import Derived.Test.YtfifcjgcajpnoaaXg
namespace Go.Proofs.Ytfifcjgcajpnoaa
set_option linter.unusedSimpArgs false
set_option linter.unusedVariables false
open Go Go.Proofs Go.Vc

def stepV (md : Int) (own : List Int) (all : List (List Int)) (mem : List Int) (s : List Int) (x : Opc) : List Int :=
  if x.1 = 1 then s ++ [x.2.1.tmod md] else if x.1 = 2 then s ++ [own.getD x.2.1.toNat 0] else if x.1 = 3 then s ++ [mem.getD x.2.1.toNat 0] else if x.1 = 4 then s ++ [(all.getD x.2.2.toNat []).getD x.2.1.toNat 0]
  else if x.1 = 5 then s.set (s.length - 1) (tI (s.getD (s.length - 1) 0 == 0)) else (s.set (s.length - 2) (twoF x.1 (s.getD (s.length - 2) 0) (s.getD (s.length - 1) 0) md)).take (s.length - 1)
def runV (md : Int) (own : List Int) (all : List (List Int)) (mem : List Int) (l : List Opc) (s : List Int) : List Int := l.foldl (stepV md own all mem) s
def lensI (all : List (List Int)) : List Int := all.map fun r => (r.length : Int)
def valB (l : List Opc) (md : Int) (own : List Int) (all : List (List Int)) (mem : List Int) : Bool :=
  decide (2 ≤ md) && decide (md ≤ 16) && allB own md && allB mem md && (all.all fun r => allB r md) && codeB l (lensI all) own.length mem.length
def valF (l : List Opc) (md : Int) (own : List Int) (all : List (List Int)) (mem : List Int) : Int := match valB l md own all mem with | true => (runV md own all mem l []).getD 0 0 | false => 0

theorem inB_spec {n m : Int} : inB n m = true ↔ 0 ≤ n ∧ n < m := by simp [inB]
theorem allB_append {s t : List Int} {md : Int} : allB (s ++ t) md = (allB s md && allB t md) := by simp [allB]
theorem allB_get {s : List Int} {md : Int} (h : allB s md = true) {i : Nat} {n : Int} (hn : s[i]? = some n) : 0 ≤ n ∧ n < md := by
  unfold allB at h
  rw [List.all_eq_true] at h
  exact inB_spec.1 (h n (List.mem_of_getElem? hn))
theorem allB_getD {s : List Int} {md : Int} (h : allB s md = true) (hm : 0 < md) (i : Nat) : 0 ≤ s.getD i 0 ∧ s.getD i 0 < md := by
  rw [List.getD_eq_getElem?_getD]
  cases hq : s[i]? with
  | none => exact ⟨Int.le_refl _, hm⟩
  | some n => exact allB_get h hq
theorem allB_take {s : List Int} {md : Int} (h : allB s md = true) (k : Nat) : allB (s.take k) md = true := by
  unfold allB at *
  rw [List.all_eq_true] at *
  exact fun x hx => h x (List.mem_of_mem_take hx)
theorem allB_set {s : List Int} {md : Int} (h : allB s md = true) (k : Nat) {v : Int} (hv : 0 ≤ v ∧ v < md) : allB (s.set k v) md = true := by
  unfold allB at *
  rw [List.all_eq_true] at *
  intro x hx
  rcases List.mem_or_eq_of_mem_set hx with h' | h'
  · exact h x h'
  · subst h'; exact inB_spec.2 hv
theorem tI_in (b : Bool) : 0 ≤ tI b ∧ tI b ≤ 1 := by cases b <;> decide
theorem tmod_in {a md : Int} (h0 : 0 ≤ a) (hm : 0 < md) : 0 ≤ a.tmod md ∧ a.tmod md < md := by
  rw [Int.tmod_eq_emod_of_nonneg h0]
  exact ⟨Int.emod_nonneg _ (by omega), Int.emod_lt_of_pos _ hm⟩
theorem twoF_in {op a b md : Int} (hm : 2 ≤ md) (ha : 0 ≤ a ∧ a < md) (hb : 0 ≤ b ∧ b < md) : 0 ≤ twoF op a b md ∧ twoF op a b md < md := by
  have t : ∀ c : Bool, 0 ≤ tI c ∧ tI c < md := fun c => ⟨(tI_in c).1, by have := (tI_in c).2; omega⟩
  unfold twoF
  repeat' split
  all_goals first
    | exact t _
    | exact tmod_in (by omega) (by omega)
    | exact tmod_in (Int.mul_nonneg ha.1 hb.1) (by omega)

theorem lie_leaf {op n : Int} (h : 1 ≤ op ∧ op ≤ 4) : lieStep op n = some (n + 1) := by simp [lieStep, h]

theorem stepV_spec {md : Int} (hm : 2 ≤ md) {own mem s : List Int} {all : List (List Int)} {x : Opc} (ho : okOp (lensI all) own.length mem.length x = true) (hown : allB own md = true) (hmem : allB mem md = true)
    (hall : (all.all fun r => allB r md) = true) (hs : allB s md = true) {n' : Int} (hl : lieStep x.1 s.length = some n') : allB (stepV md own all mem s x) md = true ∧ ((stepV md own all mem s x).length : Int) = n' := by
  have one : ∀ v, 0 ≤ v ∧ v < md → allB (s ++ [v]) md = true := fun v hv => by
    rw [allB_append, hs]
    simp [allB, inB_spec, inB, hv]
  have len1 : ∀ v : Int, ((s ++ [v]).length : Int) = s.length + 1 := fun v => by simp
  unfold stepV
  by_cases h1 : x.1 = 1
  · rw [if_pos h1]
    rw [lie_leaf (by omega)] at hl; cases hl
    have h0 : 0 ≤ x.2.1 := by
      have : inB x.2.1 10000 = true := by simpa [okOp, h1] using ho
      exact (inB_spec.1 this).1
    exact ⟨one _ (tmod_in h0 (by omega)), len1 _⟩
  rw [if_neg h1]
  by_cases h2 : x.1 = 2
  · rw [if_pos h2]
    rw [lie_leaf (by omega)] at hl; cases hl
    exact ⟨one _ (allB_getD hown (by omega) _), len1 _⟩
  rw [if_neg h2]
  by_cases h3 : x.1 = 3
  · rw [if_pos h3]
    rw [lie_leaf (by omega)] at hl; cases hl
    exact ⟨one _ (allB_getD hmem (by omega) _), len1 _⟩
  rw [if_neg h3]
  by_cases h4 : x.1 = 4
  · rw [if_pos h4]
    rw [lie_leaf (by omega)] at hl; cases hl
    refine ⟨one _ ?_, len1 _⟩
    rw [List.getD_eq_getElem?_getD (l := all)]
    cases hq : all[x.2.2.toNat]? with
    | none => simp; omega
    | some r =>
      rw [List.all_eq_true] at hall
      exact allB_getD (hall r (List.mem_of_getElem? hq)) (by omega) _
  rw [if_neg h4]
  by_cases h5 : x.1 = 5
  · rw [if_pos h5]
    have : lieStep x.1 s.length = some (s.length : Int) ∨ lieStep x.1 s.length = none := by
      unfold lieStep
      rw [if_neg (by omega)]
      split
      · exact .inl rfl
      · rw [if_neg (by omega)]; exact .inr rfl
    rcases this with h | h <;> rw [h] at hl <;> cases hl
    exact ⟨allB_set hs _ ⟨(tI_in _).1, by have := (tI_in (s.getD (s.length - 1) 0 == 0)).2; omega⟩, by simp⟩
  rw [if_neg h5]
  have : (2 ≤ (s.length : Int) ∧ lieStep x.1 s.length = some ((s.length : Int) - 1)) ∨ lieStep x.1 s.length = none := by
    unfold lieStep
    by_cases hq : 1 ≤ x.1 ∧ x.1 ≤ 4
    · omega
    rw [if_neg hq, if_neg (by omega)]
    split
    · rename_i h; exact .inl ⟨h.2, rfl⟩
    · exact .inr rfl
  rcases this with ⟨h2', h⟩ | h <;> rw [h] at hl <;> cases hl
  refine ⟨allB_take (allB_set hs _ (twoF_in hm (allB_getD hs (by omega) _) (allB_getD hs (by omega) _))) _, ?_⟩
  rw [List.length_take, List.length_set]
  omega

/-- What holds at each step of code. -/
structure RunI (md : Int) (own : List Int) (all : List (List Int)) (mem : List Int) (l : List Opc) (k : Nat) (s : List Int) : Prop where
  le : k ≤ l.length
  len : s.length ≤ k
  inm : allB s md = true
  ok : ∃ most, oneL (liesF (l.drop k) s.length most) = true
  run : runV md own all mem (l.drop k) s = runV md own all mem l []
theorem RunI.zero {md : Int} {own mem : List Int} {all : List (List Int)} {l : List Opc} (h : oneL (liesF l 0 0) = true) : RunI md own all mem l 0 [] :=
  ⟨Nat.zero_le _, Nat.le_refl _, rfl, ⟨0, by simpa using h⟩, by simp⟩
theorem RunI.next {md : Int} (hm : 2 ≤ md) {own mem s : List Int} {all : List (List Int)} {l : List Opc} {k : Nat} {x : Opc} (h : RunI md own all mem l k s) (hx : l[k]? = some x) (ho : okOp (lensI all) own.length mem.length x = true) (hown : allB own md = true) (hmem : allB mem md = true)
    (hall : (all.all fun r => allB r md) = true) : (∃ n', lieStep x.1 s.length = some n') ∧ RunI md own all mem l (k + 1) (stepV md own all mem s x) := by
  have hlt := (List.getElem?_eq_some_iff.1 hx).1
  have hdr : l.drop k = x :: l.drop (k + 1) := by rw [List.drop_eq_getElem_cons hlt]; congr 1; exact Option.some.inj ((List.getElem?_eq_getElem hlt).symm.trans hx)
  obtain ⟨most, hok⟩ := h.ok
  rw [hdr, liesF_cons] at hok
  cases hs : lieStep x.1 s.length with
  | none => rw [hs] at hok; cases hok
  | some n' =>
    rw [hs] at hok
    obtain ⟨h1, h2⟩ := stepV_spec hm ho hown hmem hall h.inm hs
    refine ⟨⟨n', rfl⟩, by omega, ?_, h1, ⟨max most n', by rw [h2]; exact hok⟩, ?_⟩
    · have := h.len
      have hn : n' ≤ s.length + 1 := by
        unfold lieStep at hs
        repeat' split at hs
        all_goals first | (cases hs; omega) | cases hs
      omega
    · rw [← h.run, hdr]; rfl
theorem RunI.last {md : Int} {own mem s : List Int} {all : List (List Int)} {l : List Opc} {k : Nat} (h : RunI md own all mem l k s) (hk : l.length ≤ k) : s = runV md own all mem l [] ∧ s.length = 1 := by
  have hr := h.run
  obtain ⟨most, hok⟩ := h.ok
  rw [List.drop_eq_nil_of_le hk] at hr hok
  refine ⟨hr, ?_⟩
  have : ((s.length : Int) == 1) = true := hok
  have := eq_of_beq this
  omega

theorem flatI (s : List Int) : (iRs s).flatten = s.map iD := by
  unfold iRs
  induction s with
  | nil => rfl
  | cons n s ih => rw [List.map_cons, List.flatten_cons, ih]; rfl

/-- Own numbers, read by others. -/
theorem Fz_ints {g : Option (Nat × Nat)} {e : TypeId} {s : List Int} {H : Heap} (hg : gOk g s.length) (hm : ∀ b cap, g = some (b, cap) → (b, HC.cells e (cap * 1) (s.map iD)) ∈ H) : Fz H (ints s) (.gs g s.length) := by
  cases g with
  | none =>
    have h0 : s = [] := List.eq_nil_of_length_eq_zero hg
    subst h0
    exact fz_nil
  | some p =>
    obtain ⟨b, cap⟩ := p
    refine .inr ⟨rfl, .inr (.inr ⟨b, 0, _, cap, .inl ⟨rfl, rfl⟩, (iRs_len s).symm, _, _, _, hm b cap rfl, ?_⟩)⟩
    rw [List.drop_zero]
    rw [← flatI]
    exact FzR.refl _ _ (iRs_row s)
end Go.Proofs.Ytfifcjgcajpnoaa
