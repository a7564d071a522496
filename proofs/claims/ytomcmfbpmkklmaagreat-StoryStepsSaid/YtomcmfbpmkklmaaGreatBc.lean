/- What can be reached, in plain Lean: found one behind the other. No condition. -/
import Derived.Test.YtomcmfbpmkklmaaGreatWb
namespace Go.Proofs.YtomcmfbpmkklmaaGreat
set_option linter.unusedSimpArgs false
set_option linter.unusedVariables false
set_option linter.unusedSectionVars false
open Go Go.Proofs Go.Vc
attribute [local irreducible] retQ VCg VCw VCx
section
variable {α : Type} [DecidableEq α]
structure Spc (α : Type) where
 cf : List α
 pa : List Int
 ag : List Int
 ed : List (Nat × Int × Nat)
def stepA (ac : α → Int → α) (b i : Nat) (c : α) (S : Spc α) (a : Int) : Option (Spc α) :=
 match S.cf.idxOf? (ac c a) with
 | some k => some { S with ed := S.ed ++ [(i, a, k)] }
 | none => match decide (S.cf.length < b) with
  | true => some ⟨S.cf ++ [ac c a], S.pa ++ [(i : Int)], S.ag ++ [a], S.ed ++ [(i, a, S.cf.length)]⟩
  | false => none
def Ext (S S' : Spc α) : Prop := ∃ c p q e, S'.cf = S.cf ++ c ∧ S'.pa = S.pa ++ p ∧ S'.ag = S.ag ++ q ∧ S'.ed = S.ed ++ e
theorem Ext.refl (S : Spc α) : Ext S S := ⟨[], [], [], [], by simp⟩
theorem Ext.trans {S S' S'' : Spc α} (h : Ext S S') (k : Ext S' S'') : Ext S S'' := by
 obtain ⟨c, p, q, e, h1, h2, h3, h4⟩ := h
 obtain ⟨c', p', q', e', k1, k2, k3, k4⟩ := k
 exact ⟨c ++ c', p ++ p', q ++ q', e ++ e', by rw [k1, h1, List.append_assoc], by rw [k2, h2, List.append_assoc], by rw [k3, h3, List.append_assoc], by rw [k4, h4, List.append_assoc]⟩
theorem Ext.len {S S' : Spc α} (h : Ext S S') : S.cf.length ≤ S'.cf.length := by
 obtain ⟨c, p, q, e, h1, _⟩ := h
 rw [h1, List.length_append]; omega
theorem Ext.at {S S' : Spc α} (h : Ext S S') {i : Nat} {c : α} (hc : S.cf[i]? = some c) : S'.cf[i]? = some c := by
 obtain ⟨d, p, q, e, h1, _⟩ := h
 rw [h1, List.getElem?_append_left (List.getElem?_eq_some_iff.1 hc).1]; exact hc
theorem Ext.mem {S S' : Spc α} (h : Ext S S') {x : α} (hx : x ∈ S.cf) : x ∈ S'.cf := by
 obtain ⟨d, p, q, e, h1, _⟩ := h
 rw [h1]; exact List.mem_append_left _ hx
def ByOk (mv : α → List Int) (ac : α → Int → α) (S : Spc α) (j : Nat) : Prop :=
 ∃ (p : Nat) (a : Int) (c : α), p < j ∧ S.pa[j]? = some (p : Int) ∧ S.ag[j]? = some a ∧ S.cf[p]? = some c ∧ a ∈ mv c ∧ S.cf[j]? = some (ac c a)
structure IA (mv : α → List Int) (ac : α → Int → α) (s : α) (S : Spc α) : Prop where
 pal : S.pa.length = S.cf.length
 agl : S.ag.length = S.cf.length
 nd : S.cf.Nodup
 first : S.cf[0]? = some s ∧ S.pa[0]? = some (-1) ∧ S.ag[0]? = some (-1)
 by_ : ∀ j, 0 < j → j < S.cf.length → ByOk mv ac S j
theorem ByOk.ext {mv : α → List Int} {ac : α → Int → α} {S S' : Spc α} (h : Ext S S') (hp : S.pa.length = S.cf.length) (hg : S.ag.length = S.cf.length) {j : Nat} (k : ByOk mv ac S j) : ByOk mv ac S' j := by
 obtain ⟨p, a, c, h1, h2, h3, h4, h5, h6⟩ := k
 refine ⟨p, a, c, h1, ?_, ?_, h.at h4, h5, h.at h6⟩
 ·obtain ⟨d, p, q, e, _, e2, _⟩ := h
  rw [e2, List.getElem?_append_left (List.getElem?_eq_some_iff.1 h2).1]; exact h2
 ·obtain ⟨d, p, q, e, _, _, e3, _⟩ := h
  rw [e3, List.getElem?_append_left (List.getElem?_eq_some_iff.1 h3).1]; exact h3
theorem IA.all {mv : α → List Int} {ac : α → Int → α} {s : α} {S : Spc α} (I : IA mv ac s S) {p : α → Prop} (h0 : p s) (h : ∀ c a, p c → a ∈ mv c → p (ac c a)) : ∀ (j : Nat) (c : α), S.cf[j]? = some c → p c := by
 intro j
 induction j using Nat.strongRecOn with
 | _ j ih =>
  intro c hc
  rcases Nat.eq_zero_or_pos j with rfl | h0'
  ·rw [I.first.1] at hc; cases hc; exact h0
  ·obtain ⟨q, a, d, h1, _, _, h4, h5, h6⟩ := I.by_ j h0' (List.getElem?_eq_some_iff.1 hc).1
   rw [hc] at h6
   cases h6
   exact h d a (ih q h1 d h4) h5
end
abbrev Ed := Int × Int × Int
structure Cs where
 st : List Int
 ag : List Int
 to : List Int
end Go.Proofs.YtomcmfbpmkklmaaGreat
