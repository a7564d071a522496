/- What can be reached, in plain Lean: found one behind the other. No condition. -/
import Derived.Test.YtomcmfbpmkklmaaGreatWb
namespace Go.Proofs.YtomcmfbpmkklmaaGreat
set_option linter.unusedSimpArgs false
set_option linter.unusedVariables false
set_option linter.unusedSectionVars false
open Go Go.Proofs Go.Vc
attribute [local irreducible] retQ VCg VCw VCx
section
variable {α : Type} [DecidableEq α]
structure Spc (α : Type) where
 cf : List α
 pa : List Int
 ag : List Int
 ed : List (Nat × Int × Nat)
def stepA (ac : α → Int → α) (b i : Nat) (c : α) (S : Spc α) (a : Int) : Option (Spc α) :=
 match S.cf.idxOf? (ac c a) with
 | some k => some { S with ed := S.ed ++ [(i, a, k)] }
 | none => match decide (S.cf.length < b) with
  | true => some ⟨S.cf ++ [ac c a], S.pa ++ [(i : Int)], S.ag ++ [a], S.ed ++ [(i, a, S.cf.length)]⟩
  | false => none
def rowA (ac : α → Int → α) (b i : Nat) (c : α) : List Int → Spc α → Option (Spc α)
 | [], S => some S
 | a :: l, S => match stepA ac b i c S a with
  | some S' => rowA ac b i c l S'
  | none => none
def rowsA (mv : α → List Int) (ac : α → Int → α) (b : Nat) : Nat → Nat → Spc α → Option (Spc α)
 | 0, _, S => some S
 | n + 1, i, S => match S.cf[i]? with
  | none => some S
  | some c => match rowA ac b i c (mv c) S with
   | some S' => rowsA mv ac b n (i + 1) S'
   | none => none
theorem stepA_len {ac : α → Int → α} {b i : Nat} {c : α} {S S' : Spc α} {a : Int} (h : stepA ac b i c S a = some S') (hb : S.cf.length ≤ b) : S'.cf.length ≤ b ∧ S.cf.length ≤ S'.cf.length := by
 unfold stepA at h
 split at h
 ·cases h; exact ⟨hb, Nat.le_refl _⟩
 ·split at h
  ·rename_i hd
   have := of_decide_eq_true hd
   cases h
   simp; omega
  ·cases h
theorem rowA_len {ac : α → Int → α} {b i : Nat} {c : α} : ∀ {l : List Int} {S S' : Spc α}, rowA ac b i c l S = some S' → S.cf.length ≤ b → S'.cf.length ≤ b ∧ S.cf.length ≤ S'.cf.length
 | [], S, S', h, hb => by cases h; exact ⟨hb, Nat.le_refl _⟩
 | a :: l, S, S', h, hb => by
  unfold rowA at h
  split at h
  ·rename_i S1 h1
   have k1 := stepA_len h1 hb
   have k2 := rowA_len h k1.1
   exact ⟨k2.1, by omega⟩
  ·cases h
theorem idxOf?_some {l : List α} {x : α} {k : Nat} (h : l.idxOf? x = some k) : l[k]? = some x := by
 rw [List.idxOf?, List.findIdx?_eq_some_iff_getElem] at h
 obtain ⟨hk, h1, _⟩ := h
 rw [List.getElem?_eq_getElem hk]
 simpa using h1
theorem idxOf?_none {l : List α} {x : α} (h : l.idxOf? x = none) : x ∉ l := by
 rw [List.idxOf?, List.findIdx?_eq_none_iff] at h
 intro hm
 have := h x hm
 simp at this
def idxD (l : List α) (x : α) : Option Nat := l.idxOf? x
theorem idxD_some {l : List α} {x : α} {k : Nat} (h : idxD l x = some k) : l[k]? = some x := idxOf?_some h
def Ext (S S' : Spc α) : Prop := ∃ c p q e, S'.cf = S.cf ++ c ∧ S'.pa = S.pa ++ p ∧ S'.ag = S.ag ++ q ∧ S'.ed = S.ed ++ e
theorem Ext.refl (S : Spc α) : Ext S S := ⟨[], [], [], [], by simp⟩
theorem Ext.trans {S S' S'' : Spc α} (h : Ext S S') (k : Ext S' S'') : Ext S S'' := by
 obtain ⟨c, p, q, e, h1, h2, h3, h4⟩ := h
 obtain ⟨c', p', q', e', k1, k2, k3, k4⟩ := k
 exact ⟨c ++ c', p ++ p', q ++ q', e ++ e', by rw [k1, h1, List.append_assoc], by rw [k2, h2, List.append_assoc], by rw [k3, h3, List.append_assoc], by rw [k4, h4, List.append_assoc]⟩
theorem Ext.len {S S' : Spc α} (h : Ext S S') : S.cf.length ≤ S'.cf.length := by
 obtain ⟨c, p, q, e, h1, _⟩ := h
 rw [h1, List.length_append]; omega
theorem Ext.at {S S' : Spc α} (h : Ext S S') {i : Nat} {c : α} (hc : S.cf[i]? = some c) : S'.cf[i]? = some c := by
 obtain ⟨d, p, q, e, h1, _⟩ := h
 rw [h1, List.getElem?_append_left (List.getElem?_eq_some_iff.1 hc).1]; exact hc
theorem stepA_ext {ac : α → Int → α} {b i : Nat} {c : α} {S S' : Spc α} {a : Int} (h : stepA ac b i c S a = some S') : Ext S S' := by
 unfold stepA at h
 split at h
 ·cases h; exact ⟨[], [], [], _, by simp, by simp, by simp, rfl⟩
 ·split at h
  ·cases h; exact ⟨[_], [_], [_], [_], rfl, rfl, rfl, rfl⟩
  ·cases h
theorem rowA_ext {ac : α → Int → α} {b i : Nat} {c : α} : ∀ {l : List Int} {S S' : Spc α}, rowA ac b i c l S = some S' → Ext S S'
 | [], S, S', h => by cases h; exact Ext.refl _
 | a :: l, S, S', h => by
  unfold rowA at h
  split at h
  ·rename_i S1 h1; exact (stepA_ext h1).trans (rowA_ext h)
  ·cases h
theorem rowsA_ext {mv : α → List Int} {ac : α → Int → α} {b : Nat} : ∀ {n i : Nat} {S S' : Spc α}, rowsA mv ac b n i S = some S' → Ext S S'
 | 0, i, S, S', h => by cases h; exact Ext.refl _
 | n + 1, i, S, S', h => by
  unfold rowsA at h
  split at h
  ·cases h; exact Ext.refl _
  ·split at h
   ·rename_i S1 h1; exact (rowA_ext h1).trans (rowsA_ext h)
   ·cases h
theorem stepA_b {ac : α → Int → α} {b b' i : Nat} {c : α} {S S' : Spc α} {a : Int} (h : stepA ac b i c S a = some S') (hb : S'.cf.length ≤ b') : stepA ac b' i c S a = some S' := by
 unfold stepA at h ⊢
 split at h
 ·exact h
 ·split at h
  ·cases h
   simp only [List.length_append, List.length_singleton] at hb
   rw [decide_eq_true (by omega)]
  ·cases h
theorem rowA_b {ac : α → Int → α} {b b' i : Nat} {c : α} : ∀ {l : List Int} {S S' : Spc α}, rowA ac b i c l S = some S' → S'.cf.length ≤ b' → rowA ac b' i c l S = some S'
 | [], S, S', h, _ => h
 | a :: l, S, S', h, hb => by
  unfold rowA at h ⊢
  split at h
  ·rename_i S1 h1
   have := (rowA_ext h).len
   rw [stepA_b h1 (by omega)]
   exact rowA_b h hb
  ·cases h
theorem rowsA_b {mv : α → List Int} {ac : α → Int → α} {b b' : Nat} : ∀ {n n' i : Nat} {S S' : Spc α}, rowsA mv ac b n i S = some S' → S'.cf.length ≤ b' → S'.cf.length < i + n → S'.cf.length < i + n' → rowsA mv ac b' n' i S = some S'
 | 0, n', i, S, S', h, hb, hn, hn' => by
  cases h
  cases n' with
  | zero => rfl
  | succ n' => unfold rowsA; rw [List.getElem?_eq_none (by omega)]
 | n + 1, 0, i, S, S', h, hb, hn, hn' => by
  have := (rowsA_ext h).len
  unfold rowsA at h ⊢
  rw [List.getElem?_eq_none (by omega)] at h
  exact h
 | n + 1, n' + 1, i, S, S', h, hb, hn, hn' => by
  unfold rowsA at h ⊢
  split at h
  ·exact h
  ·rename_i c hc
   split at h
   ·rename_i S1 h1
    have := (rowsA_ext h).len
    rw [show rowA ac b' i c (mv c) S = some S1 from rowA_b h1 (by omega)]
    exact rowsA_b h hb (by omega) (by omega)
   ·cases h
theorem stepA_less {ac : α → Int → α} {b b' i : Nat} {c : α} {S S' T : Spc α} {a : Int} (h : stepA ac b i c S a = some S') (h' : stepA ac b' i c S a = some T) : T = S' := by
 unfold stepA at h h'
 split at h
 ·rename_i k hk; rw [hk] at h'; simp only at h'; cases h; cases h'; rfl
 ·rename_i hk
  rw [hk] at h'
  simp only at h'
  split at h <;> split at h' <;> cases h <;> cases h'
  rfl
theorem rowA_less {ac : α → Int → α} {b b' i : Nat} {c : α} : ∀ {l : List Int} {S S' T : Spc α}, rowA ac b i c l S = some S' → rowA ac b' i c l S = some T → T = S'
 | [], S, S', T, h, h' => by cases h; cases h'; rfl
 | a :: l, S, S', T, h, h' => by
  unfold rowA at h h'
  split at h
  ·rename_i S1 h1
   split at h'
   ·rename_i T1 h1'
    obtain rfl := stepA_less h1 h1'
    exact rowA_less h h'
   ·cases h'
  ·cases h
theorem rowsA_less {mv : α → List Int} {ac : α → Int → α} {b b' : Nat} : ∀ {n n' i : Nat} {S S' T : Spc α}, rowsA mv ac b n i S = some S' → rowsA mv ac b' n' i S = some T → S'.cf.length < i + n → T.cf.length < i + n' → T = S'
 | 0, n', i, S, S', T, h, h', hn, hn' => by
  cases h
  cases n' with
  | zero => cases h'; rfl
  | succ n' => unfold rowsA at h'; rw [List.getElem?_eq_none (by omega)] at h'; cases h'; rfl
 | n + 1, 0, i, S, S', T, h, h', hn, hn' => by
  cases h'
  have := (rowsA_ext h).len
  unfold rowsA at h
  rw [List.getElem?_eq_none (by omega)] at h
  cases h; rfl
 | n + 1, n' + 1, i, S, S', T, h, h', hn, hn' => by
  unfold rowsA at h h'
  split at h
  ·rename_i hc; rw [hc] at h'; cases h; cases h'; rfl
  ·rename_i c hc
   rw [hc] at h'
   simp only at h'
   split at h
   ·rename_i S1 h1
    split at h'
    ·rename_i T1 h1'
     obtain rfl := rowA_less h1 h1'
     exact rowsA_less h h' (by omega) (by omega)
    ·cases h'
   ·cases h
theorem rowsA_len {mv : α → List Int} {ac : α → Int → α} {b : Nat} : ∀ {n i : Nat} {S S' : Spc α}, rowsA mv ac b n i S = some S' → S.cf.length ≤ b → S'.cf.length ≤ b
 | 0, i, S, S', h, hb => by cases h; exact hb
 | n + 1, i, S, S', h, hb => by
  unfold rowsA at h
  split at h
  ·cases h; exact hb
  ·split at h
   ·rename_i S1 h1; exact rowsA_len h (rowA_len h1 hb).1
   ·cases h
def allA (mv : α → List Int) (ac : α → Int → α) (b : Nat) (s : α) : Option (Spc α) := rowsA mv ac b (b + 1) 0 ⟨[s], [-1], [-1], []⟩
theorem allA_budget {mv : α → List Int} {ac : α → Int → α} {b : Nat} {s : α} {S : Spc α} (h : allA mv ac b s = some S) (hb : 1 ≤ b) : 1 ≤ S.cf.length ∧ S.cf.length ≤ b ∧
  (∀ b', S.cf.length ≤ b' → allA mv ac b' s = some S) ∧ (∀ b', b' < S.cf.length → 1 ≤ b' → allA mv ac b' s = none) := by
 unfold allA at h ⊢
 have hl := rowsA_len h (by simpa using hb)
 have h1 := (rowsA_ext h).len
 refine ⟨h1, hl, fun b' hb' => rowsA_b h hb' (by omega) (by omega), fun b' hb' h1' => ?_⟩
 cases hT : rowsA mv ac b' (b' + 1) 0 ⟨[s], [-1], [-1], []⟩ with
 | none => rfl
 | some T =>
  have ht := rowsA_len hT (by simpa using h1')
  have := rowsA_less h hT (by omega) (by omega)
  subst this
  omega
theorem Ext.idx {S S' : Spc α} (h : Ext S S') {x : α} (hx : x ∈ S.cf) : S'.cf.idxOf x = S.cf.idxOf x := by
 obtain ⟨d, p, q, e, h1, _⟩ := h
 rw [h1, List.idxOf_append, if_pos hx]
theorem Ext.mem {S S' : Spc α} (h : Ext S S') {x : α} (hx : x ∈ S.cf) : x ∈ S'.cf := by
 obtain ⟨d, p, q, e, h1, _⟩ := h
 rw [h1]; exact List.mem_append_left _ hx
def ByOk (mv : α → List Int) (ac : α → Int → α) (S : Spc α) (j : Nat) : Prop :=
 ∃ (p : Nat) (a : Int) (c : α), p < j ∧ S.pa[j]? = some (p : Int) ∧ S.ag[j]? = some a ∧ S.cf[p]? = some c ∧ a ∈ mv c ∧ S.cf[j]? = some (ac c a)
structure IA (mv : α → List Int) (ac : α → Int → α) (s : α) (S : Spc α) : Prop where
 pal : S.pa.length = S.cf.length
 agl : S.ag.length = S.cf.length
 nd : S.cf.Nodup
 first : S.cf[0]? = some s ∧ S.pa[0]? = some (-1) ∧ S.ag[0]? = some (-1)
 by_ : ∀ j, 0 < j → j < S.cf.length → ByOk mv ac S j
theorem ByOk.ext {mv : α → List Int} {ac : α → Int → α} {S S' : Spc α} (h : Ext S S') (hp : S.pa.length = S.cf.length) (hg : S.ag.length = S.cf.length) {j : Nat} (k : ByOk mv ac S j) : ByOk mv ac S' j := by
 obtain ⟨p, a, c, h1, h2, h3, h4, h5, h6⟩ := k
 refine ⟨p, a, c, h1, ?_, ?_, h.at h4, h5, h.at h6⟩
 ·obtain ⟨d, p, q, e, _, e2, _⟩ := h
  rw [e2, List.getElem?_append_left (List.getElem?_eq_some_iff.1 h2).1]; exact h2
 ·obtain ⟨d, p, q, e, _, _, e3, _⟩ := h
  rw [e3, List.getElem?_append_left (List.getElem?_eq_some_iff.1 h3).1]; exact h3
theorem stepA_inv {mv : α → List Int} {ac : α → Int → α} {s c : α} {b i : Nat} {S S' : Spc α} {a : Int} (I : IA mv ac s S) (hc : S.cf[i]? = some c) (ha : a ∈ mv c) (h : stepA ac b i c S a = some S') :
  IA mv ac s S' ∧ S'.ed = S.ed ++ [(i, a, S'.cf.idxOf (ac c a))] ∧ ac c a ∈ S'.cf := by
 have hE := stepA_ext h
 unfold stepA at h
 split at h
 ·rename_i k hk
  cases h
  have hm := List.mem_of_getElem? (idxOf?_some hk)
  refine ⟨⟨I.pal, I.agl, I.nd, I.first, I.by_⟩, ?_, hm⟩
  have : S.cf.idxOf (ac c a) = k := by
   rw [List.idxOf?, List.findIdx?_eq_some_iff_findIdx_eq] at hk
   exact hk.2
  simp only [this]
 ·rename_i hk
  have hm := idxOf?_none hk
  split at h
  ·cases h
   have hlt := (List.getElem?_eq_some_iff.1 hc).1
   refine ⟨⟨by simp [I.pal], by simp [I.agl], ?_, ?_, ?_⟩, ?_, by simp⟩
   ·exact List.nodup_append.2 ⟨I.nd, by simp, fun x hx y hy => by simp at hy; rintro rfl; exact hm (hy ▸ hx)⟩
   ·obtain ⟨f1, f2, f3⟩ := I.first
    refine ⟨?_, ?_, ?_⟩
    ·rw [List.getElem?_append_left (List.getElem?_eq_some_iff.1 f1).1]; exact f1
    ·rw [List.getElem?_append_left (List.getElem?_eq_some_iff.1 f2).1]; exact f2
    ·rw [List.getElem?_append_left (List.getElem?_eq_some_iff.1 f3).1]; exact f3
   ·intro j h0 hj
    simp only [List.length_append, List.length_singleton] at hj
    rcases Nat.lt_or_ge j S.cf.length with hlt' | hge
    ·exact (I.by_ j h0 hlt').ext hE I.pal I.agl
    ·obtain rfl : j = S.cf.length := by omega
     refine ⟨i, a, c, hlt, ?_, ?_, hE.at hc, ha, ?_⟩
     ·show (S.pa ++ [(i : Int)])[S.cf.length]? = _
      rw [← I.pal]; simp
     ·show (S.ag ++ [a])[S.cf.length]? = _
      rw [← I.agl]; simp
     ·simp
   ·simp only
    rw [List.idxOf_append, if_neg hm]
    simp
  ·cases h
theorem rowA_inv {mv : α → List Int} {ac : α → Int → α} {s c : α} {b i : Nat} : ∀ {l : List Int} {S S' : Spc α}, IA mv ac s S → S.cf[i]? = some c → (∀ a, a ∈ l → a ∈ mv c) → rowA ac b i c l S = some S' →
  IA mv ac s S' ∧ S'.ed = S.ed ++ l.map (fun a => (i, a, S'.cf.idxOf (ac c a))) ∧ ∀ a, a ∈ l → ac c a ∈ S'.cf
 | [], S, S', I, hc, hl, h => by cases h; exact ⟨I, by simp, by simp⟩
 | a :: l, S, S', I, hc, hl, h => by
  unfold rowA at h
  split at h
  ·rename_i S1 h1
   obtain ⟨I1, e1, m1⟩ := stepA_inv I hc (hl a (by simp)) h1
   obtain ⟨I2, e2, m2⟩ := rowA_inv I1 ((stepA_ext h1).at hc) (fun x hx => hl x (by simp [hx])) h
   have hE := rowA_ext h
   refine ⟨I2, ?_, fun x hx => ?_⟩
   ·rw [e2, e1, List.map_cons, List.append_assoc, hE.idx m1]; rfl
   ·rcases List.mem_cons.1 hx with rfl | hx
    ·exact hE.mem m1
    ·exact m2 x hx
  ·cases h
def edgesK (mv : α → List Int) (ac : α → Int → α) (cf : List α) (n : Nat) : List (Nat × Int × Nat) := (List.range n).flatMap fun j => match cf[j]? with
 | some c => (mv c).map fun a => (j, a, cf.idxOf (ac c a))
 | none => []
theorem edgesK_succ {mv : α → List Int} {ac : α → Int → α} {cf : List α} {n : Nat} {c : α} (h : cf[n]? = some c) : edgesK mv ac cf (n + 1) = edgesK mv ac cf n ++ (mv c).map fun a => (n, a, cf.idxOf (ac c a)) := by
 unfold edgesK
 rw [List.range_succ, List.flatMap_append]
 simp [h]
theorem edgesK_ext {mv : α → List Int} {ac : α → Int → α} {S S' : Spc α} (h : Ext S S') : ∀ {n : Nat}, (∀ j, j < n → ∃ c, S.cf[j]? = some c ∧ ∀ a, a ∈ mv c → ac c a ∈ S.cf) → edgesK mv ac S'.cf n = edgesK mv ac S.cf n
 | 0, _ => rfl
 | n + 1, hn => by
  obtain ⟨c, hc, hm⟩ := hn n (by omega)
  rw [edgesK_succ (h.at hc), edgesK_succ hc, edgesK_ext h fun j hj => hn j (by omega)]
  congr 1
  exact List.map_congr_left fun a ha => by rw [h.idx (hm a ha)]
theorem rowsA_inv {mv : α → List Int} {ac : α → Int → α} {s : α} {b : Nat} : ∀ {n i : Nat} {S S' : Spc α}, IA mv ac s S → S.ed = edgesK mv ac S.cf i → (∀ j, j < i → ∃ c, S.cf[j]? = some c ∧ ∀ a, a ∈ mv c → ac c a ∈ S.cf) →
  rowsA mv ac b n i S = some S' → S'.cf.length < i + n → IA mv ac s S' ∧ S'.ed = edgesK mv ac S'.cf S'.cf.length ∧ ∀ (j : Nat) (c : α), S'.cf[j]? = some c → ∀ a, a ∈ mv c → ac c a ∈ S'.cf
 | 0, i, S, S', I, he, hd, h, hn => by
  cases h
  cases i with
  | zero => omega
  | succ i =>
   obtain ⟨c, hc, _⟩ := hd i (by omega)
   have := (List.getElem?_eq_some_iff.1 hc).1
   omega
 | n + 1, i, S, S', I, he, hd, h, hn => by
  unfold rowsA at h
  split at h
  ·rename_i hc
   cases h
   have hi : S.cf.length = i := by
    have h1 := List.getElem?_eq_none_iff.1 hc
    rcases Nat.eq_zero_or_pos i with h0 | h0
    ·omega
    ·obtain ⟨c, hc, _⟩ := hd (i - 1) (by omega)
     have := (List.getElem?_eq_some_iff.1 hc).1
     omega
   refine ⟨I, by rw [hi]; exact he, fun j c hc a ha => ?_⟩
   obtain ⟨c', hc', hm⟩ := hd j (by have := (List.getElem?_eq_some_iff.1 hc).1; omega)
   rw [hc] at hc'
   cases hc'
   exact hm a ha
  ·rename_i c hc
   split at h
   ·rename_i S1 h1
    obtain ⟨I1, e1, m1⟩ := rowA_inv I hc (fun a h => h) h1
    have hE := rowA_ext h1
    refine rowsA_inv I1 ?_ ?_ h (by omega)
    ·rw [e1, edgesK_succ (hE.at hc), edgesK_ext hE hd, he]
    ·intro j hj
     rcases Nat.lt_or_ge j i with hlt | hge
     ·obtain ⟨c', hc', hm⟩ := hd j hlt
      exact ⟨c', hE.at hc', fun a ha => hE.mem (hm a ha)⟩
     ·obtain rfl : j = i := by omega
      exact ⟨c, hE.at hc, m1⟩
   ·cases h
theorem allA_inv {mv : α → List Int} {ac : α → Int → α} {b : Nat} {s : α} {S : Spc α} (h : allA mv ac b s = some S) (hb : 1 ≤ b) :
  IA mv ac s S ∧ S.ed = edgesK mv ac S.cf S.cf.length ∧ ∀ (j : Nat) (c : α), S.cf[j]? = some c → ∀ a, a ∈ mv c → ac c a ∈ S.cf := by
 have hl := (allA_budget h hb).2.1
 unfold allA at h
 refine rowsA_inv ⟨rfl, rfl, by simp, ⟨rfl, rfl, rfl⟩, fun j h0 hj => by simp at hj; omega⟩ ?_ (fun j hj => by omega) h (by omega)
 rfl
theorem IA.all {mv : α → List Int} {ac : α → Int → α} {s : α} {S : Spc α} (I : IA mv ac s S) {p : α → Prop} (h0 : p s) (h : ∀ c a, p c → a ∈ mv c → p (ac c a)) : ∀ (j : Nat) (c : α), S.cf[j]? = some c → p c := by
 intro j
 induction j using Nat.strongRecOn with
 | _ j ih =>
  intro c hc
  rcases Nat.eq_zero_or_pos j with rfl | h0'
  ·rw [I.first.1] at hc; cases hc; exact h0
  ·obtain ⟨q, a, d, h1, _, _, h4, h5, h6⟩ := I.by_ j h0' (List.getElem?_eq_some_iff.1 hc).1
   rw [hc] at h6
   cases h6
   exact h d a (ih q h1 d h4) h5
end
abbrev Ed := Int × Int × Int
def outE (l : List Ed) (i : Nat) : List Ed := l.filter fun e => e.1 == (i : Int)
def upE (l : List Ed) (i : Nat) : List Ed := (List.range i).flatMap (outE l)
theorem upE_zero (l : List Ed) : upE l 0 = [] := rfl
theorem upE_succ (l : List Ed) (i : Nat) : upE l (i + 1) = upE l i ++ outE l i := by
 unfold upE; rw [List.range_succ, List.flatMap_append]; simp
def Sorted (l : List Ed) : Prop := l.Pairwise fun a b => a.1 ≤ b.1
theorem filter_lt {l : List Ed} (h : Sorted l) (i : Nat) : (l.filter fun e => decide (e.1 < (i : Int))) ++ outE l i = l.filter fun e => decide (e.1 < ((i + 1 : Nat) : Int)) := by
 induction l with
 | nil => rfl
 | cons e l ih =>
  have h' := List.pairwise_cons.1 h
  have ih := ih h'.2
  unfold outE at ih ⊢
  rcases Int.lt_trichotomy e.1 i with hlt | heq | hgt
  ·rw [List.filter_cons_of_pos (by simpa using hlt), List.filter_cons_of_neg (by simp; omega), List.filter_cons_of_pos (by simp; omega), List.cons_append, ih]
  ·have hn : (l.filter fun e => decide (e.1 < (i : Int))) = [] := by
    rw [List.filter_eq_nil_iff]
    intro x hx
    have := h'.1 x hx
    simp; omega
   rw [hn, List.nil_append] at ih
   rw [List.filter_cons_of_neg (by simp; omega), List.filter_cons_of_pos (by simpa using heq), List.filter_cons_of_pos (by simp; omega), hn, List.nil_append, ih]
  ·have h1 : ∀ x, x ∈ e :: l → (i : Int) < x.1 := fun x hx => by
    rcases List.mem_cons.1 hx with rfl | hx
    ·exact hgt
    ·have := h'.1 x hx; omega
   have a1 : ((e :: l).filter fun e => decide (e.1 < (i : Int))) = [] := List.filter_eq_nil_iff.2 fun x hx => by have := h1 x hx; simp; omega
   have a2 : ((e :: l).filter fun e => e.1 == (i : Int)) = [] := List.filter_eq_nil_iff.2 fun x hx => by have := h1 x hx; simp; omega
   have a3 : ((e :: l).filter fun e => decide (e.1 < ((i + 1 : Nat) : Int))) = [] := List.filter_eq_nil_iff.2 fun x hx => by have := h1 x hx; simp; omega
   rw [a1, a2, a3]; rfl
theorem upE_lt {l : List Ed} (h : Sorted l) (h0 : ∀ e, e ∈ l → 0 ≤ e.1) : ∀ i : Nat, upE l i = l.filter fun e => decide (e.1 < (i : Int))
 | 0 => by
  rw [upE_zero]
  symm
  rw [List.filter_eq_nil_iff]
  intro x hx
  have := h0 x hx
  simp; omega
 | i + 1 => by rw [upE_succ, upE_lt h h0 i, filter_lt h i]
theorem upE_all {l : List Ed} (h : Sorted l) (n : Nat) (h0 : ∀ e, e ∈ l → 0 ≤ e.1 ∧ e.1 < n) : upE l n = l := by
 rw [upE_lt h (fun e he => (h0 e he).1), List.filter_eq_self]
 intro e he
 simpa using (h0 e he).2
structure Cs where
 st : List Int
 ag : List Int
 to : List Int
def buildF (n : Nat) (l : List Ed) : Cs := ⟨(List.range (n + 1)).map fun i => ((upE l i).length : Int), (upE l n).map (·.2.1), (upE l n).map (·.2.2)⟩
def edOk (n : Nat) (l : List Ed) : Bool := l.all fun e => decide (0 ≤ e.1) && decide (e.1 < n) && (decide (0 ≤ e.2.2) && decide (e.2.2 < n)) && decide (0 ≤ e.2.1)
end Go.Proofs.YtomcmfbpmkklmaaGreat
