/- Plain laws: a shortest way by some nodes. No condition. -/
import Derived.Test.YtomcmfbpmkklmaaGreatDj
import Derived.Test.YtomcmfbpmkklmaaGreatDl
import Derived.Test.YtomcmfbpmkklmaaGreatDm
namespace Go.Proofs.YtomcmfbpmkklmaaGreat
set_option maxHeartbeats 16000000
set_option linter.unusedSimpArgs false
set_option linter.unusedVariables false
set_option maxRecDepth 20000
open Go Go.Proofs Go.Vc
abbrev Wy := Int × Int × Int × List Int
def isN (In : List Bool) (x : Int) : Bool := match decide (0 ≤ x) && decide (x < In.length) with | true => In.getD x.toNat false | false => false
def hasN (F : List Wy) (x : Int) : Bool := F.any fun e => decide (e.1 = x)
def stepI (In : List Bool) (x : Int) (p : List Int) (F : List Wy) (e : Ed) : List Wy := match isN In e.2.2 && !hasN F e.2.2 with | true => F ++ [(e.2.2, x, e.2.1, p ++ [e.2.1])] | false => F
def rowI (In : List Bool) (x : Int) (p : List Int) (F : List Wy) (L : List Ed) : List Wy := L.foldl (stepI In x p) F
def goI (g : Cs) (In : List Bool) (to : Int) : Nat → Nat → List Wy → Option (List Int)
 | 0, _, _ => none
 | n + 1, i, F => match F[i]? with
  | none => none
  | some e => match decide (e.1 = to) with | true => some e.2.2.2 | false => goI g In to n (i + 1) (rowI In e.1 e.2.2.2 F (outG g e.1))
def okI (g : Cs) (In : List Bool) (x : Int) : Bool := decide (0 ≤ x) && decide (x < nodesG g) && isN In x
def insI (g : Cs) (a b : Int) (In : List Bool) : Option (List Int) := match okI g In a && okI g In b with | true => goI g In b (nodesG g + 1) 0 [(a, -1, -1, [])] | false => none
def insWy : Option (List Int) → D
 | some p => .tup [ints p, bD true]
 | none => .tup [ints [], bD false]
structure IW (n : Nat) (F : List Wy) : Prop where
 nd : (F.map (·.1)).Nodup
 bd : ∀ e, e ∈ F → 0 ≤ e.1 ∧ e.1 < n
 up : ∀ (j : Nat) (e : Wy), F[j]? = some e → (e.2.1 = -1 ∧ e.2.2.2 = []) ∨ ∃ (j' : Nat) (e' : Wy), j' < j ∧ F[j']? = some e' ∧ e'.1 = e.2.1 ∧ e.2.2.2 = e'.2.2.2 ++ [e.2.2.1]
theorem hasN_iff {F : List Wy} {x : Int} : hasN F x = true ↔ x ∈ F.map (·.1) := by
 simp only [hasN, List.any_eq_true, decide_eq_true_eq, List.mem_map]
theorem nodup_le : ∀ {n : Nat} {l : List Int}, l.Nodup → (∀ x, x ∈ l → 0 ≤ x ∧ x < (n : Nat)) → l.length ≤ n
 | 0, [], _, _ => Nat.le_refl _
 | 0, x :: l, _, h => by have := h x (List.mem_cons_self ..); omega
 | n + 1, l, hn, h => by
  have h1 := nodup_le (n := n) (l := l.filter fun x => decide (x ≠ (n : Int))) (hn.filter _) fun x hx => by
   have hx' := List.mem_filter.1 hx
   have := h x hx'.1
   have h3 := hx'.2
   simp only [decide_eq_true_eq] at h3
   omega
  have h2 : l.length ≤ (l.filter fun x => decide (x ≠ (n : Int))).length + 1 := by
   clear h1 h
   induction l with
   | nil => exact Nat.zero_le _
   | cons y l ih =>
    obtain ⟨hy, hl⟩ := List.nodup_cons.1 hn
    by_cases hyn : y = (n : Int)
    ·have he : (l.filter fun x => decide (x ≠ (n : Int))) = l := List.filter_eq_self.2 fun x hx => decide_eq_true fun e => hy (by rw [hyn, ← e]; exact hx)
     rw [List.filter_cons_of_neg (by simp [hyn]), he]
     exact Nat.le_refl _
    ·rw [List.filter_cons_of_pos (by simp [hyn])]
     have := ih hl
     simp only [List.length_cons]
     omega
  omega
theorem IW.len {n : Nat} {F : List Wy} (h : IW n F) : F.length ≤ n := by
 rw [← List.length_map (·.1)]
 exact nodup_le h.nd fun x hx => by obtain ⟨e, he, rfl⟩ := List.mem_map.1 hx; exact h.bd e he
theorem IW.step {n : Nat} {F : List Wy} (h : IW n F) {In : List Bool} {i : Nat} {e : Wy} (he : F[i]? = some e) {d : Ed} (hd : 0 ≤ d.2.2 ∧ d.2.2 < n) : IW n (stepI In e.1 e.2.2.2 F d) := by
 unfold stepI
 split
 ·rename_i hc
  simp only [Bool.and_eq_true, Bool.not_eq_true'] at hc
  have hno : d.2.2 ∉ F.map (·.1) := fun hm => by rw [hasN_iff.2 hm] at hc; cases hc.2
  refine ⟨?_, ?_, ?_⟩
  ·rw [List.map_append, List.map_cons, List.map_nil]
   exact List.nodup_append.2 ⟨h.nd, by simp, fun a ha b hb => by rw [List.mem_singleton] at hb; subst hb; exact fun q => hno (by rw [show d.2.2 = a from q.symm]; exact ha)⟩
  ·intro x hx
   rcases List.mem_append.1 hx with hx | hx
   ·exact h.bd x hx
   ·rw [List.mem_singleton] at hx; subst hx; exact hd
  ·intro j x hx
   rcases Nat.lt_or_ge j F.length with hj | hj
   ·rw [List.getElem?_append_left hj] at hx
    rcases h.up j x hx with h1 | ⟨j', e', h1, h2, h3⟩
    ·exact .inl h1
    ·exact .inr ⟨j', e', h1, by rw [List.getElem?_append_left (by omega)]; exact h2, h3⟩
   ·rw [List.getElem?_append_right hj] at hx
    have hi : i < F.length := by
     rcases Nat.lt_or_ge i F.length with h | h
     ·exact h
     ·rw [List.getElem?_eq_none h] at he; cases he
    have hx' : x = (d.2.2, e.1, d.2.1, e.2.2.2 ++ [d.2.1]) := by
     cases hjj : j - F.length with
     | zero => rw [hjj] at hx; simpa using hx.symm
     | succ k => rw [hjj] at hx; simp at hx
    subst hx'
    exact .inr ⟨i, e, by omega, by rw [List.getElem?_append_left hi]; exact he, rfl, rfl⟩
 ·exact h
theorem IW.one {n : Nat} {a : Int} (h : 0 ≤ a ∧ a < n) : IW n [(a, -1, -1, [])] := by
 refine ⟨by simp, fun e he => by rw [List.mem_singleton] at he; subst he; exact h, fun j e he => ?_⟩
 cases j with
 | zero => cases he; exact .inl ⟨rfl, rfl⟩
 | succ j => simp at he
theorem stepI_pre (In : List Bool) (x : Int) (p : List Int) (F : List Wy) (e : Ed) : ∃ X, stepI In x p F e = F ++ X := by
 unfold stepI
 split
 ·exact ⟨_, rfl⟩
 ·exact ⟨[], by simp⟩
theorem rowI_pre (In : List Bool) (x : Int) (p : List Int) : ∀ (L : List Ed) (F : List Wy), ∃ X, rowI In x p F L = F ++ X
 | [], F => ⟨[], by simp [rowI]⟩
 | e :: L, F => by
  obtain ⟨X, h1⟩ := stepI_pre In x p F e
  obtain ⟨Y, h2⟩ := rowI_pre In x p L (F ++ X)
  exact ⟨X ++ Y, by rw [rowI, List.foldl_cons, h1]; show rowI In x p (F ++ X) L = _; rw [h2, List.append_assoc]⟩
theorem getD_drop {α : Type} {l : List α} {k : Nat} {d : α} (h : k < l.length) : l.drop k = l.getD k d :: l.drop (k + 1) := by
 rw [List.drop_eq_getElem_cons h, List.getD_eq_getElem?_getD, List.getElem?_eq_getElem h]; rfl
theorem rowI_cons {In : List Bool} {x : Int} {p : List Int} {F : List Wy} {L : List Ed} {k : Nat} (h : k < L.length) : rowI In x p F (L.drop k) = rowI In x p (stepI In x p F (L.getD k (0, 0, 0))) (L.drop (k + 1)) := by
 rw [getD_drop (d := ((0, 0, 0) : Ed)) h]; rfl
theorem goI_at {g : Cs} {In : List Bool} {b : Int} {n i : Nat} {F : List Wy} {e : Wy} (h : F[i]? = some e) : goI g In b (n + 1) i F = match decide (e.1 = b) with | true => some e.2.2.2 | false => goI g In b n (i + 1) (rowI In e.1 e.2.2.2 F (outG g e.1)) := by
 conv => lhs; unfold goI
 rw [h]
theorem goI_end {g : Cs} {In : List Bool} {b : Int} {n i : Nat} {F : List Wy} (h : F.length ≤ i) : goI g In b n i F = none := by
 cases n with
 | zero => rfl
 | succ n => unfold goI; rw [List.getElem?_eq_none h]
attribute [local irreducible] retQ VCg VCw VCx
theorem isN_1 {In : List Bool} {x : Int} (h : 0 ≤ x ∧ x < In.length) : isN In x = In.getD x.toNat false := by simp only [isN, decide_eq_true h.1, decide_eq_true h.2, Bool.and_self]
theorem isN_0 {In : List Bool} {x : Int} (h : ¬ (0 ≤ x ∧ x < In.length)) : isN In x = false := by
 unfold isN
 split
 ·rename_i h1; simp only [Bool.and_eq_true, decide_eq_true_eq] at h1; exact absurd h1 h
 ·rfl
theorem okI_eq {g : Cs} {In : List Bool} {x : Int} (hR : rightG g = true) (hs : g.st.length ≤ 1000000) : okI g In x = (isN In x && decide (x + 1 < (g.st.length : Int))) := by
 have h1 := (rightG_iff.1 hR).one
 unfold okI
 simp only [nodesG, hR]
 by_cases h : 0 ≤ x ∧ x < In.length
 ·rw [isN_1 h, decide_eq_true h.1, show decide (x < ((g.st.length - 1 : Nat) : Int)) = decide (x + 1 < (g.st.length : Int)) by rw [decide_eq_decide]; omega, Bool.true_and, Bool.and_comm]
 ·rw [isN_0 h, Bool.and_false, Bool.false_and]
abbrev inH (b4 b7 : Nat) (g : Cs) (In : List Bool) : Heap := [(b7, .cells 49 1 [bools In]), (b4, .cells 32 3 (csC g))]
theorem inside1_ok (g : Cs) (hg : OkG g) (hR : rightG g = true) (In : List Bool) (hI : In.length ≤ 1000000) (x : Int) (b4 b7 : Nat) : Fun Tryz.prog 69 [iD x, pD b7, pD b4] (inH b4 b7 g In) false (fun d H' => d = bD (okI g In x) ∧ H' = inH b4 b7 g In) := by
 have h1 := hg.st
 rw [okI_eq hR h1]
 refine Fun.of T [.tmp 4] Tryz.func69 rfl Tryz.ntmps69 Tryz.results69 rfl (by kernel_rfl) ?_
 refine VC.nodup fun hn => ?_
 simp only [Heap.blocks, List.map_cons, List.nodup_cons, List.mem_cons, not_or] at hn
 obtain ⟨⟨q1, _⟩, _⟩ := hn
 by_cases h : 0 ≤ x ∧ x < In.length
 ·rw [isN_1 h]
  cases hb : In.getD x.toNat false
  all_goals
   repeat' first | refine vs T rfl fun K hK => ?_; (try simp (disch := omega) only [go_sem, Nat.reduceBEq, Nat.reduceAdd, ix_bools, bRs_len, iRs_len, hb, w64]); (first | refine hK _ _ ?_; clear hK K | refine ⟨?_, hK _ _ ?_⟩ <;> clear hK K; focus (try omega)) | refine st rfl ?_ | refine nl ?_ | refine gs rfl rfl ?_ | with_reducible refine gsplit_intro (fun hc => ?_) (fun hc => ?_) <;> (try simp only [decide_eq_true_eq, decide_eq_false_iff_not, ge_iff_le, Int.not_le, Int.not_lt] at hc) <;> (try (exfalso; omega))
  all_goals exact ret1 T (List.Sublist.refl _) ⟨rfl, rfl⟩
 ·rw [isN_0 h]
  repeat' first | refine vs T rfl fun K hK => ?_; (try simp (disch := omega) only [go_sem, Nat.reduceBEq, Nat.reduceAdd, bRs_len]); (refine hK _ _ ?_; clear hK K) | refine st rfl ?_ | refine nl ?_ | refine gs rfl rfl ?_ | with_reducible refine gsplit_intro (fun hc => ?_) (fun hc => ?_) <;> (try simp only [decide_eq_true_eq, decide_eq_false_iff_not, ge_iff_le, Int.not_le, Int.not_lt] at hc) <;> (try (exfalso; omega))
  all_goals exact ret1 T (List.Sublist.refl _) ⟨rfl, rfl⟩
end Go.Proofs.YtomcmfbpmkklmaaGreat
