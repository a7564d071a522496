/- Plain laws: a shortest way by some nodes. No condition. -/
import Derived.Test.YtomcmfbpmkklmaaGreatDj
import Derived.Test.YtomcmfbpmkklmaaGreatDl
import Derived.Test.YtomcmfbpmkklmaaGreatDm
namespace Go.Proofs.YtomcmfbpmkklmaaGreat
set_option maxHeartbeats 16000000
set_option linter.unusedSimpArgs false
set_option linter.unusedVariables false
set_option maxRecDepth 20000
open Go Go.Proofs Go.Vc
abbrev Wy := Int × Int × Int × List Int
def isN (In : List Bool) (x : Int) : Bool := match decide (0 ≤ x) && decide (x < In.length) with | true => In.getD x.toNat false | false => false
def hasN (F : List Wy) (x : Int) : Bool := F.any fun e => decide (e.1 = x)
def stepI (In : List Bool) (x : Int) (p : List Int) (F : List Wy) (e : Ed) : List Wy := match isN In e.2.2 && !hasN F e.2.2 with | true => F ++ [(e.2.2, x, e.2.1, p ++ [e.2.1])] | false => F
def rowI (In : List Bool) (x : Int) (p : List Int) (F : List Wy) (L : List Ed) : List Wy := L.foldl (stepI In x p) F
def goI (g : Cs) (In : List Bool) (to : Int) : Nat → Nat → List Wy → Option (List Int)
 | 0, _, _ => none
 | n + 1, i, F => match F[i]? with
  | none => none
  | some e => match decide (e.1 = to) with | true => some e.2.2.2 | false => goI g In to n (i + 1) (rowI In e.1 e.2.2.2 F (outG g e.1))
def okI (g : Cs) (In : List Bool) (x : Int) : Bool := decide (0 ≤ x) && decide (x < nodesG g) && isN In x
def insI (g : Cs) (a b : Int) (In : List Bool) : Option (List Int) := match okI g In a && okI g In b with | true => goI g In b (nodesG g + 1) 0 [(a, -1, -1, [])] | false => none
def insWy : Option (List Int) → D
 | some p => .tup [ints p, bD true]
 | none => .tup [ints [], bD false]
structure IW (n : Nat) (F : List Wy) : Prop where
 nd : (F.map (·.1)).Nodup
 bd : ∀ e, e ∈ F → 0 ≤ e.1 ∧ e.1 < n
 up : ∀ (j : Nat) (e : Wy), F[j]? = some e → (e.2.1 = -1 ∧ e.2.2.2 = []) ∨ ∃ (j' : Nat) (e' : Wy), j' < j ∧ F[j']? = some e' ∧ e'.1 = e.2.1 ∧ e.2.2.2 = e'.2.2.2 ++ [e.2.2.1]
theorem hasN_iff {F : List Wy} {x : Int} : hasN F x = true ↔ x ∈ F.map (·.1) := by
 simp only [hasN, List.any_eq_true, decide_eq_true_eq, List.mem_map]
theorem nodup_le : ∀ {n : Nat} {l : List Int}, l.Nodup → (∀ x, x ∈ l → 0 ≤ x ∧ x < (n : Nat)) → l.length ≤ n
 | 0, [], _, _ => Nat.le_refl _
 | 0, x :: l, _, h => by have := h x (List.mem_cons_self ..); omega
 | n + 1, l, hn, h => by
  have h1 := nodup_le (n := n) (l := l.filter fun x => decide (x ≠ (n : Int))) (hn.filter _) fun x hx => by
   have hx' := List.mem_filter.1 hx
   have := h x hx'.1
   have h3 := hx'.2
   simp only [decide_eq_true_eq] at h3
   omega
  have h2 : l.length ≤ (l.filter fun x => decide (x ≠ (n : Int))).length + 1 := by
   clear h1 h
   induction l with
   | nil => exact Nat.zero_le _
   | cons y l ih =>
    obtain ⟨hy, hl⟩ := List.nodup_cons.1 hn
    by_cases hyn : y = (n : Int)
    ·have he : (l.filter fun x => decide (x ≠ (n : Int))) = l := List.filter_eq_self.2 fun x hx => decide_eq_true fun e => hy (by rw [hyn, ← e]; exact hx)
     rw [List.filter_cons_of_neg (by simp [hyn]), he]
     exact Nat.le_refl _
    ·rw [List.filter_cons_of_pos (by simp [hyn])]
     have := ih hl
     simp only [List.length_cons]
     omega
  omega
theorem IW.len {n : Nat} {F : List Wy} (h : IW n F) : F.length ≤ n := by
 rw [← List.length_map (·.1)]
 exact nodup_le h.nd fun x hx => by obtain ⟨e, he, rfl⟩ := List.mem_map.1 hx; exact h.bd e he
theorem IW.step {n : Nat} {F : List Wy} (h : IW n F) {In : List Bool} {i : Nat} {e : Wy} (he : F[i]? = some e) {d : Ed} (hd : 0 ≤ d.2.2 ∧ d.2.2 < n) : IW n (stepI In e.1 e.2.2.2 F d) := by
 unfold stepI
 split
 ·rename_i hc
  simp only [Bool.and_eq_true, Bool.not_eq_true'] at hc
  have hno : d.2.2 ∉ F.map (·.1) := fun hm => by rw [hasN_iff.2 hm] at hc; cases hc.2
  refine ⟨?_, ?_, ?_⟩
  ·rw [List.map_append, List.map_cons, List.map_nil]
   exact List.nodup_append.2 ⟨h.nd, by simp, fun a ha b hb => by rw [List.mem_singleton] at hb; subst hb; exact fun q => hno (by rw [show d.2.2 = a from q.symm]; exact ha)⟩
  ·intro x hx
   rcases List.mem_append.1 hx with hx | hx
   ·exact h.bd x hx
   ·rw [List.mem_singleton] at hx; subst hx; exact hd
  ·intro j x hx
   rcases Nat.lt_or_ge j F.length with hj | hj
   ·rw [List.getElem?_append_left hj] at hx
    rcases h.up j x hx with h1 | ⟨j', e', h1, h2, h3⟩
    ·exact .inl h1
    ·exact .inr ⟨j', e', h1, by rw [List.getElem?_append_left (by omega)]; exact h2, h3⟩
   ·rw [List.getElem?_append_right hj] at hx
    have hi : i < F.length := by
     rcases Nat.lt_or_ge i F.length with h | h
     ·exact h
     ·rw [List.getElem?_eq_none h] at he; cases he
    have hx' : x = (d.2.2, e.1, d.2.1, e.2.2.2 ++ [d.2.1]) := by
     cases hjj : j - F.length with
     | zero => rw [hjj] at hx; simpa using hx.symm
     | succ k => rw [hjj] at hx; simp at hx
    subst hx'
    exact .inr ⟨i, e, by omega, by rw [List.getElem?_append_left hi]; exact he, rfl, rfl⟩
 ·exact h
theorem IW.one {n : Nat} {a : Int} (h : 0 ≤ a ∧ a < n) : IW n [(a, -1, -1, [])] := by
 refine ⟨by simp, fun e he => by rw [List.mem_singleton] at he; subst he; exact h, fun j e he => ?_⟩
 cases j with
 | zero => cases he; exact .inl ⟨rfl, rfl⟩
 | succ j => simp at he
theorem stepI_pre (In : List Bool) (x : Int) (p : List Int) (F : List Wy) (e : Ed) : ∃ X, stepI In x p F e = F ++ X := by
 unfold stepI
 split
 ·exact ⟨_, rfl⟩
 ·exact ⟨[], by simp⟩
theorem getD_drop {α : Type} {l : List α} {k : Nat} {d : α} (h : k < l.length) : l.drop k = l.getD k d :: l.drop (k + 1) := by
 rw [List.drop_eq_getElem_cons h, List.getD_eq_getElem?_getD, List.getElem?_eq_getElem h]; rfl
theorem rowI_cons {In : List Bool} {x : Int} {p : List Int} {F : List Wy} {L : List Ed} {k : Nat} (h : k < L.length) : rowI In x p F (L.drop k) = rowI In x p (stepI In x p F (L.getD k (0, 0, 0))) (L.drop (k + 1)) := by
 rw [getD_drop (d := ((0, 0, 0) : Ed)) h]; rfl
theorem goI_at {g : Cs} {In : List Bool} {b : Int} {n i : Nat} {F : List Wy} {e : Wy} (h : F[i]? = some e) : goI g In b (n + 1) i F = match decide (e.1 = b) with | true => some e.2.2.2 | false => goI g In b n (i + 1) (rowI In e.1 e.2.2.2 F (outG g e.1)) := by
 conv => lhs; unfold goI
 rw [h]
theorem goI_end {g : Cs} {In : List Bool} {b : Int} {n i : Nat} {F : List Wy} (h : F.length ≤ i) : goI g In b n i F = none := by
 cases n with
 | zero => rfl
 | succ n => unfold goI; rw [List.getElem?_eq_none h]
end Go.Proofs.YtomcmfbpmkklmaaGreat
/- Contracts: a way by some nodes, the program. No condition. -/
namespace Go.Proofs.YtomcmfbpmkklmaaGreat
set_option maxHeartbeats 16000000
set_option linter.unusedSimpArgs false
set_option linter.unusedVariables false
set_option maxRecDepth 20000
open Go Go.Proofs Go.Vc
attribute [local irreducible] retQ VCg VCw VCx
theorem isN_1 {In : List Bool} {x : Int} (h : 0 ≤ x ∧ x < In.length) : isN In x = In.getD x.toNat false := by simp only [isN, decide_eq_true h.1, decide_eq_true h.2, Bool.and_self]
theorem isN_0 {In : List Bool} {x : Int} (h : ¬ (0 ≤ x ∧ x < In.length)) : isN In x = false := by
 unfold isN
 split
 ·rename_i h1; simp only [Bool.and_eq_true, decide_eq_true_eq] at h1; exact absurd h1 h
 ·rfl
theorem okI_eq {g : Cs} {In : List Bool} {x : Int} (hR : rightG g = true) (hs : g.st.length ≤ 1000000) : okI g In x = (isN In x && decide (x + 1 < (g.st.length : Int))) := by
 have h1 := (rightG_iff.1 hR).one
 unfold okI
 simp only [nodesG, hR]
 by_cases h : 0 ≤ x ∧ x < In.length
 ·rw [isN_1 h, decide_eq_true h.1, show decide (x < ((g.st.length - 1 : Nat) : Int)) = decide (x + 1 < (g.st.length : Int)) by rw [decide_eq_decide]; omega, Bool.true_and, Bool.and_comm]
 ·rw [isN_0 h, Bool.and_false, Bool.false_and]
theorem risn_ok (In : List Bool) (x : Int) : Pure Tryz.prog 71 [bools In, iD x] (bD (isN In x)) := by
 refine Fun.of T [.tmp 4] Tryz.func71 rfl Tryz.ntmps71 Tryz.results71 rfl (by kernel_rfl) ?_
 by_cases h : 0 ≤ x ∧ x < In.length
 ·rw [isN_1 h]
  repeat' first | refine vs T rfl fun K hK => ?_; (try simp (disch := omega) only [go_sem, Nat.reduceBEq, ix_bools, bRs_len]); (first | refine hK _ _ ?_; clear hK K | refine ⟨?_, hK _ _ ?_⟩ <;> clear hK K; focus (try omega)) | refine st rfl ?_ | refine nl ?_ | refine gs rfl rfl ?_ | with_reducible refine gsplit_intro (fun hc => ?_) (fun hc => ?_) <;> (try simp only [decide_eq_true_eq, decide_eq_false_iff_not, ge_iff_le, Int.not_le, Int.not_lt] at hc) <;> (try (exfalso; omega))
  all_goals exact ret1 T (List.nil_sublist _) ⟨rfl, rfl⟩
 ·rw [isN_0 h]
  repeat' first | refine vs T rfl fun K hK => ?_; (try simp (disch := omega) only [go_sem, Nat.reduceBEq, bRs_len]); (refine hK _ _ ?_; clear hK K) | refine st rfl ?_ | refine nl ?_ | refine gs rfl rfl ?_ | with_reducible refine gsplit_intro (fun hc => ?_) (fun hc => ?_) <;> (try simp only [decide_eq_true_eq, decide_eq_false_iff_not, ge_iff_le, Int.not_le, Int.not_lt] at hc) <;> (try (exfalso; omega))
  all_goals exact ret1 T (List.nil_sublist _) ⟨rfl, rfl⟩
abbrev inH (b4 b7 : Nat) (g : Cs) (In : List Bool) : Heap := [(b7, .cells 49 1 [bools In]), (b4, .cells 32 3 (csC g))]
theorem inside1_ok (g : Cs) (hg : OkG g) (hR : rightG g = true) (In : List Bool) (hI : In.length ≤ 1000000) (x : Int) (b4 b7 : Nat) : Fun Tryz.prog 69 [iD x, pD b7, pD b4] (inH b4 b7 g In) false (fun d H' => d = bD (okI g In x) ∧ H' = inH b4 b7 g In) := by
 have h1 := hg.st
 rw [okI_eq hR h1]
 refine Fun.of T [.tmp 4] Tryz.func69 rfl Tryz.ntmps69 Tryz.results69 rfl (by kernel_rfl) ?_
 refine VC.nodup fun hn => ?_
 simp only [Heap.blocks, List.map_cons, List.nodup_cons, List.mem_cons, not_or] at hn
 obtain ⟨⟨q1, _⟩, _⟩ := hn
 by_cases h : 0 ≤ x ∧ x < In.length
 ·rw [isN_1 h]
  cases hb : In.getD x.toNat false
  all_goals
   repeat' first | refine vs T rfl fun K hK => ?_; (try simp (disch := omega) only [go_sem, Nat.reduceBEq, Nat.reduceAdd, ix_bools, bRs_len, iRs_len, hb, w64]); (first | refine hK _ _ ?_; clear hK K | refine ⟨?_, hK _ _ ?_⟩ <;> clear hK K; focus (try omega)) | refine st rfl ?_ | refine nl ?_ | refine gs rfl rfl ?_ | with_reducible refine gsplit_intro (fun hc => ?_) (fun hc => ?_) <;> (try simp only [decide_eq_true_eq, decide_eq_false_iff_not, ge_iff_le, Int.not_le, Int.not_lt] at hc) <;> (try (exfalso; omega))
  all_goals exact ret1 T (List.Sublist.refl _) ⟨rfl, rfl⟩
 ·rw [isN_0 h]
  repeat' first | refine vs T rfl fun K hK => ?_; (try simp (disch := omega) only [go_sem, Nat.reduceBEq, Nat.reduceAdd, bRs_len]); (refine hK _ _ ?_; clear hK K) | refine st rfl ?_ | refine nl ?_ | refine gs rfl rfl ?_ | with_reducible refine gsplit_intro (fun hc => ?_) (fun hc => ?_) <;> (try simp only [decide_eq_true_eq, decide_eq_false_iff_not, ge_iff_le, Int.not_le, Int.not_lt] at hc) <;> (try (exfalso; omega))
  all_goals exact ret1 T (List.Sublist.refl _) ⟨rfl, rfl⟩
end Go.Proofs.YtomcmfbpmkklmaaGreat
/- Contracts: the agents by which a node was found. No condition. -/
namespace Go.Proofs.YtomcmfbpmkklmaaGreat
set_option maxHeartbeats 16000000
set_option linter.unusedSimpArgs false
set_option linter.unusedVariables false
set_option maxRecDepth 20000
open Go Go.Proofs Go.Vc
attribute [local irreducible] retQ VCg VCw VCx
def wV (a b : Int) : Value := .agg #[.int .i64 a, .int .i64 b]
def wayM (F : List Wy) : List (Int × Value) := F.map fun e => (e.1, wV e.2.1 e.2.2.1)
theorem findI_no {x : Int} : ∀ {F : List Wy}, hasN F x = false → findI x (wayM F) = none
 | [], _ => rfl
 | e :: F, h => by
  simp only [hasN, List.any_cons, Bool.or_eq_false_iff, decide_eq_false_iff_not] at h
  have hx : (x == e.1) = false := by simpa using fun q => h.1 q.symm
  simp only [wayM, List.map_cons, findI, hx, cond_false]
  exact findI_no h.2
theorem findI_at {F : List Wy} : (F.map (·.1)).Nodup → ∀ {j : Nat} {e : Wy}, F[j]? = some e → findI e.1 (wayM F) = some (wV e.2.1 e.2.2.1) := by
 induction F with
 | nil => intro _ j e h; simp at h
 | cons y F ih =>
  intro hn j e h
  obtain ⟨h1, h2⟩ := List.nodup_cons.1 hn
  cases j with
  | zero => cases h; simp only [wayM, List.map_cons, findI, beq_self_eq_true, cond_true]
  | succ j =>
   have hm : e ∈ F := List.mem_of_getElem? h
   have hx : (e.1 == y.1) = false := by simpa using fun q => h1 (List.mem_map.2 ⟨e, hm, q⟩)
   simp only [wayM, List.map_cons, findI, hx, cond_false]
   exact ih h2 h
theorem findI_yes {x : Int} {F : List Wy} (h : hasN F x = true) : ∃ a b, findI x (wayM F) = some (wV a b) := by
 induction F with
 | nil => cases h
 | cons y F ih =>
  by_cases hx : x = y.1
  ·exact ⟨y.2.1, y.2.2.1, by simp only [wayM, List.map_cons, findI, hx, beq_self_eq_true, cond_true]⟩
  ·have hx' : (x == y.1) = false := by simpa using hx
   simp only [hasN, List.any_cons, Bool.or_eq_true, decide_eq_true_eq] at h
   obtain ⟨a, b, q⟩ := ih (h.resolve_left fun q => hx q.symm)
   exact ⟨a, b, by simp only [wayM, List.map_cons, findI, hx', cond_false]; exact q⟩
theorem umW : Tryz.prog.underlying 103 = some (.map 3 102) := by kernel_rfl
theorem zW : (Tryz.prog.info? 102).bind (·.zero) = some (wV 0 0) := by kernel_rfl
theorem wV_one (a b : Int) : ∀ cs, wV a b = .agg cs → cs.toList.all Value.oneCell' = true := fun cs h => by cases h; rfl
theorem valW (a b : Int) : valD (wV a b) = .agg [iD a, iD b] := rfl
theorem up_at {n : Nat} {F : List Wy} (h : IW n F) {j : Nat} {e : Wy} (he : F[j]? = some e) (hp : e.2.1 ≠ -1) : ∃ (j' : Nat) (e' : Wy), j' < j ∧ F[j']? = some e' ∧ e'.1 = e.2.1 ∧ e.2.2.2 = e'.2.2.2 ++ [e.2.2.1] := by
 rcases h.up j e he with h1 | h1
 ·exact absurd h1.1 hp
 ·exact h1
theorem up_end {n : Nat} {F : List Wy} (h : IW n F) {j : Nat} {e : Wy} (he : F[j]? = some e) (hp : e.2.1 = -1) : e.2.2.2 = [] := by
 rcases h.up j e he with h1 | ⟨j', e', h1, h2, h3, h4⟩
 ·exact h1.2
 ·have := h.bd e' (List.mem_of_getElem? h2); omega
theorem IW.path {n : Nat} {F : List Wy} (h : IW n F) : ∀ (k j : Nat) (e : Wy), j ≤ k → F[j]? = some e → e.2.2.2.length ≤ j
 | k, j, e, hk, he => by
  rcases h.up j e he with h1 | ⟨j', e', h1, h2, h3, h4⟩
  ·rw [h1.2]; exact Nat.zero_le _
  ·cases k with
   | zero => omega
   | succ k =>
    have := IW.path h k j' e' (by omega) h2
    rw [h4, List.length_append, List.length_cons, List.length_nil]
    omega
theorem at_lt {α : Type} {l : List α} {i : Nat} {x : α} (h : l[i]? = some x) : i < l.length := by
 rcases Nat.lt_or_ge i l.length with h1 | h1
 ·exact h1
 ·rw [List.getElem?_eq_none h1] at h; cases h
theorem back_ok (n : Nat) (hn : n ≤ 1000000) (F : List Wy) (hF : IW n F) (j0 : Nat) (e0 : Wy) (h0 : F[j0]? = some e0) (bm : Nat) : Fun Tryz.prog 70 [.is (.map (some bm)), iD e0.1] [(bm, .obj (mapI (wayM F)))] false
  (fun d H' => ∃ x : Option (Nat × Nat), gOk x e0.2.2.2.length ∧ d = .gs x e0.2.2.2.length ∧ H' = shp x 3 1 (e0.2.2.2.map iD) [(bm, .obj (mapI (wayM F)))]) := by
 have hf := findI_at hF.nd h0
 have hlen := hF.len
 have u3 := Tryz.underlying3
 refine Fun.of T [.tmp 4] Tryz.func70 rfl Tryz.ntmps70 Tryz.results70 rfl (by kernel_rfl) ?_
 repeat' first | refine vt rfl fun K hK => ?_; refine r_lookJ rfl umW u3 rfl rfl hget_eq hf (wV_one _ _) ?_; refine hK _ _ ?_; clear hK K; (try simp only [updO]) | refine vs T rfl fun K hK => ?_; (try simp (disch := omega) only [go_sem, Nat.reduceBEq, Nat.reduceAdd, Nat.reduceLeDiff, valW]); (first | refine hK _ _ ?_; clear hK K | intro bq hbq; (try simp only [HB] at hbq); refine hK _ _ ?_; clear hK K) | refine st rfl ?_ | refine nl ?_
 have hp0 := hF.path j0 j0 e0 (Nat.le_refl _) h0
 have hj0 := at_lt h0
 refine VC.loop {p : Nat × Wy × List Int × Option (Nat × Nat) × Nat // F[p.1]? = some p.2.1 ∧ p.2.1.2.2.2 ++ p.2.2.1.reverse = e0.2.2.2 ∧ gOk p.2.2.2.1 p.2.2.1.length} (fun p => ⟨lookD [(0, .is (.map (some bm))), (5, .gs p.1.2.2.2.1 p.1.2.2.1.length), (6, pD p.1.2.2.2.2)],
  (p.1.2.2.2.2, .cells 102 2 [iD p.1.2.1.2.1, iD p.1.2.1.2.2.1]) :: (bm, .obj (mapI (wayM F))) :: shp p.1.2.2.2.1 3 1 (p.1.2.2.1.map iD) []⟩) (fun p => p.1.1) ⟨(j0, e0, [], none, bq), by dsimp only; exact ⟨h0, by simp, rfl⟩⟩ ?_ ?_
 ·refine Weak_subEq rfl ?_
  simp [sub, upd]
 clear hf hbq bq
 rintro ⟨⟨j, e, l, ga, bw⟩, he, hl, hga⟩
 dsimp only at he hl hga ⊢
 have hll : l.length ≤ e0.2.2.2.length := by rw [← hl, List.length_append, List.length_reverse]; omega
 refine VC.nodup fun hn => ?_
 simp only [Heap.blocks, List.map_cons, List.nodup_cons, List.mem_cons, not_or] at hn
 obtain ⟨⟨q1, _⟩, _⟩ := hn
 by_cases hw : e.2.1 = -1
 ·have hz := up_end hF he hw
  rw [hz, List.nil_append] at hl
  repeat' first | refine vs T rfl fun K hK => ?_; (try simp (disch := omega) only [go_sem, Nat.reduceBEq, hw]); (first | refine hK _ _ ?_; clear hK K | skip) | refine st rfl ?_ | refine sc rfl ?_ | refine nl ?_
  refine Op1.cally (Hp := shp ga 3 1 (l.map iD) []) (Hr := [(bw, .cells 102 2 [iD (-1), iD e.2.2.1]), (bm, .obj (mapI (wayM F)))]) rfl rfl (reversed_ok ga l hga (by omega)) rfl (perm_of fun a => by simp only [cnt_cons, cnt_shp, cnt_app, cnt_nil]; omega) (fun q hq => ?_)
  refine hK _ _ ?_
  clear hK K
  repeat' first | refine vs T rfl fun K hK => ?_; (try simp (disch := omega) only [go_sem, Nat.reduceBEq]); (refine hK _ _ ?_; clear hK K) | refine st rfl ?_ | refine nl ?_
  refine ret1 T (H' := shp ga 3 1 (e0.2.2.2.map iD) [(bm, .obj (mapI (wayM F)))]) ?_ ⟨ga, by rw [← hl, List.length_reverse]; exact hga, by rw [← hl, List.length_reverse]; rfl, rfl⟩
  rw [← hl, show shp ga 3 1 (l.reverse.map iD) [(bm, .obj (mapI (wayM F)))] = shp ga 3 1 (l.reverse.map iD) [] ++ [(bm, .obj (mapI (wayM F)))] by rw [shp_app]; rfl]
  exact List.Sublist.append (List.Sublist.refl _) (List.sublist_cons_self _ _)
 ·obtain ⟨j', e', h1, h2, h3, h4⟩ := up_at hF he hw
  have hf := findI_at hF.nd h2
  rw [h3] at hf
  repeat' first | refine vt rfl fun K hK => ?_; refine r_lookJ rfl umW u3 rfl rfl (by simp (disch := omega) only [hget_ne, hget_eq]) hf (wV_one _ _) ?_; refine hK _ _ ?_; clear hK K; (try simp only [updO]) | refine vs T rfl fun K hK => ?_; (try simp (disch := omega) only [go_sem, Nat.reduceBEq, Nat.reduceAdd, Nat.reduceMul, Nat.reduceLeDiff, valW]); (first | refine hK _ _ ?_; clear hK K | refine ⟨_, _, _, _, (by repeat (first | exact Sp.here | apply Sp.cons)), ?_, (by exact ⟨rfl, rfl⟩), ⟨by decide, ?_⟩, fun g' hg' => hK _ _ ?_⟩ <;> clear hK K | intro bq hbq; (try simp only [HB] at hbq); refine hK _ _ ?_; clear hK K) | refine st rfl ?_ | refine sc rfl ?_ | refine nl ?_ | with_reducible refine gsplit_intro (fun hc => ?_) (fun hc => ?_) <;> (try simp only [bne_iff_ne, bne_eq_false_iff_eq, ne_eq] at hc) <;> (try (exfalso; omega))
  ·simp
  ·omega
  ·refine ⟨⟨(j', e', l ++ [e.2.2.1], g', bq), by dsimp only; exact ⟨h2, by rw [← hl, h4]; simp, by rw [List.length_append]; exact hg'⟩⟩, Weak.subH ?_ ?_, by dsimp only; omega⟩
   ·dsimp only
    rw [List.map_append]
    exact List.Sublist.cons_cons _ (List.sublist_cons_self _ _)
   ·simp [sub, upd]
end Go.Proofs.YtomcmfbpmkklmaaGreat
