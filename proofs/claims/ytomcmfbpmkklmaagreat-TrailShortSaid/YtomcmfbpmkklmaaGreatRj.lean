/- Contracts: all that can act; a name's agent. No condition. -/
import Derived.Test.YtomcmfbpmkklmaaGreatRg
import Derived.Test.YtomcmfbpmkklmaaGreatYq
namespace Go.Proofs.YtomcmfbpmkklmaaGreat
set_option maxHeartbeats 16000000
set_option linter.unusedSimpArgs false
set_option linter.unusedVariables false
set_option maxRecDepth 20000
open Go Go.Proofs Go.Vc
attribute [local irreducible] retQ VCg VCw VCx
def numF (l : List Ag) (s : ByteArray) : Int := match l.findIdx? (fun a => decide (nameA a = s)) with | some i => (i : Nat) | none => -1
theorem numF_at {l : List Ag} {s : ByteArray} {k : Nat} {a : Ag} (ha : l[k]? = some a) (h : decide (nameA a = s) = true) (hs : ∀ (i : Nat) (y : Ag), i < k → l[i]? = some y → decide (nameA y = s) = false) : numF l s = (k : Nat) := by
 obtain ⟨hk, hak⟩ := List.getElem?_eq_some_iff.1 ha
 have : l.findIdx? (fun a => decide (nameA a = s)) = some k := by
  rw [List.findIdx?_eq_some_iff_getElem]
  refine ⟨hk, by rw [hak]; exact h, fun j hj => ?_⟩
  have := hs j l[j] hj (List.getElem?_eq_getElem _)
  simpa using this
 simp [numF, this]
theorem numF_no {l : List Ag} {s : ByteArray} (hs : ∀ (i : Nat) (y : Ag), l[i]? = some y → decide (nameA y = s) = false) : numF l s = -1 := by
 have : l.findIdx? (fun a => decide (nameA a = s)) = none := by
  rw [List.findIdx?_eq_none_iff]
  intro a ha
  obtain ⟨i, hi⟩ := List.getElem?_of_mem ha
  exact hs i a hi
 simp [numF, this]
theorem numM_ok (u : Un) (hu : OkU u) (m : Int) (s : ByteArray) : Pure Tryz.prog 75 [.agg (unC u), iD m, sD s] (iD (numF (agsF u m) s)) := by
 have ca := agents_ok u hu m
 have hl := agsF_len u m
 have hok : ∀ a, a ∈ agsF u m → AgOk a := fun a ha => agsF_ok ha
 generalize agsF u m = A at *
 refine Fun.of T [.tmp 6] Tryz.func75 rfl Tryz.ntmps75 Tryz.results75 rfl (by kernel_rfl) ?_
 repeat' first
  | (refine vb rfl rfl rfl rfl ?_)
  | (refine vs T rfl fun K hK => ?_; (try simp (disch := omega) only [go_sem, Nat.reduceBEq, Nat.reduceAdd, Nat.reduceMul, Nat.reduceSub, Nat.reduceLeDiff, Int.reduceToNat, agsR_len]); (first | (refine hK _ _ ?_; clear hK K) | (intro bq hbq; (try simp only [HB] at hbq); refine hK _ _ ?_; clear hK K) | (refine ⟨?_, hK _ _ ?_⟩ <;> clear hK K; focus (try (first | omega | exact ⟨rfl, by decide⟩ | exact rfl))) | (refine ⟨_, ?_, hK _ _ ?_⟩ <;> clear hK K) | (refine Op1.callp rfl rfl (ca) rfl ?_; refine hK _ _ ?_; clear hK K) | skip))
  | (refine st rfl ?_)
  | (refine sc rfl ?_)
  | (refine nl ?_)
  | (refine ov ?_)
  | (with_reducible refine gt ?_ ?_; focus (simp (disch := omega) only [go_sem, Nat.reduceBEq, Nat.reduceAdd, Nat.reduceMul, Nat.reduceSub, Nat.reduceLeDiff, Int.reduceToNat, agsR_len]; done))
  | (with_reducible refine gf ?_ ?_; focus (simp (disch := omega) only [go_sem, Nat.reduceBEq, Nat.reduceAdd, Nat.reduceMul, Nat.reduceSub, Nat.reduceLeDiff, Int.reduceToNat, agsR_len]; done))
  | (with_reducible refine gsplit_intro (fun hc => ?_) (fun hc => ?_))
 refine VC.loop {k : Nat // k ≤ A.length ∧ ∀ (i : Nat) (y : Ag), i < k → A[i]? = some y → decide (nameA y = s) = false} (fun p => ⟨lookD [(2, sD s), (11, .sl false 1 (agsR A)), (12, iD (A.length : Nat)), (13, iD (p.1 : Nat))], []⟩) (fun p => A.length - p.1) ⟨0, by omega, fun i y hi => by omega⟩ ?_ ?_
 ·refine Weak.sub ?_
  simp [sub, upd]
 rintro ⟨k, hk, hs⟩
 dsimp only
 rcases Nat.lt_or_ge k A.length with hlt | hge
 case inr =>
  have hd : decide ((k : Int) < (A.length : Int)) = false := by simp; omega
  rw [numF_no fun i y hy => hs i y (by have := (List.getElem?_eq_some_iff.1 hy).1; omega) hy]
  repeat' first
   | (refine vs T rfl fun K hK => ?_; (try simp (disch := omega) only [go_sem, Nat.reduceBEq, Nat.reduceAdd, Nat.reduceMul, Nat.reduceSub, Nat.reduceLeDiff, Int.reduceToNat, hd]); (first | (refine hK _ _ ?_; clear hK K) | (intro bq hbq; (try simp only [HB] at hbq); refine hK _ _ ?_; clear hK K) | (refine ⟨?_, hK _ _ ?_⟩ <;> clear hK K; focus (try (first | omega | exact ⟨rfl, by decide⟩ | exact rfl))) | (refine ⟨_, ?_, hK _ _ ?_⟩ <;> clear hK K) | skip))
   | (refine st rfl ?_)
   | (refine sc rfl ?_)
   | (refine nl ?_)
   | (refine ov ?_)
   | (exact ret1 T (List.nil_sublist _) rfl)
   | (exact ret1 T (List.nil_sublist _) ⟨rfl, rfl⟩)
   | (refine ret1 T (List.nil_sublist _) ?_; (try simp only [upd, Nat.reduceBEq, cond_true, cond_false, and_true, hd]))
   | (with_reducible refine gt ?_ ?_; focus (simp (disch := omega) only [go_sem, Nat.reduceBEq, Nat.reduceAdd, Nat.reduceMul, Nat.reduceSub, Nat.reduceLeDiff, Int.reduceToNat, hd]; done))
   | (with_reducible refine gf ?_ ?_; focus (simp (disch := omega) only [go_sem, Nat.reduceBEq, Nat.reduceAdd, Nat.reduceMul, Nat.reduceSub, Nat.reduceLeDiff, Int.reduceToNat, hd]; done))
   | (with_reducible refine gsplit_intro (fun hc => ?_) (fun hc => ?_))
 have hd : decide ((k : Int) < (A.length : Int)) = true := by simp; omega
 have hw : IntKind.i64.wrap ((k : Int) + 1) = ((k + 1 : Nat) : Int) := by rw [w64 (by omega)]; omega
 obtain ⟨ag, ha⟩ : ∃ x, A[k]? = some x := ⟨_, List.getElem?_eq_getElem (by omega)⟩
 have ra : (agsR A)[k]? = some [agD ag] := by rw [agsR_at, ha]; rfl
 have o1 := agD_one ag
 have cn := name_ok ag (hok ag (List.mem_of_getElem? ha))
 cases hE : decide (nameA ag = s) with
 | true =>
  rw [numF_at ha hE hs]
  repeat' first
   | (refine vs T rfl fun K hK => ?_; (try simp (disch := omega) only [go_sem, Nat.reduceBEq, Nat.reduceAdd, Nat.reduceMul, Nat.reduceSub, Nat.reduceLeDiff, Int.reduceToNat, hd, hw, ra, o1, hE, agsR_len]); (first | (refine hK _ _ ?_; clear hK K) | (intro bq hbq; (try simp only [HB] at hbq); refine hK _ _ ?_; clear hK K) | (refine ⟨?_, hK _ _ ?_⟩ <;> clear hK K; focus (try (first | omega | exact ⟨rfl, by decide⟩ | exact rfl))) | (refine ⟨_, ?_, hK _ _ ?_⟩ <;> clear hK K) | (refine Op1.inva rfl rfl (cn) rfl ?_; refine hK _ _ ?_; clear hK K) | skip))
   | (refine st rfl ?_)
   | (refine sc rfl ?_)
   | (refine nl ?_)
   | (refine ov ?_)
   | (exact ret1 T (List.nil_sublist _) rfl)
   | (exact ret1 T (List.nil_sublist _) ⟨rfl, rfl⟩)
   | (refine ret1 T (List.nil_sublist _) ?_; (try simp only [upd, Nat.reduceBEq, cond_true, cond_false, and_true, hd, hw, ra, o1, hE, agsR_len]))
   | (with_reducible refine gt ?_ ?_; focus (simp (disch := omega) only [go_sem, Nat.reduceBEq, Nat.reduceAdd, Nat.reduceMul, Nat.reduceSub, Nat.reduceLeDiff, Int.reduceToNat, hd, hw, ra, o1, hE, agsR_len]; done))
   | (with_reducible refine gf ?_ ?_; focus (simp (disch := omega) only [go_sem, Nat.reduceBEq, Nat.reduceAdd, Nat.reduceMul, Nat.reduceSub, Nat.reduceLeDiff, Int.reduceToNat, hd, hw, ra, o1, hE, agsR_len]; done))
   | (with_reducible refine gsplit_intro (fun hc => ?_) (fun hc => ?_))
 | false =>
  repeat' first
   | (refine vs T rfl fun K hK => ?_; (try simp (disch := omega) only [go_sem, Nat.reduceBEq, Nat.reduceAdd, Nat.reduceMul, Nat.reduceSub, Nat.reduceLeDiff, Int.reduceToNat, hd, hw, ra, o1, hE, agsR_len]); (first | (refine hK _ _ ?_; clear hK K) | (intro bq hbq; (try simp only [HB] at hbq); refine hK _ _ ?_; clear hK K) | (refine ⟨?_, hK _ _ ?_⟩ <;> clear hK K; focus (try (first | omega | exact ⟨rfl, by decide⟩ | exact rfl))) | (refine ⟨_, ?_, hK _ _ ?_⟩ <;> clear hK K) | (refine Op1.inva rfl rfl (cn) rfl ?_; refine hK _ _ ?_; clear hK K) | skip))
   | (refine st rfl ?_)
   | (refine sc rfl ?_)
   | (refine nl ?_)
   | (refine ov ?_)
   | (with_reducible refine gt ?_ ?_; focus (simp (disch := omega) only [go_sem, Nat.reduceBEq, Nat.reduceAdd, Nat.reduceMul, Nat.reduceSub, Nat.reduceLeDiff, Int.reduceToNat, hd, hw, ra, o1, hE, agsR_len]; done))
   | (with_reducible refine gf ?_ ?_; focus (simp (disch := omega) only [go_sem, Nat.reduceBEq, Nat.reduceAdd, Nat.reduceMul, Nat.reduceSub, Nat.reduceLeDiff, Int.reduceToNat, hd, hw, ra, o1, hE, agsR_len]; done))
   | (with_reducible refine gsplit_intro (fun hc => ?_) (fun hc => ?_))
  refine ⟨⟨k + 1, by omega, fun i y hi hy => ?_⟩, Weak.sub ?_, by simp only []; omega⟩
  ·rcases Nat.lt_or_ge i k with h' | h'
   ·exact hs i y h' hy
   ·obtain rfl : i = k := by omega
    rw [ha] at hy; cases hy; exact hE
  ·simp [sub, upd]
section
variable {u : Un} {c : Cf} {m r : Int}
def mvK (u : Un) (c : Cf) (m r : Int) (A : List Ag) (k : Nat) : List Int := ((List.range k).filter fun i => (A[i]?).any (canA u c m r)).map fun (i : Nat) => (i : Int)
def movesF (u : Un) (c : Cf) (m r : Int) : List Int := mvK u c m r (agsF u m) (agsF u m).length
theorem mvK_succ {A : List Ag} {k : Nat} {a : Ag} (h : A[k]? = some a) : mvK u c m r A (k + 1) = mvK u c m r A k ++ (match canA u c m r a with | true => [(k : Int)] | false => []) := by
 simp only [mvK, List.range_succ, List.filter_append, List.map_append]
 congr 1
 cases hc : canA u c m r a <;> simp [h, hc]
theorem mvK_len {A : List Ag} {k : Nat} : (mvK u c m r A k).length ≤ k := by
 simp only [mvK, List.length_map]
 exact Nat.le_trans (List.length_filter_le _ _) (by simp)
end
theorem grid_len {α : Type} (f : Nat → Nat → α) (L : Nat) : ∀ n, ((List.range n).flatMap fun t => (List.range L).map (f t)).length = n * L
 | 0 => by simp
 | n + 1 => by
  rw [List.range_succ, List.flatMap_append, List.length_append, grid_len f L n]
  simp [Nat.succ_mul]
theorem grid_at {α : Type} (f : Nat → Nat → α) {L : Nat} (hL : 0 < L) : ∀ n i, i < n * L → ((List.range n).flatMap fun t => (List.range L).map (f t))[i]? = some (f (i / L) (i % L))
 | 0, i, h => by omega
 | n + 1, i, h => by
  rw [List.range_succ, List.flatMap_append]
  rcases Nat.lt_or_ge i (n * L) with h' | h'
  ·rw [List.getElem?_append_left (by rw [grid_len]; exact h'), grid_at f hL n i h']
  ·rw [List.getElem?_append_right (by rw [grid_len]; exact h'), grid_len]
   have h2 : i - n * L < L := by rw [Nat.succ_mul] at h; omega
   have h3 : i = L * n + (i - n * L) := by rw [Nat.mul_comm]; omega
   have h4 : i / L = n := by rw [h3, Nat.mul_add_div hL, Nat.div_eq_of_lt h2]; rfl
   have h5 : i % L = i - n * L := by rw [h3, Nat.mul_add_mod, Nat.mod_eq_of_lt h2]; omega
   simp [h2, h4, h5]
theorem agsF_1 {u : Un} (h : unitB u = true) : agsF u 1 = thsF u.regs.length := by
 rw [agsF, if_pos ⟨h, by omega, by omega⟩, allF]
 have : (List.range u.regs.length).flatMap (flsF u 1) = [] := by
  rw [List.flatMap_eq_nil_iff]
  intro t _
  simp [flsF]
 rw [this, List.append_nil]
theorem agsF_2 {u : Un} (h : unitB u = true) : agsF u 2 = thsF u.regs.length ++ (List.range u.regs.length).map fun t => .fl t (-1) := by
 rw [agsF, if_pos ⟨h, by omega, by omega⟩, allF]
 congr 1
 rw [List.map_eq_flatMap]
 rfl
theorem agsF_3 {u : Un} (h : unitB u = true) : agsF u 3 = thsF u.regs.length ++ (List.range u.regs.length).flatMap fun t => (List.range u.init.length).map fun l => .fl t (l : Int) := by
 rw [agsF, if_pos ⟨h, by omega, by omega⟩, allF]
 rfl
theorem agsF_no {u : Un} {m : Int} (h : ¬ (unitB u = true ∧ 1 ≤ m ∧ m ≤ 3)) : agsF u m = [] := if_neg h
theorem count_1 {u : Un} (h : unitB u = true) : (agsF u 1).length = u.regs.length := by rw [agsF_1 h, thsF_len]
theorem count_2 {u : Un} (h : unitB u = true) : (agsF u 2).length = 2 * u.regs.length := by rw [agsF_2 h, List.length_append, thsF_len, List.length_map, List.length_range]; omega
theorem count_3 {u : Un} (h : unitB u = true) : (agsF u 3).length = u.regs.length + u.regs.length * u.init.length := by rw [agsF_3 h, List.length_append, thsF_len, grid_len]
theorem ths_at {n i : Nat} (h : i < n) (l : List Ag) : (thsF n ++ l)[i]? = some (.th i) := by
 rw [List.getElem?_append_left (by rw [thsF_len]; exact h)]
 simp [thsF, h]
theorem ths_past {n i : Nat} (h : n ≤ i) (l : List Ag) : (thsF n ++ l)[i]? = l[i - n]? := by rw [List.getElem?_append_right (by rw [thsF_len]; exact h), thsF_len]
theorem ragents_ok (u : Un) (hu : OkU u) (m : Int) : Pure Tryz.prog 88 [.agg (unC u), iD m] (iD ((agsF u m).length : Nat)) := by
 have cu := right07_ok u hu
 refine Fun.of T [.tmp 4] Tryz.func88 rfl Tryz.ntmps88 Tryz.results88 rfl (by kernel_rfl) ?_
 cases hU : unitB u with
 | false =>
  rw [hU] at cu
  rw [agsF_no (by simp [hU])]
  repeat' first | refine vb rfl rfl rfl rfl ?_ | refine vs T rfl fun K hK => ?_; (try simp (disch := omega) only [go_sem, Nat.reduceBEq, Nat.reduceAdd, Nat.reduceLeDiff, Bool.not_false]); (first | refine hK _ _ ?_; clear hK K | refine Op1.callp rfl rfl (cu) rfl ?_; refine hK _ _ ?_; clear hK K) | refine st rfl ?_ | refine sc rfl ?_ | refine nl ?_ | exact ret1 T (List.nil_sublist _) ⟨rfl, rfl⟩
  all_goals rfl
 | true =>
 rw [hU] at cu
 obtain ⟨kn, ki, k0⟩ := unit_lens hU
 by_cases m1 : m = 1
 ·have f1 : (m == 1) = true := by simpa using m1
  have hc : (agsF u m).length = u.regs.length := by subst m1; exact count_1 hU
  rw [hc]
  repeat' first | refine vb rfl rfl rfl rfl ?_ | refine vs T rfl fun K hK => ?_; (try simp (disch := omega) only [go_sem, Nat.reduceBEq, Nat.reduceAdd, Nat.reduceLeDiff, f1, iRs_len, Bool.not_true]); (first | refine hK _ _ ?_; clear hK K | refine Op1.callp rfl rfl (cu) rfl ?_; refine hK _ _ ?_; clear hK K) | refine st rfl ?_ | refine sc rfl ?_ | refine nl ?_ | exact ret1 T (List.nil_sublist _) ⟨rfl, rfl⟩
 have f1 : (m == 1) = false := by simpa using m1
 by_cases m2 : m = 2
 ·have f2 : (m == 2) = true := by simpa using m2
  have hw : IntKind.i64.wrap (2 * (u.regs.length : Int)) = ((2 * u.regs.length : Nat) : Int) := by rw [w64 (by omega)]; omega
  have hc : (agsF u m).length = 2 * u.regs.length := by subst m2; exact count_2 hU
  rw [hc]
  repeat' first | refine vb rfl rfl rfl rfl ?_ | refine vs T rfl fun K hK => ?_; (try simp (disch := omega) only [go_sem, Nat.reduceBEq, Nat.reduceAdd, Nat.reduceLeDiff, f1, f2, hw, iRs_len, Bool.not_true]); (first | refine hK _ _ ?_; clear hK K | refine Op1.callp rfl rfl (cu) rfl ?_; refine hK _ _ ?_; clear hK K) | refine st rfl ?_ | refine sc rfl ?_ | refine nl ?_ | exact ret1 T (List.nil_sublist _) ⟨rfl, rfl⟩
 have f2 : (m == 2) = false := by simpa using m2
 by_cases m3 : m = 3
 ·have f3 : (m == 3) = true := by simpa using m3
  have hb : u.regs.length * u.init.length ≤ 4 * 6 := Nat.mul_le_mul kn ki
  have hw1 : IntKind.i64.wrap ((u.regs.length : Int) * (u.init.length : Int)) = ((u.regs.length * u.init.length : Nat) : Int) := by
   rw [show (u.regs.length : Int) * (u.init.length : Int) = ((u.regs.length * u.init.length : Nat) : Int) by simp, w64 (by omega)]
  have hw2 : IntKind.i64.wrap ((u.regs.length : Int) + ((u.regs.length * u.init.length : Nat) : Int)) = ((u.regs.length + u.regs.length * u.init.length : Nat) : Int) := by rw [w64 (by omega)]; omega
  have hc : (agsF u m).length = u.regs.length + u.regs.length * u.init.length := by subst m3; exact count_3 hU
  rw [hc]
  repeat' first | refine vb rfl rfl rfl rfl ?_ | refine vs T rfl fun K hK => ?_; (try simp (disch := omega) only [go_sem, Nat.reduceBEq, Nat.reduceAdd, Nat.reduceLeDiff, f1, f2, f3, hw1, hw2, iRs_len, Bool.not_true]); (first | refine hK _ _ ?_; clear hK K | refine Op1.callp rfl rfl (cu) rfl ?_; refine hK _ _ ?_; clear hK K) | refine st rfl ?_ | refine sc rfl ?_ | refine nl ?_ | exact ret1 T (List.nil_sublist _) ⟨rfl, rfl⟩
 have f3 : (m == 3) = false := by simpa using m3
 rw [agsF_no (by omega)]
 repeat' first | refine vb rfl rfl rfl rfl ?_ | refine vs T rfl fun K hK => ?_; (try simp (disch := omega) only [go_sem, Nat.reduceBEq, Nat.reduceAdd, Nat.reduceLeDiff, f1, f2, f3, iRs_len, Bool.not_true]); (first | refine hK _ _ ?_; clear hK K | refine Op1.callp rfl rfl (cu) rfl ?_; refine hK _ _ ?_; clear hK K) | refine st rfl ?_ | refine sc rfl ?_ | refine nl ?_ | exact ret1 T (List.nil_sublist _) ⟨rfl, rfl⟩
 all_goals rfl
def e11 : Cf := ⟨[1, 0], [[], []], [1, 0], [[], []]⟩
end Go.Proofs.YtomcmfbpmkklmaaGreat
