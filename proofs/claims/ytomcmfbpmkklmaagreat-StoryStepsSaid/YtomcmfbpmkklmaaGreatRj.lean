/- Contracts: all that can act; a name's agent. No condition. -/
import Derived.Test.YtomcmfbpmkklmaaGreatRg
import Derived.Test.YtomcmfbpmkklmaaGreatYq
namespace Go.Proofs.YtomcmfbpmkklmaaGreat
set_option maxHeartbeats 16000000
set_option linter.unusedSimpArgs false
set_option linter.unusedVariables false
set_option maxRecDepth 20000
open Go Go.Proofs Go.Vc
attribute [local irreducible] retQ VCg VCw VCx
section
variable {u : Un} {c : Cf} {m r : Int}
end
theorem grid_len {α : Type} (f : Nat → Nat → α) (L : Nat) : ∀ n, ((List.range n).flatMap fun t => (List.range L).map (f t)).length = n * L
 | 0 => by simp
 | n + 1 => by
  rw [List.range_succ, List.flatMap_append, List.length_append, grid_len f L n]
  simp [Nat.succ_mul]
theorem grid_at {α : Type} (f : Nat → Nat → α) {L : Nat} (hL : 0 < L) : ∀ n i, i < n * L → ((List.range n).flatMap fun t => (List.range L).map (f t))[i]? = some (f (i / L) (i % L))
 | 0, i, h => by omega
 | n + 1, i, h => by
  rw [List.range_succ, List.flatMap_append]
  rcases Nat.lt_or_ge i (n * L) with h' | h'
  ·rw [List.getElem?_append_left (by rw [grid_len]; exact h'), grid_at f hL n i h']
  ·rw [List.getElem?_append_right (by rw [grid_len]; exact h'), grid_len]
   have h2 : i - n * L < L := by rw [Nat.succ_mul] at h; omega
   have h3 : i = L * n + (i - n * L) := by rw [Nat.mul_comm]; omega
   have h4 : i / L = n := by rw [h3, Nat.mul_add_div hL, Nat.div_eq_of_lt h2]; rfl
   have h5 : i % L = i - n * L := by rw [h3, Nat.mul_add_mod, Nat.mod_eq_of_lt h2]; omega
   simp [h2, h4, h5]
theorem agsF_1 {u : Un} (h : unitB u = true) : agsF u 1 = thsF u.regs.length := by
 rw [agsF, if_pos ⟨h, by omega, by omega⟩, allF]
 have : (List.range u.regs.length).flatMap (flsF u 1) = [] := by
  rw [List.flatMap_eq_nil_iff]
  intro t _
  simp [flsF]
 rw [this, List.append_nil]
theorem agsF_2 {u : Un} (h : unitB u = true) : agsF u 2 = thsF u.regs.length ++ (List.range u.regs.length).map fun t => .fl t (-1) := by
 rw [agsF, if_pos ⟨h, by omega, by omega⟩, allF]
 congr 1
 rw [List.map_eq_flatMap]
 rfl
theorem agsF_3 {u : Un} (h : unitB u = true) : agsF u 3 = thsF u.regs.length ++ (List.range u.regs.length).flatMap fun t => (List.range u.init.length).map fun l => .fl t (l : Int) := by
 rw [agsF, if_pos ⟨h, by omega, by omega⟩, allF]
 rfl
theorem agsF_no {u : Un} {m : Int} (h : ¬ (unitB u = true ∧ 1 ≤ m ∧ m ≤ 3)) : agsF u m = [] := if_neg h
theorem count_1 {u : Un} (h : unitB u = true) : (agsF u 1).length = u.regs.length := by rw [agsF_1 h, thsF_len]
theorem count_2 {u : Un} (h : unitB u = true) : (agsF u 2).length = 2 * u.regs.length := by rw [agsF_2 h, List.length_append, thsF_len, List.length_map, List.length_range]; omega
theorem count_3 {u : Un} (h : unitB u = true) : (agsF u 3).length = u.regs.length + u.regs.length * u.init.length := by rw [agsF_3 h, List.length_append, thsF_len, grid_len]
theorem ths_at {n i : Nat} (h : i < n) (l : List Ag) : (thsF n ++ l)[i]? = some (.th i) := by
 rw [List.getElem?_append_left (by rw [thsF_len]; exact h)]
 simp [thsF, h]
theorem ths_past {n i : Nat} (h : n ≤ i) (l : List Ag) : (thsF n ++ l)[i]? = l[i - n]? := by rw [List.getElem?_append_right (by rw [thsF_len]; exact h), thsF_len]
theorem ragents_ok (u : Un) (hu : OkU u) (m : Int) : Pure Tryz.prog 88 [.agg (unC u), iD m] (iD ((agsF u m).length : Nat)) := by
 have cu := right07_ok u hu
 refine Fun.of T [.tmp 4] Tryz.func88 rfl Tryz.ntmps88 Tryz.results88 rfl (by kernel_rfl) ?_
 cases hU : unitB u with
 | false =>
  rw [hU] at cu
  rw [agsF_no (by simp [hU])]
  repeat' first | refine vb rfl rfl rfl rfl ?_ | refine vs T rfl fun K hK => ?_; (try simp (disch := omega) only [go_sem, Nat.reduceBEq, Nat.reduceAdd, Nat.reduceLeDiff, Bool.not_false]); (first | refine hK _ _ ?_; clear hK K | refine Op1.callp rfl rfl (cu) rfl ?_; refine hK _ _ ?_; clear hK K) | refine st rfl ?_ | refine sc rfl ?_ | refine nl ?_ | exact ret1 T (List.nil_sublist _) ⟨rfl, rfl⟩
  all_goals rfl
 | true =>
 rw [hU] at cu
 obtain ⟨kn, ki, k0⟩ := unit_lens hU
 by_cases m1 : m = 1
 ·have f1 : (m == 1) = true := by simpa using m1
  have hc : (agsF u m).length = u.regs.length := by subst m1; exact count_1 hU
  rw [hc]
  repeat' first | refine vb rfl rfl rfl rfl ?_ | refine vs T rfl fun K hK => ?_; (try simp (disch := omega) only [go_sem, Nat.reduceBEq, Nat.reduceAdd, Nat.reduceLeDiff, f1, iRs_len, Bool.not_true]); (first | refine hK _ _ ?_; clear hK K | refine Op1.callp rfl rfl (cu) rfl ?_; refine hK _ _ ?_; clear hK K) | refine st rfl ?_ | refine sc rfl ?_ | refine nl ?_ | exact ret1 T (List.nil_sublist _) ⟨rfl, rfl⟩
 have f1 : (m == 1) = false := by simpa using m1
 by_cases m2 : m = 2
 ·have f2 : (m == 2) = true := by simpa using m2
  have hw : IntKind.i64.wrap (2 * (u.regs.length : Int)) = ((2 * u.regs.length : Nat) : Int) := by rw [w64 (by omega)]; omega
  have hc : (agsF u m).length = 2 * u.regs.length := by subst m2; exact count_2 hU
  rw [hc]
  repeat' first | refine vb rfl rfl rfl rfl ?_ | refine vs T rfl fun K hK => ?_; (try simp (disch := omega) only [go_sem, Nat.reduceBEq, Nat.reduceAdd, Nat.reduceLeDiff, f1, f2, hw, iRs_len, Bool.not_true]); (first | refine hK _ _ ?_; clear hK K | refine Op1.callp rfl rfl (cu) rfl ?_; refine hK _ _ ?_; clear hK K) | refine st rfl ?_ | refine sc rfl ?_ | refine nl ?_ | exact ret1 T (List.nil_sublist _) ⟨rfl, rfl⟩
 have f2 : (m == 2) = false := by simpa using m2
 by_cases m3 : m = 3
 ·have f3 : (m == 3) = true := by simpa using m3
  have hb : u.regs.length * u.init.length ≤ 4 * 6 := Nat.mul_le_mul kn ki
  have hw1 : IntKind.i64.wrap ((u.regs.length : Int) * (u.init.length : Int)) = ((u.regs.length * u.init.length : Nat) : Int) := by
   rw [show (u.regs.length : Int) * (u.init.length : Int) = ((u.regs.length * u.init.length : Nat) : Int) by simp, w64 (by omega)]
  have hw2 : IntKind.i64.wrap ((u.regs.length : Int) + ((u.regs.length * u.init.length : Nat) : Int)) = ((u.regs.length + u.regs.length * u.init.length : Nat) : Int) := by rw [w64 (by omega)]; omega
  have hc : (agsF u m).length = u.regs.length + u.regs.length * u.init.length := by subst m3; exact count_3 hU
  rw [hc]
  repeat' first | refine vb rfl rfl rfl rfl ?_ | refine vs T rfl fun K hK => ?_; (try simp (disch := omega) only [go_sem, Nat.reduceBEq, Nat.reduceAdd, Nat.reduceLeDiff, f1, f2, f3, hw1, hw2, iRs_len, Bool.not_true]); (first | refine hK _ _ ?_; clear hK K | refine Op1.callp rfl rfl (cu) rfl ?_; refine hK _ _ ?_; clear hK K) | refine st rfl ?_ | refine sc rfl ?_ | refine nl ?_ | exact ret1 T (List.nil_sublist _) ⟨rfl, rfl⟩
 have f3 : (m == 3) = false := by simpa using m3
 rw [agsF_no (by omega)]
 repeat' first | refine vb rfl rfl rfl rfl ?_ | refine vs T rfl fun K hK => ?_; (try simp (disch := omega) only [go_sem, Nat.reduceBEq, Nat.reduceAdd, Nat.reduceLeDiff, f1, f2, f3, iRs_len, Bool.not_true]); (first | refine hK _ _ ?_; clear hK K | refine Op1.callp rfl rfl (cu) rfl ?_; refine hK _ _ ?_; clear hK K) | refine st rfl ?_ | refine sc rfl ?_ | refine nl ?_ | exact ret1 T (List.nil_sublist _) ⟨rfl, rfl⟩
 all_goals rfl
theorem bapp (a b c : ByteArray) : a ++ b ++ c = a ++ (b ++ c) := by
 apply ByteArray.ext
 simp [Array.append_assoc]
theorem rname_ok (u : Un) (hu : OkU u) (m a : Int) : Pure Tryz.prog 77 [.agg (unC u), iD m, iD a] (sD (nameM u m a)) := by
 have ca := ragents_ok u hu m
 have hl := agsF_len u m
 refine Fun.of T [.tmp 6] Tryz.func77 rfl Tryz.ntmps77 Tryz.results77 rfl (by kernel_rfl) ?_
 by_cases h1 : a < 0
 ·have e1 : decide (a < 0) = true := by simpa using h1
  rw [show nameM u m a = ⟨#[]⟩ by simp [nameM, oneF, Int.not_le.2 h1]]
  repeat' first
   | (refine vb rfl rfl rfl rfl ?_)
   | (refine dr (id := 8) T 18 (by kernel_rfl) ?_)
   | (refine gn ?_)
   | (refine VCg.nil T ?_; simp only [allK, WB, Nat.reduceAdd]; try (refine fun (bq : Nat) hbq => ?_; (try simp only [HB] at hbq)))
   | ((first | apply VCg.step T rfl rfl | apply exF); focus ((try simp (disch := omega) only [go_sem, Nat.reduceBEq, Nat.reduceAdd, Nat.reduceMul, Nat.reduceSub, Nat.reduceLeDiff, Int.reduceToNat, e1, iRs_len]); (first | exact rfl | exact ⟨rfl, rfl⟩ | (refine ⟨?_, rfl⟩; try (first | omega | exact ⟨rfl, by decide⟩ | exact rfl)) | (refine Op1.callp rfl rfl (ca) rfl ?_; exact ⟨rfl, rfl⟩))))
   | (refine VCg.gstep T rfl rfl rfl rfl ?_; try simp only [GB])
   | (refine VCg.gundef T rfl rfl rfl rfl ?_; try simp only [updO])
   | (refine vs T rfl fun K hK => ?_; (try simp (disch := omega) only [go_sem, Nat.reduceBEq, Nat.reduceAdd, Nat.reduceMul, Nat.reduceSub, Nat.reduceLeDiff, Int.reduceToNat, e1, iRs_len]); (first | (refine hK _ _ ?_; clear hK K) | (intro bq hbq; (try simp only [HB] at hbq); refine hK _ _ ?_; clear hK K) | (refine ⟨?_, hK _ _ ?_⟩ <;> clear hK K; focus (try (first | omega | exact ⟨rfl, by decide⟩ | exact rfl))) | (refine ⟨_, ?_, hK _ _ ?_⟩ <;> clear hK K) | (refine Op1.callp rfl rfl (ca) rfl ?_; refine hK _ _ ?_; clear hK K) | skip))
   | (refine st rfl ?_)
   | (refine sc rfl ?_)
   | (refine nl ?_)
   | (refine gs rfl rfl ?_)
   | (refine gu rfl rfl ?_)
   | (refine ov ?_)
   | (exact ret1 T (List.nil_sublist _) rfl)
   | (exact ret1 T (List.nil_sublist _) ⟨rfl, rfl⟩)
   | (refine ret1 T (List.nil_sublist _) ?_; (try simp only [upd, Nat.reduceBEq, cond_true, cond_false, and_true, e1, iRs_len]))
   | (with_reducible refine gt ?_ ?_; focus (simp (disch := omega) only [go_sem, Nat.reduceBEq, Nat.reduceAdd, Nat.reduceMul, Nat.reduceSub, Nat.reduceLeDiff, Int.reduceToNat, e1, iRs_len]; done))
   | (with_reducible refine gf ?_ ?_; focus (simp (disch := omega) only [go_sem, Nat.reduceBEq, Nat.reduceAdd, Nat.reduceMul, Nat.reduceSub, Nat.reduceLeDiff, Int.reduceToNat, e1, iRs_len]; done))
   | (with_reducible refine gsplit_intro (fun hc => ?_) (fun hc => ?_))
 have e1 : decide (a < 0) = false := by simpa using h1
 obtain ⟨i, rfl⟩ : ∃ i : Nat, a = (i : Int) := ⟨a.toNat, by omega⟩
 have hO : oneF u m (i : Nat) = (agsF u m)[i]? := by simp [oneF]
 by_cases h2 : (i : Int) ≥ ((agsF u m).length : Int)
 ·have e2 : decide ((i : Int) ≥ ((agsF u m).length : Int)) = true := by simpa using h2
  rw [show nameM u m (i : Nat) = ⟨#[]⟩ by simp [nameM, hO, List.getElem?_eq_none (show (agsF u m).length ≤ i by omega)]]
  repeat' first
   | (refine vb rfl rfl rfl rfl ?_)
   | (refine dr (id := 8) T 18 (by kernel_rfl) ?_)
   | (refine gn ?_)
   | (refine VCg.nil T ?_; simp only [allK, WB, Nat.reduceAdd]; try (refine fun (bq : Nat) hbq => ?_; (try simp only [HB] at hbq)))
   | ((first | apply VCg.step T rfl rfl | apply exF); focus ((try simp (disch := omega) only [go_sem, Nat.reduceBEq, Nat.reduceAdd, Nat.reduceMul, Nat.reduceSub, Nat.reduceLeDiff, Int.reduceToNat, e1, e2, iRs_len]); (first | exact rfl | exact ⟨rfl, rfl⟩ | (refine ⟨?_, rfl⟩; try (first | omega | exact ⟨rfl, by decide⟩ | exact rfl)) | (refine Op1.callp rfl rfl (ca) rfl ?_; exact ⟨rfl, rfl⟩))))
   | (refine VCg.gstep T rfl rfl rfl rfl ?_; try simp only [GB])
   | (refine VCg.gundef T rfl rfl rfl rfl ?_; try simp only [updO])
   | (refine vs T rfl fun K hK => ?_; (try simp (disch := omega) only [go_sem, Nat.reduceBEq, Nat.reduceAdd, Nat.reduceMul, Nat.reduceSub, Nat.reduceLeDiff, Int.reduceToNat, e1, e2, iRs_len]); (first | (refine hK _ _ ?_; clear hK K) | (intro bq hbq; (try simp only [HB] at hbq); refine hK _ _ ?_; clear hK K) | (refine ⟨?_, hK _ _ ?_⟩ <;> clear hK K; focus (try (first | omega | exact ⟨rfl, by decide⟩ | exact rfl))) | (refine ⟨_, ?_, hK _ _ ?_⟩ <;> clear hK K) | (refine Op1.callp rfl rfl (ca) rfl ?_; refine hK _ _ ?_; clear hK K) | skip))
   | (refine st rfl ?_)
   | (refine sc rfl ?_)
   | (refine nl ?_)
   | (refine gs rfl rfl ?_)
   | (refine gu rfl rfl ?_)
   | (refine ov ?_)
   | (exact ret1 T (List.nil_sublist _) rfl)
   | (exact ret1 T (List.nil_sublist _) ⟨rfl, rfl⟩)
   | (refine ret1 T (List.nil_sublist _) ?_; (try simp only [upd, Nat.reduceBEq, cond_true, cond_false, and_true, e1, e2, iRs_len]))
   | (with_reducible refine gt ?_ ?_; focus (simp (disch := omega) only [go_sem, Nat.reduceBEq, Nat.reduceAdd, Nat.reduceMul, Nat.reduceSub, Nat.reduceLeDiff, Int.reduceToNat, e1, e2, iRs_len]; done))
   | (with_reducible refine gf ?_ ?_; focus (simp (disch := omega) only [go_sem, Nat.reduceBEq, Nat.reduceAdd, Nat.reduceMul, Nat.reduceSub, Nat.reduceLeDiff, Int.reduceToNat, e1, e2, iRs_len]; done))
   | (with_reducible refine gsplit_intro (fun hc => ?_) (fun hc => ?_))
 have e2 : decide ((i : Int) ≥ ((agsF u m).length : Int)) = false := by simpa using h2
 have hUm : unitB u = true ∧ 1 ≤ m ∧ m ≤ 3 := by
  by_cases h : unitB u = true ∧ 1 ≤ m ∧ m ≤ 3
  ·exact h
  ·rw [agsF_no h] at h2; simp at h2
 obtain ⟨hU, hm1, hm3⟩ := hUm
 obtain ⟨kn, ki, k0⟩ := unit_lens hU
 have z1 : (⟨#[116]⟩ : ByteArray).size = 1 := rfl
 have z2 : (⟨#[102]⟩ : ByteArray).size = 1 := rfl
 have z3 : (⟨#[46]⟩ : ByteArray).size = 1 := rfl
 have y1 : (#[116] : Array UInt8).size = 1 := rfl
 have y2 : (#[102] : Array UInt8).size = 1 := rfl
 have y3 : (#[46] : Array UInt8).size = 1 := rfl
 by_cases h3 : i < u.regs.length
 ·have e3 : decide ((i : Int) < (u.regs.length : Int)) = true := by simp; omega
  have c1 := digits6_ok (i : Nat) (by omega)
  have hs := dec6_size (i : Nat)
  have hn : nameM u m (i : Nat) = bT ++ dec6 (i : Nat) := by
   have : (agsF u m)[i]? = some (.th i) := by
    rw [agsF, if_pos ⟨hU, hm1, hm3⟩]
    exact ths_at h3 _
   simp [nameM, hO, this, nameA]
  rw [hn]
  repeat' first
   | (refine vb rfl rfl rfl rfl ?_)
   | (refine dr (id := 8) T 18 (by kernel_rfl) ?_)
   | (refine gn ?_)
   | (refine VCg.nil T ?_; simp only [allK, WB, Nat.reduceAdd]; try (refine fun (bq : Nat) hbq => ?_; (try simp only [HB] at hbq)))
   | ((first | apply VCg.step T rfl rfl | apply exF); focus ((try simp (disch := omega) only [go_sem, Nat.reduceBEq, Nat.reduceAdd, Nat.reduceMul, Nat.reduceSub, Nat.reduceLeDiff, Int.reduceToNat, e1, e2, e3, iRs_len]); (first | exact rfl | exact ⟨rfl, rfl⟩ | (refine ⟨?_, rfl⟩; try (first | omega | exact ⟨rfl, by decide⟩ | exact rfl)) | (refine Op1.callp rfl rfl (ca) rfl ?_; exact ⟨rfl, rfl⟩) | (refine Op1.callp rfl rfl (c1) rfl ?_; exact ⟨rfl, rfl⟩))))
   | (refine VCg.gstep T rfl rfl rfl rfl ?_; try simp only [GB])
   | (refine VCg.gundef T rfl rfl rfl rfl ?_; try simp only [updO])
   | (refine vs T rfl fun K hK => ?_; (try simp (disch := omega) only [go_sem, Nat.reduceBEq, Nat.reduceAdd, Nat.reduceMul, Nat.reduceSub, Nat.reduceLeDiff, Int.reduceToNat, e1, e2, e3, iRs_len]); (first | (refine hK _ _ ?_; clear hK K) | (intro bq hbq; (try simp only [HB] at hbq); refine hK _ _ ?_; clear hK K) | (refine ⟨?_, hK _ _ ?_⟩ <;> clear hK K; focus (try (first | omega | exact ⟨rfl, by decide⟩ | exact rfl))) | (refine ⟨_, ?_, hK _ _ ?_⟩ <;> clear hK K) | (refine Op1.callp rfl rfl (ca) rfl ?_; refine hK _ _ ?_; clear hK K) | (refine Op1.callp rfl rfl (c1) rfl ?_; refine hK _ _ ?_; clear hK K) | skip))
   | (refine st rfl ?_)
   | (refine sc rfl ?_)
   | (refine nl ?_)
   | (refine gs rfl rfl ?_)
   | (refine gu rfl rfl ?_)
   | (refine ov ?_)
   | (exact ret1 T (List.nil_sublist _) rfl)
   | (exact ret1 T (List.nil_sublist _) ⟨rfl, rfl⟩)
   | (refine ret1 T (List.nil_sublist _) ?_; (try simp only [upd, Nat.reduceBEq, cond_true, cond_false, and_true, e1, e2, e3, iRs_len]))
   | (with_reducible refine gt ?_ ?_; focus (simp (disch := omega) only [go_sem, Nat.reduceBEq, Nat.reduceAdd, Nat.reduceMul, Nat.reduceSub, Nat.reduceLeDiff, Int.reduceToNat, e1, e2, e3, iRs_len]; done))
   | (with_reducible refine gf ?_ ?_; focus (simp (disch := omega) only [go_sem, Nat.reduceBEq, Nat.reduceAdd, Nat.reduceMul, Nat.reduceSub, Nat.reduceLeDiff, Int.reduceToNat, e1, e2, e3, iRs_len]; done))
   | (with_reducible refine gsplit_intro (fun hc => ?_) (fun hc => ?_))
  all_goals omega
 have e3 : decide ((i : Int) < (u.regs.length : Int)) = false := by simp; omega
 have hw : IntKind.i64.wrap ((i : Int) - (u.regs.length : Int)) = ((i - u.regs.length : Nat) : Int) := by rw [w64 (by omega)]; omega
 by_cases m2 : m = 2
 ·have f2 : (m == 2) = true := by simpa using m2
  have c1 := digits6_ok ((i - u.regs.length : Nat) : Int) (by omega)
  have hs := dec6_size ((i - u.regs.length : Nat) : Int)
  have hn : nameM u m (i : Nat) = bF ++ dec6 ((i - u.regs.length : Nat) : Int) := by
   have : (agsF u m)[i]? = some (.fl (i - u.regs.length) (-1)) := by
    have hc := count_2 hU
    subst m2
    rw [agsF_2 hU, ths_past (by omega), List.getElem?_map, List.getElem?_range (by omega)]
    rfl
   simp [nameM, hO, this, nameA]
  rw [hn]
  repeat' first
   | (refine vb rfl rfl rfl rfl ?_)
   | (refine dr (id := 8) T 18 (by kernel_rfl) ?_)
   | (refine gn ?_)
   | (refine VCg.nil T ?_; simp only [allK, WB, Nat.reduceAdd]; try (refine fun (bq : Nat) hbq => ?_; (try simp only [HB] at hbq)))
   | ((first | apply VCg.step T rfl rfl | apply exF); focus ((try simp (disch := omega) only [go_sem, Nat.reduceBEq, Nat.reduceAdd, Nat.reduceMul, Nat.reduceSub, Nat.reduceLeDiff, Int.reduceToNat, e1, e2, e3, hw, f2, iRs_len]); (first | exact rfl | exact ⟨rfl, rfl⟩ | (refine ⟨?_, rfl⟩; try (first | omega | exact ⟨rfl, by decide⟩ | exact rfl)) | (refine Op1.callp rfl rfl (ca) rfl ?_; exact ⟨rfl, rfl⟩) | (refine Op1.callp rfl rfl (c1) rfl ?_; exact ⟨rfl, rfl⟩))))
   | (refine VCg.gstep T rfl rfl rfl rfl ?_; try simp only [GB])
   | (refine VCg.gundef T rfl rfl rfl rfl ?_; try simp only [updO])
   | (refine vs T rfl fun K hK => ?_; (try simp (disch := omega) only [go_sem, Nat.reduceBEq, Nat.reduceAdd, Nat.reduceMul, Nat.reduceSub, Nat.reduceLeDiff, Int.reduceToNat, e1, e2, e3, hw, f2, iRs_len]); (first | (refine hK _ _ ?_; clear hK K) | (intro bq hbq; (try simp only [HB] at hbq); refine hK _ _ ?_; clear hK K) | (refine ⟨?_, hK _ _ ?_⟩ <;> clear hK K; focus (try (first | omega | exact ⟨rfl, by decide⟩ | exact rfl))) | (refine ⟨_, ?_, hK _ _ ?_⟩ <;> clear hK K) | (refine Op1.callp rfl rfl (ca) rfl ?_; refine hK _ _ ?_; clear hK K) | (refine Op1.callp rfl rfl (c1) rfl ?_; refine hK _ _ ?_; clear hK K) | skip))
   | (refine st rfl ?_)
   | (refine sc rfl ?_)
   | (refine nl ?_)
   | (refine gs rfl rfl ?_)
   | (refine gu rfl rfl ?_)
   | (refine ov ?_)
   | (exact ret1 T (List.nil_sublist _) rfl)
   | (exact ret1 T (List.nil_sublist _) ⟨rfl, rfl⟩)
   | (refine ret1 T (List.nil_sublist _) ?_; (try simp only [upd, Nat.reduceBEq, cond_true, cond_false, and_true, e1, e2, e3, hw, f2, iRs_len]))
   | (with_reducible refine gt ?_ ?_; focus (simp (disch := omega) only [go_sem, Nat.reduceBEq, Nat.reduceAdd, Nat.reduceMul, Nat.reduceSub, Nat.reduceLeDiff, Int.reduceToNat, e1, e2, e3, hw, f2, iRs_len]; done))
   | (with_reducible refine gf ?_ ?_; focus (simp (disch := omega) only [go_sem, Nat.reduceBEq, Nat.reduceAdd, Nat.reduceMul, Nat.reduceSub, Nat.reduceLeDiff, Int.reduceToNat, e1, e2, e3, hw, f2, iRs_len]; done))
   | (with_reducible refine gsplit_intro (fun hc => ?_) (fun hc => ?_))
  all_goals omega
 have f2 : (m == 2) = false := by simpa using m2
 have m3 : m = 3 := by
  rcases (show m = 1 ∨ m = 3 by omega) with h | h
  ·subst h; rw [count_1 hU] at h2; omega
  ·exact h
 have hcnt : i - u.regs.length < u.regs.length * u.init.length := by
  subst m3; rw [count_3 hU] at h2; omega
 have hL : 0 < u.init.length := by
  rcases Nat.eq_zero_or_pos u.init.length with h | h
  ·rw [h, Nat.mul_zero] at hcnt; omega
  ·exact h
 generalize hj : i - u.regs.length = j at *
 have hdv : j / u.init.length ≤ j := Nat.div_le_self _ _
 have hmd : j % u.init.length < u.init.length := Nat.mod_lt _ hL
 have hb : u.regs.length * u.init.length ≤ 4 * 6 := Nat.mul_le_mul kn ki
 have hq : IntKind.i64.wrap ((j : Int).tdiv (u.init.length : Int)) = ((j / u.init.length : Nat) : Int) := by
  rw [quo64 (n := (j : Int)) (k := (u.init.length : Int)) (by omega) (by omega) (by omega)]
  exact (Int.natCast_ediv _ _).symm
 have hr : (j : Int).tmod (u.init.length : Int) = ((j % u.init.length : Nat) : Int) := by
  rw [rem_pos (n := (j : Int)) (k := (u.init.length : Int)) (by omega)]
  exact (Int.natCast_emod _ _).symm
 have hnz : (u.init.length : Int) ≠ 0 := by omega
 have c1 := digits6_ok ((j / u.init.length : Nat) : Int) ⟨Int.natCast_nonneg _, by omega⟩
 have c2 := digits6_ok ((j % u.init.length : Nat) : Int) ⟨Int.natCast_nonneg _, by omega⟩
 have hs := dec6_size ((j / u.init.length : Nat) : Int)
 have hs2 := dec6_size ((j % u.init.length : Nat) : Int)
 have hn : nameM u m (i : Nat) = bF ++ dec6 ((j / u.init.length : Nat) : Int) ++ bP ++ dec6 ((j % u.init.length : Nat) : Int) := by
  have : (agsF u m)[i]? = some (.fl (j / u.init.length) ((j % u.init.length : Nat) : Int)) := by
   subst m3
   rw [agsF_3 hU, ths_past (by omega), hj]
   exact grid_at (fun t l => Ag.fl t (l : Int)) hL _ _ hcnt
  have hp : decide (((j % u.init.length : Nat) : Int) ≥ 0) = true := decide_eq_true (Int.natCast_nonneg _)
  simp only [nameM, hO, this, nameA, hp, bapp]
 rw [hn]
 repeat' first
  | (refine vb rfl rfl rfl rfl ?_)
  | (refine dr (id := 8) T 18 (by kernel_rfl) ?_)
  | (refine gn ?_)
  | (refine VCg.nil T ?_; simp only [allK, WB, Nat.reduceAdd]; try (refine fun (bq : Nat) hbq => ?_; (try simp only [HB] at hbq)))
  | ((first | apply VCg.step T rfl rfl | apply exF); focus ((try simp (disch := omega) only [go_sem, Nat.reduceBEq, Nat.reduceAdd, Nat.reduceMul, Nat.reduceSub, Nat.reduceLeDiff, Int.reduceToNat, e1, e2, e3, hw, f2, hq, hr, iRs_len]); (first | exact rfl | exact ⟨rfl, rfl⟩ | (refine ⟨?_, rfl⟩; try (first | omega | exact ⟨rfl, by decide⟩ | exact rfl)) | (refine Op1.callp rfl rfl (ca) rfl ?_; exact ⟨rfl, rfl⟩) | (refine Op1.callp rfl rfl (c1) rfl ?_; exact ⟨rfl, rfl⟩) | (refine Op1.callp rfl rfl (c2) rfl ?_; exact ⟨rfl, rfl⟩))))
  | (refine VCg.gstep T rfl rfl rfl rfl ?_; try simp only [GB])
  | (refine VCg.gundef T rfl rfl rfl rfl ?_; try simp only [updO])
  | (refine vs T rfl fun K hK => ?_; (try simp (disch := omega) only [go_sem, Nat.reduceBEq, Nat.reduceAdd, Nat.reduceMul, Nat.reduceSub, Nat.reduceLeDiff, Int.reduceToNat, e1, e2, e3, hw, f2, hq, hr, iRs_len]); (first | (refine hK _ _ ?_; clear hK K) | (intro bq hbq; (try simp only [HB] at hbq); refine hK _ _ ?_; clear hK K) | (refine ⟨?_, hK _ _ ?_⟩ <;> clear hK K; focus (try (first | omega | exact ⟨rfl, by decide⟩ | exact rfl))) | (refine ⟨_, ?_, hK _ _ ?_⟩ <;> clear hK K) | (refine Op1.callp rfl rfl (ca) rfl ?_; refine hK _ _ ?_; clear hK K) | (refine Op1.callp rfl rfl (c1) rfl ?_; refine hK _ _ ?_; clear hK K) | (refine Op1.callp rfl rfl (c2) rfl ?_; refine hK _ _ ?_; clear hK K) | skip))
  | (refine st rfl ?_)
  | (refine sc rfl ?_)
  | (refine nl ?_)
  | (refine gs rfl rfl ?_)
  | (refine gu rfl rfl ?_)
  | (refine ov ?_)
  | (exact ret1 T (List.nil_sublist _) rfl)
  | (exact ret1 T (List.nil_sublist _) ⟨rfl, rfl⟩)
  | (refine ret1 T (List.nil_sublist _) ?_; (try simp only [upd, Nat.reduceBEq, cond_true, cond_false, and_true, e1, e2, e3, hw, f2, hq, hr, iRs_len]))
  | (with_reducible refine gt ?_ ?_; focus (simp (disch := omega) only [go_sem, Nat.reduceBEq, Nat.reduceAdd, Nat.reduceMul, Nat.reduceSub, Nat.reduceLeDiff, Int.reduceToNat, e1, e2, e3, hw, f2, hq, hr, iRs_len]; done))
  | (with_reducible refine gf ?_ ?_; focus (simp (disch := omega) only [go_sem, Nat.reduceBEq, Nat.reduceAdd, Nat.reduceMul, Nat.reduceSub, Nat.reduceLeDiff, Int.reduceToNat, e1, e2, e3, hw, f2, hq, hr, iRs_len]; done))
  | (with_reducible refine gsplit_intro (fun hc => ?_) (fun hc => ?_))
 all_goals first | omega | (simp only [ByteArray.size_append]; omega) | (rw [ByteArray.size_append]; omega)
def e11 : Cf := ⟨[1, 0], [[], []], [1, 0], [[], []]⟩
end Go.Proofs.YtomcmfbpmkklmaaGreat
