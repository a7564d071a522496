/- The walk of MachineRuns. No condition. -/
import Derived.Test.YtomcmfbpmkklmaaGreatRj
import Derived.Test.YtomcmfbpmkklmaaGreatZq
import Derived.Test.YtomcmfbpmkklmaaGreatZf
import Derived.Test.YtomcmfbpmkklmaaGreatZi
import Derived.Test.YtomcmfbpmkklmaaGreatZm
namespace Go.Proofs.YtomcmfbpmkklmaaGreat
set_option maxHeartbeats 16000000
set_option linter.unusedSimpArgs false
set_option linter.unusedVariables false
set_option maxRecDepth 20000
open Go Go.Proofs Go.Vc
theorem start_right {u : Un} (hu : OkU u) (hU : unitB u = true) {m r : Int} (hm : 1 ≤ m ∧ m ≤ 3) (hr : 1 ≤ r ∧ r ≤ 4) : Rt u (startC u) m r := by
 have hU' := hU
 simp only [unitB, headB, Bool.and_eq_true, decide_eq_true_eq, List.all_eq_true] at hU'
 obtain ⟨⟨⟨⟨⟨⟨⟨a1, a2⟩, a3⟩, a4⟩, a5⟩, a6⟩, a7⟩, a8⟩ := hU'
 have hnil : rightR m r u.md u.init.length [] = true := rightR_iff.2 ⟨by simp only [gateR, Bool.and_eq_true, decide_eq_true_eq]; omega, { el := fun e he => (by cases he), p3 := fun _ => ⟨trivial, fun l => (by show ((0 : Nat) : Int) ≤ r; omega)⟩, p2 := fun _ => (by show ((0 : Nat) : Int) ≤ r; omega), p1 := fun _ => rfl }⟩
 refine rt_of hu (rightC_iff.2 ⟨hU, ⟨by simp [startC], by simp [startC], by simp [startC], rfl⟩, a3, fun t ht => ?_, hnil⟩)
 obtain ⟨n, hn⟩ : ∃ n, u.regs[t]? = some n := ⟨_, List.getElem?_eq_getElem ht⟩
 have hn0 := unitB_regs hU hn
 have h8 := a8 t (List.mem_range.2 ht)
 simp only [rowB, Bool.and_eq_true, decide_eq_true_eq] at h8
 refine thrB_iff.2 ⟨?_, ⟨?_, ?_⟩, ?_⟩
 ·have : (startC u).pc.getD t 0 = 0 := by simp [startC, List.getD_eq_getElem?_getD, ht]
  rw [this]
  omega
 ·simp [startC, List.getD_eq_getElem?_getD, hn]
  omega
 ·have : (startC u).regs.getD t [] = List.replicate n.toNat 0 := by simp [startC, List.getD_eq_getElem?_getD, hn]
  rw [this, allB, List.all_eq_true]
  intro x hx
  rw [List.eq_of_mem_replicate hx]
  exact inB_spec.2 ⟨by omega, by omega⟩
 ·have : (startC u).bufs.getD t [] = [] := by simp [startC, List.getD_eq_getElem?_getD, ht]
  rw [this]
  exact hnil
theorem Rt.actM {u : Un} {c : Cf} {m r : Int} (h : Rt u c m r) (a : Int) : Rt u (actM u c m r a) m r := by
 unfold Go.Proofs.YtomcmfbpmkklmaaGreat.actM
 split
 ·rename_i ag _
  cases ag with
  | th t => exact h.act (t : Nat)
  | fl t l => exact h.flush (t : Nat) l
 ·exact h
theorem actM_no {u : Un} {c : Cf} {m r a : Int} (h : enM u c m r a = false) : actM u c m r a = c := by
 unfold enM at h
 unfold actM
 split
 ·rename_i ag ho
  rw [ho] at h
  cases ag with
  | th t => exact actT_no h
  | fl t l =>
   have h : flushB c m (t : Nat) l = false := h
   show flushC c m (t : Nat) l = c
   unfold flushC
   rw [h]
 ·rfl
def agF (u : Un) (m : Int) (i : Nat) : Ag := if i < u.regs.length then .th i else if m = 2 then .fl (i - u.regs.length) (-1) else .fl ((i - u.regs.length) / u.init.length) (((i - u.regs.length) % u.init.length : Nat) : Int)
theorem ag_at {u : Un} {m : Int} {i : Nat} (h : i < (agsF u m).length) : (agsF u m)[i]? = some (agF u m i) ∧ (u.regs.length ≤ i → m = 2 ∨ (m = 3 ∧ i - u.regs.length < u.regs.length * u.init.length)) ∧ unitB u = true := by
 have hUm : unitB u = true ∧ 1 ≤ m ∧ m ≤ 3 := by
  by_cases h' : unitB u = true ∧ 1 ≤ m ∧ m ≤ 3
  ·exact h'
  ·rw [agsF_no h'] at h; simp at h
 obtain ⟨hU, hm1, hm3⟩ := hUm
 unfold agF
 rcases Nat.lt_or_ge i u.regs.length with h3 | h3
 ·refine ⟨?_, fun h => by omega, hU⟩
  rw [if_pos h3, agsF, if_pos ⟨hU, hm1, hm3⟩]
  exact ths_at h3 _
 rw [if_neg (by omega)]
 rcases (show m = 1 ∨ m = 2 ∨ m = 3 by omega) with rfl | rfl | rfl
 ·rw [count_1 hU] at h; omega
 ·refine ⟨?_, fun _ => .inl rfl, hU⟩
  rw [count_2 hU] at h
  rw [if_pos rfl, agsF_2 hU, ths_past h3, List.getElem?_map, List.getElem?_range (by omega)]
  rfl
 ·rw [count_3 hU] at h
  have hc : i - u.regs.length < u.regs.length * u.init.length := by omega
  have hL : 0 < u.init.length := by
   rcases Nat.eq_zero_or_pos u.init.length with h | h
   ·rw [h, Nat.mul_zero] at hc; omega
   ·exact h
  refine ⟨?_, fun _ => .inr ⟨rfl, hc⟩, hU⟩
  rw [if_neg (by decide), agsF_3 hU, ths_past h3]
  exact grid_at (fun t l => Ag.fl t (l : Int)) hL _ _ hc
attribute [local irreducible] retQ VCg VCw VCx
theorem rAct_yes (u : Un) (c : Cf) (hc : OkC c) (m r : Int) {i : Nat} {x : Ins} {row : List Int} {b : List En} {p : Nat} (h : At10 u c i x row b p) (hE : enT u c m r (i : Nat) = true) :
  Pure Tryz.prog 102 [.agg (unC u), .agg (cfC c), iD m, iD r, iD (i : Nat)] (.tup [.agg (cfC (afterX u (setP c i ((p + 1 : Nat) : Int)) m i x row b)), bD true]) := by
 by_cases h20 : x.op = 20
 ·exact rAct_20 u c hc m r h hE h20
 by_cases h21 : x.op = 21
 ·by_cases h0 : valX u row x.e = 0
  ·exact rAct_21y u c hc m r h hE h21 h0
  ·exact rAct_21n u c hc m r h hE h21 h0
 by_cases h2 : x.op = 2
 ·exact rAct_2 u c hc m r h hE h2
 by_cases h3 : x.op = 3
 ·exact rAct_3 u c hc m r h hE h3
 by_cases h4 : x.op = 4
 ·by_cases hm : m = 1
  ·exact rAct_4s u c hc m r h hE h4 hm
  ·exact rAct_4b u c hc m r h hE h4 hm
 by_cases h5 : x.op = 5
 ·by_cases h0 : memX c x = valX u row x.e
  ·exact rAct_5y u c hc m r h hE h5 h0
  ·exact rAct_5n u c hc m r h hE h5 h0
 by_cases h6 : x.op = 6
 ·exact rAct_6 u c hc m r h hE h6
 by_cases h7 : x.op = 7
 ·exact rAct_7 u c hc m r h hE h7
 exact rAct_no u c hc m r h hE h20 h21 h2 h3 h4 h5 h6 h7
theorem rAct_stay (u : Un) (c : Cf) (hc : OkC c) (m r t : Int) (hE : Pure Tryz.prog 125 [.agg (unC u), .agg (cfC c), iD m, iD r, iD t] (bD false)) :
  Pure Tryz.prog 102 [.agg (unC u), .agg (cfC c), iD m, iD r, iD t] (.tup [.agg (cfC c), bD false]) := by
 have cc := rcopyF_ok c hc
 refine Fun.of T [.cell 10 43, .tmp 11] Tryz.func102 rfl Tryz.ntmps102 Tryz.results102 rfl (by kernel_rfl) ?_
 repeat' first | refine vb (t := 25) rfl rfl rfl rfl ?_ | refine vs T rfl fun K hK => ?_; (try simp (disch := omega) only [go_sem, Nat.reduceBEq, Nat.reduceAdd, Nat.reduceLeDiff, Bool.not_false]); (first | refine hK _ _ ?_; clear hK K | intro bq hbq; (try simp only [HB] at hbq); refine hK _ _ ?_; clear hK K | refine Op1.callp rfl rfl (cc) rfl ?_; refine hK _ _ ?_; clear hK K | refine Op1.callp rfl rfl (hE) rfl ?_; refine hK _ _ ?_; clear hK K) | refine st rfl ?_ | refine sc rfl ?_ | refine nl ?_ | exact retc1 T rfl (by (simp (disch := omega) only [hget_ne, hget_eq]) <;> rfl) rfl rfl rfl (List.nil_sublist _) ⟨rfl, rfl⟩
theorem rAct_ok {u : Un} {c : Cf} {m r : Int} (h : Rt u c m r) (t : Int) : Pure Tryz.prog 102 [.agg (unC u), .agg (cfC c), iD m, iD r, iD t] (.tup [.agg (cfC (actT u c m r t)), bD (enT u c m r t)]) := by
 by_cases ht : t < 0 ∨ t ≥ c.pc.length
 ·have hn := enT_no (u := u) (m := m) (r := r) ht
  rw [actT_no hn, hn]
  refine rAct_stay u c h.okC m r t ?_
  have := rEnabled_no u c m r t ht
  rwa [hn] at this
 obtain ⟨i, rfl⟩ : ∃ i : Nat, t = (i : Int) := ⟨t.toNat, by omega⟩
 obtain ⟨x, row, b, p, ha⟩ := h.at (i := i) (by omega)
 rw [actT_at ha]
 cases hE : enT u c m r (i : Nat) with
 | true => exact rAct_yes u c h.okC m r ha hE
 | false =>
  refine rAct_stay u c h.okC m r _ ?_
  have := rEnabled_at u c h.okC m r ha.thr
  rwa [hE] at this
theorem rEn_ok {u : Un} {c : Cf} {m r : Int} (h : Rt u c m r) (t : Int) : Pure Tryz.prog 125 [.agg (unC u), .agg (cfC c), iD m, iD r, iD t] (bD (enT u c m r t)) := by
 by_cases ht : t < 0 ∨ t ≥ c.pc.length
 ·exact rEnabled_no u c m r t ht
 obtain ⟨i, rfl⟩ : ∃ i : Nat, t = (i : Int) := ⟨t.toNat, by omega⟩
 obtain ⟨x, row, b, p, ha⟩ := h.at (i := i) (by omega)
 exact rEnabled_at u c h.okC m r ha.thr
section
variable {u : Un} {c : Cf} {m r : Int}
theorem oneF_at {k : Nat} (h : k < (agsF u m).length) : oneF u m (k : Nat) = some (agF u m k) := by
 have := (ag_at h).1
 simp [oneF, this]
theorem oneF_no {a : Int} (h : a < 0 ∨ a ≥ ((agsF u m).length : Int)) : oneF u m a = none := by
 unfold oneF
 split
 ·rename_i h0
  have := of_decide_eq_true h0
  exact List.getElem?_eq_none (by omega)
 ·rfl
theorem agF_th {k : Nat} (h : k < u.regs.length) : agF u m k = .th k := if_pos h
theorem agF_2 {k : Nat} (h : u.regs.length ≤ k) (h2 : m = 2) : agF u m k = .fl (k - u.regs.length) (-1) := by unfold agF; rw [if_neg (by omega), if_pos h2]
theorem agF_3 {k : Nat} (h : u.regs.length ≤ k) (h2 : ¬ m = 2) : agF u m k = .fl ((k - u.regs.length) / u.init.length) (((k - u.regs.length) % u.init.length : Nat) : Int) := by unfold agF; rw [if_neg (by omega), if_neg h2]
structure FlN (u : Un) (i : Nat) : Prop where
 sub : IntKind.i64.wrap ((i : Int) - (u.regs.length : Int)) = ((i - u.regs.length : Nat) : Int)
 quo : IntKind.i64.wrap (((i - u.regs.length : Nat) : Int).tdiv (u.init.length : Int)) = (((i - u.regs.length) / u.init.length : Nat) : Int)
 rem : (((i - u.regs.length : Nat) : Int).tmod (u.init.length : Int)) = (((i - u.regs.length) % u.init.length : Nat) : Int)
 nz : (u.init.length : Int) ≠ 0
theorem flN {i : Nat} (h : i < (agsF u m).length) (h3 : u.regs.length ≤ i) (m2 : ¬ m = 2) : FlN u i := by
 obtain ⟨_, h2, hU⟩ := ag_at h
 obtain ⟨_, hc⟩ := (h2 h3).resolve_left m2
 have hl := agsF_len u m
 have hL : 0 < u.init.length := by
  rcases Nat.eq_zero_or_pos u.init.length with h | h
  ·rw [h, Nat.mul_zero] at hc; omega
  ·exact h
 refine ⟨by rw [w64 (by omega)]; omega, ?_, ?_, by omega⟩
 ·rw [quo64 (n := ((i - u.regs.length : Nat) : Int)) (k := (u.init.length : Int)) (by omega) (by omega) (by omega)]
  exact (Int.natCast_ediv _ _).symm
 ·rw [rem_pos (n := ((i - u.regs.length : Nat) : Int)) (k := (u.init.length : Int)) (by omega)]
  exact (Int.natCast_emod _ _).symm
theorem renM_ok (h : Rt u c m r) (a : Int) : Pure Tryz.prog 89 [.agg (unC u), .agg (cfC c), iD m, iD r, iD a] (bD (enM u c m r a)) := by
 have ca := ragents_ok u h.okU m
 have hl := agsF_len u m
 refine Fun.of T [.tmp 10] Tryz.func89 rfl Tryz.ntmps89 Tryz.results89 rfl (by kernel_rfl) ?_
 by_cases h1 : a < 0
 ·have e1 : decide (a < 0) = true := by simpa using h1
  rw [show enM u c m r a = false by simp [enM, oneF_no (.inl h1)]]
  repeat' first | refine vb rfl rfl rfl rfl ?_ | refine vs T rfl fun K hK => ?_; (try simp (disch := omega) only [go_sem, Nat.reduceBEq, Nat.reduceAdd, e1, iRs_len]); (refine hK _ _ ?_; clear hK K) | refine st rfl ?_ | refine sc rfl ?_ | refine nl ?_ | refine gs rfl rfl ?_ | exact ret1 T (List.nil_sublist _) ⟨rfl, rfl⟩
 have e1 : decide (a < 0) = false := by simpa using h1
 by_cases h2 : a ≥ ((agsF u m).length : Int)
 ·have e2 : decide (a ≥ ((agsF u m).length : Int)) = true := by simpa using h2
  rw [show enM u c m r a = false by simp [enM, oneF_no (.inr h2)]]
  repeat' first | refine vb rfl rfl rfl rfl ?_ | refine vs T rfl fun K hK => ?_; (try simp (disch := omega) only [go_sem, Nat.reduceBEq, Nat.reduceAdd, Nat.reduceLeDiff, e1, e2, iRs_len]); (first | refine hK _ _ ?_; clear hK K | refine Op1.callp rfl rfl (ca) rfl ?_; refine hK _ _ ?_; clear hK K) | refine st rfl ?_ | refine sc rfl ?_ | refine nl ?_ | refine gs rfl rfl ?_ | exact ret1 T (List.nil_sublist _) ⟨rfl, rfl⟩
 have e2 : decide (a ≥ ((agsF u m).length : Int)) = false := by simpa using h2
 obtain ⟨i, rfl⟩ : ∃ i : Nat, a = (i : Int) := ⟨a.toNat, by omega⟩
 have hi : i < (agsF u m).length := by omega
 rw [show enM u c m r (i : Nat) = canA u c m r (agF u m i) by simp [enM, oneF_at hi]]
 by_cases h3 : i < u.regs.length
 ·have e3 : decide ((i : Int) < (u.regs.length : Int)) = true := decide_eq_true (by omega)
  have c1 := rEn_ok h (i : Nat)
  rw [agF_th h3]
  repeat' first | refine vb rfl rfl rfl rfl ?_ | refine vs T rfl fun K hK => ?_; (try simp (disch := omega) only [go_sem, Nat.reduceBEq, Nat.reduceAdd, Nat.reduceLeDiff, e1, e2, e3, iRs_len]); (first | refine hK _ _ ?_; clear hK K | refine Op1.callp rfl rfl (ca) rfl ?_; refine hK _ _ ?_; clear hK K | refine Op1.callp rfl rfl (c1) rfl ?_; refine hK _ _ ?_; clear hK K) | refine st rfl ?_ | refine sc rfl ?_ | refine nl ?_ | refine gs rfl rfl ?_ | exact ret1 T (List.nil_sublist _) ⟨rfl, rfl⟩
  all_goals rfl
 have e3 : decide ((i : Int) < (u.regs.length : Int)) = false := decide_eq_false (by omega)
 by_cases m2 : m = 2
 ·have f2 : (m == 2) = true := by simpa using m2
  have hw : IntKind.i64.wrap ((i : Int) - (u.regs.length : Int)) = ((i - u.regs.length : Nat) : Int) := by rw [w64 (by omega)]; omega
  have c1 := rflushes_ok c h.okC.buf m ((i - u.regs.length : Nat) : Int) (-1)
  rw [agF_2 (by omega) m2]
  repeat' first | refine vb rfl rfl rfl rfl ?_ | refine vs T rfl fun K hK => ?_; (try simp (disch := omega) only [go_sem, Nat.reduceBEq, Nat.reduceAdd, Nat.reduceLeDiff, e1, e2, e3, hw, f2, iRs_len]); (first | refine hK _ _ ?_; clear hK K | refine Op1.callp rfl rfl (ca) rfl ?_; refine hK _ _ ?_; clear hK K | refine Op1.callp rfl rfl (c1) rfl ?_; refine hK _ _ ?_; clear hK K) | refine st rfl ?_ | refine sc rfl ?_ | refine nl ?_ | refine gs rfl rfl ?_ | exact ret1 T (List.nil_sublist _) ⟨rfl, rfl⟩
  all_goals rfl
 have f2 : (m == 2) = false := by simpa using m2
 obtain ⟨hw, hq, hr, hnz⟩ := flN hi (by omega) m2
 have c1 := rflushes_ok c h.okC.buf m (((i - u.regs.length) / u.init.length : Nat) : Int) (((i - u.regs.length) % u.init.length : Nat) : Int)
 rw [agF_3 (by omega) m2]
 repeat' first | refine vb rfl rfl rfl rfl ?_ | refine dr (id := 8) T 16 (by kernel_rfl) ?_ | refine gn ?_ | (apply VCg.step T rfl rfl); focus ((try simp (disch := omega) only [go_sem, Nat.reduceBEq, Nat.reduceAdd, Nat.reduceLeDiff, hw, hq, hr, iRs_len]); (first | exact rfl | refine ⟨?_, rfl⟩; try omega)) | refine vs T rfl fun K hK => ?_; (try simp (disch := omega) only [go_sem, Nat.reduceBEq, Nat.reduceAdd, Nat.reduceLeDiff, e1, e2, e3, f2, iRs_len]); (first | refine hK _ _ ?_; clear hK K | refine Op1.callp rfl rfl (ca) rfl ?_; refine hK _ _ ?_; clear hK K | refine Op1.callp rfl rfl (c1) rfl ?_; refine hK _ _ ?_; clear hK K) | refine st rfl ?_ | refine sc rfl ?_ | refine nl ?_ | refine gs rfl rfl ?_ | exact ret1 T (List.nil_sublist _) ⟨rfl, rfl⟩
 all_goals rfl
theorem ractM_ok (h : Rt u c m r) (a : Int) : Pure Tryz.prog 53 [.agg (unC u), .agg (cfC c), iD m, iD r, iD a] (.tup [.agg (cfC (actM u c m r a)), bD (enM u c m r a)]) := by
 have ce := renM_ok h a
 have hl := agsF_len u m
 refine Fun.of T [.cell 10 43, .tmp 11] Tryz.func53 rfl Tryz.ntmps53 Tryz.results53 rfl (by kernel_rfl) ?_
 cases hE : enM u c m r a with
 | false =>
  rw [hE] at ce
  have cc := rcopyF_ok c h.okC
  rw [actM_no hE]
  repeat' first | refine vb rfl rfl rfl rfl ?_ | refine vs T rfl fun K hK => ?_; (try simp (disch := omega) only [go_sem, Nat.reduceBEq, Nat.reduceAdd, Nat.reduceLeDiff, iRs_len, Bool.not_false]); (first | refine hK _ _ ?_; clear hK K | intro bq hbq; (try simp only [HB] at hbq); refine hK _ _ ?_; clear hK K | refine Op1.callp rfl rfl (ce) rfl ?_; refine hK _ _ ?_; clear hK K | refine Op1.callp rfl rfl (cc) rfl ?_; refine hK _ _ ?_; clear hK K) | refine st rfl ?_ | refine sc rfl ?_ | refine nl ?_ | exact retc1 T rfl (by (simp (disch := omega) only [hget_eq]) <;> rfl) rfl rfl rfl (List.nil_sublist _) ⟨rfl, rfl⟩
 | true =>
 rw [hE] at ce
 have h12 : ¬ (a < 0 ∨ a ≥ ((agsF u m).length : Int)) := fun h' => by simp [enM, oneF_no h'] at hE
 obtain ⟨i, rfl⟩ : ∃ i : Nat, a = (i : Int) := ⟨a.toNat, by omega⟩
 have hi : i < (agsF u m).length := by omega
 have hC : canA u c m r (agF u m i) = true := by simpa [enM, oneF_at hi] using hE
 rw [show actM u c m r (i : Nat) = actA u c m r (agF u m i) by simp [actM, oneF_at hi]]
 by_cases h3 : i < u.regs.length
 ·have e3 : decide ((i : Int) < (u.regs.length : Int)) = true := decide_eq_true (by omega)
  have c1 := rAct_ok h (i : Nat)
  rw [agF_th h3] at hC ⊢
  have hC : enT u c m r (i : Nat) = true := hC
  rw [hC] at c1
  repeat' first | refine vb rfl rfl rfl rfl ?_ | refine vs T rfl fun K hK => ?_; (try simp (disch := omega) only [go_sem, Nat.reduceBEq, Nat.reduceAdd, Nat.reduceLeDiff, e3, iRs_len, Bool.not_true]); (first | refine hK _ _ ?_; clear hK K | intro bq hbq; (try simp only [HB] at hbq); refine hK _ _ ?_; clear hK K | refine Op1.callp rfl rfl (ce) rfl ?_; refine hK _ _ ?_; clear hK K | refine Op1.callp rfl rfl (c1) rfl ?_; refine hK _ _ ?_; clear hK K) | refine st rfl ?_ | refine sc rfl ?_ | refine nl ?_ | exact retc1 T rfl (by (simp (disch := omega) only [hget_eq]) <;> rfl) rfl rfl rfl (List.nil_sublist _) ⟨rfl, rfl⟩
  all_goals rfl
 have e3 : decide ((i : Int) < (u.regs.length : Int)) = false := decide_eq_false (by omega)
 by_cases m2 : m = 2
 ·have f2 : (m == 2) = true := by simpa using m2
  have hw : IntKind.i64.wrap ((i : Int) - (u.regs.length : Int)) = ((i - u.regs.length : Nat) : Int) := by rw [w64 (by omega)]; omega
  have c1 := rflush_ok c h.okC h.locs m ((i - u.regs.length : Nat) : Int) (-1)
  rw [agF_2 (by omega) m2] at hC ⊢
  have hC : flushB c m ((i - u.regs.length : Nat) : Int) (-1) = true := hC
  rw [hC] at c1
  repeat' first | refine vb rfl rfl rfl rfl ?_ | refine vs T rfl fun K hK => ?_; (try simp (disch := omega) only [go_sem, Nat.reduceBEq, Nat.reduceAdd, Nat.reduceLeDiff, e3, hw, f2, iRs_len, Bool.not_true]); (first | refine hK _ _ ?_; clear hK K | intro bq hbq; (try simp only [HB] at hbq); refine hK _ _ ?_; clear hK K | refine Op1.callp rfl rfl (ce) rfl ?_; refine hK _ _ ?_; clear hK K | refine Op1.callp rfl rfl (c1) rfl ?_; refine hK _ _ ?_; clear hK K) | refine st rfl ?_ | refine sc rfl ?_ | refine nl ?_ | exact retc1 T rfl (by (simp (disch := omega) only [hget_eq]) <;> rfl) rfl rfl rfl (List.nil_sublist _) ⟨rfl, rfl⟩
  all_goals rfl
 have f2 : (m == 2) = false := by simpa using m2
 obtain ⟨hw, hq, hr, hnz⟩ := flN hi (by omega) m2
 have c1 := rflush_ok c h.okC h.locs m (((i - u.regs.length) / u.init.length : Nat) : Int) (((i - u.regs.length) % u.init.length : Nat) : Int)
 rw [agF_3 (by omega) m2] at hC ⊢
 have hC : flushB c m (((i - u.regs.length) / u.init.length : Nat) : Int) (((i - u.regs.length) % u.init.length : Nat) : Int) = true := hC
 rw [hC] at c1
 repeat' first | refine vb rfl rfl rfl rfl ?_ | refine dr (id := 8) T 19 (by kernel_rfl) ?_ | refine gn ?_ | apply VCg.step T rfl rfl; focus ((try simp (disch := omega) only [go_sem, Nat.reduceBEq, Nat.reduceAdd, Nat.reduceLeDiff, hw, hq, hr, iRs_len]); (first | exact rfl | refine ⟨?_, rfl⟩; try omega | refine Op1.callp rfl rfl (c1) rfl ?_; exact ⟨rfl, rfl⟩)) | refine vs T rfl fun K hK => ?_; (try simp (disch := omega) only [go_sem, Nat.reduceBEq, Nat.reduceAdd, Nat.reduceLeDiff, e3, f2, iRs_len, Bool.not_true]); (first | refine hK _ _ ?_; clear hK K | intro bq hbq; (try simp only [HB] at hbq); refine hK _ _ ?_; clear hK K | refine Op1.callp rfl rfl (ce) rfl ?_; refine hK _ _ ?_; clear hK K) | refine st rfl ?_ | refine sc rfl ?_ | refine nl ?_ | exact retc1 T rfl (by (simp (disch := omega) only [hget_eq]) <;> rfl) rfl rfl rfl (List.nil_sublist _) ⟨rfl, rfl⟩
 all_goals rfl
end
end Go.Proofs.YtomcmfbpmkklmaaGreat
