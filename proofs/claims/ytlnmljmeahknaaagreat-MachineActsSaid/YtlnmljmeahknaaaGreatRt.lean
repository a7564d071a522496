/- The walk of MachineNames. No condition. -/
import Derived.Test.YtlnmljmeahknaaaGreatRj
import Derived.Test.YtlnmljmeahknaaaGreatZq
import Derived.Test.YtlnmljmeahknaaaGreatZc
import Derived.Test.YtlnmljmeahknaaaGreatZg
import Derived.Test.YtlnmljmeahknaaaGreatZh
import Derived.Test.YtlnmljmeahknaaaGreatZi
import Derived.Test.YtlnmljmeahknaaaGreatZj
import Derived.Test.YtlnmljmeahknaaaGreatZk
import Derived.Test.YtlnmljmeahknaaaGreatZm
namespace Go.Proofs.YtlnmljmeahknaaaGreat
set_option linter.unusedSimpArgs false
set_option linter.unusedVariables false
set_option maxRecDepth 20000
open Go Go.Proofs Go.Vc

/-- What acts at a place. -/
def agF (u : Un) (m : Int) (i : Nat) : Ag := if i < u.regs.length then .th i else if m = 2 then .fl (i - u.regs.length) (-1) else .fl ((i - u.regs.length) / u.init.length) (((i - u.regs.length) % u.init.length : Nat) : Int)
theorem ag_at {u : Un} {m : Int} {i : Nat} (h : i < (agsF u m).length) : (agsF u m)[i]? = some (agF u m i) ∧ (u.regs.length ≤ i → m = 2 ∨ (m = 3 ∧ i - u.regs.length < u.regs.length * u.init.length)) ∧ unitB u = true := by
  have hUm : unitB u = true ∧ 1 ≤ m ∧ m ≤ 3 := by
    by_cases h' : unitB u = true ∧ 1 ≤ m ∧ m ≤ 3
    · exact h'
    · rw [agsF_no h'] at h; simp at h
  obtain ⟨hU, hm1, hm3⟩ := hUm
  unfold agF
  rcases Nat.lt_or_ge i u.regs.length with h3 | h3
  · refine ⟨?_, fun h => by omega, hU⟩
    rw [if_pos h3, agsF, if_pos ⟨hU, hm1, hm3⟩]
    exact ths_at h3 _
  rw [if_neg (by omega)]
  rcases (show m = 1 ∨ m = 2 ∨ m = 3 by omega) with rfl | rfl | rfl
  · rw [count_1 hU] at h; omega
  · refine ⟨?_, fun _ => .inl rfl, hU⟩
    rw [count_2 hU] at h
    rw [if_pos rfl, agsF_2 hU, ths_past h3, List.getElem?_map, List.getElem?_range (by omega)]
    rfl
  · rw [count_3 hU] at h
    have hc : i - u.regs.length < u.regs.length * u.init.length := by omega
    have hL : 0 < u.init.length := by
      rcases Nat.eq_zero_or_pos u.init.length with h | h
      · rw [h, Nat.mul_zero] at hc; omega
      · exact h
    refine ⟨?_, fun _ => .inr ⟨rfl, hc⟩, hU⟩
    rw [if_neg (by decide), agsF_3 hU, ths_past h3]
    exact grid_at (fun t l => Ag.fl t (l : Int)) hL _ _ hc
end Go.Proofs.YtlnmljmeahknaaaGreat
/- The walk of MachineRuns. No condition. -/
namespace Go.Proofs.YtlnmljmeahknaaaGreat
set_option linter.unusedSimpArgs false
set_option linter.unusedVariables false
set_option maxRecDepth 20000
open Go Go.Proofs Go.Vc

theorem Rt.actM {u : Un} {c : Cf} {m r : Int} (h : Rt u c m r) (a : Int) : Rt u (actM u c m r a) m r := by
  unfold Go.Proofs.YtlnmljmeahknaaaGreat.actM
  split
  · rename_i ag _
    cases ag with
    | th t => exact h.act (t : Nat)
    | fl t l => exact h.flush (t : Nat) l
  · exact h
theorem actM_no {u : Un} {c : Cf} {m r a : Int} (h : enM u c m r a = false) : actM u c m r a = c := by
  unfold enM at h
  unfold actM
  split
  · rename_i ag ho
    rw [ho] at h
    cases ag with
    | th t => exact actT_no h
    | fl t l =>
      have h : flushB c m (t : Nat) l = false := h
      show flushC c m (t : Nat) l = c
      unfold flushC
      rw [h]
  · rfl

end Go.Proofs.YtlnmljmeahknaaaGreat
/- Units, cases and bytes as arguments. No condition. -/
namespace Go.Proofs.YtlnmljmeahknaaaGreat
set_option linter.unusedSimpArgs false
set_option linter.unusedVariables false
open Go Go.Proofs Go.Vc Go.ChangeShapes Go.WideShapes Go.ChangeAt Go.RowKit Go.Joins

abbrev case11T : List Ty := [.int .i64, .sl [.int .i64], .sl [.int .i64], .sl [.sl insT], .sl [.int .i64], .sl [.sl [.int .i64]], .sl [.int .i64], .sl [.sl [.int .i64, .int .i64]], .int .i64, .int .i64, .int .i64]
theorem case11_all (Ds : List D) (h : ShA [.many case11T] Ds) : ∃ u c m r a, Ds = [.agg (cbC u c m r a)] := by
  obtain ⟨_, _, rfl, h, h2⟩ := h
  rw [ShA] at h2; subst h2
  obtain ⟨_, _, rfl, ⟨md, rfl, _⟩, _, _, rfl, h1, _, _, rfl, h2, _, _, rfl, ⟨cr, rfl, _, h3⟩, _, _, rfl, h4, _, _, rfl, ⟨rr, rfl, _, h5⟩, _, _, rfl, h6, _, _, rfl, ⟨br, rfl, _, h7⟩, _, _, rfl, ⟨m, rfl, _⟩, _, _, rfl, ⟨r, rfl, _⟩, _, _, rfl, ⟨t, rfl, _⟩, h⟩ := h
  rw [ShL] at h; subst h
  obtain ⟨i0, rfl⟩ := sh_ints h1
  obtain ⟨rg, rfl⟩ := sh_ints h2
  obtain ⟨pc, rfl⟩ := sh_ints h4
  obtain ⟨me, rfl⟩ := sh_ints h6
  obtain ⟨cd, rfl⟩ := rows_all (fun l : List Ins => [.sl false 7 (insRs l)]) _ (fun r h => sh_row h) cr h3
  obtain ⟨rs, rfl⟩ := rows_all (fun l : List Int => [ints l]) _ (fun r h => by
    obtain ⟨_, _, rfl, h1, h⟩ := h
    rw [ShL] at h; subst h
    obtain ⟨l, rfl⟩ := sh_ints h1
    exact ⟨l, rfl⟩) rr h5
  obtain ⟨bs, rfl⟩ := rows_all (fun l : List En => [buf l]) _ (fun r h => by
    obtain ⟨_, _, rfl, h1, h⟩ := h
    rw [ShL] at h; subst h
    obtain ⟨l, rfl⟩ := sh_buf h1
    exact ⟨l, rfl⟩) br h7
  exact ⟨⟨md, i0, rg, cd⟩, ⟨pc, rs, me, bs⟩, m, r, t, rfl⟩
end Go.Proofs.YtlnmljmeahknaaaGreat
/- Where a thread leads, of any kind; a thread that is none. No condition. -/
namespace Go.Proofs.YtlnmljmeahknaaaGreat
set_option linter.unusedSimpArgs false
set_option linter.unusedVariables false
set_option maxRecDepth 20000
open Go Go.Proofs Go.Vc

theorem rAct_yes (u : Un) (c : Cf) (hc : OkC c) (m r : Int) {i : Nat} {x : Ins} {row : List Int} {b : List En} {p : Nat} (h : At10 u c i x row b p) (hE : enT u c m r (i : Nat) = true) :
    Pure Tryz.prog 27 [.agg (unC u), .agg (cfC c), iD m, iD r, iD (i : Nat)] (.tup [.agg (cfC (afterX u (setP c i ((p + 1 : Nat) : Int)) m i x row b)), bD true]) := by
  by_cases h20 : x.op = 20
  · exact rAct_20 u c hc m r h hE h20
  by_cases h21 : x.op = 21
  · by_cases h0 : valX u row x.e = 0
    · exact rAct_21y u c hc m r h hE h21 h0
    · exact rAct_21n u c hc m r h hE h21 h0
  by_cases h2 : x.op = 2
  · exact rAct_2 u c hc m r h hE h2
  by_cases h3 : x.op = 3
  · exact rAct_3 u c hc m r h hE h3
  by_cases h4 : x.op = 4
  · by_cases hm : m = 1
    · exact rAct_4s u c hc m r h hE h4 hm
    · exact rAct_4b u c hc m r h hE h4 hm
  by_cases h5 : x.op = 5
  · by_cases h0 : memX c x = valX u row x.e
    · exact rAct_5y u c hc m r h hE h5 h0
    · exact rAct_5n u c hc m r h hE h5 h0
  by_cases h6 : x.op = 6
  · exact rAct_6 u c hc m r h hE h6
  by_cases h7 : x.op = 7
  · exact rAct_7 u c hc m r h hE h7
  exact rAct_no u c hc m r h hE h20 h21 h2 h3 h4 h5 h6 h7

set_option maxHeartbeats 4000000 in
theorem rAct_stay (u : Un) (c : Cf) (hc : OkC c) (m r t : Int) (hE : Pure Tryz.prog 40 [.agg (unC u), .agg (cfC c), iD m, iD r, iD t] (bD false)) :
    Pure Tryz.prog 27 [.agg (unC u), .agg (cfC c), iD m, iD r, iD t] (.tup [.agg (cfC c), bD false]) := by
  have cc := rcopyF_ok c hc
  refine Fun.of T [.cell 10 29, .tmp 11] Tryz.func27 rfl Tryz.ntmps27 Tryz.results27 rfl (by kernel_rfl) ?_
  repeat' first | refine VCo.stepO rfl rfl (fun K hK => r_boxR (t := 25) rfl rfl rfl (hK _ _ ?_)); (try simp only [updO]) | refine VCo.step T rfl rfl (fun K hK => ?_); (try simp (disch := omega) only [WB, argE, setL, Nat.reduceBEq, Nat.reduceAdd, Nat.reduceLeDiff, T3, T22, T23, T25, T26, T27, T29, T51, T65, T66, T68, T72, T78, Bool.not_false]); (first | refine hK _ _ ?_; clear hK K | intro bq hbq; (try simp only [HB] at hbq); refine hK _ _ ?_; clear hK K | refine Op1.callp rfl rfl (cc) rfl ?_; refine hK _ _ ?_; clear hK K | refine Op1.callp rfl rfl (hE) rfl ?_; refine hK _ _ ?_; clear hK K) | refine VC.region ?_ | refine VC.seq' ?_ | (first | refine VCo.nil ?_ | refine VC.ret ?_); (try simp only [QB]) | refine retc1 T rfl (by (simp (disch := omega) only [hget_ne, hget_eq]) <;> rfl) rfl rfl rfl (List.nil_sublist _) ?_; (try simp only [upd, Nat.reduceBEq, cond_true, cond_false, and_true]) | refine VC.cond rfl ?_; (try simp only [gsplit_true])
/-- The thread's Act, as the reference says. -/
theorem rAct_ok {u : Un} {c : Cf} {m r : Int} (h : Rt u c m r) (t : Int) : Pure Tryz.prog 27 [.agg (unC u), .agg (cfC c), iD m, iD r, iD t] (.tup [.agg (cfC (actT u c m r t)), bD (enT u c m r t)]) := by
  by_cases ht : t < 0 ∨ t ≥ c.pc.length
  · have hn := enT_no (u := u) (m := m) (r := r) ht
    rw [actT_no hn, hn]
    refine rAct_stay u c h.okC m r t ?_
    have := rEnabled_no u c m r t ht
    rwa [hn] at this
  obtain ⟨i, rfl⟩ : ∃ i : Nat, t = (i : Int) := ⟨t.toNat, by omega⟩
  obtain ⟨x, row, b, p, ha⟩ := h.at (i := i) (by omega)
  rw [actT_at ha]
  cases hE : enT u c m r (i : Nat) with
  | true => exact rAct_yes u c h.okC m r ha hE
  | false =>
    refine rAct_stay u c h.okC m r _ ?_
    have := rEnabled_at u c h.okC m r ha.thr
    rwa [hE] at this
/-- Whether a thread is enabled, as the reference and the program say. -/
theorem rEn_ok {u : Un} {c : Cf} {m r : Int} (h : Rt u c m r) (t : Int) : Pure Tryz.prog 40 [.agg (unC u), .agg (cfC c), iD m, iD r, iD t] (bD (enT u c m r t)) := by
  by_cases ht : t < 0 ∨ t ≥ c.pc.length
  · exact rEnabled_no u c m r t ht
  obtain ⟨i, rfl⟩ : ∃ i : Nat, t = (i : Int) := ⟨t.toNat, by omega⟩
  obtain ⟨x, row, b, p, ha⟩ := h.at (i := i) (by omega)
  exact rEnabled_at u c h.okC m r ha.thr
end Go.Proofs.YtlnmljmeahknaaaGreat
/- Contracts: what an agent can and does, as the reference says. No condition. -/
namespace Go.Proofs.YtlnmljmeahknaaaGreat
set_option linter.unusedSimpArgs false
set_option linter.unusedVariables false
set_option maxRecDepth 20000
open Go Go.Proofs Go.Vc

section
variable {u : Un} {c : Cf} {m r : Int}
theorem oneF_at {k : Nat} (h : k < (agsF u m).length) : oneF u m (k : Nat) = some (agF u m k) := by
  have := (ag_at h).1
  simp [oneF, this]
theorem oneF_no {a : Int} (h : a < 0 ∨ a ≥ ((agsF u m).length : Int)) : oneF u m a = none := by
  unfold oneF
  split
  · rename_i h0
    have := of_decide_eq_true h0
    exact List.getElem?_eq_none (by omega)
  · rfl
theorem agF_th {k : Nat} (h : k < u.regs.length) : agF u m k = .th k := if_pos h
theorem agF_2 {k : Nat} (h : u.regs.length ≤ k) (h2 : m = 2) : agF u m k = .fl (k - u.regs.length) (-1) := by unfold agF; rw [if_neg (by omega), if_pos h2]
theorem agF_3 {k : Nat} (h : u.regs.length ≤ k) (h2 : ¬ m = 2) : agF u m k = .fl ((k - u.regs.length) / u.init.length) (((k - u.regs.length) % u.init.length : Nat) : Int) := by unfold agF; rw [if_neg (by omega), if_neg h2]

/-- What is so of a flush's number. -/
structure FlN (u : Un) (i : Nat) : Prop where
  sub : IntKind.i64.wrap ((i : Int) - (u.regs.length : Int)) = ((i - u.regs.length : Nat) : Int)
  quo : IntKind.i64.wrap (((i - u.regs.length : Nat) : Int).tdiv (u.init.length : Int)) = (((i - u.regs.length) / u.init.length : Nat) : Int)
  rem : (((i - u.regs.length : Nat) : Int).tmod (u.init.length : Int)) = (((i - u.regs.length) % u.init.length : Nat) : Int)
  nz : (u.init.length : Int) ≠ 0
theorem flN {i : Nat} (h : i < (agsF u m).length) (h3 : u.regs.length ≤ i) (m2 : ¬ m = 2) : FlN u i := by
  obtain ⟨_, h2, hU⟩ := ag_at h
  obtain ⟨_, hc⟩ := (h2 h3).resolve_left m2
  have hl := agsF_len u m
  have hL : 0 < u.init.length := by
    rcases Nat.eq_zero_or_pos u.init.length with h | h
    · rw [h, Nat.mul_zero] at hc; omega
    · exact h
  refine ⟨by rw [w64 (by omega)]; omega, ?_, ?_, by omega⟩
  · rw [quo64 (n := ((i - u.regs.length : Nat) : Int)) (k := (u.init.length : Int)) (by omega) (by omega) (by omega)]
    exact (Int.natCast_ediv _ _).symm
  · rw [rem_pos (n := ((i - u.regs.length : Nat) : Int)) (k := (u.init.length : Int)) (by omega)]
    exact (Int.natCast_emod _ _).symm

set_option maxHeartbeats 8000000 in
theorem renM_ok (h : Rt u c m r) (a : Int) : Pure Tryz.prog 26 [.agg (unC u), .agg (cfC c), iD m, iD r, iD a] (bD (enM u c m r a)) := by
  have ca := ragents_ok u h.okU m
  have hl := agsF_len u m
  refine Fun.of T [.tmp 10] Tryz.func26 rfl Tryz.ntmps26 Tryz.results26 rfl (by kernel_rfl) ?_
  by_cases h1 : a < 0
  · have e1 : decide (a < 0) = true := by simpa using h1
    rw [show enM u c m r a = false by simp [enM, oneF_no (.inl h1)]]
    repeat' first | refine VCo.stepO rfl rfl (fun K hK => r_boxR rfl rfl rfl (hK _ _ ?_)); (try simp only [updO]) | (refine VCo.step T rfl rfl (fun K hK => ?_)); (try simp (disch := omega) only [WB, argE, Nat.reduceBEq, Nat.reduceAdd, T3, T22, T25, e1, iRs_len]); (refine hK _ _ ?_; clear hK K) | refine VCo.gstep rfl rfl rfl rfl rfl ?_; try simp only [GB] | refine VC.region ?_ | refine VC.seq' ?_ | (first | refine VCo.nil ?_ | refine VC.ret ?_); (try simp only [QB]) | refine ret1 T (List.nil_sublist _) ?_; (try simp only [upd, Nat.reduceBEq, cond_true, cond_false, and_true]) | refine VC.cond rfl ?_; (try simp only [gsplit_true])
  have e1 : decide (a < 0) = false := by simpa using h1
  by_cases h2 : a ≥ ((agsF u m).length : Int)
  · have e2 : decide (a ≥ ((agsF u m).length : Int)) = true := by simpa using h2
    rw [show enM u c m r a = false by simp [enM, oneF_no (.inr h2)]]
    repeat' first | refine VCo.stepO rfl rfl (fun K hK => r_boxR rfl rfl rfl (hK _ _ ?_)); (try simp only [updO]) | (first | refine VCo.step T rfl rfl (fun K hK => ?_) | refine VCr.step T rfl (fun K hK => ?_)); (try simp (disch := omega) only [WB, argE, Nat.reduceBEq, Nat.reduceAdd, Nat.reduceLeDiff, T3, T22, T25, e1, e2, iRs_len]); (first | refine hK _ _ ?_; clear hK K | refine Op1.callp rfl rfl (ca) rfl ?_; refine hK _ _ ?_; clear hK K) | refine VCo.gstep rfl rfl rfl rfl rfl ?_; try simp only [GB] | refine VC.region ?_ | refine VC.seq' ?_ | (first | refine VCo.nil ?_ | refine VC.ret ?_); (try simp only [QB]) | refine ret1 T (List.nil_sublist _) ?_; (try simp only [upd, Nat.reduceBEq, cond_true, cond_false, and_true]) | refine VC.cond rfl ?_; (try simp only [gsplit_true])
  have e2 : decide (a ≥ ((agsF u m).length : Int)) = false := by simpa using h2
  obtain ⟨i, rfl⟩ : ∃ i : Nat, a = (i : Int) := ⟨a.toNat, by omega⟩
  have hi : i < (agsF u m).length := by omega
  rw [show enM u c m r (i : Nat) = canA u c m r (agF u m i) by simp [enM, oneF_at hi]]
  by_cases h3 : i < u.regs.length
  · have e3 : decide ((i : Int) < (u.regs.length : Int)) = true := decide_eq_true (by omega)
    have c1 := rEn_ok h (i : Nat)
    rw [agF_th h3]
    repeat' first | refine VCo.stepO rfl rfl (fun K hK => r_boxR rfl rfl rfl (hK _ _ ?_)); (try simp only [updO]) | (first | refine VCo.step T rfl rfl (fun K hK => ?_) | refine VCr.step T rfl (fun K hK => ?_)); (try simp (disch := omega) only [WB, argE, Nat.reduceBEq, Nat.reduceAdd, Nat.reduceLeDiff, T3, T22, T25, T29, e1, e2, e3, iRs_len]); (first | refine hK _ _ ?_; clear hK K | refine Op1.callp rfl rfl (ca) rfl ?_; refine hK _ _ ?_; clear hK K | refine Op1.callp rfl rfl (c1) rfl ?_; refine hK _ _ ?_; clear hK K) | refine VCo.gstep rfl rfl rfl rfl rfl ?_; try simp only [GB] | refine VC.region ?_ | refine VC.seq' ?_ | (first | refine VCo.nil ?_ | refine VC.skip ?_ | refine VC.ret ?_); (try simp only [QB]) | refine ret1 T (List.nil_sublist _) ?_; (try simp only [upd, Nat.reduceBEq, cond_true, cond_false, and_true]) | refine VC.cond rfl ?_; (try simp only [gsplit_true, gsplit_false])
    all_goals rfl
  have e3 : decide ((i : Int) < (u.regs.length : Int)) = false := decide_eq_false (by omega)
  by_cases m2 : m = 2
  · have f2 : (m == 2) = true := by simpa using m2
    have hw : IntKind.i64.wrap ((i : Int) - (u.regs.length : Int)) = ((i - u.regs.length : Nat) : Int) := by rw [w64 (by omega)]; omega
    have c1 := rflushes_ok c h.okC.buf m ((i - u.regs.length : Nat) : Int) (-1)
    rw [agF_2 (by omega) m2]
    repeat' first | refine VCo.stepO rfl rfl (fun K hK => r_boxR rfl rfl rfl (hK _ _ ?_)); (try simp only [updO]) | (first | refine VCo.step T rfl rfl (fun K hK => ?_) | refine VCr.step T rfl (fun K hK => ?_)); (try simp (disch := omega) only [WB, argE, Nat.reduceBEq, Nat.reduceAdd, Nat.reduceLeDiff, T3, T22, T25, T29, e1, e2, e3, hw, f2, iRs_len]); (first | refine hK _ _ ?_; clear hK K | refine Op1.callp rfl rfl (ca) rfl ?_; refine hK _ _ ?_; clear hK K | refine Op1.callp rfl rfl (c1) rfl ?_; refine hK _ _ ?_; clear hK K) | refine VCo.gstep rfl rfl rfl rfl rfl ?_; try simp only [GB] | refine VC.region ?_ | refine VC.seq' ?_ | (first | refine VCo.nil ?_ | refine VC.skip ?_ | refine VC.ret ?_); (try simp only [QB]) | refine ret1 T (List.nil_sublist _) ?_; (try simp only [upd, Nat.reduceBEq, cond_true, cond_false, and_true]) | refine VC.cond rfl ?_; (try simp only [gsplit_true, gsplit_false])
    all_goals rfl
  have f2 : (m == 2) = false := by simpa using m2
  obtain ⟨hw, hq, hr, hnz⟩ := flN hi (by omega) m2
  have c1 := rflushes_ok c h.okC.buf m (((i - u.regs.length) / u.init.length : Nat) : Int) (((i - u.regs.length) % u.init.length : Nat) : Int)
  rw [agF_3 (by omega) m2]
  repeat' first | refine VCo.stepO rfl rfl (fun K hK => r_boxR rfl rfl rfl (hK _ _ ?_)); (try simp only [updO]) | refine VC.draw (id := 8) T 16 (by kernel_rfl) (by kernel_rfl) (by kernel_rfl) ?_ | refine VCg.nil T ?_; simp only [allK, WB] | (apply VCg.step T rfl rfl); focus ((try simp (disch := omega) only [WB, Nat.reduceBEq, Nat.reduceAdd, Nat.reduceLeDiff, T3, T22, T25, T29, hw, hq, hr, iRs_len]); (first | exact rfl | refine ⟨?_, rfl⟩; try omega)) | (first | refine VCo.step T rfl rfl (fun K hK => ?_) | refine VCr.step T rfl (fun K hK => ?_)); (try simp (disch := omega) only [WB, argE, Nat.reduceBEq, Nat.reduceAdd, Nat.reduceLeDiff, T3, T22, T25, e1, e2, e3, f2, iRs_len]); (first | refine hK _ _ ?_; clear hK K | refine Op1.callp rfl rfl (ca) rfl ?_; refine hK _ _ ?_; clear hK K | refine Op1.callp rfl rfl (c1) rfl ?_; refine hK _ _ ?_; clear hK K) | refine VCo.gstep rfl rfl rfl rfl rfl ?_; try simp only [GB] | refine VC.region ?_ | refine VC.seq' ?_ | (first | refine VCo.nil ?_ | refine VC.skip ?_ | refine VC.ret ?_); (try simp only [QB]) | refine ret1 T (List.nil_sublist _) ?_; (try simp only [upd, Nat.reduceBEq, cond_true, cond_false, and_true]) | refine VC.cond rfl ?_; (try simp only [gsplit_false])
  all_goals rfl

set_option maxHeartbeats 8000000 in
theorem ractM_ok (h : Rt u c m r) (a : Int) : Pure Tryz.prog 8 [.agg (unC u), .agg (cfC c), iD m, iD r, iD a] (.tup [.agg (cfC (actM u c m r a)), bD (enM u c m r a)]) := by
  have ce := renM_ok h a
  have hl := agsF_len u m
  refine Fun.of T [.cell 10 29, .tmp 11] Tryz.func8 rfl Tryz.ntmps8 Tryz.results8 rfl (by kernel_rfl) ?_
  cases hE : enM u c m r a with
  | false =>
    rw [hE] at ce
    have cc := rcopyF_ok c h.okC
    rw [actM_no hE]
    repeat' first | refine VCo.stepO rfl rfl (fun K hK => r_boxR rfl rfl rfl (hK _ _ ?_)); (try simp only [updO]) | refine VCo.step T rfl rfl (fun K hK => ?_); (try simp (disch := omega) only [WB, argE, setL, Nat.reduceBEq, Nat.reduceAdd, Nat.reduceLeDiff, T22, T25, T29, iRs_len, Bool.not_false]); (first | refine hK _ _ ?_; clear hK K | intro bq hbq; (try simp only [HB] at hbq); refine hK _ _ ?_; clear hK K | refine Op1.callp rfl rfl (ce) rfl ?_; refine hK _ _ ?_; clear hK K | refine Op1.callp rfl rfl (cc) rfl ?_; refine hK _ _ ?_; clear hK K) | refine VC.region ?_ | refine VC.seq' ?_ | (first | refine VCo.nil ?_ | refine VC.ret ?_); (try simp only [QB]) | refine retc1 T rfl (by (simp (disch := omega) only [hget_eq]) <;> rfl) rfl rfl rfl (List.nil_sublist _) ?_; (try simp only [upd, Nat.reduceBEq, cond_true, cond_false, and_true]) | refine VC.cond rfl ?_; (try simp only [gsplit_true])
  | true =>
  rw [hE] at ce
  have h12 : ¬ (a < 0 ∨ a ≥ ((agsF u m).length : Int)) := fun h' => by simp [enM, oneF_no h'] at hE
  obtain ⟨i, rfl⟩ : ∃ i : Nat, a = (i : Int) := ⟨a.toNat, by omega⟩
  have hi : i < (agsF u m).length := by omega
  have hC : canA u c m r (agF u m i) = true := by simpa [enM, oneF_at hi] using hE
  rw [show actM u c m r (i : Nat) = actA u c m r (agF u m i) by simp [actM, oneF_at hi]]
  by_cases h3 : i < u.regs.length
  · have e3 : decide ((i : Int) < (u.regs.length : Int)) = true := decide_eq_true (by omega)
    have c1 := rAct_ok h (i : Nat)
    rw [agF_th h3] at hC ⊢
    have hC : enT u c m r (i : Nat) = true := hC
    rw [hC] at c1
    repeat' first | refine VCo.stepO rfl rfl (fun K hK => r_boxR rfl rfl rfl (hK _ _ ?_)); (try simp only [updO]) | refine VCo.step T rfl rfl (fun K hK => ?_); (try simp (disch := omega) only [WB, argE, setL, Nat.reduceBEq, Nat.reduceAdd, Nat.reduceLeDiff, T3, T22, T25, T29, e3, iRs_len, Bool.not_true]); (first | refine hK _ _ ?_; clear hK K | intro bq hbq; (try simp only [HB] at hbq); refine hK _ _ ?_; clear hK K | refine Op1.callp rfl rfl (ce) rfl ?_; refine hK _ _ ?_; clear hK K | refine Op1.callp rfl rfl (c1) rfl ?_; refine hK _ _ ?_; clear hK K) | refine VC.region ?_ | refine VC.seq' ?_ | (first | refine VCo.nil ?_ | refine VC.skip ?_ | refine VC.ret ?_); (try simp only [QB]) | refine retc1 T rfl (by (simp (disch := omega) only [hget_eq]) <;> rfl) rfl rfl rfl (List.nil_sublist _) ?_; (try simp only [upd, Nat.reduceBEq, cond_true, cond_false, and_true]) | refine VC.cond rfl ?_; (try simp only [gsplit_true, gsplit_false])
    all_goals rfl
  have e3 : decide ((i : Int) < (u.regs.length : Int)) = false := decide_eq_false (by omega)
  by_cases m2 : m = 2
  · have f2 : (m == 2) = true := by simpa using m2
    have hw : IntKind.i64.wrap ((i : Int) - (u.regs.length : Int)) = ((i - u.regs.length : Nat) : Int) := by rw [w64 (by omega)]; omega
    have c1 := rflush_ok c h.okC h.locs m ((i - u.regs.length : Nat) : Int) (-1)
    rw [agF_2 (by omega) m2] at hC ⊢
    have hC : flushB c m ((i - u.regs.length : Nat) : Int) (-1) = true := hC
    rw [hC] at c1
    repeat' first | refine VCo.stepO rfl rfl (fun K hK => r_boxR rfl rfl rfl (hK _ _ ?_)); (try simp only [updO]) | refine VCo.step T rfl rfl (fun K hK => ?_); (try simp (disch := omega) only [WB, argE, setL, Nat.reduceBEq, Nat.reduceAdd, Nat.reduceLeDiff, T3, T22, T25, T29, e3, hw, f2, iRs_len, Bool.not_true]); (first | refine hK _ _ ?_; clear hK K | intro bq hbq; (try simp only [HB] at hbq); refine hK _ _ ?_; clear hK K | refine Op1.callp rfl rfl (ce) rfl ?_; refine hK _ _ ?_; clear hK K | refine Op1.callp rfl rfl (c1) rfl ?_; refine hK _ _ ?_; clear hK K) | refine VC.region ?_ | refine VC.seq' ?_ | (first | refine VCo.nil ?_ | refine VC.skip ?_ | refine VC.ret ?_); (try simp only [QB]) | refine retc1 T rfl (by (simp (disch := omega) only [hget_eq]) <;> rfl) rfl rfl rfl (List.nil_sublist _) ?_; (try simp only [upd, Nat.reduceBEq, cond_true, cond_false, and_true]) | refine VC.cond rfl ?_; (try simp only [gsplit_true, gsplit_false])
    all_goals rfl
  have f2 : (m == 2) = false := by simpa using m2
  obtain ⟨hw, hq, hr, hnz⟩ := flN hi (by omega) m2
  have c1 := rflush_ok c h.okC h.locs m (((i - u.regs.length) / u.init.length : Nat) : Int) (((i - u.regs.length) % u.init.length : Nat) : Int)
  rw [agF_3 (by omega) m2] at hC ⊢
  have hC : flushB c m (((i - u.regs.length) / u.init.length : Nat) : Int) (((i - u.regs.length) % u.init.length : Nat) : Int) = true := hC
  rw [hC] at c1
  repeat' first | refine VCo.stepO rfl rfl (fun K hK => r_boxR rfl rfl rfl (hK _ _ ?_)); (try simp only [updO]) | refine VC.draw (id := 8) T 19 (by kernel_rfl) (by kernel_rfl) (by kernel_rfl) ?_ | refine VCg.nil T ?_; simp only [allK, WB] | apply VCg.step T rfl rfl; focus ((try simp (disch := omega) only [WB, Nat.reduceBEq, Nat.reduceAdd, Nat.reduceLeDiff, T3, T22, T25, T29, hw, hq, hr, iRs_len]); (first | exact rfl | refine ⟨?_, rfl⟩; try omega | refine Op1.callp rfl rfl (c1) rfl ?_; exact ⟨rfl, rfl⟩)) | refine VCo.step T rfl rfl (fun K hK => ?_); (try simp (disch := omega) only [WB, argE, setL, Nat.reduceBEq, Nat.reduceAdd, Nat.reduceLeDiff, T3, T22, T25, T29, e3, f2, iRs_len, Bool.not_true]); (first | refine hK _ _ ?_; clear hK K | intro bq hbq; (try simp only [HB] at hbq); refine hK _ _ ?_; clear hK K | refine Op1.callp rfl rfl (ce) rfl ?_; refine hK _ _ ?_; clear hK K) | refine VC.region ?_ | refine VC.seq' ?_ | (first | refine VCo.nil ?_ | refine VC.skip ?_ | refine VC.ret ?_); (try simp only [QB]) | refine retc1 T rfl (by (simp (disch := omega) only [hget_eq]) <;> rfl) rfl rfl rfl (List.nil_sublist _) ?_; (try simp only [upd, Nat.reduceBEq, cond_true, cond_false, and_true]) | refine VC.cond rfl ?_; (try simp only [gsplit_false])
  all_goals rfl

theorem enM_at {k : Nat} (h : k < (agsF u m).length) : enM u c m r (k : Nat) = canA u c m r (agF u m k) := by simp [enM, oneF_at h]
set_option maxHeartbeats 4000000 in
theorem rmoves_ok (h : Rt u c m r) : Pure Tryz.prog 13 [.agg (unC u), .agg (cfC c), iD m, iD r] (ints (movesF u c m r)) := by
  have ca := ragents_ok u h.okU m
  have hl := agsF_len u m
  have hat : ∀ k : Nat, k < (agsF u m).length → (agsF u m)[k]? = some (agF u m k) ∧ enM u c m r (k : Nat) = canA u c m r (agF u m k) := fun k hk => ⟨(ag_at hk).1, enM_at hk⟩
  unfold movesF
  generalize agsF u m = A at *
  refine Fun.freeze (iRs_row _) ?_
  refine Fun.of T [.tmp 8] Tryz.func13 rfl Tryz.ntmps13 Tryz.results13 rfl (by kernel_rfl) ?_
  repeat' first | refine VCo.stepO rfl rfl (fun K hK => r_boxR rfl rfl rfl (hK _ _ ?_)); (try simp only [updO]) | refine VCo.step T rfl rfl (fun K hK => ?_); (try simp (disch := omega) only [WB, argE, Nat.reduceAdd]); (refine hK _ _ ?_; clear hK K) | refine VC.region ?_ | refine VC.seq' ?_ | refine VC.block ?_ | (refine VCo.nil ?_); (try simp only [QB])
  refine VC.loop {p : Nat × List Int × Option (Nat × Nat) // p.1 ≤ A.length ∧ p.2.1 = mvK u c m r A p.1} (fun p => ⟨lookD [(2, iD m), (3, iD r), (4, .pt (unC u)), (5, .pt (cfC c)), (9, .gs p.1.2.2 p.1.2.1.length), (10, iD (p.1.1 : Nat))], shp p.1.2.2 3 1 (p.1.2.1.map iD) []⟩) (fun p => A.length - p.1.1) ⟨(0, [], none), by dsimp only; omega, rfl⟩ ?_ ?_
  · refine Weak.sub ?_
    simp [sub, upd]
  rintro ⟨⟨k, L, g⟩, hk, hL⟩
  dsimp only at hk hL ⊢
  have hLl : L.length ≤ k := by rw [hL]; exact mvK_len
  rcases Nat.lt_or_ge k A.length with hlt | hge
  case inr =>
    obtain rfl : k = A.length := by omega
    have hd : decide ((A.length : Int) < (A.length : Int)) = false := by simp
    repeat' first | refine VCo.step T rfl rfl (fun K hK => ?_); (try simp (disch := omega) only [WB, lookD, Nat.reduceBEq, Nat.reduceAdd, Nat.reduceLeDiff, T3, T25, hd]); (first | refine hK _ _ ?_; clear hK K | refine Op1.callp rfl rfl (ca) rfl ?_; refine hK _ _ ?_; clear hK K) | refine VC.region ?_ | refine VC.seq' ?_ | (first | refine VCo.nil ?_ | refine VC.ret ?_ | refine VC.exit ?_); (try simp only [QB]) | refine VC.cond rfl ?_; (try simp only [gsplit_false])
    exact ret1 T (List.Sublist.refl _) ⟨g, 3, by rw [← hL, iRs_len]; rfl, by rw [← hL, iRs_flat]⟩
  have hd : decide ((k : Int) < (A.length : Int)) = true := by simp; omega
  have hw : IntKind.i64.wrap ((k : Int) + 1) = ((k + 1 : Nat) : Int) := by rw [w64 (by omega)]; omega
  obtain ⟨ha, he⟩ := hat k hlt
  have cn := renM_ok h (k : Nat)
  rw [he] at cn
  cases hE : canA u c m r (agF u m k) with
  | false =>
    rw [hE] at cn
    repeat' first | refine VCo.step T rfl rfl (fun K hK => ?_); (try simp (disch := omega) only [WB, lookD, Nat.reduceBEq, Nat.reduceAdd, Nat.reduceLeDiff, T3, T25, T29, hd, hw]); (first | refine hK _ _ ?_; clear hK K | refine Op1.callp rfl rfl (ca) rfl ?_; refine hK _ _ ?_; clear hK K | refine Op1.callp rfl rfl (cn) rfl ?_; refine hK _ _ ?_; clear hK K) | refine VC.region ?_ | refine VC.seq' ?_ | refine VC.block ?_ | (first | refine VCo.nil ?_ | refine VC.skip ?_); (try simp only [QB]) | refine VC.cond rfl ?_; (try simp only [gsplit_true, gsplit_false])
    refine ⟨⟨(k + 1, L, g), by dsimp only; omega, by dsimp only; rw [mvK_succ ha, hE, hL]; simp⟩, Weak_subEq rfl ?_, by dsimp only; omega⟩
    simp [sub, upd]
  | true =>
    rw [hE] at cn
    repeat' first | refine VCo.step T rfl rfl (fun K hK => ?_); (try simp (disch := omega) only [WB, lookD, fillD, setL, rowsOf, Nat.reduceBEq, Nat.reduceAdd, Nat.reduceMul, Nat.reduceLeDiff, T3, T22, T25, T29, hd, hw]); (first | refine hK _ _ ?_; clear hK K | refine ⟨_, _, _, _, (by repeat (exact Sp.here)), ?_, (by exact ⟨rfl, rfl⟩), ⟨by decide, by decide, ?_⟩, fun g' hg' => hK _ _ ?_⟩ <;> clear hK K | refine Op1.callp rfl rfl (ca) rfl ?_; refine hK _ _ ?_; clear hK K | refine Op1.callp rfl rfl (cn) rfl ?_; refine hK _ _ ?_; clear hK K) | refine VC.region ?_ | refine VC.seq' ?_ | refine VC.block ?_ | (first | refine VCo.nil ?_ | refine VC.skip ?_); (try simp only [QB]) | refine VC.cond rfl ?_; (try simp only [gsplit_true])
    · simp
    · omega
    · refine ⟨⟨(k + 1, L ++ [(k : Int)], g'), by dsimp only; omega, by dsimp only; rw [mvK_succ ha, hE, hL]⟩, Weak_subEq ?_ ?_, by dsimp only; omega⟩
      · dsimp only
        rw [List.map_append]
        rfl
      · simp [sub, upd]
theorem rdead_ok (h : Rt u c m r) : Pure Tryz.prog 15 [.agg (unC u), .agg (cfC c), iD m, iD r] (bD (deadB u c m r)) := by
  have c1 := rfinal_ok u c (by have := h.okU.cod; omega) (by have := h.okC.bufs; omega)
  have c2 := rmoves_ok h
  have he : (((movesF u c m r).length : Int) == 0) = decide ((movesF u c m r).length = 0) := by rw [Bool.eq_iff_iff]; simp
  refine Fun.of T [.tmp 8] Tryz.func15 rfl Tryz.ntmps15 Tryz.results15 rfl (by kernel_rfl) ?_
  unfold deadB
  cases hD : decide ((movesF u c m r).length = 0) with
  | true =>
    cases hF : finalB u c with
    | true =>
      rw [hF] at c1
      repeat' first | refine VCo.stepO rfl rfl (fun K hK => r_boxR rfl rfl rfl (hK _ _ ?_)); (try simp only [updO]) | (first | refine VCo.step T rfl rfl (fun K hK => ?_) | refine VCr.step T rfl (fun K hK => ?_)); (try simp (disch := omega) only [WB, argE, Nat.reduceBEq, Nat.reduceAdd, Nat.reduceLeDiff, T3, T22, T25, T29, Bool.not_true, he, hD, iRs_len]); (first | refine hK _ _ ?_; clear hK K | refine Op1.callp rfl rfl (c1) rfl ?_; refine hK _ _ ?_; clear hK K | refine Op1.callp rfl rfl (c2) rfl ?_; refine hK _ _ ?_; clear hK K) | refine VCo.gstep rfl rfl rfl rfl rfl ?_; try simp only [GB] | refine VC.region ?_ | refine VC.seq' ?_ | (first | refine VCo.nil ?_ | refine VC.ret ?_); (try simp only [QB]) | refine ret1 T (List.nil_sublist _) ?_; (try simp only [upd, Nat.reduceBEq, cond_true, cond_false, and_true])
      all_goals rfl
    | false =>
      rw [hF] at c1
      repeat' first | refine VCo.stepO rfl rfl (fun K hK => r_boxR rfl rfl rfl (hK _ _ ?_)); (try simp only [updO]) | (first | refine VCo.step T rfl rfl (fun K hK => ?_) | refine VCr.step T rfl (fun K hK => ?_)); (try simp (disch := omega) only [WB, argE, Nat.reduceBEq, Nat.reduceAdd, Nat.reduceLeDiff, T3, T22, T25, T29, Bool.not_false, he, hD, iRs_len]); (first | refine hK _ _ ?_; clear hK K | refine Op1.callp rfl rfl (c1) rfl ?_; refine hK _ _ ?_; clear hK K | refine Op1.callp rfl rfl (c2) rfl ?_; refine hK _ _ ?_; clear hK K) | refine VCo.gstep rfl rfl rfl rfl rfl ?_; try simp only [GB] | refine VC.region ?_ | refine VC.seq' ?_ | (first | refine VCo.nil ?_ | refine VC.ret ?_); (try simp only [QB]) | refine ret1 T (List.nil_sublist _) ?_; (try simp only [upd, Nat.reduceBEq, cond_true, cond_false, and_true])
      all_goals rfl
  | false =>
    rw [Bool.and_false]
    repeat' first | refine VCo.stepO rfl rfl (fun K hK => r_boxR rfl rfl rfl (hK _ _ ?_)); (try simp only [updO]) | (refine VCo.step T rfl rfl (fun K hK => ?_)); (try simp (disch := omega) only [WB, argE, Nat.reduceBEq, Nat.reduceAdd, Nat.reduceLeDiff, T3, T22, T25, T29, he, hD, iRs_len]); (first | refine hK _ _ ?_; clear hK K | refine Op1.callp rfl rfl (c2) rfl ?_; refine hK _ _ ?_; clear hK K) | refine VCo.gstep rfl rfl rfl rfl rfl ?_; try simp only [GB] | refine VC.region ?_ | refine VC.seq' ?_ | (first | refine VCo.nil ?_ | refine VC.ret ?_); (try simp only [QB]) | refine ret1 T (List.nil_sublist _) ?_; (try simp only [upd, Nat.reduceBEq, cond_true, cond_false, and_true])
    all_goals rfl
end
set_option maxHeartbeats 16000000 in
theorem lawMActs (u : Un) (c : Cf) (m r a : Int) : Pure Tryz.prog 3 [.agg (cbC u c m r a)] (bD true) := by
  have c0 := right11_ok u c m r a
  have ck := known11_ok
  refine Fun.of T [.tmp 2] Tryz.func3 rfl Tryz.ntmps3 Tryz.results3 rfl (by kernel_rfl) ?_
  cases hR : rightK u c m r with
  | false =>
    rw [hR] at c0
    repeat' first | refine VCo.stepO rfl rfl (fun K hK => r_boxR rfl rfl rfl (hK _ _ ?_)); (try simp only [updO]) | (refine VCo.step T rfl rfl (fun K hK => ?_)); (try simp (disch := omega) only [WB, argE, Nat.reduceBEq, Nat.reduceAdd, Nat.reduceLeDiff, T31, Bool.not_false]); (first | refine hK _ _ ?_; clear hK K | refine Op1.callp rfl rfl (c0) rfl ?_; refine hK _ _ ?_; clear hK K | refine Op1.callp rfl rfl (ck) rfl ?_; refine hK _ _ ?_; clear hK K) | refine VC.region ?_ | refine VC.seq' ?_ | (first | refine VCo.nil ?_ | refine VC.ret ?_); (try simp only [QB]) | refine ret1 T (List.nil_sublist _) ?_; (try simp only [upd, Nat.reduceBEq, cond_true, cond_false, and_true]) | refine VC.cond rfl ?_; (try simp only [gsplit_true])
  | true =>
  rw [hR] at c0
  have h := rtK hR
  have c1 := rcopyF_ok c h.okC
  have c2 := actM_ok h a
  have c3 := ractM_ok h a
  have hA := h.actM a
  have c4 := rsame_ok _ _ hA.okC hA.okC
  have c5 := rsame_ok _ _ h.okC h.okC
  rw [sameC_refl] at c4 c5
  have c6 := enM_ok h a
  have c7 := moves_ok h
  have c8 := rmoves_ok h
  have c9 := ints_ok (movesF u c m r) (movesF u c m r) (by have := @mvK_len u c m r (agsF u m) (agsF u m).length; have := agsF_len u m; unfold movesF; omega) (by have := @mvK_len u c m r (agsF u m) (agsF u m).length; have := agsF_len u m; unfold movesF; omega)
  rw [decide_eq_true rfl] at c9
  have d1 := dead_ok h
  have d2 := rdead_ok h
  generalize actM u c m r a = d at *
  generalize enM u c m r a = e at *
  generalize movesF u c m r = L at *
  generalize deadB u c m r = z at *
  cases e <;> cases z
  all_goals repeat' first | refine VCo.stepO rfl rfl (fun K hK => r_boxR rfl rfl rfl (hK _ _ ?_)); (try simp only [updO]) | refine VC.draw (id := 6) T 69 (by kernel_rfl) (by kernel_rfl) (by kernel_rfl) ?_ | refine VCg.nil T ?_; simp only [allK, WB] | (first | apply VCg.step T rfl rfl | apply exF); focus ((try simp (disch := omega) only [WB, Nat.reduceBEq, Nat.reduceAdd, Nat.reduceLeDiff, T3, T4, T25, T29, T31]); (first | exact rfl | refine Op1.callp rfl rfl (c4) rfl ?_; exact ⟨rfl, rfl⟩ | refine Op1.callp rfl rfl (c6) rfl ?_; exact ⟨rfl, rfl⟩ | refine Op1.callp rfl rfl (c7) rfl ?_; exact ⟨rfl, rfl⟩ | refine Op1.callp rfl rfl (c8) rfl ?_; exact ⟨rfl, rfl⟩ | refine Op1.callp rfl rfl (c9) rfl ?_; exact ⟨rfl, rfl⟩ | refine Op1.callp rfl rfl (d1) rfl ?_; exact ⟨rfl, rfl⟩ | refine Op1.callp rfl rfl (d2) rfl ?_; exact ⟨rfl, rfl⟩)) | refine VCg.gstep T rfl rfl rfl rfl ?_; try simp only [GB] | (first | refine VCo.step T rfl rfl (fun K hK => ?_) | refine VCr.step T rfl (fun K hK => ?_)); (try simp (disch := omega) only [WB, argE, setL, Nat.reduceBEq, Nat.reduceAdd, Nat.reduceLeDiff, T3, T25, T29, T31, Bool.not_true]); (first | refine hK _ _ ?_; clear hK K | intro bq hbq; (try simp only [HB] at hbq); refine hK _ _ ?_; clear hK K | refine Op1.callp rfl rfl (c0) rfl ?_; refine hK _ _ ?_; clear hK K | refine Op1.callp rfl rfl (c1) rfl ?_; refine hK _ _ ?_; clear hK K | refine Op1.callp rfl rfl (c2) rfl ?_; refine hK _ _ ?_; clear hK K | refine Op1.callp rfl rfl (c3) rfl ?_; refine hK _ _ ?_; clear hK K | refine Op1.callp rfl rfl (c5) rfl ?_; refine hK _ _ ?_; clear hK K | refine Op1.callp rfl rfl (ck) rfl ?_; refine hK _ _ ?_; clear hK K) | refine VCo.gstep rfl rfl rfl rfl rfl ?_; try simp only [GB] | refine VC.region ?_ | refine VC.seq' ?_ | (first | refine VCo.nil ?_ | refine VC.skip ?_ | refine VC.ret ?_); (try simp only [QB]) | refine ret1 T (List.nil_sublist _) ?_; (try simp only [upd, Nat.reduceBEq, cond_true, cond_false, and_true]) | refine VC.cond rfl ?_; (try simp only [gsplit_false])
end Go.Proofs.YtlnmljmeahknaaaGreat
/- The statement of MachineActs. No condition. -/
namespace Go.Proofs.YtlnmljmeahknaaaGreat
set_option linter.unusedSimpArgs false
set_option linter.unusedVariables false
open Go Go.Proofs Go.Vc Go.ChangeShapes Go.WideShapes Go.ChangeAt Go.RowKit Go.Joins

theorem lawMachineActs_all (Ds : List D) (h : ShA [.many case11T] Ds) : Pure Tryz.prog 3 Ds (bD true) := by
  obtain ⟨u, c, m, r, a, rfl⟩ := case11_all Ds h
  exact lawMActs u c m r a

set_option maxRecDepth 100000 in
theorem lifted_MachineActs (os : Os) (started : os.Started) (H : Type) (enc : TypeId × Value → H) :
    ReturnsInHanded {} Tryz.checked os 3 .any (Rows.machineActsSpec.pre6 enc Tryz.prog Tryz.f3 Rows.machineActsRow.domain false) (Rows.machineActsSpec.post enc Tryz.prog Tryz.f3 false true false false) := by
  refine returnsInHanded_of_change (C := Tryz.checked) ownK started (by kernel_rfl) Tryz.func3
    (ChangeSpec.witness6 (enc := enc) (C := Tryz.checked) false ⟨#[], #[.agg #[.int .i64 0, .slice none 0 0, .slice none 0 0, .slice none 0 0, .slice none 0 0, .slice none 0 0, .slice none 0 0, .slice none 0 0, .int .i64 0, .int .i64 0, .int .i64 0]], []⟩ 12 (by kernel_rfl) (by kernel_rfl) (by kernel_rfl) (by kernel_rfl)) ?_
  intro W base args ds gs before hval0 hW hcnd _
  have hval : ∀ (j : Nat) t v, Tryz.f3.params[j]? = some t → args[j]? = some v → Value.okWide Tryz.prog W .any base t v := hval0
  have hW' := hW
  obtain ⟨p, q, hA0, hV, rfl, hfz, hnd⟩ := hW
  have hA : DataW.TrodAll enc Tryz.prog W 0 (fun _ => true) true Tryz.f3.params.toList args.toList ds p := hA0
  obtain ⟨rfl, rfl⟩ := trodVars_none hV
  obtain ⟨Ds, hS, hR⟩ := open_args (L := live [] (fun _ => False)) (fun b hb => hb.elim id (fun h => by cases h)) _ _ _ _ [.many case11T] hA
    (fun j t v h1 h2 => hval j t v (by simpa using h1) (by simpa using h2)) (by kernel_rfl)
  obtain ⟨d0, rfl⟩ := spine1 (trodAll_len _ _ _ _ hA)
  simp only [List.append_nil] at hW'
  have hlt : ∀ x ∈ p, x.block < W.heap.size := fun x hx => by simpa using hW'.lt x hx
  refine (calls_yes (lawMachineActs_all Ds hS) W args.toList hR).mono fun e W' ⟨he, hw⟩ => ?_
  subst he
  exact ⟨_, rfl, _, _, _, [], p, [], hW', trodAll_mk1 (shut_bool Tryz.underlying4 _), shut_args (by kernel_rfl) hw _ _ _ _ (by kernel_rfl) hA hlt, rfl, hw.frame _, fun h => by cases h⟩

theorem MachineActs_holds : Rows.MachineActsSaid :=
  OpenClaim.holds_of_wide 3 Tryz.f3 rfl rfl rfl rfl rfl rfl rfl ⟨rfl, rfl, rfl, rfl, rfl⟩ rfl rfl rfl rfl rfl (by kernel_rfl) Tryz.func3 (by kernel_rfl)
    (of_decide_eq_true (by kernel_rfl)) (by unfold Func.isWrapper; first | (rw [if_pos (by decide +kernel)]; kernel_rfl) | (rw [if_neg (by decide +kernel)]; exact ⟨rfl, rfl⟩))
    (fun os started H enc _ => lifted_MachineActs os started H enc)
end Go.Proofs.YtlnmljmeahknaaaGreat
