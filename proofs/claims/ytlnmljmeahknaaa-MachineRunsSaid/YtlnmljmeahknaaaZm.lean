/- The program's steps of any thread. No condition. -/
import Derived.Test.YtlnmljmeahknaaaZp
import Derived.Test.YtlnmljmeahknaaaYs
namespace Go.Proofs.Ytlnmljmeahknaaa
set_option linter.unusedSimpArgs false
set_option linter.unusedVariables false
set_option maxRecDepth 20000
open Go Go.Proofs Go.Vc

/-- What a thread makes of a configuration. -/
def actT (u : Un) (c : Cf) (m r t : Int) : Cf := match enT u c m r t with
  | true => match insX u c t.toNat with
    | some x => afterX u (setP c t.toNat (c.pc.getD t.toNat 0 + 1)) m t.toNat x (c.regs.getD t.toNat []) (c.bufs.getD t.toNat [])
    | none => c
  | false => c
theorem actT_at {u : Un} {c : Cf} {m r : Int} {i : Nat} {x : Ins} {row : List Int} {b : List En} {p : Nat} (h : At10 u c i x row b p) : actT u c m r (i : Nat) = actC u c m i x row b p (enT u c m r (i : Nat)) := by
  unfold actT actC
  cases enT u c m r (i : Nat) with
  | false => rfl
  | true =>
    simp only [Int.toNat_natCast, h.thr.at_.ins, List.getD_eq_getElem?_getD, h.pc, h.thr.reg, h.thr.buf, Option.getD_some]
    rfl
theorem actT_no {u : Un} {c : Cf} {m r t : Int} (h : enT u c m r t = false) : actT u c m r t = c := by unfold actT; rw [h]
theorem en_ok {u : Un} {c : Cf} {m r : Int} (h : Rt u c m r) (k t : Int) : Pure Try.prog 29 [.agg (unC u), .agg (cfC c), iD m, iD k, iD t] (bD (enT u c m k t)) := by
  by_cases ht : t < 0 ∨ t ≥ c.pc.length
  · exact Enabled_no u c m k t ht
  obtain ⟨i, rfl⟩ : ∃ i : Nat, t = (i : Int) := ⟨t.toNat, by omega⟩
  obtain ⟨x, row, b, p, ha⟩ := h.at (i := i) (by omega)
  exact Enabled_at u c h.okC m k ha.thr

set_option maxHeartbeats 8000000 in
/-- The program's Act of a thread that is none. -/
theorem act_no (u : Un) (c : Cf) (hc : OkC c) (m r t : Int) (h : t < 0 ∨ t ≥ c.pc.length) :
    Fun Try.prog 26 [.agg (unC u), .agg (cfC c), iD m, iD r, iD t] [] false (fun d H' => ∃ q : OC, q.ok c ∧ d = .tup [.agg (q.cs c), bD false] ∧ H' = q.h c []) := by
  have cc := copy_ok c hc
  refine Fun.of T [.cell 10 46, .tmp 11] Try.func26 rfl Try.ntmps26 Try.results26 rfl (by kernel_rfl) ?_
  repeat' first | refine VCo.stepO rfl rfl (fun K hK => r_boxR (t := 46) rfl rfl rfl (hK _ _ ?_)); (try simp only [updO]) | refine VCo.stepO rfl rfl (fun K hK => r_boxR (t := 42) rfl rfl rfl (hK _ _ ?_)); (try simp only [updO]) | refine VC.drawS (id := 1) (by kernel_rfl) ?_ | refine VCd.group T (s := 0) 6 11 rfl rfl (by kernel_rfl) (by kernel_rfl) (by kernel_rfl) ?_; (try simp only [List.drop_zero, Nat.reduceSub]) | refine VCg.nil T ?_; simp only [allK, WB] | apply VCg.step T rfl rfl; focus ((try simp (disch := omega) only [WB, Nat.reduceBEq, Nat.reduceAdd, Nat.reduceLeDiff, T42, T46]); (exact rfl)) | refine VCg.ownx T rfl rfl rfl rfl (cc) rfl ?_ | refine VCo.step T rfl rfl (fun K hK => ?_); (try simp (disch := omega) only [WB, argE, Nat.reduceAdd, T46]); (first | refine hK _ _ ?_; clear hK K | intro bq hbq; (try simp only [HB] at hbq); refine hK _ _ ?_; clear hK K) | refine VC.region ?_ | refine VC.seq' ?_ | (refine VCo.nil ?_); (try simp only [QB])
  rintro _ _ ⟨q, hq, rfl, rfl⟩ hap
  have cn := at_no u c m r t h
  have hfz : FzL ((bq, .cells 46 4 [.gs none 0, .gs none 0, .gs none 0, .gs none 0]) :: q.h c []) [.agg (unC u), .agg (cfC c), iD m, iD r, iD t] [.agg (unC u), .agg (q.cs c), iD m, iD r, iD t] :=
    fz_cons (Fz.refl _ _) (fz_cons ⟨_, rfl, OC.fzL (X := []) hq fun y hy => List.mem_cons_of_mem _ hy⟩ (FzL.refl _ _))
  refine VCd.weak (Weak.perm (H' := (bq, .cells 46 4 [.gs none 0, .gs none 0, .gs none 0, .gs none 0]) :: q.h c []) (perm_of fun a => by simp only [cnt_cons, cnt_app, cnt_nil]; omega)) ?_
  repeat' first | refine VCd.tail (f := 11) (by kernel_rfl) ?_; (try simp only [List.drop_succ_cons, List.drop_zero]) | refine VCd.group T (s := 6) 11 11 rfl rfl (by kernel_rfl) (by kernel_rfl) (by kernel_rfl) ?_; (try simp only [List.drop_succ_cons, List.drop_zero, Nat.reduceSub]) | apply VCg.step T rfl rfl; focus ((try simp (disch := omega) only [WB, Nat.reduceBEq]); (first | exact rfl | refine Op1.lend rfl rfl (cn) (hfz) (.inr rfl) ?_; exact ⟨rfl, rfl⟩)) | refine VCo.step T rfl rfl (fun K hK => ?_); (try simp (disch := omega) only [WB, Nat.reduceBEq, Nat.reduceAdd, Nat.reduceLeDiff, T46, Bool.not_false]); (first | refine hK _ _ ?_; clear hK K | skip) | refine VC.region ?_ | refine VC.seq' ?_ | (refine VCo.nil ?_); (try simp only [QB]) | refine VC.cond rfl ?_; (try simp only [gsplit_true])
  refine Op1.callx rfl rfl cc rfl (fun q2 hq2 => ?_)
  refine hK _ _ ?_
  clear hK K
  refine VCo.weak (Weak.perm (H' := (bq, .cells 46 4 [.gs none 0, .gs none 0, .gs none 0, .gs none 0]) :: (q2.h c [] ++ q.h c [])) (perm_of fun a => by simp only [cnt_cons, cnt_app, cnt_nil]; omega)) ?_
  repeat' first | refine VCo.step T rfl rfl (fun K hK => ?_); (try simp (disch := omega) only [WB, setL, Nat.reduceBEq, Nat.reduceAdd, Nat.reduceLeDiff, T46, OC.cs]); (refine hK _ _ ?_; clear hK K) | (first | refine VCo.nil ?_ | refine VC.ret ?_); (try simp only [QB])
  exact retc1 T rfl (by (try simp (disch := omega) only [hget_ne, hget_eq]); rfl) rfl rfl rfl ((List.sublist_append_left _ _).trans (List.sublist_cons_self _ _)) ⟨q2, hq2, rfl, rfl⟩

/-- The program's Act of any thread. -/
theorem actO_ok {u : Un} {c : Cf} {m r : Int} (h : Rt u c m r) (t : Int) :
    Fun Try.prog 26 [.agg (unC u), .agg (cfC c), iD m, iD r, iD t] [] false (fun d H' => ∃ q : OC, q.ok (actT u c m r t) ∧ d = .tup [.agg (q.cs (actT u c m r t)), bD (enT u c m r t)] ∧ H' = q.h (actT u c m r t) []) := by
  by_cases ht : t < 0 ∨ t ≥ c.pc.length
  · have hn := enT_no (u := u) (m := m) (r := r) ht
    rw [actT_no hn, hn]
    exact act_no u c h.okC m r t ht
  obtain ⟨i, rfl⟩ : ∃ i : Nat, t = (i : Int) := ⟨t.toNat, by omega⟩
  obtain ⟨x, row, b, p, ha⟩ := h.at (i := i) (by omega)
  rw [actT_at ha]
  have := act_ok u c h.okC m r i x row b ha.thr p ha.pc ha.pl ha.fit
  unfold actC
  exact this
theorem actT_ok {u : Un} {c : Cf} {m r : Int} (h : Rt u c m r) (t : Int) : Pure Try.prog 26 [.agg (unC u), .agg (cfC c), iD m, iD r, iD t] (.tup [.agg (cfC (actT u c m r t)), bD (enT u c m r t)]) :=
  Fun.fz ((actO_ok h t).mono fun d H' ⟨q, h1, h2, h3⟩ => by
    rw [h2, h3]
    exact cfz h1 (fun y hy => hy) _)
end Go.Proofs.Ytlnmljmeahknaaa
