/- The walk of StepFlushes. No condition. -/
import Derived.Test.YtlnmljmeahknaaaZa
namespace Go.Proofs.Ytlnmljmeahknaaa
set_option linter.unusedSimpArgs false
set_option linter.unusedVariables false
set_option maxRecDepth 20000
open Go Go.Proofs Go.Vc

theorem popF_len {m loc : Int} {b : List En} : (popF m loc b).1.length ≤ b.length := by
  unfold popF
  cases nextF m loc b with
  | none => simp
  | some k => simp [cutF]; omega
theorem OkC.flush {c : Cf} (h : OkC c) (m t loc : Int) : OkC (flushC c m t loc) := by
  unfold flushC
  cases hb : flushB c m t loc with
  | false => exact h
  | true =>
    refine ⟨h.pc, by simpa [setM, setB] using h.mem, h.regs, h.row, by simpa [setM, setB] using h.bufs, fun b hb => ?_⟩
    simp only [setM, setB] at hb
    rcases List.mem_or_eq_of_mem_set hb with h' | rfl
    · exact h.buf b h'
    · refine Nat.le_trans popF_len ?_
      rw [List.getD_eq_getElem?_getD]
      cases he : c.bufs[t.toNat]? with
      | none => simp
      | some x => exact h.buf x (List.mem_of_getElem? he)
theorem sameC_refl (c : Cf) : sameC c c = true := by simp [sameC]

set_option maxHeartbeats 8000000 in
theorem lawFlushes (u : Un) (c : Cf) (m r t l : Int) : Pure Try.prog 7 [.agg (caC u c m r t l)] (bD true) := by
  have c0 := right10_ok u c m r t l
  have ck := known10_ok
  refine Fun.of T [.tmp 2] Try.func7 rfl Try.ntmps7 Try.results7 rfl (by kernel_rfl) ?_
  cases hR : rightK u c m r with
  | false =>
    rw [hR] at c0
    repeat' first | refine VCo.stepO rfl rfl (fun K hK => r_boxR rfl rfl rfl (hK _ _ ?_)); (try simp only [updO]) | (refine VCo.step T rfl rfl (fun K hK => ?_)); (try simp (disch := omega) only [WB, argE, Nat.reduceBEq, Nat.reduceAdd, Nat.reduceLeDiff, T48, Bool.not_false]); (first | refine hK _ _ ?_; clear hK K | refine Op1.callp rfl rfl (c0) rfl ?_; refine hK _ _ ?_; clear hK K | refine Op1.callp rfl rfl (ck) rfl ?_; refine hK _ _ ?_; clear hK K) | refine VC.region ?_ | refine VC.seq' ?_ | (first | refine VCo.nil ?_ | refine VC.ret ?_); (try simp only [QB]) | refine ret1 T (List.nil_sublist _) ?_; (try simp only [upd, Nat.reduceBEq, cond_true, cond_false, and_true]) | refine VC.cond rfl ?_; (try simp only [gsplit_true])
  | true =>
  rw [hR] at c0
  have h := rtK hR
  have c1 := rcopyF_ok c h.okC
  have c2 := flush_ok c h.okC h.locs m t l
  have c3 := rflush_ok c h.okC h.locs m t l
  have c4 := rsame_ok _ _ (h.okC.flush m t l) (h.okC.flush m t l)
  have c5 := rsame_ok _ _ h.okC h.okC
  rw [sameC_refl] at c4 c5
  have c6 := flushes_ok c h.okC.buf m t l
  have c7 := reads_ok c h.okC.buf t l
  have c8 := rreads_ok c h.okC.buf t l
  repeat' first | refine VCo.stepO rfl rfl (fun K hK => r_boxR (t := 48) rfl rfl rfl (hK _ _ ?_)); (try simp only [updO]) | refine VC.draw (id := 6) T 41 (by kernel_rfl) (by kernel_rfl) (by kernel_rfl) ?_ | refine VCg.nil T ?_; simp only [allK, WB] | (first | apply VCg.step T rfl rfl | apply exF); focus ((try simp (disch := omega) only [WB, Nat.reduceBEq, Nat.reduceAdd, Nat.reduceLeDiff, T3, T4, T46, T48]); (first | exact rfl | refine Op1.callp rfl rfl (c4) rfl ?_; exact ⟨rfl, rfl⟩ | refine Op1.callp rfl rfl (c5) rfl ?_; exact ⟨rfl, rfl⟩ | refine Op1.callp rfl rfl (c6) rfl ?_; exact ⟨rfl, rfl⟩ | refine Op1.callp rfl rfl (c7) rfl ?_; exact ⟨rfl, rfl⟩)) | refine VCg.gstep T rfl rfl rfl rfl ?_; try simp only [GB] | (first | refine VCo.step T rfl rfl (fun K hK => ?_) | refine VCr.step T rfl (fun K hK => ?_)); (try simp (disch := omega) only [WB, argE, setL, Nat.reduceBEq, Nat.reduceAdd, Nat.reduceLeDiff, T3, T46, T48, Bool.not_true]); (first | refine hK _ _ ?_; clear hK K | intro bq hbq; (try simp only [HB] at hbq); refine hK _ _ ?_; clear hK K | refine Op1.callp rfl rfl (c0) rfl ?_; refine hK _ _ ?_; clear hK K | refine Op1.callp rfl rfl (c1) rfl ?_; refine hK _ _ ?_; clear hK K | refine Op1.callp rfl rfl (c2) rfl ?_; refine hK _ _ ?_; clear hK K | refine Op1.callp rfl rfl (c3) rfl ?_; refine hK _ _ ?_; clear hK K | refine Op1.callp rfl rfl (c8) rfl ?_; refine hK _ _ ?_; clear hK K | refine Op1.callp rfl rfl (ck) rfl ?_; refine hK _ _ ?_; clear hK K) | refine VCo.gstep rfl rfl rfl rfl rfl ?_; try simp only [GB] | refine VC.region ?_ | refine VC.seq' ?_ | (first | refine VCo.nil ?_ | refine VC.skip ?_ | refine VC.ret ?_); (try simp only [QB]) | refine ret1 T (List.nil_sublist _) ?_; (try simp only [upd, Nat.reduceBEq, cond_true, cond_false, and_true]) | refine VC.cond rfl ?_; (try simp only [gsplit_false])
end Go.Proofs.Ytlnmljmeahknaaa
