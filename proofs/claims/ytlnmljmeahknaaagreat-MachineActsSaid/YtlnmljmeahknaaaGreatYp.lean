/- Contracts: whether a configuration can be. No condition. -/
import Derived.Test.YtlnmljmeahknaaaGreatYo
import Derived.Test.YtlnmljmeahknaaaGreatXg
namespace Go.Proofs.YtlnmljmeahknaaaGreat
set_option linter.unusedSimpArgs false
set_option linter.unusedVariables false
set_option maxRecDepth 20000
open Go Go.Proofs Go.Vc

def thrB (u : Un) (c : Cf) (m r : Int) (t : Nat) : Bool :=
  decide (0 ≤ c.pc.getD t 0) && decide (c.pc.getD t 0 < ((u.code.getD t []).length : Int)) && decide (((c.regs.getD t []).length : Int) = u.regs.getD t 0) && allB (c.regs.getD t []) u.md && rightR m r u.md u.init.length (c.bufs.getD t [])
def headC (u : Un) (c : Cf) : Bool := unitB u && decide (c.pc.length = u.regs.length) && decide (c.regs.length = u.regs.length) && decide (c.bufs.length = u.regs.length) && decide (c.mem.length = u.init.length) && allB c.mem u.md
def rightC (u : Un) (c : Cf) (m r : Int) : Bool := headC u c && ((List.range u.regs.length).all fun t => thrB u c m r t) && rightR m r u.md u.init.length []

set_option maxHeartbeats 16000000 in
theorem right09_ok (u : Un) (hu : OkU u) (c : Cf) (hc : OkC c) (m r : Int) : Pure Tryz.prog 18 [.agg (unC u), .agg (cfC c), iD m, iD r] (bD (rightC u c m r)) := by
  have k1 := hu.ini
  have k2 := hu.reg
  have k3 := hu.cod
  have k4 := hc.pc
  have k5 := hc.regs
  have k6 := hc.mem
  have k7 := hc.bufs
  have cu := right07_ok u hu
  have cm := all06_ok c.mem (by omega) u.md
  have no : headC u c = false → rightC u c m r = false := fun h => by unfold rightC; rw [h]; rfl
  refine Fun.of T [.tmp 8] Tryz.func18 rfl Tryz.ntmps18 Tryz.results18 rfl (by kernel_rfl) ?_
  cases hU : unitB u with
  | false =>
    rw [hU] at cu
    rw [no (by simp [headC, hU])]
    repeat' first | refine VCo.stepO rfl rfl (fun K hK => r_boxR rfl rfl rfl (hK _ _ ?_)); (try simp only [updO]) | (refine VCo.step T rfl rfl (fun K hK => ?_)); (try simp (disch := omega) only [WB, argE, Nat.reduceBEq, Nat.reduceAdd, Nat.reduceLeDiff, T3, T5, T9, T22, T23, T25, T26, T27, T29, T51, T53, T62, T65, T66, T68, T72, T78, T145, Bool.not_false, iRs_len]); (first | refine hK _ _ ?_; clear hK K | refine Op1.callp rfl rfl (cu) rfl ?_; refine hK _ _ ?_; clear hK K) | refine VCo.gstep rfl rfl rfl rfl rfl ?_; try simp only [GB] | refine VC.region ?_ | refine VC.seq' ?_ | (first | refine VCo.nil ?_ | refine VC.ret ?_); (try simp only [QB]) | refine ret1 T (List.nil_sublist _) ?_; (try simp only [upd, Nat.reduceBEq, cond_true, cond_false, and_true]) | refine VC.cond rfl ?_; (try simp only [gsplit_true])
  | true =>
  rw [hU] at cu
  by_cases g0 : c.pc.length = u.regs.length
  case neg =>
    have d0 : ((c.pc.length : Int) != (u.regs.length : Int)) = true := bne_iff_ne.2 (by omega)
    rw [no (by simp [headC, g0])]
    repeat' first | refine VCo.stepO rfl rfl (fun K hK => r_boxR rfl rfl rfl (hK _ _ ?_)); (try simp only [updO]) | (first | refine VCo.step T rfl rfl (fun K hK => ?_) | refine VCr.step T rfl (fun K hK => ?_)); (try simp (disch := omega) only [WB, argE, Nat.reduceBEq, Nat.reduceAdd, Nat.reduceLeDiff, T3, T5, T9, T22, T23, T25, T26, T27, T29, T51, T53, T62, T65, T66, T68, T72, T78, T145, d0, Bool.not_true, iRs_len]); (first | refine hK _ _ ?_; clear hK K | refine Op1.callp rfl rfl (cu) rfl ?_; refine hK _ _ ?_; clear hK K) | refine VCo.gstep rfl rfl rfl rfl rfl ?_; try simp only [GB] | refine VC.region ?_ | refine VC.seq' ?_ | (first | refine VCo.nil ?_ | refine VC.ret ?_); (try simp only [QB]) | refine ret1 T (List.nil_sublist _) ?_; (try simp only [upd, Nat.reduceBEq, cond_true, cond_false, and_true]) | refine VC.cond rfl ?_; (try simp only [gsplit_true])
  have d0 : ((c.pc.length : Int) != (u.regs.length : Int)) = false := by simp [g0]
  by_cases g1 : c.regs.length = u.regs.length
  case neg =>
    have d1 : ((c.regs.length : Int) != (u.regs.length : Int)) = true := bne_iff_ne.2 (by omega)
    rw [no (by simp [headC, g1])]
    repeat' first | refine VCo.stepO rfl rfl (fun K hK => r_boxR rfl rfl rfl (hK _ _ ?_)); (try simp only [updO]) | (first | refine VCo.step T rfl rfl (fun K hK => ?_) | refine VCr.step T rfl (fun K hK => ?_)); (try simp (disch := omega) only [WB, argE, Nat.reduceBEq, Nat.reduceAdd, Nat.reduceLeDiff, T3, T5, T9, T22, T23, T25, T26, T27, T29, T51, T53, T62, T65, T66, T68, T72, T78, T145, d0, d1, Bool.not_true, iRs_len, rowsI_len]); (first | refine hK _ _ ?_; clear hK K | refine Op1.callp rfl rfl (cu) rfl ?_; refine hK _ _ ?_; clear hK K) | refine VCo.gstep rfl rfl rfl rfl rfl ?_; try simp only [GB] | refine VC.region ?_ | refine VC.seq' ?_ | (first | refine VCo.nil ?_ | refine VC.ret ?_); (try simp only [QB]) | refine ret1 T (List.nil_sublist _) ?_; (try simp only [upd, Nat.reduceBEq, cond_true, cond_false, and_true]) | refine VC.cond rfl ?_; (try simp only [gsplit_true])
  have d1 : ((c.regs.length : Int) != (u.regs.length : Int)) = false := by simp [g1]
  by_cases g2 : c.bufs.length = u.regs.length
  case neg =>
    have d2 : ((c.bufs.length : Int) != (u.regs.length : Int)) = true := bne_iff_ne.2 (by omega)
    rw [no (by simp [headC, g2])]
    repeat' first | refine VCo.stepO rfl rfl (fun K hK => r_boxR rfl rfl rfl (hK _ _ ?_)); (try simp only [updO]) | (first | refine VCo.step T rfl rfl (fun K hK => ?_) | refine VCr.step T rfl (fun K hK => ?_)); (try simp (disch := omega) only [WB, argE, Nat.reduceBEq, Nat.reduceAdd, Nat.reduceLeDiff, T3, T5, T9, T22, T23, T25, T26, T27, T29, T51, T53, T62, T65, T66, T68, T72, T78, T145, d0, d1, d2, Bool.not_true, iRs_len, rowsI_len, bufsR_len]); (first | refine hK _ _ ?_; clear hK K | refine Op1.callp rfl rfl (cu) rfl ?_; refine hK _ _ ?_; clear hK K) | refine VCo.gstep rfl rfl rfl rfl rfl ?_; try simp only [GB] | refine VC.region ?_ | refine VC.seq' ?_ | (first | refine VCo.nil ?_ | refine VC.ret ?_); (try simp only [QB]) | refine ret1 T (List.nil_sublist _) ?_; (try simp only [upd, Nat.reduceBEq, cond_true, cond_false, and_true]) | refine VC.cond rfl ?_; (try simp only [gsplit_true])
  have d2 : ((c.bufs.length : Int) != (u.regs.length : Int)) = false := by simp [g2]
  by_cases g3 : c.mem.length = u.init.length
  case neg =>
    have d3 : ((c.mem.length : Int) != (u.init.length : Int)) = true := bne_iff_ne.2 (by omega)
    rw [no (by simp [headC, g3])]
    repeat' first | refine VCo.stepO rfl rfl (fun K hK => r_boxR rfl rfl rfl (hK _ _ ?_)); (try simp only [updO]) | (first | refine VCo.step T rfl rfl (fun K hK => ?_) | refine VCr.step T rfl (fun K hK => ?_)); (try simp (disch := omega) only [WB, argE, Nat.reduceBEq, Nat.reduceAdd, Nat.reduceLeDiff, T3, T5, T9, T22, T23, T25, T26, T27, T29, T51, T53, T62, T65, T66, T68, T72, T78, T145, d0, d1, d2, d3, Bool.not_true, iRs_len, rowsI_len, bufsR_len]); (first | refine hK _ _ ?_; clear hK K | refine Op1.callp rfl rfl (cu) rfl ?_; refine hK _ _ ?_; clear hK K) | refine VCo.gstep rfl rfl rfl rfl rfl ?_; try simp only [GB] | refine VC.region ?_ | refine VC.seq' ?_ | (first | refine VCo.nil ?_ | refine VC.ret ?_); (try simp only [QB]) | refine ret1 T (List.nil_sublist _) ?_; (try simp only [upd, Nat.reduceBEq, cond_true, cond_false, and_true]) | refine VC.cond rfl ?_; (try simp only [gsplit_true])
  have d3 : ((c.mem.length : Int) != (u.init.length : Int)) = false := by simp [g3]
  cases hM : allB c.mem u.md with
  | false =>
    rw [hM] at cm
    rw [no (by simp [headC, hM])]
    repeat' first | refine VCo.stepO rfl rfl (fun K hK => r_boxR rfl rfl rfl (hK _ _ ?_)); (try simp only [updO]) | (first | refine VCo.step T rfl rfl (fun K hK => ?_) | refine VCr.step T rfl (fun K hK => ?_)); (try simp (disch := omega) only [WB, argE, Nat.reduceBEq, Nat.reduceAdd, Nat.reduceLeDiff, T3, T5, T9, T22, T23, T25, T26, T27, T29, T51, T53, T62, T65, T66, T68, T72, T78, T145, d0, d1, d2, d3, Bool.not_false, Bool.not_true, iRs_len, rowsI_len, bufsR_len]); (first | refine hK _ _ ?_; clear hK K | refine Op1.callp rfl rfl (cu) rfl ?_; refine hK _ _ ?_; clear hK K | refine Op1.callp rfl rfl (cm) rfl ?_; refine hK _ _ ?_; clear hK K) | refine VCo.gstep rfl rfl rfl rfl rfl ?_; try simp only [GB] | refine VC.region ?_ | refine VC.seq' ?_ | (first | refine VCo.nil ?_ | refine VC.ret ?_); (try simp only [QB]) | refine ret1 T (List.nil_sublist _) ?_; (try simp only [upd, Nat.reduceBEq, cond_true, cond_false, and_true]) | refine VC.cond rfl ?_; (try simp only [gsplit_true])
  | true =>
  rw [hM] at cm
  have hH : headC u c = true := by simp [headC, hU, g0, g1, g2, g3, hM]
  have hR : rightC u c m r = (((List.range u.regs.length).all fun t => thrB u c m r t) && rightR m r u.md u.init.length []) := by unfold rightC; rw [hH]; rfl
  have hcl : u.code.length = u.regs.length := by
    have : headB u = true := by unfold unitB at hU; simp only [Bool.and_eq_true] at hU; exact hU.1
    simp only [headB, Bool.and_eq_true, decide_eq_true_eq] at this
    exact this.2
  repeat' first | refine VCo.stepO rfl rfl (fun K hK => r_boxR rfl rfl rfl (hK _ _ ?_)); (try simp only [updO]) | (first | refine VCo.step T rfl rfl (fun K hK => ?_) | refine VCr.step T rfl (fun K hK => ?_)); (try simp (disch := omega) only [WB, argE, Nat.reduceBEq, Nat.reduceAdd, Nat.reduceLeDiff, T3, T5, T9, T22, T23, T25, T26, T27, T29, T51, T53, T62, T65, T66, T68, T72, T78, T145, d0, d1, d2, d3, Bool.not_true, iRs_len, rowsI_len, bufsR_len]); (first | refine hK _ _ ?_; clear hK K | refine Op1.callp rfl rfl (cu) rfl ?_; refine hK _ _ ?_; clear hK K | refine Op1.callp rfl rfl (cm) rfl ?_; refine hK _ _ ?_; clear hK K) | refine VCo.gstep rfl rfl rfl rfl rfl ?_; try simp only [GB] | refine VC.region ?_ | refine VC.seq' ?_ | refine VC.block ?_ | (first | refine VCo.nil ?_ | refine VC.skip ?_); (try simp only [QB]) | refine VC.cond rfl ?_; (try simp only [gsplit_false])
  refine VC.loop {t : Nat // t ≤ u.regs.length ∧ ∀ j, j < t → thrB u c m r j = true} (fun p => ⟨lookD [(2, iD m), (3, iD r), (4, .pt (unC u)), (5, .pt (cfC c)), (9, iD (u.regs.length : Nat)), (10, iD (p.1 : Nat))], []⟩) (fun p => u.regs.length - p.1) ⟨0, by omega, fun j hj => by omega⟩ ?_ ?_
  · refine Weak.sub ?_
    simp [sub, upd]
  rintro ⟨t, ht, hs⟩
  dsimp only
  rcases Nat.lt_or_ge t u.regs.length with hlt | hge
  case inr =>
    have hd : decide ((t : Int) < (u.regs.length : Int)) = false := by simp; omega
    have hall : ((List.range u.regs.length).all fun t => thrB u c m r t) = true := range_all fun i hi => hs i (by omega)
    have hr : rightC u c m r = rightR m r u.md u.init.length [] := by rw [hR, hall]; rfl
    rw [hr]
    have ce : Pure Tryz.prog 36 [.gs none 0, iD m, iD r, iD u.md, iD (u.init.length : Nat)] (bD (rightR m r u.md u.init.length [])) := Fun.argsW (rright_ok [] (by simp) m r u.md u.init.length) (fz_first fz_nil)
    repeat' first | (refine VCo.step T rfl rfl (fun K hK => ?_)); (try simp (disch := omega) only [WB, lookD, Nat.reduceBEq, T3, T5, T9, T22, T23, T25, T26, T27, T29, T51, T53, T62, T65, T66, T68, T72, T78, T145, hd, iRs_len]); (first | refine hK _ _ ?_; clear hK K | refine Op1.callp rfl rfl (ce) rfl ?_; refine hK _ _ ?_; clear hK K) | refine VC.region ?_ | refine VC.seq' ?_ | (first | refine VCo.nil ?_ | refine VC.ret ?_ | refine VC.exit ?_); (try simp only [QB]) | refine ret1 T (List.nil_sublist _) ?_; (try simp only [upd, Nat.reduceBEq, cond_true, cond_false, and_true]) | refine VC.cond rfl ?_; (try simp only [gsplit_false])
  have hd : decide ((t : Int) < (u.regs.length : Int)) = true := by simp; omega
  have hw : IntKind.i64.wrap ((t : Int) + 1) = ((t + 1 : Nat) : Int) := by rw [w64 (by omega)]; omega
  obtain ⟨n, hn⟩ : ∃ n, u.regs[t]? = some n := ⟨_, List.getElem?_eq_getElem hlt⟩
  obtain ⟨rw0, hrw⟩ : ∃ r, u.code[t]? = some r := ⟨_, List.getElem?_eq_getElem (by omega)⟩
  obtain ⟨p, hp⟩ : ∃ p, c.pc[t]? = some p := ⟨_, List.getElem?_eq_getElem (by omega)⟩
  obtain ⟨row, hro⟩ : ∃ p, c.regs[t]? = some p := ⟨_, List.getElem?_eq_getElem (by omega)⟩
  obtain ⟨b, hb⟩ : ∃ p, c.bufs[t]? = some p := ⟨_, List.getElem?_eq_getElem (by omega)⟩
  have rn : (iRs u.regs)[t]? = some [iD n] := by rw [iRs_at, hn]; rfl
  have rr : (codeRs u.code)[t]? = some [.sl false 7 (insRs rw0)] := by rw [codeRs_at, hrw]; rfl
  have rp : (iRs c.pc)[t]? = some [iD p] := by rw [iRs_at, hp]; rfl
  have rg : (rowsI c.regs)[t]? = some [ints row] := by rw [rowsI_at, hro]; rfl
  have rb : (bufsR c.bufs)[t]? = some [buf b] := by rw [bufsR_at, hb]; rfl
  have hT : thrB u c m r t = (decide (0 ≤ p) && decide (p < (rw0.length : Int)) && decide ((row.length : Int) = n) && allB row u.md && rightR m r u.md u.init.length b) := by
    simp [thrB, List.getD_eq_getElem?_getD, hn, hrw, hp, hro, hb]
  have hbl := hc.buf b (List.mem_of_getElem? hb)
  have hrl := hc.row row (List.mem_of_getElem? hro)
  have c1 := all06_ok row (by omega) u.md
  have c2 := rright_ok b (by omega) m r u.md u.init.length
  have l1 : t < u.code.length := by omega
  have l2 : t < c.pc.length := by omega
  have l3 : t < c.regs.length := by omega
  have l4 : t < c.bufs.length := by omega
  have bad : thrB u c m r t = false → rightC u c m r = false := fun h => by rw [hR, range_not hlt h]; rfl
  by_cases q0 : p < 0
  · have s0 : decide (p < 0) = true := by simpa using q0
    rw [bad (by rw [hT]; simp; omega)]
    repeat' first | refine VC.draw (id := 7) T 58 (by kernel_rfl) (by kernel_rfl) (by kernel_rfl) ?_ | refine VCg.nil T ?_; simp only [allK, WB] | (first | apply VCg.step T rfl rfl | apply exF); focus ((try simp (disch := omega) only [WB, Nat.reduceBEq, T3, T5, T9, T22, T23, T25, T26, T27, T29, T51, T53, T62, T65, T66, T68, T72, T78, T145, rp, s0, iRs_len]); (first | exact rfl | refine ⟨?_, rfl⟩; try omega)) | refine VCg.gstep T rfl rfl rfl rfl ?_; try simp only [GB] | (refine VCo.step T rfl rfl (fun K hK => ?_)); (try simp (disch := omega) only [WB, lookD, Nat.reduceBEq, T3, T5, T9, T22, T23, T25, T26, T27, T29, T51, T53, T62, T65, T66, T68, T72, T78, T145, hd]); (refine hK _ _ ?_; clear hK K) | refine VCo.gstep rfl rfl rfl rfl rfl ?_; try simp only [GB] | refine VC.region ?_ | refine VC.seq' ?_ | refine VC.block ?_ | (first | refine VCo.nil ?_ | refine VC.skip ?_ | refine VC.ret ?_); (try simp only [QB]) | refine ret1 T (List.nil_sublist _) ?_; (try simp only [upd, Nat.reduceBEq, cond_true, cond_false, and_true]) | refine VC.cond rfl ?_; (try simp only [gsplit_true])
  have s0 : decide (p < 0) = false := by simpa using q0
  by_cases q1 : p ≥ (rw0.length : Int)
  · have s1 : decide (p ≥ (rw0.length : Int)) = true := by simpa using q1
    rw [bad (by rw [hT]; simp; omega)]
    repeat' first | refine VC.draw (id := 7) T 58 (by kernel_rfl) (by kernel_rfl) (by kernel_rfl) ?_ | refine VCg.nil T ?_; simp only [allK, WB] | (first | apply VCg.step T rfl rfl | apply exF); focus ((try simp (disch := omega) only [WB, Nat.reduceBEq, T3, T5, T9, T22, T23, T25, T26, T27, T29, T51, T53, T62, T65, T66, T68, T72, T78, T145, rr, rp, s0, s1, iRs_len, codeRs_len, insRs_len]); (first | exact rfl | refine ⟨?_, rfl⟩; try omega)) | refine VCg.gstep T rfl rfl rfl rfl ?_; try simp only [GB] | (refine VCo.step T rfl rfl (fun K hK => ?_)); (try simp (disch := omega) only [WB, lookD, Nat.reduceBEq, T3, T5, T9, T22, T23, T25, T26, T27, T29, T51, T53, T62, T65, T66, T68, T72, T78, T145, hd]); (refine hK _ _ ?_; clear hK K) | refine VCo.gstep rfl rfl rfl rfl rfl ?_; try simp only [GB] | refine VC.region ?_ | refine VC.seq' ?_ | refine VC.block ?_ | (first | refine VCo.nil ?_ | refine VC.skip ?_ | refine VC.ret ?_); (try simp only [QB]) | refine ret1 T (List.nil_sublist _) ?_; (try simp only [upd, Nat.reduceBEq, cond_true, cond_false, and_true]) | refine VC.cond rfl ?_; (try simp only [gsplit_true])
  have s1 : decide (p ≥ (rw0.length : Int)) = false := by simpa using q1
  by_cases q2 : (row.length : Int) ≠ n
  · have s2 : ((row.length : Int) != n) = true := by simpa using q2
    rw [bad (by rw [hT]; simp; omega)]
    repeat' first | refine VC.draw (id := 7) T 58 (by kernel_rfl) (by kernel_rfl) (by kernel_rfl) ?_ | refine VCg.nil T ?_; simp only [allK, WB] | (first | apply VCg.step T rfl rfl | apply exF); focus ((try simp (disch := omega) only [WB, Nat.reduceBEq, T3, T5, T9, T22, T23, T25, T26, T27, T29, T51, T53, T62, T65, T66, T68, T72, T78, T145, rn, rr, rp, rg, s0, s1, s2, iRs_len, rowsI_len, codeRs_len, insRs_len]); (first | exact rfl | refine ⟨?_, rfl⟩; try omega)) | refine VCg.gstep T rfl rfl rfl rfl ?_; try simp only [GB] | (refine VCo.step T rfl rfl (fun K hK => ?_)); (try simp (disch := omega) only [WB, lookD, Nat.reduceBEq, T3, T5, T9, T22, T23, T25, T26, T27, T29, T51, T53, T62, T65, T66, T68, T72, T78, T145, hd]); (refine hK _ _ ?_; clear hK K) | refine VCo.gstep rfl rfl rfl rfl rfl ?_; try simp only [GB] | refine VC.region ?_ | refine VC.seq' ?_ | refine VC.block ?_ | (first | refine VCo.nil ?_ | refine VC.skip ?_ | refine VC.ret ?_); (try simp only [QB]) | refine ret1 T (List.nil_sublist _) ?_; (try simp only [upd, Nat.reduceBEq, cond_true, cond_false, and_true]) | refine VC.cond rfl ?_; (try simp only [gsplit_true])
  have s2 : ((row.length : Int) != n) = false := by simpa using q2
  cases hA : allB row u.md with
  | false =>
    rw [hA] at c1
    rw [bad (by rw [hT, hA]; simp)]
    repeat' first | refine VC.draw (id := 7) T 58 (by kernel_rfl) (by kernel_rfl) (by kernel_rfl) ?_ | refine VCg.nil T ?_; simp only [allK, WB] | (first | apply VCg.step T rfl rfl | apply exF); focus ((try simp (disch := omega) only [WB, Nat.reduceBEq, T3, T5, T9, T22, T23, T25, T26, T27, T29, T51, T53, T62, T65, T66, T68, T72, T78, T145, rn, rr, rp, rg, s0, s1, s2, Bool.not_false, iRs_len, rowsI_len, codeRs_len, insRs_len]); (first | exact rfl | refine ⟨?_, rfl⟩; try omega | refine Op1.callp rfl rfl (c1) rfl ?_; exact ⟨rfl, rfl⟩)) | refine VCg.gstep T rfl rfl rfl rfl ?_; try simp only [GB] | (refine VCo.step T rfl rfl (fun K hK => ?_)); (try simp (disch := omega) only [WB, lookD, Nat.reduceBEq, T3, T5, T9, T22, T23, T25, T26, T27, T29, T51, T53, T62, T65, T66, T68, T72, T78, T145, hd]); (refine hK _ _ ?_; clear hK K) | refine VCo.gstep rfl rfl rfl rfl rfl ?_; try simp only [GB] | refine VC.region ?_ | refine VC.seq' ?_ | refine VC.block ?_ | (first | refine VCo.nil ?_ | refine VC.skip ?_ | refine VC.ret ?_); (try simp only [QB]) | refine ret1 T (List.nil_sublist _) ?_; (try simp only [upd, Nat.reduceBEq, cond_true, cond_false, and_true]) | refine VC.cond rfl ?_; (try simp only [gsplit_true])
  | true =>
  rw [hA] at c1
  cases hB : rightR m r u.md u.init.length b with
  | false =>
    rw [hB] at c2
    rw [bad (by rw [hT, hB]; simp)]
    repeat' first | refine VC.draw (id := 7) T 58 (by kernel_rfl) (by kernel_rfl) (by kernel_rfl) ?_ | refine VCg.nil T ?_; simp only [allK, WB] | (first | apply VCg.step T rfl rfl | apply exF); focus ((try simp (disch := omega) only [WB, Nat.reduceBEq, T3, T5, T9, T22, T23, T25, T26, T27, T29, T51, T53, T62, T65, T66, T68, T72, T78, T145, rn, rr, rp, rg, rb, s0, s1, s2, Bool.not_true, iRs_len, rowsI_len, bufsR_len, codeRs_len, insRs_len]); (first | exact rfl | refine ⟨?_, rfl⟩; try omega | refine Op1.callp rfl rfl (c1) rfl ?_; exact ⟨rfl, rfl⟩)) | refine VCg.gstep T rfl rfl rfl rfl ?_; try simp only [GB] | (first | refine VCo.step T rfl rfl (fun K hK => ?_) | refine VCr.step T rfl (fun K hK => ?_)); (try simp (disch := omega) only [WB, lookD, Nat.reduceBEq, T3, T5, T9, T22, T23, T25, T26, T27, T29, T51, T53, T62, T65, T66, T68, T72, T78, T145, hd, Bool.not_false]); (first | refine hK _ _ ?_; clear hK K | refine Op1.callp rfl rfl (c2) rfl ?_; refine hK _ _ ?_; clear hK K) | refine VCo.gstep rfl rfl rfl rfl rfl ?_; try simp only [GB] | refine VC.region ?_ | refine VC.seq' ?_ | refine VC.block ?_ | (first | refine VCo.nil ?_ | refine VC.skip ?_ | refine VC.ret ?_); (try simp only [QB]) | refine ret1 T (List.nil_sublist _) ?_; (try simp only [upd, Nat.reduceBEq, cond_true, cond_false, and_true]) | refine VC.cond rfl ?_; (try simp only [gsplit_true])
  | true =>
  rw [hB] at c2
  have hTt : thrB u c m r t = true := by rw [hT, hA, hB]; simp; omega
  repeat' first | refine VC.draw (id := 7) T 58 (by kernel_rfl) (by kernel_rfl) (by kernel_rfl) ?_ | refine VCg.nil T ?_; simp only [allK, WB] | (first | apply VCg.step T rfl rfl | apply exF); focus ((try simp (disch := omega) only [WB, lookD, Nat.reduceBEq, T3, T5, T9, T22, T23, T25, T26, T27, T29, T51, T53, T62, T65, T66, T68, T72, T78, T145, rn, rr, rp, rg, rb, s0, s1, s2, Bool.not_true, iRs_len, rowsI_len, bufsR_len, codeRs_len, insRs_len]); (first | exact rfl | refine ⟨?_, rfl⟩; try omega | refine Op1.callp rfl rfl (c1) rfl ?_; exact ⟨rfl, rfl⟩)) | refine VCg.gstep T rfl rfl rfl rfl ?_; try simp only [GB] | (first | refine VCo.step T rfl rfl (fun K hK => ?_) | refine VCr.step T rfl (fun K hK => ?_)); (try simp (disch := omega) only [WB, lookD, Nat.reduceBEq, T3, T5, T9, T22, T23, T25, T26, T27, T29, T51, T53, T62, T65, T66, T68, T72, T78, T145, hd, hw, Bool.not_true]); (first | refine hK _ _ ?_; clear hK K | refine Op1.callp rfl rfl (c2) rfl ?_; refine hK _ _ ?_; clear hK K) | refine VCo.gstep rfl rfl rfl rfl rfl ?_; try simp only [GB] | refine VC.region ?_ | refine VC.seq' ?_ | refine VC.block ?_ | (first | refine VCo.nil ?_ | refine VC.skip ?_); (try simp only [QB]) | refine VC.cond rfl ?_; (try simp only [gsplit_true, gsplit_false])
  refine ⟨⟨t + 1, by omega, fun j hj => ?_⟩, Weak.sub ?_, by simp only []; omega⟩
  · rcases Nat.lt_or_ge j t with h' | h'
    · exact hs j h'
    · obtain rfl : j = t := by omega
      exact hTt
  · simp [sub, upd]
end Go.Proofs.YtlnmljmeahknaaaGreat
