/- The walk of StepKeeps. No condition. -/
import Derived.Test.YtlnmljmeahknaaaZq
namespace Go.Proofs.Ytlnmljmeahknaaa
set_option linter.unusedSimpArgs false
set_option linter.unusedVariables false
set_option maxRecDepth 20000
open Go Go.Proofs Go.Vc

set_option maxHeartbeats 16000000 in
theorem lawKeeps (u : Un) (c : Cf) (m r t l : Int) : Pure Try.prog 8 [.agg (caC u c m r t l)] (bD true) := by
  have c0 := right10_ok u c m r t l
  have ck := known10_ok
  refine Fun.of T [.tmp 2] Try.func8 rfl Try.ntmps8 Try.results8 rfl (by kernel_rfl) ?_
  cases hR : rightK u c m r with
  | false =>
    rw [hR] at c0
    repeat' first
      | (refine VCo.stepO rfl rfl (fun K hK => r_boxR (t := 48) rfl rfl rfl (hK _ _ ?_)); (try simp only [updO]))
      | (refine VC.draw (id := 12) T 43 (by kernel_rfl) (by kernel_rfl) (by kernel_rfl) ?_)
      | (refine VCg.nil T ?_; simp only [allK, WB, Nat.reduceAdd]; try (refine fun (bq : Nat) hbq => ?_; (try simp only [HB] at hbq)))
      | ((first | apply VCg.step T rfl rfl | apply exF); focus ((try simp (disch := omega) only [WB, lookD, argE, fillD, setL, rowsOf, Nat.reduceBEq, Nat.reduceAdd, Nat.reduceMul, Nat.reduceSub, Nat.reduceLeDiff, Int.reduceToNat, T3, T4, T5, T9, T22, T25, T31, T40, T42, T43, T44, T46, T48, T60, T62, T63, T76, T97, T100, T113, Bool.not_false]); (first | exact rfl | exact ⟨rfl, rfl⟩ | (refine ⟨?_, rfl⟩; try (first | omega | exact ⟨rfl, by decide⟩ | exact rfl)) | (refine Op1.callp rfl rfl (c0) rfl ?_; exact ⟨rfl, rfl⟩) | (refine Op1.callp rfl rfl (ck) rfl ?_; exact ⟨rfl, rfl⟩))))
      | (refine VCg.gstep T rfl rfl rfl rfl ?_; try simp only [GB])
      | (refine VCg.gundef T rfl rfl rfl rfl ?_; try simp only [updO])
      | ((first | refine VCo.step T rfl rfl (fun K hK => ?_) | refine VCr.step T rfl (fun K hK => ?_)); (try simp (disch := omega) only [WB, lookD, argE, fillD, setL, rowsOf, Nat.reduceBEq, Nat.reduceAdd, Nat.reduceMul, Nat.reduceSub, Nat.reduceLeDiff, Int.reduceToNat, T3, T4, T5, T9, T22, T25, T31, T40, T42, T43, T44, T46, T48, T60, T62, T63, T76, T97, T100, T113, Bool.not_false]); (first | (refine hK _ _ ?_; clear hK K) | (intro bq hbq; (try simp only [HB] at hbq); refine hK _ _ ?_; clear hK K) | (refine ⟨?_, hK _ _ ?_⟩ <;> clear hK K; focus (try (first | omega | exact ⟨rfl, by decide⟩ | exact rfl))) | (refine ⟨_, ?_, hK _ _ ?_⟩ <;> clear hK K) | (refine Op1.callp rfl rfl (c0) rfl ?_; refine hK _ _ ?_; clear hK K) | (refine Op1.callp rfl rfl (ck) rfl ?_; refine hK _ _ ?_; clear hK K) | skip))
      | (refine VCo.gstep rfl rfl rfl rfl rfl ?_; try simp only [GB])
      | (refine VCo.gundef rfl rfl rfl rfl rfl ?_; try simp only [updO])
      | (first | refine VC.region ?_ | refine VC.seq' ?_ | refine VC.block ?_)
      | ((first | refine VCo.nil ?_ | refine VC.skip ?_ | refine VC.ret ?_ | refine VC.exit ?_); (try simp only [QB, Nat.reduceBEq]))
      | (refine ret1 T (List.nil_sublist _) ?_; (try simp only [upd, Nat.reduceBEq, cond_true, cond_false, and_true]))
      | (refine VC.cond rfl ?_; (try simp only [Bool.not_false, gsplit_true, gsplit_false]))
      | (refine gsplit_intro (fun hc => ?_) (fun hc => ?_) <;> (simp only [GB]))
  | true =>
  rw [hR] at c0
  have h := rtK hR
  have kp := h.okC.pc
  have hl := h.lens
  repeat' first
    | (refine VCo.stepO rfl rfl (fun K hK => r_boxR (t := 48) rfl rfl rfl (hK _ _ ?_)); (try simp only [updO]))
    | (refine VC.draw (id := 12) T 43 (by kernel_rfl) (by kernel_rfl) (by kernel_rfl) ?_)
    | (refine VCg.nil T ?_; simp only [allK, WB, Nat.reduceAdd]; try (refine fun (bq : Nat) hbq => ?_; (try simp only [HB] at hbq)))
    | ((first | apply VCg.step T rfl rfl | apply exF); focus ((try simp (disch := omega) only [WB, lookD, argE, fillD, setL, rowsOf, Nat.reduceBEq, Nat.reduceAdd, Nat.reduceMul, Nat.reduceSub, Nat.reduceLeDiff, Int.reduceToNat, T3, T4, T5, T9, T22, T25, T31, T40, T42, T43, T44, T46, T48, T60, T62, T63, T76, T97, T100, T113, Bool.not_true]); (first | exact rfl | exact ⟨rfl, rfl⟩ | (refine ⟨?_, rfl⟩; try (first | omega | exact ⟨rfl, by decide⟩ | exact rfl)) | (refine Op1.callp rfl rfl (c0) rfl ?_; exact ⟨rfl, rfl⟩))))
    | (refine VCg.gstep T rfl rfl rfl rfl ?_; try simp only [GB])
    | (refine VCg.gundef T rfl rfl rfl rfl ?_; try simp only [updO])
    | ((first | refine VCo.step T rfl rfl (fun K hK => ?_) | refine VCr.step T rfl (fun K hK => ?_)); (try simp (disch := omega) only [WB, lookD, argE, fillD, setL, rowsOf, Nat.reduceBEq, Nat.reduceAdd, Nat.reduceMul, Nat.reduceSub, Nat.reduceLeDiff, Int.reduceToNat, T3, T4, T5, T9, T22, T25, T31, T40, T42, T43, T44, T46, T48, T60, T62, T63, T76, T97, T100, T113, Bool.not_true]); (first | (refine hK _ _ ?_; clear hK K) | (intro bq hbq; (try simp only [HB] at hbq); refine hK _ _ ?_; clear hK K) | (refine ⟨?_, hK _ _ ?_⟩ <;> clear hK K; focus (try (first | omega | exact ⟨rfl, by decide⟩ | exact rfl))) | (refine ⟨_, ?_, hK _ _ ?_⟩ <;> clear hK K) | (refine Op1.callp rfl rfl (c0) rfl ?_; refine hK _ _ ?_; clear hK K) | skip))
    | (refine VCo.gstep rfl rfl rfl rfl rfl ?_; try simp only [GB])
    | (refine VCo.gundef rfl rfl rfl rfl rfl ?_; try simp only [updO])
    | (first | refine VC.region ?_ | refine VC.seq' ?_ | refine VC.block ?_)
    | ((first | refine VCo.nil ?_ | refine VC.skip ?_ | refine VC.ret ?_ | refine VC.exit ?_); (try simp only [QB, Nat.reduceBEq]))
    | (refine VC.cond rfl ?_; (try simp only [Bool.not_true, gsplit_true, gsplit_false]))
    | (refine gsplit_intro (fun hc => ?_) (fun hc => ?_) <;> (simp only [GB]))
  refine VC.loop {k : Nat // k ≤ c.pc.length} (fun p => ⟨lookD [(1, .pt (caC u c m r t l)), (3, iD (p.1 : Nat))], []⟩) (fun p => c.pc.length - p.1) ⟨0, by omega⟩ ?_ ?_
  · refine Weak.sub ?_
    simp [sub, upd]
  rintro ⟨k, hk⟩
  dsimp only
  rcases Nat.lt_or_ge k c.pc.length with hlt | hge
  case inr =>
    have hd : decide ((k : Int) < (c.pc.length : Int)) = false := by simp; omega
    repeat' first
      | (refine VC.draw (id := 12) T 43 (by kernel_rfl) (by kernel_rfl) (by kernel_rfl) ?_)
      | (refine VCg.nil T ?_; simp only [allK, WB, Nat.reduceAdd]; try (refine fun (bq : Nat) hbq => ?_; (try simp only [HB] at hbq)))
      | ((first | apply VCg.step T rfl rfl | apply exF); focus ((try simp (disch := omega) only [WB, lookD, argE, fillD, setL, rowsOf, Nat.reduceBEq, Nat.reduceAdd, Nat.reduceMul, Nat.reduceSub, Nat.reduceLeDiff, Int.reduceToNat, T3, T4, T5, T9, T22, T25, T31, T40, T42, T43, T44, T46, T48, T60, T62, T63, T76, T97, T100, T113, hd, iRs_len]); (first | exact rfl | exact ⟨rfl, rfl⟩ | (refine ⟨?_, rfl⟩; try (first | omega | exact ⟨rfl, by decide⟩ | exact rfl)) | (refine Op1.callp rfl rfl (ck) rfl ?_; exact ⟨rfl, rfl⟩))))
      | (refine VCg.gstep T rfl rfl rfl rfl ?_; try simp only [GB])
      | (refine VCg.gundef T rfl rfl rfl rfl ?_; try simp only [updO])
      | ((first | refine VCo.step T rfl rfl (fun K hK => ?_) | refine VCr.step T rfl (fun K hK => ?_)); (try simp (disch := omega) only [WB, lookD, argE, fillD, setL, rowsOf, Nat.reduceBEq, Nat.reduceAdd, Nat.reduceMul, Nat.reduceSub, Nat.reduceLeDiff, Int.reduceToNat, T3, T4, T5, T9, T22, T25, T31, T40, T42, T43, T44, T46, T48, T60, T62, T63, T76, T97, T100, T113, hd, iRs_len]); (first | (refine hK _ _ ?_; clear hK K) | (intro bq hbq; (try simp only [HB] at hbq); refine hK _ _ ?_; clear hK K) | (refine ⟨?_, hK _ _ ?_⟩ <;> clear hK K; focus (try (first | omega | exact ⟨rfl, by decide⟩ | exact rfl))) | (refine ⟨_, ?_, hK _ _ ?_⟩ <;> clear hK K) | (refine Op1.callp rfl rfl (ck) rfl ?_; refine hK _ _ ?_; clear hK K) | skip))
      | (refine VCo.gstep rfl rfl rfl rfl rfl ?_; try simp only [GB])
      | (refine VCo.gundef rfl rfl rfl rfl rfl ?_; try simp only [updO])
      | (first | refine VC.region ?_ | refine VC.seq' ?_ | refine VC.block ?_)
      | ((first | refine VCo.nil ?_ | refine VC.skip ?_ | refine VC.ret ?_ | refine VC.exit ?_); (try simp only [QB, Nat.reduceBEq]))
      | (refine ret1 T (List.nil_sublist _) ?_; (try simp only [upd, Nat.reduceBEq, cond_true, cond_false, and_true]))
      | (refine VC.cond rfl ?_; (try simp only [hd, iRs_len, gsplit_true, gsplit_false]))
      | (refine gsplit_intro (fun hc => ?_) (fun hc => ?_) <;> (simp only [GB]))
  have hd : decide ((k : Int) < (c.pc.length : Int)) = true := by simp; omega
  have hw : IntKind.i64.wrap ((k : Int) + 1) = ((k + 1 : Nat) : Int) := by rw [w64 (by omega)]; omega
  have c1 := actT_ok h (k : Nat)
  have c2 := en_ok h r (k : Nat)
  have hA := h.act (k : Nat)
  have hO := actT_off h k
  have c4 : enT u c m r (k : Nat) = false → Pure Try.prog 28 [.agg (cfC (actT u c m r (k : Nat))), .agg (cfC c)] (bD true) := fun e => by
    rw [actT_no e]
    have := rsame_ok c c h.okC h.okC
    rwa [sameC_refl] at this
  generalize actT u c m r (k : Nat) = a at *
  have c3 := right09_ok u h.okU a hA.okC m r
  rw [hA.rt] at c3
  have hLa := hA.lens
  have hF := h.flush (k : Nat) l
  have c7 := flush_ok c h.okC h.locs m (k : Nat) l
  have c8 := flushes_ok c h.okC.buf m (k : Nat) l
  have c10 : Pure Try.prog 37 [ints (flushC c m (k : Nat) l).pc, ints c.pc] (bD true) := by
    rw [flushC_pc]
    have := ints_ok c.pc c.pc (by omega) (by omega)
    rwa [decide_eq_true rfl] at this
  generalize flushC c m (k : Nat) l = f at *
  have c9 := right09_ok u h.okU f hF.okC m r
  rw [hF.rt] at c9
  cases hE : enT u c m r (k : Nat)
  all_goals rw [hE] at c1 c2
  case' false =>
    have c4 := c4 hE
    repeat' first
      | (refine VC.draw (id := 12) T 43 (by kernel_rfl) (by kernel_rfl) (by kernel_rfl) ?_)
      | (refine VCg.nil T ?_; simp only [allK, WB, Nat.reduceAdd]; try (refine fun (bq : Nat) hbq => ?_; (try simp only [HB] at hbq)))
      | ((first | apply VCg.step T rfl rfl | apply exF); focus ((try simp (disch := omega) only [WB, lookD, argE, fillD, setL, rowsOf, Nat.reduceBEq, Nat.reduceAdd, Nat.reduceMul, Nat.reduceSub, Nat.reduceLeDiff, Int.reduceToNat, T3, T4, T5, T9, T22, T25, T31, T40, T42, T43, T44, T46, T48, T60, T62, T63, T76, T97, T100, T113, hd, bne_self_eq_false, Bool.not_true, Bool.not_false, iRs_len]); (first | exact rfl | exact ⟨rfl, rfl⟩ | (refine ⟨?_, rfl⟩; try (first | omega | exact ⟨rfl, by decide⟩ | exact rfl)) | (refine Op1.callp rfl rfl (c1) rfl ?_; exact ⟨rfl, rfl⟩) | (refine Op1.callp rfl rfl (c2) rfl ?_; exact ⟨rfl, rfl⟩) | (refine Op1.callp rfl rfl (c3) rfl ?_; exact ⟨rfl, rfl⟩) | (refine Op1.callp rfl rfl (c4) rfl ?_; exact ⟨rfl, rfl⟩))))
      | (refine VCg.gstep T rfl rfl rfl rfl ?_; try simp only [GB])
      | (refine VCg.gundef T rfl rfl rfl rfl ?_; try simp only [updO])
      | ((first | refine VCo.step T rfl rfl (fun K hK => ?_) | refine VCr.step T rfl (fun K hK => ?_)); (try simp (disch := omega) only [WB, lookD, argE, fillD, setL, rowsOf, Nat.reduceBEq, Nat.reduceAdd, Nat.reduceMul, Nat.reduceSub, Nat.reduceLeDiff, Int.reduceToNat, T3, T4, T5, T9, T22, T25, T31, T40, T42, T43, T44, T46, T48, T60, T62, T63, T76, T97, T100, T113, hd, bne_self_eq_false, Bool.not_true, Bool.not_false, iRs_len]); (first | (refine hK _ _ ?_; clear hK K) | (intro bq hbq; (try simp only [HB] at hbq); refine hK _ _ ?_; clear hK K) | (refine ⟨?_, hK _ _ ?_⟩ <;> clear hK K; focus (try (first | omega | exact ⟨rfl, by decide⟩ | exact rfl))) | (refine ⟨_, ?_, hK _ _ ?_⟩ <;> clear hK K) | (refine Op1.callp rfl rfl (c1) rfl ?_; refine hK _ _ ?_; clear hK K) | (refine Op1.callp rfl rfl (c2) rfl ?_; refine hK _ _ ?_; clear hK K) | (refine Op1.callp rfl rfl (c3) rfl ?_; refine hK _ _ ?_; clear hK K) | (refine Op1.callp rfl rfl (c4) rfl ?_; refine hK _ _ ?_; clear hK K) | skip))
      | (refine VCo.gstep rfl rfl rfl rfl rfl ?_; try simp only [GB])
      | (refine VCo.gundef rfl rfl rfl rfl rfl ?_; try simp only [updO])
      | (first | refine VC.region ?_ | refine VC.seq' ?_ | refine VC.block ?_)
      | ((first | refine VCo.nil ?_ | refine VC.skip ?_ | refine VC.ret ?_ | refine VC.exit ?_); (try simp only [QB, Nat.reduceBEq]))
      | (refine VC.cond rfl ?_; (try simp only [hd, bne_self_eq_false, Bool.not_true, Bool.not_false, iRs_len, gsplit_true, gsplit_false]))
      | (refine gsplit_intro (fun hc => ?_) (fun hc => ?_) <;> (simp only [GB]))
  case' true =>
    repeat' first
      | (refine VC.draw (id := 12) T 43 (by kernel_rfl) (by kernel_rfl) (by kernel_rfl) ?_)
      | (refine VCg.nil T ?_; simp only [allK, WB, Nat.reduceAdd]; try (refine fun (bq : Nat) hbq => ?_; (try simp only [HB] at hbq)))
      | ((first | apply VCg.step T rfl rfl | apply exF); focus ((try simp (disch := omega) only [WB, lookD, argE, fillD, setL, rowsOf, Nat.reduceBEq, Nat.reduceAdd, Nat.reduceMul, Nat.reduceSub, Nat.reduceLeDiff, Int.reduceToNat, T3, T4, T5, T9, T22, T25, T31, T40, T42, T43, T44, T46, T48, T60, T62, T63, T76, T97, T100, T113, hd, bne_self_eq_false, Bool.not_true, Bool.not_false, iRs_len]); (first | exact rfl | exact ⟨rfl, rfl⟩ | (refine ⟨?_, rfl⟩; try (first | omega | exact ⟨rfl, by decide⟩ | exact rfl)) | (refine Op1.callp rfl rfl (c1) rfl ?_; exact ⟨rfl, rfl⟩) | (refine Op1.callp rfl rfl (c2) rfl ?_; exact ⟨rfl, rfl⟩) | (refine Op1.callp rfl rfl (c3) rfl ?_; exact ⟨rfl, rfl⟩))))
      | (refine VCg.gstep T rfl rfl rfl rfl ?_; try simp only [GB])
      | (refine VCg.gundef T rfl rfl rfl rfl ?_; try simp only [updO])
      | ((first | refine VCo.step T rfl rfl (fun K hK => ?_) | refine VCr.step T rfl (fun K hK => ?_)); (try simp (disch := omega) only [WB, lookD, argE, fillD, setL, rowsOf, Nat.reduceBEq, Nat.reduceAdd, Nat.reduceMul, Nat.reduceSub, Nat.reduceLeDiff, Int.reduceToNat, T3, T4, T5, T9, T22, T25, T31, T40, T42, T43, T44, T46, T48, T60, T62, T63, T76, T97, T100, T113, hd, bne_self_eq_false, Bool.not_true, Bool.not_false, iRs_len]); (first | (refine hK _ _ ?_; clear hK K) | (intro bq hbq; (try simp only [HB] at hbq); refine hK _ _ ?_; clear hK K) | (refine ⟨?_, hK _ _ ?_⟩ <;> clear hK K; focus (try (first | omega | exact ⟨rfl, by decide⟩ | exact rfl))) | (refine ⟨_, ?_, hK _ _ ?_⟩ <;> clear hK K) | (refine Op1.callp rfl rfl (c1) rfl ?_; refine hK _ _ ?_; clear hK K) | (refine Op1.callp rfl rfl (c2) rfl ?_; refine hK _ _ ?_; clear hK K) | (refine Op1.callp rfl rfl (c3) rfl ?_; refine hK _ _ ?_; clear hK K) | skip))
      | (refine VCo.gstep rfl rfl rfl rfl rfl ?_; try simp only [GB])
      | (refine VCo.gundef rfl rfl rfl rfl rfl ?_; try simp only [updO])
      | (first | refine VC.region ?_ | refine VC.seq' ?_ | refine VC.block ?_)
      | ((first | refine VCo.nil ?_ | refine VC.skip ?_ | refine VC.ret ?_ | refine VC.exit ?_); (try simp only [QB, Nat.reduceBEq]))
      | (refine VC.cond rfl ?_; (try simp only [hd, bne_self_eq_false, Bool.not_true, Bool.not_false, iRs_len, gsplit_true, gsplit_false]))
      | (refine gsplit_intro (fun hc => ?_) (fun hc => ?_) <;> (simp only [GB]))
  all_goals
    refine VC.loop {j : Nat // j ≤ c.pc.length} (fun p => ⟨lookD [(1, .pt (caC u c m r t l)), (3, iD (k : Nat)), (4, pD bq), (6, iD (p.1 : Nat))], [(bq, .cells 46 4 (cfC a))]⟩) (fun p => c.pc.length - p.1) ⟨0, by omega⟩ ?_ ?_
    · refine Weak.sub ?_
      simp [sub, upd]
    rintro ⟨j, hj⟩
    dsimp only
    rcases Nat.lt_or_ge j c.pc.length with hlt2 | hge2
    case inr =>
      have hd2 : decide ((j : Int) < (c.pc.length : Int)) = false := by simp; omega
      repeat' first
        | (refine VC.draw (id := 12) T 43 (by kernel_rfl) (by kernel_rfl) (by kernel_rfl) ?_)
        | (refine VCg.nil T ?_; simp only [allK, WB, Nat.reduceAdd]; try (refine fun (bq : Nat) hbq => ?_; (try simp only [HB] at hbq)))
        | ((first | apply VCg.step T rfl rfl | apply exF); focus ((try simp (disch := omega) only [WB, lookD, argE, fillD, setL, rowsOf, Nat.reduceBEq, Nat.reduceAdd, Nat.reduceMul, Nat.reduceSub, Nat.reduceLeDiff, Int.reduceToNat, T3, T4, T5, T9, T22, T25, T31, T40, T42, T43, T44, T46, T48, T60, T62, T63, T76, T97, T100, T113, hd2, hw, bne_self_eq_false, Bool.not_true, Bool.not_false, iRs_len]); (first | exact rfl | exact ⟨rfl, rfl⟩ | (refine ⟨?_, rfl⟩; try (first | omega | exact ⟨rfl, by decide⟩ | exact rfl)) | (refine Op1.callp rfl rfl (c7) rfl ?_; exact ⟨rfl, rfl⟩) | (refine Op1.callp rfl rfl (c8) rfl ?_; exact ⟨rfl, rfl⟩) | (refine Op1.callp rfl rfl (c9) rfl ?_; exact ⟨rfl, rfl⟩) | (refine Op1.callp rfl rfl (c10) rfl ?_; exact ⟨rfl, rfl⟩))))
        | (refine VCg.gstep T rfl rfl rfl rfl ?_; try simp only [GB])
        | (refine VCg.gundef T rfl rfl rfl rfl ?_; try simp only [updO])
        | ((first | refine VCo.step T rfl rfl (fun K hK => ?_) | refine VCr.step T rfl (fun K hK => ?_)); (try simp (disch := omega) only [WB, lookD, argE, fillD, setL, rowsOf, Nat.reduceBEq, Nat.reduceAdd, Nat.reduceMul, Nat.reduceSub, Nat.reduceLeDiff, Int.reduceToNat, T3, T4, T5, T9, T22, T25, T31, T40, T42, T43, T44, T46, T48, T60, T62, T63, T76, T97, T100, T113, hd2, hw, bne_self_eq_false, Bool.not_true, Bool.not_false, iRs_len]); (first | (refine hK _ _ ?_; clear hK K) | (intro bq hbq; (try simp only [HB] at hbq); refine hK _ _ ?_; clear hK K) | (refine ⟨?_, hK _ _ ?_⟩ <;> clear hK K; focus (try (first | omega | exact ⟨rfl, by decide⟩ | exact rfl))) | (refine ⟨_, ?_, hK _ _ ?_⟩ <;> clear hK K) | (refine Op1.callp rfl rfl (c7) rfl ?_; refine hK _ _ ?_; clear hK K) | (refine Op1.callp rfl rfl (c8) rfl ?_; refine hK _ _ ?_; clear hK K) | (refine Op1.callp rfl rfl (c9) rfl ?_; refine hK _ _ ?_; clear hK K) | (refine Op1.callp rfl rfl (c10) rfl ?_; refine hK _ _ ?_; clear hK K) | skip))
        | (refine VCo.gstep rfl rfl rfl rfl rfl ?_; try simp only [GB])
        | (refine VCo.gundef rfl rfl rfl rfl rfl ?_; try simp only [updO])
        | (first | refine VC.region ?_ | refine VC.seq' ?_ | refine VC.block ?_)
        | ((first | refine VCo.nil ?_ | refine VC.skip ?_ | refine VC.ret ?_ | refine VC.exit ?_); (try simp only [QB, Nat.reduceBEq]))
        | (refine VC.cond rfl ?_; (try simp only [hd2, hw, bne_self_eq_false, Bool.not_true, Bool.not_false, iRs_len, gsplit_true, gsplit_false]))
        | (refine gsplit_intro (fun hc => ?_) (fun hc => ?_) <;> (simp only [GB]))
      refine ⟨⟨k + 1, by omega⟩, Weak.subH (List.nil_sublist _) ?_, by dsimp only; omega⟩
      simp [sub, upd]
    have hd2 : decide ((j : Int) < (c.pc.length : Int)) = true := by simp; omega
    have hw2 : IntKind.i64.wrap ((j : Int) + 1) = ((j + 1 : Nat) : Int) := by rw [w64 (by omega)]; omega
    by_cases hjk : j = k
    · have e0 : ((j : Int) != (k : Int)) = false := by simp; omega
      repeat' first
        | (refine VC.draw (id := 12) T 43 (by kernel_rfl) (by kernel_rfl) (by kernel_rfl) ?_)
        | (refine VCg.nil T ?_; simp only [allK, WB, Nat.reduceAdd]; try (refine fun (bq : Nat) hbq => ?_; (try simp only [HB] at hbq)))
        | ((first | apply VCg.step T rfl rfl | apply exF); focus ((try simp (disch := omega) only [WB, lookD, argE, fillD, setL, rowsOf, Nat.reduceBEq, Nat.reduceAdd, Nat.reduceMul, Nat.reduceSub, Nat.reduceLeDiff, Int.reduceToNat, T3, T4, T5, T9, T22, T25, T31, T40, T42, T43, T44, T46, T48, T60, T62, T63, T76, T97, T100, T113, hd2, hw2, e0, iRs_len]); (first | exact rfl | exact ⟨rfl, rfl⟩ | (refine ⟨?_, rfl⟩; try (first | omega | exact ⟨rfl, by decide⟩ | exact rfl)))))
        | (refine VCg.gstep T rfl rfl rfl rfl ?_; try simp only [GB])
        | (refine VCg.gundef T rfl rfl rfl rfl ?_; try simp only [updO])
        | ((first | refine VCo.step T rfl rfl (fun K hK => ?_) | refine VCr.step T rfl (fun K hK => ?_)); (try simp (disch := omega) only [WB, lookD, argE, fillD, setL, rowsOf, Nat.reduceBEq, Nat.reduceAdd, Nat.reduceMul, Nat.reduceSub, Nat.reduceLeDiff, Int.reduceToNat, T3, T4, T5, T9, T22, T25, T31, T40, T42, T43, T44, T46, T48, T60, T62, T63, T76, T97, T100, T113, hd2, hw2, e0, iRs_len]); (first | (refine hK _ _ ?_; clear hK K) | (intro bq hbq; (try simp only [HB] at hbq); refine hK _ _ ?_; clear hK K) | (refine ⟨?_, hK _ _ ?_⟩ <;> clear hK K; focus (try (first | omega | exact ⟨rfl, by decide⟩ | exact rfl))) | (refine ⟨_, ?_, hK _ _ ?_⟩ <;> clear hK K) | skip))
        | (refine VCo.gstep rfl rfl rfl rfl rfl ?_; try simp only [GB])
        | (refine VCo.gundef rfl rfl rfl rfl rfl ?_; try simp only [updO])
        | (first | refine VC.region ?_ | refine VC.seq' ?_ | refine VC.block ?_)
        | ((first | refine VCo.nil ?_ | refine VC.skip ?_ | refine VC.ret ?_ | refine VC.exit ?_); (try simp only [QB, Nat.reduceBEq]))
        | (refine VC.cond rfl ?_; (try simp only [hd2, hw2, e0, iRs_len, gsplit_true, gsplit_false]))
        | (refine gsplit_intro (fun hc => ?_) (fun hc => ?_) <;> (simp only [GB]))
      refine ⟨⟨j + 1, by omega⟩, Weak.sub ?_, by dsimp only; omega⟩
      simp [sub, upd]
    have e0 : ((j : Int) != (k : Int)) = true := by simp; omega
    obtain ⟨o1, o2, o3⟩ := hO j hjk
    obtain ⟨p, hp⟩ : ∃ p, c.pc[j]? = some p := ⟨_, List.getElem?_eq_getElem hlt2⟩
    obtain ⟨row, hro⟩ : ∃ p, c.regs[j]? = some p := ⟨_, List.getElem?_eq_getElem (by omega)⟩
    obtain ⟨b, hb⟩ : ∃ p, c.bufs[j]? = some p := ⟨_, List.getElem?_eq_getElem (by omega)⟩
    have rp : (iRs c.pc)[j]? = some [iD p] := by rw [iRs_at, hp]; rfl
    have rg : (rowsI c.regs)[j]? = some [ints row] := by rw [rowsI_at, hro]; rfl
    have rb : (bufsR c.bufs)[j]? = some [buf b] := by rw [bufsR_at, hb]; rfl
    have rpa : (iRs a.pc)[j]? = some [iD p] := by rw [iRs_at, o1, hp]; rfl
    have rga : (rowsI a.regs)[j]? = some [ints row] := by rw [rowsI_at, o2, hro]; rfl
    have rba : (bufsR a.bufs)[j]? = some [buf b] := by rw [bufsR_at, o3, hb]; rfl
    have hbl := h.okC.buf b (List.mem_of_getElem? hb)
    have hrl := h.okC.row row (List.mem_of_getElem? hro)
    have c11 := ints_ok row row (by omega) (by omega)
    have c12 := same_ok b b (by omega) (by omega)
    rw [decide_eq_true rfl] at c11 c12
    have l1 : j < a.pc.length := by omega
    have l2 : j < c.pc.length := by omega
    have l3 : j < c.regs.length := by omega
    have l4 : j < c.bufs.length := by omega
    have l5 : j < a.regs.length := by omega
    have l6 : j < a.bufs.length := by omega
    repeat' first
      | (refine VC.draw (id := 12) T 43 (by kernel_rfl) (by kernel_rfl) (by kernel_rfl) ?_)
      | (refine VCg.nil T ?_; simp only [allK, WB, Nat.reduceAdd]; try (refine fun (bq : Nat) hbq => ?_; (try simp only [HB] at hbq)))
      | ((first | apply VCg.step T rfl rfl | apply exF); focus ((try simp (disch := omega) only [WB, lookD, argE, fillD, setL, rowsOf, Nat.reduceBEq, Nat.reduceAdd, Nat.reduceMul, Nat.reduceSub, Nat.reduceLeDiff, Int.reduceToNat, T3, T4, T5, T9, T22, T25, T31, T40, T42, T43, T44, T46, T48, T60, T62, T63, T76, T97, T100, T113, hd2, hw2, e0, rp, rg, rb, rpa, rga, rba, bne_self_eq_false, Bool.not_true, Bool.not_false, iRs_len, rowsI_len, bufsR_len]); (first | exact rfl | exact ⟨rfl, rfl⟩ | (refine ⟨?_, rfl⟩; try (first | omega | exact ⟨rfl, by decide⟩ | exact rfl)) | (refine Op1.callp rfl rfl (c11) rfl ?_; exact ⟨rfl, rfl⟩) | (refine Op1.callp rfl rfl (c12) rfl ?_; exact ⟨rfl, rfl⟩))))
      | (refine VCg.gstep T rfl rfl rfl rfl ?_; try simp only [GB])
      | (refine VCg.gundef T rfl rfl rfl rfl ?_; try simp only [updO])
      | ((first | refine VCo.step T rfl rfl (fun K hK => ?_) | refine VCr.step T rfl (fun K hK => ?_)); (try simp (disch := omega) only [WB, lookD, argE, fillD, setL, rowsOf, Nat.reduceBEq, Nat.reduceAdd, Nat.reduceMul, Nat.reduceSub, Nat.reduceLeDiff, Int.reduceToNat, T3, T4, T5, T9, T22, T25, T31, T40, T42, T43, T44, T46, T48, T60, T62, T63, T76, T97, T100, T113, hd2, hw2, e0, rp, rg, rb, rpa, rga, rba, bne_self_eq_false, Bool.not_true, Bool.not_false, iRs_len, rowsI_len, bufsR_len]); (first | (refine hK _ _ ?_; clear hK K) | (intro bq hbq; (try simp only [HB] at hbq); refine hK _ _ ?_; clear hK K) | (refine ⟨?_, hK _ _ ?_⟩ <;> clear hK K; focus (try (first | omega | exact ⟨rfl, by decide⟩ | exact rfl))) | (refine ⟨_, ?_, hK _ _ ?_⟩ <;> clear hK K) | (refine Op1.callp rfl rfl (c11) rfl ?_; refine hK _ _ ?_; clear hK K) | (refine Op1.callp rfl rfl (c12) rfl ?_; refine hK _ _ ?_; clear hK K) | skip))
      | (refine VCo.gstep rfl rfl rfl rfl rfl ?_; try simp only [GB])
      | (refine VCo.gundef rfl rfl rfl rfl rfl ?_; try simp only [updO])
      | (first | refine VC.region ?_ | refine VC.seq' ?_ | refine VC.block ?_)
      | ((first | refine VCo.nil ?_ | refine VC.skip ?_ | refine VC.ret ?_ | refine VC.exit ?_); (try simp only [QB, Nat.reduceBEq]))
      | (refine VC.cond rfl ?_; (try simp only [hd2, hw2, e0, rp, rg, rb, rpa, rga, rba, bne_self_eq_false, Bool.not_true, Bool.not_false, iRs_len, rowsI_len, bufsR_len, gsplit_true, gsplit_false]))
      | (refine gsplit_intro (fun hc => ?_) (fun hc => ?_) <;> (simp only [GB]))
    refine ⟨⟨j + 1, by omega⟩, Weak.sub ?_, by dsimp only; omega⟩
    simp [sub, upd]
end Go.Proofs.Ytlnmljmeahknaaa
