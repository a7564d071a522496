/- The walk of StepRoom. No condition. -/
import Derived.Test.YtlnmljmeahknaaaZq
namespace Go.Proofs.Ytlnmljmeahknaaa
set_option linter.unusedSimpArgs false
set_option linter.unusedVariables false
set_option maxRecDepth 20000
open Go Go.Proofs Go.Vc

set_option maxHeartbeats 8000000 in
theorem lawRoom (u : Un) (c : Cf) (m r t l : Int) : Pure Try.prog 10 [.agg (caC u c m r t l)] (bD true) := by
  have c0 := right10_ok u c m r t l
  have ck := known10_ok
  refine Fun.of T [.tmp 2] Try.func10 rfl Try.ntmps10 Try.results10 rfl (by kernel_rfl) ?_
  cases hR : rightK u c m r with
  | false =>
    rw [hR] at c0
    repeat' first
      | (refine VCo.stepO rfl rfl (fun K hK => r_boxR (t := 48) rfl rfl rfl (hK _ _ ?_)); (try simp only [updO]))
      | ((first | refine VCo.step T rfl rfl (fun K hK => ?_) | refine VCr.step T rfl (fun K hK => ?_)); (try simp (disch := omega) only [WB, lookD, argE, fillD, setL, rowsOf, Nat.reduceBEq, Nat.reduceAdd, Nat.reduceMul, Nat.reduceSub, Nat.reduceLeDiff, Int.reduceToNat, T3, T5, T9, T22, T25, T31, T40, T42, T43, T44, T46, T48, T60, T62, T63, T76, T97, T100, T113, Bool.not_false]); (first | (refine hK _ _ ?_; clear hK K) | (intro bq hbq; (try simp only [HB] at hbq); refine hK _ _ ?_; clear hK K) | (refine ⟨?_, hK _ _ ?_⟩ <;> clear hK K; focus (try (first | omega | exact ⟨rfl, by decide⟩ | exact rfl))) | (refine ⟨_, ?_, hK _ _ ?_⟩ <;> clear hK K) | (refine Op1.callp rfl rfl (c0) rfl ?_; refine hK _ _ ?_; clear hK K) | (refine Op1.callp rfl rfl (ck) rfl ?_; refine hK _ _ ?_; clear hK K) | skip))
      | (refine VCo.gstep rfl rfl rfl rfl rfl ?_; try simp only [GB])
      | (refine VCo.gundef rfl rfl rfl rfl rfl ?_; try simp only [updO])
      | (first | refine VC.region ?_ | refine VC.seq' ?_ | refine VC.block ?_)
      | ((first | refine VCo.nil ?_ | refine VC.skip ?_ | refine VC.ret ?_ | refine VC.exit ?_); (try simp only [QB, Nat.reduceBEq]))
      | (refine ret1 T (List.nil_sublist _) ?_; (try simp only [upd, Nat.reduceBEq, cond_true, cond_false, and_true]))
      | (refine VC.cond rfl ?_; (try simp only [Bool.not_false, gsplit_true, gsplit_false]))
      | (refine gsplit_intro (fun hc => ?_) (fun hc => ?_) <;> (simp only [GB]))
  | true =>
  rw [hR] at c0
  have h := rtK hR
  have kp := h.okC.pc
  repeat' first
    | (refine VCo.stepO rfl rfl (fun K hK => r_boxR (t := 48) rfl rfl rfl (hK _ _ ?_)); (try simp only [updO]))
    | ((first | refine VCo.step T rfl rfl (fun K hK => ?_) | refine VCr.step T rfl (fun K hK => ?_)); (try simp (disch := omega) only [WB, lookD, argE, fillD, setL, rowsOf, Nat.reduceBEq, Nat.reduceAdd, Nat.reduceMul, Nat.reduceSub, Nat.reduceLeDiff, Int.reduceToNat, T3, T5, T9, T22, T25, T31, T40, T42, T43, T44, T46, T48, T60, T62, T63, T76, T97, T100, T113, Bool.not_true]); (first | (refine hK _ _ ?_; clear hK K) | (intro bq hbq; (try simp only [HB] at hbq); refine hK _ _ ?_; clear hK K) | (refine ⟨?_, hK _ _ ?_⟩ <;> clear hK K; focus (try (first | omega | exact ⟨rfl, by decide⟩ | exact rfl))) | (refine ⟨_, ?_, hK _ _ ?_⟩ <;> clear hK K) | (refine Op1.callp rfl rfl (c0) rfl ?_; refine hK _ _ ?_; clear hK K) | skip))
    | (refine VCo.gstep rfl rfl rfl rfl rfl ?_; try simp only [GB])
    | (refine VCo.gundef rfl rfl rfl rfl rfl ?_; try simp only [updO])
    | (first | refine VC.region ?_ | refine VC.seq' ?_ | refine VC.block ?_)
    | ((first | refine VCo.nil ?_ | refine VC.skip ?_ | refine VC.ret ?_ | refine VC.exit ?_); (try simp only [QB, Nat.reduceBEq]))
    | (refine VC.cond rfl ?_; (try simp only [Bool.not_true, gsplit_true, gsplit_false]))
    | (refine gsplit_intro (fun hc => ?_) (fun hc => ?_) <;> (simp only [GB]))
  refine VC.loop {k : Nat // k ≤ c.pc.length} (fun p => ⟨lookD [(1, .pt (caC u c m r t l)), (3, iD (p.1 : Nat))], []⟩) (fun p => c.pc.length - p.1) ⟨0, by omega⟩ ?_ ?_
  · refine Weak.sub ?_
    simp [sub, upd]
  rintro ⟨k, hk⟩
  dsimp only
  rcases Nat.lt_or_ge k c.pc.length with hlt | hge
  · have hd : decide ((k : Int) < (c.pc.length : Int)) = true := by simp; omega
    have hw : IntKind.i64.wrap ((k : Int) + 1) = ((k + 1 : Nat) : Int) := by rw [w64 (by omega)]; omega
    have c1 := en_ok h r (k : Nat)
    have c2 := en_ok h 4 (k : Nat)
    have c3 := actT_ok h (k : Nat)
    have hA := h.act (k : Nat)
    have hq : m = 1 → quietB (actT u c m r (k : Nat)) = true ∧ ∀ l, flushB (actT u c m r (k : Nat)) 1 (k : Nat) l = false := fun e => by
      subst e
      exact ⟨hA.quiet, fun l => hA.still _ _⟩
    have hE4 : enT u c m r (k : Nat) = true → enT u c m 4 (k : Nat) = true := enT_room h.gate.2.2
    generalize actT u c m r (k : Nat) = a at *
    have c4 := rquiet_ok a (by have := hA.okC.bufs; omega)
    have c5 := flushes_ok a hA.okC.buf 1 (k : Nat) (-1)
    have c6 := flushes_ok a hA.okC.buf 1 (k : Nat) 0
    by_cases hm : m = 1
    · have e1 : (m == 1) = true := by simpa using hm
      rw [(hq hm).1] at c4
      rw [(hq hm).2] at c5 c6
      cases hE : enT u c m r (k : Nat) with
      | true =>
        rw [hE] at c1 c3
        rw [hE4 hE] at c2
        repeat' first
          | ((first | refine VCo.step T rfl rfl (fun K hK => ?_) | refine VCr.step T rfl (fun K hK => ?_)); (try simp (disch := omega) only [WB, lookD, argE, fillD, setL, rowsOf, Nat.reduceBEq, Nat.reduceAdd, Nat.reduceMul, Nat.reduceSub, Nat.reduceLeDiff, Int.reduceToNat, T3, T5, T9, T22, T25, T31, T40, T42, T43, T44, T46, T48, T60, T62, T63, T76, T97, T100, T113, hd, hw, e1, iRs_len, Bool.not_true, Bool.not_false]); (first | (refine hK _ _ ?_; clear hK K) | (intro bq hbq; (try simp only [HB] at hbq); refine hK _ _ ?_; clear hK K) | (refine ⟨?_, hK _ _ ?_⟩ <;> clear hK K; focus (try (first | omega | exact ⟨rfl, by decide⟩ | exact rfl))) | (refine ⟨_, ?_, hK _ _ ?_⟩ <;> clear hK K) | (refine Op1.callp rfl rfl (c1) rfl ?_; refine hK _ _ ?_; clear hK K) | (refine Op1.callp rfl rfl (c2) rfl ?_; refine hK _ _ ?_; clear hK K) | (refine Op1.callp rfl rfl (c3) rfl ?_; refine hK _ _ ?_; clear hK K) | (refine Op1.callp rfl rfl (c4) rfl ?_; refine hK _ _ ?_; clear hK K) | (refine Op1.callp rfl rfl (c5) rfl ?_; refine hK _ _ ?_; clear hK K) | (refine Op1.callp rfl rfl (c6) rfl ?_; refine hK _ _ ?_; clear hK K) | skip))
          | (refine VCo.gstep rfl rfl rfl rfl rfl ?_; try simp only [GB])
          | (refine VCo.gundef rfl rfl rfl rfl rfl ?_; try simp only [updO])
          | (first | refine VC.region ?_ | refine VC.seq' ?_ | refine VC.block ?_)
          | ((first | refine VCo.nil ?_ | refine VC.skip ?_ | refine VC.ret ?_ | refine VC.exit ?_); (try simp only [QB, Nat.reduceBEq]))
          | (refine VC.cond rfl ?_; (try simp only [hd, hw, e1, iRs_len, Bool.not_true, Bool.not_false, gsplit_true, gsplit_false]))
          | (refine gsplit_intro (fun hc => ?_) (fun hc => ?_) <;> (simp only [GB]))
        refine ⟨⟨k + 1, by omega⟩, Weak.subH (List.nil_sublist _) ?_, by dsimp only; omega⟩
        simp [sub, upd]
      | false =>
        rw [hE] at c1 c3
        repeat' first
          | ((first | refine VCo.step T rfl rfl (fun K hK => ?_) | refine VCr.step T rfl (fun K hK => ?_)); (try simp (disch := omega) only [WB, lookD, argE, fillD, setL, rowsOf, Nat.reduceBEq, Nat.reduceAdd, Nat.reduceMul, Nat.reduceSub, Nat.reduceLeDiff, Int.reduceToNat, T3, T5, T9, T22, T25, T31, T40, T42, T43, T44, T46, T48, T60, T62, T63, T76, T97, T100, T113, hd, hw, e1, iRs_len, Bool.not_true, Bool.not_false]); (first | (refine hK _ _ ?_; clear hK K) | (intro bq hbq; (try simp only [HB] at hbq); refine hK _ _ ?_; clear hK K) | (refine ⟨?_, hK _ _ ?_⟩ <;> clear hK K; focus (try (first | omega | exact ⟨rfl, by decide⟩ | exact rfl))) | (refine ⟨_, ?_, hK _ _ ?_⟩ <;> clear hK K) | (refine Op1.callp rfl rfl (c1) rfl ?_; refine hK _ _ ?_; clear hK K) | (refine Op1.callp rfl rfl (c3) rfl ?_; refine hK _ _ ?_; clear hK K) | (refine Op1.callp rfl rfl (c4) rfl ?_; refine hK _ _ ?_; clear hK K) | (refine Op1.callp rfl rfl (c5) rfl ?_; refine hK _ _ ?_; clear hK K) | (refine Op1.callp rfl rfl (c6) rfl ?_; refine hK _ _ ?_; clear hK K) | skip))
          | (refine VCo.gstep rfl rfl rfl rfl rfl ?_; try simp only [GB])
          | (refine VCo.gundef rfl rfl rfl rfl rfl ?_; try simp only [updO])
          | (first | refine VC.region ?_ | refine VC.seq' ?_ | refine VC.block ?_)
          | ((first | refine VCo.nil ?_ | refine VC.skip ?_ | refine VC.ret ?_ | refine VC.exit ?_); (try simp only [QB, Nat.reduceBEq]))
          | (refine VC.cond rfl ?_; (try simp only [hd, hw, e1, iRs_len, Bool.not_true, Bool.not_false, gsplit_true, gsplit_false]))
          | (refine gsplit_intro (fun hc => ?_) (fun hc => ?_) <;> (simp only [GB]))
        refine ⟨⟨k + 1, by omega⟩, Weak.subH (List.nil_sublist _) ?_, by dsimp only; omega⟩
        simp [sub, upd]
    · have e1 : (m == 1) = false := by simpa using hm
      cases hE : enT u c m r (k : Nat) with
      | true =>
        rw [hE] at c1 c3
        rw [hE4 hE] at c2
        repeat' first
          | ((first | refine VCo.step T rfl rfl (fun K hK => ?_) | refine VCr.step T rfl (fun K hK => ?_)); (try simp (disch := omega) only [WB, lookD, argE, fillD, setL, rowsOf, Nat.reduceBEq, Nat.reduceAdd, Nat.reduceMul, Nat.reduceSub, Nat.reduceLeDiff, Int.reduceToNat, T3, T5, T9, T22, T25, T31, T40, T42, T43, T44, T46, T48, T60, T62, T63, T76, T97, T100, T113, hd, hw, e1, iRs_len, Bool.not_true, Bool.not_false]); (first | (refine hK _ _ ?_; clear hK K) | (intro bq hbq; (try simp only [HB] at hbq); refine hK _ _ ?_; clear hK K) | (refine ⟨?_, hK _ _ ?_⟩ <;> clear hK K; focus (try (first | omega | exact ⟨rfl, by decide⟩ | exact rfl))) | (refine ⟨_, ?_, hK _ _ ?_⟩ <;> clear hK K) | (refine Op1.callp rfl rfl (c1) rfl ?_; refine hK _ _ ?_; clear hK K) | (refine Op1.callp rfl rfl (c2) rfl ?_; refine hK _ _ ?_; clear hK K) | (refine Op1.callp rfl rfl (c3) rfl ?_; refine hK _ _ ?_; clear hK K) | skip))
          | (refine VCo.gstep rfl rfl rfl rfl rfl ?_; try simp only [GB])
          | (refine VCo.gundef rfl rfl rfl rfl rfl ?_; try simp only [updO])
          | (first | refine VC.region ?_ | refine VC.seq' ?_ | refine VC.block ?_)
          | ((first | refine VCo.nil ?_ | refine VC.skip ?_ | refine VC.ret ?_ | refine VC.exit ?_); (try simp only [QB, Nat.reduceBEq]))
          | (refine VC.cond rfl ?_; (try simp only [hd, hw, e1, iRs_len, Bool.not_true, Bool.not_false, gsplit_true, gsplit_false]))
          | (refine gsplit_intro (fun hc => ?_) (fun hc => ?_) <;> (simp only [GB]))
        refine ⟨⟨k + 1, by omega⟩, Weak.subH (List.nil_sublist _) ?_, by dsimp only; omega⟩
        simp [sub, upd]
      | false =>
        rw [hE] at c1 c3
        repeat' first
          | ((first | refine VCo.step T rfl rfl (fun K hK => ?_) | refine VCr.step T rfl (fun K hK => ?_)); (try simp (disch := omega) only [WB, lookD, argE, fillD, setL, rowsOf, Nat.reduceBEq, Nat.reduceAdd, Nat.reduceMul, Nat.reduceSub, Nat.reduceLeDiff, Int.reduceToNat, T3, T5, T9, T22, T25, T31, T40, T42, T43, T44, T46, T48, T60, T62, T63, T76, T97, T100, T113, hd, hw, e1, iRs_len, Bool.not_true, Bool.not_false]); (first | (refine hK _ _ ?_; clear hK K) | (intro bq hbq; (try simp only [HB] at hbq); refine hK _ _ ?_; clear hK K) | (refine ⟨?_, hK _ _ ?_⟩ <;> clear hK K; focus (try (first | omega | exact ⟨rfl, by decide⟩ | exact rfl))) | (refine ⟨_, ?_, hK _ _ ?_⟩ <;> clear hK K) | (refine Op1.callp rfl rfl (c1) rfl ?_; refine hK _ _ ?_; clear hK K) | (refine Op1.callp rfl rfl (c3) rfl ?_; refine hK _ _ ?_; clear hK K) | skip))
          | (refine VCo.gstep rfl rfl rfl rfl rfl ?_; try simp only [GB])
          | (refine VCo.gundef rfl rfl rfl rfl rfl ?_; try simp only [updO])
          | (first | refine VC.region ?_ | refine VC.seq' ?_ | refine VC.block ?_)
          | ((first | refine VCo.nil ?_ | refine VC.skip ?_ | refine VC.ret ?_ | refine VC.exit ?_); (try simp only [QB, Nat.reduceBEq]))
          | (refine VC.cond rfl ?_; (try simp only [hd, hw, e1, iRs_len, Bool.not_true, Bool.not_false, gsplit_true, gsplit_false]))
          | (refine gsplit_intro (fun hc => ?_) (fun hc => ?_) <;> (simp only [GB]))
        refine ⟨⟨k + 1, by omega⟩, Weak.subH (List.nil_sublist _) ?_, by dsimp only; omega⟩
        simp [sub, upd]
  have hd : decide ((k : Int) < (c.pc.length : Int)) = false := by simp; omega
  repeat' first
    | ((first | refine VCo.step T rfl rfl (fun K hK => ?_) | refine VCr.step T rfl (fun K hK => ?_)); (try simp (disch := omega) only [WB, lookD, argE, fillD, setL, rowsOf, Nat.reduceBEq, Nat.reduceAdd, Nat.reduceMul, Nat.reduceSub, Nat.reduceLeDiff, Int.reduceToNat, T3, T5, T9, T22, T25, T31, T40, T42, T43, T44, T46, T48, T60, T62, T63, T76, T97, T100, T113, hd, iRs_len]); (first | (refine hK _ _ ?_; clear hK K) | (intro bq hbq; (try simp only [HB] at hbq); refine hK _ _ ?_; clear hK K) | (refine ⟨?_, hK _ _ ?_⟩ <;> clear hK K; focus (try (first | omega | exact ⟨rfl, by decide⟩ | exact rfl))) | (refine ⟨_, ?_, hK _ _ ?_⟩ <;> clear hK K) | (refine Op1.callp rfl rfl (ck) rfl ?_; refine hK _ _ ?_; clear hK K) | skip))
    | (refine VCo.gstep rfl rfl rfl rfl rfl ?_; try simp only [GB])
    | (refine VCo.gundef rfl rfl rfl rfl rfl ?_; try simp only [updO])
    | (first | refine VC.region ?_ | refine VC.seq' ?_ | refine VC.block ?_)
    | ((first | refine VCo.nil ?_ | refine VC.skip ?_ | refine VC.ret ?_ | refine VC.exit ?_); (try simp only [QB, Nat.reduceBEq]))
    | (refine ret1 T (List.nil_sublist _) ?_; (try simp only [upd, Nat.reduceBEq, cond_true, cond_false, and_true]))
    | (refine VC.cond rfl ?_; (try simp only [hd, iRs_len, gsplit_true, gsplit_false]))
    | (refine gsplit_intro (fun hc => ?_) (fun hc => ?_) <;> (simp only [GB]))
end Go.Proofs.Ytlnmljmeahknaaa
