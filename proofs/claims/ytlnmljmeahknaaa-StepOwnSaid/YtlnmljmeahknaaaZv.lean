/- The walk of StepOwn. No condition. -/
import Derived.Test.YtlnmljmeahknaaaZq
namespace Go.Proofs.Ytlnmljmeahknaaa
set_option linter.unusedSimpArgs false
set_option linter.unusedVariables false
set_option maxRecDepth 20000
open Go Go.Proofs Go.Vc

set_option maxHeartbeats 16000000 in
theorem lawOwn (u : Un) (c : Cf) (m r t l : Int) : Pure Try.prog 9 [.agg (caC u c m r t l)] (bD true) := by
  have c0 := right10_ok u c m r t l
  have ck := known10_ok
  refine Fun.of T [.tmp 2] Try.func9 rfl Try.ntmps9 Try.results9 rfl (by kernel_rfl) ?_
  cases hR : rightK u c m r with
  | false =>
    rw [hR] at c0
    repeat' first
      | (refine VCo.stepO rfl rfl (fun K hK => r_boxR (t := 48) rfl rfl rfl (hK _ _ ?_)); (try simp only [updO]))
      | (refine VC.draw (id := 3) T 17 (by kernel_rfl) (by kernel_rfl) (by kernel_rfl) ?_)
      | (refine VC.draw (id := 20) T 14 (by kernel_rfl) (by kernel_rfl) (by kernel_rfl) ?_)
      | (refine VCg.nil T ?_; simp only [allK, WB, Nat.reduceAdd, T62]; try (refine fun (bq : Nat) hbq => ?_; (try simp only [HB] at hbq)))
      | ((first | apply VCg.step T rfl rfl | apply exF); focus ((try simp (disch := omega) only [WB, lookD, argE, fillD, setL, rowsOf, Nat.reduceBEq, Nat.reduceAdd, Nat.reduceMul, Nat.reduceSub, Nat.reduceLeDiff, Int.reduceToNat, T3, T5, T9, T22, T25, T31, T40, T42, T43, T44, T46, T48, T60, T62, T63, T76, T97, T100, T113, Bool.not_false]); (first | exact rfl | exact ⟨rfl, rfl⟩ | (refine ⟨?_, rfl⟩; try (first | omega | exact ⟨rfl, by decide⟩ | exact rfl)) | (refine Op1.callp rfl rfl (c0) rfl ?_; exact ⟨rfl, rfl⟩) | (refine Op1.callp rfl rfl (ck) rfl ?_; exact ⟨rfl, rfl⟩))))
      | (refine VCg.alloc T rfl rfl rfl rfl rfl ?_)
      | (refine VCg.gstep T rfl rfl rfl rfl ?_; try simp only [GB])
      | (refine VCg.gundef T rfl rfl rfl rfl ?_; try simp only [updO])
      | ((first | refine VCo.step T rfl rfl (fun K hK => ?_) | refine VCr.step T rfl (fun K hK => ?_)); (try simp (disch := omega) only [WB, lookD, argE, fillD, setL, rowsOf, Nat.reduceBEq, Nat.reduceAdd, Nat.reduceMul, Nat.reduceSub, Nat.reduceLeDiff, Int.reduceToNat, T3, T5, T9, T22, T25, T31, T40, T42, T43, T44, T46, T48, T60, T62, T63, T76, T97, T100, T113, Bool.not_false]); (first | (refine hK _ _ ?_; clear hK K) | (intro bq hbq; (try simp only [HB] at hbq); refine hK _ _ ?_; clear hK K) | (refine ⟨?_, hK _ _ ?_⟩ <;> clear hK K; focus (try (first | omega | exact ⟨rfl, by decide⟩ | exact rfl))) | (refine ⟨_, ?_, hK _ _ ?_⟩ <;> clear hK K) | (refine Op1.callp rfl rfl (c0) rfl ?_; refine hK _ _ ?_; clear hK K) | (refine Op1.callp rfl rfl (ck) rfl ?_; refine hK _ _ ?_; clear hK K) | skip))
      | (refine VCo.gstep rfl rfl rfl rfl rfl ?_; try simp only [GB])
      | (refine VCo.gundef rfl rfl rfl rfl rfl ?_; try simp only [updO])
      | (first | refine VC.region ?_ | refine VC.seq' ?_ | refine VC.block ?_)
      | ((first | refine VCo.nil ?_ | refine VC.skip ?_ | refine VC.ret ?_ | refine VC.exit ?_); (try simp only [QB, Nat.reduceBEq]))
      | (refine ret1 T (List.nil_sublist _) ?_; (try simp only [upd, Nat.reduceBEq, cond_true, cond_false, and_true]))
      | (refine VC.cond rfl ?_; (try simp only [Bool.not_false, gsplit_true, gsplit_false]))
      | (refine gsplit_intro (fun hc => ?_) (fun hc => ?_) <;> (simp only [GB]))
  | true =>
  rw [hR] at c0
  have h := rtK hR
  have kp := h.okC.pc
  have km := h.okC.mem
  have hl := h.lens
  by_cases h1 : t < 0
  · have e1 : decide (t < 0) = true := by simpa using h1
    repeat' first
      | (refine VCo.stepO rfl rfl (fun K hK => r_boxR (t := 48) rfl rfl rfl (hK _ _ ?_)); (try simp only [updO]))
      | (refine VC.draw (id := 3) T 17 (by kernel_rfl) (by kernel_rfl) (by kernel_rfl) ?_)
      | (refine VC.draw (id := 20) T 14 (by kernel_rfl) (by kernel_rfl) (by kernel_rfl) ?_)
      | (refine VCg.nil T ?_; simp only [allK, WB, Nat.reduceAdd, T62]; try (refine fun (bq : Nat) hbq => ?_; (try simp only [HB] at hbq)))
      | ((first | apply VCg.step T rfl rfl | apply exF); focus ((try simp (disch := omega) only [WB, lookD, argE, fillD, setL, rowsOf, Nat.reduceBEq, Nat.reduceAdd, Nat.reduceMul, Nat.reduceSub, Nat.reduceLeDiff, Int.reduceToNat, T3, T5, T9, T22, T25, T31, T40, T42, T43, T44, T46, T48, T60, T62, T63, T76, T97, T100, T113, e1, Bool.not_true]); (first | exact rfl | exact ⟨rfl, rfl⟩ | (refine ⟨?_, rfl⟩; try (first | omega | exact ⟨rfl, by decide⟩ | exact rfl)) | (refine Op1.callp rfl rfl (c0) rfl ?_; exact ⟨rfl, rfl⟩) | (refine Op1.callp rfl rfl (ck) rfl ?_; exact ⟨rfl, rfl⟩))))
      | (refine VCg.alloc T rfl rfl rfl rfl rfl ?_)
      | (refine VCg.gstep T rfl rfl rfl rfl ?_; try simp only [GB])
      | (refine VCg.gundef T rfl rfl rfl rfl ?_; try simp only [updO])
      | ((first | refine VCo.step T rfl rfl (fun K hK => ?_) | refine VCr.step T rfl (fun K hK => ?_)); (try simp (disch := omega) only [WB, lookD, argE, fillD, setL, rowsOf, Nat.reduceBEq, Nat.reduceAdd, Nat.reduceMul, Nat.reduceSub, Nat.reduceLeDiff, Int.reduceToNat, T3, T5, T9, T22, T25, T31, T40, T42, T43, T44, T46, T48, T60, T62, T63, T76, T97, T100, T113, e1, Bool.not_true]); (first | (refine hK _ _ ?_; clear hK K) | (intro bq hbq; (try simp only [HB] at hbq); refine hK _ _ ?_; clear hK K) | (refine ⟨?_, hK _ _ ?_⟩ <;> clear hK K; focus (try (first | omega | exact ⟨rfl, by decide⟩ | exact rfl))) | (refine ⟨_, ?_, hK _ _ ?_⟩ <;> clear hK K) | (refine Op1.callp rfl rfl (c0) rfl ?_; refine hK _ _ ?_; clear hK K) | (refine Op1.callp rfl rfl (ck) rfl ?_; refine hK _ _ ?_; clear hK K) | skip))
      | (refine VCo.gstep rfl rfl rfl rfl rfl ?_; try simp only [GB])
      | (refine VCo.gundef rfl rfl rfl rfl rfl ?_; try simp only [updO])
      | (first | refine VC.region ?_ | refine VC.seq' ?_ | refine VC.block ?_)
      | ((first | refine VCo.nil ?_ | refine VC.skip ?_ | refine VC.ret ?_ | refine VC.exit ?_); (try simp only [QB, Nat.reduceBEq]))
      | (refine ret1 T (List.nil_sublist _) ?_; (try simp only [upd, Nat.reduceBEq, cond_true, cond_false, and_true]))
      | (refine VC.cond rfl ?_; (try simp only [e1, Bool.not_true, gsplit_true, gsplit_false]))
      | (refine gsplit_intro (fun hc => ?_) (fun hc => ?_) <;> (simp only [GB]))
  have e1 : decide (t < 0) = false := by simpa using h1
  by_cases h2 : t ≥ (c.pc.length : Int)
  · have e2 : decide (t ≥ (c.pc.length : Int)) = true := by simpa using h2
    repeat' first
      | (refine VCo.stepO rfl rfl (fun K hK => r_boxR (t := 48) rfl rfl rfl (hK _ _ ?_)); (try simp only [updO]))
      | (refine VC.draw (id := 3) T 17 (by kernel_rfl) (by kernel_rfl) (by kernel_rfl) ?_)
      | (refine VC.draw (id := 20) T 14 (by kernel_rfl) (by kernel_rfl) (by kernel_rfl) ?_)
      | (refine VCg.nil T ?_; simp only [allK, WB, Nat.reduceAdd, T62]; try (refine fun (bq : Nat) hbq => ?_; (try simp only [HB] at hbq)))
      | ((first | apply VCg.step T rfl rfl | apply exF); focus ((try simp (disch := omega) only [WB, lookD, argE, fillD, setL, rowsOf, Nat.reduceBEq, Nat.reduceAdd, Nat.reduceMul, Nat.reduceSub, Nat.reduceLeDiff, Int.reduceToNat, T3, T5, T9, T22, T25, T31, T40, T42, T43, T44, T46, T48, T60, T62, T63, T76, T97, T100, T113, e1, e2, iRs_len, Bool.not_true]); (first | exact rfl | exact ⟨rfl, rfl⟩ | (refine ⟨?_, rfl⟩; try (first | omega | exact ⟨rfl, by decide⟩ | exact rfl)) | (refine Op1.callp rfl rfl (c0) rfl ?_; exact ⟨rfl, rfl⟩) | (refine Op1.callp rfl rfl (ck) rfl ?_; exact ⟨rfl, rfl⟩))))
      | (refine VCg.alloc T rfl rfl rfl rfl rfl ?_)
      | (refine VCg.gstep T rfl rfl rfl rfl ?_; try simp only [GB])
      | (refine VCg.gundef T rfl rfl rfl rfl ?_; try simp only [updO])
      | ((first | refine VCo.step T rfl rfl (fun K hK => ?_) | refine VCr.step T rfl (fun K hK => ?_)); (try simp (disch := omega) only [WB, lookD, argE, fillD, setL, rowsOf, Nat.reduceBEq, Nat.reduceAdd, Nat.reduceMul, Nat.reduceSub, Nat.reduceLeDiff, Int.reduceToNat, T3, T5, T9, T22, T25, T31, T40, T42, T43, T44, T46, T48, T60, T62, T63, T76, T97, T100, T113, e1, e2, iRs_len, Bool.not_true]); (first | (refine hK _ _ ?_; clear hK K) | (intro bq hbq; (try simp only [HB] at hbq); refine hK _ _ ?_; clear hK K) | (refine ⟨?_, hK _ _ ?_⟩ <;> clear hK K; focus (try (first | omega | exact ⟨rfl, by decide⟩ | exact rfl))) | (refine ⟨_, ?_, hK _ _ ?_⟩ <;> clear hK K) | (refine Op1.callp rfl rfl (c0) rfl ?_; refine hK _ _ ?_; clear hK K) | (refine Op1.callp rfl rfl (ck) rfl ?_; refine hK _ _ ?_; clear hK K) | skip))
      | (refine VCo.gstep rfl rfl rfl rfl rfl ?_; try simp only [GB])
      | (refine VCo.gundef rfl rfl rfl rfl rfl ?_; try simp only [updO])
      | (first | refine VC.region ?_ | refine VC.seq' ?_ | refine VC.block ?_)
      | ((first | refine VCo.nil ?_ | refine VC.skip ?_ | refine VC.ret ?_ | refine VC.exit ?_); (try simp only [QB, Nat.reduceBEq]))
      | (refine ret1 T (List.nil_sublist _) ?_; (try simp only [upd, Nat.reduceBEq, cond_true, cond_false, and_true]))
      | (refine VC.cond rfl ?_; (try simp only [e1, e2, iRs_len, Bool.not_true, gsplit_true, gsplit_false]))
      | (refine gsplit_intro (fun hc => ?_) (fun hc => ?_) <;> (simp only [GB]))
  have e2 : decide (t ≥ (c.pc.length : Int)) = false := by simpa using h2
  obtain ⟨i, rfl⟩ : ∃ i : Nat, t = (i : Int) := ⟨t.toNat, by omega⟩
  obtain ⟨x, row, b, p, ha⟩ := h.at (i := i) (by omega)
  obtain ⟨rw0, n, k1, k2, k3, k4, k5⟩ := ha.kind
  have l1 := (List.getElem?_eq_some_iff.1 ha.pc).1
  have l2 := (List.getElem?_eq_some_iff.1 k1).1
  have l4 := (List.getElem?_eq_some_iff.1 k3).1
  have r1 : (iRs c.pc)[i]? = some [iD (p : Nat)] := by rw [iRs_at, ha.pc]; rfl
  have r2 : (codeRs u.code)[i]? = some [.sl false 7 (insRs rw0)] := by rw [codeRs_at, k1]; rfl
  have r4 : (insRs rw0)[p]? = some [iD x.op, iD x.reg, iD x.loc, opsD x.e, opsD x.f, bD x.ne, iD x.to] := by rw [insRs_at, k3]; rfl
  refine (fun (post2 : ∀ E H, Vc.sub E [(1, .pt (caC u c m r (i : Nat) l)), (10, iD 0)] → VC Try.prog 172 ?c ⟨E, H⟩ ?Q) => ?main) ?post
  case main =>
    have c1 := actT_ok h (i : Nat)
    by_cases hs : enT u c m r (i : Nat) = true ∧ x.op = 4
    case neg =>
      cases hE : enT u c m r (i : Nat) with
      | false =>
        rw [hE] at c1
        repeat' first
          | (refine VCo.stepO rfl rfl (fun K hK => r_boxR (t := 48) rfl rfl rfl (hK _ _ ?_)); (try simp only [updO]))
          | (refine VC.draw (id := 3) T 17 (by kernel_rfl) (by kernel_rfl) (by kernel_rfl) ?_)
          | (refine VC.draw (id := 20) T 14 (by kernel_rfl) (by kernel_rfl) (by kernel_rfl) ?_)
          | (refine VCg.nil T ?_; simp only [allK, WB, Nat.reduceAdd, T62]; try (refine fun (bq : Nat) hbq => ?_; (try simp only [HB] at hbq)))
          | ((first | apply VCg.step T rfl rfl | apply exF); focus ((try simp (disch := omega) only [WB, lookD, argE, fillD, setL, rowsOf, Nat.reduceBEq, Nat.reduceAdd, Nat.reduceMul, Nat.reduceSub, Nat.reduceLeDiff, Int.reduceToNat, T3, T5, T9, T22, T25, T31, T40, T42, T43, T44, T46, T48, T60, T62, T63, T76, T97, T100, T113, e1, e2, r1, r2, r4, iRs_len, codeRs_len, insRs_len, Bool.not_true]); (first | exact rfl | exact ⟨rfl, rfl⟩ | (refine ⟨?_, rfl⟩; try (first | omega | exact ⟨rfl, by decide⟩ | exact rfl)) | (refine Op1.callp rfl rfl (c0) rfl ?_; exact ⟨rfl, rfl⟩) | (refine Op1.callp rfl rfl (c1) rfl ?_; exact ⟨rfl, rfl⟩))))
          | (refine VCg.alloc T rfl rfl rfl rfl rfl ?_)
          | (refine VCg.gstep T rfl rfl rfl rfl ?_; try simp only [GB])
          | (refine VCg.gundef T rfl rfl rfl rfl ?_; try simp only [updO])
          | ((first | refine VCo.step T rfl rfl (fun K hK => ?_) | refine VCr.step T rfl (fun K hK => ?_)); (try simp (disch := omega) only [WB, lookD, argE, fillD, setL, rowsOf, Nat.reduceBEq, Nat.reduceAdd, Nat.reduceMul, Nat.reduceSub, Nat.reduceLeDiff, Int.reduceToNat, T3, T5, T9, T22, T25, T31, T40, T42, T43, T44, T46, T48, T60, T62, T63, T76, T97, T100, T113, e1, e2, r1, r2, r4, iRs_len, codeRs_len, insRs_len, Bool.not_true]); (first | (refine hK _ _ ?_; clear hK K) | (intro bq hbq; (try simp only [HB] at hbq); refine hK _ _ ?_; clear hK K) | (refine ⟨?_, hK _ _ ?_⟩ <;> clear hK K; focus (try (first | omega | exact ⟨rfl, by decide⟩ | exact rfl))) | (refine ⟨_, ?_, hK _ _ ?_⟩ <;> clear hK K) | (refine Op1.callp rfl rfl (c0) rfl ?_; refine hK _ _ ?_; clear hK K) | (refine Op1.callp rfl rfl (c1) rfl ?_; refine hK _ _ ?_; clear hK K) | skip))
          | (refine VCo.gstep rfl rfl rfl rfl rfl ?_; try simp only [GB])
          | (refine VCo.gundef rfl rfl rfl rfl rfl ?_; try simp only [updO])
          | (first | refine VC.region ?_ | refine VC.seq' ?_ | refine VC.block ?_)
          | ((first | refine VCo.nil ?_ | refine VC.skip ?_ | refine VC.ret ?_ | refine VC.exit ?_); (try simp only [QB, Nat.reduceBEq]))
          | (refine VC.cond rfl ?_; (try simp only [e1, e2, r1, r2, r4, iRs_len, codeRs_len, insRs_len, Bool.not_true, gsplit_true, gsplit_false]))
          | (refine gsplit_intro (fun hc => ?_) (fun hc => ?_) <;> (simp only [GB]))
        refine post2 _ _ ?_
        simp [sub, upd]
      | true =>
        have e4 : (x.op == 4) = false := by simpa using fun h => hs ⟨hE, h⟩
        rw [hE] at c1
        repeat' first
          | (refine VCo.stepO rfl rfl (fun K hK => r_boxR (t := 48) rfl rfl rfl (hK _ _ ?_)); (try simp only [updO]))
          | (refine VC.draw (id := 3) T 17 (by kernel_rfl) (by kernel_rfl) (by kernel_rfl) ?_)
          | (refine VC.draw (id := 20) T 14 (by kernel_rfl) (by kernel_rfl) (by kernel_rfl) ?_)
          | (refine VCg.nil T ?_; simp only [allK, WB, Nat.reduceAdd, T62]; try (refine fun (bq : Nat) hbq => ?_; (try simp only [HB] at hbq)))
          | ((first | apply VCg.step T rfl rfl | apply exF); focus ((try simp (disch := omega) only [WB, lookD, argE, fillD, setL, rowsOf, Nat.reduceBEq, Nat.reduceAdd, Nat.reduceMul, Nat.reduceSub, Nat.reduceLeDiff, Int.reduceToNat, T3, T5, T9, T22, T25, T31, T40, T42, T43, T44, T46, T48, T60, T62, T63, T76, T97, T100, T113, e1, e2, e4, r1, r2, r4, iRs_len, codeRs_len, insRs_len, Bool.not_true]); (first | exact rfl | exact ⟨rfl, rfl⟩ | (refine ⟨?_, rfl⟩; try (first | omega | exact ⟨rfl, by decide⟩ | exact rfl)) | (refine Op1.callp rfl rfl (c0) rfl ?_; exact ⟨rfl, rfl⟩) | (refine Op1.callp rfl rfl (c1) rfl ?_; exact ⟨rfl, rfl⟩))))
          | (refine VCg.alloc T rfl rfl rfl rfl rfl ?_)
          | (refine VCg.gstep T rfl rfl rfl rfl ?_; try simp only [GB])
          | (refine VCg.gundef T rfl rfl rfl rfl ?_; try simp only [updO])
          | ((first | refine VCo.step T rfl rfl (fun K hK => ?_) | refine VCr.step T rfl (fun K hK => ?_)); (try simp (disch := omega) only [WB, lookD, argE, fillD, setL, rowsOf, Nat.reduceBEq, Nat.reduceAdd, Nat.reduceMul, Nat.reduceSub, Nat.reduceLeDiff, Int.reduceToNat, T3, T5, T9, T22, T25, T31, T40, T42, T43, T44, T46, T48, T60, T62, T63, T76, T97, T100, T113, e1, e2, e4, r1, r2, r4, iRs_len, codeRs_len, insRs_len, Bool.not_true]); (first | (refine hK _ _ ?_; clear hK K) | (intro bq hbq; (try simp only [HB] at hbq); refine hK _ _ ?_; clear hK K) | (refine ⟨?_, hK _ _ ?_⟩ <;> clear hK K; focus (try (first | omega | exact ⟨rfl, by decide⟩ | exact rfl))) | (refine ⟨_, ?_, hK _ _ ?_⟩ <;> clear hK K) | (refine Op1.callp rfl rfl (c0) rfl ?_; refine hK _ _ ?_; clear hK K) | (refine Op1.callp rfl rfl (c1) rfl ?_; refine hK _ _ ?_; clear hK K) | skip))
          | (refine VCo.gstep rfl rfl rfl rfl rfl ?_; try simp only [GB])
          | (refine VCo.gundef rfl rfl rfl rfl rfl ?_; try simp only [updO])
          | (first | refine VC.region ?_ | refine VC.seq' ?_ | refine VC.block ?_)
          | ((first | refine VCo.nil ?_ | refine VC.skip ?_ | refine VC.ret ?_ | refine VC.exit ?_); (try simp only [QB, Nat.reduceBEq]))
          | (refine VC.cond rfl ?_; (try simp only [e1, e2, e4, r1, r2, r4, iRs_len, codeRs_len, insRs_len, Bool.not_true, gsplit_true, gsplit_false]))
          | (refine gsplit_intro (fun hc => ?_) (fun hc => ?_) <;> (simp only [GB]))
        refine post2 _ _ ?_
        simp [sub, upd]
    obtain ⟨hE, ho⟩ := hs
    have e4 : (x.op == 4) = true := by simpa using ho
    have hA := h.act (i : Nat)
    have own := act_own h ha ho hE
    have hx := one_loc (k5.resolve_left (by omega)).1 (.inr (.inl ho))
    rw [hE] at c1
    generalize actT u c m r (i : Nat) = a at *
    have hLa := hA.lens
    have ka := hA.okC.pc
    have c2 := reads_ok a hA.okC.buf (i : Nat) x.loc
    repeat' first
      | (refine VCo.stepO rfl rfl (fun K hK => r_boxR (t := 48) rfl rfl rfl (hK _ _ ?_)); (try simp only [updO]))
      | (refine VC.draw (id := 3) T 17 (by kernel_rfl) (by kernel_rfl) (by kernel_rfl) ?_)
      | (refine VC.draw (id := 20) T 14 (by kernel_rfl) (by kernel_rfl) (by kernel_rfl) ?_)
      | (refine VCg.nil T ?_; simp only [allK, WB, Nat.reduceAdd, T62]; try (refine fun (bq : Nat) hbq => ?_; (try simp only [HB] at hbq)))
      | ((first | apply VCg.step T rfl rfl | apply exF); focus ((try simp (disch := omega) only [WB, lookD, argE, fillD, setL, rowsOf, Nat.reduceBEq, Nat.reduceAdd, Nat.reduceMul, Nat.reduceSub, Nat.reduceLeDiff, Int.reduceToNat, T3, T5, T9, T22, T25, T31, T40, T42, T43, T44, T46, T48, T60, T62, T63, T76, T97, T100, T113, e1, e2, e4, r1, r2, r4, iRs_len, codeRs_len, insRs_len, Bool.not_true]); (first | exact rfl | exact ⟨rfl, rfl⟩ | (refine ⟨?_, rfl⟩; try (first | omega | exact ⟨rfl, by decide⟩ | exact rfl)) | (refine Op1.callp rfl rfl (c0) rfl ?_; exact ⟨rfl, rfl⟩) | (refine Op1.callp rfl rfl (c1) rfl ?_; exact ⟨rfl, rfl⟩) | (refine Op1.callp rfl rfl (c2) rfl ?_; exact ⟨rfl, rfl⟩))))
      | (refine VCg.alloc T rfl rfl rfl rfl rfl ?_)
      | (refine VCg.gstep T rfl rfl rfl rfl ?_; try simp only [GB])
      | (refine VCg.gundef T rfl rfl rfl rfl ?_; try simp only [updO])
      | ((first | refine VCo.step T rfl rfl (fun K hK => ?_) | refine VCr.step T rfl (fun K hK => ?_)); (try simp (disch := omega) only [WB, lookD, argE, fillD, setL, rowsOf, Nat.reduceBEq, Nat.reduceAdd, Nat.reduceMul, Nat.reduceSub, Nat.reduceLeDiff, Int.reduceToNat, T3, T5, T9, T22, T25, T31, T40, T42, T43, T44, T46, T48, T60, T62, T63, T76, T97, T100, T113, e1, e2, e4, r1, r2, r4, iRs_len, codeRs_len, insRs_len, Bool.not_true]); (first | (refine hK _ _ ?_; clear hK K) | (intro bq hbq; (try simp only [HB] at hbq); refine hK _ _ ?_; clear hK K) | (refine ⟨?_, hK _ _ ?_⟩ <;> clear hK K; focus (try (first | omega | exact ⟨rfl, by decide⟩ | exact rfl))) | (refine ⟨_, ?_, hK _ _ ?_⟩ <;> clear hK K) | (refine Op1.callp rfl rfl (c0) rfl ?_; refine hK _ _ ?_; clear hK K) | (refine Op1.callp rfl rfl (c1) rfl ?_; refine hK _ _ ?_; clear hK K) | (refine Op1.callp rfl rfl (c2) rfl ?_; refine hK _ _ ?_; clear hK K) | skip))
      | (refine VCo.gstep rfl rfl rfl rfl rfl ?_; try simp only [GB])
      | (refine VCo.gundef rfl rfl rfl rfl rfl ?_; try simp only [updO])
      | (first | refine VC.region ?_ | refine VC.seq' ?_ | refine VC.block ?_)
      | ((first | refine VCo.nil ?_ | refine VC.skip ?_ | refine VC.ret ?_ | refine VC.exit ?_); (try simp only [QB, Nat.reduceBEq]))
      | (refine VC.cond rfl ?_; (try simp only [e1, e2, e4, r1, r2, r4, iRs_len, codeRs_len, insRs_len, Bool.not_true, gsplit_true, gsplit_false]))
      | (refine gsplit_intro (fun hc => ?_) (fun hc => ?_) <;> (simp only [GB]))
    rename_i b3 hb3
    have n1 : ¬ bq = b3 := hbq
    refine VC.loop {j : Nat // j ≤ a.pc.length} (fun p => ⟨lookD [(1, .pt (caC u c m r (i : Nat) l)), (3, pD b3), (4, pD bq), (6, iD (readF a (i : Nat) x.loc)), (7, iD (p.1 : Nat))], [(bq, .cells 46 4 (cfC a)), (b3, .cells 62 7 [iD x.op, iD x.reg, iD x.loc, opsD x.e, opsD x.f, bD x.ne, iD x.to])]⟩) (fun p => a.pc.length - p.1) ⟨0, by omega⟩ ?_ ?_
    · refine Weak.sub ?_
      simp [sub, upd]
    rintro ⟨j, hj⟩
    dsimp only
    rcases Nat.lt_or_ge j a.pc.length with hlt | hge
    case inr =>
      have hd : decide ((j : Int) < (a.pc.length : Int)) = false := by simp; omega
      repeat' first
        | (refine VC.draw (id := 3) T 17 (by kernel_rfl) (by kernel_rfl) (by kernel_rfl) ?_)
        | (refine VC.draw (id := 20) T 14 (by kernel_rfl) (by kernel_rfl) (by kernel_rfl) ?_)
        | (refine VCg.nil T ?_; simp only [allK, WB, Nat.reduceAdd, T62]; try (refine fun (bq : Nat) hbq => ?_; (try simp only [HB] at hbq)))
        | ((first | apply VCg.step T rfl rfl | apply exF); focus ((try simp (disch := omega) only [WB, lookD, argE, fillD, setL, rowsOf, Nat.reduceBEq, Nat.reduceAdd, Nat.reduceMul, Nat.reduceSub, Nat.reduceLeDiff, Int.reduceToNat, T3, T5, T9, T22, T25, T31, T40, T42, T43, T44, T46, T48, T60, T62, T63, T76, T97, T100, T113, hd, iRs_len]); (first | exact rfl | exact ⟨rfl, rfl⟩ | (refine ⟨?_, rfl⟩; try (first | omega | exact ⟨rfl, by decide⟩ | exact rfl)))))
        | (refine VCg.alloc T rfl rfl rfl rfl rfl ?_)
        | (refine VCg.gstep T rfl rfl rfl rfl ?_; try simp only [GB])
        | (refine VCg.gundef T rfl rfl rfl rfl ?_; try simp only [updO])
        | ((first | refine VCo.step T rfl rfl (fun K hK => ?_) | refine VCr.step T rfl (fun K hK => ?_)); (try simp (disch := omega) only [WB, lookD, argE, fillD, setL, rowsOf, Nat.reduceBEq, Nat.reduceAdd, Nat.reduceMul, Nat.reduceSub, Nat.reduceLeDiff, Int.reduceToNat, T3, T5, T9, T22, T25, T31, T40, T42, T43, T44, T46, T48, T60, T62, T63, T76, T97, T100, T113, hd, iRs_len]); (first | (refine hK _ _ ?_; clear hK K) | (intro bq hbq; (try simp only [HB] at hbq); refine hK _ _ ?_; clear hK K) | (refine ⟨?_, hK _ _ ?_⟩ <;> clear hK K; focus (try (first | omega | exact ⟨rfl, by decide⟩ | exact rfl))) | (refine ⟨_, ?_, hK _ _ ?_⟩ <;> clear hK K) | skip))
        | (refine VCo.gstep rfl rfl rfl rfl rfl ?_; try simp only [GB])
        | (refine VCo.gundef rfl rfl rfl rfl rfl ?_; try simp only [updO])
        | (first | refine VC.region ?_ | refine VC.seq' ?_ | refine VC.block ?_)
        | ((first | refine VCo.nil ?_ | refine VC.skip ?_ | refine VC.ret ?_ | refine VC.exit ?_); (try simp only [QB, Nat.reduceBEq]))
        | (refine VC.cond rfl ?_; (try simp only [hd, iRs_len, gsplit_true, gsplit_false]))
        | (refine gsplit_intro (fun hc => ?_) (fun hc => ?_) <;> (simp only [GB]))
      refine post2 _ _ ?_
      simp [sub, upd]
    have hd : decide ((j : Int) < (a.pc.length : Int)) = true := by simp; omega
    have hw : IntKind.i64.wrap ((j : Int) + 1) = ((j + 1 : Nat) : Int) := by rw [w64 (by omega)]; omega
    have c3 := actT_ok hA (j : Nat)
    by_cases hji : j = i
    · have e0 : ((j : Int) != (i : Int)) = false := by simp; omega
      repeat' first
        | (refine VC.draw (id := 3) T 17 (by kernel_rfl) (by kernel_rfl) (by kernel_rfl) ?_)
        | (refine VC.draw (id := 20) T 14 (by kernel_rfl) (by kernel_rfl) (by kernel_rfl) ?_)
        | (refine VCg.nil T ?_; simp only [allK, WB, Nat.reduceAdd, T62]; try (refine fun (bq : Nat) hbq => ?_; (try simp only [HB] at hbq)))
        | ((first | apply VCg.step T rfl rfl | apply exF); focus ((try simp (disch := omega) only [WB, lookD, argE, fillD, setL, rowsOf, Nat.reduceBEq, Nat.reduceAdd, Nat.reduceMul, Nat.reduceSub, Nat.reduceLeDiff, Int.reduceToNat, T3, T5, T9, T22, T25, T31, T40, T42, T43, T44, T46, T48, T60, T62, T63, T76, T97, T100, T113, hd, hw, e0, iRs_len]); (first | exact rfl | exact ⟨rfl, rfl⟩ | (refine ⟨?_, rfl⟩; try (first | omega | exact ⟨rfl, by decide⟩ | exact rfl)) | (refine Op1.callp rfl rfl (c3) rfl ?_; exact ⟨rfl, rfl⟩))))
        | (refine VCg.alloc T rfl rfl rfl rfl rfl ?_)
        | (refine VCg.gstep T rfl rfl rfl rfl ?_; try simp only [GB])
        | (refine VCg.gundef T rfl rfl rfl rfl ?_; try simp only [updO])
        | ((first | refine VCo.step T rfl rfl (fun K hK => ?_) | refine VCr.step T rfl (fun K hK => ?_)); (try simp (disch := omega) only [WB, lookD, argE, fillD, setL, rowsOf, Nat.reduceBEq, Nat.reduceAdd, Nat.reduceMul, Nat.reduceSub, Nat.reduceLeDiff, Int.reduceToNat, T3, T5, T9, T22, T25, T31, T40, T42, T43, T44, T46, T48, T60, T62, T63, T76, T97, T100, T113, hd, hw, e0, iRs_len]); (first | (refine hK _ _ ?_; clear hK K) | (intro bq hbq; (try simp only [HB] at hbq); refine hK _ _ ?_; clear hK K) | (refine ⟨?_, hK _ _ ?_⟩ <;> clear hK K; focus (try (first | omega | exact ⟨rfl, by decide⟩ | exact rfl))) | (refine ⟨_, ?_, hK _ _ ?_⟩ <;> clear hK K) | (refine Op1.callp rfl rfl (c3) rfl ?_; refine hK _ _ ?_; clear hK K) | skip))
        | (refine VCo.gstep rfl rfl rfl rfl rfl ?_; try simp only [GB])
        | (refine VCo.gundef rfl rfl rfl rfl rfl ?_; try simp only [updO])
        | (first | refine VC.region ?_ | refine VC.seq' ?_ | refine VC.block ?_)
        | ((first | refine VCo.nil ?_ | refine VC.skip ?_ | refine VC.ret ?_ | refine VC.exit ?_); (try simp only [QB, Nat.reduceBEq]))
        | (refine VC.cond rfl ?_; (try simp only [hd, hw, e0, iRs_len, gsplit_true, gsplit_false]))
        | (refine gsplit_intro (fun hc => ?_) (fun hc => ?_) <;> (simp only [GB]))
      refine ⟨⟨j + 1, by omega⟩, Weak.subH (List.sublist_cons_self _ _) ?_, by dsimp only; omega⟩
      simp [sub, upd]
    have e0 : ((j : Int) != (i : Int)) = true := by simp; omega
    by_cases hm : m = 1
    · have em : (m != 1) = false := by simpa using hm
      repeat' first
        | (refine VC.draw (id := 3) T 17 (by kernel_rfl) (by kernel_rfl) (by kernel_rfl) ?_)
        | (refine VC.draw (id := 20) T 14 (by kernel_rfl) (by kernel_rfl) (by kernel_rfl) ?_)
        | (refine VCg.nil T ?_; simp only [allK, WB, Nat.reduceAdd, T62]; try (refine fun (bq : Nat) hbq => ?_; (try simp only [HB] at hbq)))
        | ((first | apply VCg.step T rfl rfl | apply exF); focus ((try simp (disch := omega) only [WB, lookD, argE, fillD, setL, rowsOf, Nat.reduceBEq, Nat.reduceAdd, Nat.reduceMul, Nat.reduceSub, Nat.reduceLeDiff, Int.reduceToNat, T3, T5, T9, T22, T25, T31, T40, T42, T43, T44, T46, T48, T60, T62, T63, T76, T97, T100, T113, hd, hw, e0, em, iRs_len]); (first | exact rfl | exact ⟨rfl, rfl⟩ | (refine ⟨?_, rfl⟩; try (first | omega | exact ⟨rfl, by decide⟩ | exact rfl)) | (refine Op1.callp rfl rfl (c3) rfl ?_; exact ⟨rfl, rfl⟩))))
        | (refine VCg.alloc T rfl rfl rfl rfl rfl ?_)
        | (refine VCg.gstep T rfl rfl rfl rfl ?_; try simp only [GB])
        | (refine VCg.gundef T rfl rfl rfl rfl ?_; try simp only [updO])
        | ((first | refine VCo.step T rfl rfl (fun K hK => ?_) | refine VCr.step T rfl (fun K hK => ?_)); (try simp (disch := omega) only [WB, lookD, argE, fillD, setL, rowsOf, Nat.reduceBEq, Nat.reduceAdd, Nat.reduceMul, Nat.reduceSub, Nat.reduceLeDiff, Int.reduceToNat, T3, T5, T9, T22, T25, T31, T40, T42, T43, T44, T46, T48, T60, T62, T63, T76, T97, T100, T113, hd, hw, e0, em, iRs_len]); (first | (refine hK _ _ ?_; clear hK K) | (intro bq hbq; (try simp only [HB] at hbq); refine hK _ _ ?_; clear hK K) | (refine ⟨?_, hK _ _ ?_⟩ <;> clear hK K; focus (try (first | omega | exact ⟨rfl, by decide⟩ | exact rfl))) | (refine ⟨_, ?_, hK _ _ ?_⟩ <;> clear hK K) | (refine Op1.callp rfl rfl (c3) rfl ?_; refine hK _ _ ?_; clear hK K) | skip))
        | (refine VCo.gstep rfl rfl rfl rfl rfl ?_; try simp only [GB])
        | (refine VCo.gundef rfl rfl rfl rfl rfl ?_; try simp only [updO])
        | (first | refine VC.region ?_ | refine VC.seq' ?_ | refine VC.block ?_)
        | ((first | refine VCo.nil ?_ | refine VC.skip ?_ | refine VC.ret ?_ | refine VC.exit ?_); (try simp only [QB, Nat.reduceBEq]))
        | (refine VC.cond rfl ?_; (try simp only [hd, hw, e0, em, iRs_len, gsplit_true, gsplit_false]))
        | (refine gsplit_intro (fun hc => ?_) (fun hc => ?_) <;> (simp only [GB]))
      refine ⟨⟨j + 1, by omega⟩, Weak.subH (List.sublist_cons_self _ _) ?_, by dsimp only; omega⟩
      simp [sub, upd]
    have em : (m != 1) = true := by simpa using hm
    have hB := hA.act (j : Nat)
    have hOf := (actT_off hA j i (Ne.symm hji)).2.2
    generalize actT u a m r (j : Nat) = d at *
    have hLd := hB.lens
    obtain ⟨b', w1, w2⟩ := own hm
    have c4 : Pure Try.prog 34 [.agg (cfC d), iD (i : Nat), iD x.loc] (iD (readF a (i : Nat) x.loc)) := by
      rw [readF_last w1 w2 hx.1 (by omega), ← readF_last (hOf.trans w1) w2 hx.1 (show x.loc < d.mem.length by omega)]
      exact reads_ok d hB.okC.buf (i : Nat) x.loc
    repeat' first
      | (refine VC.draw (id := 3) T 17 (by kernel_rfl) (by kernel_rfl) (by kernel_rfl) ?_)
      | (refine VC.draw (id := 20) T 14 (by kernel_rfl) (by kernel_rfl) (by kernel_rfl) ?_)
      | (refine VCg.nil T ?_; simp only [allK, WB, Nat.reduceAdd, T62]; try (refine fun (bq : Nat) hbq => ?_; (try simp only [HB] at hbq)))
      | ((first | apply VCg.step T rfl rfl | apply exF); focus ((try simp (disch := omega) only [WB, lookD, argE, fillD, setL, rowsOf, Nat.reduceBEq, Nat.reduceAdd, Nat.reduceMul, Nat.reduceSub, Nat.reduceLeDiff, Int.reduceToNat, T3, T5, T9, T22, T25, T31, T40, T42, T43, T44, T46, T48, T60, T62, T63, T76, T97, T100, T113, hd, hw, e0, em, bne_self_eq_false, iRs_len]); (first | exact rfl | exact ⟨rfl, rfl⟩ | (refine ⟨?_, rfl⟩; try (first | omega | exact ⟨rfl, by decide⟩ | exact rfl)) | (refine Op1.callp rfl rfl (c3) rfl ?_; exact ⟨rfl, rfl⟩) | (refine Op1.callp rfl rfl (c4) rfl ?_; exact ⟨rfl, rfl⟩))))
      | (refine VCg.alloc T rfl rfl rfl rfl rfl ?_)
      | (refine VCg.gstep T rfl rfl rfl rfl ?_; try simp only [GB])
      | (refine VCg.gundef T rfl rfl rfl rfl ?_; try simp only [updO])
      | ((first | refine VCo.step T rfl rfl (fun K hK => ?_) | refine VCr.step T rfl (fun K hK => ?_)); (try simp (disch := omega) only [WB, lookD, argE, fillD, setL, rowsOf, Nat.reduceBEq, Nat.reduceAdd, Nat.reduceMul, Nat.reduceSub, Nat.reduceLeDiff, Int.reduceToNat, T3, T5, T9, T22, T25, T31, T40, T42, T43, T44, T46, T48, T60, T62, T63, T76, T97, T100, T113, hd, hw, e0, em, bne_self_eq_false, iRs_len]); (first | (refine hK _ _ ?_; clear hK K) | (intro bq hbq; (try simp only [HB] at hbq); refine hK _ _ ?_; clear hK K) | (refine ⟨?_, hK _ _ ?_⟩ <;> clear hK K; focus (try (first | omega | exact ⟨rfl, by decide⟩ | exact rfl))) | (refine ⟨_, ?_, hK _ _ ?_⟩ <;> clear hK K) | (refine Op1.callp rfl rfl (c3) rfl ?_; refine hK _ _ ?_; clear hK K) | (refine Op1.callp rfl rfl (c4) rfl ?_; refine hK _ _ ?_; clear hK K) | skip))
      | (refine VCo.gstep rfl rfl rfl rfl rfl ?_; try simp only [GB])
      | (refine VCo.gundef rfl rfl rfl rfl rfl ?_; try simp only [updO])
      | (first | refine VC.region ?_ | refine VC.seq' ?_ | refine VC.block ?_)
      | ((first | refine VCo.nil ?_ | refine VC.skip ?_ | refine VC.ret ?_ | refine VC.exit ?_); (try simp only [QB, Nat.reduceBEq]))
      | (refine VC.cond rfl ?_; (try simp only [hd, hw, e0, em, bne_self_eq_false, iRs_len, gsplit_true, gsplit_false]))
      | (refine gsplit_intro (fun hc => ?_) (fun hc => ?_) <;> (simp only [GB]))
    refine ⟨⟨j + 1, by omega⟩, Weak.subH (List.sublist_cons_self _ _) ?_, by dsimp only; omega⟩
    simp [sub, upd]
  case post =>
    intro E H hE
    refine VC.loop {k : Nat // k ≤ c.pc.length} (fun p => ⟨lookD [(1, .pt (caC u c m r (i : Nat) l)), (10, iD (p.1 : Nat))], []⟩) (fun p => c.pc.length - p.1) ⟨0, by omega⟩ ?_ ?_
    · exact Weak.subH (List.nil_sublist _) hE
    rintro ⟨k, hk⟩
    dsimp only
    rcases Nat.lt_or_ge k c.pc.length with hlt | hge
    case inr =>
      have hd : decide ((k : Int) < (c.pc.length : Int)) = false := by simp; omega
      have c7 := reads_ok c h.okC.buf (-1) 0
      have c8 := reads_ok c h.okC.buf 0 (c.mem.length : Nat)
      rw [readF_no _ _ (.inl (by omega))] at c7
      rw [readF_no _ _ (.inr (by omega))] at c8
      repeat' first
        | (refine VC.draw (id := 3) T 17 (by kernel_rfl) (by kernel_rfl) (by kernel_rfl) ?_)
        | (refine VC.draw (id := 20) T 14 (by kernel_rfl) (by kernel_rfl) (by kernel_rfl) ?_)
        | (refine VCg.nil T ?_; simp only [allK, WB, Nat.reduceAdd, T62]; try (refine fun (bq : Nat) hbq => ?_; (try simp only [HB] at hbq)))
        | ((first | apply VCg.step T rfl rfl | apply exF); focus ((try simp (disch := omega) only [WB, lookD, argE, fillD, setL, rowsOf, Nat.reduceBEq, Nat.reduceAdd, Nat.reduceMul, Nat.reduceSub, Nat.reduceLeDiff, Int.reduceToNat, T3, T5, T9, T22, T25, T31, T40, T42, T43, T44, T46, T48, T60, T62, T63, T76, T97, T100, T113, hd, iRs_len]); (first | exact rfl | exact ⟨rfl, rfl⟩ | (refine ⟨?_, rfl⟩; try (first | omega | exact ⟨rfl, by decide⟩ | exact rfl)) | (refine Op1.callp rfl rfl (c7) rfl ?_; exact ⟨rfl, rfl⟩) | (refine Op1.callp rfl rfl (c8) rfl ?_; exact ⟨rfl, rfl⟩) | (refine Op1.callp rfl rfl (ck) rfl ?_; exact ⟨rfl, rfl⟩))))
        | (refine VCg.alloc T rfl rfl rfl rfl rfl ?_)
        | (refine VCg.gstep T rfl rfl rfl rfl ?_; try simp only [GB])
        | (refine VCg.gundef T rfl rfl rfl rfl ?_; try simp only [updO])
        | ((first | refine VCo.step T rfl rfl (fun K hK => ?_) | refine VCr.step T rfl (fun K hK => ?_)); (try simp (disch := omega) only [WB, lookD, argE, fillD, setL, rowsOf, Nat.reduceBEq, Nat.reduceAdd, Nat.reduceMul, Nat.reduceSub, Nat.reduceLeDiff, Int.reduceToNat, T3, T5, T9, T22, T25, T31, T40, T42, T43, T44, T46, T48, T60, T62, T63, T76, T97, T100, T113, hd, iRs_len]); (first | (refine hK _ _ ?_; clear hK K) | (intro bq hbq; (try simp only [HB] at hbq); refine hK _ _ ?_; clear hK K) | (refine ⟨?_, hK _ _ ?_⟩ <;> clear hK K; focus (try (first | omega | exact ⟨rfl, by decide⟩ | exact rfl))) | (refine ⟨_, ?_, hK _ _ ?_⟩ <;> clear hK K) | (refine Op1.callp rfl rfl (c7) rfl ?_; refine hK _ _ ?_; clear hK K) | (refine Op1.callp rfl rfl (c8) rfl ?_; refine hK _ _ ?_; clear hK K) | (refine Op1.callp rfl rfl (ck) rfl ?_; refine hK _ _ ?_; clear hK K) | skip))
        | (refine VCo.gstep rfl rfl rfl rfl rfl ?_; try simp only [GB])
        | (refine VCo.gundef rfl rfl rfl rfl rfl ?_; try simp only [updO])
        | (first | refine VC.region ?_ | refine VC.seq' ?_ | refine VC.block ?_)
        | ((first | refine VCo.nil ?_ | refine VC.skip ?_ | refine VC.ret ?_ | refine VC.exit ?_); (try simp only [QB, Nat.reduceBEq]))
        | (refine ret1 T (List.nil_sublist _) ?_; (try simp only [upd, Nat.reduceBEq, cond_true, cond_false, and_true]))
        | (refine VC.cond rfl ?_; (try simp only [hd, iRs_len, gsplit_true, gsplit_false]))
        | (refine gsplit_intro (fun hc => ?_) (fun hc => ?_) <;> (simp only [GB]))
    have hd : decide ((k : Int) < (c.pc.length : Int)) = true := by simp; omega
    have hw : IntKind.i64.wrap ((k : Int) + 1) = ((k + 1 : Nat) : Int) := by rw [w64 (by omega)]; omega
    obtain ⟨bk, hb⟩ : ∃ p, c.bufs[k]? = some p := ⟨_, List.getElem?_eq_getElem (by omega)⟩
    have rb : (bufsR c.bufs)[k]? = some [buf bk] := by rw [bufsR_at, hb]; rfl
    have hbl := h.okC.buf bk (List.mem_of_getElem? hb)
    have l6 : k < c.bufs.length := by omega
    repeat' first
      | (refine VC.draw (id := 3) T 17 (by kernel_rfl) (by kernel_rfl) (by kernel_rfl) ?_)
      | (refine VC.draw (id := 20) T 14 (by kernel_rfl) (by kernel_rfl) (by kernel_rfl) ?_)
      | (refine VCg.nil T ?_; simp only [allK, WB, Nat.reduceAdd, T62]; try (refine fun (bq : Nat) hbq => ?_; (try simp only [HB] at hbq)))
      | ((first | apply VCg.step T rfl rfl | apply exF); focus ((try simp (disch := omega) only [WB, lookD, argE, fillD, setL, rowsOf, Nat.reduceBEq, Nat.reduceAdd, Nat.reduceMul, Nat.reduceSub, Nat.reduceLeDiff, Int.reduceToNat, T3, T5, T9, T22, T25, T31, T40, T42, T43, T44, T46, T48, T60, T62, T63, T76, T97, T100, T113, hd, iRs_len]); (first | exact rfl | exact ⟨rfl, rfl⟩ | (refine ⟨?_, rfl⟩; try (first | omega | exact ⟨rfl, by decide⟩ | exact rfl)))))
      | (refine VCg.alloc T rfl rfl rfl rfl rfl ?_)
      | (refine VCg.gstep T rfl rfl rfl rfl ?_; try simp only [GB])
      | (refine VCg.gundef T rfl rfl rfl rfl ?_; try simp only [updO])
      | ((first | refine VCo.step T rfl rfl (fun K hK => ?_) | refine VCr.step T rfl (fun K hK => ?_)); (try simp (disch := omega) only [WB, lookD, argE, fillD, setL, rowsOf, Nat.reduceBEq, Nat.reduceAdd, Nat.reduceMul, Nat.reduceSub, Nat.reduceLeDiff, Int.reduceToNat, T3, T5, T9, T22, T25, T31, T40, T42, T43, T44, T46, T48, T60, T62, T63, T76, T97, T100, T113, hd, iRs_len]); (first | (refine hK _ _ ?_; clear hK K) | (intro bq hbq; (try simp only [HB] at hbq); refine hK _ _ ?_; clear hK K) | (refine ⟨?_, hK _ _ ?_⟩ <;> clear hK K; focus (try (first | omega | exact ⟨rfl, by decide⟩ | exact rfl))) | (refine ⟨_, ?_, hK _ _ ?_⟩ <;> clear hK K) | skip))
      | (refine VCo.gstep rfl rfl rfl rfl rfl ?_; try simp only [GB])
      | (refine VCo.gundef rfl rfl rfl rfl rfl ?_; try simp only [updO])
      | (first | refine VC.region ?_ | refine VC.seq' ?_ | refine VC.block ?_)
      | ((first | refine VCo.nil ?_ | refine VC.skip ?_ | refine VC.ret ?_ | refine VC.exit ?_); (try simp only [QB, Nat.reduceBEq]))
      | (refine VC.cond rfl ?_; (try simp only [hd, iRs_len, gsplit_true, gsplit_false]))
      | (refine gsplit_intro (fun hc => ?_) (fun hc => ?_) <;> (simp only [GB]))
    refine VC.loop {j : Nat // j ≤ c.mem.length} (fun p => ⟨lookD [(1, .pt (caC u c m r (i : Nat) l)), (10, iD (k : Nat)), (11, iD (p.1 : Nat))], []⟩) (fun p => c.mem.length - p.1) ⟨0, by omega⟩ ?_ ?_
    · refine Weak.sub ?_
      simp [sub, upd]
    rintro ⟨j, hj⟩
    dsimp only
    rcases Nat.lt_or_ge j c.mem.length with hlt2 | hge2
    case inr =>
      have hd2 : decide ((j : Int) < (c.mem.length : Int)) = false := by simp; omega
      repeat' first
        | (refine VC.draw (id := 3) T 17 (by kernel_rfl) (by kernel_rfl) (by kernel_rfl) ?_)
        | (refine VC.draw (id := 20) T 14 (by kernel_rfl) (by kernel_rfl) (by kernel_rfl) ?_)
        | (refine VCg.nil T ?_; simp only [allK, WB, Nat.reduceAdd, T62]; try (refine fun (bq : Nat) hbq => ?_; (try simp only [HB] at hbq)))
        | ((first | apply VCg.step T rfl rfl | apply exF); focus ((try simp (disch := omega) only [WB, lookD, argE, fillD, setL, rowsOf, Nat.reduceBEq, Nat.reduceAdd, Nat.reduceMul, Nat.reduceSub, Nat.reduceLeDiff, Int.reduceToNat, T3, T5, T9, T22, T25, T31, T40, T42, T43, T44, T46, T48, T60, T62, T63, T76, T97, T100, T113, hd2, hw, iRs_len]); (first | exact rfl | exact ⟨rfl, rfl⟩ | (refine ⟨?_, rfl⟩; try (first | omega | exact ⟨rfl, by decide⟩ | exact rfl)))))
        | (refine VCg.alloc T rfl rfl rfl rfl rfl ?_)
        | (refine VCg.gstep T rfl rfl rfl rfl ?_; try simp only [GB])
        | (refine VCg.gundef T rfl rfl rfl rfl ?_; try simp only [updO])
        | ((first | refine VCo.step T rfl rfl (fun K hK => ?_) | refine VCr.step T rfl (fun K hK => ?_)); (try simp (disch := omega) only [WB, lookD, argE, fillD, setL, rowsOf, Nat.reduceBEq, Nat.reduceAdd, Nat.reduceMul, Nat.reduceSub, Nat.reduceLeDiff, Int.reduceToNat, T3, T5, T9, T22, T25, T31, T40, T42, T43, T44, T46, T48, T60, T62, T63, T76, T97, T100, T113, hd2, hw, iRs_len]); (first | (refine hK _ _ ?_; clear hK K) | (intro bq hbq; (try simp only [HB] at hbq); refine hK _ _ ?_; clear hK K) | (refine ⟨?_, hK _ _ ?_⟩ <;> clear hK K; focus (try (first | omega | exact ⟨rfl, by decide⟩ | exact rfl))) | (refine ⟨_, ?_, hK _ _ ?_⟩ <;> clear hK K) | skip))
        | (refine VCo.gstep rfl rfl rfl rfl rfl ?_; try simp only [GB])
        | (refine VCo.gundef rfl rfl rfl rfl rfl ?_; try simp only [updO])
        | (first | refine VC.region ?_ | refine VC.seq' ?_ | refine VC.block ?_)
        | ((first | refine VCo.nil ?_ | refine VC.skip ?_ | refine VC.ret ?_ | refine VC.exit ?_); (try simp only [QB, Nat.reduceBEq]))
        | (refine VC.cond rfl ?_; (try simp only [hd2, hw, iRs_len, gsplit_true, gsplit_false]))
        | (refine gsplit_intro (fun hc => ?_) (fun hc => ?_) <;> (simp only [GB]))
      refine ⟨⟨k + 1, by omega⟩, Weak.sub ?_, by dsimp only; omega⟩
      simp [sub, upd]
    have hd2 : decide ((j : Int) < (c.mem.length : Int)) = true := by simp; omega
    have hw2 : IntKind.i64.wrap ((j : Int) + 1) = ((j + 1 : Nat) : Int) := by rw [w64 (by omega)]; omega
    obtain ⟨n0, hn⟩ : ∃ p, c.mem[j]? = some p := ⟨_, List.getElem?_eq_getElem (by omega)⟩
    have rn : (iRs c.mem)[j]? = some [iD n0] := by rw [iRs_at, hn]; rfl
    have c5 := rlast_ok bk (by omega) (j : Nat)
    cases hla : lastF (j : Nat) bk with
    | some v =>
      rw [hla] at c5
      have c5' : Pure Try.prog 38 [buf bk, iD (j : Nat)] (.tup [iD v, bD true]) := c5
      repeat' first
        | (refine VC.draw (id := 3) T 17 (by kernel_rfl) (by kernel_rfl) (by kernel_rfl) ?_)
        | (refine VC.draw (id := 20) T 14 (by kernel_rfl) (by kernel_rfl) (by kernel_rfl) ?_)
        | (refine VCg.nil T ?_; simp only [allK, WB, Nat.reduceAdd, T62]; try (refine fun (bq : Nat) hbq => ?_; (try simp only [HB] at hbq)))
        | ((first | apply VCg.step T rfl rfl | apply exF); focus ((try simp (disch := omega) only [WB, lookD, argE, fillD, setL, rowsOf, Nat.reduceBEq, Nat.reduceAdd, Nat.reduceMul, Nat.reduceSub, Nat.reduceLeDiff, Int.reduceToNat, T3, T5, T9, T22, T25, T31, T40, T42, T43, T44, T46, T48, T60, T62, T63, T76, T97, T100, T113, hd2, hw2, rb, rn, iRs_len, bufsR_len, Bool.not_true]); (first | exact rfl | exact ⟨rfl, rfl⟩ | (refine ⟨?_, rfl⟩; try (first | omega | exact ⟨rfl, by decide⟩ | exact rfl)) | (refine Op1.callp rfl rfl (c5') rfl ?_; exact ⟨rfl, rfl⟩))))
        | (refine VCg.alloc T rfl rfl rfl rfl rfl ?_)
        | (refine VCg.gstep T rfl rfl rfl rfl ?_; try simp only [GB])
        | (refine VCg.gundef T rfl rfl rfl rfl ?_; try simp only [updO])
        | ((first | refine VCo.step T rfl rfl (fun K hK => ?_) | refine VCr.step T rfl (fun K hK => ?_)); (try simp (disch := omega) only [WB, lookD, argE, fillD, setL, rowsOf, Nat.reduceBEq, Nat.reduceAdd, Nat.reduceMul, Nat.reduceSub, Nat.reduceLeDiff, Int.reduceToNat, T3, T5, T9, T22, T25, T31, T40, T42, T43, T44, T46, T48, T60, T62, T63, T76, T97, T100, T113, hd2, hw2, rb, rn, iRs_len, bufsR_len, Bool.not_true]); (first | (refine hK _ _ ?_; clear hK K) | (intro bq hbq; (try simp only [HB] at hbq); refine hK _ _ ?_; clear hK K) | (refine ⟨?_, hK _ _ ?_⟩ <;> clear hK K; focus (try (first | omega | exact ⟨rfl, by decide⟩ | exact rfl))) | (refine ⟨_, ?_, hK _ _ ?_⟩ <;> clear hK K) | (refine Op1.callp rfl rfl (c5') rfl ?_; refine hK _ _ ?_; clear hK K) | skip))
        | (refine VCo.gstep rfl rfl rfl rfl rfl ?_; try simp only [GB])
        | (refine VCo.gundef rfl rfl rfl rfl rfl ?_; try simp only [updO])
        | (first | refine VC.region ?_ | refine VC.seq' ?_ | refine VC.block ?_)
        | ((first | refine VCo.nil ?_ | refine VC.skip ?_ | refine VC.ret ?_ | refine VC.exit ?_); (try simp only [QB, Nat.reduceBEq]))
        | (refine VC.cond rfl ?_; (try simp only [hd2, hw2, rb, rn, iRs_len, bufsR_len, Bool.not_true, gsplit_true, gsplit_false]))
        | (refine gsplit_intro (fun hc => ?_) (fun hc => ?_) <;> (simp only [GB]))
      refine ⟨⟨j + 1, by omega⟩, Weak.sub ?_, by dsimp only; omega⟩
      simp [sub, upd]
    | none =>
      rw [hla] at c5
      have c5' : Pure Try.prog 38 [buf bk, iD (j : Nat)] (.tup [iD 0, bD false]) := c5
      have c6 := reads_ok c h.okC.buf (k : Nat) (j : Nat)
      rw [readF_mem hb hla hn] at c6
      repeat' first
        | (refine VC.draw (id := 3) T 17 (by kernel_rfl) (by kernel_rfl) (by kernel_rfl) ?_)
        | (refine VC.draw (id := 20) T 14 (by kernel_rfl) (by kernel_rfl) (by kernel_rfl) ?_)
        | (refine VCg.nil T ?_; simp only [allK, WB, Nat.reduceAdd, T62]; try (refine fun (bq : Nat) hbq => ?_; (try simp only [HB] at hbq)))
        | ((first | apply VCg.step T rfl rfl | apply exF); focus ((try simp (disch := omega) only [WB, lookD, argE, fillD, setL, rowsOf, Nat.reduceBEq, Nat.reduceAdd, Nat.reduceMul, Nat.reduceSub, Nat.reduceLeDiff, Int.reduceToNat, T3, T5, T9, T22, T25, T31, T40, T42, T43, T44, T46, T48, T60, T62, T63, T76, T97, T100, T113, hd2, hw2, rb, rn, bne_self_eq_false, iRs_len, bufsR_len, Bool.not_false]); (first | exact rfl | exact ⟨rfl, rfl⟩ | (refine ⟨?_, rfl⟩; try (first | omega | exact ⟨rfl, by decide⟩ | exact rfl)) | (refine Op1.callp rfl rfl (c5') rfl ?_; exact ⟨rfl, rfl⟩) | (refine Op1.callp rfl rfl (c6) rfl ?_; exact ⟨rfl, rfl⟩))))
        | (refine VCg.alloc T rfl rfl rfl rfl rfl ?_)
        | (refine VCg.gstep T rfl rfl rfl rfl ?_; try simp only [GB])
        | (refine VCg.gundef T rfl rfl rfl rfl ?_; try simp only [updO])
        | ((first | refine VCo.step T rfl rfl (fun K hK => ?_) | refine VCr.step T rfl (fun K hK => ?_)); (try simp (disch := omega) only [WB, lookD, argE, fillD, setL, rowsOf, Nat.reduceBEq, Nat.reduceAdd, Nat.reduceMul, Nat.reduceSub, Nat.reduceLeDiff, Int.reduceToNat, T3, T5, T9, T22, T25, T31, T40, T42, T43, T44, T46, T48, T60, T62, T63, T76, T97, T100, T113, hd2, hw2, rb, rn, bne_self_eq_false, iRs_len, bufsR_len, Bool.not_false]); (first | (refine hK _ _ ?_; clear hK K) | (intro bq hbq; (try simp only [HB] at hbq); refine hK _ _ ?_; clear hK K) | (refine ⟨?_, hK _ _ ?_⟩ <;> clear hK K; focus (try (first | omega | exact ⟨rfl, by decide⟩ | exact rfl))) | (refine ⟨_, ?_, hK _ _ ?_⟩ <;> clear hK K) | (refine Op1.callp rfl rfl (c5') rfl ?_; refine hK _ _ ?_; clear hK K) | (refine Op1.callp rfl rfl (c6) rfl ?_; refine hK _ _ ?_; clear hK K) | skip))
        | (refine VCo.gstep rfl rfl rfl rfl rfl ?_; try simp only [GB])
        | (refine VCo.gundef rfl rfl rfl rfl rfl ?_; try simp only [updO])
        | (first | refine VC.region ?_ | refine VC.seq' ?_ | refine VC.block ?_)
        | ((first | refine VCo.nil ?_ | refine VC.skip ?_ | refine VC.ret ?_ | refine VC.exit ?_); (try simp only [QB, Nat.reduceBEq]))
        | (refine VC.cond rfl ?_; (try simp only [hd2, hw2, rb, rn, bne_self_eq_false, iRs_len, bufsR_len, Bool.not_false, gsplit_true, gsplit_false]))
        | (refine gsplit_intro (fun hc => ?_) (fun hc => ?_) <;> (simp only [GB]))
      refine ⟨⟨j + 1, by omega⟩, Weak.sub ?_, by dsimp only; omega⟩
      simp [sub, upd]
end Go.Proofs.Ytlnmljmeahknaaa
