/- Where a thread leads, of any kind; a thread that is none. No condition. -/
import Derived.Test.YtlnmljmeahknaaaZg
import Derived.Test.YtlnmljmeahknaaaZh
import Derived.Test.YtlnmljmeahknaaaZi
import Derived.Test.YtlnmljmeahknaaaZj
import Derived.Test.YtlnmljmeahknaaaZk
import Derived.Test.YtlnmljmeahknaaaZm
import Derived.Test.YtlnmljmeahknaaaZq
import Derived.Test.YtlnmljmeahknaaaZb
import Derived.Test.YtlnmljmeahknaaaZf
namespace Go.Proofs.Ytlnmljmeahknaaa
set_option linter.unusedSimpArgs false
set_option linter.unusedVariables false
set_option maxRecDepth 20000
open Go Go.Proofs Go.Vc

theorem rAct_yes (u : Un) (c : Cf) (hc : OkC c) (m r : Int) {i : Nat} {x : Ins} {row : List Int} {b : List En} {p : Nat} (h : At10 u c i x row b p) (hE : enT u c m r (i : Nat) = true) :
    Pure Try.prog 27 [.agg (unC u), .agg (cfC c), iD m, iD r, iD (i : Nat)] (.tup [.agg (cfC (afterX u (setP c i ((p + 1 : Nat) : Int)) m i x row b)), bD true]) := by
  by_cases h20 : x.op = 20
  · exact rAct_20 u c hc m r h hE h20
  by_cases h21 : x.op = 21
  · by_cases h0 : valX u row x.e = 0
    · exact rAct_21y u c hc m r h hE h21 h0
    · exact rAct_21n u c hc m r h hE h21 h0
  by_cases h2 : x.op = 2
  · exact rAct_2 u c hc m r h hE h2
  by_cases h3 : x.op = 3
  · exact rAct_3 u c hc m r h hE h3
  by_cases h4 : x.op = 4
  · by_cases hm : m = 1
    · exact rAct_4s u c hc m r h hE h4 hm
    · exact rAct_4b u c hc m r h hE h4 hm
  by_cases h5 : x.op = 5
  · by_cases h0 : memX c x = valX u row x.e
    · exact rAct_5y u c hc m r h hE h5 h0
    · exact rAct_5n u c hc m r h hE h5 h0
  by_cases h6 : x.op = 6
  · exact rAct_6 u c hc m r h hE h6
  by_cases h7 : x.op = 7
  · exact rAct_7 u c hc m r h hE h7
  exact rAct_no u c hc m r h hE h20 h21 h2 h3 h4 h5 h6 h7

set_option maxHeartbeats 4000000 in
theorem rAct_stay (u : Un) (c : Cf) (hc : OkC c) (m r t : Int) (hE : Pure Try.prog 30 [.agg (unC u), .agg (cfC c), iD m, iD r, iD t] (bD false)) :
    Pure Try.prog 27 [.agg (unC u), .agg (cfC c), iD m, iD r, iD t] (.tup [.agg (cfC c), bD false]) := by
  have cc := rcopyF_ok c hc
  refine Fun.of T [.cell 10 46, .tmp 11] Try.func27 rfl Try.ntmps27 Try.results27 rfl (by kernel_rfl) ?_
  repeat' first
    | (refine VCo.stepO rfl rfl (fun K hK => r_boxR (t := 42) rfl rfl rfl (hK _ _ ?_)); (try simp only [updO]))
    | (refine VC.draw (id := 4) T 13 (by kernel_rfl) (by kernel_rfl) (by kernel_rfl) ?_)
    | (refine VC.draw (id := 6) T 9 (by kernel_rfl) (by kernel_rfl) (by kernel_rfl) ?_)
    | (refine VC.draw (id := 14) T 8 (by kernel_rfl) (by kernel_rfl) (by kernel_rfl) ?_)
    | (refine VC.draw (id := 16) T 12 (by kernel_rfl) (by kernel_rfl) (by kernel_rfl) ?_)
    | (refine VC.draw (id := 20) T 14 (by kernel_rfl) (by kernel_rfl) (by kernel_rfl) ?_)
    | (refine VC.draw (id := 22) T 13 (by kernel_rfl) (by kernel_rfl) (by kernel_rfl) ?_)
    | (refine VC.draw (id := 24) T 10 (by kernel_rfl) (by kernel_rfl) (by kernel_rfl) ?_)
    | (refine VC.draw (id := 26) T 13 (by kernel_rfl) (by kernel_rfl) (by kernel_rfl) ?_)
    | (refine VC.draw (id := 27) T 15 (by kernel_rfl) (by kernel_rfl) (by kernel_rfl) ?_)
    | (refine VC.draw (id := 29) T 13 (by kernel_rfl) (by kernel_rfl) (by kernel_rfl) ?_)
    | (refine VCg.nil T ?_; simp only [allK, WB, Nat.reduceAdd, T62]; try (refine fun (bq : Nat) hbq => ?_; (try simp only [HB] at hbq)))
    | (apply VCg.step T rfl rfl; focus ((try simp (disch := omega) only [WB, lookD, argE, fillD, setL, rowsOf, Nat.reduceBEq, Nat.reduceAdd, Nat.reduceMul, Nat.reduceSub, Nat.reduceLeDiff, Int.reduceToNat, T3, T22, T25, T31, T40, T42, T43, T44, T46, T60, T62, T63, T113, Bool.not_false]); (first | exact rfl | exact ⟨rfl, rfl⟩ | (refine ⟨?_, rfl⟩; try (first | omega | exact ⟨rfl, by decide⟩ | exact rfl)) | (refine Op1.callp rfl rfl (cc) rfl ?_; exact ⟨rfl, rfl⟩) | (refine Op1.callp rfl rfl (hE) rfl ?_; exact ⟨rfl, rfl⟩))))
    | (refine VCg.alloc T rfl rfl rfl rfl rfl ?_)
    | (refine VCo.step T rfl rfl (fun K hK => ?_); (try simp (disch := omega) only [WB, lookD, argE, fillD, setL, rowsOf, Nat.reduceBEq, Nat.reduceAdd, Nat.reduceMul, Nat.reduceSub, Nat.reduceLeDiff, Int.reduceToNat, T3, T22, T25, T31, T40, T42, T43, T44, T46, T60, T62, T63, T113, Bool.not_false]); (first | (refine hK _ _ ?_; clear hK K) | (intro bq hbq; (try simp only [HB] at hbq); refine hK _ _ ?_; clear hK K) | (refine ⟨?_, hK _ _ ?_⟩ <;> clear hK K; focus (try (first | omega | exact ⟨rfl, by decide⟩ | exact rfl))) | (refine ⟨_, ?_, hK _ _ ?_⟩ <;> clear hK K) | (refine Op1.callp rfl rfl (cc) rfl ?_; refine hK _ _ ?_; clear hK K) | (refine Op1.callp rfl rfl (hE) rfl ?_; refine hK _ _ ?_; clear hK K) | skip))
    | (first | refine VC.region ?_ | refine VC.seq' ?_ | refine VC.block ?_)
    | ((first | refine VCo.nil ?_ | refine VC.skip ?_ | refine VC.ret ?_ | refine VC.exit ?_); (try simp only [QB, Nat.reduceBEq]))
    | (refine retc1 T rfl (by first | rfl | ((simp (disch := omega) only [hget_ne, hget_eq]) <;> rfl)) rfl rfl rfl (List.nil_sublist _) ?_; (try simp only [upd, Nat.reduceBEq, cond_true, cond_false, and_true]))
    | (refine VC.cond rfl ?_; (try simp only [Bool.not_false, gsplit_true, gsplit_false]))
    | (refine gsplit_intro (fun hc => ?_) (fun hc => ?_) <;> (simp only [GB]))
/-- The thread's Act, as the reference says. -/
theorem rAct_ok {u : Un} {c : Cf} {m r : Int} (h : Rt u c m r) (t : Int) : Pure Try.prog 27 [.agg (unC u), .agg (cfC c), iD m, iD r, iD t] (.tup [.agg (cfC (actT u c m r t)), bD (enT u c m r t)]) := by
  by_cases ht : t < 0 ∨ t ≥ c.pc.length
  · have hn := enT_no (u := u) (m := m) (r := r) ht
    rw [actT_no hn, hn]
    refine rAct_stay u c h.okC m r t ?_
    have := rEnabled_no u c m r t ht
    rwa [hn] at this
  obtain ⟨i, rfl⟩ : ∃ i : Nat, t = (i : Int) := ⟨t.toNat, by omega⟩
  obtain ⟨x, row, b, p, ha⟩ := h.at (i := i) (by omega)
  rw [actT_at ha]
  cases hE : enT u c m r (i : Nat) with
  | true => exact rAct_yes u c h.okC m r ha hE
  | false =>
    refine rAct_stay u c h.okC m r _ ?_
    have := rEnabled_at u c h.okC m r ha.thr
    rwa [hE] at this
/-- Whether a thread is enabled, as the reference and the program say. -/
theorem rEn_ok {u : Un} {c : Cf} {m r : Int} (h : Rt u c m r) (t : Int) : Pure Try.prog 30 [.agg (unC u), .agg (cfC c), iD m, iD r, iD t] (bD (enT u c m r t)) := by
  by_cases ht : t < 0 ∨ t ≥ c.pc.length
  · exact rEnabled_no u c m r t ht
  obtain ⟨i, rfl⟩ : ∃ i : Nat, t = (i : Int) := ⟨t.toNat, by omega⟩
  obtain ⟨x, row, b, p, ha⟩ := h.at (i := i) (by omega)
  exact rEnabled_at u c h.okC m r ha.thr
end Go.Proofs.Ytlnmljmeahknaaa
/- The walk of StepActs. No condition. -/
namespace Go.Proofs.Ytlnmljmeahknaaa
set_option linter.unusedSimpArgs false
set_option linter.unusedVariables false
set_option maxRecDepth 20000
open Go Go.Proofs Go.Vc

set_option maxHeartbeats 16000000 in
theorem lawActs (u : Un) (c : Cf) (m r t l : Int) : Pure Try.prog 6 [.agg (caC u c m r t l)] (bD true) := by
  have c0 := right10_ok u c m r t l
  have ck := known10_ok
  refine Fun.of T [.tmp 2] Try.func6 rfl Try.ntmps6 Try.results6 rfl (by kernel_rfl) ?_
  cases hR : rightK u c m r with
  | false =>
    rw [hR] at c0
    repeat' first
      | (refine VCo.stepO rfl rfl (fun K hK => r_boxR (t := 48) rfl rfl rfl (hK _ _ ?_)); (try simp only [updO]))
      | (refine VC.draw (id := 6) T 30 (by kernel_rfl) (by kernel_rfl) (by kernel_rfl) ?_)
      | (refine VCg.nil T ?_; simp only [allK, WB, Nat.reduceAdd]; try (refine fun (bq : Nat) hbq => ?_; (try simp only [HB] at hbq)))
      | ((first | apply VCg.step T rfl rfl | apply exF); focus ((try simp (disch := omega) only [WB, lookD, argE, fillD, setL, rowsOf, Nat.reduceBEq, Nat.reduceAdd, Nat.reduceMul, Nat.reduceSub, Nat.reduceLeDiff, Int.reduceToNat, T3, T4, T5, T9, T22, T25, T31, T40, T42, T43, T44, T46, T48, T60, T62, T63, T76, T97, T100, T113, Bool.not_false]); (first | exact rfl | exact ⟨rfl, rfl⟩ | (refine ⟨?_, rfl⟩; try (first | omega | exact ⟨rfl, by decide⟩ | exact rfl)) | (refine Op1.callp rfl rfl (c0) rfl ?_; exact ⟨rfl, rfl⟩) | (refine Op1.callp rfl rfl (ck) rfl ?_; exact ⟨rfl, rfl⟩))))
      | (refine VCg.gstep T rfl rfl rfl rfl ?_; try simp only [GB])
      | (refine VCg.gundef T rfl rfl rfl rfl ?_; try simp only [updO])
      | ((first | refine VCo.step T rfl rfl (fun K hK => ?_) | refine VCr.step T rfl (fun K hK => ?_)); (try simp (disch := omega) only [WB, lookD, argE, fillD, setL, rowsOf, Nat.reduceBEq, Nat.reduceAdd, Nat.reduceMul, Nat.reduceSub, Nat.reduceLeDiff, Int.reduceToNat, T3, T4, T5, T9, T22, T25, T31, T40, T42, T43, T44, T46, T48, T60, T62, T63, T76, T97, T100, T113, Bool.not_false]); (first | (refine hK _ _ ?_; clear hK K) | (intro bq hbq; (try simp only [HB] at hbq); refine hK _ _ ?_; clear hK K) | (refine ⟨?_, hK _ _ ?_⟩ <;> clear hK K; focus (try (first | omega | exact ⟨rfl, by decide⟩ | exact rfl))) | (refine ⟨_, ?_, hK _ _ ?_⟩ <;> clear hK K) | (refine Op1.callp rfl rfl (c0) rfl ?_; refine hK _ _ ?_; clear hK K) | (refine Op1.callp rfl rfl (ck) rfl ?_; refine hK _ _ ?_; clear hK K) | skip))
      | (refine VCo.gstep rfl rfl rfl rfl rfl ?_; try simp only [GB])
      | (refine VCo.gundef rfl rfl rfl rfl rfl ?_; try simp only [updO])
      | (first | refine VC.region ?_ | refine VC.seq' ?_ | refine VC.block ?_)
      | ((first | refine VCo.nil ?_ | refine VC.skip ?_ | refine VC.ret ?_ | refine VC.exit ?_); (try simp only [QB, Nat.reduceBEq]))
      | (refine ret1 T (List.nil_sublist _) ?_; (try simp only [upd, Nat.reduceBEq, cond_true, cond_false, and_true]))
      | (refine VC.cond rfl ?_; (try simp only [Bool.not_false, gsplit_true, gsplit_false]))
      | (refine gsplit_intro (fun hc => ?_) (fun hc => ?_) <;> (simp only [GB]))
  | true =>
  rw [hR] at c0
  have h := rtK hR
  have c1 := rcopyF_ok c h.okC
  have cA := actO_ok h t
  have cR := rAct_ok h t
  have c4 := rsame_ok _ _ (OkC.act h t) (OkC.act h t)
  have c5 := rsame_ok _ _ h.okC h.okC
  rw [sameC_refl] at c4 c5
  have c6 := en_ok h r t
  have c7 := rEn_ok h t
  have ka := (OkC.act h t).mem
  have kb := (OkC.act h t).regs
  have kc := (OkC.act h t).row
  generalize actT u c m r t = c2 at *
  generalize enT u c m r t = en at *
  repeat' first
    | (refine VCo.stepO rfl rfl (fun K hK => r_boxR (t := 48) rfl rfl rfl (hK _ _ ?_)); (try simp only [updO]))
    | (refine VC.draw (id := 6) T 30 (by kernel_rfl) (by kernel_rfl) (by kernel_rfl) ?_)
    | (refine VCg.nil T ?_; simp only [allK, WB, Nat.reduceAdd]; try (refine fun (bq : Nat) hbq => ?_; (try simp only [HB] at hbq)))
    | ((first | apply VCg.step T rfl rfl | apply exF); focus ((try simp (disch := omega) only [WB, lookD, argE, fillD, setL, rowsOf, Nat.reduceBEq, Nat.reduceAdd, Nat.reduceMul, Nat.reduceSub, Nat.reduceLeDiff, Int.reduceToNat, T3, T4, T5, T9, T22, T25, T31, T40, T42, T43, T44, T46, T48, T60, T62, T63, T76, T97, T100, T113, Bool.not_true]); (first | exact rfl | exact ⟨rfl, rfl⟩ | (refine ⟨?_, rfl⟩; try (first | omega | exact ⟨rfl, by decide⟩ | exact rfl)) | (refine Op1.callp rfl rfl (c0) rfl ?_; exact ⟨rfl, rfl⟩) | (refine Op1.callp rfl rfl (c1) rfl ?_; exact ⟨rfl, rfl⟩))))
    | (refine VCg.gstep T rfl rfl rfl rfl ?_; try simp only [GB])
    | (refine VCg.gundef T rfl rfl rfl rfl ?_; try simp only [updO])
    | ((first | refine VCo.step T rfl rfl (fun K hK => ?_) | refine VCr.step T rfl (fun K hK => ?_)); (try simp (disch := omega) only [WB, lookD, argE, fillD, setL, rowsOf, Nat.reduceBEq, Nat.reduceAdd, Nat.reduceMul, Nat.reduceSub, Nat.reduceLeDiff, Int.reduceToNat, T3, T4, T5, T9, T22, T25, T31, T40, T42, T43, T44, T46, T48, T60, T62, T63, T76, T97, T100, T113, Bool.not_true]); (first | (refine hK _ _ ?_; clear hK K) | (intro bq hbq; (try simp only [HB] at hbq); refine hK _ _ ?_; clear hK K) | (refine ⟨?_, hK _ _ ?_⟩ <;> clear hK K; focus (try (first | omega | exact ⟨rfl, by decide⟩ | exact rfl))) | (refine ⟨_, ?_, hK _ _ ?_⟩ <;> clear hK K) | (refine Op1.callp rfl rfl (c0) rfl ?_; refine hK _ _ ?_; clear hK K) | (refine Op1.callp rfl rfl (c1) rfl ?_; refine hK _ _ ?_; clear hK K) | skip))
    | (refine VCo.gstep rfl rfl rfl rfl rfl ?_; try simp only [GB])
    | (refine VCo.gundef rfl rfl rfl rfl rfl ?_; try simp only [updO])
    | (first | refine VC.region ?_ | refine VC.seq' ?_ | refine VC.block ?_)
    | ((first | refine VCo.nil ?_ | refine VC.skip ?_ | refine VC.ret ?_ | refine VC.exit ?_); (try simp only [QB, Nat.reduceBEq]))
    | (refine VC.cond rfl ?_; (try simp only [Bool.not_true, gsplit_true, gsplit_false]))
    | (refine gsplit_intro (fun hc => ?_) (fun hc => ?_) <;> (simp only [GB]))
  refine Op1.callx rfl rfl cA rfl (fun q hq => ?_)
  refine hK _ _ ?_
  clear hK K
  refine VCo.weak (Weak.perm (H' := (bq, .cells 46 4 [ints c.pc, .sl false 1 (rowsI c.regs), ints c.mem, .sl false 1 (bufsR c.bufs)]) :: q.h c2 []) (perm_of fun a => by simp only [cnt_cons, cnt_app, cnt_nil]; omega)) ?_
  revert bq
  intro b3
  have hfz : ∀ y1 y2, FzL (y1 :: y2 :: (b3, .cells 46 4 [ints c.pc, .sl false 1 (rowsI c.regs), ints c.mem, .sl false 1 (bufsR c.bufs)]) :: q.h c2 []) [.agg (cfC c2), .agg (cfC c2)] [.agg (q.cs c2), .agg (cfC c2)] := fun y1 y2 =>
    fz_cons ⟨_, rfl, OC.fzL (X := []) hq fun y hy => List.mem_cons_of_mem _ (List.mem_cons_of_mem _ (List.mem_cons_of_mem _ hy))⟩ (FzL.refl _ _)
  simp only [OC.cs] at hfz ⊢
  repeat' first
    | (refine VC.draw (id := 6) T 30 (by kernel_rfl) (by kernel_rfl) (by kernel_rfl) ?_)
    | (refine VCg.nil T ?_; simp only [allK, WB, Nat.reduceAdd]; try (refine fun (bq : Nat) hbq => ?_; (try simp only [HB] at hbq)))
    | ((first | apply VCg.step T rfl rfl | apply exF); focus ((try simp (disch := omega) only [WB, lookD, argE, fillD, setL, rowsOf, Nat.reduceBEq, Nat.reduceAdd, Nat.reduceMul, Nat.reduceSub, Nat.reduceLeDiff, Int.reduceToNat, T3, T4, T5, T9, T22, T25, T31, T40, T42, T43, T44, T46, T48, T60, T62, T63, T76, T97, T100, T113, Bool.not_true]); (first | exact rfl | exact ⟨rfl, rfl⟩ | (refine ⟨?_, rfl⟩; try (first | omega | exact ⟨rfl, by decide⟩ | exact rfl)) | (refine Op1.callp rfl rfl (cR) rfl ?_; exact ⟨rfl, rfl⟩) | (refine Op1.callp rfl rfl (c6) rfl ?_; exact ⟨rfl, rfl⟩) | (refine Op1.callp rfl rfl (c7) rfl ?_; exact ⟨rfl, rfl⟩) | (refine Op1.lend rfl rfl (c4) (hfz _ _) (.inr rfl) ?_; exact ⟨rfl, rfl⟩))))
    | (refine VCg.gstep T rfl rfl rfl rfl ?_; try simp only [GB])
    | (refine VCg.gundef T rfl rfl rfl rfl ?_; try simp only [updO])
    | ((first | refine VCo.step T rfl rfl (fun K hK => ?_) | refine VCr.step T rfl (fun K hK => ?_)); (try simp (disch := omega) only [WB, lookD, argE, fillD, setL, rowsOf, Nat.reduceBEq, Nat.reduceAdd, Nat.reduceMul, Nat.reduceSub, Nat.reduceLeDiff, Int.reduceToNat, T3, T4, T5, T9, T22, T25, T31, T40, T42, T43, T44, T46, T48, T60, T62, T63, T76, T97, T100, T113, Bool.not_true]); (first | (refine hK _ _ ?_; clear hK K) | (intro bq hbq; (try simp only [HB] at hbq); refine hK _ _ ?_; clear hK K) | (refine ⟨?_, hK _ _ ?_⟩ <;> clear hK K; focus (try (first | omega | exact ⟨rfl, by decide⟩ | exact rfl))) | (refine ⟨_, ?_, hK _ _ ?_⟩ <;> clear hK K) | (refine Op1.callp rfl rfl (cR) rfl ?_; refine hK _ _ ?_; clear hK K) | (refine Op1.callp rfl rfl (c6) rfl ?_; refine hK _ _ ?_; clear hK K) | (refine Op1.callp rfl rfl (c7) rfl ?_; refine hK _ _ ?_; clear hK K) | (refine Op1.lend rfl rfl (c4) (hfz _ _) (.inr rfl) ?_; refine hK _ _ ?_; clear hK K) | skip))
    | (refine VCo.gstep rfl rfl rfl rfl rfl ?_; try simp only [GB])
    | (refine VCo.gundef rfl rfl rfl rfl rfl ?_; try simp only [updO])
    | (first | refine VC.region ?_ | refine VC.seq' ?_ | refine VC.block ?_)
    | ((first | refine VCo.nil ?_ | refine VC.skip ?_ | refine VC.ret ?_ | refine VC.exit ?_); (try simp only [QB, Nat.reduceBEq]))
    | (refine VC.cond rfl ?_; (try simp only [Bool.not_true, gsplit_true, gsplit_false]))
    | (refine gsplit_intro (fun hc => ?_) (fun hc => ?_) <;> (simp only [GB]))
  rename_i b4 hb4
  revert bq
  intro b6 hb6
  obtain ⟨gp, gr, gm, gb, rs⟩ := q
  have n1 : ¬ b6 = b4 := hb6.1
  have n2 : ¬ b6 = b3 := hb6.2.1
  have n3 : ¬ b4 = b3 := hb4.1
  clear hfz hb4 hb6 cR c6 c7 c4 cA
  have h7 : D.is (Value.int IntKind.i64 (-7)) = iD (-7) := rfl
  refine VC.loop {p : Nat × List Int // p.1 ≤ c2.mem.length ∧ p.2.length = c2.mem.length} (fun p => ⟨lookD [(1, .pt (caC u c m r t l)), (3, pD b3), (4, pD b4), (8, bD true), (9, iD (p.1.1 : Nat))], (b6, .cells 46 4 [ints c2.pc, .sl false 1 (rowsI c2.regs), ints c2.mem, .sl false 1 (bufsR c2.bufs)]) :: (b4, .cells 46 4 [.gs gp c2.pc.length, .gs gr c2.regs.length, .gs gm c2.mem.length, .gs gb c2.bufs.length]) :: (b3, .cells 46 4 [ints c.pc, .sl false 1 (rowsI c.regs), ints c.mem, .sl false 1 (bufsR c.bufs)]) :: (OC.mk gp gr gm gb rs).h { c2 with mem := p.1.2 } []⟩) (fun p => c2.mem.length - p.1.1) ⟨(0, c2.mem), by omega, rfl⟩ ?_ ?_
  · refine Weak.sub ?_
    simp [sub, upd]
  rintro ⟨⟨k, L⟩, hk, hL⟩
  dsimp only at hk hL ⊢
  rcases Nat.lt_or_ge k c2.mem.length with hlt | hge
  · have hd : decide ((k : Int) < (c2.mem.length : Int)) = true := by simp; omega
    have hw : IntKind.i64.wrap ((k : Int) + 1) = ((k + 1 : Nat) : Int) := by rw [w64 (by omega)]; omega
    rcases gm with _ | ⟨bm, cm⟩
    · have h0 : c2.mem.length = 0 := hq.mem
      omega
    refine VC.weak (Weak.perm (H' := (b6, .cells 46 4 [ints c2.pc, .sl false 1 (rowsI c2.regs), ints c2.mem, .sl false 1 (bufsR c2.bufs)]) :: (b4, .cells 46 4 [.gs gp c2.pc.length, .gs gr c2.regs.length, .gs (some (bm, cm)) c2.mem.length, .gs gb c2.bufs.length]) :: (b3, .cells 46 4 [ints c.pc, .sl false 1 (rowsI c.regs), ints c.mem, .sl false 1 (bufsR c.bufs)]) :: (bm, .cells 3 (cm * 1) (L.map iD)) :: shp gp 3 1 (c2.pc.map iD) (shp gr 31 1 (rgC rs) (shp gb 22 1 (c2.bufs.map buf) (rgH rs [])))) (perm_of fun a => by simp only [OC.h, shp_some, cnt_shp, cnt_rgH, cnt_cons, cnt_app, cnt_nil]; omega)) ?_
    refine VC.nodup fun hn => ?_
    have n4 : ¬ b6 = bm := fun h => by subst h; simp [Heap.blocks] at hn
    have n5 : ¬ b4 = bm := fun h => by subst h; simp [Heap.blocks] at hn
    have n6 : ¬ b3 = bm := fun h => by subst h; simp [Heap.blocks] at hn
    have hLm : (L.map iD).length = c2.mem.length := by rw [List.length_map, hL]
    repeat' first
      | (refine VC.draw (id := 6) T 30 (by kernel_rfl) (by kernel_rfl) (by kernel_rfl) ?_)
      | (refine VCg.nil T ?_; simp only [allK, WB, Nat.reduceAdd]; try (refine fun (bq : Nat) hbq => ?_; (try simp only [HB] at hbq)))
      | ((first | apply VCg.step T rfl rfl | apply exF); focus ((try simp (disch := omega) only [WB, lookD, argE, fillD, setL, rowsOf, Nat.reduceBEq, Nat.reduceAdd, Nat.reduceMul, Nat.reduceSub, Nat.reduceLeDiff, Int.reduceToNat, T3, T4, T5, T9, T22, T25, T31, T40, T42, T43, T44, T46, T48, T60, T62, T63, T76, T97, T100, T113, hd, hw, hL]); (first | exact rfl | exact ⟨rfl, rfl⟩ | (refine ⟨?_, rfl⟩; try (first | omega | exact ⟨rfl, by decide⟩ | exact rfl)))))
      | (refine VCg.gstep T rfl rfl rfl rfl ?_; try simp only [GB])
      | (refine VCg.gundef T rfl rfl rfl rfl ?_; try simp only [updO])
      | ((first | refine VCo.step T rfl rfl (fun K hK => ?_) | refine VCr.step T rfl (fun K hK => ?_)); (try simp (disch := omega) only [WB, lookD, argE, fillD, setL, rowsOf, Nat.reduceBEq, Nat.reduceAdd, Nat.reduceMul, Nat.reduceSub, Nat.reduceLeDiff, Int.reduceToNat, T3, T4, T5, T9, T22, T25, T31, T40, T42, T43, T44, T46, T48, T60, T62, T63, T76, T97, T100, T113, hd, hw, hL]); (first | (refine hK _ _ ?_; clear hK K) | (intro bq hbq; (try simp only [HB] at hbq); refine hK _ _ ?_; clear hK K) | (refine ⟨?_, hK _ _ ?_⟩ <;> clear hK K; focus (try (first | omega | exact ⟨rfl, by decide⟩ | exact rfl))) | (refine ⟨_, ?_, hK _ _ ?_⟩ <;> clear hK K) | skip))
      | (refine VCo.gstep rfl rfl rfl rfl rfl ?_; try simp only [GB])
      | (refine VCo.gundef rfl rfl rfl rfl rfl ?_; try simp only [updO])
      | (first | refine VC.region ?_ | refine VC.seq' ?_ | refine VC.block ?_)
      | ((first | refine VCo.nil ?_ | refine VC.skip ?_ | refine VC.ret ?_ | refine VC.exit ?_); (try simp only [QB, Nat.reduceBEq]))
      | (refine VC.cond rfl ?_; (try simp only [hd, hw, hL, gsplit_true, gsplit_false]))
      | (refine gsplit_intro (fun hc => ?_) (fun hc => ?_) <;> (simp only [GB]))
    refine ⟨⟨(k + 1, L.set k (-7)), by dsimp only; omega, by simpa using hL⟩, ?_, by dsimp only; omega⟩
    refine Weak.trans (Weak.perm (H' := (b6, .cells 46 4 [ints c2.pc, .sl false 1 (rowsI c2.regs), ints c2.mem, .sl false 1 (bufsR c2.bufs)]) :: (b4, .cells 46 4 [.gs gp c2.pc.length, .gs gr c2.regs.length, .gs (some (bm, cm)) c2.mem.length, .gs gb c2.bufs.length]) :: (b3, .cells 46 4 [ints c.pc, .sl false 1 (rowsI c.regs), ints c.mem, .sl false 1 (bufsR c.bufs)]) :: (OC.mk gp gr (some (bm, cm)) gb rs).h { c2 with mem := L.set k (-7) } []) (perm_of fun a => by simp only [h7, OC.h, shp_some, List.map_set, Nat.mul_one, cnt_shp, cnt_rgH, cnt_cons, cnt_app, cnt_nil]; omega)) (Weak.sub ?_)
    simp [sub, upd]
  have hd : decide ((k : Int) < (c2.mem.length : Int)) = false := by simp; omega
  repeat' first
    | (refine VC.draw (id := 6) T 30 (by kernel_rfl) (by kernel_rfl) (by kernel_rfl) ?_)
    | (refine VCg.nil T ?_; simp only [allK, WB, Nat.reduceAdd]; try (refine fun (bq : Nat) hbq => ?_; (try simp only [HB] at hbq)))
    | ((first | apply VCg.step T rfl rfl | apply exF); focus ((try simp (disch := omega) only [WB, lookD, argE, fillD, setL, rowsOf, Nat.reduceBEq, Nat.reduceAdd, Nat.reduceMul, Nat.reduceSub, Nat.reduceLeDiff, Int.reduceToNat, T3, T4, T5, T9, T22, T25, T31, T40, T42, T43, T44, T46, T48, T60, T62, T63, T76, T97, T100, T113, hd]); (first | exact rfl | exact ⟨rfl, rfl⟩ | (refine ⟨?_, rfl⟩; try (first | omega | exact ⟨rfl, by decide⟩ | exact rfl)))))
    | (refine VCg.gstep T rfl rfl rfl rfl ?_; try simp only [GB])
    | (refine VCg.gundef T rfl rfl rfl rfl ?_; try simp only [updO])
    | ((first | refine VCo.step T rfl rfl (fun K hK => ?_) | refine VCr.step T rfl (fun K hK => ?_)); (try simp (disch := omega) only [WB, lookD, argE, fillD, setL, rowsOf, Nat.reduceBEq, Nat.reduceAdd, Nat.reduceMul, Nat.reduceSub, Nat.reduceLeDiff, Int.reduceToNat, T3, T4, T5, T9, T22, T25, T31, T40, T42, T43, T44, T46, T48, T60, T62, T63, T76, T97, T100, T113, hd]); (first | (refine hK _ _ ?_; clear hK K) | (intro bq hbq; (try simp only [HB] at hbq); refine hK _ _ ?_; clear hK K) | (refine ⟨?_, hK _ _ ?_⟩ <;> clear hK K; focus (try (first | omega | exact ⟨rfl, by decide⟩ | exact rfl))) | (refine ⟨_, ?_, hK _ _ ?_⟩ <;> clear hK K) | skip))
    | (refine VCo.gstep rfl rfl rfl rfl rfl ?_; try simp only [GB])
    | (refine VCo.gundef rfl rfl rfl rfl rfl ?_; try simp only [updO])
    | (first | refine VC.region ?_ | refine VC.seq' ?_ | refine VC.block ?_)
    | ((first | refine VCo.nil ?_ | refine VC.skip ?_ | refine VC.ret ?_ | refine VC.exit ?_); (try simp only [QB, Nat.reduceBEq]))
    | (refine VC.cond rfl ?_; (try simp only [hd, gsplit_true, gsplit_false]))
    | (refine gsplit_intro (fun hc => ?_) (fun hc => ?_) <;> (simp only [GB]))
  refine VC.loop {p : Nat × OR // p.1 ≤ c2.regs.length ∧ rgC p.2 = rgC rs} (fun p => ⟨lookD [(1, .pt (caC u c m r t l)), (3, pD b3), (4, pD b4), (8, bD true), (10, iD (p.1.1 : Nat))], (b6, .cells 46 4 [ints c2.pc, .sl false 1 (rowsI c2.regs), ints c2.mem, .sl false 1 (bufsR c2.bufs)]) :: (b4, .cells 46 4 [.gs gp c2.pc.length, .gs gr c2.regs.length, .gs gm c2.mem.length, .gs gb c2.bufs.length]) :: (b3, .cells 46 4 [ints c.pc, .sl false 1 (rowsI c.regs), ints c.mem, .sl false 1 (bufsR c.bufs)]) :: (OC.mk gp gr gm gb p.1.2).h { c2 with mem := L } []⟩) (fun p => c2.regs.length - p.1.1) ⟨(0, rs), by omega, rfl⟩ ?_ ?_
  · refine Weak.sub ?_
    simp [sub, upd]
  rintro ⟨⟨i, rt⟩, hi, hrt⟩
  dsimp only at hi hrt ⊢
  rcases Nat.lt_or_ge i c2.regs.length with hlt2 | hge2
  · have hd2 : decide ((i : Int) < (c2.regs.length : Int)) = true := by simp; omega
    have hw2 : IntKind.i64.wrap ((i : Int) + 1) = ((i + 1 : Nat) : Int) := by rw [w64 (by omega)]; omega
    rcases gr with _ | ⟨br, cr⟩
    · have h0 : c2.regs.length = 0 := hq.gr
      omega
    have hrl : rs.length = c2.regs.length := by rw [← hq.rows, List.length_map]
    obtain ⟨⟨gi, row⟩, hri⟩ : ∃ p, rs[i]? = some p := ⟨_, List.getElem?_eq_getElem (by omega)⟩
    have hgi : gOk gi row.length := hq.row (gi, row) (List.mem_of_getElem? hri)
    have kcr : row.length ≤ 1000 := kc row (by rw [← hq.rows]; exact List.mem_map.2 ⟨_, List.mem_of_getElem? hri, rfl⟩)
    have hrc : (rgC rs)[i * 1]? = some (.gs gi row.length) := by rw [Nat.mul_one]; simp [rgC, hri]
    have hrcl : (rgC rs).length = c2.regs.length := by rw [rgC_len, hrl]
    repeat' first
      | (refine VC.draw (id := 6) T 30 (by kernel_rfl) (by kernel_rfl) (by kernel_rfl) ?_)
      | (refine VCg.nil T ?_; simp only [allK, WB, Nat.reduceAdd]; try (refine fun (bq : Nat) hbq => ?_; (try simp only [HB] at hbq)))
      | ((first | apply VCg.step T rfl rfl | apply exF); focus ((try simp (disch := omega) only [WB, lookD, argE, fillD, setL, rowsOf, Nat.reduceBEq, Nat.reduceAdd, Nat.reduceMul, Nat.reduceSub, Nat.reduceLeDiff, Int.reduceToNat, T3, T4, T5, T9, T22, T25, T31, T40, T42, T43, T44, T46, T48, T60, T62, T63, T76, T97, T100, T113, hd2]); (first | exact rfl | exact ⟨rfl, rfl⟩ | (refine ⟨?_, rfl⟩; try (first | omega | exact ⟨rfl, by decide⟩ | exact rfl)))))
      | (refine VCg.gstep T rfl rfl rfl rfl ?_; try simp only [GB])
      | (refine VCg.gundef T rfl rfl rfl rfl ?_; try simp only [updO])
      | ((first | refine VCo.step T rfl rfl (fun K hK => ?_) | refine VCr.step T rfl (fun K hK => ?_)); (try simp (disch := omega) only [WB, lookD, argE, fillD, setL, rowsOf, Nat.reduceBEq, Nat.reduceAdd, Nat.reduceMul, Nat.reduceSub, Nat.reduceLeDiff, Int.reduceToNat, T3, T4, T5, T9, T22, T25, T31, T40, T42, T43, T44, T46, T48, T60, T62, T63, T76, T97, T100, T113, hd2]); (first | (refine hK _ _ ?_; clear hK K) | (intro bq hbq; (try simp only [HB] at hbq); refine hK _ _ ?_; clear hK K) | (refine ⟨?_, hK _ _ ?_⟩ <;> clear hK K; focus (try (first | omega | exact ⟨rfl, by decide⟩ | exact rfl))) | (refine ⟨_, ?_, hK _ _ ?_⟩ <;> clear hK K) | skip))
      | (refine VCo.gstep rfl rfl rfl rfl rfl ?_; try simp only [GB])
      | (refine VCo.gundef rfl rfl rfl rfl rfl ?_; try simp only [updO])
      | (first | refine VC.region ?_ | refine VC.seq' ?_ | refine VC.block ?_)
      | ((first | refine VCo.nil ?_ | refine VC.skip ?_ | refine VC.ret ?_ | refine VC.exit ?_); (try simp only [QB, Nat.reduceBEq]))
      | (refine VC.cond rfl ?_; (try simp only [hd2, gsplit_true, gsplit_false]))
      | (refine gsplit_intro (fun hc => ?_) (fun hc => ?_) <;> (simp only [GB]))
    refine VC.loop {p : Nat × OR // p.1 ≤ row.length ∧ rgC p.2 = rgC rs} (fun p => ⟨lookD [(1, .pt (caC u c m r t l)), (3, pD b3), (4, pD b4), (8, bD true), (10, iD (i : Nat)), (11, iD (p.1.1 : Nat))], (b6, .cells 46 4 [ints c2.pc, .sl false 1 (rowsI c2.regs), ints c2.mem, .sl false 1 (bufsR c2.bufs)]) :: (b4, .cells 46 4 [.gs gp c2.pc.length, .gs (some (br, cr)) c2.regs.length, .gs gm c2.mem.length, .gs gb c2.bufs.length]) :: (b3, .cells 46 4 [ints c.pc, .sl false 1 (rowsI c.regs), ints c.mem, .sl false 1 (bufsR c.bufs)]) :: (OC.mk gp (some (br, cr)) gm gb p.1.2).h { c2 with mem := L } []⟩) (fun p => row.length - p.1.1) ⟨(0, rt), by omega, hrt⟩ ?_ ?_
    · refine Weak.sub ?_
      simp [sub, upd]
    rintro ⟨⟨j, rv⟩, hj, hrv⟩
    dsimp only at hj hrv ⊢
    have hrvl : rv.length = rs.length := by have := congrArg List.length hrv; simpa [rgC_len] using this
    obtain ⟨⟨gj, rowj⟩, hrj⟩ : ∃ p, rv[i]? = some p := ⟨_, List.getElem?_eq_getElem (by omega)⟩
    have hrcv : (rgC rv)[i * 1]? = some (.gs gi row.length) := by rw [hrv]; exact hrc
    have hgj : gj = gi ∧ rowj.length = row.length := by
      rw [Nat.mul_one] at hrcv
      simp [rgC, hrj] at hrcv
      exact hrcv
    obtain ⟨rfl, hrowj⟩ := hgj
    rcases Nat.lt_or_ge j row.length with hlt3 | hge3
    · have hd3 : decide ((j : Int) < (row.length : Int)) = true := by simp; omega
      have hw3 : IntKind.i64.wrap ((j : Int) + 1) = ((j + 1 : Nat) : Int) := by rw [w64 (by omega)]; omega
      rcases gj with _ | ⟨bi, ci⟩
      · have h0 : row.length = 0 := hgi
        omega
      obtain ⟨pre, post, g0, rfl, hpl, hset⟩ := rs_split (rs := rv) rfl (show (rv.map (·.2))[i]? = some rowj by simp [hrj])
      have hg0 : g0 = some (bi, ci) := by
        rw [← hpl] at hrj
        simpa using hrj
      subst hg0
      refine VC.weak (Weak.perm (H' := (b6, .cells 46 4 [ints c2.pc, .sl false 1 (rowsI c2.regs), ints c2.mem, .sl false 1 (bufsR c2.bufs)]) :: (b4, .cells 46 4 [.gs gp c2.pc.length, .gs (some (br, cr)) c2.regs.length, .gs gm c2.mem.length, .gs gb c2.bufs.length]) :: (b3, .cells 46 4 [ints c.pc, .sl false 1 (rowsI c.regs), ints c.mem, .sl false 1 (bufsR c.bufs)]) :: (br, .cells 31 (cr * 1) (rgC (pre ++ (some (bi, ci), rowj) :: post))) :: (bi, .cells 3 (ci * 1) (rowj.map iD)) :: shp gp 3 1 (c2.pc.map iD) (shp gm 3 1 (L.map iD) (shp gb 22 1 (c2.bufs.map buf) (rgH pre (rgH post []))))) (perm_of fun a => by simp only [OC.h, rgH_mid, shp_some, cnt_shp, cnt_rgH, cnt_cons, cnt_app, cnt_nil]; omega)) ?_
      refine VC.nodup fun hn => ?_
      have n4 : ¬ b6 = br := fun h => by subst h; simp [Heap.blocks] at hn
      have n5 : ¬ b4 = br := fun h => by subst h; simp [Heap.blocks] at hn
      have n6 : ¬ b3 = br := fun h => by subst h; simp [Heap.blocks] at hn
      have n7 : ¬ b6 = bi := fun h => by subst h; simp [Heap.blocks] at hn
      have n8 : ¬ b4 = bi := fun h => by subst h; simp [Heap.blocks] at hn
      have n9 : ¬ b3 = bi := fun h => by subst h; simp [Heap.blocks] at hn
      have n10 : ¬ br = bi := fun h => by subst h; simp [Heap.blocks] at hn
      have hrm : (rowj.map iD).length = row.length := by rw [List.length_map, hrowj]
      have hrcl2 : (rgC (pre ++ (some (bi, ci), rowj) :: post)).length = c2.regs.length := by rw [rgC_len]; omega
      repeat' first
        | (refine VC.draw (id := 6) T 30 (by kernel_rfl) (by kernel_rfl) (by kernel_rfl) ?_)
        | (refine VCg.nil T ?_; simp only [allK, WB, Nat.reduceAdd]; try (refine fun (bq : Nat) hbq => ?_; (try simp only [HB] at hbq)))
        | ((first | apply VCg.step T rfl rfl | apply exF); focus ((try simp (disch := omega) only [WB, lookD, argE, fillD, setL, rowsOf, Nat.reduceBEq, Nat.reduceAdd, Nat.reduceMul, Nat.reduceSub, Nat.reduceLeDiff, Int.reduceToNat, T3, T4, T5, T9, T22, T25, T31, T40, T42, T43, T44, T46, T48, T60, T62, T63, T76, T97, T100, T113, hd3, hw3, hrcv, hrm, hrcl2]); (first | exact rfl | exact ⟨rfl, rfl⟩ | (refine ⟨?_, rfl⟩; try (first | omega | exact ⟨rfl, by decide⟩ | exact rfl)))))
        | (refine VCg.gstep T rfl rfl rfl rfl ?_; try simp only [GB])
        | (refine VCg.gundef T rfl rfl rfl rfl ?_; try simp only [updO])
        | ((first | refine VCo.step T rfl rfl (fun K hK => ?_) | refine VCr.step T rfl (fun K hK => ?_)); (try simp (disch := omega) only [WB, lookD, argE, fillD, setL, rowsOf, Nat.reduceBEq, Nat.reduceAdd, Nat.reduceMul, Nat.reduceSub, Nat.reduceLeDiff, Int.reduceToNat, T3, T4, T5, T9, T22, T25, T31, T40, T42, T43, T44, T46, T48, T60, T62, T63, T76, T97, T100, T113, hd3, hw3, hrcv, hrm, hrcl2]); (first | (refine hK _ _ ?_; clear hK K) | (intro bq hbq; (try simp only [HB] at hbq); refine hK _ _ ?_; clear hK K) | (refine ⟨?_, hK _ _ ?_⟩ <;> clear hK K; focus (try (first | omega | exact ⟨rfl, by decide⟩ | exact rfl))) | (refine ⟨_, ?_, hK _ _ ?_⟩ <;> clear hK K) | skip))
        | (refine VCo.gstep rfl rfl rfl rfl rfl ?_; try simp only [GB])
        | (refine VCo.gundef rfl rfl rfl rfl rfl ?_; try simp only [updO])
        | (first | refine VC.region ?_ | refine VC.seq' ?_ | refine VC.block ?_)
        | ((first | refine VCo.nil ?_ | refine VC.skip ?_ | refine VC.ret ?_ | refine VC.exit ?_); (try simp only [QB, Nat.reduceBEq]))
        | (refine VC.cond rfl ?_; (try simp only [hd3, hw3, hrcv, hrm, hrcl2, gsplit_true, gsplit_false]))
        | (refine gsplit_intro (fun hc => ?_) (fun hc => ?_) <;> (simp only [GB]))
      refine ⟨⟨(j + 1, pre ++ (some (bi, ci), rowj.set j (-7)) :: post), by dsimp only; omega, by rw [← hrv]; exact rgC_mid⟩, ?_, by dsimp only; omega⟩
      refine Weak.trans (Weak.perm (H' := (b6, .cells 46 4 [ints c2.pc, .sl false 1 (rowsI c2.regs), ints c2.mem, .sl false 1 (bufsR c2.bufs)]) :: (b4, .cells 46 4 [.gs gp c2.pc.length, .gs (some (br, cr)) c2.regs.length, .gs gm c2.mem.length, .gs gb c2.bufs.length]) :: (b3, .cells 46 4 [ints c.pc, .sl false 1 (rowsI c.regs), ints c.mem, .sl false 1 (bufsR c.bufs)]) :: (OC.mk gp (some (br, cr)) gm gb (pre ++ (some (bi, ci), rowj.set j (-7)) :: post)).h { c2 with mem := L } []) (perm_of fun a => by simp only [h7, OC.h, rgH_mid, rgC_mid, shp_some, List.map_set, Nat.mul_one, cnt_shp, cnt_rgH, cnt_cons, cnt_app, cnt_nil]; omega)) (Weak.sub ?_)
      simp [sub, upd]
    have hd3 : decide ((j : Int) < (row.length : Int)) = false := by simp; omega
    refine VC.weak (Weak.perm (H' := (b6, .cells 46 4 [ints c2.pc, .sl false 1 (rowsI c2.regs), ints c2.mem, .sl false 1 (bufsR c2.bufs)]) :: (b4, .cells 46 4 [.gs gp c2.pc.length, .gs (some (br, cr)) c2.regs.length, .gs gm c2.mem.length, .gs gb c2.bufs.length]) :: (b3, .cells 46 4 [ints c.pc, .sl false 1 (rowsI c.regs), ints c.mem, .sl false 1 (bufsR c.bufs)]) :: (br, .cells 31 (cr * 1) (rgC rv)) :: shp gp 3 1 (c2.pc.map iD) (shp gm 3 1 (L.map iD) (shp gb 22 1 (c2.bufs.map buf) (rgH rv [])))) (perm_of fun a => by simp only [OC.h, shp_some, cnt_shp, cnt_rgH, cnt_cons, cnt_app, cnt_nil]; omega)) ?_
    refine VC.nodup fun hn => ?_
    have n4 : ¬ b6 = br := fun h => by subst h; simp [Heap.blocks] at hn
    have n5 : ¬ b4 = br := fun h => by subst h; simp [Heap.blocks] at hn
    have n6 : ¬ b3 = br := fun h => by subst h; simp [Heap.blocks] at hn
    have hrcl2 : (rgC rv).length = c2.regs.length := by rw [rgC_len]; omega
    repeat' first
      | (refine VC.draw (id := 6) T 30 (by kernel_rfl) (by kernel_rfl) (by kernel_rfl) ?_)
      | (refine VCg.nil T ?_; simp only [allK, WB, Nat.reduceAdd]; try (refine fun (bq : Nat) hbq => ?_; (try simp only [HB] at hbq)))
      | ((first | apply VCg.step T rfl rfl | apply exF); focus ((try simp (disch := omega) only [WB, lookD, argE, fillD, setL, rowsOf, Nat.reduceBEq, Nat.reduceAdd, Nat.reduceMul, Nat.reduceSub, Nat.reduceLeDiff, Int.reduceToNat, T3, T4, T5, T9, T22, T25, T31, T40, T42, T43, T44, T46, T48, T60, T62, T63, T76, T97, T100, T113, hd3, hw2, hrcv, hrcl2]); (first | exact rfl | exact ⟨rfl, rfl⟩ | (refine ⟨?_, rfl⟩; try (first | omega | exact ⟨rfl, by decide⟩ | exact rfl)))))
      | (refine VCg.gstep T rfl rfl rfl rfl ?_; try simp only [GB])
      | (refine VCg.gundef T rfl rfl rfl rfl ?_; try simp only [updO])
      | ((first | refine VCo.step T rfl rfl (fun K hK => ?_) | refine VCr.step T rfl (fun K hK => ?_)); (try simp (disch := omega) only [WB, lookD, argE, fillD, setL, rowsOf, Nat.reduceBEq, Nat.reduceAdd, Nat.reduceMul, Nat.reduceSub, Nat.reduceLeDiff, Int.reduceToNat, T3, T4, T5, T9, T22, T25, T31, T40, T42, T43, T44, T46, T48, T60, T62, T63, T76, T97, T100, T113, hd3, hw2, hrcv, hrcl2]); (first | (refine hK _ _ ?_; clear hK K) | (intro bq hbq; (try simp only [HB] at hbq); refine hK _ _ ?_; clear hK K) | (refine ⟨?_, hK _ _ ?_⟩ <;> clear hK K; focus (try (first | omega | exact ⟨rfl, by decide⟩ | exact rfl))) | (refine ⟨_, ?_, hK _ _ ?_⟩ <;> clear hK K) | skip))
      | (refine VCo.gstep rfl rfl rfl rfl rfl ?_; try simp only [GB])
      | (refine VCo.gundef rfl rfl rfl rfl rfl ?_; try simp only [updO])
      | (first | refine VC.region ?_ | refine VC.seq' ?_ | refine VC.block ?_)
      | ((first | refine VCo.nil ?_ | refine VC.skip ?_ | refine VC.ret ?_ | refine VC.exit ?_); (try simp only [QB, Nat.reduceBEq]))
      | (refine VC.cond rfl ?_; (try simp only [hd3, hw2, hrcv, hrcl2, gsplit_true, gsplit_false]))
      | (refine gsplit_intro (fun hc => ?_) (fun hc => ?_) <;> (simp only [GB]))
    refine ⟨⟨(i + 1, rv), by dsimp only; omega, hrv⟩, ?_, by dsimp only; omega⟩
    refine Weak.trans (Weak.perm (H' := (b6, .cells 46 4 [ints c2.pc, .sl false 1 (rowsI c2.regs), ints c2.mem, .sl false 1 (bufsR c2.bufs)]) :: (b4, .cells 46 4 [.gs gp c2.pc.length, .gs (some (br, cr)) c2.regs.length, .gs gm c2.mem.length, .gs gb c2.bufs.length]) :: (b3, .cells 46 4 [ints c.pc, .sl false 1 (rowsI c.regs), ints c.mem, .sl false 1 (bufsR c.bufs)]) :: (OC.mk gp (some (br, cr)) gm gb rv).h { c2 with mem := L } []) (perm_of fun a => by simp only [OC.h, shp_some, cnt_shp, cnt_rgH, cnt_cons, cnt_app, cnt_nil]; omega)) (Weak.sub ?_)
    simp [sub, upd]
  have hd2 : decide ((i : Int) < (c2.regs.length : Int)) = false := by simp; omega
  repeat' first
    | (refine VC.draw (id := 6) T 30 (by kernel_rfl) (by kernel_rfl) (by kernel_rfl) ?_)
    | (refine VCg.nil T ?_; simp only [allK, WB, Nat.reduceAdd]; try (refine fun (bq : Nat) hbq => ?_; (try simp only [HB] at hbq)))
    | ((first | apply VCg.step T rfl rfl | apply exF); focus ((try simp (disch := omega) only [WB, lookD, argE, fillD, setL, rowsOf, Nat.reduceBEq, Nat.reduceAdd, Nat.reduceMul, Nat.reduceSub, Nat.reduceLeDiff, Int.reduceToNat, T3, T4, T5, T9, T22, T25, T31, T40, T42, T43, T44, T46, T48, T60, T62, T63, T76, T97, T100, T113, hd2]); (first | exact rfl | exact ⟨rfl, rfl⟩ | (refine ⟨?_, rfl⟩; try (first | omega | exact ⟨rfl, by decide⟩ | exact rfl)) | (refine Op1.callp rfl rfl (c5) rfl ?_; exact ⟨rfl, rfl⟩) | (refine Op1.callp rfl rfl (ck) rfl ?_; exact ⟨rfl, rfl⟩))))
    | (refine VCg.gstep T rfl rfl rfl rfl ?_; try simp only [GB])
    | (refine VCg.gundef T rfl rfl rfl rfl ?_; try simp only [updO])
    | ((first | refine VCo.step T rfl rfl (fun K hK => ?_) | refine VCr.step T rfl (fun K hK => ?_)); (try simp (disch := omega) only [WB, lookD, argE, fillD, setL, rowsOf, Nat.reduceBEq, Nat.reduceAdd, Nat.reduceMul, Nat.reduceSub, Nat.reduceLeDiff, Int.reduceToNat, T3, T4, T5, T9, T22, T25, T31, T40, T42, T43, T44, T46, T48, T60, T62, T63, T76, T97, T100, T113, hd2]); (first | (refine hK _ _ ?_; clear hK K) | (intro bq hbq; (try simp only [HB] at hbq); refine hK _ _ ?_; clear hK K) | (refine ⟨?_, hK _ _ ?_⟩ <;> clear hK K; focus (try (first | omega | exact ⟨rfl, by decide⟩ | exact rfl))) | (refine ⟨_, ?_, hK _ _ ?_⟩ <;> clear hK K) | (refine Op1.callp rfl rfl (c5) rfl ?_; refine hK _ _ ?_; clear hK K) | (refine Op1.callp rfl rfl (ck) rfl ?_; refine hK _ _ ?_; clear hK K) | skip))
    | (refine VCo.gstep rfl rfl rfl rfl rfl ?_; try simp only [GB])
    | (refine VCo.gundef rfl rfl rfl rfl rfl ?_; try simp only [updO])
    | (first | refine VC.region ?_ | refine VC.seq' ?_ | refine VC.block ?_)
    | ((first | refine VCo.nil ?_ | refine VC.skip ?_ | refine VC.ret ?_ | refine VC.exit ?_); (try simp only [QB, Nat.reduceBEq]))
    | (refine ret1 T (List.nil_sublist _) ?_; (try simp only [upd, Nat.reduceBEq, cond_true, cond_false, and_true]))
    | (refine VC.cond rfl ?_; (try simp only [hd2, gsplit_true, gsplit_false]))
    | (refine gsplit_intro (fun hc => ?_) (fun hc => ?_) <;> (simp only [GB]))
end Go.Proofs.Ytlnmljmeahknaaa
