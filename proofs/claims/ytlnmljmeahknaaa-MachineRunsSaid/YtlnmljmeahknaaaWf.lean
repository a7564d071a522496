/- Contracts: whether a buffer can be. No condition. -/
import Derived.Test.YtlnmljmeahknaaaWe
namespace Go.Proofs.Ytlnmljmeahknaaa
set_option linter.unusedSimpArgs false
set_option linter.unusedVariables false
set_option maxRecDepth 20000
open Go Go.Proofs Go.Vc

def badE (md lc : Int) (x : En) : Bool := decide (x.1 < 0) || decide (x.1 ≥ lc) || decide (x.2 < 0) || decide (x.2 ≥ md)
def badP (m r : Int) (b : List En) (i : Nat) (x : En) : Bool := decide (m = 3) && ((decide (i > 0) && decide (((b[i - 1]?).getD (0, 0)).1 > x.1)) || decide (((cntF x.1 b : Nat) : Int) > r))
def badAt (m r md lc : Int) (b : List En) (i : Nat) : Bool := badE md lc ((b[i]?).getD (0, 0)) || badP m r b i ((b[i]?).getD (0, 0))
def rightF (m r md lc : Int) (b : List En) : Bool :=
  (decide (1 ≤ r) && decide (r ≤ 4) && decide (2 ≤ md) && decide (md ≤ 16)) && ((List.range b.length).all fun i => !badAt m r md lc b i) && (if m = 1 then decide ((b.length : Int) = 0) else if m = 2 then decide ((b.length : Int) ≤ r) else decide (m = 3))
theorem rightF_bad {m r md lc : Int} {b : List En} {i : Nat} (hi : i < b.length) (h : badAt m r md lc b i = true) : rightF m r md lc b = false := by
  unfold rightF
  have : ((List.range b.length).all fun i => !badAt m r md lc b i) = false := by
    rw [List.all_eq_false]
    exact ⟨i, List.mem_range.2 hi, by simp [h]⟩
  rw [this]
  simp

set_option maxHeartbeats 8000000 in
theorem sright_ok (b : List En) (hb : b.length ≤ 1000000) (m r md lc : Int) : Pure Try.prog 17 [buf b, iD m, iD r, iD md, iD lc] (bD (rightF m r md lc b)) := by
  refine Fun.of T [.tmp 10] Try.func17 rfl Try.ntmps17 Try.results17 rfl (by kernel_rfl) ?_
  by_cases hg : 1 ≤ r ∧ r ≤ 4 ∧ 2 ≤ md ∧ md ≤ 16
  · have g1 : decide (r < 1) = false := by simp; omega
    have g2 : decide (r > 4) = false := by simp; omega
    have g3 : decide (md < 2) = false := by simp; omega
    have g4 : decide (md > 16) = false := by simp; omega
    repeat' first | (first | refine VCo.step T rfl rfl (fun K hK => ?_) | refine VCr.step T rfl (fun K hK => ?_)); (try simp (disch := omega) only [WB, argE, Nat.reduceBEq, Nat.reduceAdd, T3, T22, g1, g2, g3, g4, eRs_len]); (refine hK _ _ ?_; clear hK K) | refine VCo.gstep rfl rfl rfl rfl rfl ?_; try simp only [GB] | refine VC.region ?_ | refine VC.seq' ?_ | refine VC.block ?_ | (first | refine VCo.nil ?_ | refine VC.skip ?_); (try simp only [QB]) | refine VC.cond rfl ?_; (try simp only [gsplit_false])
    refine VC.loop {k : Nat // k ≤ b.length ∧ ∀ i, i < k → badAt m r md lc b i = false} (fun p => ⟨lookD [(0, buf b), (1, iD m), (2, iD r), (3, iD md), (4, iD lc), (27, buf b), (28, iD (b.length : Nat)), (29, iD (p.1 : Nat))], []⟩) (fun p => b.length - p.1) ⟨0, by omega, fun i hi => by omega⟩ ?_ ?_
    · refine Weak.sub ?_
      simp [sub, upd]
    · rintro ⟨k, hk, hno⟩
      dsimp only
      rcases Nat.lt_or_ge k b.length with hlt | hge
      · have hd : decide ((k : Int) < (b.length : Int)) = true := by simp; omega
        have hw : IntKind.i64.wrap ((k : Int) + 1) = ((k + 1 : Nat) : Int) := by rw [w64 (by omega)]; omega
        obtain ⟨x, hx⟩ : ∃ x, b[k]? = some x := ⟨_, List.getElem?_eq_getElem hlt⟩
        have hrow : (eRs b)[k]? = some [iD x.1, iD x.2] := by rw [eRs_at, hx]; rfl
        have hbad : badAt m r md lc b k = (badE md lc x || badP m r b k x) := by simp [badAt, hx]
        have fin : badAt m r md lc b k = false → ∀ i, i < k + 1 → badAt m r md lc b i = false := fun h i hi => by
          rcases Nat.lt_or_ge i k with h' | h'
          · exact hno i h'
          · obtain rfl : i = k := by omega
            exact h
        cases hE : badE md lc x with
        | true =>
          have hR := rightF_bad hlt (by rw [hbad, hE]; rfl : badAt m r md lc b k = true)
          rw [hR]
          repeat' first | refine VC.draw (id := 8) T 22 (by kernel_rfl) (by kernel_rfl) (by kernel_rfl) ?_ | refine VCg.nil T ?_; simp only [allK, WB] | (first | apply VCg.step T rfl rfl | apply exF); focus ((try simp (disch := omega) only [WB, lookD, Nat.reduceBEq, T3, T22, T25, eRs_len]); (first | exact rfl | refine Op1.callp rfl rfl (count_ok b hb _) rfl ?_; exact ⟨rfl, rfl⟩)) | refine VCg.gstep T rfl rfl rfl rfl ?_; try simp only [GB] | refine VCg.gundef T rfl rfl rfl rfl ?_ | (first | refine VCo.step T rfl rfl (fun K hK => ?_) | refine VCr.step T rfl (fun K hK => ?_)); (try simp (disch := omega) only [WB, lookD, setL, Nat.reduceBEq, Nat.reduceAdd, Nat.reduceLeDiff, T3, T22, T25, hd, hw, hrow, eRs_len]); (first | refine hK _ _ ?_; clear hK K | intro bq hbq; (try simp only [HB] at hbq); refine hK _ _ ?_; clear hK K | refine ⟨?_, hK _ _ ?_⟩ <;> clear hK K; focus (try omega)) | refine VCo.gstep rfl rfl rfl rfl rfl ?_; try simp only [GB] | refine VCo.gundef rfl rfl rfl rfl rfl ?_; try simp only [updO] | refine VC.region ?_ | refine VC.seq' ?_ | refine VC.block ?_ | (first | refine VCo.nil ?_ | refine VC.skip ?_ | refine VC.ret ?_); (try simp only [QB]) | refine ret1 T (List.nil_sublist _) ?_; (try simp only [upd, Nat.reduceBEq, cond_true, cond_false, and_true]) | refine VC.cond rfl ?_; (try simp only [gsplit_true, gsplit_false]) | refine gsplit_intro (fun hc => ?_) (fun hc => ?_) <;> (simp only [GB])
          all_goals (refine absurd hE ?_; simp_all [badE])
        | false =>
          obtain ⟨⟨⟨n1, n2⟩, n3⟩, n4⟩ : ((decide (x.1 < 0) = false ∧ decide (x.1 ≥ lc) = false) ∧ decide (x.2 < 0) = false) ∧ decide (x.2 ≥ md) = false := by simpa [badE] using hE
          by_cases h3 : m = 3
          · have e3 : (m == 3) = true := by simpa using h3
            rcases Nat.eq_zero_or_pos k with h0 | h0
            · have hk0 : decide ((k : Int) > 0) = false := by rw [h0]; rfl
              by_cases hc : ((cntF x.1 b : Nat) : Int) > r
              · have hc' : decide (((cntF x.1 b : Nat) : Int) > r) = true := by simpa using hc
                have hP : badP m r b k x = true := by simp [badP, h3, h0, hc]
                have hR := rightF_bad hlt (by rw [hbad, hP, Bool.or_true] : badAt m r md lc b k = true)
                rw [hR]
                repeat' first | refine VC.draw (id := 8) T 22 (by kernel_rfl) (by kernel_rfl) (by kernel_rfl) ?_ | refine VCg.nil T ?_; simp only [allK, WB] | (first | apply VCg.step T rfl rfl | apply exF); focus ((try simp (disch := omega) only [WB, Nat.reduceBEq, T3, T25, e3, hk0]); (first | exact rfl | refine Op1.callp rfl rfl (count_ok b hb _) rfl ?_; exact ⟨rfl, rfl⟩)) | refine VCg.gstep T rfl rfl rfl rfl ?_; try simp only [GB] | (first | refine VCo.step T rfl rfl (fun K hK => ?_) | refine VCr.step T rfl (fun K hK => ?_)); (try simp (disch := omega) only [WB, lookD, setL, Nat.reduceBEq, Nat.reduceAdd, Nat.reduceLeDiff, T3, T22, T25, hd, hrow, eRs_len, n1, n2, n3, n4, hc']); (first | refine hK _ _ ?_; clear hK K | intro bq hbq; (try simp only [HB] at hbq); refine hK _ _ ?_; clear hK K | refine ⟨?_, hK _ _ ?_⟩ <;> clear hK K; focus (try omega)) | refine VCo.gstep rfl rfl rfl rfl rfl ?_; try simp only [GB] | refine VC.region ?_ | refine VC.seq' ?_ | refine VC.block ?_ | (first | refine VCo.nil ?_ | refine VC.skip ?_ | refine VC.ret ?_); (try simp only [QB]) | refine ret1 T (List.nil_sublist _) ?_; (try simp only [upd, Nat.reduceBEq, cond_true, cond_false, and_true]) | refine VC.cond rfl ?_; (try simp only [gsplit_true, gsplit_false])
              · have hc' : decide (((cntF x.1 b : Nat) : Int) > r) = false := by simpa using hc
                have hP : badAt m r md lc b k = false := by rw [hbad, hE]; simp [badP, h3, h0, Int.not_lt.1 hc]
                repeat' first | refine VC.draw (id := 8) T 22 (by kernel_rfl) (by kernel_rfl) (by kernel_rfl) ?_ | refine VCg.nil T ?_; simp only [allK, WB] | (first | apply VCg.step T rfl rfl | apply exF); focus ((try simp (disch := omega) only [WB, lookD, Nat.reduceBEq, T3, T25, e3, hk0]); (first | exact rfl | refine Op1.callp rfl rfl (count_ok b hb _) rfl ?_; exact ⟨rfl, rfl⟩)) | refine VCg.gstep T rfl rfl rfl rfl ?_; try simp only [GB] | (first | refine VCo.step T rfl rfl (fun K hK => ?_) | refine VCr.step T rfl (fun K hK => ?_)); (try simp (disch := omega) only [WB, lookD, setL, Nat.reduceBEq, Nat.reduceAdd, Nat.reduceLeDiff, T3, T22, T25, hd, hw, hrow, eRs_len, n1, n2, n3, n4, hc']); (first | refine hK _ _ ?_; clear hK K | intro bq hbq; (try simp only [HB] at hbq); refine hK _ _ ?_; clear hK K | refine ⟨?_, hK _ _ ?_⟩ <;> clear hK K; focus (try omega)) | refine VCo.gstep rfl rfl rfl rfl rfl ?_; try simp only [GB] | refine VC.region ?_ | refine VC.seq' ?_ | refine VC.block ?_ | (first | refine VCo.nil ?_ | refine VC.skip ?_); (try simp only [QB]) | refine VC.cond rfl ?_; (try simp only [gsplit_true, gsplit_false])
                refine ⟨⟨k + 1, by omega, fin hP⟩, Weak_subH rfl ?_, by simp only []; omega⟩
                simp [sub, upd]
            · have hk0 : decide ((k : Int) > 0) = true := by simp; omega
              have hwk : IntKind.i64.wrap ((k : Int) - 1) = ((k - 1 : Nat) : Int) := by rw [w64 (by omega)]; omega
              obtain ⟨y, hy⟩ : ∃ y, b[k - 1]? = some y := ⟨_, List.getElem?_eq_getElem (by omega)⟩
              have hrowy : (eRs b)[k - 1]? = some [iD y.1, iD y.2] := by rw [eRs_at, hy]; rfl
              by_cases hyx : y.1 > x.1
              · have hyx' : decide (y.1 > x.1) = true := by simpa using hyx
                have hP : badP m r b k x = true := by simp [badP, h3, h0, hy, hyx]
                have hR := rightF_bad hlt (by rw [hbad, hP, Bool.or_true] : badAt m r md lc b k = true)
                rw [hR]
                repeat' first | refine VC.draw (id := 8) T 22 (by kernel_rfl) (by kernel_rfl) (by kernel_rfl) ?_ | refine VCg.nil T ?_; simp only [allK, WB] | (first | apply VCg.step T rfl rfl | apply exF); focus ((try simp (disch := omega) only [WB, Nat.reduceBEq, T3, T22, T25, eRs_len, e3, hk0, hwk, hrowy, hyx']); (first | exact rfl | refine ⟨?_, rfl⟩; try omega)) | refine VCg.gstep T rfl rfl rfl rfl ?_; try simp only [GB] | (first | refine VCo.step T rfl rfl (fun K hK => ?_) | refine VCr.step T rfl (fun K hK => ?_)); (try simp (disch := omega) only [WB, lookD, setL, Nat.reduceBEq, Nat.reduceAdd, Nat.reduceLeDiff, T3, T22, T25, hd, hrow, eRs_len, n1, n2, n3, n4]); (first | refine hK _ _ ?_; clear hK K | intro bq hbq; (try simp only [HB] at hbq); refine hK _ _ ?_; clear hK K | refine ⟨?_, hK _ _ ?_⟩ <;> clear hK K; focus (try omega)) | refine VCo.gstep rfl rfl rfl rfl rfl ?_; try simp only [GB] | refine VC.region ?_ | refine VC.seq' ?_ | refine VC.block ?_ | (first | refine VCo.nil ?_ | refine VC.skip ?_ | refine VC.ret ?_); (try simp only [QB]) | refine ret1 T (List.nil_sublist _) ?_; (try simp only [upd, Nat.reduceBEq, cond_true, cond_false, and_true]) | refine VC.cond rfl ?_; (try simp only [gsplit_true, gsplit_false])
              · have hyx' : decide (y.1 > x.1) = false := by simpa using hyx
                by_cases hc : ((cntF x.1 b : Nat) : Int) > r
                · have hc' : decide (((cntF x.1 b : Nat) : Int) > r) = true := by simpa using hc
                  have hP : badP m r b k x = true := by simp [badP, h3, h0, hy, Int.not_lt.1 hyx, hc]
                  have hR := rightF_bad hlt (by rw [hbad, hP, Bool.or_true] : badAt m r md lc b k = true)
                  rw [hR]
                  repeat' first | refine VC.draw (id := 8) T 22 (by kernel_rfl) (by kernel_rfl) (by kernel_rfl) ?_ | refine VCg.nil T ?_; simp only [allK, WB] | (first | apply VCg.step T rfl rfl | apply exF); focus ((try simp (disch := omega) only [WB, Nat.reduceBEq, T3, T22, T25, eRs_len, e3, hk0, hwk, hrowy, hyx']); (first | exact rfl | refine ⟨?_, rfl⟩; try omega | refine Op1.callp rfl rfl (count_ok b hb _) rfl ?_; exact ⟨rfl, rfl⟩)) | refine VCg.gstep T rfl rfl rfl rfl ?_; try simp only [GB] | (first | refine VCo.step T rfl rfl (fun K hK => ?_) | refine VCr.step T rfl (fun K hK => ?_)); (try simp (disch := omega) only [WB, lookD, setL, Nat.reduceBEq, Nat.reduceAdd, Nat.reduceLeDiff, T3, T22, T25, hd, hrow, eRs_len, n1, n2, n3, n4, hc']); (first | refine hK _ _ ?_; clear hK K | intro bq hbq; (try simp only [HB] at hbq); refine hK _ _ ?_; clear hK K | refine ⟨?_, hK _ _ ?_⟩ <;> clear hK K; focus (try omega)) | refine VCo.gstep rfl rfl rfl rfl rfl ?_; try simp only [GB] | refine VC.region ?_ | refine VC.seq' ?_ | refine VC.block ?_ | (first | refine VCo.nil ?_ | refine VC.skip ?_ | refine VC.ret ?_); (try simp only [QB]) | refine ret1 T (List.nil_sublist _) ?_; (try simp only [upd, Nat.reduceBEq, cond_true, cond_false, and_true]) | refine VC.cond rfl ?_; (try simp only [gsplit_true, gsplit_false])
                · have hc' : decide (((cntF x.1 b : Nat) : Int) > r) = false := by simpa using hc
                  have hP : badAt m r md lc b k = false := by rw [hbad, hE]; simp [badP, h3, h0, hy, Int.not_lt.1 hyx, Int.not_lt.1 hc]
                  repeat' first | refine VC.draw (id := 8) T 22 (by kernel_rfl) (by kernel_rfl) (by kernel_rfl) ?_ | refine VCg.nil T ?_; simp only [allK, WB] | (first | apply VCg.step T rfl rfl | apply exF); focus ((try simp (disch := omega) only [WB, lookD, Nat.reduceBEq, T3, T22, T25, eRs_len, e3, hk0, hwk, hrowy, hyx']); (first | exact rfl | refine ⟨?_, rfl⟩; try omega | refine Op1.callp rfl rfl (count_ok b hb _) rfl ?_; exact ⟨rfl, rfl⟩)) | refine VCg.gstep T rfl rfl rfl rfl ?_; try simp only [GB] | (first | refine VCo.step T rfl rfl (fun K hK => ?_) | refine VCr.step T rfl (fun K hK => ?_)); (try simp (disch := omega) only [WB, lookD, setL, Nat.reduceBEq, Nat.reduceAdd, Nat.reduceLeDiff, T3, T22, T25, hd, hw, hrow, eRs_len, n1, n2, n3, n4, hc']); (first | refine hK _ _ ?_; clear hK K | intro bq hbq; (try simp only [HB] at hbq); refine hK _ _ ?_; clear hK K | refine ⟨?_, hK _ _ ?_⟩ <;> clear hK K; focus (try omega)) | refine VCo.gstep rfl rfl rfl rfl rfl ?_; try simp only [GB] | refine VC.region ?_ | refine VC.seq' ?_ | refine VC.block ?_ | (first | refine VCo.nil ?_ | refine VC.skip ?_); (try simp only [QB]) | refine VC.cond rfl ?_; (try simp only [gsplit_true, gsplit_false])
                  refine ⟨⟨k + 1, by omega, fin hP⟩, Weak_subH rfl ?_, by simp only []; omega⟩
                  simp [sub, upd]
          · have e3 : (m == 3) = false := by simpa using h3
            have hP : badAt m r md lc b k = false := by rw [hbad, hE]; simp [badP, h3]
            repeat' first | refine VC.draw (id := 8) T 22 (by kernel_rfl) (by kernel_rfl) (by kernel_rfl) ?_ | refine VCg.nil T ?_; simp only [allK, WB] | (first | apply VCg.step T rfl rfl | apply exF); focus ((try simp (disch := omega) only [WB, lookD, Nat.reduceBEq, T3, e3]); (exact rfl)) | refine VCg.gstep T rfl rfl rfl rfl ?_; try simp only [GB] | refine VCg.gundef T rfl rfl rfl rfl ?_ | (first | refine VCo.step T rfl rfl (fun K hK => ?_) | refine VCr.step T rfl (fun K hK => ?_)); (try simp (disch := omega) only [WB, lookD, setL, Nat.reduceBEq, Nat.reduceAdd, Nat.reduceLeDiff, T3, T22, T25, hd, hw, hrow, eRs_len, n1, n2, n3, n4]); (first | refine hK _ _ ?_; clear hK K | intro bq hbq; (try simp only [HB] at hbq); refine hK _ _ ?_; clear hK K | refine ⟨?_, hK _ _ ?_⟩ <;> clear hK K; focus (try omega)) | refine VCo.gstep rfl rfl rfl rfl rfl ?_; try simp only [GB] | refine VCo.gundef rfl rfl rfl rfl rfl ?_; try simp only [updO] | refine VC.region ?_ | refine VC.seq' ?_ | refine VC.block ?_ | (first | refine VCo.nil ?_ | refine VC.skip ?_); (try simp only [QB]) | refine VC.cond rfl ?_; (try simp only [gsplit_true, gsplit_false])
            refine ⟨⟨k + 1, by omega, fin hP⟩, Weak_subH rfl ?_, by simp only []; omega⟩
            simp [sub, upd]
      · have hd : decide ((k : Int) < (b.length : Int)) = false := by simp; omega
        have hall : ((List.range b.length).all fun i => !badAt m r md lc b i) = true := by
          rw [List.all_eq_true]
          intro i hi
          rw [hno i (by have := List.mem_range.1 hi; omega)]; rfl
        have hR : rightF m r md lc b = (if m = 1 then decide ((b.length : Int) = 0) else if m = 2 then decide ((b.length : Int) ≤ r) else decide (m = 3)) := by
          unfold rightF
          rw [hall]
          simp [hg]
        rw [hR]
        by_cases h1 : m = 1
        · have e1 : (m == 1) = true := by simpa using h1
          rw [if_pos h1]
          repeat' first | (refine VCo.step T rfl rfl (fun K hK => ?_)); (try simp (disch := omega) only [WB, lookD, Nat.reduceBEq, T3, T22, hd, eRs_len, e1]); (refine hK _ _ ?_; clear hK K) | refine VC.region ?_ | refine VC.seq' ?_ | refine VC.block ?_ | (first | refine VCo.nil ?_ | refine VC.ret ?_ | refine VC.exit ?_); (try simp only [QB]) | refine ret1 T (List.nil_sublist _) ?_; (try simp only [upd, Nat.reduceBEq, cond_true, cond_false, and_true]) | refine VC.cond rfl ?_; (try simp only [gsplit_true, gsplit_false])
          all_goals first | rfl | simp_all
        · have e1 : (m == 1) = false := by simpa using h1
          rw [if_neg h1]
          by_cases h2 : m = 2
          · have e2 : (m == 2) = true := by simpa using h2
            rw [if_pos h2]
            repeat' first | (refine VCo.step T rfl rfl (fun K hK => ?_)); (try simp (disch := omega) only [WB, lookD, Nat.reduceBEq, T3, T22, hd, eRs_len, e1, e2]); (refine hK _ _ ?_; clear hK K) | refine VC.region ?_ | refine VC.seq' ?_ | refine VC.block ?_ | (first | refine VCo.nil ?_ | refine VC.ret ?_ | refine VC.exit ?_); (try simp only [QB]) | refine ret1 T (List.nil_sublist _) ?_; (try simp only [upd, Nat.reduceBEq, cond_true, cond_false, and_true]) | refine VC.cond rfl ?_; (try simp only [gsplit_true, gsplit_false])
          · have e2 : (m == 2) = false := by simpa using h2
            rw [if_neg h2]
            repeat' first | (refine VCo.step T rfl rfl (fun K hK => ?_)); (try simp (disch := omega) only [WB, lookD, Nat.reduceBEq, T3, hd, e1, e2]); (refine hK _ _ ?_; clear hK K) | refine VC.region ?_ | refine VC.seq' ?_ | refine VC.block ?_ | (first | refine VCo.nil ?_ | refine VC.skip ?_ | refine VC.ret ?_ | refine VC.exit ?_); (try simp only [QB]) | refine ret1 T (List.nil_sublist _) ?_; (try simp only [upd, Nat.reduceBEq, cond_true, cond_false, and_true]) | refine VC.cond rfl ?_; (try simp only [gsplit_false])
            all_goals rfl
  · have hR : rightF m r md lc b = false := by
      unfold rightF
      have : (decide (1 ≤ r) && decide (r ≤ 4) && decide (2 ≤ md) && decide (md ≤ 16)) = false := by
        rw [Bool.eq_false_iff]
        intro h
        simp only [Bool.and_eq_true, decide_eq_true_eq] at h
        exact hg ⟨h.1.1.1, h.1.1.2, h.1.2, h.2⟩
      rw [this]; rfl
    rw [hR]
    rcases Int.lt_or_le r 1 with h | h
    · have g1 : decide (r < 1) = true := by simpa using h
      repeat' first | (refine VCo.step T rfl rfl (fun K hK => ?_)); (try simp (disch := omega) only [WB, argE, Nat.reduceBEq, Nat.reduceAdd, T3, g1]); (refine hK _ _ ?_; clear hK K) | refine VCo.gstep rfl rfl rfl rfl rfl ?_; try simp only [GB] | refine VC.region ?_ | refine VC.seq' ?_ | (first | refine VCo.nil ?_ | refine VC.ret ?_); (try simp only [QB]) | refine ret1 T (List.nil_sublist _) ?_; (try simp only [upd, Nat.reduceBEq, cond_true, cond_false, and_true]) | refine VC.cond rfl ?_; (try simp only [gsplit_true])
    have g1 : decide (r < 1) = false := by simp; omega
    rcases Int.lt_or_le 4 r with h' | h'
    · have g2 : decide (r > 4) = true := by simpa using h'
      repeat' first | (first | refine VCo.step T rfl rfl (fun K hK => ?_) | refine VCr.step T rfl (fun K hK => ?_)); (try simp (disch := omega) only [WB, argE, Nat.reduceBEq, Nat.reduceAdd, T3, g1, g2]); (refine hK _ _ ?_; clear hK K) | refine VCo.gstep rfl rfl rfl rfl rfl ?_; try simp only [GB] | refine VC.region ?_ | refine VC.seq' ?_ | (first | refine VCo.nil ?_ | refine VC.ret ?_); (try simp only [QB]) | refine ret1 T (List.nil_sublist _) ?_; (try simp only [upd, Nat.reduceBEq, cond_true, cond_false, and_true]) | refine VC.cond rfl ?_; (try simp only [gsplit_true])
    have g2 : decide (r > 4) = false := by simp; omega
    rcases Int.lt_or_le md 2 with h'' | h''
    · have g3 : decide (md < 2) = true := by simpa using h''
      repeat' first | (first | refine VCo.step T rfl rfl (fun K hK => ?_) | refine VCr.step T rfl (fun K hK => ?_)); (try simp (disch := omega) only [WB, argE, Nat.reduceBEq, Nat.reduceAdd, T3, g1, g2, g3]); (refine hK _ _ ?_; clear hK K) | refine VCo.gstep rfl rfl rfl rfl rfl ?_; try simp only [GB] | refine VC.region ?_ | refine VC.seq' ?_ | (first | refine VCo.nil ?_ | refine VC.ret ?_); (try simp only [QB]) | refine ret1 T (List.nil_sublist _) ?_; (try simp only [upd, Nat.reduceBEq, cond_true, cond_false, and_true]) | refine VC.cond rfl ?_; (try simp only [gsplit_true])
    have g3 : decide (md < 2) = false := by simp; omega
    have g4 : decide (md > 16) = true := by simp; omega
    repeat' first | (first | refine VCo.step T rfl rfl (fun K hK => ?_) | refine VCr.step T rfl (fun K hK => ?_)); (try simp (disch := omega) only [WB, argE, Nat.reduceBEq, Nat.reduceAdd, T3, g1, g2, g3, g4]); (refine hK _ _ ?_; clear hK K) | refine VCo.gstep rfl rfl rfl rfl rfl ?_; try simp only [GB] | refine VC.region ?_ | refine VC.seq' ?_ | (first | refine VCo.nil ?_ | refine VC.ret ?_); (try simp only [QB]) | refine ret1 T (List.nil_sublist _) ?_; (try simp only [upd, Nat.reduceBEq, cond_true, cond_false, and_true]) | refine VC.cond rfl ?_; (try simp only [gsplit_true])
end Go.Proofs.Ytlnmljmeahknaaa
