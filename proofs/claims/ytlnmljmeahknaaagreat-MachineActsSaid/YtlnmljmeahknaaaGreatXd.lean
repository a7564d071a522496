/- Contracts: whether a buffer can be, as the reference says. No condition. -/
import Derived.Test.YtlnmljmeahknaaaGreatXa
namespace Go.Proofs.YtlnmljmeahknaaaGreat
set_option linter.unusedSimpArgs false
set_option linter.unusedVariables false
set_option maxRecDepth 20000
open Go Go.Proofs Go.Vc

def gateR (m r md : Int) : Bool := decide (1 ≤ m) && decide (m ≤ 3) && (decide (1 ≤ r) && decide (r ≤ 4) && decide (2 ≤ md) && decide (md ≤ 16))
def tailR (m r : Int) (b : List En) : Bool := (decide (m ≠ 1) && (decide (m = 3) || decide ((b.length : Int) ≤ r))) || decide ((b.length : Int) = 0)
def rightR (m r md lc : Int) (b : List En) : Bool := gateR m r md && ((List.range b.length).all fun i => !badAt m r md lc b i) && tailR m r b
theorem rightR_bad {m r md lc : Int} {b : List En} {i : Nat} (hi : i < b.length) (h : badAt m r md lc b i = true) : rightR m r md lc b = false := by
  unfold rightR
  have : ((List.range b.length).all fun i => !badAt m r md lc b i) = false := by
    rw [List.all_eq_false]
    exact ⟨i, List.mem_range.2 hi, by simp [h]⟩
  rw [this]
  simp

set_option maxHeartbeats 16000000 in
theorem rright_step (b : List En) (hb : b.length ≤ 1000000) (m r md lc : Int) (hg : gateR m r md = true) : Pure Tryz.prog 36 [buf b, iD m, iD r, iD md, iD lc] (bD (rightR m r md lc b)) := by
  have hgg : ((1 ≤ m ∧ m ≤ 3) ∧ (1 ≤ r ∧ r ≤ 4) ∧ (2 ≤ md ∧ md ≤ 16)) := by
    simp only [gateR, Bool.and_eq_true, decide_eq_true_eq] at hg
    omega
  refine Fun.of T [.tmp 10] Tryz.func36 rfl Tryz.ntmps36 Tryz.results36 rfl (by kernel_rfl) ?_
  have a1 : decide (m < 1) = false := by simp; omega
  have a2 : decide (m > 3) = false := by simp; omega
  have g1 : decide (r < 1) = false := by simp; omega
  have g2 : decide (r > 4) = false := by simp; omega
  have g3 : decide (md < 2) = false := by simp; omega
  have g4 : decide (md > 16) = false := by simp; omega
  repeat' first | (first | refine VCo.step T rfl rfl (fun K hK => ?_) | refine VCr.step T rfl (fun K hK => ?_)); (try simp (disch := omega) only [WB, argE, Nat.reduceBEq, Nat.reduceAdd, T3, T5, T9, T22, T23, T26, T27, T51, T53, T62, T65, T66, T68, T72, T78, T145, a1, a2, g1, g2, g3, g4]); (refine hK _ _ ?_; clear hK K) | refine VCo.gstep rfl rfl rfl rfl rfl ?_; try simp only [GB] | refine VC.region ?_ | refine VC.seq' ?_ | refine VC.block ?_ | (first | refine VCo.nil ?_ | refine VC.skip ?_); (try simp only [QB]) | refine VC.cond rfl ?_; (try simp only [gsplit_false])
  refine VC.loop {k : Nat // k ≤ b.length ∧ ∀ i, i < k → badAt m r md lc b i = false} (fun p => ⟨lookD [(0, buf b), (1, iD m), (2, iD r), (3, iD md), (4, iD lc), (11, iD (p.1 : Nat))], []⟩) (fun p => b.length - p.1) ⟨0, by omega, fun i hi => by omega⟩ ?_ ?_
  · refine Weak.sub ?_
    simp [sub, upd]
  · rintro ⟨k, hk, hno⟩
    dsimp only
    rcases Nat.lt_or_ge k b.length with hlt | hge
    · have hd : decide ((k : Int) < (b.length : Int)) = true := by simp; omega
      have hw : IntKind.i64.wrap ((k : Int) + 1) = ((k + 1 : Nat) : Int) := by rw [w64 (by omega)]; omega
      obtain ⟨x, hx⟩ : ∃ x, b[k]? = some x := ⟨_, List.getElem?_eq_getElem hlt⟩
      have hrow : (eRs b)[k]? = some [iD x.1, iD x.2] := by rw [eRs_at, hx]; rfl
      have hbad : badAt m r md lc b k = (badE md lc x || badP m r b k x) := by simp [badAt, hx]
      have fin : badAt m r md lc b k = false → ∀ i, i < k + 1 → badAt m r md lc b i = false := fun h i hi => by
        rcases Nat.lt_or_ge i k with h' | h'
        · exact hno i h'
        · obtain rfl : i = k := by omega
          exact h
      cases hE : badE md lc x with
      | true =>
        have hR := rightR_bad (m := m) (r := r) (md := md) (lc := lc) hlt (by rw [hbad, hE]; rfl)
        rw [hR]
        by_cases n1 : x.1 < 0
        · have n1' : decide (x.1 < 0) = true := by simpa using n1
          repeat' first | refine VC.draw (id := 6) T 61 (by kernel_rfl) (by kernel_rfl) (by kernel_rfl) ?_ | refine VCg.nil T ?_; simp only [allK, WB] | (first | apply VCg.step T rfl rfl | apply exF); focus ((try simp (disch := omega) only [WB, Nat.reduceBEq, T3, T5, T9, T22, T23, T26, T27, T51, T53, T62, T65, T66, T68, T72, T78, T145, hrow, eRs_len, n1']); (first | exact rfl | refine ⟨?_, rfl⟩; try omega)) | refine VCg.gstep T rfl rfl rfl rfl ?_; try simp only [GB] | refine VCg.gundef T rfl rfl rfl rfl ?_ | (refine VCo.step T rfl rfl (fun K hK => ?_)); (try simp (disch := omega) only [WB, lookD, Nat.reduceBEq, T3, T5, T9, T22, T23, T26, T27, T51, T53, T62, T65, T66, T68, T72, T78, T145, hd, eRs_len]); (refine hK _ _ ?_; clear hK K) | refine VCo.gstep rfl rfl rfl rfl rfl ?_; try simp only [GB] | refine VCo.gundef rfl rfl rfl rfl rfl ?_; try simp only [updO] | refine VC.region ?_ | refine VC.seq' ?_ | refine VC.block ?_ | (first | refine VCo.nil ?_ | refine VC.skip ?_ | refine VC.ret ?_); (try simp only [QB]) | refine ret1 T (List.nil_sublist _) ?_; (try simp only [upd, Nat.reduceBEq, cond_true, cond_false, and_true]) | refine VC.cond rfl ?_; (try simp only [gsplit_true])
        have n1' : decide (x.1 < 0) = false := by simpa using n1
        by_cases n2 : x.1 ≥ lc
        · have n2' : decide (x.1 ≥ lc) = true := by simpa using n2
          repeat' first | refine VC.draw (id := 6) T 61 (by kernel_rfl) (by kernel_rfl) (by kernel_rfl) ?_ | refine VCg.nil T ?_; simp only [allK, WB] | (first | apply VCg.step T rfl rfl | apply exF); focus ((try simp (disch := omega) only [WB, Nat.reduceBEq, T3, T5, T9, T22, T23, T26, T27, T51, T53, T62, T65, T66, T68, T72, T78, T145, hrow, eRs_len, n1', n2']); (first | exact rfl | refine ⟨?_, rfl⟩; try omega)) | refine VCg.gstep T rfl rfl rfl rfl ?_; try simp only [GB] | refine VCg.gundef T rfl rfl rfl rfl ?_ | (refine VCo.step T rfl rfl (fun K hK => ?_)); (try simp (disch := omega) only [WB, lookD, Nat.reduceBEq, T3, T5, T9, T22, T23, T26, T27, T51, T53, T62, T65, T66, T68, T72, T78, T145, hd, eRs_len]); (refine hK _ _ ?_; clear hK K) | refine VCo.gstep rfl rfl rfl rfl rfl ?_; try simp only [GB] | refine VCo.gundef rfl rfl rfl rfl rfl ?_; try simp only [updO] | refine VC.region ?_ | refine VC.seq' ?_ | refine VC.block ?_ | (first | refine VCo.nil ?_ | refine VC.skip ?_ | refine VC.ret ?_); (try simp only [QB]) | refine ret1 T (List.nil_sublist _) ?_; (try simp only [upd, Nat.reduceBEq, cond_true, cond_false, and_true]) | refine VC.cond rfl ?_; (try simp only [gsplit_true])
        have n2' : decide (x.1 ≥ lc) = false := by simpa using n2
        by_cases n3 : x.2 < 0
        · have n3' : decide (x.2 < 0) = true := by simpa using n3
          repeat' first | refine VC.draw (id := 6) T 61 (by kernel_rfl) (by kernel_rfl) (by kernel_rfl) ?_ | refine VCg.nil T ?_; simp only [allK, WB] | (first | apply VCg.step T rfl rfl | apply exF); focus ((try simp (disch := omega) only [WB, Nat.reduceBEq, T3, T5, T9, T22, T23, T26, T27, T51, T53, T62, T65, T66, T68, T72, T78, T145, hrow, eRs_len, n1', n2', n3']); (first | exact rfl | refine ⟨?_, rfl⟩; try omega)) | refine VCg.gstep T rfl rfl rfl rfl ?_; try simp only [GB] | refine VCg.gundef T rfl rfl rfl rfl ?_ | (refine VCo.step T rfl rfl (fun K hK => ?_)); (try simp (disch := omega) only [WB, lookD, Nat.reduceBEq, T3, T5, T9, T22, T23, T26, T27, T51, T53, T62, T65, T66, T68, T72, T78, T145, hd, eRs_len]); (refine hK _ _ ?_; clear hK K) | refine VCo.gstep rfl rfl rfl rfl rfl ?_; try simp only [GB] | refine VCo.gundef rfl rfl rfl rfl rfl ?_; try simp only [updO] | refine VC.region ?_ | refine VC.seq' ?_ | refine VC.block ?_ | (first | refine VCo.nil ?_ | refine VC.skip ?_ | refine VC.ret ?_); (try simp only [QB]) | refine ret1 T (List.nil_sublist _) ?_; (try simp only [upd, Nat.reduceBEq, cond_true, cond_false, and_true]) | refine VC.cond rfl ?_; (try simp only [gsplit_true])
        have n3' : decide (x.2 < 0) = false := by simpa using n3
        have n4' : decide (x.2 ≥ md) = true := by
          simp only [badE, n1', n2', n3', Bool.or_false, Bool.false_or] at hE
          exact hE
        repeat' first | refine VC.draw (id := 6) T 61 (by kernel_rfl) (by kernel_rfl) (by kernel_rfl) ?_ | refine VCg.nil T ?_; simp only [allK, WB] | (first | apply VCg.step T rfl rfl | apply exF); focus ((try simp (disch := omega) only [WB, Nat.reduceBEq, T3, T5, T9, T22, T23, T26, T27, T51, T53, T62, T65, T66, T68, T72, T78, T145, hrow, eRs_len, n1', n2', n3', n4']); (first | exact rfl | refine ⟨?_, rfl⟩; try omega)) | refine VCg.gstep T rfl rfl rfl rfl ?_; try simp only [GB] | refine VCg.gundef T rfl rfl rfl rfl ?_ | (refine VCo.step T rfl rfl (fun K hK => ?_)); (try simp (disch := omega) only [WB, lookD, Nat.reduceBEq, T3, T5, T9, T22, T23, T26, T27, T51, T53, T62, T65, T66, T68, T72, T78, T145, hd, eRs_len]); (refine hK _ _ ?_; clear hK K) | refine VCo.gstep rfl rfl rfl rfl rfl ?_; try simp only [GB] | refine VCo.gundef rfl rfl rfl rfl rfl ?_; try simp only [updO] | refine VC.region ?_ | refine VC.seq' ?_ | refine VC.block ?_ | (first | refine VCo.nil ?_ | refine VC.skip ?_ | refine VC.ret ?_); (try simp only [QB]) | refine ret1 T (List.nil_sublist _) ?_; (try simp only [upd, Nat.reduceBEq, cond_true, cond_false, and_true]) | refine VC.cond rfl ?_; (try simp only [gsplit_true])
      | false =>
        obtain ⟨⟨⟨n1, n2⟩, n3⟩, n4⟩ : ((decide (x.1 < 0) = false ∧ decide (x.1 ≥ lc) = false) ∧ decide (x.2 < 0) = false) ∧ decide (x.2 ≥ md) = false := by simpa [badE] using hE
        by_cases h3 : m = 3
        · have e3 : (m == 3) = true := by simpa using h3
          rcases Nat.eq_zero_or_pos k with h0 | h0
          · have hk0 : decide ((k : Int) > 0) = false := by rw [h0]; rfl
            by_cases hc : ((cntF x.1 b : Nat) : Int) > r
            · have hc' : decide (((cntF x.1 b : Nat) : Int) > r) = true := by simpa using hc
              have hP : badP m r b k x = true := by simp [badP, h3, h0, hc]
              have hR := rightR_bad (m := m) (r := r) (md := md) (lc := lc) hlt (by rw [hbad, hP, Bool.or_true])
              rw [hR]
              repeat' first | refine VC.draw (id := 6) T 61 (by kernel_rfl) (by kernel_rfl) (by kernel_rfl) ?_ | refine VCg.nil T ?_; simp only [allK, WB] | (first | apply VCg.step T rfl rfl | apply exF); focus ((try simp (disch := omega) only [WB, Nat.reduceBEq, T3, T5, T9, T22, T23, T26, T27, T51, T53, T62, T65, T66, T68, T72, T78, T145, hrow, eRs_len, n1, n2, n3, n4, e3, hk0]); (first | exact rfl | refine ⟨?_, rfl⟩; try omega | refine Op1.callp rfl rfl (rcount_ok b hb _) rfl ?_; exact ⟨rfl, rfl⟩)) | refine VCg.gstep T rfl rfl rfl rfl ?_; try simp only [GB] | (first | refine VCo.step T rfl rfl (fun K hK => ?_) | refine VCr.step T rfl (fun K hK => ?_)); (try simp (disch := omega) only [WB, lookD, Nat.reduceBEq, T3, T5, T9, T22, T23, T26, T27, T51, T53, T62, T65, T66, T68, T72, T78, T145, hd, eRs_len, hc']); (refine hK _ _ ?_; clear hK K) | refine VCo.gstep rfl rfl rfl rfl rfl ?_; try simp only [GB] | refine VC.region ?_ | refine VC.seq' ?_ | refine VC.block ?_ | (first | refine VCo.nil ?_ | refine VC.skip ?_ | refine VC.ret ?_); (try simp only [QB]) | refine ret1 T (List.nil_sublist _) ?_; (try simp only [upd, Nat.reduceBEq, cond_true, cond_false, and_true]) | refine VC.cond rfl ?_; (try simp only [gsplit_true])
            · have hc' : decide (((cntF x.1 b : Nat) : Int) > r) = false := by simpa using hc
              have hP : badAt m r md lc b k = false := by rw [hbad, hE]; simp [badP, h3, h0, Int.not_lt.1 hc]
              repeat' first | refine VC.draw (id := 6) T 61 (by kernel_rfl) (by kernel_rfl) (by kernel_rfl) ?_ | refine VCg.nil T ?_; simp only [allK, WB] | (first | apply VCg.step T rfl rfl | apply exF); focus ((try simp (disch := omega) only [WB, lookD, Nat.reduceBEq, T3, T5, T9, T22, T23, T26, T27, T51, T53, T62, T65, T66, T68, T72, T78, T145, hrow, eRs_len, n1, n2, n3, n4, e3, hk0]); (first | exact rfl | refine ⟨?_, rfl⟩; try omega | refine Op1.callp rfl rfl (rcount_ok b hb _) rfl ?_; exact ⟨rfl, rfl⟩)) | refine VCg.gstep T rfl rfl rfl rfl ?_; try simp only [GB] | (first | refine VCo.step T rfl rfl (fun K hK => ?_) | refine VCr.step T rfl (fun K hK => ?_)); (try simp (disch := omega) only [WB, lookD, Nat.reduceBEq, T3, T5, T9, T22, T23, T26, T27, T51, T53, T62, T65, T66, T68, T72, T78, T145, hd, hw, eRs_len, hc']); (refine hK _ _ ?_; clear hK K) | refine VCo.gstep rfl rfl rfl rfl rfl ?_; try simp only [GB] | refine VC.region ?_ | refine VC.seq' ?_ | refine VC.block ?_ | (first | refine VCo.nil ?_ | refine VC.skip ?_); (try simp only [QB]) | refine VC.cond rfl ?_; (try simp only [gsplit_true, gsplit_false])
              refine ⟨⟨k + 1, by omega, fin hP⟩, Weak.sub ?_, by simp only []; omega⟩
              simp [sub, upd]
          · have hk0 : decide ((k : Int) > 0) = true := by simp; omega
            have hwk : IntKind.i64.wrap ((k : Int) - 1) = ((k - 1 : Nat) : Int) := by rw [w64 (by omega)]; omega
            obtain ⟨y, hy⟩ : ∃ y, b[k - 1]? = some y := ⟨_, List.getElem?_eq_getElem (by omega)⟩
            have hrowy : (eRs b)[k - 1]? = some [iD y.1, iD y.2] := by rw [eRs_at, hy]; rfl
            by_cases hyx : y.1 > x.1
            · have hyx' : decide (x.1 < y.1) = true := by simpa using hyx
              have hP : badP m r b k x = true := by simp [badP, h3, h0, hy, hyx]
              have hR := rightR_bad (m := m) (r := r) (md := md) (lc := lc) hlt (by rw [hbad, hP, Bool.or_true])
              rw [hR]
              repeat' first | refine VC.draw (id := 6) T 61 (by kernel_rfl) (by kernel_rfl) (by kernel_rfl) ?_ | refine VCg.nil T ?_; simp only [allK, WB] | (first | apply VCg.step T rfl rfl | apply exF); focus ((try simp (disch := omega) only [WB, Nat.reduceBEq, T3, T5, T9, T22, T23, T26, T27, T51, T53, T62, T65, T66, T68, T72, T78, T145, hrow, eRs_len, n1, n2, n3, n4, e3, hk0, hwk, hrowy, hyx']); (first | exact rfl | refine ⟨?_, rfl⟩; try omega)) | refine VCg.gstep T rfl rfl rfl rfl ?_; try simp only [GB] | (first | refine VCo.step T rfl rfl (fun K hK => ?_) | refine VCr.step T rfl (fun K hK => ?_)); (try simp (disch := omega) only [WB, lookD, Nat.reduceBEq, T3, T5, T9, T22, T23, T26, T27, T51, T53, T62, T65, T66, T68, T72, T78, T145, hd, eRs_len]); (refine hK _ _ ?_; clear hK K) | refine VCo.gstep rfl rfl rfl rfl rfl ?_; try simp only [GB] | refine VC.region ?_ | refine VC.seq' ?_ | refine VC.block ?_ | (first | refine VCo.nil ?_ | refine VC.skip ?_ | refine VC.ret ?_); (try simp only [QB]) | refine ret1 T (List.nil_sublist _) ?_; (try simp only [upd, Nat.reduceBEq, cond_true, cond_false, and_true]) | refine VC.cond rfl ?_; (try simp only [gsplit_true])
            · have hyx' : decide (x.1 < y.1) = false := by simpa using hyx
              by_cases hc : ((cntF x.1 b : Nat) : Int) > r
              · have hc' : decide (((cntF x.1 b : Nat) : Int) > r) = true := by simpa using hc
                have hP : badP m r b k x = true := by simp [badP, h3, h0, hy, Int.not_lt.1 hyx, hc]
                have hR := rightR_bad (m := m) (r := r) (md := md) (lc := lc) hlt (by rw [hbad, hP, Bool.or_true])
                rw [hR]
                repeat' first | refine VC.draw (id := 6) T 61 (by kernel_rfl) (by kernel_rfl) (by kernel_rfl) ?_ | refine VCg.nil T ?_; simp only [allK, WB] | (first | apply VCg.step T rfl rfl | apply exF); focus ((try simp (disch := omega) only [WB, Nat.reduceBEq, T3, T5, T9, T22, T23, T26, T27, T51, T53, T62, T65, T66, T68, T72, T78, T145, hrow, eRs_len, n1, n2, n3, n4, e3, hk0, hwk, hrowy, hyx']); (first | exact rfl | refine ⟨?_, rfl⟩; try omega | refine Op1.callp rfl rfl (rcount_ok b hb _) rfl ?_; exact ⟨rfl, rfl⟩)) | refine VCg.gstep T rfl rfl rfl rfl ?_; try simp only [GB] | (first | refine VCo.step T rfl rfl (fun K hK => ?_) | refine VCr.step T rfl (fun K hK => ?_)); (try simp (disch := omega) only [WB, lookD, Nat.reduceBEq, T3, T5, T9, T22, T23, T26, T27, T51, T53, T62, T65, T66, T68, T72, T78, T145, hd, eRs_len, hc']); (refine hK _ _ ?_; clear hK K) | refine VCo.gstep rfl rfl rfl rfl rfl ?_; try simp only [GB] | refine VC.region ?_ | refine VC.seq' ?_ | refine VC.block ?_ | (first | refine VCo.nil ?_ | refine VC.skip ?_ | refine VC.ret ?_); (try simp only [QB]) | refine ret1 T (List.nil_sublist _) ?_; (try simp only [upd, Nat.reduceBEq, cond_true, cond_false, and_true]) | refine VC.cond rfl ?_; (try simp only [gsplit_true])
              · have hc' : decide (((cntF x.1 b : Nat) : Int) > r) = false := by simpa using hc
                have hP : badAt m r md lc b k = false := by rw [hbad, hE]; simp [badP, h3, h0, hy, Int.not_lt.1 hyx, Int.not_lt.1 hc]
                repeat' first | refine VC.draw (id := 6) T 61 (by kernel_rfl) (by kernel_rfl) (by kernel_rfl) ?_ | refine VCg.nil T ?_; simp only [allK, WB] | (first | apply VCg.step T rfl rfl | apply exF); focus ((try simp (disch := omega) only [WB, lookD, Nat.reduceBEq, T3, T5, T9, T22, T23, T26, T27, T51, T53, T62, T65, T66, T68, T72, T78, T145, hrow, eRs_len, n1, n2, n3, n4, e3, hk0, hwk, hrowy, hyx']); (first | exact rfl | refine ⟨?_, rfl⟩; try omega | refine Op1.callp rfl rfl (rcount_ok b hb _) rfl ?_; exact ⟨rfl, rfl⟩)) | refine VCg.gstep T rfl rfl rfl rfl ?_; try simp only [GB] | (first | refine VCo.step T rfl rfl (fun K hK => ?_) | refine VCr.step T rfl (fun K hK => ?_)); (try simp (disch := omega) only [WB, lookD, Nat.reduceBEq, T3, T5, T9, T22, T23, T26, T27, T51, T53, T62, T65, T66, T68, T72, T78, T145, hd, hw, eRs_len, hc']); (refine hK _ _ ?_; clear hK K) | refine VCo.gstep rfl rfl rfl rfl rfl ?_; try simp only [GB] | refine VC.region ?_ | refine VC.seq' ?_ | refine VC.block ?_ | (first | refine VCo.nil ?_ | refine VC.skip ?_); (try simp only [QB]) | refine VC.cond rfl ?_; (try simp only [gsplit_true, gsplit_false])
                refine ⟨⟨k + 1, by omega, fin hP⟩, Weak.sub ?_, by simp only []; omega⟩
                simp [sub, upd]
        · have e3 : (m == 3) = false := by simpa using h3
          have hP : badAt m r md lc b k = false := by rw [hbad, hE]; simp [badP, h3]
          repeat' first | refine VC.draw (id := 6) T 61 (by kernel_rfl) (by kernel_rfl) (by kernel_rfl) ?_ | refine VCg.nil T ?_; simp only [allK, WB] | (first | apply VCg.step T rfl rfl | apply exF); focus ((try simp (disch := omega) only [WB, lookD, Nat.reduceBEq, T3, T5, T9, T22, T23, T26, T27, T51, T53, T62, T65, T66, T68, T72, T78, T145, hrow, eRs_len, n1, n2, n3, n4, e3]); (first | exact rfl | refine ⟨?_, rfl⟩; try omega)) | refine VCg.gstep T rfl rfl rfl rfl ?_; try simp only [GB] | refine VCg.gundef T rfl rfl rfl rfl ?_ | (first | refine VCo.step T rfl rfl (fun K hK => ?_) | refine VCr.step T rfl (fun K hK => ?_)); (try simp (disch := omega) only [WB, lookD, Nat.reduceBEq, T3, T5, T9, T22, T23, T26, T27, T51, T53, T62, T65, T66, T68, T72, T78, T145, hd, hw, eRs_len]); (refine hK _ _ ?_; clear hK K) | refine VCo.gstep rfl rfl rfl rfl rfl ?_; try simp only [GB] | refine VCo.gundef rfl rfl rfl rfl rfl ?_; try simp only [updO] | refine VC.region ?_ | refine VC.seq' ?_ | refine VC.block ?_ | (first | refine VCo.nil ?_ | refine VC.skip ?_); (try simp only [QB]) | refine VC.cond rfl ?_; (try simp only [gsplit_true, gsplit_false])
          refine ⟨⟨k + 1, by omega, fin hP⟩, Weak.sub ?_, by simp only []; omega⟩
          simp [sub, upd]
    · have hd : decide ((k : Int) < (b.length : Int)) = false := by simp; omega
      have hall : ((List.range b.length).all fun i => !badAt m r md lc b i) = true := by
        rw [List.all_eq_true]
        intro i hi
        rw [hno i (by have := List.mem_range.1 hi; omega)]; rfl
      have hR : rightR m r md lc b = tailR m r b := by
        unfold rightR
        rw [hall, hg]
        simp
      rw [hR]
      by_cases h1 : m = 1
      · have e1 : (m != 1) = false := by simp [h1]
        repeat' first | (first | refine VCo.step T rfl rfl (fun K hK => ?_) | refine VCr.step T rfl (fun K hK => ?_)); (try simp (disch := omega) only [WB, lookD, Nat.reduceBEq, T3, T5, T9, T22, T23, T26, T27, T51, T53, T62, T65, T66, T68, T72, T78, T145, hd, eRs_len, e1]); (refine hK _ _ ?_; clear hK K) | refine VCo.gstep rfl rfl rfl rfl rfl ?_; try simp only [GB] | refine VCo.gundef rfl rfl rfl rfl rfl ?_; try simp only [updO] | refine VC.region ?_ | refine VC.seq' ?_ | (first | refine VCo.nil ?_ | refine VC.ret ?_ | refine VC.exit ?_); (try simp only [QB]) | refine ret1 T (List.nil_sublist _) ?_; (try simp only [upd, Nat.reduceBEq, cond_true, cond_false, and_true]) | refine VC.cond rfl ?_; (try simp only [gsplit_false])
        simp [tailR, h1]
        rcases b with _ | ⟨x0, r0⟩ <;> simp
        omega
      · have e1 : (m != 1) = true := by simpa using h1
        by_cases h3 : m = 3
        · have e3 : (m == 3) = true := by simpa using h3
          repeat' first | (first | refine VCo.step T rfl rfl (fun K hK => ?_) | refine VCr.step T rfl (fun K hK => ?_)); (try simp (disch := omega) only [WB, lookD, Nat.reduceBEq, T3, T5, T9, T22, T23, T26, T27, T51, T53, T62, T65, T66, T68, T72, T78, T145, hd, eRs_len, e1, e3]); (refine hK _ _ ?_; clear hK K) | refine VCo.gstep rfl rfl rfl rfl rfl ?_; try simp only [GB] | refine VC.region ?_ | refine VC.seq' ?_ | (first | refine VCo.nil ?_ | refine VC.ret ?_ | refine VC.exit ?_); (try simp only [QB]) | refine ret1 T (List.nil_sublist _) ?_; (try simp only [upd, Nat.reduceBEq, cond_true, cond_false, and_true]) | refine VC.cond rfl ?_; (try simp only [gsplit_false])
          simp [tailR, h3]
        · have e3 : (m == 3) = false := by simpa using h3
          by_cases hl : (b.length : Int) ≤ r
          · have hl' : decide ((b.length : Int) ≤ r) = true := by simpa using hl
            repeat' first | (first | refine VCo.step T rfl rfl (fun K hK => ?_) | refine VCr.step T rfl (fun K hK => ?_)); (try simp (disch := omega) only [WB, lookD, Nat.reduceBEq, T3, T5, T9, T22, T23, T26, T27, T51, T53, T62, T65, T66, T68, T72, T78, T145, hd, eRs_len, e1, e3, hl']); (refine hK _ _ ?_; clear hK K) | refine VCo.gstep rfl rfl rfl rfl rfl ?_; try simp only [GB] | refine VC.region ?_ | refine VC.seq' ?_ | (first | refine VCo.nil ?_ | refine VC.ret ?_ | refine VC.exit ?_); (try simp only [QB]) | refine ret1 T (List.nil_sublist _) ?_; (try simp only [upd, Nat.reduceBEq, cond_true, cond_false, and_true]) | refine VC.cond rfl ?_; (try simp only [gsplit_false])
            simp [tailR, h1, hl]
          · have hl' : decide ((b.length : Int) ≤ r) = false := by simpa using hl
            repeat' first | (first | refine VCo.step T rfl rfl (fun K hK => ?_) | refine VCr.step T rfl (fun K hK => ?_)); (try simp (disch := omega) only [WB, lookD, Nat.reduceBEq, T3, T5, T9, T22, T23, T26, T27, T51, T53, T62, T65, T66, T68, T72, T78, T145, hd, eRs_len, e1, e3, hl']); (refine hK _ _ ?_; clear hK K) | refine VCo.gstep rfl rfl rfl rfl rfl ?_; try simp only [GB] | refine VC.region ?_ | refine VC.seq' ?_ | (first | refine VCo.nil ?_ | refine VC.ret ?_ | refine VC.exit ?_); (try simp only [QB]) | refine ret1 T (List.nil_sublist _) ?_; (try simp only [upd, Nat.reduceBEq, cond_true, cond_false, and_true]) | refine VC.cond rfl ?_; (try simp only [gsplit_false])
            simp [tailR, h3, hl]
            rcases b with _ | ⟨x0, r0⟩ <;> simp
            omega
end Go.Proofs.YtlnmljmeahknaaaGreat
