/- Contracts: what operators do; the parts of instructions. No condition. -/
import Derived.Test.YtlnmljmeahknaaaGreatXe
namespace Go.Proofs.YtlnmljmeahknaaaGreat
set_option linter.unusedSimpArgs false
set_option linter.unusedVariables false
set_option maxRecDepth 20000
open Go Go.Proofs Go.Vc

def tI (b : Bool) : Int := match b with | true => 1 | false => 0
theorem truth06_ok (b : Bool) : Pure Tryz.prog 64 [bD b] (iD (tI b)) := by
  refine Fun.of T [.tmp 2] Tryz.func64 rfl Tryz.ntmps64 Tryz.results64 rfl (by kernel_rfl) ?_
  cases b
  · repeat' first | refine VCo.step T rfl rfl (fun K hK => ?_); (try simp (disch := omega) only [WB, argE, Nat.reduceBEq]); (refine hK _ _ ?_; clear hK K) | refine VC.region ?_ | refine VC.seq' ?_ | (first | refine VCo.nil ?_ | refine VC.skip ?_ | refine VC.ret ?_); (try simp only [QB]) | refine ret1 T (List.nil_sublist _) ?_; (try simp only [upd, Nat.reduceBEq, cond_true, cond_false, and_true]) | refine VC.cond rfl ?_; (try simp only [tI, gsplit_false])
  · repeat' first | refine VCo.step T rfl rfl (fun K hK => ?_); (try simp (disch := omega) only [WB, argE, Nat.reduceBEq]); (refine hK _ _ ?_; clear hK K) | refine VC.region ?_ | refine VC.seq' ?_ | (first | refine VCo.nil ?_ | refine VC.ret ?_); (try simp only [QB]) | refine ret1 T (List.nil_sublist _) ?_; (try simp only [upd, Nat.reduceBEq, cond_true, cond_false, and_true]) | refine VC.cond rfl ?_; (try simp only [tI, gsplit_true])
theorem in07_ok (n m : Int) : Pure Tryz.prog 62 [iD n, iD m] (bD (inB n m)) := by
  refine Fun.of T [.tmp 4] Tryz.func62 rfl Tryz.ntmps62 Tryz.results62 rfl (by kernel_rfl) ?_
  repeat' first | (first | refine VCo.step T rfl rfl (fun K hK => ?_) | refine VCr.step T rfl (fun K hK => ?_)); (try simp (disch := omega) only [WB, argE, Nat.reduceBEq, T3]); (refine hK _ _ ?_; clear hK K) | refine VCo.gstep rfl rfl rfl rfl rfl ?_; try simp only [GB] | refine VC.region ?_ | refine VC.seq' ?_ | (first | refine VCo.nil ?_ | refine VC.ret ?_); (try simp only [QB]) | refine ret1 T (List.nil_sublist _) ?_; (try simp only [upd, Nat.reduceBEq, cond_true, cond_false, and_true]) | refine gsplit_intro (fun hc => ?_) (fun hc => ?_) <;> (simp only [GB])
  all_goals first | (simp_all [inB]; done) | (simp_all [inB]; omega)

def twoF (op a b md : Int) : Int :=
  if op = 6 then (a + b).tmod md else if op = 7 then (a - b + md).tmod md else if op = 8 then (a * b).tmod md else if op = 9 then tI (a == b) else if op = 10 then tI (a != b)
  else if op = 11 then tI (decide (a < b)) else if op = 12 then tI (decide (a ≤ b)) else if op = 13 then tI ((a != 0) && (b != 0)) else tI ((a != 0) || (b != 0))
set_option maxHeartbeats 4000000 in
theorem two06_ok (op a b md : Int) (ha : 0 ≤ a ∧ a ≤ 100000) (hb : 0 ≤ b ∧ b ≤ 100000) (hm : 0 < md ∧ md ≤ 100000) : Pure Tryz.prog 65 [iD op, iD a, iD b, iD md] (iD (twoF op a b md)) := by
  have hab : 0 ≤ a * b ∧ a * b ≤ 10000000000 := ⟨Int.mul_nonneg ha.1 hb.1, by
    have := Int.mul_le_mul ha.2 hb.2 hb.1 (by decide : (0 : Int) ≤ 100000)
    omega⟩
  have w1 : IntKind.i64.wrap (a + b) = a + b := by rw [w64 (by omega)]
  have w2 : IntKind.i64.wrap (a - b) = a - b := by rw [w64 (by omega)]
  have w3 : IntKind.i64.wrap (a - b + md) = a - b + md := by rw [w64 (by omega)]
  have w4 : IntKind.i64.wrap (a * b) = a * b := by rw [w64 (by omega)]
  have hmd : md ≠ 0 := by omega
  refine Fun.of T [.tmp 8] Tryz.func65 rfl Tryz.ntmps65 Tryz.results65 rfl (by kernel_rfl) ?_
  by_cases h6 : op = 6
  · subst h6
    repeat' first | (refine VCo.step T rfl rfl (fun K hK => ?_)); (try simp (disch := omega) only [WB, argE, Nat.reduceBEq, Nat.reduceAdd, T3, w1, hmd, ne_eq, not_false_eq_true]); (refine hK _ _ ?_; clear hK K) | refine VC.region ?_ | refine VC.seq' ?_ | refine VC.block ?_ | (first | refine VCo.nil ?_ | refine VC.ret ?_); (try simp only [QB]) | refine ret1 T (List.nil_sublist _) ?_; (try simp only [upd, Nat.reduceBEq, cond_true, cond_false, and_true]) | refine VC.cond rfl ?_; (try simp only [gsplit_true])
    all_goals first | rfl | (simp_all [twoF, tI]; done)
  have e6 : (op == 6) = false := by simpa using h6
  by_cases h7 : op = 7
  · subst h7
    repeat' first | (refine VCo.step T rfl rfl (fun K hK => ?_)); (try simp (disch := omega) only [WB, argE, Nat.reduceBEq, Nat.reduceAdd, T3, Int.reduceBEq, w2, w3, hmd, ne_eq, not_false_eq_true]); (refine hK _ _ ?_; clear hK K) | refine VC.region ?_ | refine VC.seq' ?_ | refine VC.block ?_ | (first | refine VCo.nil ?_ | refine VC.ret ?_); (try simp only [QB]) | refine ret1 T (List.nil_sublist _) ?_; (try simp only [upd, Nat.reduceBEq, cond_true, cond_false, and_true]) | refine VC.cond rfl ?_; (try simp only [gsplit_true, gsplit_false])
    all_goals first | rfl | (simp_all [twoF, tI]; done)
  have e7 : (op == 7) = false := by simpa using h7
  by_cases h8 : op = 8
  · subst h8
    repeat' first | (refine VCo.step T rfl rfl (fun K hK => ?_)); (try simp (disch := omega) only [WB, argE, Nat.reduceBEq, Nat.reduceAdd, T3, Int.reduceBEq, w4, hmd, ne_eq, not_false_eq_true]); (refine hK _ _ ?_; clear hK K) | refine VC.region ?_ | refine VC.seq' ?_ | refine VC.block ?_ | (first | refine VCo.nil ?_ | refine VC.ret ?_); (try simp only [QB]) | refine ret1 T (List.nil_sublist _) ?_; (try simp only [upd, Nat.reduceBEq, cond_true, cond_false, and_true]) | refine VC.cond rfl ?_; (try simp only [gsplit_true, gsplit_false])
    all_goals first | rfl | (simp_all [twoF, tI]; done)
  have e8 : (op == 8) = false := by simpa using h8
  by_cases h9 : op = 9
  · subst h9
    repeat' first | (refine VCo.step T rfl rfl (fun K hK => ?_)); (try simp (disch := omega) only [WB, argE, Nat.reduceBEq, Nat.reduceAdd, T3, Int.reduceBEq]); (first | refine hK _ _ ?_; clear hK K | refine Op1.callp rfl rfl (truth06_ok _) rfl ?_; refine hK _ _ ?_; clear hK K) | refine VC.region ?_ | refine VC.seq' ?_ | refine VC.block ?_ | (first | refine VCo.nil ?_ | refine VC.ret ?_); (try simp only [QB]) | refine ret1 T (List.nil_sublist _) ?_; (try simp only [upd, Nat.reduceBEq, cond_true, cond_false, and_true]) | refine VC.cond rfl ?_; (try simp only [gsplit_true, gsplit_false])
    all_goals first | rfl | (simp_all [twoF, tI]; done)
  have e9 : (op == 9) = false := by simpa using h9
  by_cases h10 : op = 10
  · subst h10
    repeat' first | (refine VCo.step T rfl rfl (fun K hK => ?_)); (try simp (disch := omega) only [WB, argE, Nat.reduceBEq, Nat.reduceAdd, T3, Int.reduceBEq]); (first | refine hK _ _ ?_; clear hK K | refine Op1.callp rfl rfl (truth06_ok _) rfl ?_; refine hK _ _ ?_; clear hK K) | refine VC.region ?_ | refine VC.seq' ?_ | refine VC.block ?_ | (first | refine VCo.nil ?_ | refine VC.ret ?_); (try simp only [QB]) | refine ret1 T (List.nil_sublist _) ?_; (try simp only [upd, Nat.reduceBEq, cond_true, cond_false, and_true]) | refine VC.cond rfl ?_; (try simp only [gsplit_true, gsplit_false])
    all_goals first | rfl | (simp_all [twoF, tI]; done)
  have e10 : (op == 10) = false := by simpa using h10
  by_cases h11 : op = 11
  · subst h11
    repeat' first | (refine VCo.step T rfl rfl (fun K hK => ?_)); (try simp (disch := omega) only [WB, argE, Nat.reduceBEq, Nat.reduceAdd, T3, Int.reduceBEq]); (first | refine hK _ _ ?_; clear hK K | refine Op1.callp rfl rfl (truth06_ok _) rfl ?_; refine hK _ _ ?_; clear hK K) | refine VC.region ?_ | refine VC.seq' ?_ | refine VC.block ?_ | (first | refine VCo.nil ?_ | refine VC.ret ?_); (try simp only [QB]) | refine ret1 T (List.nil_sublist _) ?_; (try simp only [upd, Nat.reduceBEq, cond_true, cond_false, and_true]) | refine VC.cond rfl ?_; (try simp only [gsplit_true, gsplit_false])
    all_goals first | rfl | (simp_all [twoF, tI]; done)
  have e11 : (op == 11) = false := by simpa using h11
  by_cases h12 : op = 12
  · subst h12
    repeat' first | (refine VCo.step T rfl rfl (fun K hK => ?_)); (try simp (disch := omega) only [WB, argE, Nat.reduceBEq, Nat.reduceAdd, T3, Int.reduceBEq]); (first | refine hK _ _ ?_; clear hK K | refine Op1.callp rfl rfl (truth06_ok _) rfl ?_; refine hK _ _ ?_; clear hK K) | refine VC.region ?_ | refine VC.seq' ?_ | refine VC.block ?_ | (first | refine VCo.nil ?_ | refine VC.ret ?_); (try simp only [QB]) | refine ret1 T (List.nil_sublist _) ?_; (try simp only [upd, Nat.reduceBEq, cond_true, cond_false, and_true]) | refine VC.cond rfl ?_; (try simp only [gsplit_true, gsplit_false])
    all_goals first | rfl | (simp_all [twoF, tI]; done)
  have e12 : (op == 12) = false := by simpa using h12
  by_cases h13 : op = 13
  · subst h13
    rcases hA : (a != 0) <;> rcases hB : (b != 0)
    · have hz : twoF 13 a b md = 0 := by simp [twoF, hA, hB, tI]
      rw [hz]
      repeat' first | (refine VCo.step T rfl rfl (fun K hK => ?_)); (try simp (disch := omega) only [WB, argE, Nat.reduceBEq, Nat.reduceAdd, T3, Int.reduceBEq, hA, tI]); (first | refine hK _ _ ?_; clear hK K | refine Op1.callp rfl rfl (truth06_ok _) rfl ?_; refine hK _ _ ?_; clear hK K) | refine VCo.gstep rfl rfl rfl rfl rfl ?_; try simp only [GB] | refine VC.region ?_ | refine VC.seq' ?_ | refine VC.block ?_ | (first | refine VCo.nil ?_ | refine VC.ret ?_); (try simp only [QB]) | refine ret1 T (List.nil_sublist _) ?_; (try simp only [upd, Nat.reduceBEq, cond_true, cond_false, and_true]) | refine VC.cond rfl ?_; (try simp only [gsplit_true, gsplit_false])
    · have hz : twoF 13 a b md = 0 := by simp [twoF, hA, hB, tI]
      rw [hz]
      repeat' first | (refine VCo.step T rfl rfl (fun K hK => ?_)); (try simp (disch := omega) only [WB, argE, Nat.reduceBEq, Nat.reduceAdd, T3, Int.reduceBEq, hA, tI]); (first | refine hK _ _ ?_; clear hK K | refine Op1.callp rfl rfl (truth06_ok _) rfl ?_; refine hK _ _ ?_; clear hK K) | refine VCo.gstep rfl rfl rfl rfl rfl ?_; try simp only [GB] | refine VC.region ?_ | refine VC.seq' ?_ | refine VC.block ?_ | (first | refine VCo.nil ?_ | refine VC.ret ?_); (try simp only [QB]) | refine ret1 T (List.nil_sublist _) ?_; (try simp only [upd, Nat.reduceBEq, cond_true, cond_false, and_true]) | refine VC.cond rfl ?_; (try simp only [gsplit_true, gsplit_false])
    · have hz : twoF 13 a b md = 0 := by simp [twoF, hA, hB, tI]
      rw [hz]
      repeat' first | (first | refine VCo.step T rfl rfl (fun K hK => ?_) | refine VCr.step T rfl (fun K hK => ?_)); (try simp (disch := omega) only [WB, argE, Nat.reduceBEq, Nat.reduceAdd, T3, Int.reduceBEq, hA, hB, tI]); (first | refine hK _ _ ?_; clear hK K | refine Op1.callp rfl rfl (truth06_ok _) rfl ?_; refine hK _ _ ?_; clear hK K) | refine VCo.gstep rfl rfl rfl rfl rfl ?_; try simp only [GB] | refine VC.region ?_ | refine VC.seq' ?_ | refine VC.block ?_ | (first | refine VCo.nil ?_ | refine VC.ret ?_); (try simp only [QB]) | refine ret1 T (List.nil_sublist _) ?_; (try simp only [upd, Nat.reduceBEq, cond_true, cond_false, and_true]) | refine VC.cond rfl ?_; (try simp only [gsplit_true, gsplit_false])
    · have hz : twoF 13 a b md = 1 := by simp [twoF, hA, hB, tI]
      rw [hz]
      repeat' first | (first | refine VCo.step T rfl rfl (fun K hK => ?_) | refine VCr.step T rfl (fun K hK => ?_)); (try simp (disch := omega) only [WB, argE, Nat.reduceBEq, Nat.reduceAdd, T3, Int.reduceBEq, hA, hB, tI]); (first | refine hK _ _ ?_; clear hK K | refine Op1.callp rfl rfl (truth06_ok _) rfl ?_; refine hK _ _ ?_; clear hK K) | refine VCo.gstep rfl rfl rfl rfl rfl ?_; try simp only [GB] | refine VC.region ?_ | refine VC.seq' ?_ | refine VC.block ?_ | (first | refine VCo.nil ?_ | refine VC.ret ?_); (try simp only [QB]) | refine ret1 T (List.nil_sublist _) ?_; (try simp only [upd, Nat.reduceBEq, cond_true, cond_false, and_true]) | refine VC.cond rfl ?_; (try simp only [gsplit_true, gsplit_false])
  have e13 : (op == 13) = false := by simpa using h13
  rcases hA : (a != 0) <;> rcases hB : (b != 0)
  · have hz : twoF op a b md = 0 := by simp only [twoF, h6, h7, h8, h9, h10, h11, h12, h13, if_false, hA, hB]; rfl
    rw [hz]
    repeat' first | (first | refine VCo.step T rfl rfl (fun K hK => ?_) | refine VCr.step T rfl (fun K hK => ?_)); (try simp (disch := omega) only [WB, argE, Nat.reduceBEq, Nat.reduceAdd, T3, e6, e7, e8, e9, e10, e11, e12, e13, hA, hB, tI]); (first | refine hK _ _ ?_; clear hK K | refine Op1.callp rfl rfl (truth06_ok _) rfl ?_; refine hK _ _ ?_; clear hK K) | refine VCo.gstep rfl rfl rfl rfl rfl ?_; try simp only [GB] | refine VC.region ?_ | refine VC.seq' ?_ | refine VC.block ?_ | (first | refine VCo.nil ?_ | refine VC.skip ?_ | refine VC.ret ?_); (try simp only [QB]) | refine ret1 T (List.nil_sublist _) ?_; (try simp only [upd, Nat.reduceBEq, cond_true, cond_false, and_true]) | refine VC.cond rfl ?_; (try simp only [gsplit_false])
  · have hz : twoF op a b md = 1 := by simp only [twoF, h6, h7, h8, h9, h10, h11, h12, h13, if_false, hA, hB]; rfl
    rw [hz]
    repeat' first | (first | refine VCo.step T rfl rfl (fun K hK => ?_) | refine VCr.step T rfl (fun K hK => ?_)); (try simp (disch := omega) only [WB, argE, Nat.reduceBEq, Nat.reduceAdd, T3, e6, e7, e8, e9, e10, e11, e12, e13, hA, hB, tI]); (first | refine hK _ _ ?_; clear hK K | refine Op1.callp rfl rfl (truth06_ok _) rfl ?_; refine hK _ _ ?_; clear hK K) | refine VCo.gstep rfl rfl rfl rfl rfl ?_; try simp only [GB] | refine VC.region ?_ | refine VC.seq' ?_ | refine VC.block ?_ | (first | refine VCo.nil ?_ | refine VC.skip ?_ | refine VC.ret ?_); (try simp only [QB]) | refine ret1 T (List.nil_sublist _) ?_; (try simp only [upd, Nat.reduceBEq, cond_true, cond_false, and_true]) | refine VC.cond rfl ?_; (try simp only [gsplit_false])
  · have hz : twoF op a b md = 1 := by simp only [twoF, h6, h7, h8, h9, h10, h11, h12, h13, if_false, hA, hB]; rfl
    rw [hz]
    repeat' first | (refine VCo.step T rfl rfl (fun K hK => ?_)); (try simp (disch := omega) only [WB, argE, Nat.reduceBEq, Nat.reduceAdd, T3, e6, e7, e8, e9, e10, e11, e12, e13, hA, tI]); (first | refine hK _ _ ?_; clear hK K | refine Op1.callp rfl rfl (truth06_ok _) rfl ?_; refine hK _ _ ?_; clear hK K) | refine VCo.gstep rfl rfl rfl rfl rfl ?_; try simp only [GB] | refine VC.region ?_ | refine VC.seq' ?_ | refine VC.block ?_ | (first | refine VCo.nil ?_ | refine VC.skip ?_ | refine VC.ret ?_); (try simp only [QB]) | refine ret1 T (List.nil_sublist _) ?_; (try simp only [upd, Nat.reduceBEq, cond_true, cond_false, and_true]) | refine VC.cond rfl ?_; (try simp only [gsplit_false])
  · have hz : twoF op a b md = 1 := by simp only [twoF, h6, h7, h8, h9, h10, h11, h12, h13, if_false, hA, hB]; rfl
    rw [hz]
    repeat' first | (refine VCo.step T rfl rfl (fun K hK => ?_)); (try simp (disch := omega) only [WB, argE, Nat.reduceBEq, Nat.reduceAdd, T3, e6, e7, e8, e9, e10, e11, e12, e13, hA, tI]); (first | refine hK _ _ ?_; clear hK K | refine Op1.callp rfl rfl (truth06_ok _) rfl ?_; refine hK _ _ ?_; clear hK K) | refine VCo.gstep rfl rfl rfl rfl rfl ?_; try simp only [GB] | refine VC.region ?_ | refine VC.seq' ?_ | refine VC.block ?_ | (first | refine VCo.nil ?_ | refine VC.skip ?_ | refine VC.ret ?_); (try simp only [QB]) | refine ret1 T (List.nil_sublist _) ?_; (try simp only [upd, Nat.reduceBEq, cond_true, cond_false, and_true]) | refine VC.cond rfl ?_; (try simp only [gsplit_false])

/-- A byte of a text. -/
def hasB (s : ByteArray) (c : UInt8) : Bool := s.data.toList.any fun x => decide (x = c)
theorem has07_ok (s : ByteArray) (hs : s.size ≤ 1000) (c : UInt8) : Pure Tryz.prog 61 [sD s, .is (.int .u8 c.toNat)] (bD (hasB s c)) := by
  have hsz : s.data.toList.length = s.size := Array.length_toList
  refine Fun.of T [.tmp 4] Tryz.func61 rfl Tryz.ntmps61 Tryz.results61 rfl (by kernel_rfl) ?_
  repeat' first | refine VCo.step T rfl rfl (fun K hK => ?_); (try simp (disch := omega) only [WB, argE, T3, T5, T9, T22, T23, T26, T27, T51, T53, T62, T65, T66, T68, T72, T78, T145]); (refine hK _ _ ?_; clear hK K) | refine VC.region ?_ | refine VC.seq' ?_ | refine VC.block ?_ | (refine VCo.nil ?_); (try simp only [QB])
  refine VC.loop {k : Nat // k ≤ s.size ∧ ∀ (i : Nat) (y : UInt8), i < k → s.data.toList[i]? = some y → ¬ y = c} (fun p => ⟨lookD [(0, sD s), (1, .is (.int .u8 c.toNat)), (5, iD (p.1 : Nat))], []⟩) (fun p => s.size - p.1) ⟨0, by omega, fun i y hi => by omega⟩ ?_ ?_
  · refine Weak.sub ?_
    simp [sub, upd]
  · rintro ⟨k, hk, hno⟩
    dsimp only
    rcases Nat.lt_or_ge k s.size with hlt | hge
    · have hd : decide ((k : Int) < (s.size : Int)) = true := by simp; omega
      have hw : IntKind.i64.wrap ((k : Int) + 1) = ((k + 1 : Nat) : Int) := by rw [w64 (by omega)]; omega
      obtain ⟨y, hy⟩ : ∃ y, s.data.toList[k]? = some y := ⟨_, List.getElem?_eq_getElem (by omega)⟩
      have hg : s.data.toList.getD k 0 = y := by rw [List.getD_eq_getElem?_getD, hy]; rfl
      by_cases he : y = c
      · have he' : ((y.toNat : Int) == (c.toNat : Int)) = true := by rw [he]; simp
        have hr : hasB s c = true := by
          unfold hasB
          rw [List.any_eq_true]
          exact ⟨y, List.mem_of_getElem? hy, by simpa using he⟩
        rw [hr]
        repeat' first | refine VCo.step T rfl rfl (fun K hK => ?_); (try simp (disch := omega) only [WB, lookD, Nat.reduceBEq, T3, T5, T9, T22, T23, T26, T27, T51, T53, T62, T65, T66, T68, T72, T78, T145, hd, hg, he']); (first | refine hK _ _ ?_; clear hK K | refine ⟨?_, hK _ _ ?_⟩ <;> clear hK K; focus (try omega)) | refine VC.region ?_ | refine VC.seq' ?_ | refine VC.block ?_ | (first | refine VCo.nil ?_ | refine VC.skip ?_ | refine VC.ret ?_); (try simp only [QB]) | refine ret1 T (List.nil_sublist _) ?_; (try simp only [upd, Nat.reduceBEq, cond_true, cond_false, and_true]) | refine VC.cond rfl ?_; (try simp only [gsplit_true])
      · have he' : ((y.toNat : Int) == (c.toNat : Int)) = false := by
          rw [beq_eq_false_iff_ne]
          intro h
          exact he (UInt8.toNat.inj (by omega))
        repeat' first | refine VCo.step T rfl rfl (fun K hK => ?_); (try simp (disch := omega) only [WB, lookD, Nat.reduceBEq, T3, T5, T9, T22, T23, T26, T27, T51, T53, T62, T65, T66, T68, T72, T78, T145, hd, hw, hg, he']); (first | refine hK _ _ ?_; clear hK K | refine ⟨?_, hK _ _ ?_⟩ <;> clear hK K; focus (try omega)) | refine VC.region ?_ | refine VC.seq' ?_ | refine VC.block ?_ | (first | refine VCo.nil ?_ | refine VC.skip ?_); (try simp only [QB]) | refine VC.cond rfl ?_; (try simp only [gsplit_true, gsplit_false])
        refine ⟨⟨k + 1, by omega, fun i z hi hz => ?_⟩, Weak.sub ?_, by simp only []; omega⟩
        · rcases Nat.lt_or_ge i k with h' | h'
          · exact hno i z h' hz
          · obtain rfl : i = k := by omega
            rw [hy] at hz; cases hz; exact he
        · simp [sub, upd]
    · have hd : decide ((k : Int) < (s.size : Int)) = false := by simp; omega
      have hr : hasB s c = false := by
        unfold hasB
        rw [List.any_eq_false]
        intro y hy
        obtain ⟨i, hi⟩ := List.getElem?_of_mem hy
        simpa using hno i y (by have := (List.getElem?_eq_some_iff.1 hi).1; omega) hi
      rw [hr]
      repeat' first | refine VCo.step T rfl rfl (fun K hK => ?_); (try simp (disch := omega) only [WB, lookD, Nat.reduceBEq, T3, T5, T9, T22, T23, T26, T27, T51, T53, T62, T65, T66, T68, T72, T78, T145, hd]); (refine hK _ _ ?_; clear hK K) | refine VC.region ?_ | refine VC.seq' ?_ | (first | refine VCo.nil ?_ | refine VC.ret ?_ | refine VC.exit ?_); (try simp only [QB]) | refine ret1 T (List.nil_sublist _) ?_; (try simp only [upd, Nat.reduceBEq, cond_true, cond_false, and_true]) | refine VC.cond rfl ?_; (try simp only [gsplit_false])
end Go.Proofs.YtlnmljmeahknaaaGreat
