/- Contracts: the program's operators, and how many numbers lie there. No condition. -/
import Derived.Test.YtfifcjgcajpnoaaXg
import Derived.Test.YtfifcjgcajpnoaaK2
namespace Go.Proofs.Ytfifcjgcajpnoaa
set_option linter.unusedSimpArgs false
set_option linter.unusedVariables false
set_option maxRecDepth 20000
open Go Go.Proofs Go.Vc
attribute [local irreducible] retQ VCg VCw

theorem truth_ok (b : Bool) : Pure Try.prog 53 [bD b] (iD (tI b)) := by
  refine Fun.of T [.tmp 2] Try.func53 rfl Try.ntmps53 Try.results53 rfl (by kernel_rfl) ?_
  cases b
  · repeat' first | refine vs T rfl fun K hK => ?_; (try simp (disch := omega) only [go_sem, Nat.reduceBEq]); (refine hK _ _ ?_; clear hK K) | refine st rfl ?_ | refine sc rfl ?_ | refine nl ?_ | exact ret1 T (List.nil_sublist _) ⟨rfl, rfl⟩
  · repeat' first | refine vs T rfl fun K hK => ?_; (try simp (disch := omega) only [go_sem, Nat.reduceBEq]); (refine hK _ _ ?_; clear hK K) | refine st rfl ?_ | refine sc rfl ?_ | refine nl ?_ | exact ret1 T (List.nil_sublist _) ⟨rfl, rfl⟩

theorem not_ok (a b md : Int) : Pure Try.prog 52 [iD a, iD b, iD md] (iD (tI (b == 0))) := by
  refine Fun.of T [.tmp 6] Try.func52 rfl Try.ntmps52 Try.results52 rfl (by kernel_rfl) ?_
  repeat' first | refine vs T rfl fun K hK => ?_; (try simp (disch := omega) only [go_sem, Nat.reduceBEq, Nat.reduceAdd]); (first | refine hK _ _ ?_; clear hK K | refine Op1.callp rfl rfl (truth_ok _) rfl ?_; refine hK _ _ ?_; clear hK K) | refine st rfl ?_ | refine nl ?_ | exact ret1 T (List.nil_sublist _) ⟨rfl, rfl⟩

/-- The function of an operator of two numbers. -/
def fnO (op : Int) : Nat := if op = 6 then 54 else if op = 7 then 55 else if op = 8 then 56 else if op = 9 then 57 else if op = 10 then 58 else if op = 11 then 59
  else if op = 12 then 60 else if op = 13 then 61 else 62

set_option maxHeartbeats 4000000 in
theorem do_ok (op a b md : Int) (h : 6 ≤ op ∧ op ≤ 14) (ha : 0 ≤ a ∧ a ≤ 100000) (hb : 0 ≤ b ∧ b ≤ 100000) (hm : 0 < md ∧ md ≤ 100000) : Pure Try.prog (fnO op) [iD a, iD b, iD md] (iD (twoF op a b md)) := by
  have hab : 0 ≤ a * b ∧ a * b ≤ 10000000000 := ⟨Int.mul_nonneg ha.1 hb.1, by
    have := Int.mul_le_mul ha.2 hb.2 hb.1 (by decide : (0 : Int) ≤ 100000)
    omega⟩
  have w1 : IntKind.i64.wrap (a + b) = a + b := by rw [w64 (by omega)]
  have w2 : IntKind.i64.wrap (a + md) = a + md := by rw [w64 (by omega)]
  have w3 : IntKind.i64.wrap (a + md - b) = a + md - b := by rw [w64 (by omega)]
  have w4 : IntKind.i64.wrap (a * b) = a * b := by rw [w64 (by omega)]
  have hmd : md ≠ 0 := by omega
  by_cases h6 : op = 6
  · subst h6
    show Pure Try.prog 54 _ _
    refine Fun.of T [.tmp 6] Try.func54 rfl Try.ntmps54 Try.results54 rfl (by kernel_rfl) ?_
    repeat' first | refine vs T rfl fun K hK => ?_; (try simp (disch := omega) only [go_sem, Nat.reduceBEq, Nat.reduceAdd, w1, hmd, ne_eq, not_false_eq_true]); (refine hK _ _ ?_; clear hK K) | refine st rfl ?_ | refine nl ?_ | exact ret1 T (List.nil_sublist _) ⟨rfl, rfl⟩
    all_goals first | rfl | (simp_all [twoF, tI]; done)
  by_cases h7 : op = 7
  · subst h7
    show Pure Try.prog 55 _ _
    have e : twoF 7 a b md = (a + md - b).tmod md := by simp [twoF]; congr 1; omega
    rw [e]
    refine Fun.of T [.tmp 6] Try.func55 rfl Try.ntmps55 Try.results55 rfl (by kernel_rfl) ?_
    repeat' first | refine vs T rfl fun K hK => ?_; (try simp (disch := omega) only [go_sem, Nat.reduceBEq, Nat.reduceAdd, w2, w3, hmd, ne_eq, not_false_eq_true]); (refine hK _ _ ?_; clear hK K) | refine st rfl ?_ | refine nl ?_ | exact ret1 T (List.nil_sublist _) ⟨rfl, rfl⟩
    all_goals first | rfl | (simp_all [twoF, tI]; done)
  by_cases h8 : op = 8
  · subst h8
    show Pure Try.prog 56 _ _
    refine Fun.of T [.tmp 6] Try.func56 rfl Try.ntmps56 Try.results56 rfl (by kernel_rfl) ?_
    repeat' first | refine vs T rfl fun K hK => ?_; (try simp (disch := omega) only [go_sem, Nat.reduceBEq, Nat.reduceAdd, w4, hmd, ne_eq, not_false_eq_true]); (refine hK _ _ ?_; clear hK K) | refine st rfl ?_ | refine nl ?_ | exact ret1 T (List.nil_sublist _) ⟨rfl, rfl⟩
    all_goals first | rfl | (simp_all [twoF, tI]; done)
  by_cases h9 : op = 9
  · subst h9
    show Pure Try.prog 57 _ _
    refine Fun.of T [.tmp 6] Try.func57 rfl Try.ntmps57 Try.results57 rfl (by kernel_rfl) ?_
    repeat' first | refine vs T rfl fun K hK => ?_; (try simp (disch := omega) only [go_sem, Nat.reduceBEq, Nat.reduceAdd]); (first | refine hK _ _ ?_; clear hK K | refine Op1.callp rfl rfl (truth_ok _) rfl ?_; refine hK _ _ ?_; clear hK K) | refine st rfl ?_ | refine nl ?_ | exact ret1 T (List.nil_sublist _) ⟨rfl, rfl⟩
    all_goals first | rfl | (simp_all [twoF, tI]; done)
  by_cases h10 : op = 10
  · subst h10
    show Pure Try.prog 58 _ _
    refine Fun.of T [.tmp 6] Try.func58 rfl Try.ntmps58 Try.results58 rfl (by kernel_rfl) ?_
    repeat' first | refine vs T rfl fun K hK => ?_; (try simp (disch := omega) only [go_sem, Nat.reduceBEq, Nat.reduceAdd]); (first | refine hK _ _ ?_; clear hK K | refine Op1.callp rfl rfl (truth_ok _) rfl ?_; refine hK _ _ ?_; clear hK K) | refine st rfl ?_ | refine nl ?_ | exact ret1 T (List.nil_sublist _) ⟨rfl, rfl⟩
    all_goals first | rfl | (simp_all [twoF, tI]; done)
  by_cases h11 : op = 11
  · subst h11
    show Pure Try.prog 59 _ _
    refine Fun.of T [.tmp 6] Try.func59 rfl Try.ntmps59 Try.results59 rfl (by kernel_rfl) ?_
    repeat' first | refine vs T rfl fun K hK => ?_; (try simp (disch := omega) only [go_sem, Nat.reduceBEq, Nat.reduceAdd]); (first | refine hK _ _ ?_; clear hK K | refine Op1.callp rfl rfl (truth_ok _) rfl ?_; refine hK _ _ ?_; clear hK K) | refine st rfl ?_ | refine nl ?_ | exact ret1 T (List.nil_sublist _) ⟨rfl, rfl⟩
    all_goals first | rfl | (simp_all [twoF, tI]; done)
  by_cases h12 : op = 12
  · subst h12
    show Pure Try.prog 60 _ _
    refine Fun.of T [.tmp 6] Try.func60 rfl Try.ntmps60 Try.results60 rfl (by kernel_rfl) ?_
    repeat' first | refine vs T rfl fun K hK => ?_; (try simp (disch := omega) only [go_sem, Nat.reduceBEq, Nat.reduceAdd]); (first | refine hK _ _ ?_; clear hK K | refine Op1.callp rfl rfl (truth_ok _) rfl ?_; refine hK _ _ ?_; clear hK K) | refine st rfl ?_ | refine nl ?_ | exact ret1 T (List.nil_sublist _) ⟨rfl, rfl⟩
    all_goals first | rfl | (simp_all [twoF, tI]; done)
  by_cases h13 : op = 13
  · subst h13
    show Pure Try.prog 61 _ _
    have e : twoF 13 a b md = tI (a * b != 0) := by
      simp only [twoF]
      simp only [show ¬ ((13 : Int) = 6) by decide, show ¬ ((13 : Int) = 7) by decide, show ¬ ((13 : Int) = 8) by decide, show ¬ ((13 : Int) = 9) by decide, show ¬ ((13 : Int) = 10) by decide, show ¬ ((13 : Int) = 11) by decide, show ¬ ((13 : Int) = 12) by decide, if_false, if_true]
      congr 1
      rw [Bool.eq_iff_iff]
      simp [Int.mul_eq_zero]
    rw [e]
    refine Fun.of T [.tmp 6] Try.func61 rfl Try.ntmps61 Try.results61 rfl (by kernel_rfl) ?_
    repeat' first | refine vs T rfl fun K hK => ?_; (try simp (disch := omega) only [go_sem, Nat.reduceBEq, Nat.reduceAdd, w4]); (first | refine hK _ _ ?_; clear hK K | refine Op1.callp rfl rfl (truth_ok _) rfl ?_; refine hK _ _ ?_; clear hK K) | refine st rfl ?_ | refine nl ?_ | exact ret1 T (List.nil_sublist _) ⟨rfl, rfl⟩
    all_goals first | rfl | (simp_all [twoF, tI]; done)
  obtain rfl : op = 14 := by omega
  show Pure Try.prog 62 _ _
  have e : twoF 14 a b md = tI (a + b != 0) := by
    simp only [twoF]
    simp only [show ¬ ((14 : Int) = 6) by decide, show ¬ ((14 : Int) = 7) by decide, show ¬ ((14 : Int) = 8) by decide, show ¬ ((14 : Int) = 9) by decide, show ¬ ((14 : Int) = 10) by decide, show ¬ ((14 : Int) = 11) by decide, show ¬ ((14 : Int) = 12) by decide, show ¬ ((14 : Int) = 13) by decide, if_false, if_true]
    congr 1
    rw [Bool.eq_iff_iff]
    simp
    omega
  rw [e]
  refine Fun.of T [.tmp 6] Try.func62 rfl Try.ntmps62 Try.results62 rfl (by kernel_rfl) ?_
  repeat' first | refine vs T rfl fun K hK => ?_; (try simp (disch := omega) only [go_sem, Nat.reduceBEq, Nat.reduceAdd, w1]); (first | refine hK _ _ ?_; clear hK K | refine Op1.callp rfl rfl (truth_ok _) rfl ?_; refine hK _ _ ?_; clear hK K) | refine st rfl ?_ | refine nl ?_ | exact ret1 T (List.nil_sublist _) ⟨rfl, rfl⟩
  all_goals first | rfl | (simp_all [twoF, tI]; done)

abbrev fD (f : Nat) : D := .is (.func (.func f) #[] #[])
/-- What an operator is. -/
def ofD (op : Int) : D := if op = 5 then .tup [.agg [iD 1, fD 52], bD true] else if 6 ≤ op ∧ op ≤ 14 then .tup [.agg [iD 2, fD (fnO op)], bD true] else .tup [.agg [iD 0, .is .nilFunc], bD false]
def opTab : List D := [iD 0, .is .nilFunc, iD 0, .is .nilFunc, iD 0, .is .nilFunc, iD 0, .is .nilFunc, iD 0, .is .nilFunc, iD 1, fD 52, iD 2, fD 54, iD 2, fD 55, iD 2, fD 56, iD 2, fD 57, iD 2, fD 58, iD 2, fD 59, iD 2, fD 60, iD 2, fD 61, iD 2, fD 62]
theorem opTab_at (op : Int) (h : 5 ≤ op ∧ op ≤ 14) : ∃ tk f, (opTab.drop (op.toNat * 2)).take 2 = [iD tk, fD f] ∧ ofD op = .tup [.agg [iD tk, fD f], bD true] := by
  obtain ⟨k, rfl⟩ : ∃ k : Nat, op = (k : Int) + 5 := ⟨(op - 5).toNat, by omega⟩
  have hk : k ≤ 9 := by omega
  match k, hk with
  | 0, _ => exact ⟨_, _, rfl, rfl⟩
  | 1, _ => exact ⟨_, _, rfl, rfl⟩
  | 2, _ => exact ⟨_, _, rfl, rfl⟩
  | 3, _ => exact ⟨_, _, rfl, rfl⟩
  | 4, _ => exact ⟨_, _, rfl, rfl⟩
  | 5, _ => exact ⟨_, _, rfl, rfl⟩
  | 6, _ => exact ⟨_, _, rfl, rfl⟩
  | 7, _ => exact ⟨_, _, rfl, rfl⟩
  | 8, _ => exact ⟨_, _, rfl, rfl⟩
  | 9, _ => exact ⟨_, _, rfl, rfl⟩
set_option maxHeartbeats 8000000 in
theorem of_ok (op : Int) : Pure Try.prog 51 [iD op] (ofD op) := by
  refine Fun.of T [.cell 2 114, .tmp 3] Try.func51 rfl Try.ntmps51 Try.results51 rfl (by kernel_rfl) ?_
  by_cases h5 : op < 5
  · have e5 : decide (op < 5) = true := by simpa using h5
    have hD : ofD op = .tup [.agg [iD 0, .is .nilFunc], bD false] := by unfold ofD; rw [if_neg (by omega), if_neg (by omega)]
    rw [hD]
    repeat' first | refine vt rfl fun K hK => ?_; refine r_buildA T (t := 118) (ps := [(5, .tmp 5), (6, .tmp 6), (7, .tmp 7), (8, .tmp 8), (9, .tmp 9), (10, .tmp 10), (11, .tmp 11), (12, .tmp 12), (13, .tmp 13), (14, .tmp 14)]) rfl (by rw [T118]; rfl) (by (simp (disch := omega) only [go_sem, Nat.reduceBEq, Nat.reduceAdd, Nat.reduceMul]); rfl) (by rfl) (hK _ _ ?_); clear hK K; (try simp only [updO]) | refine vs T rfl fun K hK => ?_; (try simp (disch := omega) only [go_sem, Nat.reduceBEq, Nat.reduceAdd, Nat.reduceLeDiff, e5]); (first | refine hK _ _ ?_; clear hK K | intro bq hbq; (try simp only [HB] at hbq); refine hK _ _ ?_; clear hK K) | refine st rfl ?_ | refine sc rfl ?_ | refine nl ?_ | refine gs rfl rfl ?_ | exact retc1 T rfl (by (simp (disch := omega) only [hget_ne, hget_eq]) <;> rfl) rfl rfl rfl (List.nil_sublist _) ⟨rfl, rfl⟩
  have e5 : decide (op < 5) = false := by simpa using h5
  by_cases h15 : op ≥ 15
  · have e15 : decide (op ≥ 15) = true := by simpa using h15
    have hD : ofD op = .tup [.agg [iD 0, .is .nilFunc], bD false] := by unfold ofD; rw [if_neg (by omega), if_neg (by omega)]
    rw [hD]
    repeat' first | refine vt rfl fun K hK => ?_; refine r_buildA T (t := 118) (ps := [(5, .tmp 5), (6, .tmp 6), (7, .tmp 7), (8, .tmp 8), (9, .tmp 9), (10, .tmp 10), (11, .tmp 11), (12, .tmp 12), (13, .tmp 13), (14, .tmp 14)]) rfl (by rw [T118]; rfl) (by (simp (disch := omega) only [go_sem, Nat.reduceBEq, Nat.reduceAdd, Nat.reduceMul]); rfl) (by rfl) (hK _ _ ?_); clear hK K; (try simp only [updO]) | refine vs T rfl fun K hK => ?_; (try simp (disch := omega) only [go_sem, Nat.reduceBEq, Nat.reduceAdd, Nat.reduceLeDiff, e5, e15]); (first | refine hK _ _ ?_; clear hK K | intro bq hbq; (try simp only [HB] at hbq); refine hK _ _ ?_; clear hK K) | refine st rfl ?_ | refine sc rfl ?_ | refine nl ?_ | refine gs rfl rfl ?_ | exact retc1 T rfl (by (simp (disch := omega) only [hget_ne, hget_eq]) <;> rfl) rfl rfl rfl (List.nil_sublist _) ⟨rfl, rfl⟩
  have e15 : decide (op ≥ 15) = false := by simpa using h15
  obtain ⟨tk, f, h1, h2⟩ := opTab_at op (by omega)
  rw [h2]
  simp only [opTab] at h1
  repeat' first | refine vt rfl fun K hK => ?_; refine r_buildA T (t := 118) (ps := [(5, .tmp 5), (6, .tmp 6), (7, .tmp 7), (8, .tmp 8), (9, .tmp 9), (10, .tmp 10), (11, .tmp 11), (12, .tmp 12), (13, .tmp 13), (14, .tmp 14)]) rfl (by rw [T118]; rfl) (by (simp (disch := omega) only [go_sem, Nat.reduceBEq, Nat.reduceAdd, Nat.reduceMul]); rfl) (by rfl) (hK _ _ ?_); clear hK K; (try simp only [updO]) | refine vt rfl fun K hK => r_indexA T rfl rfl rfl rfl (by omega) (hK _ _ ?_); (try simp only [updO]) | refine vs T rfl fun K hK => ?_; (try simp (disch := omega) only [go_sem, Nat.reduceBEq, Nat.reduceAdd, Nat.reduceLeDiff, e5, e15, h1]); (first | refine hK _ _ ?_; clear hK K | intro bq hbq; (try simp only [HB] at hbq); refine hK _ _ ?_; clear hK K | refine ⟨?_, hK _ _ ?_⟩ <;> clear hK K; focus (try omega)) | refine st rfl ?_ | refine sc rfl ?_ | refine nl ?_ | refine gs rfl rfl ?_ | exact retc1 T rfl (by (simp (disch := omega) only [hget_ne, hget_eq]) <;> rfl) rfl rfl rfl (List.nil_sublist _) ⟨rfl, rfl⟩
end Go.Proofs.Ytfifcjgcajpnoaa
