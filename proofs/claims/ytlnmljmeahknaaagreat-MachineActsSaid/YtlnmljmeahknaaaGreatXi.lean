/- Contracts: the parts of instructions. No condition. -/
import Derived.Test.YtlnmljmeahknaaaGreatXh
namespace Go.Proofs.YtlnmljmeahknaaaGreat
set_option linter.unusedSimpArgs false
set_option linter.unusedVariables false
set_option maxRecDepth 20000
open Go Go.Proofs Go.Vc

/-- The parts of a kind of instructions. -/
def partsF (op : Int) : Option ByteArray :=
  if op = 2 then some ⟨#[114, 101]⟩ else
  if op = 3 then some ⟨#[114, 108]⟩ else
  if op = 4 then some ⟨#[108, 101]⟩ else
  if op = 5 then some ⟨#[114, 108, 101, 102]⟩ else
  if op = 6 then some ⟨#[114, 108, 101]⟩ else
  if op = 7 then some ⟨#[114, 108, 101]⟩ else
  if op = 8 then some ⟨#[]⟩ else
  if op = 9 then some ⟨#[108, 101, 110]⟩ else
  if op = 20 then some ⟨#[116]⟩ else
  if op = 21 then some ⟨#[101, 116]⟩ else none
def partD (o : Option ByteArray) : D := .tup [sD (o.getD ⟨#[]⟩), bD o.isSome]
set_option maxHeartbeats 4000000 in
theorem parts07_ok (op : Int) : Pure Tryz.prog 60 [iD op] (partD (partsF op)) := by
  refine Fun.of T [.tmp 2, .tmp 3] Tryz.func60 rfl Tryz.ntmps60 Tryz.results60 rfl (by kernel_rfl) ?_
  by_cases h2 : op = 2
  · subst h2
    repeat' first | refine VCo.step T rfl rfl (fun K hK => ?_); (try simp (disch := omega) only [WB, argE, Nat.reduceBEq, T3]); (refine hK _ _ ?_; clear hK K) | refine VC.region ?_ | refine VC.seq' ?_ | refine VC.block ?_ | (first | refine VCo.nil ?_ | refine VC.ret ?_); (try simp only [QB]) | refine ret2 T (List.nil_sublist _) ?_; (try simp only [upd, Nat.reduceBEq, cond_true, cond_false, and_true]) | refine VC.cond rfl ?_; (try simp only [gsplit_true])
    all_goals rfl
  have e2 : (op == 2) = false := by simpa using h2
  by_cases h3 : op = 3
  · subst h3
    repeat' first | refine VCo.step T rfl rfl (fun K hK => ?_); (try simp (disch := omega) only [WB, argE, Nat.reduceBEq, T3, Int.reduceBEq]); (refine hK _ _ ?_; clear hK K) | refine VC.region ?_ | refine VC.seq' ?_ | refine VC.block ?_ | (first | refine VCo.nil ?_ | refine VC.ret ?_); (try simp only [QB]) | refine ret2 T (List.nil_sublist _) ?_; (try simp only [upd, Nat.reduceBEq, cond_true, cond_false, and_true]) | refine VC.cond rfl ?_; (try simp only [gsplit_true, gsplit_false])
    all_goals rfl
  have e3 : (op == 3) = false := by simpa using h3
  by_cases h4 : op = 4
  · subst h4
    repeat' first | refine VCo.step T rfl rfl (fun K hK => ?_); (try simp (disch := omega) only [WB, argE, Nat.reduceBEq, T3, Int.reduceBEq]); (refine hK _ _ ?_; clear hK K) | refine VC.region ?_ | refine VC.seq' ?_ | refine VC.block ?_ | (first | refine VCo.nil ?_ | refine VC.ret ?_); (try simp only [QB]) | refine ret2 T (List.nil_sublist _) ?_; (try simp only [upd, Nat.reduceBEq, cond_true, cond_false, and_true]) | refine VC.cond rfl ?_; (try simp only [gsplit_true, gsplit_false])
    all_goals rfl
  have e4 : (op == 4) = false := by simpa using h4
  by_cases h5 : op = 5
  · subst h5
    repeat' first | refine VCo.step T rfl rfl (fun K hK => ?_); (try simp (disch := omega) only [WB, argE, Nat.reduceBEq, T3, Int.reduceBEq]); (refine hK _ _ ?_; clear hK K) | refine VC.region ?_ | refine VC.seq' ?_ | refine VC.block ?_ | (first | refine VCo.nil ?_ | refine VC.ret ?_); (try simp only [QB]) | refine ret2 T (List.nil_sublist _) ?_; (try simp only [upd, Nat.reduceBEq, cond_true, cond_false, and_true]) | refine VC.cond rfl ?_; (try simp only [gsplit_true, gsplit_false])
    all_goals rfl
  have e5 : (op == 5) = false := by simpa using h5
  by_cases h6 : op = 6
  · subst h6
    repeat' first | refine VCo.step T rfl rfl (fun K hK => ?_); (try simp (disch := omega) only [WB, argE, Nat.reduceBEq, T3, Int.reduceBEq]); (refine hK _ _ ?_; clear hK K) | refine VC.region ?_ | refine VC.seq' ?_ | refine VC.block ?_ | (first | refine VCo.nil ?_ | refine VC.skip ?_ | refine VC.ret ?_); (try simp only [QB]) | refine ret2 T (List.nil_sublist _) ?_; (try simp only [upd, Nat.reduceBEq, cond_true, cond_false, and_true]) | refine VC.cond rfl ?_; (try simp only [gsplit_true, gsplit_false])
    all_goals rfl
  have e6 : (op == 6) = false := by simpa using h6
  by_cases h7 : op = 7
  · subst h7
    repeat' first | refine VCo.step T rfl rfl (fun K hK => ?_); (try simp (disch := omega) only [WB, argE, Nat.reduceBEq, T3, Int.reduceBEq]); (refine hK _ _ ?_; clear hK K) | refine VC.region ?_ | refine VC.seq' ?_ | refine VC.block ?_ | (first | refine VCo.nil ?_ | refine VC.ret ?_); (try simp only [QB]) | refine ret2 T (List.nil_sublist _) ?_; (try simp only [upd, Nat.reduceBEq, cond_true, cond_false, and_true]) | refine VC.cond rfl ?_; (try simp only [gsplit_true, gsplit_false])
    all_goals rfl
  have e7 : (op == 7) = false := by simpa using h7
  by_cases h8 : op = 8
  · subst h8
    repeat' first | refine VCo.step T rfl rfl (fun K hK => ?_); (try simp (disch := omega) only [WB, argE, Nat.reduceBEq, T3, Int.reduceBEq]); (refine hK _ _ ?_; clear hK K) | refine VC.region ?_ | refine VC.seq' ?_ | refine VC.block ?_ | (first | refine VCo.nil ?_ | refine VC.ret ?_); (try simp only [QB]) | refine ret2 T (List.nil_sublist _) ?_; (try simp only [upd, Nat.reduceBEq, cond_true, cond_false, and_true]) | refine VC.cond rfl ?_; (try simp only [gsplit_true, gsplit_false])
    all_goals rfl
  have e8 : (op == 8) = false := by simpa using h8
  by_cases h9 : op = 9
  · subst h9
    repeat' first | refine VCo.step T rfl rfl (fun K hK => ?_); (try simp (disch := omega) only [WB, argE, Nat.reduceBEq, T3, Int.reduceBEq]); (refine hK _ _ ?_; clear hK K) | refine VC.region ?_ | refine VC.seq' ?_ | refine VC.block ?_ | (first | refine VCo.nil ?_ | refine VC.ret ?_); (try simp only [QB]) | refine ret2 T (List.nil_sublist _) ?_; (try simp only [upd, Nat.reduceBEq, cond_true, cond_false, and_true]) | refine VC.cond rfl ?_; (try simp only [gsplit_true, gsplit_false])
    all_goals rfl
  have e9 : (op == 9) = false := by simpa using h9
  by_cases h20 : op = 20
  · subst h20
    repeat' first | refine VCo.step T rfl rfl (fun K hK => ?_); (try simp (disch := omega) only [WB, argE, Nat.reduceBEq, T3, Int.reduceBEq]); (refine hK _ _ ?_; clear hK K) | refine VC.region ?_ | refine VC.seq' ?_ | refine VC.block ?_ | (first | refine VCo.nil ?_ | refine VC.ret ?_); (try simp only [QB]) | refine ret2 T (List.nil_sublist _) ?_; (try simp only [upd, Nat.reduceBEq, cond_true, cond_false, and_true]) | refine VC.cond rfl ?_; (try simp only [gsplit_true, gsplit_false])
    all_goals rfl
  have e20 : (op == 20) = false := by simpa using h20
  by_cases h21 : op = 21
  · subst h21
    repeat' first | refine VCo.step T rfl rfl (fun K hK => ?_); (try simp (disch := omega) only [WB, argE, Nat.reduceBEq, T3, Int.reduceBEq]); (refine hK _ _ ?_; clear hK K) | refine VC.region ?_ | refine VC.seq' ?_ | refine VC.block ?_ | (first | refine VCo.nil ?_ | refine VC.ret ?_); (try simp only [QB]) | refine ret2 T (List.nil_sublist _) ?_; (try simp only [upd, Nat.reduceBEq, cond_true, cond_false, and_true]) | refine VC.cond rfl ?_; (try simp only [gsplit_true, gsplit_false])
    all_goals rfl
  have e21 : (op == 21) = false := by simpa using h21
  have hz : partsF op = none := by simp only [partsF, h2, h3, h4, h5, h6, h7, h8, h9, h20, h21, if_false]
  rw [hz]
  repeat' first | refine VCo.step T rfl rfl (fun K hK => ?_); (try simp (disch := omega) only [WB, argE, Nat.reduceBEq, T3, e2, e3, e4, e5, e6, e7, e8, e9, e20, e21]); (refine hK _ _ ?_; clear hK K) | refine VC.region ?_ | refine VC.seq' ?_ | refine VC.block ?_ | (first | refine VCo.nil ?_ | refine VC.skip ?_ | refine VC.ret ?_); (try simp only [QB]) | refine ret2 T (List.nil_sublist _) ?_; (try simp only [upd, Nat.reduceBEq, cond_true, cond_false, and_true]) | refine VC.cond rfl ?_; (try simp only [gsplit_false])
  all_goals rfl

def doneB (x : Ins) : Bool := decide (x.op = 22) && (decide (x.reg = 0) && (decide (x.loc = 0) && (decide (x.e.length = 0) && (decide (x.f.length = 0) && (!x.ne && decide (x.to = 0))))))
set_option maxHeartbeats 4000000 in
theorem done07_ok (x : Ins) : Pure Tryz.prog 51 [.agg (insR x)] (bD (doneB x)) := by
  obtain ⟨op, reg, loc, e, f, ne, to⟩ := x
  have he : ((e.length : Int) == 0) = decide (e.length = 0) := by rw [Bool.eq_iff_iff]; simp
  have hf : ((f.length : Int) == 0) = decide (f.length = 0) := by rw [Bool.eq_iff_iff]; simp
  refine Fun.of T [.tmp 2] Tryz.func51 rfl Tryz.ntmps51 Tryz.results51 rfl (by kernel_rfl) ?_
  by_cases h1 : op = 22
  · have e1 : (op == 22) = true := by simpa using h1
    by_cases h2 : reg = 0
    · have e2 : (reg == 0) = true := by simpa using h2
      by_cases h3 : loc = 0
      · have e3 : (loc == 0) = true := by simpa using h3
        by_cases h4 : e.length = 0
        · have e4 : ((e.length : Int) == 0) = true := by rw [he]; simpa using h4
          by_cases h5 : f.length = 0
          · have e5 : ((f.length : Int) == 0) = true := by rw [hf]; simpa using h5
            cases ne with
            | false =>
              have hd : doneB ⟨op, reg, loc, e, f, false, to⟩ = (to == 0) := by simp only [doneB, h1, h2, h3, h4, h5]; rfl
              rw [hd]
              repeat' first | refine VCo.stepO rfl rfl (fun K hK => r_boxR rfl rfl rfl (hK _ _ ?_)); (try simp only [updO]) | (first | refine VCo.step T rfl rfl (fun K hK => ?_) | refine VCr.step T rfl (fun K hK => ?_)); (try simp (disch := omega) only [WB, argE, Nat.reduceBEq, T3, T4, T5, T9, T22, T23, T26, T27, T51, T53, T62, T65, T66, T68, T72, T78, T145, insR, e1, e2, e3, e4, e5, opRs_len, Bool.not_false]); (refine hK _ _ ?_; clear hK K) | refine VCo.gstep rfl rfl rfl rfl rfl ?_; try simp only [GB] | refine VC.region ?_ | refine VC.seq' ?_ | (first | refine VCo.nil ?_ | refine VC.ret ?_); (try simp only [QB]) | refine ret1 T (List.nil_sublist _) ?_; (try simp only [upd, Nat.reduceBEq, cond_true, cond_false, and_true])
            | true =>
              have hd : doneB ⟨op, reg, loc, e, f, true, to⟩ = false := by simp [doneB]
              rw [hd]
              repeat' first | refine VCo.stepO rfl rfl (fun K hK => r_boxR rfl rfl rfl (hK _ _ ?_)); (try simp only [updO]) | (first | refine VCo.step T rfl rfl (fun K hK => ?_) | refine VCr.step T rfl (fun K hK => ?_)); (try simp (disch := omega) only [WB, argE, Nat.reduceBEq, T3, T4, T5, T9, T22, T23, T26, T27, T51, T53, T62, T65, T66, T68, T72, T78, T145, insR, e1, e2, e3, e4, e5, opRs_len, Bool.not_true]); (refine hK _ _ ?_; clear hK K) | refine VCo.gstep rfl rfl rfl rfl rfl ?_; try simp only [GB] | refine VC.region ?_ | refine VC.seq' ?_ | (first | refine VCo.nil ?_ | refine VC.ret ?_); (try simp only [QB]) | refine ret1 T (List.nil_sublist _) ?_; (try simp only [upd, Nat.reduceBEq, cond_true, cond_false, and_true])
          · have e5 : ((f.length : Int) == 0) = false := by rw [hf]; simpa using h5
            have hd : doneB ⟨op, reg, loc, e, f, ne, to⟩ = false := by simp only [doneB, decide_eq_false h5]; simp
            rw [hd]
            repeat' first | refine VCo.stepO rfl rfl (fun K hK => r_boxR rfl rfl rfl (hK _ _ ?_)); (try simp only [updO]) | (first | refine VCo.step T rfl rfl (fun K hK => ?_) | refine VCr.step T rfl (fun K hK => ?_)); (try simp (disch := omega) only [WB, argE, Nat.reduceBEq, T3, T4, T5, T9, T22, T23, T26, T27, T51, T53, T62, T65, T66, T68, T72, T78, T145, insR, e1, e2, e3, e4, e5, opRs_len]); (refine hK _ _ ?_; clear hK K) | refine VCo.gstep rfl rfl rfl rfl rfl ?_; try simp only [GB] | refine VC.region ?_ | refine VC.seq' ?_ | (first | refine VCo.nil ?_ | refine VC.ret ?_); (try simp only [QB]) | refine ret1 T (List.nil_sublist _) ?_; (try simp only [upd, Nat.reduceBEq, cond_true, cond_false, and_true])
        · have e4 : ((e.length : Int) == 0) = false := by rw [he]; simpa using h4
          have hd : doneB ⟨op, reg, loc, e, f, ne, to⟩ = false := by simp only [doneB, decide_eq_false h4]; simp
          rw [hd]
          repeat' first | refine VCo.stepO rfl rfl (fun K hK => r_boxR rfl rfl rfl (hK _ _ ?_)); (try simp only [updO]) | (first | refine VCo.step T rfl rfl (fun K hK => ?_) | refine VCr.step T rfl (fun K hK => ?_)); (try simp (disch := omega) only [WB, argE, Nat.reduceBEq, T3, T4, T5, T9, T22, T23, T26, T27, T51, T53, T62, T65, T66, T68, T72, T78, T145, insR, e1, e2, e3, e4, opRs_len]); (refine hK _ _ ?_; clear hK K) | refine VCo.gstep rfl rfl rfl rfl rfl ?_; try simp only [GB] | refine VC.region ?_ | refine VC.seq' ?_ | (first | refine VCo.nil ?_ | refine VC.ret ?_); (try simp only [QB]) | refine ret1 T (List.nil_sublist _) ?_; (try simp only [upd, Nat.reduceBEq, cond_true, cond_false, and_true])
      · have e3 : (loc == 0) = false := by simpa using h3
        have hd : doneB ⟨op, reg, loc, e, f, ne, to⟩ = false := by simp only [doneB, decide_eq_false h3]; simp
        rw [hd]
        repeat' first | refine VCo.stepO rfl rfl (fun K hK => r_boxR rfl rfl rfl (hK _ _ ?_)); (try simp only [updO]) | (first | refine VCo.step T rfl rfl (fun K hK => ?_) | refine VCr.step T rfl (fun K hK => ?_)); (try simp (disch := omega) only [WB, argE, Nat.reduceBEq, T3, T4, T5, T9, T22, T23, T26, T27, T51, T53, T62, T65, T66, T68, T72, T78, T145, insR, e1, e2, e3]); (refine hK _ _ ?_; clear hK K) | refine VCo.gstep rfl rfl rfl rfl rfl ?_; try simp only [GB] | refine VC.region ?_ | refine VC.seq' ?_ | (first | refine VCo.nil ?_ | refine VC.ret ?_); (try simp only [QB]) | refine ret1 T (List.nil_sublist _) ?_; (try simp only [upd, Nat.reduceBEq, cond_true, cond_false, and_true])
    · have e2 : (reg == 0) = false := by simpa using h2
      have hd : doneB ⟨op, reg, loc, e, f, ne, to⟩ = false := by simp only [doneB, decide_eq_false h2]; simp
      rw [hd]
      repeat' first | refine VCo.stepO rfl rfl (fun K hK => r_boxR rfl rfl rfl (hK _ _ ?_)); (try simp only [updO]) | (first | refine VCo.step T rfl rfl (fun K hK => ?_) | refine VCr.step T rfl (fun K hK => ?_)); (try simp (disch := omega) only [WB, argE, Nat.reduceBEq, T3, T4, T5, T9, T22, T23, T26, T27, T51, T53, T62, T65, T66, T68, T72, T78, T145, insR, e1, e2]); (refine hK _ _ ?_; clear hK K) | refine VCo.gstep rfl rfl rfl rfl rfl ?_; try simp only [GB] | refine VC.region ?_ | refine VC.seq' ?_ | (first | refine VCo.nil ?_ | refine VC.ret ?_); (try simp only [QB]) | refine ret1 T (List.nil_sublist _) ?_; (try simp only [upd, Nat.reduceBEq, cond_true, cond_false, and_true])
  · have e1 : (op == 22) = false := by simpa using h1
    have hd : doneB ⟨op, reg, loc, e, f, ne, to⟩ = false := by simp only [doneB, decide_eq_false h1]; simp
    rw [hd]
    repeat' first | refine VCo.stepO rfl rfl (fun K hK => r_boxR rfl rfl rfl (hK _ _ ?_)); (try simp only [updO]) | (refine VCo.step T rfl rfl (fun K hK => ?_)); (try simp (disch := omega) only [WB, argE, Nat.reduceBEq, T3, T4, T5, T9, T22, T23, T26, T27, T51, T53, T62, T65, T66, T68, T72, T78, T145, insR, e1]); (refine hK _ _ ?_; clear hK K) | refine VCo.gstep rfl rfl rfl rfl rfl ?_; try simp only [GB] | refine VC.region ?_ | refine VC.seq' ?_ | (first | refine VCo.nil ?_ | refine VC.ret ?_); (try simp only [QB]) | refine ret1 T (List.nil_sublist _) ?_; (try simp only [upd, Nat.reduceBEq, cond_true, cond_false, and_true])
end Go.Proofs.YtlnmljmeahknaaaGreat
