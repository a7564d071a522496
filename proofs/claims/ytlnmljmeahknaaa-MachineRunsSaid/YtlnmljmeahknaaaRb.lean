/- Contracts: what an instruction has, whether it fits. No condition. -/
import Derived.Test.YtlnmljmeahknaaaYl
import Derived.Test.YtlnmljmeahknaaaYb
import Derived.Test.YtlnmljmeahknaaaXm
import Derived.Test.YtlnmljmeahknaaaYi
namespace Go.Proofs.Ytlnmljmeahknaaa
set_option linter.unusedSimpArgs false
set_option linter.unusedVariables false
set_option maxRecDepth 20000
open Go Go.Proofs Go.Vc

theorem place_ok (has : Bool) (n m : Int) : Pure Try.prog 133 [bD has, iD n, iD m] (bD (placeB has n m)) := by
  refine Fun.of T [.tmp 6] Try.func133 rfl Try.ntmps133 Try.results133 rfl (by kernel_rfl) ?_
  cases has with
  | true =>
    by_cases h1 : n ≥ 0
    · have e1 : decide (n ≥ 0) = true := by simpa using h1
      by_cases h2 : n < m
      · have e2 : decide (n < m) = true := by simpa using h2
        rw [show placeB true n m = true by simp [placeB, inB, h1, h2]]
        repeat' first | (first | refine VCo.step T rfl rfl (fun K hK => ?_) | refine VCr.step T rfl (fun K hK => ?_)); (try simp (disch := omega) only [WB, argE, Nat.reduceBEq, Nat.reduceAdd, T3, e1, e2]); (refine hK _ _ ?_; clear hK K) | refine VCo.gstep rfl rfl rfl rfl rfl ?_; try simp only [GB] | refine VCo.gundef rfl rfl rfl rfl rfl ?_; try simp only [updO] | refine VC.region ?_ | refine VC.seq' ?_ | (first | refine VCo.nil ?_ | refine VC.ret ?_); (try simp only [QB]) | refine ret1 T (List.nil_sublist _) ?_; (try simp only [upd, Nat.reduceBEq, cond_true, cond_false, and_true])
      · have e2 : decide (n < m) = false := by simpa using h2
        rw [show placeB true n m = false by simp [placeB, inB, h2]]
        repeat' first | (first | refine VCo.step T rfl rfl (fun K hK => ?_) | refine VCr.step T rfl (fun K hK => ?_)); (try simp (disch := omega) only [WB, argE, Nat.reduceBEq, Nat.reduceAdd, T3, e1, e2, Bool.not_true]); (refine hK _ _ ?_; clear hK K) | refine VCo.gstep rfl rfl rfl rfl rfl ?_; try simp only [GB] | refine VC.region ?_ | refine VC.seq' ?_ | (first | refine VCo.nil ?_ | refine VC.ret ?_); (try simp only [QB]) | refine ret1 T (List.nil_sublist _) ?_; (try simp only [upd, Nat.reduceBEq, cond_true, cond_false, and_true])
    · have e1 : decide (n ≥ 0) = false := by simpa using h1
      rw [show placeB true n m = false by simp [placeB, inB, h1]]
      repeat' first | (first | refine VCo.step T rfl rfl (fun K hK => ?_) | refine VCr.step T rfl (fun K hK => ?_)); (try simp (disch := omega) only [WB, argE, Nat.reduceBEq, Nat.reduceAdd, T3, e1, Bool.not_true]); (refine hK _ _ ?_; clear hK K) | refine VCo.gstep rfl rfl rfl rfl rfl ?_; try simp only [GB] | refine VC.region ?_ | refine VC.seq' ?_ | (first | refine VCo.nil ?_ | refine VC.ret ?_); (try simp only [QB]) | refine ret1 T (List.nil_sublist _) ?_; (try simp only [upd, Nat.reduceBEq, cond_true, cond_false, and_true])
  | false =>
    rw [show placeB false n m = (n == 0) from rfl]
    repeat' first | (first | refine VCo.step T rfl rfl (fun K hK => ?_) | refine VCr.step T rfl (fun K hK => ?_)); (try simp (disch := omega) only [WB, argE, Nat.reduceBEq, Nat.reduceAdd, T3, Bool.not_false]); (refine hK _ _ ?_; clear hK K) | refine VCo.gstep rfl rfl rfl rfl rfl ?_; try simp only [GB] | refine VC.region ?_ | refine VC.seq' ?_ | (first | refine VCo.nil ?_ | refine VC.ret ?_); (try simp only [QB]) | refine ret1 T (List.nil_sublist _) ?_; (try simp only [upd, Nat.reduceBEq, cond_true, cond_false, and_true])

/-- What an instruction has, as a value. -/
abbrev ndL (d : Nd) : List D := [bD d.r, bD d.l, bD d.e, bD d.f, bD d.n, bD d.t]
abbrev nd0 : Nd := ⟨false, false, false, false, false, false⟩
abbrev ndV (d : Nd) : Value := .agg #[.bool d.r, .bool d.l, .bool d.e, .bool d.f, .bool d.n, .bool d.t]
def ndR (o : Option Nd) : D := .tup [.agg (ndL (o.getD nd0)), bD o.isSome]
def tabN : List (Int × Value) := [(2, ndV ⟨true, false, true, false, false, false⟩), (3, ndV ⟨true, true, false, false, false, false⟩), (4, ndV ⟨false, true, true, false, false, false⟩), (5, ndV ⟨true, true, true, true, false, false⟩), (6, ndV ⟨true, true, true, false, false, false⟩), (7, ndV ⟨true, true, true, false, false, false⟩), (8, ndV nd0), (9, ndV ⟨false, true, true, false, true, false⟩), (20, ndV ⟨false, false, false, false, false, true⟩), (21, ndV ⟨false, false, true, false, false, true⟩)]
theorem tabN_find (op : Int) : findI op tabN = (ndF op).map ndV := by
  unfold tabN ndF
  by_cases h2 : op = 2
  · subst h2; rfl
  by_cases h3 : op = 3
  · subst h3; rfl
  by_cases h4 : op = 4
  · subst h4; rfl
  by_cases h5 : op = 5
  · subst h5; rfl
  by_cases h6 : op = 6
  · subst h6; rfl
  by_cases h7 : op = 7
  · subst h7; rfl
  by_cases h8 : op = 8
  · subst h8; rfl
  by_cases h9 : op = 9
  · subst h9; rfl
  by_cases h20 : op = 20
  · subst h20; rfl
  by_cases h21 : op = 21
  · subst h21; rfl
  simp only [findI, h2, h3, h4, h5, h6, h7, h8, h9, h20, h21, if_false, beq_eq_false_iff_ne.2 h2, beq_eq_false_iff_ne.2 h3, beq_eq_false_iff_ne.2 h4, beq_eq_false_iff_ne.2 h5, beq_eq_false_iff_ne.2 h6, beq_eq_false_iff_ne.2 h7, beq_eq_false_iff_ne.2 h8, beq_eq_false_iff_ne.2 h9, beq_eq_false_iff_ne.2 h20, beq_eq_false_iff_ne.2 h21, cond_false]
  rfl
theorem umN : Try.prog.underlying 146 = some (.map 3 141) := by kernel_rfl
theorem zN : (Try.prog.info? 141).bind (·.zero) = some (ndV nd0) := by kernel_rfl
theorem ndV_one (d : Nd) : ∀ cs, ndV d = .agg cs → cs.toList.all Value.oneCell' = true := fun cs h => by cases h; rfl
set_option maxHeartbeats 8000000 in
theorem of07_ok (op : Int) : Pure Try.prog 131 [iD op] (ndR (ndF op)) := by
  refine Fun.of T [.cell 2 141, .tmp 3] Try.func131 rfl Try.ntmps131 Try.results131 rfl (by kernel_rfl) ?_
  repeat' first | refine VCo.stepO rfl rfl (fun K hK => ?_); refine r_makeMap rfl umN (fun x hx => (by cases hx)) (fun bq hbq => ?_); (try simp only [HB] at hbq); refine hK _ _ ?_; clear hK K; (try simp only [updO]) | refine VCo.stepO rfl rfl (fun K hK => ?_); refine r_mapSet (.inr rfl) umN Try.underlying3 rfl rfl rfl (by (try simp (disch := omega) only [hget_eq]); rfl) (by rfl) ?_; refine hK _ _ ?_; clear hK K; (try simp (disch := omega) only [updO, hset_eq, List.nil_append, List.cons_append]) | refine VCo.step T rfl rfl (fun K hK => ?_); (try simp (disch := omega) only [WB, argE, fillD, setL, Nat.reduceBEq, Nat.reduceAdd, T141]); (first | refine hK _ _ ?_; clear hK K | intro bq hbq; (try simp only [HB] at hbq); refine hK _ _ ?_; clear hK K | skip) | refine VC.region ?_ | refine VC.seq' ?_ | (refine VCo.nil ?_); (try simp only [QB])
  refine r_lookI rfl umN Try.underlying3 zN rfl rfl hget_eq (r := (ndV ((ndF op).getD nd0), (ndF op).isSome)) (show (match findI op tabN with | some v => (v, true) | none => (ndV nd0, false)) = _ by rw [tabN_find]; cases ndF op <;> rfl) (ndV_one _) ?_
  refine hK _ _ ?_
  clear hK K
  try simp only [updO]
  repeat' first | refine VCo.step T rfl rfl (fun K hK => ?_); (try simp (disch := omega) only [WB, setL, Nat.reduceBEq, Nat.reduceAdd, Nat.reduceLeDiff, T141, valD]); (first | refine hK _ _ ?_; clear hK K | intro bq hbq; (try simp only [HB] at hbq); refine hK _ _ ?_; clear hK K) | refine VC.region ?_ | refine VC.seq' ?_ | (first | refine VCo.nil ?_ | refine VC.ret ?_); (try simp only [QB]) | refine retc1 T rfl (by (simp (disch := omega) only [hget_ne, hget_eq]) <;> rfl) rfl rfl rfl (List.nil_sublist _) ?_; (try simp only [upd, Nat.reduceBEq, cond_true, cond_false, and_true])
  rfl

/-- A row's own check: what is had is right, and what is not is none. -/
theorem row_ok (has : Bool) (l : List Opc) (hl : l.length ≤ 1000) (n : Int) (b : Nat) : Fun Try.prog 132 [bD has, opsD l, pD b] [(b, .cells 3 1 [iD n])] false (fun d H' => d = bD (codeN has l n) ∧ H' = [(b, .cells 3 1 [iD n])]) := by
  have c1 : Pure Try.prog 115 [opsD l, .gs none 0, iD n, iD 0] (bD (codeB l [] n 0)) := Fun.argsW (right_ok l hl [] (by simp) n 0) (fz_cons (Fz.refl _ _) (fz_cons fz_nil (FzL.refl _ _)))
  have he : ((l.length : Int) == 0) = decide (l.length = 0) := by rw [Bool.eq_iff_iff]; simp
  refine Fun.of T [.tmp 5] Try.func132 rfl Try.ntmps132 Try.results132 rfl (by kernel_rfl) ?_
  cases has with
  | true =>
    rw [show codeN true l n = codeB l [] n 0 from rfl]
    cases hc : codeB l [] n 0 with
    | true =>
      rw [hc] at c1
      repeat' first | (first | refine VCo.step T rfl rfl (fun K hK => ?_) | refine VCr.step T rfl (fun K hK => ?_)); (try simp (disch := omega) only [WB, argE, Nat.reduceBEq, Nat.reduceAdd, T3]); (first | refine hK _ _ ?_; clear hK K | refine Op1.callp rfl rfl (c1) rfl ?_; refine hK _ _ ?_; clear hK K) | refine VCo.gstep rfl rfl rfl rfl rfl ?_; try simp only [GB] | refine VCo.gundef rfl rfl rfl rfl rfl ?_; try simp only [updO] | refine VC.region ?_ | refine VC.seq' ?_ | (first | refine VCo.nil ?_ | refine VC.ret ?_); (try simp only [QB])
      exact ret1 T (List.Sublist.refl _) ⟨rfl, rfl⟩
    | false =>
      rw [hc] at c1
      repeat' first | (first | refine VCo.step T rfl rfl (fun K hK => ?_) | refine VCr.step T rfl (fun K hK => ?_)); (try simp (disch := omega) only [WB, argE, Nat.reduceBEq, Nat.reduceAdd, T3, Bool.not_true]); (first | refine hK _ _ ?_; clear hK K | refine Op1.callp rfl rfl (c1) rfl ?_; refine hK _ _ ?_; clear hK K) | refine VCo.gstep rfl rfl rfl rfl rfl ?_; try simp only [GB] | refine VC.region ?_ | refine VC.seq' ?_ | (first | refine VCo.nil ?_ | refine VC.ret ?_); (try simp only [QB])
      exact ret1 T (List.Sublist.refl _) ⟨rfl, rfl⟩
  | false =>
    rw [show codeN false l n = decide (l.length = 0) from rfl]
    repeat' first | (first | refine VCo.step T rfl rfl (fun K hK => ?_) | refine VCr.step T rfl (fun K hK => ?_)); (try simp (disch := omega) only [WB, argE, Nat.reduceBEq, Nat.reduceAdd, T3, T60, he, opRs_len, Bool.not_false]); (refine hK _ _ ?_; clear hK K) | refine VCo.gstep rfl rfl rfl rfl rfl ?_; try simp only [GB] | refine VC.region ?_ | refine VC.seq' ?_ | (first | refine VCo.nil ?_ | refine VC.ret ?_); (try simp only [QB])
    exact ret1 T (List.Sublist.refl _) ⟨rfl, rfl⟩
end Go.Proofs.Ytlnmljmeahknaaa
/- Contracts: the program's check of an instruction, a row, a unit. No condition. -/
namespace Go.Proofs.Ytlnmljmeahknaaa
set_option linter.unusedSimpArgs false
set_option linter.unusedVariables false
set_option maxRecDepth 20000
open Go Go.Proofs Go.Vc

set_option maxHeartbeats 4000000 in
theorem doneL_ok (x : Ins) (he : x.e.length ≤ 1000) (hf : x.f.length ≤ 1000) : Pure Try.prog 117 [.agg (insR x)] (bD (doneB x)) := by
  obtain ⟨op, reg, loc, e, f, ne, to⟩ := x
  dsimp only at he hf
  have hw : IntKind.i64.wrap ((e.length : Int) + (f.length : Int)) = ((e.length + f.length : Nat) : Int) := by rw [w64 (by omega)]; omega
  have hD : doneB ⟨op, reg, loc, e, f, ne, to⟩ = ((op == 22) && ((reg == 0) && ((loc == 0) && ((to == 0) && ((!ne) && (((e.length + f.length : Nat) : Int) == 0)))))) := by
    have h0 : (((e.length + f.length : Nat) : Int) == 0) = (decide (e.length = 0) && decide (f.length = 0)) := by
      rw [Bool.eq_iff_iff]; simp only [beq_iff_eq, Bool.and_eq_true, decide_eq_true_eq]; omega
    rw [Bool.eq_iff_iff]
    simp only [doneB, h0, Bool.and_eq_true, decide_eq_true_eq, beq_iff_eq]
    constructor
    · rintro ⟨a, b, c, d, e, f, g⟩; exact ⟨a, b, c, g, f, d, e⟩
    · rintro ⟨a, b, c, g, f, d, e⟩; exact ⟨a, b, c, d, e, f, g⟩
  refine Fun.of T [.tmp 2] Try.func117 rfl Try.ntmps117 Try.results117 rfl (by kernel_rfl) ?_
  rw [hD]
  cases h1 : op == 22 with
  | false =>
    repeat' first | refine VCo.stepO rfl rfl (fun K hK => r_boxR rfl rfl rfl (hK _ _ ?_)); (try simp only [updO]) | (refine VCo.step T rfl rfl (fun K hK => ?_)); (try simp (disch := omega) only [WB, argE, Nat.reduceBEq, T3, T62, insR, h1]); (refine hK _ _ ?_; clear hK K) | refine VCo.gstep rfl rfl rfl rfl rfl ?_; try simp only [GB] | refine VC.region ?_ | refine VC.seq' ?_ | (first | refine VCo.nil ?_ | refine VC.ret ?_); (try simp only [QB]) | refine ret1 T (List.nil_sublist _) ?_; (try simp only [upd, Nat.reduceBEq, cond_true, cond_false, and_true])
    all_goals rfl
  | true =>
  cases h2 : reg == 0 with
  | false =>
    repeat' first | refine VCo.stepO rfl rfl (fun K hK => r_boxR rfl rfl rfl (hK _ _ ?_)); (try simp only [updO]) | (first | refine VCo.step T rfl rfl (fun K hK => ?_) | refine VCr.step T rfl (fun K hK => ?_)); (try simp (disch := omega) only [WB, argE, Nat.reduceBEq, T3, T62, insR, h1, h2]); (refine hK _ _ ?_; clear hK K) | refine VCo.gstep rfl rfl rfl rfl rfl ?_; try simp only [GB] | refine VC.region ?_ | refine VC.seq' ?_ | (first | refine VCo.nil ?_ | refine VC.ret ?_); (try simp only [QB]) | refine ret1 T (List.nil_sublist _) ?_; (try simp only [upd, Nat.reduceBEq, cond_true, cond_false, and_true])
    all_goals rfl
  | true =>
  cases h3 : loc == 0 with
  | false =>
    repeat' first | refine VCo.stepO rfl rfl (fun K hK => r_boxR rfl rfl rfl (hK _ _ ?_)); (try simp only [updO]) | (first | refine VCo.step T rfl rfl (fun K hK => ?_) | refine VCr.step T rfl (fun K hK => ?_)); (try simp (disch := omega) only [WB, argE, Nat.reduceBEq, T3, T62, insR, h1, h2, h3]); (refine hK _ _ ?_; clear hK K) | refine VCo.gstep rfl rfl rfl rfl rfl ?_; try simp only [GB] | refine VC.region ?_ | refine VC.seq' ?_ | (first | refine VCo.nil ?_ | refine VC.ret ?_); (try simp only [QB]) | refine ret1 T (List.nil_sublist _) ?_; (try simp only [upd, Nat.reduceBEq, cond_true, cond_false, and_true])
    all_goals rfl
  | true =>
  cases h4 : to == 0 with
  | false =>
    repeat' first | refine VCo.stepO rfl rfl (fun K hK => r_boxR rfl rfl rfl (hK _ _ ?_)); (try simp only [updO]) | (first | refine VCo.step T rfl rfl (fun K hK => ?_) | refine VCr.step T rfl (fun K hK => ?_)); (try simp (disch := omega) only [WB, argE, Nat.reduceBEq, T3, T62, insR, h1, h2, h3, h4]); (refine hK _ _ ?_; clear hK K) | refine VCo.gstep rfl rfl rfl rfl rfl ?_; try simp only [GB] | refine VC.region ?_ | refine VC.seq' ?_ | (first | refine VCo.nil ?_ | refine VC.ret ?_); (try simp only [QB]) | refine ret1 T (List.nil_sublist _) ?_; (try simp only [upd, Nat.reduceBEq, cond_true, cond_false, and_true])
    all_goals rfl
  | true =>
  cases ne with
  | true =>
    repeat' first | refine VCo.stepO rfl rfl (fun K hK => r_boxR rfl rfl rfl (hK _ _ ?_)); (try simp only [updO]) | (first | refine VCo.step T rfl rfl (fun K hK => ?_) | refine VCr.step T rfl (fun K hK => ?_)); (try simp (disch := omega) only [WB, argE, Nat.reduceBEq, T3, T4, T62, insR, h1, h2, h3, h4, Bool.not_true]); (refine hK _ _ ?_; clear hK K) | refine VCo.gstep rfl rfl rfl rfl rfl ?_; try simp only [GB] | refine VC.region ?_ | refine VC.seq' ?_ | (first | refine VCo.nil ?_ | refine VC.ret ?_); (try simp only [QB]) | refine ret1 T (List.nil_sublist _) ?_; (try simp only [upd, Nat.reduceBEq, cond_true, cond_false, and_true])
    all_goals rfl
  | false =>
    repeat' first | refine VCo.stepO rfl rfl (fun K hK => r_boxR rfl rfl rfl (hK _ _ ?_)); (try simp only [updO]) | (first | refine VCo.step T rfl rfl (fun K hK => ?_) | refine VCr.step T rfl (fun K hK => ?_)); (try simp (disch := omega) only [WB, argE, Nat.reduceBEq, T3, T4, T60, T62, insR, h1, h2, h3, h4, hw, opRs_len, Bool.not_false]); (refine hK _ _ ?_; clear hK K) | refine VCo.gstep rfl rfl rfl rfl rfl ?_; try simp only [GB] | refine VC.region ?_ | refine VC.seq' ?_ | (first | refine VCo.nil ?_ | refine VC.ret ?_); (try simp only [QB]) | refine ret1 T (List.nil_sublist _) ?_; (try simp only [upd, Nat.reduceBEq, cond_true, cond_false, and_true])
    all_goals rfl
theorem one_at {x : Ins} {d : Nd} (h : ndF x.op = some d) (regs locs many : Int) : oneB x regs locs many = (((!x.ne) || d.n) && (placeB d.r x.reg regs && (placeB d.l x.loc locs && (placeB d.t x.to many && (codeN d.e x.e regs && codeN d.f x.f regs))))) := by
  unfold oneB
  rw [h]
  simp only []
  cases x.ne <;> cases d.n <;> cases placeB d.r x.reg regs <;> cases placeB d.l x.loc locs <;> cases placeB d.t x.to many <;> cases codeN d.e x.e regs <;> cases codeN d.f x.f regs <;> rfl
set_option maxHeartbeats 16000000 in
theorem fits_ok (x : Ins) (he : x.e.length ≤ 1000) (hf : x.f.length ≤ 1000) (regs locs many : Int) : Pure Try.prog 118 [.agg (insR x), iD regs, iD locs, iD many] (bD (oneB x regs locs many)) := by
  have c0 := of07_ok x.op
  refine Fun.of T [.tmp 8] Try.func118 rfl Try.ntmps118 Try.results118 rfl (by kernel_rfl) ?_
  cases hN : ndF x.op with
  | none =>
    have c0' : Pure Try.prog 131 [iD x.op] (.tup [.agg [bD false, bD false, bD false, bD false, bD false, bD false], bD false]) := by rw [hN] at c0; exact c0
    rw [show oneB x regs locs many = false by simp [oneB, hN]]
    repeat' first | refine VCo.stepO rfl rfl (fun K hK => r_boxR (t := 62) rfl rfl rfl (hK _ _ ?_)); (try simp only [updO]) | (refine VCo.step T rfl rfl (fun K hK => ?_)); (try simp (disch := omega) only [WB, argE, setL, Nat.reduceBEq, Nat.reduceAdd, Nat.reduceLeDiff, T3, T62, T141, insR, Bool.not_false]); (first | refine hK _ _ ?_; clear hK K | intro bq hbq; (try simp only [HB] at hbq); refine hK _ _ ?_; clear hK K | refine Op1.callp rfl rfl (c0') rfl ?_; refine hK _ _ ?_; clear hK K) | refine VCo.gstep rfl rfl rfl rfl rfl ?_; try simp only [GB] | refine VCo.gundef rfl rfl rfl rfl rfl ?_; try simp only [updO] | refine VC.region ?_ | refine VC.seq' ?_ | (first | refine VCo.nil ?_ | refine VC.ret ?_); (try simp only [QB]) | refine ret1 T (List.nil_sublist _) ?_; (try simp only [upd, Nat.reduceBEq, cond_true, cond_false, and_true]) | refine VC.cond rfl ?_; (try simp only [gsplit_true])
  | some d =>
  have c0' : Pure Try.prog 131 [iD x.op] (.tup [.agg [bD d.r, bD d.l, bD d.e, bD d.f, bD d.n, bD d.t], bD true]) := by rw [hN] at c0; exact c0
  rw [one_at hN]
  obtain ⟨dr, dl, de, df, dn, dt⟩ := d
  dsimp only at c0' ⊢
  have c1 := place_ok dr x.reg regs
  have c2 := place_ok dl x.loc locs
  have c3 := place_ok dt x.to many
  cases hne : ((!x.ne) || dn) with
  | false =>
    obtain ⟨h1, h2⟩ : x.ne = true ∧ dn = false := by cases hx : x.ne <;> cases dn <;> simp_all
    subst h2
    repeat' first | refine VCo.stepO rfl rfl (fun K hK => r_boxR (t := 62) rfl rfl rfl (hK _ _ ?_)); (try simp only [updO]) | (first | refine VCo.step T rfl rfl (fun K hK => ?_) | refine VCr.step T rfl (fun K hK => ?_)); (try simp (disch := omega) only [WB, argE, setL, Nat.reduceBEq, Nat.reduceAdd, Nat.reduceLeDiff, T3, T4, T62, T141, insR, h1, Bool.not_true, Bool.not_false]); (first | refine hK _ _ ?_; clear hK K | intro bq hbq; (try simp only [HB] at hbq); refine hK _ _ ?_; clear hK K | refine Op1.callp rfl rfl (c0') rfl ?_; refine hK _ _ ?_; clear hK K) | refine VCo.gstep rfl rfl rfl rfl rfl ?_; try simp only [GB] | refine VC.region ?_ | refine VC.seq' ?_ | (first | refine VCo.nil ?_ | refine VC.ret ?_); (try simp only [QB]) | refine ret1 T (List.nil_sublist _) ?_; (try simp only [upd, Nat.reduceBEq, cond_true, cond_false, and_true]) | refine VC.cond rfl ?_; (try simp only [gsplit_true])
    all_goals rfl
  | true =>
  have hpre : x.ne = false ∨ (x.ne = true ∧ dn = true) := by cases hx : x.ne <;> cases dn <;> simp_all
  rcases hpre with h1 | ⟨h1, h2⟩
  case' inl =>
    repeat' first | refine VCo.stepO rfl rfl (fun K hK => r_boxR (t := 62) rfl rfl rfl (hK _ _ ?_)); (try simp only [updO]) | (first | refine VCo.step T rfl rfl (fun K hK => ?_) | refine VCr.step T rfl (fun K hK => ?_)); (try simp (disch := omega) only [WB, argE, setL, Nat.reduceBEq, Nat.reduceAdd, Nat.reduceLeDiff, T3, T4, T62, T141, insR, h1, Bool.not_true]); (first | refine hK _ _ ?_; clear hK K | intro bq hbq; (try simp only [HB] at hbq); refine hK _ _ ?_; clear hK K | refine Op1.callp rfl rfl (c0') rfl ?_; refine hK _ _ ?_; clear hK K | skip) | refine VCo.gstep rfl rfl rfl rfl rfl ?_; try simp only [GB] | refine VC.region ?_ | refine VC.seq' ?_ | (first | refine VCo.nil ?_ | refine VC.skip ?_); (try simp only [QB]) | refine VC.cond rfl ?_; (try simp only [gsplit_false])
  case' inr =>
    repeat' first | refine VCo.stepO rfl rfl (fun K hK => r_boxR (t := 62) rfl rfl rfl (hK _ _ ?_)); (try simp only [updO]) | (first | refine VCo.step T rfl rfl (fun K hK => ?_) | refine VCr.step T rfl (fun K hK => ?_)); (try simp (disch := omega) only [WB, argE, setL, Nat.reduceBEq, Nat.reduceAdd, Nat.reduceLeDiff, T3, T4, T62, T141, insR, h1, h2, Bool.not_true]); (first | refine hK _ _ ?_; clear hK K | intro bq hbq; (try simp only [HB] at hbq); refine hK _ _ ?_; clear hK K | refine Op1.callp rfl rfl (c0') rfl ?_; refine hK _ _ ?_; clear hK K | skip) | refine VCo.gstep rfl rfl rfl rfl rfl ?_; try simp only [GB] | refine VC.region ?_ | refine VC.seq' ?_ | (first | refine VCo.nil ?_ | refine VC.skip ?_); (try simp only [QB]) | refine VC.cond rfl ?_; (try simp only [gsplit_false])
  all_goals
    rename_i b5 hb5
    have n1 : ¬ bq = b5 := hbq
    refine r_mkFunc (us := [.pointer (some ⟨b5, 0, none⟩)]) rfl rfl ?_
    refine hK _ _ ?_
    clear hK K
    try simp only [updO]
    cases hp1 : placeB dr x.reg regs with
    | false =>
      rw [hp1] at c1
      repeat' first | (refine VCo.step T rfl rfl (fun K hK => ?_)); (try simp (disch := omega) only [WB, Nat.reduceBEq, T3, T4, T62, T141]); (first | refine hK _ _ ?_; clear hK K | refine Op1.callp rfl rfl (c1) rfl ?_; refine hK _ _ ?_; clear hK K) | refine VCo.gstep rfl rfl rfl rfl rfl ?_; try simp only [GB] | refine VC.region ?_ | refine VC.seq' ?_ | (first | refine VCo.nil ?_ | refine VC.ret ?_); (try simp only [QB]) | refine ret1 T (List.nil_sublist _) ?_; (try simp only [upd, Nat.reduceBEq, cond_true, cond_false, and_true])
      all_goals rfl
    | true =>
    rw [hp1] at c1
    cases hp2 : placeB dl x.loc locs with
    | false =>
      rw [hp2] at c2
      repeat' first | (first | refine VCo.step T rfl rfl (fun K hK => ?_) | refine VCr.step T rfl (fun K hK => ?_)); (try simp (disch := omega) only [WB, Nat.reduceBEq, T3, T4, T62, T141]); (first | refine hK _ _ ?_; clear hK K | refine Op1.callp rfl rfl (c1) rfl ?_; refine hK _ _ ?_; clear hK K | refine Op1.callp rfl rfl (c2) rfl ?_; refine hK _ _ ?_; clear hK K) | refine VCo.gstep rfl rfl rfl rfl rfl ?_; try simp only [GB] | refine VC.region ?_ | refine VC.seq' ?_ | (first | refine VCo.nil ?_ | refine VC.ret ?_); (try simp only [QB]) | refine ret1 T (List.nil_sublist _) ?_; (try simp only [upd, Nat.reduceBEq, cond_true, cond_false, and_true])
      all_goals rfl
    | true =>
    rw [hp2] at c2
    cases hp3 : placeB dt x.to many with
    | false =>
      rw [hp3] at c3
      repeat' first | (first | refine VCo.step T rfl rfl (fun K hK => ?_) | refine VCr.step T rfl (fun K hK => ?_)); (try simp (disch := omega) only [WB, Nat.reduceBEq, T3, T4, T62, T141]); (first | refine hK _ _ ?_; clear hK K | refine Op1.callp rfl rfl (c1) rfl ?_; refine hK _ _ ?_; clear hK K | refine Op1.callp rfl rfl (c2) rfl ?_; refine hK _ _ ?_; clear hK K | refine Op1.callp rfl rfl (c3) rfl ?_; refine hK _ _ ?_; clear hK K) | refine VCo.gstep rfl rfl rfl rfl rfl ?_; try simp only [GB] | refine VC.region ?_ | refine VC.seq' ?_ | (first | refine VCo.nil ?_ | refine VC.ret ?_); (try simp only [QB]) | refine ret1 T (List.nil_sublist _) ?_; (try simp only [upd, Nat.reduceBEq, cond_true, cond_false, and_true])
      all_goals rfl
    | true =>
    rw [hp3] at c3
    repeat' first | (first | refine VCo.step T rfl rfl (fun K hK => ?_) | refine VCr.step T rfl (fun K hK => ?_)); (try simp (disch := omega) only [WB, Nat.reduceBEq, T3, T4, T60, T62, T141]); (first | refine hK _ _ ?_; clear hK K | refine Op1.callp rfl rfl (c1) rfl ?_; refine hK _ _ ?_; clear hK K | refine Op1.callp rfl rfl (c2) rfl ?_; refine hK _ _ ?_; clear hK K | refine Op1.callp rfl rfl (c3) rfl ?_; refine hK _ _ ?_; clear hK K | skip) | refine VCo.gstep rfl rfl rfl rfl rfl ?_; try simp only [GB] | refine VC.region ?_ | refine VC.seq' ?_ | (refine VCo.nil ?_); (try simp only [QB])
    refine Op1.callG (Hp := [(b5, .cells 3 1 [iD regs])]) (Hr := [(bq, .cells 141 6 [bD dr, bD dl, bD de, bD df, _, bD dt])]) rfl rfl rfl (row_ok de x.e he regs b5) (List.Perm.swap _ _ []) (fun d' H' hd' => ?_)
    obtain ⟨rfl, rfl⟩ := hd'
    refine hK _ _ ?_
    clear hK K
    try simp only [updO, List.cons_append, List.nil_append]
    cases hc4 : codeN de x.e regs with
    | false =>
      repeat' first | (refine VCo.step T rfl rfl (fun K hK => ?_)); (try simp (disch := omega) only [WB, Nat.reduceBEq]); (refine hK _ _ ?_; clear hK K) | refine VCo.gstep rfl rfl rfl rfl rfl ?_; try simp only [GB] | (first | refine VCo.nil ?_ | refine VC.ret ?_); (try simp only [QB]) | refine ret1 T (List.nil_sublist _) ?_; (try simp only [upd, Nat.reduceBEq, cond_true, cond_false, and_true])
      all_goals rfl
    | true =>
    repeat' first | (first | refine VCo.step T rfl rfl (fun K hK => ?_) | refine VCr.step T rfl (fun K hK => ?_)); (try simp (disch := omega) only [WB, Nat.reduceBEq, T4, T60, T62, T141]); (first | refine hK _ _ ?_; clear hK K | skip) | refine VCo.gstep rfl rfl rfl rfl rfl ?_; try simp only [GB]
    refine Op1.callG (Hp := [(b5, .cells 3 1 [iD regs])]) (Hr := [(bq, .cells 141 6 [bD dr, bD dl, bD de, bD df, _, bD dt])]) rfl rfl rfl (row_ok df x.f hf regs b5) (List.Perm.refl _) (fun d' H' hd' => ?_)
    obtain ⟨rfl, rfl⟩ := hd'
    refine hK _ _ ?_
    clear hK K
    try simp only [updO, List.cons_append, List.nil_append]
    repeat' first | (refine VCo.step T rfl rfl (fun K hK => ?_)); (try simp (disch := omega) only [WB, Nat.reduceBEq]); (refine hK _ _ ?_; clear hK K) | (first | refine VCo.nil ?_ | refine VC.ret ?_); (try simp only [QB]) | refine ret1 T (List.nil_sublist _) ?_; (try simp only [upd, Nat.reduceBEq, cond_true, cond_false, and_true])
    all_goals rfl
end Go.Proofs.Ytlnmljmeahknaaa
