/- Contracts: what an instruction has, whether it fits. No condition. -/
import Derived.Test.YtomcmfbpmkklmaaGreatYl
import Derived.Test.YtomcmfbpmkklmaaGreatYa
import Derived.Test.YtomcmfbpmkklmaaGreatXk
import Derived.Test.YtomcmfbpmkklmaaGreatYi
import Derived.Test.YtomcmfbpmkklmaaGreatYo
namespace Go.Proofs.YtomcmfbpmkklmaaGreat
set_option maxHeartbeats 16000000
set_option linter.unusedSimpArgs false
set_option linter.unusedVariables false
set_option maxRecDepth 20000
open Go Go.Proofs Go.Vc
attribute [local irreducible] retQ VCg VCw VCx
theorem place_ok (has : Bool) (n m : Int) : Pure Tryz.prog 178 [bD has, iD n, iD m] (bD (placeB has n m)) := by
 refine Fun.of T [.tmp 6] Tryz.func178 rfl Tryz.ntmps178 Tryz.results178 rfl (by kernel_rfl) ?_
 cases has with
 | true =>
  by_cases h1 : n ≥ 0
  ·have e1 : decide (n ≥ 0) = true := by simpa using h1
   by_cases h2 : n < m
   ·have e2 : decide (n < m) = true := by simpa using h2
    rw [show placeB true n m = true by simp [placeB, inB, h1, h2]]
    repeat' first | refine vs T rfl fun K hK => ?_; (try simp (disch := omega) only [go_sem, Nat.reduceBEq, Nat.reduceAdd, e1, e2]); (refine hK _ _ ?_; clear hK K) | refine st rfl ?_ | refine nl ?_ | refine gs rfl rfl ?_ | refine gu rfl rfl ?_ | exact ret1 T (List.nil_sublist _) ⟨rfl, rfl⟩
   ·have e2 : decide (n < m) = false := by simpa using h2
    rw [show placeB true n m = false by simp [placeB, inB, h2]]
    repeat' first | refine vs T rfl fun K hK => ?_; (try simp (disch := omega) only [go_sem, Nat.reduceBEq, Nat.reduceAdd, e1, e2, Bool.not_true]); (refine hK _ _ ?_; clear hK K) | refine st rfl ?_ | refine nl ?_ | refine gs rfl rfl ?_ | exact ret1 T (List.nil_sublist _) ⟨rfl, rfl⟩
  ·have e1 : decide (n ≥ 0) = false := by simpa using h1
   rw [show placeB true n m = false by simp [placeB, inB, h1]]
   repeat' first | refine vs T rfl fun K hK => ?_; (try simp (disch := omega) only [go_sem, Nat.reduceBEq, Nat.reduceAdd, e1, Bool.not_true]); (refine hK _ _ ?_; clear hK K) | refine st rfl ?_ | refine nl ?_ | refine gs rfl rfl ?_ | exact ret1 T (List.nil_sublist _) ⟨rfl, rfl⟩
 | false =>
  rw [show placeB false n m = (n == 0) from rfl]
  repeat' first | refine vs T rfl fun K hK => ?_; (try simp (disch := omega) only [go_sem, Nat.reduceBEq, Nat.reduceAdd, Bool.not_false]); (refine hK _ _ ?_; clear hK K) | refine st rfl ?_ | refine nl ?_ | refine gs rfl rfl ?_ | exact ret1 T (List.nil_sublist _) ⟨rfl, rfl⟩
abbrev ndL (d : Nd) : List D := [bD d.r, bD d.l, bD d.e, bD d.f, bD d.n, bD d.t]
abbrev nd0 : Nd := ⟨false, false, false, false, false, false⟩
abbrev ndV (d : Nd) : Value := .agg #[.bool d.r, .bool d.l, .bool d.e, .bool d.f, .bool d.n, .bool d.t]
def ndR (o : Option Nd) : D := .tup [.agg (ndL (o.getD nd0)), bD o.isSome]
def tabN : List (Int × Value) := [(2, ndV ⟨true, false, true, false, false, false⟩), (3, ndV ⟨true, true, false, false, false, false⟩), (4, ndV ⟨false, true, true, false, false, false⟩), (5, ndV ⟨true, true, true, true, false, false⟩), (6, ndV ⟨true, true, true, false, false, false⟩), (7, ndV ⟨true, true, true, false, false, false⟩), (8, ndV nd0), (9, ndV ⟨false, true, true, false, true, false⟩), (20, ndV ⟨false, false, false, false, false, true⟩), (21, ndV ⟨false, false, true, false, false, true⟩)]
theorem tabN_find (op : Int) : findI op tabN = (ndF op).map ndV := by
 unfold tabN ndF
 by_cases h2 : op = 2
 ·subst h2; rfl
 by_cases h3 : op = 3
 ·subst h3; rfl
 by_cases h4 : op = 4
 ·subst h4; rfl
 by_cases h5 : op = 5
 ·subst h5; rfl
 by_cases h6 : op = 6
 ·subst h6; rfl
 by_cases h7 : op = 7
 ·subst h7; rfl
 by_cases h8 : op = 8
 ·subst h8; rfl
 by_cases h9 : op = 9
 ·subst h9; rfl
 by_cases h20 : op = 20
 ·subst h20; rfl
 by_cases h21 : op = 21
 ·subst h21; rfl
 simp only [findI, h2, h3, h4, h5, h6, h7, h8, h9, h20, h21, if_false, beq_eq_false_iff_ne.2 h2, beq_eq_false_iff_ne.2 h3, beq_eq_false_iff_ne.2 h4, beq_eq_false_iff_ne.2 h5, beq_eq_false_iff_ne.2 h6, beq_eq_false_iff_ne.2 h7, beq_eq_false_iff_ne.2 h8, beq_eq_false_iff_ne.2 h9, beq_eq_false_iff_ne.2 h20, beq_eq_false_iff_ne.2 h21, cond_false]
 rfl
theorem umN : Tryz.prog.underlying 214 = some (.map 3 207) := by kernel_rfl
theorem zN : (Tryz.prog.info? 207).bind (·.zero) = some (ndV nd0) := by kernel_rfl
theorem ndV_one (d : Nd) : ∀ cs, ndV d = .agg cs → cs.toList.all Value.oneCell' = true := fun cs h => by cases h; rfl
theorem of07_ok (op : Int) : Pure Tryz.prog 175 [iD op] (ndR (ndF op)) := by
 refine Fun.of T [.cell 2 207, .tmp 3] Tryz.func175 rfl Tryz.ntmps175 Tryz.results175 rfl (by kernel_rfl) ?_
 repeat' first
  | (refine vt rfl fun K hK => ?_; refine r_makeMap rfl umN (fun x hx => (by cases hx)) (fun bq hbq => ?_); (try simp only [HB] at hbq); refine hK _ _ ?_; clear hK K; (try simp only [updO]))
  | (refine vt rfl fun K hK => ?_; refine r_mapSet (by first | exact .inr rfl | exact .inl rfl) umN Tryz.underlying3 rfl rfl rfl (by (try simp (disch := omega) only [hget_eq, hget_ne]); rfl) (by first | rfl | assumption) ?_; refine hK _ _ ?_; clear hK K; (try simp (disch := omega) only [updO, hset_eq, hset_ne, List.nil_append, List.cons_append]))
  | (refine vs T rfl fun K hK => ?_; (try simp (disch := omega) only [go_sem, Nat.reduceBEq, Nat.reduceAdd, Nat.reduceMul, Nat.reduceSub, Nat.reduceLeDiff, Int.reduceToNat]); (first | (refine hK _ _ ?_; clear hK K) | (intro bq hbq; (try simp only [HB] at hbq); refine hK _ _ ?_; clear hK K) | (refine ⟨?_, hK _ _ ?_⟩ <;> clear hK K; focus (try (first | omega | exact ⟨rfl, by decide⟩ | exact rfl))) | (refine ⟨_, ?_, hK _ _ ?_⟩ <;> clear hK K) | skip))
  | (refine st rfl ?_)
  | (refine sc rfl ?_)
  | (refine nl ?_)
  | (refine ov ?_)
  | (with_reducible refine gt ?_ ?_; focus (simp (disch := omega) only [go_sem, Nat.reduceBEq, Nat.reduceAdd, Nat.reduceMul, Nat.reduceSub, Nat.reduceLeDiff, Int.reduceToNat]; done))
  | (with_reducible refine gf ?_ ?_; focus (simp (disch := omega) only [go_sem, Nat.reduceBEq, Nat.reduceAdd, Nat.reduceMul, Nat.reduceSub, Nat.reduceLeDiff, Int.reduceToNat]; done))
  | (with_reducible refine gsplit_intro (fun hc => ?_) (fun hc => ?_))
 refine r_lookI rfl umN Tryz.underlying3 zN rfl rfl hget_eq (r := (ndV ((ndF op).getD nd0), (ndF op).isSome)) (show (match findI op tabN with | some v => (v, true) | none => (ndV nd0, false)) = _ by rw [tabN_find]; cases ndF op <;> rfl) (ndV_one _) ?_
 refine hK _ _ ?_
 clear hK K
 try simp only [updO]
 repeat' first | refine vs T rfl fun K hK => ?_; (try simp (disch := omega) only [go_sem, Nat.reduceBEq, Nat.reduceAdd, Nat.reduceLeDiff, valD, List.map_cons, List.map_nil]); (first | refine hK _ _ ?_; clear hK K | intro bq hbq; (try simp only [HB] at hbq); refine hK _ _ ?_; clear hK K) | refine st rfl ?_ | refine nl ?_ | exact retc1 T rfl (by (simp (disch := omega) only [hget_ne, hget_eq]) <;> rfl) rfl rfl rfl (List.nil_sublist _) ⟨rfl, rfl⟩
theorem row_ok (has : Bool) (l : List Opc) (hl : l.length ≤ 1000) (n : Int) (b : Nat) : Fun Tryz.prog 176 [bD has, opsD l, pD b] [(b, .cells 3 1 [iD n])] false (fun d H' => d = bD (codeN has l n) ∧ H' = [(b, .cells 3 1 [iD n])]) := by
 have c1 : Pure Tryz.prog 177 [opsD l, .gs none 0, iD n, iD 0] (bD (codeB l [] n 0)) := Fun.argsW (right_ok l hl [] (by simp) n 0) (fz_cons (Fz.refl _ _) (fz_cons fz_nil (FzL.refl _ _)))
 have he : ((l.length : Int) == 0) = decide (l.length = 0) := by rw [Bool.eq_iff_iff]; simp
 refine Fun.of T [.tmp 5] Tryz.func176 rfl Tryz.ntmps176 Tryz.results176 rfl (by kernel_rfl) ?_
 cases has with
 | true =>
  rw [show codeN true l n = codeB l [] n 0 from rfl]
  cases hc : codeB l [] n 0 with
  | true =>
   rw [hc] at c1
   repeat' first | refine vs T rfl fun K hK => ?_; (try simp (disch := omega) only [go_sem, Nat.reduceBEq, Nat.reduceAdd]); (first | refine hK _ _ ?_; clear hK K | refine Op1.callp rfl rfl (c1) rfl ?_; refine hK _ _ ?_; clear hK K) | refine st rfl ?_ | refine nl ?_ | refine gs rfl rfl ?_ | refine gu rfl rfl ?_
   exact ret1 T (List.Sublist.refl _) ⟨rfl, rfl⟩
  | false =>
   rw [hc] at c1
   repeat' first | refine vs T rfl fun K hK => ?_; (try simp (disch := omega) only [go_sem, Nat.reduceBEq, Nat.reduceAdd, Bool.not_true]); (first | refine hK _ _ ?_; clear hK K | refine Op1.callp rfl rfl (c1) rfl ?_; refine hK _ _ ?_; clear hK K) | refine st rfl ?_ | refine nl ?_ | refine gs rfl rfl ?_
   exact ret1 T (List.Sublist.refl _) ⟨rfl, rfl⟩
 | false =>
  rw [show codeN false l n = decide (l.length = 0) from rfl]
  repeat' first | refine vs T rfl fun K hK => ?_; (try simp (disch := omega) only [go_sem, Nat.reduceBEq, Nat.reduceAdd, he, opRs_len, Bool.not_false]); (refine hK _ _ ?_; clear hK K) | refine st rfl ?_ | refine nl ?_ | refine gs rfl rfl ?_
  exact ret1 T (List.Sublist.refl _) ⟨rfl, rfl⟩
theorem doneL_ok (x : Ins) (he : x.e.length ≤ 1000) (hf : x.f.length ≤ 1000) : Pure Tryz.prog 168 [.agg (insR x)] (bD (doneB x)) := by
 obtain ⟨op, reg, loc, e, f, ne, to⟩ := x
 dsimp only at he hf
 have hw : IntKind.i64.wrap ((e.length : Int) + (f.length : Int)) = ((e.length + f.length : Nat) : Int) := by rw [w64 (by omega)]; omega
 have hD : doneB ⟨op, reg, loc, e, f, ne, to⟩ = ((op == 22) && ((reg == 0) && ((loc == 0) && ((to == 0) && ((!ne) && (((e.length + f.length : Nat) : Int) == 0)))))) := by
  have h0 : (((e.length + f.length : Nat) : Int) == 0) = (decide (e.length = 0) && decide (f.length = 0)) := by
   rw [Bool.eq_iff_iff]; simp only [beq_iff_eq, Bool.and_eq_true, decide_eq_true_eq]; omega
  rw [Bool.eq_iff_iff]
  simp only [doneB, h0, Bool.and_eq_true, decide_eq_true_eq, beq_iff_eq]
  constructor
  ·rintro ⟨a, b, c, d, e, f, g⟩; exact ⟨a, b, c, g, f, d, e⟩
  ·rintro ⟨a, b, c, g, f, d, e⟩; exact ⟨a, b, c, d, e, f, g⟩
 refine Fun.of T [.tmp 2] Tryz.func168 rfl Tryz.ntmps168 Tryz.results168 rfl (by kernel_rfl) ?_
 rw [hD]
 cases h1 : op == 22 with
 | false =>
  repeat' first | refine vb rfl rfl rfl rfl ?_ | refine vs T rfl fun K hK => ?_; (try simp (disch := omega) only [go_sem, Nat.reduceBEq, insR, h1]); (refine hK _ _ ?_; clear hK K) | refine st rfl ?_ | refine nl ?_ | refine gs rfl rfl ?_ | exact ret1 T (List.nil_sublist _) ⟨rfl, rfl⟩
  all_goals rfl
 | true =>
 cases h2 : reg == 0 with
 | false =>
  repeat' first | refine vb rfl rfl rfl rfl ?_ | refine vs T rfl fun K hK => ?_; (try simp (disch := omega) only [go_sem, Nat.reduceBEq, insR, h1, h2]); (refine hK _ _ ?_; clear hK K) | refine st rfl ?_ | refine nl ?_ | refine gs rfl rfl ?_ | exact ret1 T (List.nil_sublist _) ⟨rfl, rfl⟩
  all_goals rfl
 | true =>
 cases h3 : loc == 0 with
 | false =>
  repeat' first | refine vb rfl rfl rfl rfl ?_ | refine vs T rfl fun K hK => ?_; (try simp (disch := omega) only [go_sem, Nat.reduceBEq, insR, h1, h2, h3]); (refine hK _ _ ?_; clear hK K) | refine st rfl ?_ | refine nl ?_ | refine gs rfl rfl ?_ | exact ret1 T (List.nil_sublist _) ⟨rfl, rfl⟩
  all_goals rfl
 | true =>
 cases h4 : to == 0 with
 | false =>
  repeat' first | refine vb rfl rfl rfl rfl ?_ | refine vs T rfl fun K hK => ?_; (try simp (disch := omega) only [go_sem, Nat.reduceBEq, insR, h1, h2, h3, h4]); (refine hK _ _ ?_; clear hK K) | refine st rfl ?_ | refine nl ?_ | refine gs rfl rfl ?_ | exact ret1 T (List.nil_sublist _) ⟨rfl, rfl⟩
  all_goals rfl
 | true =>
 cases ne with
 | true =>
  repeat' first | refine vb rfl rfl rfl rfl ?_ | refine vs T rfl fun K hK => ?_; (try simp (disch := omega) only [go_sem, Nat.reduceBEq, insR, h1, h2, h3, h4, Bool.not_true]); (refine hK _ _ ?_; clear hK K) | refine st rfl ?_ | refine nl ?_ | refine gs rfl rfl ?_ | exact ret1 T (List.nil_sublist _) ⟨rfl, rfl⟩
  all_goals rfl
 | false =>
  repeat' first | refine vb rfl rfl rfl rfl ?_ | refine vs T rfl fun K hK => ?_; (try simp (disch := omega) only [go_sem, Nat.reduceBEq, insR, h1, h2, h3, h4, hw, opRs_len, Bool.not_false]); (refine hK _ _ ?_; clear hK K) | refine st rfl ?_ | refine nl ?_ | refine gs rfl rfl ?_ | exact ret1 T (List.nil_sublist _) ⟨rfl, rfl⟩
  all_goals rfl
theorem one_at {x : Ins} {d : Nd} (h : ndF x.op = some d) (regs locs many : Int) : oneB x regs locs many = (((!x.ne) || d.n) && (placeB d.r x.reg regs && (placeB d.l x.loc locs && (placeB d.t x.to many && (codeN d.e x.e regs && codeN d.f x.f regs))))) := by
 unfold oneB
 rw [h]
 simp only []
 cases x.ne <;> cases d.n <;> cases placeB d.r x.reg regs <;> cases placeB d.l x.loc locs <;> cases placeB d.t x.to many <;> cases codeN d.e x.e regs <;> cases codeN d.f x.f regs <;> rfl
theorem fits_ok (x : Ins) (he : x.e.length ≤ 1000) (hf : x.f.length ≤ 1000) (regs locs many : Int) : Pure Tryz.prog 169 [.agg (insR x), iD regs, iD locs, iD many] (bD (oneB x regs locs many)) := by
 have c0 := of07_ok x.op
 refine Fun.of T [.tmp 8] Tryz.func169 rfl Tryz.ntmps169 Tryz.results169 rfl (by kernel_rfl) ?_
 cases hN : ndF x.op with
 | none =>
  have c0' : Pure Tryz.prog 175 [iD x.op] (.tup [.agg [bD false, bD false, bD false, bD false, bD false, bD false], bD false]) := by rw [hN] at c0; exact c0
  rw [show oneB x regs locs many = false by simp [oneB, hN]]
  repeat' first | refine vb (t := 90) rfl rfl rfl rfl ?_ | refine vs T rfl fun K hK => ?_; (try simp (disch := omega) only [go_sem, Nat.reduceBEq, Nat.reduceAdd, Nat.reduceLeDiff, insR, Bool.not_false]); (first | refine hK _ _ ?_; clear hK K | intro bq hbq; (try simp only [HB] at hbq); refine hK _ _ ?_; clear hK K | refine Op1.callp rfl rfl (c0') rfl ?_; refine hK _ _ ?_; clear hK K) | refine st rfl ?_ | refine sc rfl ?_ | refine nl ?_ | refine gs rfl rfl ?_ | refine gu rfl rfl ?_ | exact ret1 T (List.nil_sublist _) ⟨rfl, rfl⟩
 | some d =>
 have c0' : Pure Tryz.prog 175 [iD x.op] (.tup [.agg [bD d.r, bD d.l, bD d.e, bD d.f, bD d.n, bD d.t], bD true]) := by rw [hN] at c0; exact c0
 rw [one_at hN]
 obtain ⟨dr, dl, de, df, dn, dt⟩ := d
 dsimp only at c0' ⊢
 have c1 := place_ok dr x.reg regs
 have c2 := place_ok dl x.loc locs
 have c3 := place_ok dt x.to many
 cases hne : ((!x.ne) || dn) with
 | false =>
  obtain ⟨h1, h2⟩ : x.ne = true ∧ dn = false := by cases hx : x.ne <;> cases dn <;> simp_all
  subst h2
  repeat' first | refine vb (t := 90) rfl rfl rfl rfl ?_ | refine vs T rfl fun K hK => ?_; (try simp (disch := omega) only [go_sem, Nat.reduceBEq, Nat.reduceAdd, Nat.reduceLeDiff, insR, h1, Bool.not_true, Bool.not_false]); (first | refine hK _ _ ?_; clear hK K | intro bq hbq; (try simp only [HB] at hbq); refine hK _ _ ?_; clear hK K | refine Op1.callp rfl rfl (c0') rfl ?_; refine hK _ _ ?_; clear hK K) | refine st rfl ?_ | refine sc rfl ?_ | refine nl ?_ | refine gs rfl rfl ?_ | exact ret1 T (List.nil_sublist _) ⟨rfl, rfl⟩
  all_goals rfl
 | true =>
 have hpre : x.ne = false ∨ (x.ne = true ∧ dn = true) := by cases hx : x.ne <;> cases dn <;> simp_all
 rcases hpre with h1 | ⟨h1, h2⟩
 case' inl =>
  repeat' first | refine vb (t := 90) rfl rfl rfl rfl ?_ | refine vs T rfl fun K hK => ?_; (try simp (disch := omega) only [go_sem, Nat.reduceBEq, Nat.reduceAdd, Nat.reduceLeDiff, insR, h1, Bool.not_true]); (first | refine hK _ _ ?_; clear hK K | intro bq hbq; (try simp only [HB] at hbq); refine hK _ _ ?_; clear hK K | refine Op1.callp rfl rfl (c0') rfl ?_; refine hK _ _ ?_; clear hK K | skip) | refine st rfl ?_ | refine sc rfl ?_ | refine nl ?_ | refine gs rfl rfl ?_
 case' inr =>
  repeat' first | refine vb (t := 90) rfl rfl rfl rfl ?_ | refine vs T rfl fun K hK => ?_; (try simp (disch := omega) only [go_sem, Nat.reduceBEq, Nat.reduceAdd, Nat.reduceLeDiff, insR, h1, h2, Bool.not_true]); (first | refine hK _ _ ?_; clear hK K | intro bq hbq; (try simp only [HB] at hbq); refine hK _ _ ?_; clear hK K | refine Op1.callp rfl rfl (c0') rfl ?_; refine hK _ _ ?_; clear hK K | skip) | refine st rfl ?_ | refine sc rfl ?_ | refine nl ?_ | refine gs rfl rfl ?_
 all_goals
  rename_i b5 hb5
  have n1 : ¬ bq = b5 := hbq
  refine r_mkFunc (us := [.pointer (some ⟨b5, 0, none⟩)]) rfl rfl ?_
  refine hK _ _ ?_
  clear hK K
  try simp only [updO]
  cases hp1 : placeB dr x.reg regs with
  | false =>
   rw [hp1] at c1
   repeat' first | refine vs T rfl fun K hK => ?_; (try simp (disch := omega) only [go_sem, Nat.reduceBEq]); (first | refine hK _ _ ?_; clear hK K | refine Op1.callp rfl rfl (c1) rfl ?_; refine hK _ _ ?_; clear hK K) | refine st rfl ?_ | refine nl ?_ | refine gs rfl rfl ?_ | exact ret1 T (List.nil_sublist _) ⟨rfl, rfl⟩
   all_goals rfl
  | true =>
  rw [hp1] at c1
  cases hp2 : placeB dl x.loc locs with
  | false =>
   rw [hp2] at c2
   repeat' first | refine vs T rfl fun K hK => ?_; (try simp (disch := omega) only [go_sem, Nat.reduceBEq]); (first | refine hK _ _ ?_; clear hK K | refine Op1.callp rfl rfl (c1) rfl ?_; refine hK _ _ ?_; clear hK K | refine Op1.callp rfl rfl (c2) rfl ?_; refine hK _ _ ?_; clear hK K) | refine st rfl ?_ | refine nl ?_ | refine gs rfl rfl ?_ | exact ret1 T (List.nil_sublist _) ⟨rfl, rfl⟩
   all_goals rfl
  | true =>
  rw [hp2] at c2
  cases hp3 : placeB dt x.to many with
  | false =>
   rw [hp3] at c3
   repeat' first | refine vs T rfl fun K hK => ?_; (try simp (disch := omega) only [go_sem, Nat.reduceBEq]); (first | refine hK _ _ ?_; clear hK K | refine Op1.callp rfl rfl (c1) rfl ?_; refine hK _ _ ?_; clear hK K | refine Op1.callp rfl rfl (c2) rfl ?_; refine hK _ _ ?_; clear hK K | refine Op1.callp rfl rfl (c3) rfl ?_; refine hK _ _ ?_; clear hK K) | refine st rfl ?_ | refine nl ?_ | refine gs rfl rfl ?_ | exact ret1 T (List.nil_sublist _) ⟨rfl, rfl⟩
   all_goals rfl
  | true =>
  rw [hp3] at c3
  repeat' first | refine vs T rfl fun K hK => ?_; (try simp (disch := omega) only [go_sem, Nat.reduceBEq]); (first | refine hK _ _ ?_; clear hK K | refine Op1.callp rfl rfl (c1) rfl ?_; refine hK _ _ ?_; clear hK K | refine Op1.callp rfl rfl (c2) rfl ?_; refine hK _ _ ?_; clear hK K | refine Op1.callp rfl rfl (c3) rfl ?_; refine hK _ _ ?_; clear hK K | skip) | refine st rfl ?_ | refine nl ?_ | refine gs rfl rfl ?_
  refine Op1.callG (Hp := [(b5, .cells 3 1 [iD regs])]) (Hr := [(bq, .cells 207 6 [bD dr, bD dl, bD de, bD df, _, bD dt])]) rfl rfl rfl (row_ok de x.e he regs b5) (List.Perm.swap _ _ []) (fun d' H' hd' => ?_)
  obtain ⟨rfl, rfl⟩ := hd'
  refine hK _ _ ?_
  clear hK K
  try simp only [updO, List.cons_append, List.nil_append]
  cases hc4 : codeN de x.e regs with
  | false =>
   repeat' first | refine vs T rfl fun K hK => ?_; (try simp (disch := omega) only [go_sem, Nat.reduceBEq]); (refine hK _ _ ?_; clear hK K) | refine st rfl ?_ | refine nl ?_ | refine gs rfl rfl ?_ | exact ret1 T (List.nil_sublist _) ⟨rfl, rfl⟩
   all_goals rfl
  | true =>
  repeat' first | refine vs T rfl fun K hK => ?_; (try simp (disch := omega) only [go_sem, Nat.reduceBEq]); (first | refine hK _ _ ?_; clear hK K | skip) | refine gs rfl rfl ?_
  refine Op1.callG (Hp := [(b5, .cells 3 1 [iD regs])]) (Hr := [(bq, .cells 207 6 [bD dr, bD dl, bD de, bD df, _, bD dt])]) rfl rfl rfl (row_ok df x.f hf regs b5) (List.Perm.refl _) (fun d' H' hd' => ?_)
  obtain ⟨rfl, rfl⟩ := hd'
  refine hK _ _ ?_
  clear hK K
  try simp only [updO, List.cons_append, List.nil_append]
  repeat' first | refine vs T rfl fun K hK => ?_; (try simp (disch := omega) only [go_sem, Nat.reduceBEq]); (refine hK _ _ ?_; clear hK K) | refine st rfl ?_ | refine nl ?_ | exact ret1 T (List.nil_sublist _) ⟨rfl, rfl⟩
  all_goals rfl
theorem insRs_tk (b : List Ins) (k : Nat) : (insRs b).take k = insRs (b.take k) := by rw [insRs, insRs, List.map_take]
def rowQ (n locs : Int) (r : List Ins) : Bool := (decide (1 ≤ r.length) && decide (r.length ≤ 1000) && doneB (r.getD (r.length - 1) default)) && ((List.range (r.length - 1)).all fun i => oneB (r.getD i default) n locs r.length)
theorem rowB_Q (n locs : Int) (r : List Ins) : rowB n locs r = (decide (0 ≤ n) && decide (n ≤ 6) && rowQ n locs r) := by
 unfold rowB rowQ
 simp only [Bool.and_assoc]
theorem rowL_ok (r : List Ins) (hrl : r.length ≤ 100000) (hins : ∀ x, x ∈ r → x.e.length ≤ 1000 ∧ x.f.length ≤ 1000) (n locs : Int) : Pure Tryz.prog 151 [.sl false 7 (insRs r), iD n, iD locs] (bD (rowQ n locs r)) := by
 have hwl : IntKind.i64.wrap ((r.length : Int) - 1) = (r.length : Int) - 1 := by rw [w64 (by omega)]
 refine Fun.of T [.tmp 6] Tryz.func151 rfl Tryz.ntmps151 Tryz.results151 rfl (by kernel_rfl) ?_
 by_cases q0 : r.length = 0
 ·have s0 : decide ((r.length : Int) - 1 < 0) = true := by simp; omega
  rw [show rowQ n locs r = false by simp [rowQ, q0]]
  repeat' first | refine vs T rfl fun K hK => ?_; (try simp (disch := omega) only [go_sem, Nat.reduceBEq, Nat.reduceAdd, hwl, s0, insRs_len]); (refine hK _ _ ?_; clear hK K) | refine st rfl ?_ | refine sc rfl ?_ | refine nl ?_ | refine gs rfl rfl ?_ | exact ret1 T (List.nil_sublist _) ⟨rfl, rfl⟩
 have s0 : decide ((r.length : Int) - 1 < 0) = false := by simp; omega
 by_cases q1 : r.length > 1000
 ·have s1 : decide ((r.length : Int) - 1 ≥ 1000) = true := by simp; omega
  rw [show rowQ n locs r = false by simp [rowQ]; omega]
  repeat' first | refine vs T rfl fun K hK => ?_; (try simp (disch := omega) only [go_sem, Nat.reduceBEq, Nat.reduceAdd, hwl, s0, s1, insRs_len]); (refine hK _ _ ?_; clear hK K) | refine st rfl ?_ | refine sc rfl ?_ | refine nl ?_ | refine gs rfl rfl ?_ | exact ret1 T (List.nil_sublist _) ⟨rfl, rfl⟩
 have s1 : decide ((r.length : Int) - 1 ≥ 1000) = false := by simp; omega
 have hk : ((r.length : Int) - 1) = ((r.length - 1 : Nat) : Int) := by omega
 rw [hk] at s0 s1
 have hwl : IntKind.i64.wrap ((r.length : Int) - 1) = ((r.length - 1 : Nat) : Int) := by rw [hwl]; exact hk
 clear hk
 obtain ⟨xl, hxl⟩ : ∃ x, r[r.length - 1]? = some x := ⟨_, List.getElem?_eq_getElem (by omega)⟩
 have rx : (insRs r)[r.length - 1]? = some [iD xl.op, iD xl.reg, iD xl.loc, opsD xl.e, opsD xl.f, bD xl.ne, iD xl.to] := by rw [insRs_at, hxl]; rfl
 have hgl : r.getD (r.length - 1) default = xl := by rw [List.getD_eq_getElem?_getD, hxl]; rfl
 have hl0 : r.length - 1 < r.length := by omega
 have cd := doneL_ok xl (hins xl (List.mem_of_getElem? hxl)).1 (hins xl (List.mem_of_getElem? hxl)).2
 cases hdn : doneB xl with
 | false =>
  rw [hdn] at cd
  rw [show rowQ n locs r = false by simp only [rowQ, hgl, hdn, Bool.and_false, Bool.false_and]]
  repeat' first | refine vs T rfl fun K hK => ?_; (try simp (disch := omega) only [go_sem, Nat.reduceBEq, Nat.reduceAdd, Nat.reduceLeDiff, hwl, s0, s1, rx, insRs_len, Bool.not_false]); (first | refine hK _ _ ?_; clear hK K | refine ⟨?_, hK _ _ ?_⟩ <;> clear hK K; focus (try omega) | refine Op1.callp rfl rfl (cd) rfl ?_; refine hK _ _ ?_; clear hK K) | refine st rfl ?_ | refine sc rfl ?_ | refine nl ?_ | refine gs rfl rfl ?_ | exact ret1 T (List.nil_sublist _) ⟨rfl, rfl⟩
 | true =>
 rw [hdn] at cd
 have hRow : rowQ n locs r = (List.range (r.length - 1)).all fun i => oneB (r.getD i default) n locs r.length := by
  unfold rowQ
  rw [hgl, hdn]
  have : (decide (1 ≤ r.length) && decide (r.length ≤ 1000) && true) = true := by simp; omega
  rw [this]; rfl
 have htl : (r.take (r.length - 1)).length = r.length - 1 := by rw [List.length_take]; omega
 generalize hq : r.take (r.length - 1) = q at *
 repeat' first | refine vs T rfl fun K hK => ?_; (try simp (disch := omega) only [go_sem, Nat.reduceBEq, Nat.reduceAdd, Nat.reduceLeDiff, hwl, s0, s1, rx, insRs_len, insRs_tk, hq, htl, Bool.not_true]); (first | refine hK _ _ ?_; clear hK K | refine ⟨?_, hK _ _ ?_⟩ <;> clear hK K; focus (try omega) | refine Op1.callp rfl rfl (cd) rfl ?_; refine hK _ _ ?_; clear hK K) | refine st rfl ?_ | refine sc rfl ?_ | refine nl ?_ | refine gs rfl rfl ?_
 refine VC.loop {i : Nat // i ≤ r.length - 1 ∧ ∀ j, j < i → oneB (r.getD j default) n locs r.length = true} (fun p => ⟨lookD [(0, .sl false 7 (insRs r)), (1, iD n), (2, iD locs), (29, .sl false 7 (insRs q)), (30, iD (r.length - 1 : Nat)), (31, iD (p.1 : Nat))], []⟩) (fun p => r.length - p.1) ⟨0, by omega, fun j hj => by omega⟩ ?_ ?_
 ·refine Weak.sub ?_
  simp [sub, upd]
 rintro ⟨i, hi, hsi⟩
 dsimp only
 have hwi : IntKind.i64.wrap ((i : Int) + 1) = ((i + 1 : Nat) : Int) := by rw [w64 (by omega)]; omega
 rcases Nat.lt_or_ge i (r.length - 1) with hlt | hge
 case inr =>
  have hd : decide ((i : Int) < ((r.length - 1 : Nat) : Int)) = false := by simp; omega
  rw [show rowQ n locs r = true by rw [hRow]; exact range_all fun j hj => hsi j (by omega)]
  repeat' first | refine vs T rfl fun K hK => ?_; (try simp (disch := omega) only [go_sem, Nat.reduceBEq, hd]); (refine hK _ _ ?_; clear hK K) | refine st rfl ?_ | refine sc rfl ?_ | refine nl ?_ | exact ret1 T (List.nil_sublist _) ⟨rfl, rfl⟩
 have hd : decide ((i : Int) < ((r.length - 1 : Nat) : Int)) = true := by simp; omega
 obtain ⟨x, hx⟩ : ∃ x, r[i]? = some x := ⟨_, List.getElem?_eq_getElem (by omega)⟩
 have hxq : q[i]? = some x := by rw [← hq, List.getElem?_take, if_pos hlt, hx]
 have rx2 : (insRs q)[i]? = some [iD x.op, iD x.reg, iD x.loc, opsD x.e, opsD x.f, bD x.ne, iD x.to] := by rw [insRs_at, hxq]; rfl
 have hgx : r.getD i default = x := by rw [List.getD_eq_getElem?_getD, hx]; rfl
 have hef := hins x (List.mem_of_getElem? hx)
 have co := fits_ok x hef.1 hef.2 n locs r.length
 cases hO : oneB x n locs r.length with
 | false =>
  rw [hO] at co
  rw [show rowQ n locs r = false by rw [hRow]; exact range_not hlt (by rw [hgx]; exact hO)]
  repeat' first | refine vs T rfl fun K hK => ?_; (try simp (disch := omega) only [go_sem, Nat.reduceBEq, Nat.reduceAdd, Nat.reduceLeDiff, hd, rx2, htl, Bool.not_false, insRs_len]); (first | refine hK _ _ ?_; clear hK K | intro bq hbq; (try simp only [HB] at hbq); refine hK _ _ ?_; clear hK K | refine ⟨?_, hK _ _ ?_⟩ <;> clear hK K; focus (try omega) | refine Op1.callp rfl rfl (co) rfl ?_; refine hK _ _ ?_; clear hK K) | refine st rfl ?_ | refine sc rfl ?_ | refine nl ?_ | exact ret1 T (List.nil_sublist _) ⟨rfl, rfl⟩
 | true =>
  rw [hO] at co
  repeat' first | refine vs T rfl fun K hK => ?_; (try simp (disch := omega) only [go_sem, Nat.reduceBEq, Nat.reduceAdd, Nat.reduceLeDiff, hd, hwi, rx2, htl, Bool.not_true, insRs_len]); (first | refine hK _ _ ?_; clear hK K | intro bq hbq; (try simp only [HB] at hbq); refine hK _ _ ?_; clear hK K | refine ⟨?_, hK _ _ ?_⟩ <;> clear hK K; focus (try omega) | refine Op1.callp rfl rfl (co) rfl ?_; refine hK _ _ ?_; clear hK K) | refine st rfl ?_ | refine sc rfl ?_ | refine nl ?_
  refine ⟨⟨i + 1, by omega, fun j hj => ?_⟩, Weak.subH (List.nil_sublist _) ?_, by dsimp only; omega⟩
  ·rcases Nat.lt_or_ge j i with h' | h'
   ·exact hsi j h'
   ·obtain rfl : j = i := by omega
    rw [hgx]; exact hO
  ·simp [sub, upd]
theorem rightL_ok (u : Un) (hu : OkU u) : Pure Tryz.prog 111 [.agg (unC u)] (bD (unitB u)) := by
 have k1 := hu.ini
 have k2 := hu.reg
 have k3 := hu.cod
 refine Fun.of T [.tmp 2] Tryz.func111 rfl Tryz.ntmps111 Tryz.results111 rfl (by kernel_rfl) ?_
 by_cases q0 : u.md < 2
 ·have s0 : decide (u.md < 2) = true := by simpa using q0
  rw [show unitB u = false by simp [unitB, headB]; omega]
  repeat' first | refine vb rfl rfl rfl rfl ?_ | refine vs T rfl fun K hK => ?_; (try simp (disch := omega) only [go_sem, Nat.reduceBEq, s0]); (refine hK _ _ ?_; clear hK K) | refine st rfl ?_ | refine sc rfl ?_ | refine nl ?_ | refine gs rfl rfl ?_ | exact ret1 T (List.nil_sublist _) ⟨rfl, rfl⟩
 have s0 : decide (u.md < 2) = false := by simpa using q0
 by_cases q1 : u.md > 16
 ·have s1 : decide (u.md > 16) = true := by simpa using q1
  rw [show unitB u = false by simp [unitB, headB]; omega]
  repeat' first | refine vb rfl rfl rfl rfl ?_ | refine vs T rfl fun K hK => ?_; (try simp (disch := omega) only [go_sem, Nat.reduceBEq, s0, s1]); (refine hK _ _ ?_; clear hK K) | refine st rfl ?_ | refine sc rfl ?_ | refine nl ?_ | refine gs rfl rfl ?_ | exact ret1 T (List.nil_sublist _) ⟨rfl, rfl⟩
 have s1 : decide (u.md > 16) = false := by simpa using q1
 by_cases q2 : u.init.length > 6
 ·have s2 : decide ((u.init.length : Int) > 6) = true := by simp; omega
  rw [show unitB u = false by simp [unitB, headB]; omega]
  repeat' first | refine vb rfl rfl rfl rfl ?_ | refine vs T rfl fun K hK => ?_; (try simp (disch := omega) only [go_sem, Nat.reduceBEq, s0, s1, s2, iRs_len]); (refine hK _ _ ?_; clear hK K) | refine st rfl ?_ | refine sc rfl ?_ | refine nl ?_ | refine gs rfl rfl ?_ | exact ret1 T (List.nil_sublist _) ⟨rfl, rfl⟩
 have s2 : decide ((u.init.length : Int) > 6) = false := by simp; omega
 by_cases q3 : u.regs.length = 0
 ·have s3 : ((u.regs.length : Int) == 0) = true := beq_iff_eq.2 (by omega)
  rw [show unitB u = false by simp [unitB, headB, q3]]
  repeat' first | refine vb rfl rfl rfl rfl ?_ | refine vs T rfl fun K hK => ?_; (try simp (disch := omega) only [go_sem, Nat.reduceBEq, s0, s1, s2, s3, iRs_len]); (refine hK _ _ ?_; clear hK K) | refine st rfl ?_ | refine sc rfl ?_ | refine nl ?_ | refine gs rfl rfl ?_ | exact ret1 T (List.nil_sublist _) ⟨rfl, rfl⟩
 have s3 : ((u.regs.length : Int) == 0) = false := beq_eq_false_iff_ne.2 (by omega)
 by_cases q4 : u.regs.length > 4
 ·have s4 : decide ((u.regs.length : Int) > 4) = true := by simp; omega
  rw [show unitB u = false by simp [unitB, headB]; omega]
  repeat' first | refine vb rfl rfl rfl rfl ?_ | refine vs T rfl fun K hK => ?_; (try simp (disch := omega) only [go_sem, Nat.reduceBEq, s0, s1, s2, s3, s4, iRs_len]); (refine hK _ _ ?_; clear hK K) | refine st rfl ?_ | refine sc rfl ?_ | refine nl ?_ | refine gs rfl rfl ?_ | exact ret1 T (List.nil_sublist _) ⟨rfl, rfl⟩
 have s4 : decide ((u.regs.length : Int) > 4) = false := by simp; omega
 by_cases q5 : u.code.length = u.regs.length
 case neg =>
  have s5 : ((u.code.length : Int) != (u.regs.length : Int)) = true := by simp; omega
  rw [show unitB u = false by simp [unitB, headB, q5]]
  repeat' first | refine vb rfl rfl rfl rfl ?_ | refine vs T rfl fun K hK => ?_; (try simp (disch := omega) only [go_sem, Nat.reduceBEq, s0, s1, s2, s3, s4, s5, iRs_len, codeRs_len]); (refine hK _ _ ?_; clear hK K) | refine st rfl ?_ | refine sc rfl ?_ | refine nl ?_ | refine gs rfl rfl ?_ | exact ret1 T (List.nil_sublist _) ⟨rfl, rfl⟩
 have s5 : ((u.code.length : Int) != (u.regs.length : Int)) = false := by simp; omega
 repeat' first | refine vb rfl rfl rfl rfl ?_ | refine vs T rfl fun K hK => ?_; (try simp (disch := omega) only [go_sem, Nat.reduceBEq, s0, s1, s2, s3, s4, s5, iRs_len, codeRs_len]); (refine hK _ _ ?_; clear hK K) | refine st rfl ?_ | refine sc rfl ?_ | refine nl ?_ | refine gs rfl rfl ?_
 have hH : headB u = allB u.init u.md := by
  have h1 : decide (2 ≤ u.md) = true := by simp; omega
  have h2 : decide (u.md ≤ 16) = true := by simp; omega
  have h3 : decide (u.init.length ≤ 6) = true := by simp; omega
  have h4 : decide (1 ≤ u.regs.length) = true := by simp; omega
  have h5 : decide (u.regs.length ≤ 4) = true := by simp; omega
  simp only [headB, h1, h2, h3, h4, h5, decide_eq_true q5, Bool.true_and, Bool.and_true]
 refine VC.loop {k : Nat // k ≤ u.init.length ∧ ∀ (i : Nat) (y : Int), i < k → u.init[i]? = some y → inB y u.md = true} (fun p => ⟨lookD [(1, .pt (unC u)), (43, ints u.init), (44, iD (u.init.length : Nat)), (45, iD (p.1 : Nat))], []⟩) (fun p => u.init.length - p.1) ⟨0, by omega, fun i y hi => by omega⟩ ?_ ?_
 ·refine Weak.sub ?_
  simp [sub, upd]
 rintro ⟨k, hk, hs⟩
 dsimp only
 rcases Nat.lt_or_ge k u.init.length with hlt | hge
 case inl =>
  have hd : decide ((k : Int) < (u.init.length : Int)) = true := by simp; omega
  have hw : IntKind.i64.wrap ((k : Int) + 1) = ((k + 1 : Nat) : Int) := by rw [w64 (by omega)]; omega
  obtain ⟨n, hn⟩ : ∃ n, u.init[k]? = some n := ⟨_, List.getElem?_eq_getElem hlt⟩
  have rn : (iRs u.init)[k]? = some [iD n] := by rw [iRs_at, hn]; rfl
  have bad : inB n u.md = false → unitB u = false := fun h => by
   have : allB u.init u.md = false := all_not (p := fun n => inB n u.md) hn h
   simp [unitB, hH, this]
  by_cases p0 : n < 0
  ·have d0 : decide (n < 0) = true := by simpa using p0
   rw [bad (by simp [inB]; omega)]
   repeat' first | refine vs T rfl fun K hK => ?_; (try simp (disch := omega) only [go_sem, Nat.reduceBEq, hd, rn, d0, iRs_len]); (first | refine hK _ _ ?_; clear hK K | refine ⟨?_, hK _ _ ?_⟩ <;> clear hK K; focus (try omega)) | refine st rfl ?_ | refine sc rfl ?_ | refine nl ?_ | refine gs rfl rfl ?_ | exact ret1 T (List.nil_sublist _) ⟨rfl, rfl⟩
  have d0 : decide (n < 0) = false := by simpa using p0
  by_cases p1 : n ≥ u.md
  ·have d1 : decide (n ≥ u.md) = true := by simpa using p1
   rw [bad (by simp [inB]; omega)]
   repeat' first | refine vs T rfl fun K hK => ?_; (try simp (disch := omega) only [go_sem, Nat.reduceBEq, hd, rn, d0, d1, iRs_len]); (first | refine hK _ _ ?_; clear hK K | refine ⟨?_, hK _ _ ?_⟩ <;> clear hK K; focus (try omega)) | refine st rfl ?_ | refine sc rfl ?_ | refine nl ?_ | refine gs rfl rfl ?_ | exact ret1 T (List.nil_sublist _) ⟨rfl, rfl⟩
  have d1 : decide (n ≥ u.md) = false := by simpa using p1
  repeat' first | refine vs T rfl fun K hK => ?_; (try simp (disch := omega) only [go_sem, Nat.reduceBEq, hd, hw, rn, d0, d1, iRs_len]); (first | refine hK _ _ ?_; clear hK K | refine ⟨?_, hK _ _ ?_⟩ <;> clear hK K; focus (try omega)) | refine st rfl ?_ | refine sc rfl ?_ | refine nl ?_ | refine gs rfl rfl ?_
  refine ⟨⟨k + 1, by omega, step_of hs hn (by simp [inB]; omega)⟩, Weak.sub ?_, by simp only []; omega⟩
  simp [sub, upd]
 have hd : decide ((k : Int) < (u.init.length : Int)) = false := by simp; omega
 have hA : allB u.init u.md = true := all_of fun i x hi hx => hs i x (by omega) hx
 have hU : unitB u = (List.range u.regs.length).all fun t => rowB (u.regs.getD t 0) u.init.length (u.code.getD t []) := by
  unfold unitB
  rw [hH, hA, Bool.true_and]
 repeat' first | refine vs T rfl fun K hK => ?_; (try simp (disch := omega) only [go_sem, Nat.reduceBEq, hd, iRs_len]); (refine hK _ _ ?_; clear hK K) | refine st rfl ?_ | refine sc rfl ?_ | refine nl ?_
 refine VC.loop {t : Nat // t ≤ u.regs.length ∧ ∀ j, j < t → rowB (u.regs.getD j 0) u.init.length (u.code.getD j []) = true} (fun p => ⟨lookD [(1, .pt (unC u)), (59, ints u.regs), (60, iD (u.regs.length : Nat)), (61, iD (p.1 : Nat))], []⟩) (fun p => u.regs.length - p.1) ⟨0, by omega, fun j hj => by omega⟩ ?_ ?_
 ·refine Weak.sub ?_
  simp [sub, upd]
 rintro ⟨t, ht, hs⟩
 dsimp only
 rcases Nat.lt_or_ge t u.regs.length with hlt | hge
 case inr =>
  have hd : decide ((t : Int) < (u.regs.length : Int)) = false := by simp; omega
  rw [show unitB u = true by rw [hU]; exact range_all fun i hi => hs i (by omega)]
  repeat' first | refine vs T rfl fun K hK => ?_; (try simp (disch := omega) only [go_sem, Nat.reduceBEq, hd]); (refine hK _ _ ?_; clear hK K) | refine st rfl ?_ | refine sc rfl ?_ | refine nl ?_ | exact ret1 T (List.nil_sublist _) ⟨rfl, rfl⟩
 have hd : decide ((t : Int) < (u.regs.length : Int)) = true := by simp; omega
 have hw : IntKind.i64.wrap ((t : Int) + 1) = ((t + 1 : Nat) : Int) := by rw [w64 (by omega)]; omega
 obtain ⟨n, hn⟩ : ∃ n, u.regs[t]? = some n := ⟨_, List.getElem?_eq_getElem hlt⟩
 obtain ⟨r, hr⟩ : ∃ r, u.code[t]? = some r := ⟨_, List.getElem?_eq_getElem (by omega)⟩
 have rn : (iRs u.regs)[t]? = some [iD n] := by rw [iRs_at, hn]; rfl
 have rr : (codeRs u.code)[t]? = some [.sl false 7 (insRs r)] := by rw [codeRs_at, hr]; rfl
 have hrm := List.mem_of_getElem? hr
 have hgn : u.regs.getD t 0 = n := by rw [List.getD_eq_getElem?_getD, hn]; rfl
 have hgr : u.code.getD t [] = r := by rw [List.getD_eq_getElem?_getD, hr]; rfl
 have bad : rowB n u.init.length r = false → unitB u = false := fun h => by rw [hU]; exact range_not hlt (by rw [hgn, hgr]; exact h)
 have htc : t < u.code.length := by omega
 have cr := rowL_ok r (hu.row r hrm) (hu.ins r hrm) n u.init.length
 by_cases p0 : n < 0
 ·have d0 : decide (n < 0) = true := by simpa using p0
  rw [bad (by rw [rowB_Q]; simp; omega)]
  repeat' first | refine dr (id := 14) T 16 (by kernel_rfl) ?_ | refine gn ?_ | (apply VCg.step T rfl rfl); focus ((try simp (disch := omega) only [go_sem, Nat.reduceBEq, d0]); (exact rfl)) | refine VCg.gstep T rfl rfl rfl rfl ?_; try simp only [GB] | refine vs T rfl fun K hK => ?_; (try simp (disch := omega) only [go_sem, Nat.reduceBEq, hd, rn, iRs_len]); (first | refine hK _ _ ?_; clear hK K | refine ⟨?_, hK _ _ ?_⟩ <;> clear hK K; focus (try omega)) | refine st rfl ?_ | refine sc rfl ?_ | refine nl ?_ | refine gs rfl rfl ?_ | exact ret1 T (List.nil_sublist _) ⟨rfl, rfl⟩
 have d0 : decide (n < 0) = false := by simpa using p0
 by_cases p1 : n > 6
 ·have d1 : decide (n > 6) = true := by simpa using p1
  rw [bad (by rw [rowB_Q]; simp; omega)]
  repeat' first | refine dr (id := 14) T 16 (by kernel_rfl) ?_ | refine gn ?_ | (first | apply VCg.step T rfl rfl | apply exF); focus ((try simp (disch := omega) only [go_sem, Nat.reduceBEq, d0, d1]); (exact rfl)) | refine VCg.gstep T rfl rfl rfl rfl ?_; try simp only [GB] | refine vs T rfl fun K hK => ?_; (try simp (disch := omega) only [go_sem, Nat.reduceBEq, hd, rn, iRs_len]); (first | refine hK _ _ ?_; clear hK K | refine ⟨?_, hK _ _ ?_⟩ <;> clear hK K; focus (try omega)) | refine st rfl ?_ | refine sc rfl ?_ | refine nl ?_ | refine gs rfl rfl ?_ | exact ret1 T (List.nil_sublist _) ⟨rfl, rfl⟩
 have d1 : decide (n > 6) = false := by simpa using p1
 cases hQ : rowQ n u.init.length r with
 | false =>
  rw [hQ] at cr
  rw [bad (by rw [rowB_Q, hQ]; simp)]
  repeat' first | refine dr (id := 14) T 16 (by kernel_rfl) ?_ | refine gn ?_ | (first | apply VCg.step T rfl rfl | apply exF); focus ((try simp (disch := omega) only [go_sem, Nat.reduceBEq, rr, d0, d1, iRs_len, codeRs_len]); (first | exact rfl | refine ⟨?_, rfl⟩; try omega)) | refine VCg.gstep T rfl rfl rfl rfl ?_; try simp only [GB] | refine vs T rfl fun K hK => ?_; (try simp (disch := omega) only [go_sem, Nat.reduceBEq, hd, rn, Bool.not_false, iRs_len]); (first | refine hK _ _ ?_; clear hK K | refine ⟨?_, hK _ _ ?_⟩ <;> clear hK K; focus (try omega) | refine Op1.callp rfl rfl (cr) rfl ?_; refine hK _ _ ?_; clear hK K) | refine st rfl ?_ | refine sc rfl ?_ | refine nl ?_ | refine gs rfl rfl ?_ | exact ret1 T (List.nil_sublist _) ⟨rfl, rfl⟩
 | true =>
  rw [hQ] at cr
  repeat' first | refine dr (id := 14) T 16 (by kernel_rfl) ?_ | refine gn ?_ | (first | apply VCg.step T rfl rfl | apply exF); focus ((try simp (disch := omega) only [go_sem, Nat.reduceBEq, rr, d0, d1, iRs_len, codeRs_len]); (first | exact rfl | refine ⟨?_, rfl⟩; try omega)) | refine VCg.gstep T rfl rfl rfl rfl ?_; try simp only [GB] | refine vs T rfl fun K hK => ?_; (try simp (disch := omega) only [go_sem, Nat.reduceBEq, hd, hw, rn, Bool.not_true, iRs_len]); (first | refine hK _ _ ?_; clear hK K | refine ⟨?_, hK _ _ ?_⟩ <;> clear hK K; focus (try omega) | refine Op1.callp rfl rfl (cr) rfl ?_; refine hK _ _ ?_; clear hK K) | refine st rfl ?_ | refine sc rfl ?_ | refine nl ?_ | refine gs rfl rfl ?_
  refine ⟨⟨t + 1, by omega, fun j hj => ?_⟩, Weak.sub ?_, by simp only []; omega⟩
  ·rcases Nat.lt_or_ge j t with h' | h'
   ·exact hs j h'
   ·obtain rfl : j = t := by omega
    rw [hgn, hgr, rowB_Q, hQ]; simp; omega
  ·simp [sub, upd]
end Go.Proofs.YtomcmfbpmkklmaaGreat
