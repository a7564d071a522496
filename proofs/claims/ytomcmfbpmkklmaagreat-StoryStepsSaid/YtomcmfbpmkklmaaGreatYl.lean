/- What an instruction has. No condition. -/
import Derived.Test.YtomcmfbpmkklmaaGreatXg
import Derived.Test.YtomcmfbpmkklmaaGreatXk
namespace Go.Proofs.YtomcmfbpmkklmaaGreat
set_option maxHeartbeats 16000000
set_option linter.unusedSimpArgs false
set_option linter.unusedVariables false
set_option maxRecDepth 20000
open Go Go.Proofs Go.Vc
structure Nd where
 r : Bool
 l : Bool
 e : Bool
 f : Bool
 n : Bool
 t : Bool
def ndF (op : Int) : Option Nd :=
 if op = 2 then some ⟨true, false, true, false, false, false⟩ else
 if op = 3 then some ⟨true, true, false, false, false, false⟩ else
 if op = 4 then some ⟨false, true, true, false, false, false⟩ else
 if op = 5 then some ⟨true, true, true, true, false, false⟩ else
 if op = 6 then some ⟨true, true, true, false, false, false⟩ else
 if op = 7 then some ⟨true, true, true, false, false, false⟩ else
 if op = 8 then some ⟨false, false, false, false, false, false⟩ else
 if op = 9 then some ⟨false, true, true, false, true, false⟩ else
 if op = 20 then some ⟨false, false, false, false, false, true⟩ else
 if op = 21 then some ⟨false, false, true, false, false, true⟩ else
 none
def placeB (has : Bool) (n m : Int) : Bool := match has with | true => inB n m | false => n == 0
def codeN (has : Bool) (l : List Opc) (regs : Int) : Bool := match has with | true => codeB l [] regs 0 | false => decide (l.length = 0)
def oneB (x : Ins) (regs locs many : Int) : Bool := match ndF x.op with
 | none => false
 | some d => placeB d.r x.reg regs && placeB d.l x.loc locs && placeB d.t x.to many && codeN d.e x.e regs && codeN d.f x.f regs && (d.n || !x.ne)
attribute [local irreducible] retQ VCg VCw VCx
theorem one07_2 (reg loc : Int) (e f : List Opc) (ne : Bool) (to : Int) (he : e.length ≤ 1000) (hf : f.length ≤ 1000) (regs locs many : Int) : Pure Tryz.prog 135 [.agg [iD 2, iD reg, iD loc, opsD e, opsD f, bD ne, iD to], iD regs, iD locs, iD many] (bD (oneB ⟨2, reg, loc, e, f, ne, to⟩ regs locs many)) := by
 have cp : Pure Tryz.prog 160 [iD 2] (.tup [sD ⟨#[114, 101]⟩, bD true]) := parts07_ok 2
 have ci1 := in07_ok reg regs
 have ci2 := in07_ok loc locs
 have ci3 := in07_ok to many
 have ce : Pure Tryz.prog 163 [opsD e, .gs none 0, iD regs, iD 0] (bD (codeB e [] regs 0)) := Fun.argsW (right06_ok e he [] (by simp) regs 0) (fz_second fz_nil)
 have cf : Pure Tryz.prog 163 [opsD f, .gs none 0, iD regs, iD 0] (bD (codeB f [] regs 0)) := Fun.argsW (right06_ok f hf [] (by simp) regs 0) (fz_second fz_nil)
 have qr : Pure Tryz.prog 161 [sD ⟨#[114, 101]⟩, .is (.int .u8 114)] (bD true) := has07_ok ⟨#[114, 101]⟩ (by decide) 114
 have ql : Pure Tryz.prog 161 [sD ⟨#[114, 101]⟩, .is (.int .u8 108)] (bD false) := has07_ok ⟨#[114, 101]⟩ (by decide) 108
 have qe : Pure Tryz.prog 161 [sD ⟨#[114, 101]⟩, .is (.int .u8 101)] (bD true) := has07_ok ⟨#[114, 101]⟩ (by decide) 101
 have qf : Pure Tryz.prog 161 [sD ⟨#[114, 101]⟩, .is (.int .u8 102)] (bD false) := has07_ok ⟨#[114, 101]⟩ (by decide) 102
 have qn : Pure Tryz.prog 161 [sD ⟨#[114, 101]⟩, .is (.int .u8 110)] (bD false) := has07_ok ⟨#[114, 101]⟩ (by decide) 110
 have qt : Pure Tryz.prog 161 [sD ⟨#[114, 101]⟩, .is (.int .u8 116)] (bD false) := has07_ok ⟨#[114, 101]⟩ (by decide) 116
 have hO : oneB ⟨2, reg, loc, e, f, ne, to⟩ regs locs many = (inB reg regs && (loc == 0) && (to == 0) && codeB e [] regs 0 && decide (f.length = 0) && (false || !ne)) := rfl
 rw [hO]
 refine Fun.of T [.tmp 8] Tryz.func135 rfl Tryz.ntmps135 Tryz.results135 rfl (by kernel_rfl) ?_
 repeat' first | refine vb rfl rfl rfl rfl ?_ | refine vs T rfl fun K hK => ?_; (try simp (disch := omega) only [go_sem, Nat.reduceBEq, Nat.reduceAdd, opRs_len, Bool.not_true, Bool.not_false]); (first | refine hK _ _ ?_; clear hK K | refine Op1.callp rfl rfl (cp) rfl ?_; refine hK _ _ ?_; clear hK K | refine Op1.callp rfl rfl (ci1) rfl ?_; refine hK _ _ ?_; clear hK K | refine Op1.callp rfl rfl (ce) rfl ?_; refine hK _ _ ?_; clear hK K | refine Op1.callp rfl rfl (qr) rfl ?_; refine hK _ _ ?_; clear hK K | refine Op1.callp rfl rfl (ql) rfl ?_; refine hK _ _ ?_; clear hK K | refine Op1.callp rfl rfl (qe) rfl ?_; refine hK _ _ ?_; clear hK K | refine Op1.callp rfl rfl (qf) rfl ?_; refine hK _ _ ?_; clear hK K | refine Op1.callp rfl rfl (qn) rfl ?_; refine hK _ _ ?_; clear hK K | refine Op1.callp rfl rfl (qt) rfl ?_; refine hK _ _ ?_; clear hK K) | refine st rfl ?_ | refine sc rfl ?_ | refine nl ?_ | refine gs rfl rfl ?_ | refine gu rfl rfl ?_ | refine ret1 T (List.nil_sublist _) ?_; (try simp only [upd, Nat.reduceBEq, cond_true, cond_false, and_true]) | with_reducible refine gsplit_intro (fun hc => ?_) (fun hc => ?_) <;> (try simp only [decide_eq_true_eq, decide_eq_false_iff_not, bne_iff_ne, bne_eq_false_iff_eq, ne_eq, Bool.not_eq_true', Bool.not_eq_false', gt_iff_lt, Int.not_lt] at hc)
 all_goals clear cp ci1 ci2 ci3 ce cf qr ql qe qf qn qt hO
 all_goals first | (simp_all [-List.length_eq_zero_iff]; done) | (cases ne <;> simp_all [-List.length_eq_zero_iff]; done) | (simp_all [-List.length_eq_zero_iff]; omega) | (cases ne <;> simp_all [-List.length_eq_zero_iff] <;> omega)
theorem one07_3 (reg loc : Int) (e f : List Opc) (ne : Bool) (to : Int) (he : e.length ≤ 1000) (hf : f.length ≤ 1000) (regs locs many : Int) : Pure Tryz.prog 135 [.agg [iD 3, iD reg, iD loc, opsD e, opsD f, bD ne, iD to], iD regs, iD locs, iD many] (bD (oneB ⟨3, reg, loc, e, f, ne, to⟩ regs locs many)) := by
 have cp : Pure Tryz.prog 160 [iD 3] (.tup [sD ⟨#[114, 108]⟩, bD true]) := parts07_ok 3
 have ci1 := in07_ok reg regs
 have ci2 := in07_ok loc locs
 have ci3 := in07_ok to many
 have ce : Pure Tryz.prog 163 [opsD e, .gs none 0, iD regs, iD 0] (bD (codeB e [] regs 0)) := Fun.argsW (right06_ok e he [] (by simp) regs 0) (fz_second fz_nil)
 have cf : Pure Tryz.prog 163 [opsD f, .gs none 0, iD regs, iD 0] (bD (codeB f [] regs 0)) := Fun.argsW (right06_ok f hf [] (by simp) regs 0) (fz_second fz_nil)
 have qr : Pure Tryz.prog 161 [sD ⟨#[114, 108]⟩, .is (.int .u8 114)] (bD true) := has07_ok ⟨#[114, 108]⟩ (by decide) 114
 have ql : Pure Tryz.prog 161 [sD ⟨#[114, 108]⟩, .is (.int .u8 108)] (bD true) := has07_ok ⟨#[114, 108]⟩ (by decide) 108
 have qe : Pure Tryz.prog 161 [sD ⟨#[114, 108]⟩, .is (.int .u8 101)] (bD false) := has07_ok ⟨#[114, 108]⟩ (by decide) 101
 have qf : Pure Tryz.prog 161 [sD ⟨#[114, 108]⟩, .is (.int .u8 102)] (bD false) := has07_ok ⟨#[114, 108]⟩ (by decide) 102
 have qn : Pure Tryz.prog 161 [sD ⟨#[114, 108]⟩, .is (.int .u8 110)] (bD false) := has07_ok ⟨#[114, 108]⟩ (by decide) 110
 have qt : Pure Tryz.prog 161 [sD ⟨#[114, 108]⟩, .is (.int .u8 116)] (bD false) := has07_ok ⟨#[114, 108]⟩ (by decide) 116
 have hO : oneB ⟨3, reg, loc, e, f, ne, to⟩ regs locs many = (inB reg regs && inB loc locs && (to == 0) && decide (e.length = 0) && decide (f.length = 0) && (false || !ne)) := rfl
 rw [hO]
 refine Fun.of T [.tmp 8] Tryz.func135 rfl Tryz.ntmps135 Tryz.results135 rfl (by kernel_rfl) ?_
 repeat' first | refine vb rfl rfl rfl rfl ?_ | refine vs T rfl fun K hK => ?_; (try simp (disch := omega) only [go_sem, Nat.reduceBEq, Nat.reduceAdd, opRs_len, Bool.not_true, Bool.not_false]); (first | refine hK _ _ ?_; clear hK K | refine Op1.callp rfl rfl (cp) rfl ?_; refine hK _ _ ?_; clear hK K | refine Op1.callp rfl rfl (ci1) rfl ?_; refine hK _ _ ?_; clear hK K | refine Op1.callp rfl rfl (ci2) rfl ?_; refine hK _ _ ?_; clear hK K | refine Op1.callp rfl rfl (qr) rfl ?_; refine hK _ _ ?_; clear hK K | refine Op1.callp rfl rfl (ql) rfl ?_; refine hK _ _ ?_; clear hK K | refine Op1.callp rfl rfl (qe) rfl ?_; refine hK _ _ ?_; clear hK K | refine Op1.callp rfl rfl (qf) rfl ?_; refine hK _ _ ?_; clear hK K | refine Op1.callp rfl rfl (qn) rfl ?_; refine hK _ _ ?_; clear hK K | refine Op1.callp rfl rfl (qt) rfl ?_; refine hK _ _ ?_; clear hK K) | refine st rfl ?_ | refine sc rfl ?_ | refine nl ?_ | refine gs rfl rfl ?_ | refine gu rfl rfl ?_ | refine ret1 T (List.nil_sublist _) ?_; (try simp only [upd, Nat.reduceBEq, cond_true, cond_false, and_true]) | with_reducible refine gsplit_intro (fun hc => ?_) (fun hc => ?_) <;> (try simp only [decide_eq_true_eq, decide_eq_false_iff_not, bne_iff_ne, bne_eq_false_iff_eq, ne_eq, Bool.not_eq_true', Bool.not_eq_false', gt_iff_lt, Int.not_lt] at hc)
 all_goals clear cp ci1 ci2 ci3 ce cf qr ql qe qf qn qt hO
 all_goals first | (simp_all [-List.length_eq_zero_iff]; done) | (cases ne <;> simp_all [-List.length_eq_zero_iff]; done) | (simp_all [-List.length_eq_zero_iff]; omega) | (cases ne <;> simp_all [-List.length_eq_zero_iff] <;> omega)
theorem one07_4 (reg loc : Int) (e f : List Opc) (ne : Bool) (to : Int) (he : e.length ≤ 1000) (hf : f.length ≤ 1000) (regs locs many : Int) : Pure Tryz.prog 135 [.agg [iD 4, iD reg, iD loc, opsD e, opsD f, bD ne, iD to], iD regs, iD locs, iD many] (bD (oneB ⟨4, reg, loc, e, f, ne, to⟩ regs locs many)) := by
 have cp : Pure Tryz.prog 160 [iD 4] (.tup [sD ⟨#[108, 101]⟩, bD true]) := parts07_ok 4
 have ci1 := in07_ok reg regs
 have ci2 := in07_ok loc locs
 have ci3 := in07_ok to many
 have ce : Pure Tryz.prog 163 [opsD e, .gs none 0, iD regs, iD 0] (bD (codeB e [] regs 0)) := Fun.argsW (right06_ok e he [] (by simp) regs 0) (fz_second fz_nil)
 have cf : Pure Tryz.prog 163 [opsD f, .gs none 0, iD regs, iD 0] (bD (codeB f [] regs 0)) := Fun.argsW (right06_ok f hf [] (by simp) regs 0) (fz_second fz_nil)
 have qr : Pure Tryz.prog 161 [sD ⟨#[108, 101]⟩, .is (.int .u8 114)] (bD false) := has07_ok ⟨#[108, 101]⟩ (by decide) 114
 have ql : Pure Tryz.prog 161 [sD ⟨#[108, 101]⟩, .is (.int .u8 108)] (bD true) := has07_ok ⟨#[108, 101]⟩ (by decide) 108
 have qe : Pure Tryz.prog 161 [sD ⟨#[108, 101]⟩, .is (.int .u8 101)] (bD true) := has07_ok ⟨#[108, 101]⟩ (by decide) 101
 have qf : Pure Tryz.prog 161 [sD ⟨#[108, 101]⟩, .is (.int .u8 102)] (bD false) := has07_ok ⟨#[108, 101]⟩ (by decide) 102
 have qn : Pure Tryz.prog 161 [sD ⟨#[108, 101]⟩, .is (.int .u8 110)] (bD false) := has07_ok ⟨#[108, 101]⟩ (by decide) 110
 have qt : Pure Tryz.prog 161 [sD ⟨#[108, 101]⟩, .is (.int .u8 116)] (bD false) := has07_ok ⟨#[108, 101]⟩ (by decide) 116
 have hO : oneB ⟨4, reg, loc, e, f, ne, to⟩ regs locs many = ((reg == 0) && inB loc locs && (to == 0) && codeB e [] regs 0 && decide (f.length = 0) && (false || !ne)) := rfl
 rw [hO]
 refine Fun.of T [.tmp 8] Tryz.func135 rfl Tryz.ntmps135 Tryz.results135 rfl (by kernel_rfl) ?_
 repeat' first | refine vb rfl rfl rfl rfl ?_ | refine vs T rfl fun K hK => ?_; (try simp (disch := omega) only [go_sem, Nat.reduceBEq, Nat.reduceAdd, opRs_len, Bool.not_true, Bool.not_false]); (first | refine hK _ _ ?_; clear hK K | refine Op1.callp rfl rfl (cp) rfl ?_; refine hK _ _ ?_; clear hK K | refine Op1.callp rfl rfl (ci2) rfl ?_; refine hK _ _ ?_; clear hK K | refine Op1.callp rfl rfl (ce) rfl ?_; refine hK _ _ ?_; clear hK K | refine Op1.callp rfl rfl (qr) rfl ?_; refine hK _ _ ?_; clear hK K | refine Op1.callp rfl rfl (ql) rfl ?_; refine hK _ _ ?_; clear hK K | refine Op1.callp rfl rfl (qe) rfl ?_; refine hK _ _ ?_; clear hK K | refine Op1.callp rfl rfl (qf) rfl ?_; refine hK _ _ ?_; clear hK K | refine Op1.callp rfl rfl (qn) rfl ?_; refine hK _ _ ?_; clear hK K | refine Op1.callp rfl rfl (qt) rfl ?_; refine hK _ _ ?_; clear hK K) | refine st rfl ?_ | refine sc rfl ?_ | refine nl ?_ | refine gs rfl rfl ?_ | refine gu rfl rfl ?_ | refine ret1 T (List.nil_sublist _) ?_; (try simp only [upd, Nat.reduceBEq, cond_true, cond_false, and_true]) | with_reducible refine gsplit_intro (fun hc => ?_) (fun hc => ?_) <;> (try simp only [decide_eq_true_eq, decide_eq_false_iff_not, bne_iff_ne, bne_eq_false_iff_eq, ne_eq, Bool.not_eq_true', Bool.not_eq_false', gt_iff_lt, Int.not_lt] at hc)
 all_goals clear cp ci1 ci2 ci3 ce cf qr ql qe qf qn qt hO
 all_goals first | (simp_all [-List.length_eq_zero_iff]; done) | (cases ne <;> simp_all [-List.length_eq_zero_iff]; done) | (simp_all [-List.length_eq_zero_iff]; omega) | (cases ne <;> simp_all [-List.length_eq_zero_iff] <;> omega)
theorem one07_5 (reg loc : Int) (e f : List Opc) (ne : Bool) (to : Int) (he : e.length ≤ 1000) (hf : f.length ≤ 1000) (regs locs many : Int) : Pure Tryz.prog 135 [.agg [iD 5, iD reg, iD loc, opsD e, opsD f, bD ne, iD to], iD regs, iD locs, iD many] (bD (oneB ⟨5, reg, loc, e, f, ne, to⟩ regs locs many)) := by
 have cp : Pure Tryz.prog 160 [iD 5] (.tup [sD ⟨#[114, 108, 101, 102]⟩, bD true]) := parts07_ok 5
 have ci1 := in07_ok reg regs
 have ci2 := in07_ok loc locs
 have ci3 := in07_ok to many
 have ce : Pure Tryz.prog 163 [opsD e, .gs none 0, iD regs, iD 0] (bD (codeB e [] regs 0)) := Fun.argsW (right06_ok e he [] (by simp) regs 0) (fz_second fz_nil)
 have cf : Pure Tryz.prog 163 [opsD f, .gs none 0, iD regs, iD 0] (bD (codeB f [] regs 0)) := Fun.argsW (right06_ok f hf [] (by simp) regs 0) (fz_second fz_nil)
 have qr : Pure Tryz.prog 161 [sD ⟨#[114, 108, 101, 102]⟩, .is (.int .u8 114)] (bD true) := has07_ok ⟨#[114, 108, 101, 102]⟩ (by decide) 114
 have ql : Pure Tryz.prog 161 [sD ⟨#[114, 108, 101, 102]⟩, .is (.int .u8 108)] (bD true) := has07_ok ⟨#[114, 108, 101, 102]⟩ (by decide) 108
 have qe : Pure Tryz.prog 161 [sD ⟨#[114, 108, 101, 102]⟩, .is (.int .u8 101)] (bD true) := has07_ok ⟨#[114, 108, 101, 102]⟩ (by decide) 101
 have qf : Pure Tryz.prog 161 [sD ⟨#[114, 108, 101, 102]⟩, .is (.int .u8 102)] (bD true) := has07_ok ⟨#[114, 108, 101, 102]⟩ (by decide) 102
 have qn : Pure Tryz.prog 161 [sD ⟨#[114, 108, 101, 102]⟩, .is (.int .u8 110)] (bD false) := has07_ok ⟨#[114, 108, 101, 102]⟩ (by decide) 110
 have qt : Pure Tryz.prog 161 [sD ⟨#[114, 108, 101, 102]⟩, .is (.int .u8 116)] (bD false) := has07_ok ⟨#[114, 108, 101, 102]⟩ (by decide) 116
 have hO : oneB ⟨5, reg, loc, e, f, ne, to⟩ regs locs many = (inB reg regs && inB loc locs && (to == 0) && codeB e [] regs 0 && codeB f [] regs 0 && (false || !ne)) := rfl
 rw [hO]
 refine Fun.of T [.tmp 8] Tryz.func135 rfl Tryz.ntmps135 Tryz.results135 rfl (by kernel_rfl) ?_
 repeat' first | refine vb rfl rfl rfl rfl ?_ | refine vs T rfl fun K hK => ?_; (try simp (disch := omega) only [go_sem, Nat.reduceBEq, Nat.reduceAdd, Bool.not_true, Bool.not_false]); (first | refine hK _ _ ?_; clear hK K | refine Op1.callp rfl rfl (cp) rfl ?_; refine hK _ _ ?_; clear hK K | refine Op1.callp rfl rfl (ci1) rfl ?_; refine hK _ _ ?_; clear hK K | refine Op1.callp rfl rfl (ci2) rfl ?_; refine hK _ _ ?_; clear hK K | refine Op1.callp rfl rfl (ce) rfl ?_; refine hK _ _ ?_; clear hK K | refine Op1.callp rfl rfl (cf) rfl ?_; refine hK _ _ ?_; clear hK K | refine Op1.callp rfl rfl (qr) rfl ?_; refine hK _ _ ?_; clear hK K | refine Op1.callp rfl rfl (ql) rfl ?_; refine hK _ _ ?_; clear hK K | refine Op1.callp rfl rfl (qe) rfl ?_; refine hK _ _ ?_; clear hK K | refine Op1.callp rfl rfl (qf) rfl ?_; refine hK _ _ ?_; clear hK K | refine Op1.callp rfl rfl (qn) rfl ?_; refine hK _ _ ?_; clear hK K | refine Op1.callp rfl rfl (qt) rfl ?_; refine hK _ _ ?_; clear hK K) | refine st rfl ?_ | refine sc rfl ?_ | refine nl ?_ | refine gs rfl rfl ?_ | refine gu rfl rfl ?_ | refine ret1 T (List.nil_sublist _) ?_; (try simp only [upd, Nat.reduceBEq, cond_true, cond_false, and_true]) | with_reducible refine gsplit_intro (fun hc => ?_) (fun hc => ?_) <;> (try simp only [bne_iff_ne, bne_eq_false_iff_eq, ne_eq, Bool.not_eq_true', Bool.not_eq_false'] at hc)
 all_goals clear cp ci1 ci2 ci3 ce cf qr ql qe qf qn qt hO
 all_goals first | (simp_all [-List.length_eq_zero_iff]; done) | (cases ne <;> simp_all [-List.length_eq_zero_iff]; done) | (simp_all [-List.length_eq_zero_iff]; omega) | (cases ne <;> simp_all [-List.length_eq_zero_iff] <;> omega)
theorem one07_6 (reg loc : Int) (e f : List Opc) (ne : Bool) (to : Int) (he : e.length ≤ 1000) (hf : f.length ≤ 1000) (regs locs many : Int) : Pure Tryz.prog 135 [.agg [iD 6, iD reg, iD loc, opsD e, opsD f, bD ne, iD to], iD regs, iD locs, iD many] (bD (oneB ⟨6, reg, loc, e, f, ne, to⟩ regs locs many)) := by
 have cp : Pure Tryz.prog 160 [iD 6] (.tup [sD ⟨#[114, 108, 101]⟩, bD true]) := parts07_ok 6
 have ci1 := in07_ok reg regs
 have ci2 := in07_ok loc locs
 have ci3 := in07_ok to many
 have ce : Pure Tryz.prog 163 [opsD e, .gs none 0, iD regs, iD 0] (bD (codeB e [] regs 0)) := Fun.argsW (right06_ok e he [] (by simp) regs 0) (fz_second fz_nil)
 have cf : Pure Tryz.prog 163 [opsD f, .gs none 0, iD regs, iD 0] (bD (codeB f [] regs 0)) := Fun.argsW (right06_ok f hf [] (by simp) regs 0) (fz_second fz_nil)
 have qr : Pure Tryz.prog 161 [sD ⟨#[114, 108, 101]⟩, .is (.int .u8 114)] (bD true) := has07_ok ⟨#[114, 108, 101]⟩ (by decide) 114
 have ql : Pure Tryz.prog 161 [sD ⟨#[114, 108, 101]⟩, .is (.int .u8 108)] (bD true) := has07_ok ⟨#[114, 108, 101]⟩ (by decide) 108
 have qe : Pure Tryz.prog 161 [sD ⟨#[114, 108, 101]⟩, .is (.int .u8 101)] (bD true) := has07_ok ⟨#[114, 108, 101]⟩ (by decide) 101
 have qf : Pure Tryz.prog 161 [sD ⟨#[114, 108, 101]⟩, .is (.int .u8 102)] (bD false) := has07_ok ⟨#[114, 108, 101]⟩ (by decide) 102
 have qn : Pure Tryz.prog 161 [sD ⟨#[114, 108, 101]⟩, .is (.int .u8 110)] (bD false) := has07_ok ⟨#[114, 108, 101]⟩ (by decide) 110
 have qt : Pure Tryz.prog 161 [sD ⟨#[114, 108, 101]⟩, .is (.int .u8 116)] (bD false) := has07_ok ⟨#[114, 108, 101]⟩ (by decide) 116
 have hO : oneB ⟨6, reg, loc, e, f, ne, to⟩ regs locs many = (inB reg regs && inB loc locs && (to == 0) && codeB e [] regs 0 && decide (f.length = 0) && (false || !ne)) := rfl
 rw [hO]
 refine Fun.of T [.tmp 8] Tryz.func135 rfl Tryz.ntmps135 Tryz.results135 rfl (by kernel_rfl) ?_
 repeat' first | refine vb rfl rfl rfl rfl ?_ | refine vs T rfl fun K hK => ?_; (try simp (disch := omega) only [go_sem, Nat.reduceBEq, Nat.reduceAdd, opRs_len, Bool.not_true, Bool.not_false]); (first | refine hK _ _ ?_; clear hK K | refine Op1.callp rfl rfl (cp) rfl ?_; refine hK _ _ ?_; clear hK K | refine Op1.callp rfl rfl (ci1) rfl ?_; refine hK _ _ ?_; clear hK K | refine Op1.callp rfl rfl (ci2) rfl ?_; refine hK _ _ ?_; clear hK K | refine Op1.callp rfl rfl (ce) rfl ?_; refine hK _ _ ?_; clear hK K | refine Op1.callp rfl rfl (qr) rfl ?_; refine hK _ _ ?_; clear hK K | refine Op1.callp rfl rfl (ql) rfl ?_; refine hK _ _ ?_; clear hK K | refine Op1.callp rfl rfl (qe) rfl ?_; refine hK _ _ ?_; clear hK K | refine Op1.callp rfl rfl (qf) rfl ?_; refine hK _ _ ?_; clear hK K | refine Op1.callp rfl rfl (qn) rfl ?_; refine hK _ _ ?_; clear hK K | refine Op1.callp rfl rfl (qt) rfl ?_; refine hK _ _ ?_; clear hK K) | refine st rfl ?_ | refine sc rfl ?_ | refine nl ?_ | refine gs rfl rfl ?_ | refine gu rfl rfl ?_ | refine ret1 T (List.nil_sublist _) ?_; (try simp only [upd, Nat.reduceBEq, cond_true, cond_false, and_true]) | with_reducible refine gsplit_intro (fun hc => ?_) (fun hc => ?_) <;> (try simp only [decide_eq_true_eq, decide_eq_false_iff_not, bne_iff_ne, bne_eq_false_iff_eq, ne_eq, Bool.not_eq_true', Bool.not_eq_false', gt_iff_lt, Int.not_lt] at hc)
 all_goals clear cp ci1 ci2 ci3 ce cf qr ql qe qf qn qt hO
 all_goals first | (simp_all [-List.length_eq_zero_iff]; done) | (cases ne <;> simp_all [-List.length_eq_zero_iff]; done) | (simp_all [-List.length_eq_zero_iff]; omega) | (cases ne <;> simp_all [-List.length_eq_zero_iff] <;> omega)
theorem one07_7 (reg loc : Int) (e f : List Opc) (ne : Bool) (to : Int) (he : e.length ≤ 1000) (hf : f.length ≤ 1000) (regs locs many : Int) : Pure Tryz.prog 135 [.agg [iD 7, iD reg, iD loc, opsD e, opsD f, bD ne, iD to], iD regs, iD locs, iD many] (bD (oneB ⟨7, reg, loc, e, f, ne, to⟩ regs locs many)) := by
 have cp : Pure Tryz.prog 160 [iD 7] (.tup [sD ⟨#[114, 108, 101]⟩, bD true]) := parts07_ok 7
 have ci1 := in07_ok reg regs
 have ci2 := in07_ok loc locs
 have ci3 := in07_ok to many
 have ce : Pure Tryz.prog 163 [opsD e, .gs none 0, iD regs, iD 0] (bD (codeB e [] regs 0)) := Fun.argsW (right06_ok e he [] (by simp) regs 0) (fz_second fz_nil)
 have cf : Pure Tryz.prog 163 [opsD f, .gs none 0, iD regs, iD 0] (bD (codeB f [] regs 0)) := Fun.argsW (right06_ok f hf [] (by simp) regs 0) (fz_second fz_nil)
 have qr : Pure Tryz.prog 161 [sD ⟨#[114, 108, 101]⟩, .is (.int .u8 114)] (bD true) := has07_ok ⟨#[114, 108, 101]⟩ (by decide) 114
 have ql : Pure Tryz.prog 161 [sD ⟨#[114, 108, 101]⟩, .is (.int .u8 108)] (bD true) := has07_ok ⟨#[114, 108, 101]⟩ (by decide) 108
 have qe : Pure Tryz.prog 161 [sD ⟨#[114, 108, 101]⟩, .is (.int .u8 101)] (bD true) := has07_ok ⟨#[114, 108, 101]⟩ (by decide) 101
 have qf : Pure Tryz.prog 161 [sD ⟨#[114, 108, 101]⟩, .is (.int .u8 102)] (bD false) := has07_ok ⟨#[114, 108, 101]⟩ (by decide) 102
 have qn : Pure Tryz.prog 161 [sD ⟨#[114, 108, 101]⟩, .is (.int .u8 110)] (bD false) := has07_ok ⟨#[114, 108, 101]⟩ (by decide) 110
 have qt : Pure Tryz.prog 161 [sD ⟨#[114, 108, 101]⟩, .is (.int .u8 116)] (bD false) := has07_ok ⟨#[114, 108, 101]⟩ (by decide) 116
 have hO : oneB ⟨7, reg, loc, e, f, ne, to⟩ regs locs many = (inB reg regs && inB loc locs && (to == 0) && codeB e [] regs 0 && decide (f.length = 0) && (false || !ne)) := rfl
 rw [hO]
 refine Fun.of T [.tmp 8] Tryz.func135 rfl Tryz.ntmps135 Tryz.results135 rfl (by kernel_rfl) ?_
 repeat' first | refine vb rfl rfl rfl rfl ?_ | refine vs T rfl fun K hK => ?_; (try simp (disch := omega) only [go_sem, Nat.reduceBEq, Nat.reduceAdd, opRs_len, Bool.not_true, Bool.not_false]); (first | refine hK _ _ ?_; clear hK K | refine Op1.callp rfl rfl (cp) rfl ?_; refine hK _ _ ?_; clear hK K | refine Op1.callp rfl rfl (ci1) rfl ?_; refine hK _ _ ?_; clear hK K | refine Op1.callp rfl rfl (ci2) rfl ?_; refine hK _ _ ?_; clear hK K | refine Op1.callp rfl rfl (ce) rfl ?_; refine hK _ _ ?_; clear hK K | refine Op1.callp rfl rfl (qr) rfl ?_; refine hK _ _ ?_; clear hK K | refine Op1.callp rfl rfl (ql) rfl ?_; refine hK _ _ ?_; clear hK K | refine Op1.callp rfl rfl (qe) rfl ?_; refine hK _ _ ?_; clear hK K | refine Op1.callp rfl rfl (qf) rfl ?_; refine hK _ _ ?_; clear hK K | refine Op1.callp rfl rfl (qn) rfl ?_; refine hK _ _ ?_; clear hK K | refine Op1.callp rfl rfl (qt) rfl ?_; refine hK _ _ ?_; clear hK K) | refine st rfl ?_ | refine sc rfl ?_ | refine nl ?_ | refine gs rfl rfl ?_ | refine gu rfl rfl ?_ | refine ret1 T (List.nil_sublist _) ?_; (try simp only [upd, Nat.reduceBEq, cond_true, cond_false, and_true]) | with_reducible refine gsplit_intro (fun hc => ?_) (fun hc => ?_) <;> (try simp only [decide_eq_true_eq, decide_eq_false_iff_not, bne_iff_ne, bne_eq_false_iff_eq, ne_eq, Bool.not_eq_true', Bool.not_eq_false', gt_iff_lt, Int.not_lt] at hc)
 all_goals clear cp ci1 ci2 ci3 ce cf qr ql qe qf qn qt hO
 all_goals first | (simp_all [-List.length_eq_zero_iff]; done) | (cases ne <;> simp_all [-List.length_eq_zero_iff]; done) | (simp_all [-List.length_eq_zero_iff]; omega) | (cases ne <;> simp_all [-List.length_eq_zero_iff] <;> omega)
theorem one07_8 (reg loc : Int) (e f : List Opc) (ne : Bool) (to : Int) (he : e.length ≤ 1000) (hf : f.length ≤ 1000) (regs locs many : Int) : Pure Tryz.prog 135 [.agg [iD 8, iD reg, iD loc, opsD e, opsD f, bD ne, iD to], iD regs, iD locs, iD many] (bD (oneB ⟨8, reg, loc, e, f, ne, to⟩ regs locs many)) := by
 have cp : Pure Tryz.prog 160 [iD 8] (.tup [sD ⟨#[]⟩, bD true]) := parts07_ok 8
 have ci1 := in07_ok reg regs
 have ci2 := in07_ok loc locs
 have ci3 := in07_ok to many
 have ce : Pure Tryz.prog 163 [opsD e, .gs none 0, iD regs, iD 0] (bD (codeB e [] regs 0)) := Fun.argsW (right06_ok e he [] (by simp) regs 0) (fz_second fz_nil)
 have cf : Pure Tryz.prog 163 [opsD f, .gs none 0, iD regs, iD 0] (bD (codeB f [] regs 0)) := Fun.argsW (right06_ok f hf [] (by simp) regs 0) (fz_second fz_nil)
 have qr : Pure Tryz.prog 161 [sD ⟨#[]⟩, .is (.int .u8 114)] (bD false) := has07_ok ⟨#[]⟩ (by decide) 114
 have ql : Pure Tryz.prog 161 [sD ⟨#[]⟩, .is (.int .u8 108)] (bD false) := has07_ok ⟨#[]⟩ (by decide) 108
 have qe : Pure Tryz.prog 161 [sD ⟨#[]⟩, .is (.int .u8 101)] (bD false) := has07_ok ⟨#[]⟩ (by decide) 101
 have qf : Pure Tryz.prog 161 [sD ⟨#[]⟩, .is (.int .u8 102)] (bD false) := has07_ok ⟨#[]⟩ (by decide) 102
 have qn : Pure Tryz.prog 161 [sD ⟨#[]⟩, .is (.int .u8 110)] (bD false) := has07_ok ⟨#[]⟩ (by decide) 110
 have qt : Pure Tryz.prog 161 [sD ⟨#[]⟩, .is (.int .u8 116)] (bD false) := has07_ok ⟨#[]⟩ (by decide) 116
 have hO : oneB ⟨8, reg, loc, e, f, ne, to⟩ regs locs many = ((reg == 0) && (loc == 0) && (to == 0) && decide (e.length = 0) && decide (f.length = 0) && (false || !ne)) := rfl
 rw [hO]
 refine Fun.of T [.tmp 8] Tryz.func135 rfl Tryz.ntmps135 Tryz.results135 rfl (by kernel_rfl) ?_
 repeat' first | refine vb rfl rfl rfl rfl ?_ | refine vs T rfl fun K hK => ?_; (try simp (disch := omega) only [go_sem, Nat.reduceBEq, Nat.reduceAdd, opRs_len, Bool.not_true, Bool.not_false]); (first | refine hK _ _ ?_; clear hK K | refine Op1.callp rfl rfl (cp) rfl ?_; refine hK _ _ ?_; clear hK K | refine Op1.callp rfl rfl (qr) rfl ?_; refine hK _ _ ?_; clear hK K | refine Op1.callp rfl rfl (ql) rfl ?_; refine hK _ _ ?_; clear hK K | refine Op1.callp rfl rfl (qe) rfl ?_; refine hK _ _ ?_; clear hK K | refine Op1.callp rfl rfl (qf) rfl ?_; refine hK _ _ ?_; clear hK K | refine Op1.callp rfl rfl (qn) rfl ?_; refine hK _ _ ?_; clear hK K | refine Op1.callp rfl rfl (qt) rfl ?_; refine hK _ _ ?_; clear hK K) | refine st rfl ?_ | refine sc rfl ?_ | refine nl ?_ | refine gs rfl rfl ?_ | refine gu rfl rfl ?_ | refine ret1 T (List.nil_sublist _) ?_; (try simp only [upd, Nat.reduceBEq, cond_true, cond_false, and_true]) | with_reducible refine gsplit_intro (fun hc => ?_) (fun hc => ?_) <;> (try simp only [decide_eq_true_eq, decide_eq_false_iff_not, bne_iff_ne, bne_eq_false_iff_eq, ne_eq, gt_iff_lt, Int.not_lt] at hc)
 all_goals clear cp ci1 ci2 ci3 ce cf qr ql qe qf qn qt hO
 all_goals first | (simp_all [-List.length_eq_zero_iff]; done) | (cases ne <;> simp_all [-List.length_eq_zero_iff]; done) | (simp_all [-List.length_eq_zero_iff]; omega) | (cases ne <;> simp_all [-List.length_eq_zero_iff] <;> omega)
theorem one07_9 (reg loc : Int) (e f : List Opc) (ne : Bool) (to : Int) (he : e.length ≤ 1000) (hf : f.length ≤ 1000) (regs locs many : Int) : Pure Tryz.prog 135 [.agg [iD 9, iD reg, iD loc, opsD e, opsD f, bD ne, iD to], iD regs, iD locs, iD many] (bD (oneB ⟨9, reg, loc, e, f, ne, to⟩ regs locs many)) := by
 have cp : Pure Tryz.prog 160 [iD 9] (.tup [sD ⟨#[108, 101, 110]⟩, bD true]) := parts07_ok 9
 have ci1 := in07_ok reg regs
 have ci2 := in07_ok loc locs
 have ci3 := in07_ok to many
 have ce : Pure Tryz.prog 163 [opsD e, .gs none 0, iD regs, iD 0] (bD (codeB e [] regs 0)) := Fun.argsW (right06_ok e he [] (by simp) regs 0) (fz_second fz_nil)
 have cf : Pure Tryz.prog 163 [opsD f, .gs none 0, iD regs, iD 0] (bD (codeB f [] regs 0)) := Fun.argsW (right06_ok f hf [] (by simp) regs 0) (fz_second fz_nil)
 have qr : Pure Tryz.prog 161 [sD ⟨#[108, 101, 110]⟩, .is (.int .u8 114)] (bD false) := has07_ok ⟨#[108, 101, 110]⟩ (by decide) 114
 have ql : Pure Tryz.prog 161 [sD ⟨#[108, 101, 110]⟩, .is (.int .u8 108)] (bD true) := has07_ok ⟨#[108, 101, 110]⟩ (by decide) 108
 have qe : Pure Tryz.prog 161 [sD ⟨#[108, 101, 110]⟩, .is (.int .u8 101)] (bD true) := has07_ok ⟨#[108, 101, 110]⟩ (by decide) 101
 have qf : Pure Tryz.prog 161 [sD ⟨#[108, 101, 110]⟩, .is (.int .u8 102)] (bD false) := has07_ok ⟨#[108, 101, 110]⟩ (by decide) 102
 have qn : Pure Tryz.prog 161 [sD ⟨#[108, 101, 110]⟩, .is (.int .u8 110)] (bD true) := has07_ok ⟨#[108, 101, 110]⟩ (by decide) 110
 have qt : Pure Tryz.prog 161 [sD ⟨#[108, 101, 110]⟩, .is (.int .u8 116)] (bD false) := has07_ok ⟨#[108, 101, 110]⟩ (by decide) 116
 have hO : oneB ⟨9, reg, loc, e, f, ne, to⟩ regs locs many = ((reg == 0) && inB loc locs && (to == 0) && codeB e [] regs 0 && decide (f.length = 0) && (true || !ne)) := rfl
 rw [hO]
 refine Fun.of T [.tmp 8] Tryz.func135 rfl Tryz.ntmps135 Tryz.results135 rfl (by kernel_rfl) ?_
 repeat' first | refine vb rfl rfl rfl rfl ?_ | refine vs T rfl fun K hK => ?_; (try simp (disch := omega) only [go_sem, Nat.reduceBEq, Nat.reduceAdd, opRs_len, Bool.not_true, Bool.not_false]); (first | refine hK _ _ ?_; clear hK K | refine Op1.callp rfl rfl (cp) rfl ?_; refine hK _ _ ?_; clear hK K | refine Op1.callp rfl rfl (ci2) rfl ?_; refine hK _ _ ?_; clear hK K | refine Op1.callp rfl rfl (ce) rfl ?_; refine hK _ _ ?_; clear hK K | refine Op1.callp rfl rfl (qr) rfl ?_; refine hK _ _ ?_; clear hK K | refine Op1.callp rfl rfl (ql) rfl ?_; refine hK _ _ ?_; clear hK K | refine Op1.callp rfl rfl (qe) rfl ?_; refine hK _ _ ?_; clear hK K | refine Op1.callp rfl rfl (qf) rfl ?_; refine hK _ _ ?_; clear hK K | refine Op1.callp rfl rfl (qn) rfl ?_; refine hK _ _ ?_; clear hK K | refine Op1.callp rfl rfl (qt) rfl ?_; refine hK _ _ ?_; clear hK K) | refine st rfl ?_ | refine sc rfl ?_ | refine nl ?_ | refine gs rfl rfl ?_ | refine gu rfl rfl ?_ | refine ret1 T (List.nil_sublist _) ?_; (try simp only [upd, Nat.reduceBEq, cond_true, cond_false, and_true]) | with_reducible refine gsplit_intro (fun hc => ?_) (fun hc => ?_) <;> (try simp only [decide_eq_true_eq, decide_eq_false_iff_not, bne_iff_ne, bne_eq_false_iff_eq, ne_eq, Bool.not_eq_true', Bool.not_eq_false', gt_iff_lt, Int.not_lt] at hc)
 all_goals clear cp ci1 ci2 ci3 ce cf qr ql qe qf qn qt hO
 all_goals first | (simp_all [-List.length_eq_zero_iff]; done) | (cases ne <;> simp_all [-List.length_eq_zero_iff]; done) | (simp_all [-List.length_eq_zero_iff]; omega) | (cases ne <;> simp_all [-List.length_eq_zero_iff] <;> omega)
theorem one07_20 (reg loc : Int) (e f : List Opc) (ne : Bool) (to : Int) (he : e.length ≤ 1000) (hf : f.length ≤ 1000) (regs locs many : Int) : Pure Tryz.prog 135 [.agg [iD 20, iD reg, iD loc, opsD e, opsD f, bD ne, iD to], iD regs, iD locs, iD many] (bD (oneB ⟨20, reg, loc, e, f, ne, to⟩ regs locs many)) := by
 have cp : Pure Tryz.prog 160 [iD 20] (.tup [sD ⟨#[116]⟩, bD true]) := parts07_ok 20
 have ci1 := in07_ok reg regs
 have ci2 := in07_ok loc locs
 have ci3 := in07_ok to many
 have ce : Pure Tryz.prog 163 [opsD e, .gs none 0, iD regs, iD 0] (bD (codeB e [] regs 0)) := Fun.argsW (right06_ok e he [] (by simp) regs 0) (fz_second fz_nil)
 have cf : Pure Tryz.prog 163 [opsD f, .gs none 0, iD regs, iD 0] (bD (codeB f [] regs 0)) := Fun.argsW (right06_ok f hf [] (by simp) regs 0) (fz_second fz_nil)
 have qr : Pure Tryz.prog 161 [sD ⟨#[116]⟩, .is (.int .u8 114)] (bD false) := has07_ok ⟨#[116]⟩ (by decide) 114
 have ql : Pure Tryz.prog 161 [sD ⟨#[116]⟩, .is (.int .u8 108)] (bD false) := has07_ok ⟨#[116]⟩ (by decide) 108
 have qe : Pure Tryz.prog 161 [sD ⟨#[116]⟩, .is (.int .u8 101)] (bD false) := has07_ok ⟨#[116]⟩ (by decide) 101
 have qf : Pure Tryz.prog 161 [sD ⟨#[116]⟩, .is (.int .u8 102)] (bD false) := has07_ok ⟨#[116]⟩ (by decide) 102
 have qn : Pure Tryz.prog 161 [sD ⟨#[116]⟩, .is (.int .u8 110)] (bD false) := has07_ok ⟨#[116]⟩ (by decide) 110
 have qt : Pure Tryz.prog 161 [sD ⟨#[116]⟩, .is (.int .u8 116)] (bD true) := has07_ok ⟨#[116]⟩ (by decide) 116
 have hO : oneB ⟨20, reg, loc, e, f, ne, to⟩ regs locs many = ((reg == 0) && (loc == 0) && inB to many && decide (e.length = 0) && decide (f.length = 0) && (false || !ne)) := rfl
 rw [hO]
 refine Fun.of T [.tmp 8] Tryz.func135 rfl Tryz.ntmps135 Tryz.results135 rfl (by kernel_rfl) ?_
 repeat' first | refine vb rfl rfl rfl rfl ?_ | refine vs T rfl fun K hK => ?_; (try simp (disch := omega) only [go_sem, Nat.reduceBEq, Nat.reduceAdd, opRs_len, Bool.not_true, Bool.not_false]); (first | refine hK _ _ ?_; clear hK K | refine Op1.callp rfl rfl (cp) rfl ?_; refine hK _ _ ?_; clear hK K | refine Op1.callp rfl rfl (ci3) rfl ?_; refine hK _ _ ?_; clear hK K | refine Op1.callp rfl rfl (qr) rfl ?_; refine hK _ _ ?_; clear hK K | refine Op1.callp rfl rfl (ql) rfl ?_; refine hK _ _ ?_; clear hK K | refine Op1.callp rfl rfl (qe) rfl ?_; refine hK _ _ ?_; clear hK K | refine Op1.callp rfl rfl (qf) rfl ?_; refine hK _ _ ?_; clear hK K | refine Op1.callp rfl rfl (qn) rfl ?_; refine hK _ _ ?_; clear hK K | refine Op1.callp rfl rfl (qt) rfl ?_; refine hK _ _ ?_; clear hK K) | refine st rfl ?_ | refine sc rfl ?_ | refine nl ?_ | refine gs rfl rfl ?_ | refine gu rfl rfl ?_ | refine ret1 T (List.nil_sublist _) ?_; (try simp only [upd, Nat.reduceBEq, cond_true, cond_false, and_true]) | with_reducible refine gsplit_intro (fun hc => ?_) (fun hc => ?_) <;> (try simp only [decide_eq_true_eq, decide_eq_false_iff_not, bne_iff_ne, bne_eq_false_iff_eq, ne_eq, Bool.not_eq_true', Bool.not_eq_false', gt_iff_lt, Int.not_lt] at hc)
 all_goals clear cp ci1 ci2 ci3 ce cf qr ql qe qf qn qt hO
 all_goals first | (simp_all [-List.length_eq_zero_iff]; done) | (cases ne <;> simp_all [-List.length_eq_zero_iff]; done) | (simp_all [-List.length_eq_zero_iff]; omega) | (cases ne <;> simp_all [-List.length_eq_zero_iff] <;> omega)
theorem one07_21 (reg loc : Int) (e f : List Opc) (ne : Bool) (to : Int) (he : e.length ≤ 1000) (hf : f.length ≤ 1000) (regs locs many : Int) : Pure Tryz.prog 135 [.agg [iD 21, iD reg, iD loc, opsD e, opsD f, bD ne, iD to], iD regs, iD locs, iD many] (bD (oneB ⟨21, reg, loc, e, f, ne, to⟩ regs locs many)) := by
 have cp : Pure Tryz.prog 160 [iD 21] (.tup [sD ⟨#[101, 116]⟩, bD true]) := parts07_ok 21
 have ci1 := in07_ok reg regs
 have ci2 := in07_ok loc locs
 have ci3 := in07_ok to many
 have ce : Pure Tryz.prog 163 [opsD e, .gs none 0, iD regs, iD 0] (bD (codeB e [] regs 0)) := Fun.argsW (right06_ok e he [] (by simp) regs 0) (fz_second fz_nil)
 have cf : Pure Tryz.prog 163 [opsD f, .gs none 0, iD regs, iD 0] (bD (codeB f [] regs 0)) := Fun.argsW (right06_ok f hf [] (by simp) regs 0) (fz_second fz_nil)
 have qr : Pure Tryz.prog 161 [sD ⟨#[101, 116]⟩, .is (.int .u8 114)] (bD false) := has07_ok ⟨#[101, 116]⟩ (by decide) 114
 have ql : Pure Tryz.prog 161 [sD ⟨#[101, 116]⟩, .is (.int .u8 108)] (bD false) := has07_ok ⟨#[101, 116]⟩ (by decide) 108
 have qe : Pure Tryz.prog 161 [sD ⟨#[101, 116]⟩, .is (.int .u8 101)] (bD true) := has07_ok ⟨#[101, 116]⟩ (by decide) 101
 have qf : Pure Tryz.prog 161 [sD ⟨#[101, 116]⟩, .is (.int .u8 102)] (bD false) := has07_ok ⟨#[101, 116]⟩ (by decide) 102
 have qn : Pure Tryz.prog 161 [sD ⟨#[101, 116]⟩, .is (.int .u8 110)] (bD false) := has07_ok ⟨#[101, 116]⟩ (by decide) 110
 have qt : Pure Tryz.prog 161 [sD ⟨#[101, 116]⟩, .is (.int .u8 116)] (bD true) := has07_ok ⟨#[101, 116]⟩ (by decide) 116
 have hO : oneB ⟨21, reg, loc, e, f, ne, to⟩ regs locs many = ((reg == 0) && (loc == 0) && inB to many && codeB e [] regs 0 && decide (f.length = 0) && (false || !ne)) := rfl
 rw [hO]
 refine Fun.of T [.tmp 8] Tryz.func135 rfl Tryz.ntmps135 Tryz.results135 rfl (by kernel_rfl) ?_
 repeat' first | refine vb rfl rfl rfl rfl ?_ | refine vs T rfl fun K hK => ?_; (try simp (disch := omega) only [go_sem, Nat.reduceBEq, Nat.reduceAdd, opRs_len, Bool.not_true, Bool.not_false]); (first | refine hK _ _ ?_; clear hK K | refine Op1.callp rfl rfl (cp) rfl ?_; refine hK _ _ ?_; clear hK K | refine Op1.callp rfl rfl (ci3) rfl ?_; refine hK _ _ ?_; clear hK K | refine Op1.callp rfl rfl (ce) rfl ?_; refine hK _ _ ?_; clear hK K | refine Op1.callp rfl rfl (qr) rfl ?_; refine hK _ _ ?_; clear hK K | refine Op1.callp rfl rfl (ql) rfl ?_; refine hK _ _ ?_; clear hK K | refine Op1.callp rfl rfl (qe) rfl ?_; refine hK _ _ ?_; clear hK K | refine Op1.callp rfl rfl (qf) rfl ?_; refine hK _ _ ?_; clear hK K | refine Op1.callp rfl rfl (qn) rfl ?_; refine hK _ _ ?_; clear hK K | refine Op1.callp rfl rfl (qt) rfl ?_; refine hK _ _ ?_; clear hK K) | refine st rfl ?_ | refine sc rfl ?_ | refine nl ?_ | refine gs rfl rfl ?_ | refine gu rfl rfl ?_ | refine ret1 T (List.nil_sublist _) ?_; (try simp only [upd, Nat.reduceBEq, cond_true, cond_false, and_true]) | with_reducible refine gsplit_intro (fun hc => ?_) (fun hc => ?_) <;> (try simp only [decide_eq_true_eq, decide_eq_false_iff_not, bne_iff_ne, bne_eq_false_iff_eq, ne_eq, Bool.not_eq_true', Bool.not_eq_false', gt_iff_lt, Int.not_lt] at hc)
 all_goals clear cp ci1 ci2 ci3 ce cf qr ql qe qf qn qt hO
 all_goals first | (simp_all [-List.length_eq_zero_iff]; done) | (cases ne <;> simp_all [-List.length_eq_zero_iff]; done) | (simp_all [-List.length_eq_zero_iff]; omega) | (cases ne <;> simp_all [-List.length_eq_zero_iff] <;> omega)
theorem one07_ok (x : Ins) (he : x.e.length ≤ 1000) (hf : x.f.length ≤ 1000) (regs locs many : Int) : Pure Tryz.prog 135 [.agg (insR x), iD regs, iD locs, iD many] (bD (oneB x regs locs many)) := by
 obtain ⟨op, reg, loc, e, f, ne, to⟩ := x
 by_cases h2 : op = 2
 ·subst h2; exact one07_2 reg loc e f ne to he hf regs locs many
 by_cases h3 : op = 3
 ·subst h3; exact one07_3 reg loc e f ne to he hf regs locs many
 by_cases h4 : op = 4
 ·subst h4; exact one07_4 reg loc e f ne to he hf regs locs many
 by_cases h5 : op = 5
 ·subst h5; exact one07_5 reg loc e f ne to he hf regs locs many
 by_cases h6 : op = 6
 ·subst h6; exact one07_6 reg loc e f ne to he hf regs locs many
 by_cases h7 : op = 7
 ·subst h7; exact one07_7 reg loc e f ne to he hf regs locs many
 by_cases h8 : op = 8
 ·subst h8; exact one07_8 reg loc e f ne to he hf regs locs many
 by_cases h9 : op = 9
 ·subst h9; exact one07_9 reg loc e f ne to he hf regs locs many
 by_cases h20 : op = 20
 ·subst h20; exact one07_20 reg loc e f ne to he hf regs locs many
 by_cases h21 : op = 21
 ·subst h21; exact one07_21 reg loc e f ne to he hf regs locs many
 have hn : partsF op = none := by simp only [partsF, h2, h3, h4, h5, h6, h7, h8, h9, h20, h21, if_false]
 have cp : Pure Tryz.prog 160 [iD op] (.tup [sD ⟨#[]⟩, bD false]) := by have := parts07_ok op; rw [hn] at this; exact this
 have hO : oneB ⟨op, reg, loc, e, f, ne, to⟩ regs locs many = false := by simp [oneB, ndF, h2, h3, h4, h5, h6, h7, h8, h9, h20, h21]
 rw [hO]
 refine Fun.of T [.tmp 8] Tryz.func135 rfl Tryz.ntmps135 Tryz.results135 rfl (by kernel_rfl) ?_
 repeat' first | refine vb rfl rfl rfl rfl ?_ | refine vs T rfl fun K hK => ?_; (try simp (disch := omega) only [go_sem, Nat.reduceBEq, Nat.reduceAdd, insR, Bool.not_false]); (first | refine hK _ _ ?_; clear hK K | refine Op1.callp rfl rfl (cp) rfl ?_; refine hK _ _ ?_; clear hK K) | refine st rfl ?_ | refine sc rfl ?_ | refine nl ?_ | exact ret1 T (List.nil_sublist _) ⟨rfl, rfl⟩
end Go.Proofs.YtomcmfbpmkklmaaGreat
