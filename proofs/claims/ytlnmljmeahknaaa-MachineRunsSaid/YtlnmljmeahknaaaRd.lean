/- Contracts: the program's check of a row, and of a unit. No condition. -/
import Derived.Test.YtlnmljmeahknaaaRb
import Derived.Test.YtlnmljmeahknaaaYo
namespace Go.Proofs.Ytlnmljmeahknaaa
set_option linter.unusedSimpArgs false
set_option linter.unusedVariables false
set_option maxRecDepth 20000
open Go Go.Proofs Go.Vc

theorem insRs_tk (b : List Ins) (k : Nat) : (insRs b).take k = insRs (b.take k) := by rw [insRs, insRs, List.map_take]
/-- Whether a row can be, but for its registers' number. -/
def rowQ (n locs : Int) (r : List Ins) : Bool := (decide (1 ≤ r.length) && decide (r.length ≤ 1000) && doneB (r.getD (r.length - 1) default)) && ((List.range (r.length - 1)).all fun i => oneB (r.getD i default) n locs r.length)
theorem rowB_Q (n locs : Int) (r : List Ins) : rowB n locs r = (decide (0 ≤ n) && decide (n ≤ 6) && rowQ n locs r) := by
  unfold rowB rowQ
  simp only [Bool.and_assoc]

set_option maxHeartbeats 16000000 in
theorem rowL_ok (r : List Ins) (hrl : r.length ≤ 100000) (hins : ∀ x, x ∈ r → x.e.length ≤ 1000 ∧ x.f.length ≤ 1000) (n locs : Int) : Pure Try.prog 112 [.sl false 7 (insRs r), iD n, iD locs] (bD (rowQ n locs r)) := by
  have hwl : IntKind.i64.wrap ((r.length : Int) - 1) = (r.length : Int) - 1 := by rw [w64 (by omega)]
  refine Fun.of T [.tmp 6] Try.func112 rfl Try.ntmps112 Try.results112 rfl (by kernel_rfl) ?_
  by_cases q0 : r.length = 0
  · have s0 : decide ((r.length : Int) - 1 < 0) = true := by simp; omega
    rw [show rowQ n locs r = false by simp [rowQ, q0]]
    repeat' first | (refine VCo.step T rfl rfl (fun K hK => ?_)); (try simp (disch := omega) only [WB, argE, Nat.reduceBEq, Nat.reduceAdd, T3, T63, hwl, s0, insRs_len]); (refine hK _ _ ?_; clear hK K) | refine VCo.gstep rfl rfl rfl rfl rfl ?_; try simp only [GB] | refine VC.region ?_ | refine VC.seq' ?_ | (first | refine VCo.nil ?_ | refine VC.ret ?_); (try simp only [QB]) | refine ret1 T (List.nil_sublist _) ?_; (try simp only [upd, Nat.reduceBEq, cond_true, cond_false, and_true]) | refine VC.cond rfl ?_; (try simp only [gsplit_true])
  have s0 : decide ((r.length : Int) - 1 < 0) = false := by simp; omega
  by_cases q1 : r.length > 1000
  · have s1 : decide ((r.length : Int) - 1 ≥ 1000) = true := by simp; omega
    rw [show rowQ n locs r = false by simp [rowQ]; omega]
    repeat' first | (first | refine VCo.step T rfl rfl (fun K hK => ?_) | refine VCr.step T rfl (fun K hK => ?_)); (try simp (disch := omega) only [WB, argE, Nat.reduceBEq, Nat.reduceAdd, T3, T63, hwl, s0, s1, insRs_len]); (refine hK _ _ ?_; clear hK K) | refine VCo.gstep rfl rfl rfl rfl rfl ?_; try simp only [GB] | refine VC.region ?_ | refine VC.seq' ?_ | (first | refine VCo.nil ?_ | refine VC.ret ?_); (try simp only [QB]) | refine ret1 T (List.nil_sublist _) ?_; (try simp only [upd, Nat.reduceBEq, cond_true, cond_false, and_true]) | refine VC.cond rfl ?_; (try simp only [gsplit_true])
  have s1 : decide ((r.length : Int) - 1 ≥ 1000) = false := by simp; omega
  have hk : ((r.length : Int) - 1) = ((r.length - 1 : Nat) : Int) := by omega
  rw [hk] at s0 s1
  have hwl : IntKind.i64.wrap ((r.length : Int) - 1) = ((r.length - 1 : Nat) : Int) := by rw [hwl]; exact hk
  clear hk
  obtain ⟨xl, hxl⟩ : ∃ x, r[r.length - 1]? = some x := ⟨_, List.getElem?_eq_getElem (by omega)⟩
  have rx : (insRs r)[r.length - 1]? = some [iD xl.op, iD xl.reg, iD xl.loc, opsD xl.e, opsD xl.f, bD xl.ne, iD xl.to] := by rw [insRs_at, hxl]; rfl
  have hgl : r.getD (r.length - 1) default = xl := by rw [List.getD_eq_getElem?_getD, hxl]; rfl
  have hl0 : r.length - 1 < r.length := by omega
  have cd := doneL_ok xl (hins xl (List.mem_of_getElem? hxl)).1 (hins xl (List.mem_of_getElem? hxl)).2
  cases hdn : doneB xl with
  | false =>
    rw [hdn] at cd
    rw [show rowQ n locs r = false by simp only [rowQ, hgl, hdn, Bool.and_false, Bool.false_and]]
    repeat' first | (first | refine VCo.step T rfl rfl (fun K hK => ?_) | refine VCr.step T rfl (fun K hK => ?_)); (try simp (disch := omega) only [WB, argE, Nat.reduceBEq, Nat.reduceAdd, Nat.reduceLeDiff, T3, T62, T63, hwl, s0, s1, rx, insRs_len, Bool.not_false]); (first | refine hK _ _ ?_; clear hK K | refine ⟨?_, hK _ _ ?_⟩ <;> clear hK K; focus (try omega) | refine Op1.callp rfl rfl (cd) rfl ?_; refine hK _ _ ?_; clear hK K) | refine VCo.gstep rfl rfl rfl rfl rfl ?_; try simp only [GB] | refine VC.region ?_ | refine VC.seq' ?_ | (first | refine VCo.nil ?_ | refine VC.ret ?_); (try simp only [QB]) | refine ret1 T (List.nil_sublist _) ?_; (try simp only [upd, Nat.reduceBEq, cond_true, cond_false, and_true]) | refine VC.cond rfl ?_; (try simp only [gsplit_true])
  | true =>
  rw [hdn] at cd
  have hRow : rowQ n locs r = (List.range (r.length - 1)).all fun i => oneB (r.getD i default) n locs r.length := by
    unfold rowQ
    rw [hgl, hdn]
    have : (decide (1 ≤ r.length) && decide (r.length ≤ 1000) && true) = true := by simp; omega
    rw [this]; rfl
  have htl : (r.take (r.length - 1)).length = r.length - 1 := by rw [List.length_take]; omega
  generalize hq : r.take (r.length - 1) = q at *
  repeat' first | (first | refine VCo.step T rfl rfl (fun K hK => ?_) | refine VCr.step T rfl (fun K hK => ?_)); (try simp (disch := omega) only [WB, argE, Nat.reduceBEq, Nat.reduceAdd, Nat.reduceLeDiff, T3, T62, T63, hwl, s0, s1, rx, insRs_len, insRs_tk, hq, htl, Bool.not_true]); (first | refine hK _ _ ?_; clear hK K | refine ⟨?_, hK _ _ ?_⟩ <;> clear hK K; focus (try omega) | refine Op1.callp rfl rfl (cd) rfl ?_; refine hK _ _ ?_; clear hK K) | refine VCo.gstep rfl rfl rfl rfl rfl ?_; try simp only [GB] | refine VC.region ?_ | refine VC.seq' ?_ | refine VC.block ?_ | (first | refine VCo.nil ?_ | refine VC.skip ?_); (try simp only [QB]) | refine VC.cond rfl ?_; (try simp only [gsplit_false])
  refine VC.loop {i : Nat // i ≤ r.length - 1 ∧ ∀ j, j < i → oneB (r.getD j default) n locs r.length = true} (fun p => ⟨lookD [(0, .sl false 7 (insRs r)), (1, iD n), (2, iD locs), (29, .sl false 7 (insRs q)), (30, iD (r.length - 1 : Nat)), (31, iD (p.1 : Nat))], []⟩) (fun p => r.length - p.1) ⟨0, by omega, fun j hj => by omega⟩ ?_ ?_
  · refine Weak.sub ?_
    simp [sub, upd]
  rintro ⟨i, hi, hsi⟩
  dsimp only
  have hwi : IntKind.i64.wrap ((i : Int) + 1) = ((i + 1 : Nat) : Int) := by rw [w64 (by omega)]; omega
  rcases Nat.lt_or_ge i (r.length - 1) with hlt | hge
  case inr =>
    have hd : decide ((i : Int) < ((r.length - 1 : Nat) : Int)) = false := by simp; omega
    rw [show rowQ n locs r = true by rw [hRow]; exact range_all fun j hj => hsi j (by omega)]
    repeat' first | (refine VCo.step T rfl rfl (fun K hK => ?_)); (try simp (disch := omega) only [WB, lookD, Nat.reduceBEq, T3, hd]); (refine hK _ _ ?_; clear hK K) | refine VC.region ?_ | refine VC.seq' ?_ | (first | refine VCo.nil ?_ | refine VC.ret ?_ | refine VC.exit ?_); (try simp only [QB]) | refine ret1 T (List.nil_sublist _) ?_; (try simp only [upd, Nat.reduceBEq, cond_true, cond_false, and_true]) | refine VC.cond rfl ?_; (try simp only [gsplit_false])
  have hd : decide ((i : Int) < ((r.length - 1 : Nat) : Int)) = true := by simp; omega
  obtain ⟨x, hx⟩ : ∃ x, r[i]? = some x := ⟨_, List.getElem?_eq_getElem (by omega)⟩
  have hxq : q[i]? = some x := by rw [← hq, List.getElem?_take, if_pos hlt, hx]
  have rx2 : (insRs q)[i]? = some [iD x.op, iD x.reg, iD x.loc, opsD x.e, opsD x.f, bD x.ne, iD x.to] := by rw [insRs_at, hxq]; rfl
  have hgx : r.getD i default = x := by rw [List.getD_eq_getElem?_getD, hx]; rfl
  have hef := hins x (List.mem_of_getElem? hx)
  have co := fits_ok x hef.1 hef.2 n locs r.length
  cases hO : oneB x n locs r.length with
  | false =>
    rw [hO] at co
    rw [show rowQ n locs r = false by rw [hRow]; exact range_not hlt (by rw [hgx]; exact hO)]
    repeat' first | (refine VCo.step T rfl rfl (fun K hK => ?_)); (try simp (disch := omega) only [WB, lookD, setL, Nat.reduceBEq, Nat.reduceAdd, Nat.reduceLeDiff, T3, T62, T63, hd, rx2, htl, Bool.not_false, insRs_len]); (first | refine hK _ _ ?_; clear hK K | intro bq hbq; (try simp only [HB] at hbq); refine hK _ _ ?_; clear hK K | refine ⟨?_, hK _ _ ?_⟩ <;> clear hK K; focus (try omega) | refine Op1.callp rfl rfl (co) rfl ?_; refine hK _ _ ?_; clear hK K) | refine VC.region ?_ | refine VC.seq' ?_ | refine VC.block ?_ | (first | refine VCo.nil ?_ | refine VC.skip ?_ | refine VC.ret ?_); (try simp only [QB]) | refine ret1 T (List.nil_sublist _) ?_; (try simp only [upd, Nat.reduceBEq, cond_true, cond_false, and_true]) | refine VC.cond rfl ?_; (try simp only [gsplit_true])
  | true =>
    rw [hO] at co
    repeat' first | (refine VCo.step T rfl rfl (fun K hK => ?_)); (try simp (disch := omega) only [WB, lookD, setL, Nat.reduceBEq, Nat.reduceAdd, Nat.reduceLeDiff, T3, T62, T63, hd, hwi, rx2, htl, Bool.not_true, insRs_len]); (first | refine hK _ _ ?_; clear hK K | intro bq hbq; (try simp only [HB] at hbq); refine hK _ _ ?_; clear hK K | refine ⟨?_, hK _ _ ?_⟩ <;> clear hK K; focus (try omega) | refine Op1.callp rfl rfl (co) rfl ?_; refine hK _ _ ?_; clear hK K) | refine VC.region ?_ | refine VC.seq' ?_ | refine VC.block ?_ | (first | refine VCo.nil ?_ | refine VC.skip ?_); (try simp only [QB]) | refine VC.cond rfl ?_; (try simp only [gsplit_true, gsplit_false])
    refine ⟨⟨i + 1, by omega, fun j hj => ?_⟩, Weak.subH (List.nil_sublist _) ?_, by dsimp only; omega⟩
    · rcases Nat.lt_or_ge j i with h' | h'
      · exact hsi j h'
      · obtain rfl : j = i := by omega
        rw [hgx]; exact hO
    · simp [sub, upd]

set_option maxHeartbeats 16000000 in
/-- The program's check of a unit. -/
theorem rightL_ok (u : Un) (hu : OkU u) : Pure Try.prog 101 [.agg (unC u)] (bD (unitB u)) := by
  have k1 := hu.ini
  have k2 := hu.reg
  have k3 := hu.cod
  refine Fun.of T [.tmp 2] Try.func101 rfl Try.ntmps101 Try.results101 rfl (by kernel_rfl) ?_
  by_cases q0 : u.md < 2
  · have s0 : decide (u.md < 2) = true := by simpa using q0
    rw [show unitB u = false by simp [unitB, headB]; omega]
    repeat' first | refine VCo.stepO rfl rfl (fun K hK => r_boxR rfl rfl rfl (hK _ _ ?_)); (try simp only [updO]) | (refine VCo.step T rfl rfl (fun K hK => ?_)); (try simp (disch := omega) only [WB, argE, Nat.reduceBEq, T3, T42, s0]); (refine hK _ _ ?_; clear hK K) | refine VCo.gstep rfl rfl rfl rfl rfl ?_; try simp only [GB] | refine VC.region ?_ | refine VC.seq' ?_ | refine VC.block ?_ | (first | refine VCo.nil ?_ | refine VC.ret ?_); (try simp only [QB]) | refine ret1 T (List.nil_sublist _) ?_; (try simp only [upd, Nat.reduceBEq, cond_true, cond_false, and_true]) | refine VC.cond rfl ?_; (try simp only [gsplit_true])
  have s0 : decide (u.md < 2) = false := by simpa using q0
  by_cases q1 : u.md > 16
  · have s1 : decide (u.md > 16) = true := by simpa using q1
    rw [show unitB u = false by simp [unitB, headB]; omega]
    repeat' first | refine VCo.stepO rfl rfl (fun K hK => r_boxR rfl rfl rfl (hK _ _ ?_)); (try simp only [updO]) | (first | refine VCo.step T rfl rfl (fun K hK => ?_) | refine VCr.step T rfl (fun K hK => ?_)); (try simp (disch := omega) only [WB, argE, Nat.reduceBEq, T3, T42, s0, s1]); (refine hK _ _ ?_; clear hK K) | refine VCo.gstep rfl rfl rfl rfl rfl ?_; try simp only [GB] | refine VC.region ?_ | refine VC.seq' ?_ | refine VC.block ?_ | (first | refine VCo.nil ?_ | refine VC.ret ?_); (try simp only [QB]) | refine ret1 T (List.nil_sublist _) ?_; (try simp only [upd, Nat.reduceBEq, cond_true, cond_false, and_true]) | refine VC.cond rfl ?_; (try simp only [gsplit_true])
  have s1 : decide (u.md > 16) = false := by simpa using q1
  by_cases q2 : u.init.length > 6
  · have s2 : decide ((u.init.length : Int) > 6) = true := by simp; omega
    rw [show unitB u = false by simp [unitB, headB]; omega]
    repeat' first | refine VCo.stepO rfl rfl (fun K hK => r_boxR rfl rfl rfl (hK _ _ ?_)); (try simp only [updO]) | (first | refine VCo.step T rfl rfl (fun K hK => ?_) | refine VCr.step T rfl (fun K hK => ?_)); (try simp (disch := omega) only [WB, argE, Nat.reduceBEq, T3, T31, T42, s0, s1, s2, iRs_len]); (refine hK _ _ ?_; clear hK K) | refine VCo.gstep rfl rfl rfl rfl rfl ?_; try simp only [GB] | refine VC.region ?_ | refine VC.seq' ?_ | refine VC.block ?_ | (first | refine VCo.nil ?_ | refine VC.ret ?_); (try simp only [QB]) | refine ret1 T (List.nil_sublist _) ?_; (try simp only [upd, Nat.reduceBEq, cond_true, cond_false, and_true]) | refine VC.cond rfl ?_; (try simp only [gsplit_true])
  have s2 : decide ((u.init.length : Int) > 6) = false := by simp; omega
  by_cases q3 : u.regs.length = 0
  · have s3 : ((u.regs.length : Int) == 0) = true := beq_iff_eq.2 (by omega)
    rw [show unitB u = false by simp [unitB, headB, q3]]
    repeat' first | refine VCo.stepO rfl rfl (fun K hK => r_boxR rfl rfl rfl (hK _ _ ?_)); (try simp only [updO]) | (first | refine VCo.step T rfl rfl (fun K hK => ?_) | refine VCr.step T rfl (fun K hK => ?_)); (try simp (disch := omega) only [WB, argE, Nat.reduceBEq, T3, T31, T42, s0, s1, s2, s3, iRs_len]); (refine hK _ _ ?_; clear hK K) | refine VCo.gstep rfl rfl rfl rfl rfl ?_; try simp only [GB] | refine VC.region ?_ | refine VC.seq' ?_ | refine VC.block ?_ | (first | refine VCo.nil ?_ | refine VC.ret ?_); (try simp only [QB]) | refine ret1 T (List.nil_sublist _) ?_; (try simp only [upd, Nat.reduceBEq, cond_true, cond_false, and_true]) | refine VC.cond rfl ?_; (try simp only [gsplit_true, gsplit_false])
  have s3 : ((u.regs.length : Int) == 0) = false := beq_eq_false_iff_ne.2 (by omega)
  by_cases q4 : u.regs.length > 4
  · have s4 : decide ((u.regs.length : Int) > 4) = true := by simp; omega
    rw [show unitB u = false by simp [unitB, headB]; omega]
    repeat' first | refine VCo.stepO rfl rfl (fun K hK => r_boxR rfl rfl rfl (hK _ _ ?_)); (try simp only [updO]) | (first | refine VCo.step T rfl rfl (fun K hK => ?_) | refine VCr.step T rfl (fun K hK => ?_)); (try simp (disch := omega) only [WB, argE, Nat.reduceBEq, T3, T31, T42, s0, s1, s2, s3, s4, iRs_len]); (refine hK _ _ ?_; clear hK K) | refine VCo.gstep rfl rfl rfl rfl rfl ?_; try simp only [GB] | refine VC.region ?_ | refine VC.seq' ?_ | refine VC.block ?_ | (first | refine VCo.nil ?_ | refine VC.ret ?_); (try simp only [QB]) | refine ret1 T (List.nil_sublist _) ?_; (try simp only [upd, Nat.reduceBEq, cond_true, cond_false, and_true]) | refine VC.cond rfl ?_; (try simp only [gsplit_true, gsplit_false])
  have s4 : decide ((u.regs.length : Int) > 4) = false := by simp; omega
  by_cases q5 : u.code.length = u.regs.length
  case neg =>
    have s5 : ((u.code.length : Int) != (u.regs.length : Int)) = true := by simp; omega
    rw [show unitB u = false by simp [unitB, headB, q5]]
    repeat' first | refine VCo.stepO rfl rfl (fun K hK => r_boxR rfl rfl rfl (hK _ _ ?_)); (try simp only [updO]) | (first | refine VCo.step T rfl rfl (fun K hK => ?_) | refine VCr.step T rfl (fun K hK => ?_)); (try simp (disch := omega) only [WB, argE, Nat.reduceBEq, T3, T31, T40, T42, s0, s1, s2, s3, s4, s5, iRs_len, codeRs_len]); (refine hK _ _ ?_; clear hK K) | refine VCo.gstep rfl rfl rfl rfl rfl ?_; try simp only [GB] | refine VC.region ?_ | refine VC.seq' ?_ | refine VC.block ?_ | (first | refine VCo.nil ?_ | refine VC.ret ?_); (try simp only [QB]) | refine ret1 T (List.nil_sublist _) ?_; (try simp only [upd, Nat.reduceBEq, cond_true, cond_false, and_true]) | refine VC.cond rfl ?_; (try simp only [gsplit_true, gsplit_false])
  have s5 : ((u.code.length : Int) != (u.regs.length : Int)) = false := by simp; omega
  repeat' first | refine VCo.stepO rfl rfl (fun K hK => r_boxR rfl rfl rfl (hK _ _ ?_)); (try simp only [updO]) | (first | refine VCo.step T rfl rfl (fun K hK => ?_) | refine VCr.step T rfl (fun K hK => ?_)); (try simp (disch := omega) only [WB, argE, Nat.reduceBEq, T3, T31, T40, T42, s0, s1, s2, s3, s4, s5, iRs_len, codeRs_len]); (refine hK _ _ ?_; clear hK K) | refine VCo.gstep rfl rfl rfl rfl rfl ?_; try simp only [GB] | refine VC.region ?_ | refine VC.seq' ?_ | refine VC.block ?_ | (first | refine VCo.nil ?_ | refine VC.skip ?_); (try simp only [QB]) | refine VC.cond rfl ?_; (try simp only [gsplit_false])
  have hH : headB u = allB u.init u.md := by
    have h1 : decide (2 ≤ u.md) = true := by simp; omega
    have h2 : decide (u.md ≤ 16) = true := by simp; omega
    have h3 : decide (u.init.length ≤ 6) = true := by simp; omega
    have h4 : decide (1 ≤ u.regs.length) = true := by simp; omega
    have h5 : decide (u.regs.length ≤ 4) = true := by simp; omega
    simp only [headB, h1, h2, h3, h4, h5, decide_eq_true q5, Bool.true_and, Bool.and_true]
  refine VC.loop {k : Nat // k ≤ u.init.length ∧ ∀ (i : Nat) (y : Int), i < k → u.init[i]? = some y → inB y u.md = true} (fun p => ⟨lookD [(1, .pt (unC u)), (43, ints u.init), (44, iD (u.init.length : Nat)), (45, iD (p.1 : Nat))], []⟩) (fun p => u.init.length - p.1) ⟨0, by omega, fun i y hi => by omega⟩ ?_ ?_
  · refine Weak.sub ?_
    simp [sub, upd]
  rintro ⟨k, hk, hs⟩
  dsimp only
  rcases Nat.lt_or_ge k u.init.length with hlt | hge
  case inl =>
    have hd : decide ((k : Int) < (u.init.length : Int)) = true := by simp; omega
    have hw : IntKind.i64.wrap ((k : Int) + 1) = ((k + 1 : Nat) : Int) := by rw [w64 (by omega)]; omega
    obtain ⟨n, hn⟩ : ∃ n, u.init[k]? = some n := ⟨_, List.getElem?_eq_getElem hlt⟩
    have rn : (iRs u.init)[k]? = some [iD n] := by rw [iRs_at, hn]; rfl
    have bad : inB n u.md = false → unitB u = false := fun h => by
      have : allB u.init u.md = false := all_not (p := fun n => inB n u.md) hn h
      simp [unitB, hH, this]
    by_cases p0 : n < 0
    · have d0 : decide (n < 0) = true := by simpa using p0
      rw [bad (by simp [inB]; omega)]
      repeat' first | (refine VCo.step T rfl rfl (fun K hK => ?_)); (try simp (disch := omega) only [WB, lookD, Nat.reduceBEq, T3, T31, hd, rn, d0, iRs_len]); (first | refine hK _ _ ?_; clear hK K | refine ⟨?_, hK _ _ ?_⟩ <;> clear hK K; focus (try omega)) | refine VCo.gstep rfl rfl rfl rfl rfl ?_; try simp only [GB] | refine VC.region ?_ | refine VC.seq' ?_ | refine VC.block ?_ | (first | refine VCo.nil ?_ | refine VC.skip ?_ | refine VC.ret ?_); (try simp only [QB]) | refine ret1 T (List.nil_sublist _) ?_; (try simp only [upd, Nat.reduceBEq, cond_true, cond_false, and_true]) | refine VC.cond rfl ?_; (try simp only [gsplit_true])
    have d0 : decide (n < 0) = false := by simpa using p0
    by_cases p1 : n ≥ u.md
    · have d1 : decide (n ≥ u.md) = true := by simpa using p1
      rw [bad (by simp [inB]; omega)]
      repeat' first | (first | refine VCo.step T rfl rfl (fun K hK => ?_) | refine VCr.step T rfl (fun K hK => ?_)); (try simp (disch := omega) only [WB, lookD, Nat.reduceBEq, T3, T31, T42, hd, rn, d0, d1, iRs_len]); (first | refine hK _ _ ?_; clear hK K | refine ⟨?_, hK _ _ ?_⟩ <;> clear hK K; focus (try omega)) | refine VCo.gstep rfl rfl rfl rfl rfl ?_; try simp only [GB] | refine VC.region ?_ | refine VC.seq' ?_ | refine VC.block ?_ | (first | refine VCo.nil ?_ | refine VC.skip ?_ | refine VC.ret ?_); (try simp only [QB]) | refine ret1 T (List.nil_sublist _) ?_; (try simp only [upd, Nat.reduceBEq, cond_true, cond_false, and_true]) | refine VC.cond rfl ?_; (try simp only [gsplit_true])
    have d1 : decide (n ≥ u.md) = false := by simpa using p1
    repeat' first | (first | refine VCo.step T rfl rfl (fun K hK => ?_) | refine VCr.step T rfl (fun K hK => ?_)); (try simp (disch := omega) only [WB, lookD, Nat.reduceBEq, T3, T31, T42, hd, hw, rn, d0, d1, iRs_len]); (first | refine hK _ _ ?_; clear hK K | refine ⟨?_, hK _ _ ?_⟩ <;> clear hK K; focus (try omega)) | refine VCo.gstep rfl rfl rfl rfl rfl ?_; try simp only [GB] | refine VC.region ?_ | refine VC.seq' ?_ | refine VC.block ?_ | (first | refine VCo.nil ?_ | refine VC.skip ?_); (try simp only [QB]) | refine VC.cond rfl ?_; (try simp only [gsplit_true, gsplit_false])
    refine ⟨⟨k + 1, by omega, step_of hs hn (by simp [inB]; omega)⟩, Weak.sub ?_, by simp only []; omega⟩
    simp [sub, upd]
  have hd : decide ((k : Int) < (u.init.length : Int)) = false := by simp; omega
  have hA : allB u.init u.md = true := all_of fun i x hi hx => hs i x (by omega) hx
  have hU : unitB u = (List.range u.regs.length).all fun t => rowB (u.regs.getD t 0) u.init.length (u.code.getD t []) := by
    unfold unitB
    rw [hH, hA, Bool.true_and]
  repeat' first | (refine VCo.step T rfl rfl (fun K hK => ?_)); (try simp (disch := omega) only [WB, lookD, Nat.reduceBEq, T3, T31, T42, hd, iRs_len]); (refine hK _ _ ?_; clear hK K) | refine VC.region ?_ | refine VC.seq' ?_ | refine VC.block ?_ | (first | refine VCo.nil ?_ | refine VC.exit ?_); (try simp only [QB]) | refine VC.cond rfl ?_; (try simp only [gsplit_false])
  refine VC.loop {t : Nat // t ≤ u.regs.length ∧ ∀ j, j < t → rowB (u.regs.getD j 0) u.init.length (u.code.getD j []) = true} (fun p => ⟨lookD [(1, .pt (unC u)), (59, ints u.regs), (60, iD (u.regs.length : Nat)), (61, iD (p.1 : Nat))], []⟩) (fun p => u.regs.length - p.1) ⟨0, by omega, fun j hj => by omega⟩ ?_ ?_
  · refine Weak.sub ?_
    simp [sub, upd]
  rintro ⟨t, ht, hs⟩
  dsimp only
  rcases Nat.lt_or_ge t u.regs.length with hlt | hge
  case inr =>
    have hd : decide ((t : Int) < (u.regs.length : Int)) = false := by simp; omega
    rw [show unitB u = true by rw [hU]; exact range_all fun i hi => hs i (by omega)]
    repeat' first | (refine VCo.step T rfl rfl (fun K hK => ?_)); (try simp (disch := omega) only [WB, lookD, Nat.reduceBEq, T3, hd]); (refine hK _ _ ?_; clear hK K) | refine VC.region ?_ | refine VC.seq' ?_ | (first | refine VCo.nil ?_ | refine VC.ret ?_ | refine VC.exit ?_); (try simp only [QB]) | refine ret1 T (List.nil_sublist _) ?_; (try simp only [upd, Nat.reduceBEq, cond_true, cond_false, and_true]) | refine VC.cond rfl ?_; (try simp only [gsplit_false])
  have hd : decide ((t : Int) < (u.regs.length : Int)) = true := by simp; omega
  have hw : IntKind.i64.wrap ((t : Int) + 1) = ((t + 1 : Nat) : Int) := by rw [w64 (by omega)]; omega
  obtain ⟨n, hn⟩ : ∃ n, u.regs[t]? = some n := ⟨_, List.getElem?_eq_getElem hlt⟩
  obtain ⟨r, hr⟩ : ∃ r, u.code[t]? = some r := ⟨_, List.getElem?_eq_getElem (by omega)⟩
  have rn : (iRs u.regs)[t]? = some [iD n] := by rw [iRs_at, hn]; rfl
  have rr : (codeRs u.code)[t]? = some [.sl false 7 (insRs r)] := by rw [codeRs_at, hr]; rfl
  have hrm := List.mem_of_getElem? hr
  have hgn : u.regs.getD t 0 = n := by rw [List.getD_eq_getElem?_getD, hn]; rfl
  have hgr : u.code.getD t [] = r := by rw [List.getD_eq_getElem?_getD, hr]; rfl
  have bad : rowB n u.init.length r = false → unitB u = false := fun h => by rw [hU]; exact range_not hlt (by rw [hgn, hgr]; exact h)
  have htc : t < u.code.length := by omega
  have cr := rowL_ok r (hu.row r hrm) (hu.ins r hrm) n u.init.length
  by_cases p0 : n < 0
  · have d0 : decide (n < 0) = true := by simpa using p0
    rw [bad (by rw [rowB_Q]; simp; omega)]
    repeat' first | refine VC.draw (id := 14) T 16 (by kernel_rfl) (by kernel_rfl) (by kernel_rfl) ?_ | refine VCg.nil T ?_; simp only [allK, WB] | (first | apply VCg.step T rfl rfl | apply exF); focus ((try simp (disch := omega) only [WB, Nat.reduceBEq, T3, d0]); (exact rfl)) | refine VCg.gstep T rfl rfl rfl rfl ?_; try simp only [GB] | (refine VCo.step T rfl rfl (fun K hK => ?_)); (try simp (disch := omega) only [WB, lookD, Nat.reduceBEq, T3, T31, hd, rn, iRs_len]); (first | refine hK _ _ ?_; clear hK K | refine ⟨?_, hK _ _ ?_⟩ <;> clear hK K; focus (try omega)) | refine VCo.gstep rfl rfl rfl rfl rfl ?_; try simp only [GB] | refine VC.region ?_ | refine VC.seq' ?_ | refine VC.block ?_ | (first | refine VCo.nil ?_ | refine VC.skip ?_ | refine VC.ret ?_); (try simp only [QB]) | refine ret1 T (List.nil_sublist _) ?_; (try simp only [upd, Nat.reduceBEq, cond_true, cond_false, and_true]) | refine VC.cond rfl ?_; (try simp only [gsplit_true])
  have d0 : decide (n < 0) = false := by simpa using p0
  by_cases p1 : n > 6
  · have d1 : decide (n > 6) = true := by simpa using p1
    rw [bad (by rw [rowB_Q]; simp; omega)]
    repeat' first | refine VC.draw (id := 14) T 16 (by kernel_rfl) (by kernel_rfl) (by kernel_rfl) ?_ | refine VCg.nil T ?_; simp only [allK, WB] | (first | apply VCg.step T rfl rfl | apply exF); focus ((try simp (disch := omega) only [WB, Nat.reduceBEq, T3, d0, d1]); (exact rfl)) | refine VCg.gstep T rfl rfl rfl rfl ?_; try simp only [GB] | (refine VCo.step T rfl rfl (fun K hK => ?_)); (try simp (disch := omega) only [WB, lookD, Nat.reduceBEq, T3, T31, hd, rn, iRs_len]); (first | refine hK _ _ ?_; clear hK K | refine ⟨?_, hK _ _ ?_⟩ <;> clear hK K; focus (try omega)) | refine VCo.gstep rfl rfl rfl rfl rfl ?_; try simp only [GB] | refine VC.region ?_ | refine VC.seq' ?_ | refine VC.block ?_ | (first | refine VCo.nil ?_ | refine VC.skip ?_ | refine VC.ret ?_); (try simp only [QB]) | refine ret1 T (List.nil_sublist _) ?_; (try simp only [upd, Nat.reduceBEq, cond_true, cond_false, and_true]) | refine VC.cond rfl ?_; (try simp only [gsplit_true])
  have d1 : decide (n > 6) = false := by simpa using p1
  cases hQ : rowQ n u.init.length r with
  | false =>
    rw [hQ] at cr
    rw [bad (by rw [rowB_Q, hQ]; simp)]
    repeat' first | refine VC.draw (id := 14) T 16 (by kernel_rfl) (by kernel_rfl) (by kernel_rfl) ?_ | refine VCg.nil T ?_; simp only [allK, WB] | (first | apply VCg.step T rfl rfl | apply exF); focus ((try simp (disch := omega) only [WB, Nat.reduceBEq, T3, T31, T40, T42, T63, rr, d0, d1, iRs_len, codeRs_len]); (first | exact rfl | refine ⟨?_, rfl⟩; try omega)) | refine VCg.gstep T rfl rfl rfl rfl ?_; try simp only [GB] | (first | refine VCo.step T rfl rfl (fun K hK => ?_) | refine VCr.step T rfl (fun K hK => ?_)); (try simp (disch := omega) only [WB, lookD, Nat.reduceBEq, T3, T31, hd, rn, Bool.not_false, iRs_len]); (first | refine hK _ _ ?_; clear hK K | refine ⟨?_, hK _ _ ?_⟩ <;> clear hK K; focus (try omega) | refine Op1.callp rfl rfl (cr) rfl ?_; refine hK _ _ ?_; clear hK K) | refine VCo.gstep rfl rfl rfl rfl rfl ?_; try simp only [GB] | refine VC.region ?_ | refine VC.seq' ?_ | refine VC.block ?_ | (first | refine VCo.nil ?_ | refine VC.skip ?_ | refine VC.ret ?_); (try simp only [QB]) | refine ret1 T (List.nil_sublist _) ?_; (try simp only [upd, Nat.reduceBEq, cond_true, cond_false, and_true]) | refine VC.cond rfl ?_; (try simp only [gsplit_true])
  | true =>
    rw [hQ] at cr
    repeat' first | refine VC.draw (id := 14) T 16 (by kernel_rfl) (by kernel_rfl) (by kernel_rfl) ?_ | refine VCg.nil T ?_; simp only [allK, WB] | (first | apply VCg.step T rfl rfl | apply exF); focus ((try simp (disch := omega) only [WB, lookD, Nat.reduceBEq, T3, T31, T40, T42, T63, rr, d0, d1, iRs_len, codeRs_len]); (first | exact rfl | refine ⟨?_, rfl⟩; try omega)) | refine VCg.gstep T rfl rfl rfl rfl ?_; try simp only [GB] | (first | refine VCo.step T rfl rfl (fun K hK => ?_) | refine VCr.step T rfl (fun K hK => ?_)); (try simp (disch := omega) only [WB, lookD, Nat.reduceBEq, T3, T31, hd, hw, rn, Bool.not_true, iRs_len]); (first | refine hK _ _ ?_; clear hK K | refine ⟨?_, hK _ _ ?_⟩ <;> clear hK K; focus (try omega) | refine Op1.callp rfl rfl (cr) rfl ?_; refine hK _ _ ?_; clear hK K) | refine VCo.gstep rfl rfl rfl rfl rfl ?_; try simp only [GB] | refine VC.region ?_ | refine VC.seq' ?_ | refine VC.block ?_ | (first | refine VCo.nil ?_ | refine VC.skip ?_); (try simp only [QB]) | refine VC.cond rfl ?_; (try simp only [gsplit_true, gsplit_false])
    refine ⟨⟨t + 1, by omega, fun j hj => ?_⟩, Weak.sub ?_, by simp only []; omega⟩
    · rcases Nat.lt_or_ge j t with h' | h'
      · exact hs j h'
      · obtain rfl : j = t := by omega
        rw [hgn, hgr, rowB_Q, hQ]; simp; omega
    · simp [sub, upd]
end Go.Proofs.Ytlnmljmeahknaaa
