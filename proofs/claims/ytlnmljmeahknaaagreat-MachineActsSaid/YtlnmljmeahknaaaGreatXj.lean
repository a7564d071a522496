/- Contracts: whether code can be (how many numbers lie there). No condition. -/
import Derived.Test.YtlnmljmeahknaaaGreatXe
namespace Go.Proofs.YtlnmljmeahknaaaGreat
set_option linter.unusedSimpArgs false
set_option linter.unusedVariables false
set_option maxRecDepth 20000
open Go Go.Proofs Go.Vc

/-- One step: how many numbers lie there; none: a step takes what is not there, or is none. -/
def lieStep (op : Int) (n : Int) : Option Int :=
  if 1 ≤ op ∧ op ≤ 4 then some (n + 1) else if op = 5 ∧ 1 ≤ n then some n else if (6 ≤ op ∧ op ≤ 14) ∧ 2 ≤ n then some (n - 1) else none
def liesF : List Opc → Int → Int → Option (Int × Int)
  | [], n, most => some (n, most)
  | x :: r, n, most => match lieStep x.1 n with
    | some n' => liesF r n' (max most n')
    | none => none

theorem r_max {P : Program} {o : Oper} {E : Operand → D} {H : Heap} {K : D → Heap → Prop} {x y : Operand} {ts : Array TypeId} {k : IntKind} {a b : Int} (ho : o.op = .call ⟨.builtin .max, #[x, y], ts⟩) (ha : E x = .is (.int k a)) (hb : E y = .is (.int k b)) (hk : K (.is (.int k (max a b))) H) : Op1 P o E H K := by
  refine Op1.value (d := .is (.int k (max a b))) (fun w L0 ε hi hx => ?_) hk
  have h1 := hx x (by simp [ho, Op.operands, Call.operands])
  have h2 := hx y (by simp [ho, Op.operands, Call.operands])
  rw [ha] at h1; rw [hb] at h2
  have h1' : ε x = .int k a := h1
  have h2' : ε y = .int k b := h2
  refine ⟨.int k (max a b), ?_, rfl⟩
  simp only [execOp, ho, resolve, invoke, builtin]
  simp [go_sem, h1', h2', Builtin.max_, Builtin.max2]
  split <;> omega

theorem liesF_cons (x : Opc) (r : List Opc) (n most : Int) : liesF (x :: r) n most = (match lieStep x.1 n with | some n' => liesF r n' (max most n') | none => none) := rfl
def liesD (o : Option (Int × Int)) : D := match o with | some p => .tup [iD p.1, iD p.2] | none => .tup [iD (-1), iD (-1)]

set_option maxHeartbeats 8000000 in
theorem lies06_ok (l : List Opc) (hl : l.length ≤ 1000) : Pure Tryz.prog 68 [opsD l] (liesD (liesF l 0 0)) := by
  refine Fun.of T [.tmp 2, .tmp 3] Tryz.func68 rfl Tryz.ntmps68 Tryz.results68 rfl (by kernel_rfl) ?_
  repeat' first | (refine VCo.step T rfl rfl (fun K hK => ?_)); (try simp (disch := omega) only [WB, argE, T3, T5, T9, T22, T23, T26, T27, T51, T53, T62, T65, T66, T68, T72, T78, T145]); (refine hK _ _ ?_; clear hK K) | refine VC.region ?_ | refine VC.seq' ?_ | refine VC.block ?_ | (refine VCo.nil ?_); (try simp only [QB])
  refine VC.loop {q : Nat × Int × Int // q.1 ≤ l.length ∧ (0 ≤ q.2.1 ∧ q.2.1 ≤ q.1) ∧ (0 ≤ q.2.2 ∧ q.2.2 ≤ q.1) ∧ liesF l 0 0 = liesF (l.drop q.1) q.2.1 q.2.2} (fun q => ⟨lookD [(0, opsD l), (4, iD q.1.2.1), (5, iD q.1.2.2), (6, iD (q.1.1 : Nat))], []⟩) (fun q => l.length - q.1.1) ⟨(0, 0, 0), by simp⟩ ?_ ?_
  · refine Weak.sub ?_
    simp [sub, upd]
  · rintro ⟨⟨k, n, most⟩, hk, hn, hm, hF⟩
    dsimp only at hk hn hm hF ⊢
    rcases Nat.lt_or_ge k l.length with hlt | hge
    · have hd : decide ((k : Int) < (l.length : Int)) = true := by simp; omega
      have hw : IntKind.i64.wrap ((k : Int) + 1) = ((k + 1 : Nat) : Int) := by rw [w64 (by omega)]; omega
      have wa : IntKind.i64.wrap (n + 1) = n + 1 := by rw [w64 (by omega)]
      have ws : IntKind.i64.wrap (n - 1) = n - 1 := by rw [w64 (by omega)]
      obtain ⟨x, hx⟩ : ∃ x, l[k]? = some x := ⟨_, List.getElem?_eq_getElem hlt⟩
      have hrow : (opRs l)[k]? = some [iD x.1, iD x.2.1, iD x.2.2] := by rw [opRs_at, hx]; rfl
      have hdr : l.drop k = x :: l.drop (k + 1) := by rw [List.drop_eq_getElem_cons hlt]; congr 1; exact Option.some.inj ((List.getElem?_eq_getElem hlt).symm.trans hx)
      rw [hdr, liesF_cons] at hF
      have nxt : ∀ n', lieStep x.1 n = some n' → 0 ≤ n' → n' ≤ n + 1 → ∀ E : Nat → D, Vc.sub E [(0, opsD l), (4, iD n'), (5, iD (max most n')), (6, iD ((k + 1 : Nat) : Int))] →
          ∃ q' : {q : Nat × Int × Int // q.1 ≤ l.length ∧ (0 ≤ q.2.1 ∧ q.2.1 ≤ q.1) ∧ (0 ≤ q.2.2 ∧ q.2.2 ≤ q.1) ∧ liesF l 0 0 = liesF (l.drop q.1) q.2.1 q.2.2}, Weak ⟨E, []⟩ ⟨lookD [(0, opsD l), (4, iD q'.1.2.1), (5, iD q'.1.2.2), (6, iD (q'.1.1 : Nat))], []⟩ ∧ l.length - q'.1.1 < l.length - k := by
        intro n' hs h0 h1 E hE
        rw [hs] at hF
        exact ⟨⟨(k + 1, n', max most n'), by simp only []; omega, by simp only []; omega, by simp only []; omega, hF⟩, Weak.sub hE, by simp only []; omega⟩
      by_cases c1 : 1 ≤ x.1 ∧ x.1 ≤ 4
      · have a1 : decide (x.1 ≥ 1) = true := by simp; omega
        have a4 : decide (x.1 ≤ 4) = true := by simp; omega
        repeat' first | (first | refine VCo.step T rfl rfl (fun K hK => ?_) | refine VCr.step T rfl (fun K hK => ?_)); (try simp (disch := omega) only [WB, lookD, Nat.reduceBEq, T3, T5, T9, T22, T23, T26, T27, T51, T53, T62, T65, T66, T68, T72, T78, T145, hd, hw, wa, hrow, a1, a4, opRs_len]); (first | refine hK _ _ ?_; clear hK K | refine ⟨?_, hK _ _ ?_⟩ <;> clear hK K; focus (try omega) | refine r_max rfl rfl rfl ?_; refine hK _ _ ?_; clear hK K) | refine VCo.gstep rfl rfl rfl rfl rfl ?_; try simp only [GB] | refine VC.region ?_ | refine VC.seq' ?_ | refine VC.block ?_ | (first | refine VCo.nil ?_ | refine VC.skip ?_); (try simp only [QB]) | refine VC.cond rfl ?_; (try simp only [gsplit_true])
        refine nxt (n + 1) (by simp [lieStep, c1]) (by omega) (by omega) _ ?_
        simp [sub, upd]
      have hbad : lieStep x.1 n = none → liesF l 0 0 = none := fun h => by rw [h] at hF; exact hF
      rcases Int.lt_or_le x.1 1 with h1 | h1
      · have a1 : decide (x.1 ≥ 1) = false := by simp; omega
        have e5 : (x.1 == 5) = false := by rw [beq_eq_false_iff_ne]; omega
        have b6 : decide (x.1 ≥ 6) = false := by simp; omega
        have hs : lieStep x.1 n = none := by unfold lieStep; rw [if_neg c1, if_neg (by omega), if_neg (by omega)]
        rw [hbad hs]
        repeat' first | (refine VCo.step T rfl rfl (fun K hK => ?_)); (try simp (disch := omega) only [WB, lookD, Nat.reduceBEq, T3, T5, T9, T22, T23, T26, T27, T51, T53, T62, T65, T66, T68, T72, T78, T145, hd, hrow, a1, e5, b6, opRs_len]); (first | refine hK _ _ ?_; clear hK K | refine ⟨?_, hK _ _ ?_⟩ <;> clear hK K; focus (try omega)) | refine VCo.gstep rfl rfl rfl rfl rfl ?_; try simp only [GB] | refine VC.region ?_ | refine VC.seq' ?_ | refine VC.block ?_ | (first | refine VCo.nil ?_ | refine VC.skip ?_ | refine VC.ret ?_); (try simp only [QB]) | refine ret2 T (List.nil_sublist _) ?_; (try simp only [upd, Nat.reduceBEq, cond_true, cond_false, and_true]) | refine VC.cond rfl ?_; (try simp only [gsplit_true, gsplit_false])
        all_goals rfl
      have a1 : decide (x.1 ≥ 1) = true := by simp; omega
      have a4 : decide (x.1 ≤ 4) = false := by simp; omega
      by_cases c5 : x.1 = 5
      · have e5 : (x.1 == 5) = true := by simpa using c5
        have b6 : decide (x.1 ≥ 6) = false := by simp; omega
        by_cases cn : 1 ≤ n
        · have n1 : decide (n ≥ 1) = true := by simp; omega
          repeat' first | (first | refine VCo.step T rfl rfl (fun K hK => ?_) | refine VCr.step T rfl (fun K hK => ?_)); (try simp (disch := omega) only [WB, lookD, Nat.reduceBEq, T3, T5, T9, T22, T23, T26, T27, T51, T53, T62, T65, T66, T68, T72, T78, T145, hd, hw, hrow, a1, a4, e5, n1, opRs_len]); (first | refine hK _ _ ?_; clear hK K | refine ⟨?_, hK _ _ ?_⟩ <;> clear hK K; focus (try omega) | refine r_max rfl rfl rfl ?_; refine hK _ _ ?_; clear hK K) | refine VCo.gstep rfl rfl rfl rfl rfl ?_; try simp only [GB] | refine VC.region ?_ | refine VC.seq' ?_ | refine VC.block ?_ | (first | refine VCo.nil ?_ | refine VC.skip ?_); (try simp only [QB]) | refine VC.cond rfl ?_; (try simp only [gsplit_true, gsplit_false])
          refine nxt n (by unfold lieStep; rw [if_neg c1, if_pos ⟨c5, cn⟩]) (by omega) (by omega) _ ?_
          simp [sub, upd]
        · have n1 : decide (n ≥ 1) = false := by simp; omega
          have hs : lieStep x.1 n = none := by unfold lieStep; rw [if_neg c1, if_neg (by omega), if_neg (by omega)]
          rw [hbad hs]
          repeat' first | (first | refine VCo.step T rfl rfl (fun K hK => ?_) | refine VCr.step T rfl (fun K hK => ?_)); (try simp (disch := omega) only [WB, lookD, Nat.reduceBEq, T3, T5, T9, T22, T23, T26, T27, T51, T53, T62, T65, T66, T68, T72, T78, T145, hd, hrow, a1, a4, e5, n1, b6, opRs_len]); (first | refine hK _ _ ?_; clear hK K | refine ⟨?_, hK _ _ ?_⟩ <;> clear hK K; focus (try omega)) | refine VCo.gstep rfl rfl rfl rfl rfl ?_; try simp only [GB] | refine VC.region ?_ | refine VC.seq' ?_ | refine VC.block ?_ | (first | refine VCo.nil ?_ | refine VC.skip ?_ | refine VC.ret ?_); (try simp only [QB]) | refine ret2 T (List.nil_sublist _) ?_; (try simp only [upd, Nat.reduceBEq, cond_true, cond_false, and_true]) | refine VC.cond rfl ?_; (try simp only [gsplit_true, gsplit_false])
          all_goals rfl
      have e5 : (x.1 == 5) = false := by simpa using c5
      have b6 : decide (x.1 ≥ 6) = true := by simp; omega
      by_cases c14 : x.1 ≤ 14
      · have b14 : decide (x.1 ≤ 14) = true := by simpa using c14
        by_cases cn : 2 ≤ n
        · have n2 : decide (n ≥ 2) = true := by simp; omega
          repeat' first | (first | refine VCo.step T rfl rfl (fun K hK => ?_) | refine VCr.step T rfl (fun K hK => ?_)); (try simp (disch := omega) only [WB, lookD, Nat.reduceBEq, T3, T5, T9, T22, T23, T26, T27, T51, T53, T62, T65, T66, T68, T72, T78, T145, hd, hw, ws, hrow, a1, a4, e5, b6, b14, n2, opRs_len]); (first | refine hK _ _ ?_; clear hK K | refine ⟨?_, hK _ _ ?_⟩ <;> clear hK K; focus (try omega) | refine r_max rfl rfl rfl ?_; refine hK _ _ ?_; clear hK K) | refine VCo.gstep rfl rfl rfl rfl rfl ?_; try simp only [GB] | refine VC.region ?_ | refine VC.seq' ?_ | refine VC.block ?_ | (first | refine VCo.nil ?_ | refine VC.skip ?_); (try simp only [QB]) | refine VC.cond rfl ?_; (try simp only [gsplit_true, gsplit_false])
          refine nxt (n - 1) (by unfold lieStep; rw [if_neg c1, if_neg (by omega), if_pos ⟨by omega, cn⟩]) (by omega) (by omega) _ ?_
          simp [sub, upd]
        · have n2 : decide (n ≥ 2) = false := by simp; omega
          have hs : lieStep x.1 n = none := by unfold lieStep; rw [if_neg c1, if_neg (by omega), if_neg (by omega)]
          rw [hbad hs]
          repeat' first | (first | refine VCo.step T rfl rfl (fun K hK => ?_) | refine VCr.step T rfl (fun K hK => ?_)); (try simp (disch := omega) only [WB, lookD, Nat.reduceBEq, T3, T5, T9, T22, T23, T26, T27, T51, T53, T62, T65, T66, T68, T72, T78, T145, hd, hrow, a1, a4, e5, b6, b14, n2, opRs_len]); (first | refine hK _ _ ?_; clear hK K | refine ⟨?_, hK _ _ ?_⟩ <;> clear hK K; focus (try omega)) | refine VCo.gstep rfl rfl rfl rfl rfl ?_; try simp only [GB] | refine VC.region ?_ | refine VC.seq' ?_ | refine VC.block ?_ | (first | refine VCo.nil ?_ | refine VC.skip ?_ | refine VC.ret ?_); (try simp only [QB]) | refine ret2 T (List.nil_sublist _) ?_; (try simp only [upd, Nat.reduceBEq, cond_true, cond_false, and_true]) | refine VC.cond rfl ?_; (try simp only [gsplit_true, gsplit_false])
          all_goals rfl
      · have b14 : decide (x.1 ≤ 14) = false := by simpa using c14
        have hs : lieStep x.1 n = none := by unfold lieStep; rw [if_neg c1, if_neg (by omega), if_neg (by omega)]
        rw [hbad hs]
        repeat' first | (first | refine VCo.step T rfl rfl (fun K hK => ?_) | refine VCr.step T rfl (fun K hK => ?_)); (try simp (disch := omega) only [WB, lookD, Nat.reduceBEq, T3, T5, T9, T22, T23, T26, T27, T51, T53, T62, T65, T66, T68, T72, T78, T145, hd, hrow, a1, a4, e5, b6, b14, opRs_len]); (first | refine hK _ _ ?_; clear hK K | refine ⟨?_, hK _ _ ?_⟩ <;> clear hK K; focus (try omega)) | refine VCo.gstep rfl rfl rfl rfl rfl ?_; try simp only [GB] | refine VC.region ?_ | refine VC.seq' ?_ | refine VC.block ?_ | (first | refine VCo.nil ?_ | refine VC.skip ?_ | refine VC.ret ?_); (try simp only [QB]) | refine ret2 T (List.nil_sublist _) ?_; (try simp only [upd, Nat.reduceBEq, cond_true, cond_false, and_true]) | refine VC.cond rfl ?_; (try simp only [gsplit_true, gsplit_false])
        all_goals rfl
    · have hd : decide ((k : Int) < (l.length : Int)) = false := by simp; omega
      rw [List.drop_eq_nil_of_le hge] at hF
      rw [hF]
      repeat' first | (refine VCo.step T rfl rfl (fun K hK => ?_)); (try simp (disch := omega) only [WB, lookD, Nat.reduceBEq, T3, T5, T9, T22, T23, T26, T27, T51, T53, T62, T65, T66, T68, T72, T78, T145, hd, opRs_len]); (refine hK _ _ ?_; clear hK K) | refine VC.region ?_ | refine VC.seq' ?_ | (first | refine VCo.nil ?_ | refine VC.ret ?_ | refine VC.exit ?_); (try simp only [QB]) | refine ret2 T (List.nil_sublist _) ?_; (try simp only [upd, Nat.reduceBEq, cond_true, cond_false, and_true]) | refine VC.cond rfl ?_; (try simp only [gsplit_false])
      all_goals rfl
end Go.Proofs.YtlnmljmeahknaaaGreat
