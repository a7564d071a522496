/- Contracts: the reference reads a number. No condition. -/
import Derived.Test.YtomcmfbpmkklmaaFg
namespace Go.Proofs.Ytomcmfbpmkklmaa
set_option maxHeartbeats 16000000
set_option linter.unusedSimpArgs false
set_option linter.unusedVariables false
set_option maxRecDepth 20000
open Go Go.Proofs Go.Vc
attribute [local irreducible] retQ VCg VCw VCx
theorem r_min2 {P : Program} {o : Oper} {E : Operand → D} {H : Heap} {K : D → Heap → Prop} {x y : Operand} {ts : Array TypeId} {k : IntKind} {a b : Int} (ho : o.op = .call ⟨.builtin .min, #[x, y], ts⟩) (ha : E x = .is (.int k a)) (hb : E y = .is (.int k b)) (hk : K (.is (.int k (min a b))) H) : Op1 P o E H K := by
 refine Op1.value (d := .is (.int k (min a b))) (fun w L0 ε hi hx => ?_) hk
 have h1 := hx x (by simp [ho, Op.operands, Call.operands])
 have h2 := hx y (by simp [ho, Op.operands, Call.operands])
 rw [ha] at h1; rw [hb] at h2
 have h1' : ε x = .int k a := h1
 have h2' : ε y = .int k b := h2
 refine ⟨.int k (min a b), ?_, rfl⟩
 simp only [execOp, ho, resolve, invoke, builtin]
 simp [go_sem, h1', h2', Builtin.min_, Builtin.min2]
 split <;> omega
theorem rnum_more {b : UInt8} {r : By} {n : Nat} (h : digB b = true) : rnum (b :: r) n = ((rnum r (min (10 * n + (b.toNat - 48)) 10000)).1, (rnum r (min (10 * n + (b.toNat - 48)) 10000)).2 + 1) := by
 simp only [rnum, h, if_true]
theorem rnum_stop {b : UInt8} {r : By} {n : Nat} (h : digB b = false) : rnum (b :: r) n = (n, 0) := by
 simp only [rnum, h, Bool.false_eq_true, if_false]
theorem rnumber29_ok (s : By) (hs : s.length ≤ 1000) (a : Nat) (ha : a ≤ 100000) : Pure Try.prog 31 [sD (tx s), iD (a : Nat)] (.tup [iD ((rnum (s.drop a) 0).1 : Nat), iD ((a + (rnum (s.drop a) 0).2 : Nat))]) := by
 refine Fun.of T [.tmp 4, .tmp 5] Try.func31 rfl Try.ntmps31 Try.results31 rfl (by kernel_rfl) ?_
 repeat' first | refine vs T rfl fun K hK => ?_; (try simp (disch := omega) only [go_sem]); (refine hK _ _ ?_; clear hK K) | refine st rfl ?_ | refine nl ?_
 refine VC.loop {p : Nat × Nat // a ≤ p.1 ∧ p.1 ≤ max a s.length ∧ p.2 ≤ 10000 ∧ rnum (s.drop a) 0 = ((rnum (s.drop p.1) p.2).1, p.1 - a + (rnum (s.drop p.1) p.2).2)} (fun p => ⟨lookD [(0, sD (tx s)), (1, iD (p.1.1 : Nat)), (6, iD (p.1.2 : Nat))], []⟩) (fun p => max a s.length - p.1.1) ⟨(a, 0), by dsimp only; omega, by dsimp only; omega, by dsimp only; omega, by simp⟩ ?_ ?_
 ·refine Weak_subEq rfl ?_
  simp [sub, upd]
 rintro ⟨⟨i, n⟩, hai, hi, hn, hl⟩
 dsimp only at hai hi hn hl ⊢
 rcases Nat.lt_or_ge i s.length with hlt | hge
 case inl =>
  rw [drop_getD 0 hlt] at hl
  have e1 : decide ((i : Int) < (s.length : Int)) = true := decide_eq_true (by omega)
  cases hd : digB (s.getD i 0)
  case true =>
   rw [rnum_more hd] at hl
   simp only [digB, Bool.and_eq_true, decide_eq_true_eq] at hd
   have hw : IntKind.u8.wrap (((s.getD i 0).toNat : Int) - 48) = (((s.getD i 0).toNat - 48 : Nat) : Int) := by rw [wu8 (by omega)]; omega
   have hm : min (10 * (n : Int) + (((s.getD i 0).toNat - 48 : Nat) : Int)) 10000 = ((min (10 * n + ((s.getD i 0).toNat - 48)) 10000 : Nat) : Int) := by omega
   repeat' first | refine vt rfl fun K hK => ?_; refine r_min2 rfl rfl rfl ?_; refine hK _ _ ?_; clear hK K; (try simp only [updO]) | refine vs T rfl fun K hK => ?_; (try simp (disch := omega) only [go_sem, Nat.reduceBEq, tx_size, tx_list, Int.toNat_natCast, hw, w64, e1, hm]); (first | refine hK _ _ ?_; clear hK K | refine ⟨?_, hK _ _ ?_⟩ <;> clear hK K; focus (try omega)) | refine st rfl ?_ | refine sc rfl ?_ | refine nl ?_ | refine gs rfl rfl ?_ | with_reducible refine gsplit_intro (fun hc => ?_) (fun hc => ?_) <;> (try simp only [decide_eq_true_eq, decide_eq_false_iff_not, ge_iff_le, Int.not_le] at hc) <;> (try (exfalso; omega))
   refine ⟨⟨(i + 1, min (10 * n + ((s.getD i 0).toNat - 48)) 10000), by dsimp only; omega, by dsimp only; omega, by dsimp only; omega, ?_⟩, Weak_subEq rfl ?_, by dsimp only; omega⟩
   ·rw [hl]; simp only [Prod.mk.injEq, true_and]; omega
   ·simp [sub, upd, -List.getD_eq_getElem?_getD]
  case false =>
   rw [rnum_stop hd] at hl
   have hd' : ¬ (48 ≤ (s.getD i 0).toNat ∧ (s.getD i 0).toNat ≤ 57) := fun h => by
    have : digB (s.getD i 0) = true := by simp only [digB, Bool.and_eq_true, decide_eq_true_eq]; exact h
    rw [hd] at this; cases this
   rw [hl]
   repeat' first | refine vs T rfl fun K hK => ?_; (try simp (disch := omega) only [go_sem, Nat.reduceBEq, tx_size, tx_list, Int.toNat_natCast, e1]); (first | refine hK _ _ ?_; clear hK K | refine ⟨?_, hK _ _ ?_⟩ <;> clear hK K; focus (try omega)) | refine st rfl ?_ | refine sc rfl ?_ | refine nl ?_ | refine gs rfl rfl ?_ | refine ret2 T (List.nil_sublist _) ?_; (try simp only [upd, Nat.reduceBEq, cond_true, cond_false, and_true]) | with_reducible refine gsplit_intro (fun hc => ?_) (fun hc => ?_) <;> (try simp only [decide_eq_true_eq, decide_eq_false_iff_not, ge_iff_le, Int.not_le] at hc) <;> (try (exfalso; omega))
   all_goals (simp only [D.tup.injEq, List.cons.injEq, and_true, true_and]; exact congrArg iD (by omega))
 case inr =>
  rw [List.drop_eq_nil_of_le hge] at hl
  have e1 : decide ((i : Int) < (s.length : Int)) = false := decide_eq_false (by omega)
  rw [hl]
  repeat' first | refine vs T rfl fun K hK => ?_; (try simp (disch := omega) only [go_sem, Nat.reduceBEq, tx_size, e1]); (refine hK _ _ ?_; clear hK K) | refine st rfl ?_ | refine sc rfl ?_ | refine nl ?_ | refine gs rfl rfl ?_ | refine ret2 T (List.nil_sublist _) ?_; (try simp only [upd, Nat.reduceBEq, cond_true, cond_false, and_true])
  all_goals (simp only [D.tup.injEq, List.cons.injEq, and_true, true_and, rnum]; exact congrArg iD (by omega))
end Go.Proofs.Ytomcmfbpmkklmaa
