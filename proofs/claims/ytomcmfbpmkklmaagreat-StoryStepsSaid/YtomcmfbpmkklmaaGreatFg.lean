/- Contracts: the strict reader's own functions. No condition. -/
import Derived.Test.YtomcmfbpmkklmaaGreatFf
namespace Go.Proofs.YtomcmfbpmkklmaaGreat
set_option maxHeartbeats 16000000
set_option linter.unusedSimpArgs false
set_option linter.unusedVariables false
set_option maxRecDepth 20000
open Go Go.Proofs Go.Vc
attribute [local irreducible] retQ VCg VCw VCx
theorem tx_list (s : By) : (tx s).data.toList = s := rfl
theorem tx_inj {a b : By} : tx a = tx b ↔ a = b := by
 constructor
 ·intro h
  have : (tx a).data.toList = (tx b).data.toList := by rw [h]
  exact this
 ·rintro rfl; rfl
theorem tx_ext (s : By) (a b : Nat) : (tx s).extract a b = tx ((s.take b).drop a) := by
 apply ByteArray.ext
 simp [tx, ByteArray.extract, ByteArray.copySlice, List.extract_eq_take_drop, List.drop_take]
theorem tx_take (s : By) (n : Nat) : (tx s).extract 0 n = tx (s.take n) := by rw [tx_ext]; rfl
theorem tx_drop (s : By) (n : Nat) : (tx s).extract n s.length = tx (s.drop n) := by rw [tx_ext, List.take_length]
theorem Op1.call1 {P : Program} {o : Oper} {E : Operand → D} {f : FuncId} {xf : Operand} {aa : Array Operand} {tys : Array TypeId} {args : List D} {x y : Nat × HC} {Hr : Heap} {fr : Bool} {d0 : D} {K : D → Heap → Prop}
  (ho : o.op = .call ⟨.value xf, aa, tys⟩) (hE : E xf = .is (.func (.func f) #[] #[])) (h : Fun P f args [x] fr (fun d H' => d = d0 ∧ H' = [y])) (ha : aa.toList.map E = args) (hk : K d0 (y :: Hr)) : Op1 P o E (x :: Hr) K :=
 Op1.callG (caps := #[]) (Hp := [x]) (Hr := Hr) ho hE (by simp only [Array.toList_empty, List.map_nil, List.append_nil]; exact ha) h (List.Perm.refl _) (fun d H' ⟨h1, h2⟩ => by subst h1; subst h2; exact hk)
abbrev rdH (b : Nat) (r : Rd) : Heap := [(b, .cells 175 2 [sD (tx r.s), bD r.bad])]
theorem is29_ok (b : Nat) (r : Rd) (hs : r.s.length ≤ 1000000) (g : By) (hg : g.length ≤ 1000) : Fun Tryz.prog 142 [pD b, sD (tx g)] (rdH b r) false (fun d H' => d = bD (r.is g) ∧ H' = rdH b (r.skip g)) := by
 refine Fun.of T [.tmp 4] Tryz.func142 rfl Tryz.ntmps142 Tryz.results142 rfl (by kernel_rfl) ?_
 rcases Nat.lt_or_ge r.s.length g.length with hl | hl
 ·have e1 : decide ((r.s.length : Int) < (g.length : Int)) = true := decide_eq_true (by omega)
  have e2 : r.is g = false := by
   simp only [Rd.is, decide_eq_false_iff_not]
   intro h
   have := congrArg List.length h
   rw [List.length_take] at this
   omega
  have e3 : r.skip g = r := by simp [Rd.skip, e2]
  rw [e2, e3]
  repeat' first | refine vs T rfl fun K hK => ?_; (try simp (disch := omega) only [go_sem, Nat.reduceBEq, tx_size, e1]); (refine hK _ _ ?_; clear hK K) | refine st rfl ?_ | refine sc rfl ?_ | refine nl ?_ | refine gs rfl rfl ?_
  exact ret1 T (List.Sublist.refl _) ⟨rfl, rfl⟩
 have e1 : decide ((r.s.length : Int) < (g.length : Int)) = false := decide_eq_false (by omega)
 cases e2 : r.is g with
 | false =>
  have e3 : r.skip g = r := by simp [Rd.skip, e2]
  have e4 : decide (tx (r.s.take g.length) = tx g) = false := by
   simp only [Rd.is, decide_eq_false_iff_not] at e2
   exact decide_eq_false fun h => e2 (tx_inj.1 h)
  rw [e3]
  repeat' first | refine vs T rfl fun K hK => ?_; (try simp (disch := omega) only [go_sem, Nat.reduceBEq, tx_size, tx_take, e1, e4, Bool.not_false, Int.toNat_natCast]); (first | refine hK _ _ ?_; clear hK K | refine ⟨?_, hK _ _ ?_⟩ <;> clear hK K; focus (try omega)) | refine st rfl ?_ | refine sc rfl ?_ | refine nl ?_ | refine gs rfl rfl ?_
  exact ret1 T (List.Sublist.refl _) ⟨rfl, rfl⟩
 | true =>
  have e3 : r.skip g = ⟨r.s.drop g.length, r.bad⟩ := by simp [Rd.skip, e2]
  have e4 : decide (tx (r.s.take g.length) = tx g) = true := by
   simp only [Rd.is, decide_eq_true_eq] at e2
   exact decide_eq_true (by rw [e2])
  rw [e3]
  repeat' first | refine vs T rfl fun K hK => ?_; (try simp (disch := omega) only [go_sem, Nat.reduceBEq, Nat.reduceAdd, Nat.reduceLeDiff, tx_size, tx_take, tx_drop, e1, e4, Bool.not_true, Int.toNat_natCast]); (first | refine hK _ _ ?_; clear hK K | refine ⟨?_, hK _ _ ?_⟩ <;> clear hK K; focus (try omega)) | refine st rfl ?_ | refine sc rfl ?_ | refine nl ?_ | refine gs rfl rfl ?_
  exact ret1 T (List.Sublist.refl _) ⟨rfl, rfl⟩
theorem must29_ok (b : Nat) (r : Rd) (hs : r.s.length ≤ 1000000) (g : By) (hg : g.length ≤ 1000) : Fun Tryz.prog 144 [pD b, sD (tx g)] (rdH b r) false (fun d H' => d = .tup [] ∧ H' = rdH b (r.must g)) := by
 have c1 := is29_ok b r hs g hg
 refine Fun.of T [] Tryz.func144 rfl Tryz.ntmps144 Tryz.results144 rfl (by kernel_rfl) ?_
 cases e2 : r.is g with
 | false =>
  have e3 : r.skip g = r := by simp [Rd.skip, e2]
  have e4 : r.must g = ⟨r.s, true⟩ := by simp [Rd.must, e2]
  rw [e2, e3] at c1
  rw [e4]
  repeat' first | refine vt rfl fun K hK => ?_; refine Op1.call1 rfl rfl c1 rfl ?_; refine hK _ _ ?_; clear hK K; (try simp only [updO]) | refine vs T rfl fun K hK => ?_; (try simp (disch := omega) only [go_sem, Nat.reduceBEq, Nat.reduceAdd, Nat.reduceLeDiff, Bool.not_false]); (refine hK _ _ ?_; clear hK K) | refine st rfl ?_ | refine sc rfl ?_ | refine nl ?_
  exact ret0 T rfl (List.Sublist.refl _) ⟨rfl, rfl⟩
 | true =>
  have e3 : r.skip g = ⟨r.s.drop g.length, r.bad⟩ := by simp [Rd.skip, e2]
  have e4 : r.must g = ⟨r.s.drop g.length, r.bad⟩ := by simp [Rd.must, e2]
  rw [e2, e3] at c1
  rw [e4]
  repeat' first | refine vt rfl fun K hK => ?_; refine Op1.call1 rfl rfl c1 rfl ?_; refine hK _ _ ?_; clear hK K; (try simp only [updO]) | refine vs T rfl fun K hK => ?_; (try simp (disch := omega) only [go_sem, Nat.reduceBEq, Bool.not_true]); (refine hK _ _ ?_; clear hK K) | refine st rfl ?_ | refine sc rfl ?_ | refine nl ?_
  exact ret0 T rfl (List.Sublist.refl _) ⟨rfl, rfl⟩
theorem drop_getD {α : Type} {l : List α} {k : Nat} (d : α) (h : k < l.length) : l.drop k = l.getD k d :: l.drop (k + 1) := by
 rw [List.drop_eq_getElem_cons h, List.getD_eq_getElem?_getD, List.getElem?_eq_getElem h]; rfl
theorem numL_big {b : UInt8} {r : By} {n : Nat} (h : 9999 < n) : numL (b :: r) n = (n, 0) := by
 simp only [numL, show decide (n ≤ 9999) = false from decide_eq_false (by omega), Bool.and_false, Bool.false_eq_true, if_false]
theorem num_of {r : Rd} {n i : Nat} (h : numL r.s 0 = (n, i)) : r.val = n ∧ r.num = ⟨r.s.drop i, r.bad || (decide (9999 < n) || (decide (i = 0) || !decide (r.s.take i = decF 5 n)))⟩ := by
 simp [Rd.val, Rd.num, h]
theorem dec6_at (s : By) (n : Nat) : tx s = dec6 (n : Nat) ↔ s = decF 5 n := by
 rw [dec6_tx, tx_inj, numT, Int.toNat_natCast]
theorem number29_ok (b : Nat) (r : Rd) (hs : r.s.length ≤ 1000000) : Fun Tryz.prog 145 [pD b] (rdH b r) false (fun d H' => d = iD (r.val : Nat) ∧ H' = rdH b r.num) := by
 refine Fun.of T [.tmp 2] Tryz.func145 rfl Tryz.ntmps145 Tryz.results145 rfl (by kernel_rfl) ?_
 repeat' first | refine vs T rfl fun K hK => ?_; (try simp (disch := omega) only [go_sem]); (refine hK _ _ ?_; clear hK K) | refine st rfl ?_ | refine nl ?_
 refine VC.loop {p : Nat × Nat // p.1 ≤ r.s.length ∧ p.2 ≤ 99999 ∧ numL r.s 0 = ((numL (r.s.drop p.1) p.2).1, p.1 + (numL (r.s.drop p.1) p.2).2)} (fun p => ⟨lookD [(0, pD b), (3, iD (p.1.2 : Nat)), (4, iD (p.1.1 : Nat))], rdH b r⟩) (fun p => r.s.length - p.1.1) ⟨(0, 0), by dsimp only; omega, by dsimp only; omega, by simp⟩ ?_ ?_
 ·refine Weak_subEq rfl ?_
  simp [sub, upd]
 rintro ⟨⟨i, n⟩, hi, hn, hl⟩
 dsimp only at hi hn hl ⊢
 have c1 := decimal29_ok (n : Nat) (by omega)
 rcases Nat.lt_or_ge i r.s.length with hlt | hge
 case inl =>
  rw [drop_getD 0 hlt] at hl
  have e1 : decide ((i : Int) < (r.s.length : Int)) = true := decide_eq_true (by omega)
  by_cases hd : digB (r.s.getD i 0) = true ∧ n ≤ 9999
  ·obtain ⟨hd, hn2⟩ := hd
   rw [numL_cons hd hn2] at hl
   simp only [digB, Bool.and_eq_true, decide_eq_true_eq] at hd
   have hw : IntKind.u8.wrap (((r.s.getD i 0).toNat : Int) - 48) = (((r.s.getD i 0).toNat - 48 : Nat) : Int) := by rw [wu8 (by omega)]; omega
   repeat' first | refine vs T rfl fun K hK => ?_; (try simp (disch := omega) only [go_sem, Nat.reduceBEq, tx_size, tx_list, Int.toNat_natCast, hw, w64, e1]); (first | refine hK _ _ ?_; clear hK K | refine ⟨?_, hK _ _ ?_⟩ <;> clear hK K; focus (try omega)) | refine st rfl ?_ | refine sc rfl ?_ | refine nl ?_ | refine gs rfl rfl ?_ | with_reducible refine gsplit_intro (fun hc => ?_) (fun hc => ?_) <;> (try simp only [decide_eq_true_eq, decide_eq_false_iff_not, ge_iff_le, Int.not_le] at hc) <;> (try (exfalso; omega))
   refine ⟨⟨(i + 1, 10 * n + ((r.s.getD i 0).toNat - 48)), by dsimp only; omega, by dsimp only; omega, ?_⟩, Weak_subEq rfl ?_, by dsimp only; omega⟩
   ·rw [hl]; simp only [Prod.mk.injEq, true_and]; omega
   ·simp [sub, upd, -List.getD_eq_getElem?_getD]
  ·have hl2 : numL (r.s.getD i 0 :: r.s.drop (i + 1)) n = (n, 0) := by
    by_cases h : digB (r.s.getD i 0) = true
    ·exact numL_big (Nat.lt_of_not_le fun h2 => hd ⟨h, h2⟩)
    ·exact numL_stop (by simpa using h)
   rw [hl2] at hl
   have hd' : ¬ (48 ≤ (r.s.getD i 0).toNat ∧ (r.s.getD i 0).toNat ≤ 57 ∧ n ≤ 9999) := fun h => hd ⟨by simp only [digB, Bool.and_eq_true, decide_eq_true_eq]; exact ⟨h.1, h.2.1⟩, h.2.2⟩
   obtain ⟨hv, hm⟩ := num_of hl
   rw [hv, hm]
   cases hT : decide (tx (r.s.take i) = dec6 (n : Nat)) with
   | false =>
    have hT' := of_decide_eq_false hT
    rw [dec6_at] at hT'
    rw [show (r.bad || (decide (9999 < n) || (decide (i + 0 = 0) || !decide (r.s.take (i + 0) = decF 5 n)))) = true by simp [hT']]
    repeat' first | refine dr (id := 5) T 15 (by kernel_rfl) ?_ | refine gn ?_ | (first | apply VCg.step T rfl rfl | apply exF); focus ((try simp (disch := omega) only [go_sem, Nat.reduceBEq, tx_size, tx_take, Int.toNat_natCast]); (first | exact rfl | refine ⟨?_, rfl⟩; try omega | refine Op1.callp rfl rfl (c1) rfl ?_; exact ⟨rfl, rfl⟩)) | refine VCg.gstep T rfl rfl rfl rfl ?_; try simp only [GB] | refine vs T rfl fun K hK => ?_; (try simp (disch := omega) only [go_sem, Nat.reduceBEq, Nat.reduceAdd, Nat.reduceLeDiff, tx_size, tx_list, tx_drop, hT, Bool.not_false, Int.toNat_natCast, e1]); (first | refine hK _ _ ?_; clear hK K | refine ⟨?_, hK _ _ ?_⟩ <;> clear hK K; focus (try omega)) | refine st rfl ?_ | refine sc rfl ?_ | refine nl ?_ | refine gs rfl rfl ?_ | with_reducible refine gsplit_intro (fun hc => ?_) (fun hc => ?_) <;> (try simp only [decide_eq_true_eq, decide_eq_false_iff_not, beq_iff_eq, beq_eq_false_iff_ne, ne_eq, ge_iff_le, gt_iff_lt, Int.not_le, Int.not_lt] at hc) <;> (try (exfalso; omega))
    all_goals exact ret1 T (List.Sublist.refl _) ⟨rfl, rfl⟩
   | true =>
    have hT' := of_decide_eq_true hT
    rw [dec6_at] at hT'
    repeat' first | refine dr (id := 5) T 15 (by kernel_rfl) ?_ | refine gn ?_ | (first | apply VCg.step T rfl rfl | apply exF); focus ((try simp (disch := omega) only [go_sem, Nat.reduceBEq, tx_size, tx_take, Int.toNat_natCast]); (first | exact rfl | refine ⟨?_, rfl⟩; try omega | refine Op1.callp rfl rfl (c1) rfl ?_; exact ⟨rfl, rfl⟩)) | refine VCg.gstep T rfl rfl rfl rfl ?_; try simp only [GB] | refine vs T rfl fun K hK => ?_; (try simp (disch := omega) only [go_sem, Nat.reduceBEq, Nat.reduceAdd, Nat.reduceLeDiff, tx_size, tx_list, tx_drop, hT, Bool.not_true, Int.toNat_natCast, e1]); (first | refine hK _ _ ?_; clear hK K | refine ⟨?_, hK _ _ ?_⟩ <;> clear hK K; focus (try omega)) | refine st rfl ?_ | refine sc rfl ?_ | refine nl ?_ | refine gs rfl rfl ?_ | with_reducible refine gsplit_intro (fun hc => ?_) (fun hc => ?_) <;> (try simp only [decide_eq_true_eq, decide_eq_false_iff_not, beq_iff_eq, beq_eq_false_iff_ne, ne_eq, ge_iff_le, gt_iff_lt, Int.not_le, Int.not_lt] at hc) <;> (try (exfalso; omega))
    all_goals first | (have q : 9999 < n := (by omega); rw [show (r.bad || (decide (9999 < n) || (decide (i + 0 = 0) || !decide (r.s.take (i + 0) = decF 5 n)))) = true by simp [q]]; exact ret1 T (List.Sublist.refl _) ⟨rfl, rfl⟩) | (have q : i = 0 := (by omega); rw [show (r.bad || (decide (9999 < n) || (decide (i + 0 = 0) || !decide (r.s.take (i + 0) = decF 5 n)))) = true by simp [q]]; exact ret1 T (List.Sublist.refl _) ⟨rfl, rfl⟩) | (have q : ¬ 9999 < n := (by omega); have q2 : ¬ i = 0 := (by omega); rw [show (r.bad || (decide (9999 < n) || (decide (i + 0 = 0) || !decide (r.s.take (i + 0) = decF 5 n)))) = r.bad by simp [q, q2, hT']]; exact ret1 T (List.Sublist.refl _) ⟨rfl, rfl⟩)
 case inr =>
  rw [List.drop_eq_nil_of_le hge] at hl
  have e1 : decide ((i : Int) < (r.s.length : Int)) = false := decide_eq_false (by omega)
  obtain ⟨hv, hm⟩ := num_of (show numL r.s 0 = (n, i + 0) from hl)
  rw [hv, hm]
  cases hT : decide (tx (r.s.take i) = dec6 (n : Nat)) with
  | false =>
   have hT' := of_decide_eq_false hT
   rw [dec6_at] at hT'
   rw [show (r.bad || (decide (9999 < n) || (decide (i + 0 = 0) || !decide (r.s.take (i + 0) = decF 5 n)))) = true by simp [hT']]
   repeat' first | refine dr (id := 5) T 15 (by kernel_rfl) ?_ | refine gn ?_ | (first | apply VCg.step T rfl rfl | apply exF); focus ((try simp (disch := omega) only [go_sem, Nat.reduceBEq, tx_size, tx_take, Int.toNat_natCast]); (first | exact rfl | refine ⟨?_, rfl⟩; try omega | refine Op1.callp rfl rfl (c1) rfl ?_; exact ⟨rfl, rfl⟩)) | refine VCg.gstep T rfl rfl rfl rfl ?_; try simp only [GB] | refine vs T rfl fun K hK => ?_; (try simp (disch := omega) only [go_sem, Nat.reduceBEq, Nat.reduceAdd, Nat.reduceLeDiff, tx_size, tx_drop, hT, Bool.not_false, Int.toNat_natCast, e1]); (first | refine hK _ _ ?_; clear hK K | refine ⟨?_, hK _ _ ?_⟩ <;> clear hK K; focus (try omega)) | refine st rfl ?_ | refine sc rfl ?_ | refine nl ?_ | refine gs rfl rfl ?_ | with_reducible refine gsplit_intro (fun hc => ?_) (fun hc => ?_) <;> (try simp only [decide_eq_true_eq, decide_eq_false_iff_not, beq_iff_eq, beq_eq_false_iff_ne, ne_eq, gt_iff_lt, Int.not_lt] at hc)
   all_goals exact ret1 T (List.Sublist.refl _) ⟨rfl, rfl⟩
  | true =>
   have hT' := of_decide_eq_true hT
   rw [dec6_at] at hT'
   repeat' first | refine dr (id := 5) T 15 (by kernel_rfl) ?_ | refine gn ?_ | (first | apply VCg.step T rfl rfl | apply exF); focus ((try simp (disch := omega) only [go_sem, Nat.reduceBEq, tx_size, tx_take, Int.toNat_natCast]); (first | exact rfl | refine ⟨?_, rfl⟩; try omega | refine Op1.callp rfl rfl (c1) rfl ?_; exact ⟨rfl, rfl⟩)) | refine VCg.gstep T rfl rfl rfl rfl ?_; try simp only [GB] | refine vs T rfl fun K hK => ?_; (try simp (disch := omega) only [go_sem, Nat.reduceBEq, Nat.reduceAdd, Nat.reduceLeDiff, tx_size, tx_drop, hT, Bool.not_true, Int.toNat_natCast, e1]); (first | refine hK _ _ ?_; clear hK K | refine ⟨?_, hK _ _ ?_⟩ <;> clear hK K; focus (try omega)) | refine st rfl ?_ | refine sc rfl ?_ | refine nl ?_ | refine gs rfl rfl ?_ | with_reducible refine gsplit_intro (fun hc => ?_) (fun hc => ?_) <;> (try simp only [decide_eq_true_eq, decide_eq_false_iff_not, beq_iff_eq, beq_eq_false_iff_ne, ne_eq, gt_iff_lt, Int.not_lt] at hc)
   all_goals first | (have q : 9999 < n := (by omega); rw [show (r.bad || (decide (9999 < n) || (decide (i + 0 = 0) || !decide (r.s.take (i + 0) = decF 5 n)))) = true by simp [q]]; exact ret1 T (List.Sublist.refl _) ⟨rfl, rfl⟩) | (have q : i = 0 := (by omega); rw [show (r.bad || (decide (9999 < n) || (decide (i + 0 = 0) || !decide (r.s.take (i + 0) = decF 5 n)))) = true by simp [q]]; exact ret1 T (List.Sublist.refl _) ⟨rfl, rfl⟩) | (have q : ¬ 9999 < n := (by omega); have q2 : ¬ i = 0 := (by omega); rw [show (r.bad || (decide (9999 < n) || (decide (i + 0 = 0) || !decide (r.s.take (i + 0) = decF 5 n)))) = r.bad by simp [q, q2, hT']]; exact ret1 T (List.Sublist.refl _) ⟨rfl, rfl⟩)
end Go.Proofs.YtomcmfbpmkklmaaGreat
