/- Contracts: whether a path and a circle are a lasso. No condition. -/
import Derived.Test.YtfifcjgcajpnoaaSg
import Derived.Test.YtfifcjgcajpnoaaSa
namespace Go.Proofs.Ytfifcjgcajpnoaa
set_option linter.unusedSimpArgs false
set_option linter.unusedVariables false
set_option maxRecDepth 20000
open Go Go.Proofs Go.Vc
attribute [local irreducible] retQ VCg VCw

def lasB (u : Un) (m r md : Int) (w : List Int) (c : Cf) : Bool := cyOk u m r c w w.length && (sameC c (cyC u m r c w w.length) && (cyU u m r md w c == -1))
def wLas (u : Un) (m r md : Int) (p w : List Int) : Bool := ((repF u m r p).2.2 == 0) && (!decide (w.length = 0) && ((md == 1 || md == 2) && lasB u m r md w (repF u m r p).1))
set_option maxHeartbeats 16000000 in
theorem wlas_ok (u : Un) (hu : OkU u) (m r md : Int) (p w : List Int) (hp : p.length ≤ 1000000) (hw : w.length ≤ 1000) : Pure Try.prog 6 [.agg (unC u), iD m, iD r, iD md, ints p, ints w] (bD (wLas u m r md p w)) := by
  have cb := begun_ok u hu m r p hp
  have hR := repF_rt hu (m := m) (r := r) (p := p)
  unfold wLas
  generalize repF u m r p = x at *
  obtain ⟨c, k, e⟩ := x
  dsimp only at cb hR ⊢
  refine Fun.of T [.tmp 12] Try.func6 rfl Try.ntmps6 Try.results6 rfl (by kernel_rfl) ?_
  cases he : e == 0
  · rw [he] at cb
    rw [Bool.false_and]
    repeat' first | refine vb (t := 25) rfl rfl rfl rfl ?_ | refine vs T rfl fun K hK => ?_; (try simp (disch := omega) only [go_sem, Nat.reduceBEq, Nat.reduceAdd, Nat.reduceLeDiff, Bool.not_false]); (first | refine hK _ _ ?_; clear hK K | refine Op1.callx rfl rfl (cb) rfl (fun q hq => ?_); refine hK _ _ ?_; clear hK K) | refine st rfl ?_ | refine sc rfl ?_ | refine nl ?_ | refine gs rfl rfl ?_ | refine gu rfl rfl ?_ | exact ret1 T (List.nil_sublist _) ⟨rfl, rfl⟩
  rw [he] at cb
  have h := hR he
  rw [Bool.true_and]
  by_cases h0 : w.length = 0
  · have e0 : ((w.length : Int) == 0) = true := by simp [h0]
    rw [show decide (w.length = 0) = true by simp [h0], Bool.not_true, Bool.false_and]
    repeat' first | refine vb (t := 25) rfl rfl rfl rfl ?_ | refine vs T rfl fun K hK => ?_; (try simp (disch := omega) only [go_sem, Nat.reduceBEq, Nat.reduceAdd, Nat.reduceLeDiff, e0, iRs_len, Bool.not_true]); (first | refine hK _ _ ?_; clear hK K | refine Op1.callx rfl rfl (cb) rfl (fun q hq => ?_); refine hK _ _ ?_; clear hK K) | refine st rfl ?_ | refine sc rfl ?_ | refine nl ?_ | refine gs rfl rfl ?_ | refine gu rfl rfl ?_ | exact ret1 T (List.nil_sublist _) ⟨rfl, rfl⟩
  have e0 : ((w.length : Int) == 0) = false := by simp [h0]
  rw [show decide (w.length = 0) = false by simp [h0], Bool.not_false, Bool.true_and]
  have hm : ((md != 1) = true ∧ (md != 2) = true ∧ (md == 1 || md == 2) = false) ∨ ((md != 1) = false ∧ (md == 1 || md == 2) = true) ∨ ((md != 1) = true ∧ (md != 2) = false ∧ (md == 1 || md == 2) = true) := by
    by_cases q1 : md = 1
    · subst q1; exact .inr (.inl ⟨rfl, rfl⟩)
    · by_cases q2 : md = 2
      · subst q2; exact .inr (.inr ⟨rfl, rfl, rfl⟩)
      · exact .inl ⟨by simpa using q1, by simpa using q2, by simp [q1, q2]⟩
  rcases hm with ⟨e1, e2, e3⟩ | hm
  · rw [e3, Bool.false_and]
    repeat' first | refine vb (t := 25) rfl rfl rfl rfl ?_ | refine vs T rfl fun K hK => ?_; (try simp (disch := omega) only [go_sem, Nat.reduceBEq, Nat.reduceAdd, Nat.reduceLeDiff, e0, e1, e2, iRs_len, Bool.not_true]); (first | refine hK _ _ ?_; clear hK K | refine Op1.callx rfl rfl (cb) rfl (fun q hq => ?_); refine hK _ _ ?_; clear hK K) | refine st rfl ?_ | refine sc rfl ?_ | refine nl ?_ | refine gs rfl rfl ?_ | exact ret1 T (List.nil_sublist _) ⟨rfl, rfl⟩
  have e3 : (md == 1 || md == 2) = true := by rcases hm with h | h; exact h.2; exact h.2.2
  have hm' : (md != 1) = false ∨ ((md != 1) = true ∧ (md != 2) = false) := by rcases hm with h | h; exact .inl h.1; exact .inr ⟨h.1, h.2.1⟩
  clear hm
  rw [e3, Bool.true_and]
  clear e3
  unfold lasB
  cases hk : cyOk u m r c w w.length
  · have cr := fun br => round_no h br w hw hk
    rw [Bool.false_and]
    rcases hm' with e1 | ⟨e1, e2⟩
    · repeat' first | refine vb (t := 25) rfl rfl rfl rfl ?_ | refine dr (id := 6) T 14 (by kernel_rfl) ?_ | refine gn ?_ | (apply VCg.step T rfl rfl); focus ((try simp (disch := omega) only [go_sem, Nat.reduceBEq]); (exact rfl)) | refine VCg.gstep T rfl rfl rfl rfl ?_; try simp only [GB] | refine vs T rfl fun K hK => ?_; (try simp (disch := omega) only [go_sem, Nat.reduceBEq, Nat.reduceAdd, Nat.reduceLeDiff, e0, e1, iRs_len, Bool.not_true]); (first | refine hK _ _ ?_; clear hK K | intro bq hbq; (try simp only [HB] at hbq); refine hK _ _ ?_; clear hK K | refine Op1.callx rfl rfl (cb) rfl (fun q hq => ?_); refine hK _ _ ?_; clear hK K | refine Op1.callX rfl rfl (cr _) rfl (by repeat (first | exact Pick.nil | apply Pick.take | apply Pick.skip)) (fun q hq => ?_); refine hK _ _ ?_; clear hK K; (try simp only [List.cons_append, List.nil_append])) | refine st rfl ?_ | refine sc rfl ?_ | refine nl ?_ | refine gs rfl rfl ?_ | exact ret1 T (List.nil_sublist _) ⟨rfl, rfl⟩
    · repeat' first | refine vb (t := 25) rfl rfl rfl rfl ?_ | refine dr (id := 6) T 14 (by kernel_rfl) ?_ | refine gn ?_ | (apply VCg.step T rfl rfl); focus ((try simp (disch := omega) only [go_sem, Nat.reduceBEq]); (exact rfl)) | refine VCg.gstep T rfl rfl rfl rfl ?_; try simp only [GB] | refine vs T rfl fun K hK => ?_; (try simp (disch := omega) only [go_sem, Nat.reduceBEq, Nat.reduceAdd, Nat.reduceLeDiff, e0, e1, e2, iRs_len, Bool.not_true]); (first | refine hK _ _ ?_; clear hK K | intro bq hbq; (try simp only [HB] at hbq); refine hK _ _ ?_; clear hK K | refine Op1.callx rfl rfl (cb) rfl (fun q hq => ?_); refine hK _ _ ?_; clear hK K | refine Op1.callX rfl rfl (cr _) rfl (by repeat (first | exact Pick.nil | apply Pick.take | apply Pick.skip)) (fun q hq => ?_); refine hK _ _ ?_; clear hK K; (try simp only [List.cons_append, List.nil_append])) | refine st rfl ?_ | refine sc rfl ?_ | refine nl ?_ | refine gs rfl rfl ?_ | exact ret1 T (List.nil_sublist _) ⟨rfl, rfl⟩
  have cr := fun br => round_yes h br w hw hk
  have hN := agsF_len u m
  have cs := csame_ok c (cyC u m r c w w.length) h.okC (h.cy w _).okC
  rw [Bool.true_and]
  unfold cyU
  have hl1 := tabI_len (agsF u m).length (cyOn u m r c w w.length)
  have hl2 := tabI_len (agsF u m).length (cyAc w w.length)
  generalize (agsF u m).length = n at *
  generalize tabI n (cyOn u m r c w w.length) = on at *
  generalize tabI n (cyAc w w.length) = ac at *
  generalize cyC u m r c w w.length = c2 at *
  subst hl1
  have cu := fun bs bo ba => unfair_ok bs (some (bo, on.length)) (some (ba, on.length)) on ac (Nat.le_refl _) (by rw [hl2]; exact Nat.le_refl _) hl2 (by omega) md (w.length : Nat)
  generalize unfF md (w.length : Nat) on ac = un at *
  rcases hm' with e1 | ⟨e1, e2⟩
  · repeat' first | refine vb (t := 25) rfl rfl rfl rfl ?_ | refine vs T rfl fun K hK => ?_; (try simp (disch := omega) only [go_sem, Nat.reduceBEq, Nat.reduceAdd, Nat.reduceLeDiff, e0, e1, iRs_len, Bool.not_true]); (first | refine hK _ _ ?_; clear hK K | intro bq hbq; (try simp only [HB] at hbq); refine hK _ _ ?_; clear hK K | refine Op1.callx rfl rfl (cb) rfl (fun q hq => ?_); refine hK _ _ ?_; clear hK K | skip) | refine st rfl ?_ | refine sc rfl ?_ | refine nl ?_ | refine gs rfl rfl ?_
    refine Op1.callX rfl rfl (cr _) rfl (by repeat (first | exact Pick.nil | apply Pick.take | apply Pick.skip)) (fun x hx => ?_)
    obtain ⟨bs, bo, ba⟩ := x
    dsimp only
    refine hK _ _ ?_
    clear hK K
    try simp only [updO]
    refine vo ?_
    refine VCo.weak (Weak.perm (H' := (bs, .cells 64 2 [.gs (some (bo, on.length)) on.length, .gs (some (ba, on.length)) ac.length]) :: (bo, .cells 3 (on.length * 1) (on.map iD)) :: (ba, .cells 3 (on.length * 1) (ac.map iD)) :: (q, .cells 43 10 (ruC u m r c2)) :: [(bq, .cells 41 4 [ints c.pc, .sl false 1 (rowsI c.regs), ints c.mem, .sl false 1 (bufsR c.bufs)])]) (perm_of fun a => by simp only [seW, cnt_shp, cnt_cons, cnt_app, cnt_nil, shp_some] <;> omega)) ?_
    refine VCo.nodup fun hnd => ?_
    simp only [Heap.blocks, List.map_cons, List.map_nil, List.nodup_cons, List.mem_cons, not_or, List.not_mem_nil, not_false_eq_true, and_true] at hnd
    obtain ⟨⟨n1, n2, n3, n4⟩, ⟨n5, n6, n7⟩, ⟨n8, n9⟩, n10⟩ := hnd
    cases hS : sameC c c2
    · rw [hS] at cs
      rw [Bool.false_and]
      repeat' first | refine dr (id := 6) T 14 (by kernel_rfl) ?_ | refine gn ?_ | (first | apply VCg.step T rfl rfl | apply exF); focus ((try simp (disch := omega) only [go_sem, Nat.reduceBEq, Nat.reduceAdd, Nat.reduceLeDiff]); (first | exact rfl | refine Op1.callp rfl rfl (cs) rfl ?_; exact ⟨rfl, rfl⟩)) | refine VCg.gstep T rfl rfl rfl rfl ?_; try simp only [GB] | refine vs T rfl fun K hK => ?_; (try simp (disch := omega) only [go_sem, Nat.reduceBEq]); (refine hK _ _ ?_; clear hK K) | refine st rfl ?_ | refine nl ?_ | refine gs rfl rfl ?_ | refine ov ?_ | exact ret1 T (List.nil_sublist _) ⟨rfl, rfl⟩
    · rw [hS] at cs
      rw [Bool.true_and]
      repeat' first | refine dr (id := 6) T 14 (by kernel_rfl) ?_ | refine gn ?_ | (first | apply VCg.step T rfl rfl | apply exF); focus ((try simp (disch := omega) only [go_sem, Nat.reduceBEq, Nat.reduceAdd, Nat.reduceLeDiff, iRs_len]); (first | exact rfl | refine Op1.callp rfl rfl (cs) rfl ?_; exact ⟨rfl, rfl⟩)) | refine VCg.gstep T rfl rfl rfl rfl ?_; try simp only [GB] | refine vs T rfl fun K hK => ?_; (try simp (disch := omega) only [go_sem, Nat.reduceBEq]); (first | refine hK _ _ ?_; clear hK K | refine Op1.callV rfl rfl (cu _ _ _) rfl (by repeat (first | exact Pick.nil | apply Pick.take)) ?_; refine hK _ _ ?_; clear hK K; (try simp only [List.cons_append])) | refine st rfl ?_ | refine nl ?_ | refine gs rfl rfl ?_ | refine ov ?_ | exact ret1 T (List.nil_sublist _) ⟨rfl, rfl⟩
  · repeat' first | refine vb (t := 25) rfl rfl rfl rfl ?_ | refine vs T rfl fun K hK => ?_; (try simp (disch := omega) only [go_sem, Nat.reduceBEq, Nat.reduceAdd, Nat.reduceLeDiff, e0, e1, e2, iRs_len, Bool.not_true]); (first | refine hK _ _ ?_; clear hK K | intro bq hbq; (try simp only [HB] at hbq); refine hK _ _ ?_; clear hK K | refine Op1.callx rfl rfl (cb) rfl (fun q hq => ?_); refine hK _ _ ?_; clear hK K | skip) | refine st rfl ?_ | refine sc rfl ?_ | refine nl ?_ | refine gs rfl rfl ?_
    refine Op1.callX rfl rfl (cr _) rfl (by repeat (first | exact Pick.nil | apply Pick.take | apply Pick.skip)) (fun x hx => ?_)
    obtain ⟨bs, bo, ba⟩ := x
    dsimp only
    refine hK _ _ ?_
    clear hK K
    try simp only [updO]
    refine vo ?_
    refine VCo.weak (Weak.perm (H' := (bs, .cells 64 2 [.gs (some (bo, on.length)) on.length, .gs (some (ba, on.length)) ac.length]) :: (bo, .cells 3 (on.length * 1) (on.map iD)) :: (ba, .cells 3 (on.length * 1) (ac.map iD)) :: (q, .cells 43 10 (ruC u m r c2)) :: [(bq, .cells 41 4 [ints c.pc, .sl false 1 (rowsI c.regs), ints c.mem, .sl false 1 (bufsR c.bufs)])]) (perm_of fun a => by simp only [seW, cnt_shp, cnt_cons, cnt_app, cnt_nil, shp_some] <;> omega)) ?_
    refine VCo.nodup fun hnd => ?_
    simp only [Heap.blocks, List.map_cons, List.map_nil, List.nodup_cons, List.mem_cons, not_or, List.not_mem_nil, not_false_eq_true, and_true] at hnd
    obtain ⟨⟨n1, n2, n3, n4⟩, ⟨n5, n6, n7⟩, ⟨n8, n9⟩, n10⟩ := hnd
    cases hS : sameC c c2
    · rw [hS] at cs
      rw [Bool.false_and]
      repeat' first | refine dr (id := 6) T 14 (by kernel_rfl) ?_ | refine gn ?_ | (first | apply VCg.step T rfl rfl | apply exF); focus ((try simp (disch := omega) only [go_sem, Nat.reduceBEq, Nat.reduceAdd, Nat.reduceLeDiff]); (first | exact rfl | refine Op1.callp rfl rfl (cs) rfl ?_; exact ⟨rfl, rfl⟩)) | refine VCg.gstep T rfl rfl rfl rfl ?_; try simp only [GB] | refine vs T rfl fun K hK => ?_; (try simp (disch := omega) only [go_sem, Nat.reduceBEq]); (refine hK _ _ ?_; clear hK K) | refine st rfl ?_ | refine nl ?_ | refine gs rfl rfl ?_ | refine ov ?_ | exact ret1 T (List.nil_sublist _) ⟨rfl, rfl⟩
    · rw [hS] at cs
      rw [Bool.true_and]
      repeat' first | refine dr (id := 6) T 14 (by kernel_rfl) ?_ | refine gn ?_ | (first | apply VCg.step T rfl rfl | apply exF); focus ((try simp (disch := omega) only [go_sem, Nat.reduceBEq, Nat.reduceAdd, Nat.reduceLeDiff, iRs_len]); (first | exact rfl | refine Op1.callp rfl rfl (cs) rfl ?_; exact ⟨rfl, rfl⟩)) | refine VCg.gstep T rfl rfl rfl rfl ?_; try simp only [GB] | refine vs T rfl fun K hK => ?_; (try simp (disch := omega) only [go_sem, Nat.reduceBEq]); (first | refine hK _ _ ?_; clear hK K | refine Op1.callV rfl rfl (cu _ _ _) rfl (by repeat (first | exact Pick.nil | apply Pick.take)) ?_; refine hK _ _ ?_; clear hK K; (try simp only [List.cons_append])) | refine st rfl ?_ | refine nl ?_ | refine gs rfl rfl ?_ | refine ov ?_ | exact ret1 T (List.nil_sublist _) ⟨rfl, rfl⟩
end Go.Proofs.Ytfifcjgcajpnoaa
/- Contracts: whether a circle can be gone round. No condition. -/
namespace Go.Proofs.Ytfifcjgcajpnoaa
set_option linter.unusedSimpArgs false
set_option linter.unusedVariables false
set_option maxRecDepth 20000
open Go Go.Proofs Go.Vc
attribute [local irreducible] retQ VCg VCw

theorem sameC_eq {a b : Cf} (h : sameC a b = true) : b = a := by
  simp only [sameC, Bool.and_eq_true, decide_eq_true_eq] at h
  obtain ⟨h1, h2, h3, h4⟩ := h
  cases a; cases b
  simp_all
def runB (u : Un) (m r : Int) (w : List Int) (c : Cf) : Bool := cyOk u m r c w w.length && sameC c (cyC u m r c w w.length)
def wRun (u : Un) (m r : Int) (p w : List Int) (t : Int) : Bool := ((repF u m r p).2.2 == 0) && (!decide (t < 0) && (!decide (t > 1000) && (decide (t = 0) || runB u m r w (repF u m r p).1)))
set_option maxHeartbeats 16000000 in
theorem wrun_ok (u : Un) (hu : OkU u) (m r : Int) (p w : List Int) (t : Int) (hp : p.length ≤ 1000000) (hw : w.length ≤ 1000) : Pure Try.prog 8 [.agg (unC u), iD m, iD r, ints p, ints w, iD t] (bD (wRun u m r p w t)) := by
  have cb := begun_ok u hu m r p hp
  have hR := repF_rt hu (m := m) (r := r) (p := p)
  unfold wRun
  generalize repF u m r p = x at *
  obtain ⟨c, k, e⟩ := x
  dsimp only at cb hR ⊢
  refine Fun.of T [.tmp 12] Try.func8 rfl Try.ntmps8 Try.results8 rfl (by kernel_rfl) ?_
  cases he : e == 0
  · rw [he] at cb
    rw [Bool.false_and]
    repeat' first | refine vb (t := 25) rfl rfl rfl rfl ?_ | refine vs T rfl fun K hK => ?_; (try simp (disch := omega) only [go_sem, Nat.reduceBEq, Nat.reduceAdd, Nat.reduceLeDiff, Bool.not_false]); (first | refine hK _ _ ?_; clear hK K | refine Op1.callx rfl rfl (cb) rfl (fun q hq => ?_); refine hK _ _ ?_; clear hK K) | refine st rfl ?_ | refine sc rfl ?_ | refine nl ?_ | refine gs rfl rfl ?_ | exact ret1 T (List.nil_sublist _) ⟨rfl, rfl⟩
  rw [he] at cb
  have h := hR he
  rw [Bool.true_and]
  cases h0 : decide (t < 0)
  case true =>
    rw [Bool.not_true, Bool.false_and]
    repeat' first | refine vb (t := 25) rfl rfl rfl rfl ?_ | refine vs T rfl fun K hK => ?_; (try simp (disch := omega) only [go_sem, Nat.reduceBEq, Nat.reduceAdd, Nat.reduceLeDiff, h0, Bool.not_true]); (first | refine hK _ _ ?_; clear hK K | refine Op1.callx rfl rfl (cb) rfl (fun q hq => ?_); refine hK _ _ ?_; clear hK K) | refine st rfl ?_ | refine sc rfl ?_ | refine nl ?_ | refine gs rfl rfl ?_ | exact ret1 T (List.nil_sublist _) ⟨rfl, rfl⟩
  rw [Bool.not_false, Bool.true_and]
  cases h1 : decide (t > 1000)
  case true =>
    rw [Bool.not_true, Bool.false_and]
    repeat' first | refine vb (t := 25) rfl rfl rfl rfl ?_ | refine vs T rfl fun K hK => ?_; (try simp (disch := omega) only [go_sem, Nat.reduceBEq, Nat.reduceAdd, Nat.reduceLeDiff, h0, h1, Bool.not_true]); (first | refine hK _ _ ?_; clear hK K | refine Op1.callx rfl rfl (cb) rfl (fun q hq => ?_); refine hK _ _ ?_; clear hK K) | refine st rfl ?_ | refine sc rfl ?_ | refine nl ?_ | refine gs rfl rfl ?_ | exact ret1 T (List.nil_sublist _) ⟨rfl, rfl⟩
  rw [Bool.not_false, Bool.true_and]
  have hC := csame_ok c (cyC u m r c w w.length) h.okC (h.cy w _).okC
  repeat' first | refine vb (t := 25) rfl rfl rfl rfl ?_ | refine vs T rfl fun K hK => ?_; (try simp (disch := omega) only [go_sem, Nat.reduceBEq, Nat.reduceAdd, Nat.reduceLeDiff, h0, h1, Bool.not_true]); (first | refine hK _ _ ?_; clear hK K | intro bq hbq; (try simp only [HB] at hbq); refine hK _ _ ?_; clear hK K | refine Op1.callx rfl rfl (cb) rfl (fun q hq => ?_); refine hK _ _ ?_; clear hK K) | refine st rfl ?_ | refine sc rfl ?_ | refine nl ?_ | refine gs rfl rfl ?_
  clear cb
  simp only [decide_eq_false_iff_not, Int.not_lt, gt_iff_lt] at h0 h1
  obtain ⟨n, rfl⟩ : ∃ n : Nat, t = (n : Int) := ⟨t.toNat, by omega⟩
  have n1 : ¬ q = bq := fun h => hbq h.symm
  have hyes : runB u m r w c = true → ((decide ((n : Int) = 0)) || runB u m r w c) = true := fun h => by rw [h, Bool.or_true]
  have hno : n ≠ 0 → runB u m r w c = false → ((decide ((n : Int) = 0)) || runB u m r w c) = false := fun h0 h => by rw [h, Bool.or_false, decide_eq_false_iff_not]; omega
  refine VC.loop {k : Nat // k ≤ n ∧ (0 < k → runB u m r w c = true)} (fun x => ⟨lookD [(4, ints w), (13, pD q), (15, pD bq), (40, iD (n : Nat)), (41, iD (x.1 : Nat))], [(q, .cells 43 10 (ruC u m r c)), (bq, .cells 41 4 [ints c.pc, .sl false 1 (rowsI c.regs), ints c.mem, .sl false 1 (bufsR c.bufs)])]⟩) (fun x => n - x.1) ⟨0, by omega, fun h => by omega⟩ ?_ ?_
  · refine Weak.trans (Weak.perm (H' := [(q, .cells 43 10 (ruC u m r c)), (bq, .cells 41 4 [ints c.pc, .sl false 1 (rowsI c.regs), ints c.mem, .sl false 1 (bufsR c.bufs)])]) (perm_of fun a => by simp only [cnt_shp, cnt_cons, cnt_app, cnt_nil] <;> omega)) (Weak.sub ?_)
    simp [sub, upd]
  rintro ⟨k, hk, hb⟩
  dsimp only
  rcases Nat.lt_or_ge k n with hlt | hge
  case inr =>
    have hd : decide ((k : Int) < (n : Int)) = false := by simp; omega
    have : (decide ((n : Int) = 0) || runB u m r w c) = true := by
      by_cases h : n = 0
      · simp [h]
      · exact hyes (hb (by omega))
    rw [this]
    repeat' first | refine vs T rfl fun K hK => ?_; (try simp (disch := omega) only [go_sem, Nat.reduceBEq, hd]); (refine hK _ _ ?_; clear hK K) | refine st rfl ?_ | refine sc rfl ?_ | refine nl ?_ | exact ret1 T (List.nil_sublist _) ⟨rfl, rfl⟩
  have hd : decide ((k : Int) < (n : Int)) = true := by simp; omega
  have hw1 : IntKind.i64.wrap ((k : Int) + 1) = ((k + 1 : Nat) : Int) := by rw [w64 (by omega)]; omega
  replace hno := hno (by omega)
  generalize (decide ((n : Int) = 0) || runB u m r w c) = R at *
  repeat' first | refine vs T rfl fun K hK => ?_; (try simp (disch := omega) only [go_sem, Nat.reduceBEq, hd]); (refine hK _ _ ?_; clear hK K) | refine st rfl ?_ | refine sc rfl ?_ | refine nl ?_
  refine VC.loop {j : Nat // j ≤ w.length ∧ cyOk u m r c w j = true} (fun x => ⟨lookD [(13, pD q), (15, pD bq), (40, iD (n : Nat)), (41, iD (k : Nat)), (4, ints w), (43, ints w), (44, iD (w.length : Nat)), (45, iD (x.1 : Nat))], [(q, .cells 43 10 (ruC u m r (cyC u m r c w x.1))), (bq, .cells 41 4 [ints c.pc, .sl false 1 (rowsI c.regs), ints c.mem, .sl false 1 (bufsR c.bufs)])]⟩) (fun x => w.length - x.1) ⟨0, by omega, rfl⟩ ?_ ?_
  · refine Weak.sub ?_
    simp [sub, upd, iRs_len]
  rintro ⟨j, hj, hok⟩
  dsimp only
  rcases Nat.lt_or_ge j w.length with hjl | hge
  case inr =>
    have hjp : j = w.length := by omega
    subst hjp
    have hd : decide ((w.length : Int) < (w.length : Int)) = false := by simp
    have hrun : runB u m r w c = sameC c (cyC u m r c w w.length) := by rw [runB, hok, Bool.true_and]
    cases hS : sameC c (cyC u m r c w w.length) with
    | false =>
      rw [hS] at hC hrun
      rw [hno hrun]
      generalize cyC u m r c w w.length = c2 at *
      repeat' first | refine dr (id := 13) T 5 (by kernel_rfl) ?_ | refine gn ?_ | (apply VCg.step T rfl rfl); focus ((try simp (disch := omega) only [go_sem, Nat.reduceBEq, Nat.reduceAdd, Nat.reduceLeDiff]); (exact rfl)) | refine vs T rfl fun K hK => ?_; (try simp (disch := omega) only [go_sem, Nat.reduceBEq, hd, Bool.not_false]); (first | refine hK _ _ ?_; clear hK K | refine Op1.callp rfl rfl (hC) rfl ?_; refine hK _ _ ?_; clear hK K) | refine st rfl ?_ | refine sc rfl ?_ | refine nl ?_ | exact ret1 T (List.nil_sublist _) ⟨rfl, rfl⟩
    | true =>
      rw [hS] at hC hrun
      have he2 := sameC_eq hS
      rw [he2] at hC ⊢
      repeat' first | refine dr (id := 13) T 5 (by kernel_rfl) ?_ | refine gn ?_ | (first | apply VCg.step T rfl rfl | apply exF); focus ((try simp (disch := omega) only [go_sem, Nat.reduceBEq, Nat.reduceAdd, Nat.reduceLeDiff]); (exact rfl)) | refine vs T rfl fun K hK => ?_; (try simp (disch := omega) only [go_sem, Nat.reduceBEq, hd, hw1, Bool.not_true]); (first | refine hK _ _ ?_; clear hK K | refine Op1.callp rfl rfl (hC) rfl ?_; refine hK _ _ ?_; clear hK K) | refine st rfl ?_ | refine sc rfl ?_ | refine nl ?_
      refine ⟨⟨k + 1, by omega, fun _ => hrun⟩, Weak.sub ?_, by dsimp only; omega⟩
      simp [sub, upd]
  have hd2 : decide ((j : Int) < (w.length : Int)) = true := by simp; omega
  have hw2 : IntKind.i64.wrap ((j : Int) + 1) = ((j + 1 : Nat) : Int) := by rw [w64 (by omega)]; omega
  obtain ⟨a, ha⟩ : ∃ a, w[j]? = some a := ⟨_, List.getElem?_eq_getElem hjl⟩
  have ra : (iRs w)[j]? = some [iD a] := by rw [iRs_at, ha]; rfl
  have hR2 := h.cy w j
  have hcy := cyC_succ (u := u) (m := m) (r := r) (c := c) ha
  have hoks := cyOk_succ (u := u) (m := m) (r := r) (c := c) ha
  have hcn := cyOk_no (u := u) (m := m) (r := r) (c := c) ha
  rw [hok, Bool.true_and] at hoks
  generalize cyC u m r c w j = c1 at *
  have ca := runAct_ok q hR2 a
  rw [← hcy] at ca
  cases hE : enM u c1 m r a with
  | false =>
    rw [hE] at ca
    rw [hno (by rw [runB, hcn hE, Bool.false_and])]
    generalize cyC u m r c w (j + 1) = c2 at *
    repeat' first | refine vs T rfl fun K hK => ?_; (try simp (disch := omega) only [go_sem, Nat.reduceBEq, hd2, ra, iRs_len, Bool.not_false]); (first | refine hK _ _ ?_; clear hK K | refine ⟨?_, hK _ _ ?_⟩ <;> clear hK K; focus (try omega) | refine Op1.callV rfl rfl (ca) rfl (by repeat (first | exact Pick.nil | apply Pick.take)) ?_; refine hK _ _ ?_; clear hK K; (try simp only [List.cons_append, List.nil_append])) | refine st rfl ?_ | refine sc rfl ?_ | refine nl ?_ | exact ret1 T (List.nil_sublist _) ⟨rfl, rfl⟩
  | true =>
    rw [hE] at ca hoks
    generalize hc2 : cyC u m r c w (j + 1) = c2 at *
    repeat' first | refine vs T rfl fun K hK => ?_; (try simp (disch := omega) only [go_sem, Nat.reduceBEq, hd2, hw2, ra, iRs_len, Bool.not_true]); (first | refine hK _ _ ?_; clear hK K | refine ⟨?_, hK _ _ ?_⟩ <;> clear hK K; focus (try omega) | refine Op1.callV rfl rfl (ca) rfl (by repeat (first | exact Pick.nil | apply Pick.take)) ?_; refine hK _ _ ?_; clear hK K; (try simp only [List.cons_append, List.nil_append])) | refine st rfl ?_ | refine sc rfl ?_ | refine nl ?_
    refine ⟨⟨j + 1, by omega, hoks⟩, ?_, by dsimp only; omega⟩
    dsimp only
    rw [hc2]
    refine Weak.sub ?_
    simp [sub, upd]
end Go.Proofs.Ytfifcjgcajpnoaa
/- Contracts: what the reference tells of a path; whether a circle can be gone round. No condition. -/
namespace Go.Proofs.Ytfifcjgcajpnoaa
set_option linter.unusedSimpArgs false
set_option linter.unusedVariables false
set_option maxRecDepth 20000
open Go Go.Proofs Go.Vc

end Go.Proofs.Ytfifcjgcajpnoaa
