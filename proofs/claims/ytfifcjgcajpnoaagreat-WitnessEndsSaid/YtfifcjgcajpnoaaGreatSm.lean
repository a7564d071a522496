/- Contracts: whether a circle can be gone round, as the reference says. No condition. -/
import Derived.Test.YtfifcjgcajpnoaaGreatSj
import Derived.Test.YtfifcjgcajpnoaaGreatTa
namespace Go.Proofs.YtfifcjgcajpnoaaGreat
set_option linter.unusedSimpArgs false
set_option linter.unusedVariables false
set_option maxRecDepth 20000
open Go Go.Proofs Go.Vc
attribute [local irreducible] retQ VCg VCw

set_option maxHeartbeats 16000000 in
theorem rwrun_ok (u : Un) (hu : OkU u) (m r : Int) (p w : List Int) (t : Int) (hp : p.length ≤ 1000000) (hw : w.length ≤ 1000) : Pure Tryz.prog 12 [.agg (unC u), iD m, iD r, ints p, ints w, iD t] (bD (wRun u m r p w t)) := by
  have cb := rreplay_ok u hu m r p hp
  have hR := repF_rt hu (m := m) (r := r) (p := p)
  unfold wRun
  generalize repF u m r p = x at *
  obtain ⟨c, k, e⟩ := x
  dsimp only at cb hR ⊢
  refine Fun.of T [.tmp 12] Tryz.func12 rfl Tryz.ntmps12 Tryz.results12 rfl (by kernel_rfl) ?_
  by_cases he : e = 0
  case neg =>
    have e1 : (e != 0) = true := by simpa using he
    rw [show (e == 0) = false by simpa using he, Bool.false_and]
    repeat' first | refine vb (t := 25) rfl rfl rfl rfl ?_ | refine vs T rfl fun K hK => ?_; (try simp (disch := omega) only [go_sem, Nat.reduceBEq, Nat.reduceAdd, Nat.reduceLeDiff, e1]); (first | refine hK _ _ ?_; clear hK K | intro bq hbq; (try simp only [HB] at hbq); refine hK _ _ ?_; clear hK K | refine Op1.callp rfl rfl (cb) rfl ?_; refine hK _ _ ?_; clear hK K) | refine st rfl ?_ | refine sc rfl ?_ | refine nl ?_ | refine gs rfl rfl ?_ | exact ret1 T (List.nil_sublist _) ⟨rfl, rfl⟩
  have e1 : (e != 0) = false := by simpa using he
  have he1 : (e == 0) = true := by simpa using he
  have h := hR he1
  rw [he1, Bool.true_and]
  cases h0 : decide (t < 0)
  case true =>
    rw [Bool.not_true, Bool.false_and]
    repeat' first | refine vb (t := 25) rfl rfl rfl rfl ?_ | refine vs T rfl fun K hK => ?_; (try simp (disch := omega) only [go_sem, Nat.reduceBEq, Nat.reduceAdd, Nat.reduceLeDiff, e1, h0]); (first | refine hK _ _ ?_; clear hK K | intro bq hbq; (try simp only [HB] at hbq); refine hK _ _ ?_; clear hK K | refine Op1.callp rfl rfl (cb) rfl ?_; refine hK _ _ ?_; clear hK K) | refine st rfl ?_ | refine sc rfl ?_ | refine nl ?_ | refine gs rfl rfl ?_ | exact ret1 T (List.nil_sublist _) ⟨rfl, rfl⟩
  rw [Bool.not_false, Bool.true_and]
  cases h1 : decide (t > 1000)
  case true =>
    rw [Bool.not_true, Bool.false_and]
    repeat' first | refine vb (t := 25) rfl rfl rfl rfl ?_ | refine vs T rfl fun K hK => ?_; (try simp (disch := omega) only [go_sem, Nat.reduceBEq, Nat.reduceAdd, Nat.reduceLeDiff, e1, h0, h1]); (first | refine hK _ _ ?_; clear hK K | intro bq hbq; (try simp only [HB] at hbq); refine hK _ _ ?_; clear hK K | refine Op1.callp rfl rfl (cb) rfl ?_; refine hK _ _ ?_; clear hK K) | refine st rfl ?_ | refine sc rfl ?_ | refine nl ?_ | refine gs rfl rfl ?_ | exact ret1 T (List.nil_sublist _) ⟨rfl, rfl⟩
  rw [Bool.not_false, Bool.true_and]
  have hC := rsame_ok c (cyC u m r c w w.length) h.okC (h.cy w _).okC
  repeat' first | refine vb (t := 25) rfl rfl rfl rfl ?_ | refine vs T rfl fun K hK => ?_; (try simp (disch := omega) only [go_sem, Nat.reduceBEq, Nat.reduceAdd, Nat.reduceLeDiff, e1, h0, h1]); (first | refine hK _ _ ?_; clear hK K | intro bq hbq; (try simp only [HB] at hbq); refine hK _ _ ?_; clear hK K | refine Op1.callp rfl rfl (cb) rfl ?_; refine hK _ _ ?_; clear hK K) | refine st rfl ?_ | refine sc rfl ?_ | refine nl ?_ | refine gs rfl rfl ?_
  clear cb
  simp only [decide_eq_false_iff_not, Int.not_lt, gt_iff_lt] at h0 h1
  obtain ⟨n, rfl⟩ : ∃ n : Nat, t = (n : Int) := ⟨t.toNat, by omega⟩
  rename_i b1 hb1
  have n1 : ¬ bq = b1 := hbq
  clear hb1
  have hyes : runB u m r w c = true → ((decide ((n : Int) = 0)) || runB u m r w c) = true := fun h => by rw [h, Bool.or_true]
  have hno : n ≠ 0 → runB u m r w c = false → ((decide ((n : Int) = 0)) || runB u m r w c) = false := fun h0 h => by rw [h, Bool.or_false, decide_eq_false_iff_not]; omega
  refine VC.loop {k : Nat // k ≤ n ∧ (0 < k → runB u m r w c = true)} (fun x => ⟨lookD [(1, iD m), (2, iD r), (4, ints w), (5, iD (n : Nat)), (6, .pt (unC u)), (13, pD b1), (16, pD bq), (17, iD (x.1 : Nat))], [(bq, .cells 48 4 (cfC c)), (b1, .cells 48 4 (cfC c))]⟩) (fun x => n - x.1) ⟨0, by omega, fun h => by omega⟩ ?_ ?_
  · refine Weak.sub ?_
    simp [sub, upd]
  rintro ⟨k, hk, hb⟩
  dsimp only
  rcases Nat.lt_or_ge k n with hlt | hge
  case inr =>
    have hd : decide ((k : Int) < (n : Int)) = false := by simp; omega
    have : (decide ((n : Int) = 0) || runB u m r w c) = true := by
      by_cases h : n = 0
      · simp [h]
      · exact hyes (hb (by omega))
    rw [this]
    repeat' first | refine vs T rfl fun K hK => ?_; (try simp (disch := omega) only [go_sem, Nat.reduceBEq, hd]); (refine hK _ _ ?_; clear hK K) | refine st rfl ?_ | refine sc rfl ?_ | refine nl ?_ | exact ret1 T (List.nil_sublist _) ⟨rfl, rfl⟩
  have hd : decide ((k : Int) < (n : Int)) = true := by simp; omega
  have hw1 : IntKind.i64.wrap ((k : Int) + 1) = ((k + 1 : Nat) : Int) := by rw [w64 (by omega)]; omega
  replace hno := hno (by omega)
  generalize (decide ((n : Int) = 0) || runB u m r w c) = R at *
  repeat' first | refine vs T rfl fun K hK => ?_; (try simp (disch := omega) only [go_sem, Nat.reduceBEq, hd]); (refine hK _ _ ?_; clear hK K) | refine st rfl ?_ | refine sc rfl ?_ | refine nl ?_
  refine VC.loop {j : Nat // j ≤ w.length ∧ cyOk u m r c w j = true} (fun x => ⟨lookD [(1, iD m), (2, iD r), (4, ints w), (5, iD (n : Nat)), (6, .pt (unC u)), (13, pD b1), (16, pD bq), (17, iD (k : Nat)), (18, iD (x.1 : Nat))], [(bq, .cells 48 4 (cfC (cyC u m r c w x.1))), (b1, .cells 48 4 (cfC c))]⟩) (fun x => w.length - x.1) ⟨0, by omega, rfl⟩ ?_ ?_
  · refine Weak.sub ?_
    simp [sub, upd, cyC_zero]
  rintro ⟨j, hj, hok⟩
  dsimp only
  rcases Nat.lt_or_ge j w.length with hjl | hge
  case inr =>
    have hjp : j = w.length := by omega
    subst hjp
    have hd : decide ((w.length : Int) < (w.length : Int)) = false := by simp
    have hrun : runB u m r w c = sameC c (cyC u m r c w w.length) := by rw [runB, hok, Bool.true_and]
    cases hS : sameC c (cyC u m r c w w.length) with
    | false =>
      rw [hS] at hC hrun
      rw [hno hrun]
      generalize cyC u m r c w w.length = c2 at *
      repeat' first | refine vs T rfl fun K hK => ?_; (try simp (disch := omega) only [go_sem, Nat.reduceBEq, Nat.reduceAdd, Nat.reduceLeDiff, hd, iRs_len, Bool.not_false]); (first | refine hK _ _ ?_; clear hK K | refine Op1.callp rfl rfl (hC) rfl ?_; refine hK _ _ ?_; clear hK K) | refine st rfl ?_ | refine sc rfl ?_ | refine nl ?_ | exact ret1 T (List.nil_sublist _) ⟨rfl, rfl⟩
    | true =>
      rw [hS] at hC hrun
      have he2 := sameC_eq hS
      rw [he2] at hC ⊢
      repeat' first | refine vs T rfl fun K hK => ?_; (try simp (disch := omega) only [go_sem, Nat.reduceBEq, Nat.reduceAdd, Nat.reduceLeDiff, hd, hw1, iRs_len, Bool.not_true]); (first | refine hK _ _ ?_; clear hK K | refine Op1.callp rfl rfl (hC) rfl ?_; refine hK _ _ ?_; clear hK K) | refine st rfl ?_ | refine sc rfl ?_ | refine nl ?_
      refine ⟨⟨k + 1, by omega, fun _ => hrun⟩, Weak.sub ?_, by dsimp only; omega⟩
      simp [sub, upd]
  have hd2 : decide ((j : Int) < (w.length : Int)) = true := by simp; omega
  have hw2 : IntKind.i64.wrap ((j : Int) + 1) = ((j + 1 : Nat) : Int) := by rw [w64 (by omega)]; omega
  obtain ⟨a, ha⟩ : ∃ a, w[j]? = some a := ⟨_, List.getElem?_eq_getElem hjl⟩
  have ra : (iRs w)[j]? = some [iD a] := by rw [iRs_at, ha]; rfl
  have hR2 := h.cy w j
  have hcy := cyC_succ (u := u) (m := m) (r := r) (c := c) ha
  have hoks := cyOk_succ (u := u) (m := m) (r := r) (c := c) ha
  have hcn := cyOk_no (u := u) (m := m) (r := r) (c := c) ha
  rw [hok, Bool.true_and] at hoks
  generalize cyC u m r c w j = c1 at *
  have ca := ractM_ok hR2 a
  rw [← hcy] at ca
  cases hE : enM u c1 m r a with
  | false =>
    rw [hE] at ca
    rw [hno (by rw [runB, hcn hE, Bool.false_and])]
    generalize cyC u m r c w (j + 1) = c2 at *
    repeat' first | apply VC.drawM (id := 11) T 14 12 13 (s := 19) (ty := 48) rfl rfl rfl (by kernel_rfl) (by kernel_rfl) (by kernel_rfl) (by kernel_rfl) | refine VCm.nil T ?_; simp only [allK, WB, Nat.reduceAdd]; try (refine fun (bq : Nat) hbq => ?_; (try simp only [HB] at hbq)) | apply VCm.step T (by rfl) (by rfl) rfl rfl; focus ((try simp (disch := omega) only [go_sem, Nat.reduceBEq, Nat.reduceAdd, Nat.reduceLeDiff, ra, iRs_len]); (first | exact rfl | refine ⟨?_, rfl⟩; try omega | refine Op1.callp rfl rfl (ca) rfl ?_; exact ⟨rfl, rfl⟩)) | apply VCm.alloc T; (case h1 => rfl); (case hg => rfl); (case hop => rfl); (case hd => rfl); (case hk => rfl); (case hz => rfl) | apply VCm.store T; (case h1 => rfl); (case h2 => rfl); (case hg => rfl); (case hd => rfl); (case hc => (intro b hb; (try simp (disch := omega) only [go_sem, Nat.reduceBEq, Nat.reduceAdd, Nat.reduceLeDiff]); exact rfl)); (case hz => (rfl)) | refine vs T rfl fun K hK => ?_; (try simp (disch := omega) only [go_sem, Nat.reduceBEq, hd2, iRs_len, Bool.not_false]); (refine hK _ _ ?_; clear hK K) | refine st rfl ?_ | refine sc rfl ?_ | refine nl ?_ | refine ov ?_ | exact ret1 T (List.nil_sublist _) ⟨rfl, rfl⟩
  | true =>
    rw [hE] at ca hoks
    generalize hc2 : cyC u m r c w (j + 1) = c2 at *
    repeat' first | apply VC.drawM (id := 11) T 14 12 13 (s := 19) (ty := 48) rfl rfl rfl (by kernel_rfl) (by kernel_rfl) (by kernel_rfl) (by kernel_rfl) | refine VCm.nil T ?_; simp only [allK, WB, Nat.reduceAdd]; try (refine fun (bq : Nat) hbq => ?_; (try simp only [HB] at hbq)) | apply VCm.step T (by rfl) (by rfl) rfl rfl; focus ((try simp (disch := omega) only [go_sem, Nat.reduceBEq, Nat.reduceAdd, Nat.reduceLeDiff, ra, iRs_len]); (first | exact rfl | refine ⟨?_, rfl⟩; try omega | refine Op1.callp rfl rfl (ca) rfl ?_; exact ⟨rfl, rfl⟩)) | apply VCm.alloc T; (case h1 => rfl); (case hg => rfl); (case hop => rfl); (case hd => rfl); (case hk => rfl); (case hz => rfl) | apply VCm.store T; (case h1 => rfl); (case h2 => rfl); (case hg => rfl); (case hd => rfl); (case hc => (intro b hb; (try simp (disch := omega) only [go_sem, Nat.reduceBEq, Nat.reduceAdd, Nat.reduceLeDiff]); exact rfl)); (case hz => (rfl)) | refine vs T rfl fun K hK => ?_; (try simp (disch := omega) only [go_sem, Nat.reduceBEq, Nat.reduceAdd, Nat.reduceLeDiff, hd2, hw2, iRs_len, Bool.not_true]); (refine hK _ _ ?_; clear hK K) | refine st rfl ?_ | refine sc rfl ?_ | refine nl ?_ | refine ov ?_
    refine ⟨⟨j + 1, by omega, hoks⟩, ?_, by dsimp only; omega⟩
    dsimp only
    rw [hc2]
    refine Weak.subH (List.sublist_cons_self _ _) ?_
    simp [sub, upd]
end Go.Proofs.YtfifcjgcajpnoaaGreat
/- Contracts: what the reference sees on a circle. No condition. -/
namespace Go.Proofs.YtfifcjgcajpnoaaGreat
set_option linter.unusedSimpArgs false
set_option linter.unusedVariables false
set_option maxRecDepth 20000
open Go Go.Proofs Go.Vc
attribute [local irreducible] retQ VCg VCw

/-! ### A path, and then a part of a circle -/
theorem goF_app {u : Un} {m r : Int} : ∀ (p q : List Int) (c : Cf) (k : Nat), (goF u m r c p k).2.2 = 0 → goF u m r c (p ++ q) k = goF u m r (goF u m r c p k).1 q (k + p.length)
  | [], q, c, k, h => rfl
  | a :: p, q, c, k, h => by
    have e : ∀ q, goF u m r c (a :: q) k = match enM u c m r a with | true => goF u m r (actM u c m r a) q (k + 1) | false => (c, k, 16) := fun _ => rfl
    rw [e] at h
    rw [List.cons_append, e, e, show k + (a :: p).length = k + 1 + p.length by rw [List.length_cons]; omega]
    cases he : enM u c m r a with
    | true => rw [he] at h; exact goF_app p q _ _ h
    | false => rw [he] at h; cases h
theorem goF_bad {u : Un} {m r : Int} : ∀ (p q : List Int) (c : Cf) (k : Nat), (goF u m r c p k).2.2 ≠ 0 → (goF u m r c (p ++ q) k).2.2 ≠ 0
  | [], q, c, k, h => absurd rfl h
  | a :: p, q, c, k, h => by
    unfold goF at h
    rw [List.cons_append]
    unfold goF
    cases he : enM u c m r a with
    | true =>
      rw [he] at h
      exact goF_bad p q _ _ h
    | false => exact fun h => by cases h
theorem goF_cy {u : Un} {m r : Int} : ∀ (q : List Int) (c : Cf) (k : Nat), ((goF u m r c q k).2.2 == 0) = cyOk u m r c q q.length ∧ (cyOk u m r c q q.length = true → (goF u m r c q k).1 = cyC u m r c q q.length)
  | [], c, k => ⟨rfl, fun _ => rfl⟩
  | a :: q, c, k => by
    have hC : ∀ i, cyC u m r c (a :: q) (i + 1) = cyC u m r (actM u c m r a) q i := fun i => rfl
    have hO : cyOk u m r c (a :: q) (a :: q).length = (enM u c m r a && cyOk u m r (actM u c m r a) q q.length) := by
      simp only [cyOk, List.length_cons, List.range_succ_eq_map, List.all_cons, List.all_map, cyC_zero, List.getD_cons_zero]
      rfl
    rw [hO, List.length_cons, hC]
    unfold goF
    cases he : enM u c m r a with
    | true => rw [Bool.true_and]; exact goF_cy q _ _
    | false => exact ⟨rfl, fun h => by cases h⟩
theorem repF_app (u : Un) (m r : Int) (p q : List Int) : ((repF u m r (p ++ q)).2.2 == 0) = (((repF u m r p).2.2 == 0) && cyOk u m r (repF u m r p).1 q q.length) ∧
    ((((repF u m r p).2.2 == 0) && cyOk u m r (repF u m r p).1 q q.length) = true → (repF u m r (p ++ q)).1 = cyC u m r (repF u m r p).1 q q.length) := by
  cases hU : unitB u with
  | false => simp [repF, hU]
  | true =>
    cases hM : okMR m r with
    | false => simp [repF, hU, hM]
    | true =>
      have e1 : ∀ x, repF u m r x = goF u m r (startC u) x 0 := fun x => by simp [repF, hU, hM]
      rw [e1, e1]
      cases h : (goF u m r (startC u) p 0).2.2 == 0 with
      | true =>
        rw [goF_app p q _ _ (by simpa using h), Bool.true_and]
        exact goF_cy q _ _
      | false =>
        rw [Bool.false_and]
        refine ⟨?_, fun h => by cases h⟩
        rw [beq_eq_false_iff_ne]
        exact goF_bad p q _ _ (by simpa using h)
theorem cyOk_take {u : Un} {m r : Int} {c : Cf} (q : List Int) {k : Nat} (hk : k ≤ q.length) : cyOk u m r c (q.take k) (q.take k).length = cyOk u m r c q k ∧ cyC u m r c (q.take k) (q.take k).length = cyC u m r c q k := by
  have hl : (q.take k).length = k := by rw [List.length_take]; omega
  rw [hl]
  have hC : ∀ i, i ≤ k → cyC u m r c (q.take k) i = cyC u m r c q i := fun i hi => by
    unfold cyC
    rw [List.take_take, Nat.min_eq_left hi]
  refine ⟨?_, hC k (Nat.le_refl _)⟩
  unfold cyOk
  rw [Bool.eq_iff_iff, List.all_eq_true, List.all_eq_true]
  have he : ∀ i, i < k → (q.take k).getD i 0 = q.getD i 0 := fun i hi => by
    simp only [List.getD_eq_getElem?_getD, List.getElem?_take]
    rw [if_pos hi]
  constructor
  · intro h i hi
    have h2 := List.mem_range.1 hi
    have := h i hi
    rwa [hC i (by omega), he i h2] at this
  · intro h i hi
    have h2 := List.mem_range.1 hi
    rw [hC i (by omega), he i h2]
    exact h i hi
/-- The configurations on a circle. -/
def cfsR (u : Un) (m r : Int) (c : Cf) (w : List Int) (k : Nat) : List (List D) := (List.range k).map fun i => cfC (cyC u m r c w i)
theorem cfsR_len (u : Un) (m r : Int) (c : Cf) (w : List Int) (k : Nat) : (cfsR u m r c w k).length = k := by simp [cfsR]
theorem cfsR_at {u : Un} {m r : Int} {c : Cf} {w : List Int} {k i : Nat} (h : i < k) : (cfsR u m r c w k)[i]? = some (cfC (cyC u m r c w i)) := by simp [cfsR, h]
theorem cfsR_succ (u : Un) (m r : Int) (c : Cf) (w : List Int) (k : Nat) : cfsR u m r c w (k + 1) = cfsR u m r c w k ++ [cfC (cyC u m r c w k)] := by simp [cfsR, List.range_succ]
def stopD (u : Un) (m r : Int) (p w : List Int) : D := match ((repF u m r p).2.2 == 0) && cyOk u m r (repF u m r p).1 w w.length with
  | true => .tup [.sl false 4 (cfsR u m r (repF u m r p).1 w (w.length + 1)), bD true]
  | false => .tup [.sl false 4 [], bD false]
set_option maxHeartbeats 16000000 in
theorem rstops_ok (u : Un) (hu : OkU u) (m r : Int) (p w : List Int) (hp : p.length ≤ 100000) (hw : w.length ≤ 1000) : Pure Tryz.prog 23 [.agg (unC u), iD m, iD r, ints p, ints w] (stopD u m r p w) := by
  have cb := fun k => rreplay_ok u hu m r (p ++ w.take k) (by rw [List.length_append, List.length_take]; omega)
  refine Fun.fz ?_
  refine Fun.of T [.tmp 10, .tmp 11] Tryz.func23 rfl Tryz.ntmps23 Tryz.results23 rfl (by kernel_rfl) ?_
  repeat' first | refine vb (t := 25) rfl rfl rfl rfl ?_ | refine vs T rfl fun K hK => ?_; (try simp (disch := omega) only [go_sem, Nat.reduceAdd]); (refine hK _ _ ?_; clear hK K) | refine st rfl ?_ | refine nl ?_
  have hat : ∀ k, k ≤ w.length → ((repF u m r (p ++ w.take k)).2.2 == 0) = (((repF u m r p).2.2 == 0) && cyOk u m r (repF u m r p).1 w k) ∧
      ((((repF u m r p).2.2 == 0) && cyOk u m r (repF u m r p).1 w k) = true → (repF u m r (p ++ w.take k)).1 = cyC u m r (repF u m r p).1 w k) := fun k hk => by
    have := repF_app u m r p (w.take k)
    rw [(cyOk_take w hk).1, (cyOk_take w hk).2] at this
    exact this
  unfold stopD
  generalize ((repF u m r p).2.2 == 0) = o at *
  generalize (repF u m r p).1 = c at *
  have hmono : ∀ k, k ≤ w.length → cyOk u m r c w k = false → cyOk u m r c w w.length = false := fun k hk h => by
    unfold cyOk at h ⊢
    rw [List.all_eq_false] at h ⊢
    obtain ⟨i, hi, hb⟩ := h
    exact ⟨i, List.mem_range.2 (by have := List.mem_range.1 hi; omega), hb⟩
  refine VC.loop {x : Nat × G // x.1 ≤ w.length + 1 ∧ gOk x.2 x.1 ∧ (0 < x.1 → o = true ∧ cyOk u m r c w (x.1 - 1) = true)} (fun x => ⟨lookD [(1, iD m), (2, iD r), (3, ints p), (4, ints w), (5, .pt (unC u)), (12, .gs x.1.2 x.1.1), (13, iD (x.1.1 : Nat))], shp x.1.2 48 4 (cfsR u m r c w x.1.1).flatten []⟩) (fun x => w.length + 1 - x.1.1) ⟨(0, none), by dsimp only; omega, rfl, fun h => by dsimp only at h; omega⟩ ?_ ?_
  · refine Weak.sub ?_
    simp [sub, upd]
  rintro ⟨⟨k, g⟩, hk, hg, hs⟩
  dsimp only at hk hg hs ⊢
  by_cases hlt : k ≤ w.length
  case neg =>
    have hkl : k = w.length + 1 := by omega
    subst hkl
    have hd : decide (((w.length + 1 : Nat) : Int) ≤ (w.length : Int)) = false := by simp; omega
    obtain ⟨h1, h2⟩ := hs (by omega)
    rw [h1, show w.length + 1 - 1 = w.length by omega] at *
    rw [h2]
    repeat' first | refine vs T rfl fun K hK => ?_; (try simp (disch := omega) only [go_sem, Nat.reduceBEq, hd, iRs_len]); (refine hK _ _ ?_; clear hK K) | refine st rfl ?_ | refine sc rfl ?_ | refine nl ?_
    refine ret2 T (List.Sublist.refl _) ?_
    refine ⟨_, rfl, fz_cons ?_ (FzL.refl _ _)⟩
    refine Fz_gs (e := 48) (l := (cfsR u m r c w (w.length + 1)).flatten) (cfsR_len u m r c w _).symm hg (fun b cap hb => by rw [hb]; exact mem_shp0) (FzR.refl _ _ fun x hx => ?_)
    obtain ⟨i, -, rfl⟩ := List.mem_map.1 hx
    rfl
  have hd : decide ((k : Int) ≤ (w.length : Int)) = true := by simp; omega
  have hw1 : IntKind.i64.wrap ((k : Int) + 1) = ((k + 1 : Nat) : Int) := by rw [w64 (by omega)]; omega
  have hlk : (List.take k (iRs w)).length = k := by rw [List.length_take, iRs_len]; omega
  have hfl : (iRs p).flatten.length = p.length * 1 := by rw [flatI, List.length_map, Nat.mul_one]
  have hcat : (iRs p).flatten ++ (List.take k (iRs w)).flatten = (p ++ w.take k).map iD := by
    rw [flatI, show List.take k (iRs w) = iRs (w.take k) by simp [iRs, List.map_take], flatI, List.map_append]
  have hpl : p.length + k = (p ++ w.take k).length := by rw [List.length_append, List.length_take]; omega
  repeat' first | refine vs T rfl fun K hK => ?_; (try simp (disch := omega) only [go_sem, Nat.reduceBEq, Nat.reduceAdd, Nat.reduceLeDiff, hd, iRs_len]); (first | refine hK _ _ ?_; clear hK K | refine ⟨_, _, _, _, (by repeat (first | exact Sp.here | exact Sp.nil)), ?_, (by exact ⟨rfl, rfl⟩), ⟨by decide, ?_⟩, fun g' hg' => hK _ _ ?_⟩ <;> clear hK K | refine ⟨?_, hK _ _ ?_⟩ <;> clear hK K; focus (try omega) | skip) | refine st rfl ?_ | refine sc rfl ?_ | refine nl ?_
  all_goals first | rfl | omega | exact hfl | skip
  rw [hlk] at hg' ⊢
  rw [hcat]
  rw [hpl] at hg' ⊢
  have hfz : FzL (shp g' 3 1 ((p ++ w.take k).map iD) []) [.agg (unC u), iD m, iD r, ints (p ++ w.take k)] [.agg (unC u), iD m, iD r, .gs g' (p ++ w.take k).length] :=
    fz_cons (Fz.refl _ _) (fz_cons (Fz.refl _ _) (fz_cons (Fz.refl _ _) (fz_cons (Fz_ints (e := 3) hg' (fun b cap hb => by rw [hb]; exact mem_shp0)) fz_end)))
  refine Op1.callG (caps := #[]) (Hp := shp g' 3 1 ((p ++ w.take k).map iD) []) (Hr := shp g 48 4 (cfsR u m r c w k).flatten []) rfl rfl rfl (Fun.lendF (cb k) hfz) (perm_of fun a => by simp only [cnt_shp, cnt_cons, cnt_app, cnt_nil] <;> omega) (fun d' H' hd' => ?_)
  obtain ⟨rfl, rfl⟩ := hd'
  refine hK _ _ ?_
  clear hK K
  try simp only [updO, List.nil_append]
  have hk1 := hat k hlt
  generalize repF u m r (p ++ w.take k) = x at *
  obtain ⟨c1, k1, e⟩ := x
  dsimp only at hk1 ⊢
  have hcl : (cfsR u m r c w k).flatten.length = k * 4 := by
    rw [List.length_flatten, show (cfsR u m r c w k).map List.length = List.replicate k 4 by
      apply List.ext_getElem (by simp [cfsR])
      intro i h1 h2
      simp [cfsR, cfC], List.sum_replicate_nat]
  cases hok : o && cyOk u m r c w k with
  | false =>
    rw [hok] at hk1
    have e1 : (e != 0) = true := by simpa using hk1.1
    have hno : (o && cyOk u m r c w w.length) = false := by
      cases o with
      | false => rfl
      | true => exact hmono k hlt hok
    rw [hno]
    repeat' first | refine vs T rfl fun K hK => ?_; (try simp (disch := omega) only [go_sem, Nat.reduceBEq, Nat.reduceAdd, Nat.reduceLeDiff, e1]); (first | refine hK _ _ ?_; clear hK K | intro bq hbq; (try simp only [HB] at hbq); refine hK _ _ ?_; clear hK K) | refine st rfl ?_ | refine sc rfl ?_ | refine nl ?_
    refine ret2 T (List.nil_sublist _) ?_
    exact ⟨_, rfl, fz_cons fz_nil (FzL.refl _ _)⟩
  | true =>
    rw [hok] at hk1
    have e1 : (e != 0) = false := by simpa using hk1.1
    obtain rfl := hk1.2 rfl
    rw [Bool.and_eq_true] at hok
    have hs1 := cfsR_succ u m r c w k
    repeat' first | refine vs T rfl fun K hK => ?_; (try simp (disch := omega) only [go_sem, Nat.reduceBEq, Nat.reduceAdd, Nat.reduceMul, Nat.reduceLeDiff, e1, hw1]); (first | refine hK _ _ ?_; clear hK K | refine ⟨_, _, _, _, (by repeat (first | exact Sp.here | apply Sp.cons)), ?_, (by exact ⟨rfl, rfl⟩), ?_, fun g' hg' => hK _ _ ?_⟩ <;> clear hK K | intro bq hbq; (try simp only [HB] at hbq); refine hK _ _ ?_; clear hK K) | refine st rfl ?_ | refine sc rfl ?_ | refine nl ?_
    all_goals first | exact hcl | omega | skip
    refine ⟨⟨(k + 1, g'), by dsimp only; omega, hg', fun _ => hok⟩, ?_, by dsimp only; omega⟩
    refine Weak.trans (Weak.perm (H' := (bq, .cells 48 4 (cfC (cyC u m r c w k))) :: shp g' 48 4 (cfsR u m r c w (k + 1)).flatten []) ?_) (Weak.subH (List.sublist_cons_self _ _) ?_)
    · rw [hs1, List.flatten_append, List.flatten_cons, List.flatten_nil, List.append_nil]
    · simp [sub, upd]
end Go.Proofs.YtfifcjgcajpnoaaGreat
