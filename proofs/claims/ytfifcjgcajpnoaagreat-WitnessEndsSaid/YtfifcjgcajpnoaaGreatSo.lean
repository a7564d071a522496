/- Contracts: to whom a circle is unfair, and whether it is a lasso, as the reference says. No condition. -/
import Derived.Test.YtfifcjgcajpnoaaGreatSj
import Derived.Test.YtfifcjgcajpnoaaGreatSm
import Derived.Test.YtfifcjgcajpnoaaGreatYq
import Derived.Test.YtfifcjgcajpnoaaGreatXk
namespace Go.Proofs.YtfifcjgcajpnoaaGreat
set_option linter.unusedSimpArgs false
set_option linter.unusedVariables false
set_option maxRecDepth 20000
open Go Go.Proofs Go.Vc
attribute [local irreducible] retQ VCg VCw

theorem cyAc_mem (w : List Int) (a : Nat) : ((cyAc w w.length a : Nat) : Int) = 0 ↔ (a : Int) ∉ w := by
  rw [cyAc, List.take_length]
  constructor
  · intro h hm
    have := List.count_pos_iff.2 hm
    omega
  · intro h
    rw [List.count_eq_zero.2 h]; rfl
set_option maxHeartbeats 16000000 in
theorem rwunf_ok (u : Un) (hu : OkU u) (m r md : Int) (p w : List Int) (hp : p.length ≤ 100000) (hw : w.length ≤ 1000) : Pure Tryz.prog 10 [.agg (unC u), iD m, iD r, iD md, ints p, ints w] (iD (wUnf u m r md p w)) := by
  have cb := rstops_ok u hu m r p w hp hw
  have hR := repF_rt hu (m := m) (r := r) (p := p)
  unfold stopD at cb
  unfold wUnf
  generalize ((repF u m r p).2.2 == 0) = o at *
  generalize (repF u m r p).1 = c at *
  refine Fun.of T [.tmp 12] Tryz.func10 rfl Tryz.ntmps10 Tryz.results10 rfl (by kernel_rfl) ?_
  cases hok : o && cyOk u m r c w w.length with
  | false =>
    rw [hok] at cb
    repeat' first | refine vb (t := 25) rfl rfl rfl rfl ?_ | refine vs T rfl fun K hK => ?_; (try simp (disch := omega) only [go_sem, Nat.reduceBEq, Nat.reduceAdd, Nat.reduceLeDiff, Bool.not_false]); (first | refine hK _ _ ?_; clear hK K | refine Op1.callp rfl rfl (cb) rfl ?_; refine hK _ _ ?_; clear hK K) | refine st rfl ?_ | refine sc rfl ?_ | refine nl ?_ | refine gs rfl rfl ?_ | exact ret1 T (List.nil_sublist _) ⟨rfl, rfl⟩
  | true =>
  rw [hok] at cb
  dsimp only at cb
  rw [Bool.and_eq_true] at hok
  have h := hR hok.1
  dsimp only
  have hN := agsF_len u m
  have cg := ragents_ok u hu m
  unfold cyU
  have hl1 := tabI_len (agsF u m).length (cyOn u m r c w w.length)
  have hl2 := tabI_len (agsF u m).length (cyAc w w.length)
  have hto := fun a => tabI_at (n := (agsF u m).length) (a := a) (cyOn u m r c w w.length)
  have hta := fun a => tabI_at (n := (agsF u m).length) (a := a) (cyAc w w.length)
  have hat := fun k => unfF_at (k := k) (mode := md) (stops := (w.length : Nat)) (on := tabI (agsF u m).length (cyOn u m r c w w.length)) (ac := tabI (agsF u m).length (cyAc w w.length))
  have hun := unfF_no (mode := md) (stops := (w.length : Nat)) (on := tabI (agsF u m).length (cyOn u m r c w w.length)) (ac := tabI (agsF u m).length (cyAc w w.length))
  have hbd : ∀ a, a < (agsF u m).length → badA md (w.length : Nat) (tabI (agsF u m).length (cyOn u m r c w w.length)) (tabI (agsF u m).length (cyAc w w.length)) a =
      (!decide ((a : Int) ∈ w) && (((md == 1) && (((cyOn u m r c w w.length a : Nat) : Int) == (w.length : Int))) || ((md == 2) && decide (((cyOn u m r c w w.length a : Nat) : Int) > 0)))) := fun a ha => by
    unfold badA
    rw [List.getD_eq_getElem?_getD, List.getD_eq_getElem?_getD, hto a ha, hta a ha]
    have := cyAc_mem w a
    by_cases hm : (a : Int) ∈ w
    · have h0 : ¬ cyAc w w.length a = 0 := fun h => this.1 (by rw [h]; rfl) hm
      simp [hm, h0]
    · simp [hm, this.2 hm]
  rw [hl1] at hat hun
  have hen := cyOn_succ u m r c w
  have hle := cyOn_le u m r c w
  have hz := cyOn_zero u m r c w
  generalize (agsF u m).length = n at *
  generalize badA md (w.length : Nat) (tabI n (cyOn u m r c w w.length)) (tabI n (cyAc w w.length)) = bad at *
  generalize unfF md (w.length : Nat) (tabI n (cyOn u m r c w w.length)) (tabI n (cyAc w w.length)) = un at *
  have hm : (decide (md < 1) = true ∧ (md == 1) = false ∧ (md == 2) = false) ∨ (decide (md < 1) = false ∧ decide (md > 2) = true ∧ (md == 1) = false ∧ (md == 2) = false) ∨
      (decide (md < 1) = false ∧ decide (md > 2) = false ∧ (md == 1) = true ∧ (md == 2) = false) ∨ (decide (md < 1) = false ∧ decide (md > 2) = false ∧ (md == 1) = false ∧ (md == 2) = true) := by
    simp only [decide_eq_true_eq, decide_eq_false_iff_not, beq_iff_eq, beq_eq_false_iff_ne, ne_eq]
    omega
  rcases hm with ⟨e1, e3, e4⟩ | ⟨e1, e2, e3, e4⟩ | hm
  · rw [hun fun a ha => by rw [hbd a ha, e3, e4]; simp]
    repeat' first | refine vb (t := 25) rfl rfl rfl rfl ?_ | refine vs T rfl fun K hK => ?_; (try simp (disch := omega) only [go_sem, Nat.reduceBEq, Nat.reduceAdd, Nat.reduceLeDiff, e1, Bool.not_true]); (first | refine hK _ _ ?_; clear hK K | refine Op1.callp rfl rfl (cb) rfl ?_; refine hK _ _ ?_; clear hK K) | refine st rfl ?_ | refine sc rfl ?_ | refine nl ?_ | refine gs rfl rfl ?_ | exact ret1 T (List.nil_sublist _) ⟨rfl, rfl⟩
  · rw [hun fun a ha => by rw [hbd a ha, e3, e4]; simp]
    repeat' first | refine vb (t := 25) rfl rfl rfl rfl ?_ | refine vs T rfl fun K hK => ?_; (try simp (disch := omega) only [go_sem, Nat.reduceBEq, Nat.reduceAdd, Nat.reduceLeDiff, e1, e2, Bool.not_true]); (first | refine hK _ _ ?_; clear hK K | refine Op1.callp rfl rfl (cb) rfl ?_; refine hK _ _ ?_; clear hK K) | refine st rfl ?_ | refine sc rfl ?_ | refine nl ?_ | refine gs rfl rfl ?_ | exact ret1 T (List.nil_sublist _) ⟨rfl, rfl⟩
  have e1 : decide (md < 1) = false := by rcases hm with h | h <;> exact h.1
  have e2 : decide (md > 2) = false := by rcases hm with h | h <;> exact h.2.1
  repeat' first | refine vb (t := 25) rfl rfl rfl rfl ?_ | refine vs T rfl fun K hK => ?_; (try simp (disch := omega) only [go_sem, Nat.reduceBEq, Nat.reduceAdd, Nat.reduceLeDiff, e1, e2, Bool.not_true]); (first | refine hK _ _ ?_; clear hK K | refine Op1.callp rfl rfl (cb) rfl ?_; refine hK _ _ ?_; clear hK K) | refine st rfl ?_ | refine sc rfl ?_ | refine nl ?_ | refine gs rfl rfl ?_
  refine VC.loop {a : Nat // a ≤ n ∧ ∀ i, i < a → bad i = false} (fun x => ⟨lookD [(1, iD m), (2, iD r), (3, iD md), (5, ints w), (6, .pt (unC u)), (13, .sl false 4 (cfsR u m r c w (w.length + 1))), (15, iD (x.1 : Nat))], []⟩) (fun x => n - x.1) ⟨0, by omega, fun i hi => by omega⟩ ?_ ?_
  · refine Weak.sub ?_
    simp [sub, upd]
  rintro ⟨a, ha, hs⟩
  dsimp only
  rcases Nat.lt_or_ge a n with hlt | hge
  case inr =>
    have hd : decide ((a : Int) < (n : Int)) = false := by simp; omega
    rw [hun fun i hi => hs i (by omega)]
    repeat' first | refine vs T rfl fun K hK => ?_; (try simp (disch := omega) only [go_sem, Nat.reduceBEq, Nat.reduceAdd, Nat.reduceLeDiff, hd]); (first | refine hK _ _ ?_; clear hK K | refine Op1.callp rfl rfl (cg) rfl ?_; refine hK _ _ ?_; clear hK K) | refine st rfl ?_ | refine sc rfl ?_ | refine nl ?_ | exact ret1 T (List.nil_sublist _) ⟨rfl, rfl⟩
  have hd : decide ((a : Int) < (n : Int)) = true := by simp; omega
  have hw1 : IntKind.i64.wrap ((a : Int) + 1) = ((a + 1 : Nat) : Int) := by rw [w64 (by omega)]; omega
  have ha1 := hat a hlt
  have hb1 := hbd a hlt
  have hgo1 : bad a = false → ∀ i, i < a + 1 → bad i = false := fun h i hi => by
    rcases Nat.lt_or_ge i a with h' | h'
    · exact hs i h'
    · obtain rfl : i = a := by omega
      exact h
  have hz1 : cyOn u m r c w 0 a = 0 := by rw [hz]
  repeat' first | refine vs T rfl fun K hK => ?_; (try simp (disch := omega) only [go_sem, Nat.reduceBEq, Nat.reduceAdd, Nat.reduceLeDiff, hd]); (first | refine hK _ _ ?_; clear hK K | refine Op1.callp rfl rfl (cg) rfl ?_; refine hK _ _ ?_; clear hK K) | refine st rfl ?_ | refine sc rfl ?_ | refine nl ?_
  refine VC.loop {k : Nat // k ≤ w.length} (fun x => ⟨lookD [(1, iD m), (2, iD r), (3, iD md), (5, ints w), (6, .pt (unC u)), (13, .sl false 4 (cfsR u m r c w (w.length + 1))), (15, iD (a : Nat)), (16, iD (cyOn u m r c w x.1 a : Nat)), (17, iD (x.1 : Nat))], []⟩) (fun x => w.length - x.1) ⟨0, by omega⟩ ?_ ?_
  · dsimp only
    rw [hz1]
    refine Weak.sub ?_
    simp [sub, upd]
  rintro ⟨k, hk⟩
  dsimp only
  rcases Nat.lt_or_ge k w.length with hkl | hge
  case inl =>
    have hd2 : decide ((k : Int) < (w.length : Int)) = true := by simp; omega
    have hw2 : IntKind.i64.wrap ((k : Int) + 1) = ((k + 1 : Nat) : Int) := by rw [w64 (by omega)]; omega
    have rk := cfsR_at (u := u) (m := m) (r := r) (c := c) (w := w) (k := w.length + 1) (i := k) (by omega)
    have ce := renM_ok (h.cy w k) (a : Int)
    have hen1 := hen k a
    have hle1 := hle k a
    have hw3 : IntKind.i64.wrap (((cyOn u m r c w k a : Nat) : Int) + 1) = ((cyOn u m r c w k a + 1 : Nat) : Int) := by rw [w64 (by omega)]; omega
    generalize hck : cyC u m r c w k = ck at *
    cases hE : enM u ck m r (a : Int) with
    | true =>
      rw [hE] at ce hen1
      repeat' first | refine dr (id := 11) T 8 (by kernel_rfl) ?_ | refine gn ?_ | (first | apply VCg.step T rfl rfl | apply exF); focus ((try simp (disch := omega) only [go_sem, Nat.reduceBEq, Nat.reduceAdd, Nat.reduceLeDiff, rk, cfsR_len]); (first | exact rfl | refine ⟨?_, rfl⟩; try omega)) | refine vs T rfl fun K hK => ?_; (try simp (disch := omega) only [go_sem, Nat.reduceBEq, hd2, hw2, hw3, iRs_len]); (first | refine hK _ _ ?_; clear hK K | refine Op1.callp rfl rfl (ce) rfl ?_; refine hK _ _ ?_; clear hK K) | refine st rfl ?_ | refine sc rfl ?_ | refine nl ?_
      all_goals first | omega | skip
      refine ⟨⟨k + 1, by omega⟩, ?_, by dsimp only; omega⟩
      dsimp only
      rw [hen1]
      refine Weak.sub ?_
      simp [sub, upd]
    | false =>
      rw [hE] at ce hen1
      repeat' first | refine dr (id := 11) T 8 (by kernel_rfl) ?_ | refine gn ?_ | (first | apply VCg.step T rfl rfl | apply exF); focus ((try simp (disch := omega) only [go_sem, Nat.reduceBEq, Nat.reduceAdd, Nat.reduceLeDiff, rk, cfsR_len]); (first | exact rfl | refine ⟨?_, rfl⟩; try omega)) | refine vs T rfl fun K hK => ?_; (try simp (disch := omega) only [go_sem, Nat.reduceBEq, hd2, hw2, iRs_len]); (first | refine hK _ _ ?_; clear hK K | refine Op1.callp rfl rfl (ce) rfl ?_; refine hK _ _ ?_; clear hK K) | refine st rfl ?_ | refine sc rfl ?_ | refine nl ?_
      all_goals first | omega | skip
      refine ⟨⟨k + 1, by omega⟩, ?_, by dsimp only; omega⟩
      dsimp only
      rw [hen1]
      refine Weak.sub ?_
      simp [sub, upd]
  obtain rfl : k = w.length := by omega
  have hd2 : decide ((w.length : Int) < (w.length : Int)) = false := by simp
  have cm := racts_ok w (by omega) (a : Int)
  clear hen hle hz hto hta hun hat
  generalize ((cyOn u m r c w w.length a : Nat) : Int) = f at *
  cases hM : decide ((a : Int) ∈ w) with
  | true =>
    rw [hM] at cm hb1
    repeat' first | refine vs T rfl fun K hK => ?_; (try simp (disch := omega) only [go_sem, Nat.reduceBEq, hd2, hw1, iRs_len, Bool.not_true]); (first | refine hK _ _ ?_; clear hK K | refine Op1.callp rfl rfl (cm) rfl ?_; refine hK _ _ ?_; clear hK K) | refine st rfl ?_ | refine sc rfl ?_ | refine nl ?_ | refine gs rfl rfl ?_ | refine gu rfl rfl ?_
    refine ⟨⟨a + 1, by omega, hgo1 (by rw [hb1]; rfl)⟩, Weak.sub ?_, by dsimp only; omega⟩
    simp [sub, upd]
  | false =>
  rw [hM, Bool.not_false, Bool.true_and] at hb1
  rw [hM] at cm
  rcases hm with ⟨-, -, e3, e4⟩ | ⟨-, -, e3, e4⟩
  · rw [e3, e4, Bool.true_and, Bool.false_and, Bool.or_false] at hb1
    cases hF : f == (w.length : Int) with
    | true =>
      rw [hF] at hb1
      rw [ha1 hb1 hs]
      repeat' first | refine vs T rfl fun K hK => ?_; (try simp (disch := omega) only [go_sem, Nat.reduceBEq, hd2, e3, hF, iRs_len, Bool.not_false]); (first | refine hK _ _ ?_; clear hK K | refine Op1.callp rfl rfl (cm) rfl ?_; refine hK _ _ ?_; clear hK K) | refine st rfl ?_ | refine sc rfl ?_ | refine nl ?_ | refine gs rfl rfl ?_ | refine gu rfl rfl ?_ | exact ret1 T (List.nil_sublist _) ⟨rfl, rfl⟩
    | false =>
      rw [hF] at hb1
      repeat' first | refine vs T rfl fun K hK => ?_; (try simp (disch := omega) only [go_sem, Nat.reduceBEq, hd2, hw1, e3, e4, hF, iRs_len, Bool.not_false]); (first | refine hK _ _ ?_; clear hK K | refine Op1.callp rfl rfl (cm) rfl ?_; refine hK _ _ ?_; clear hK K) | refine st rfl ?_ | refine sc rfl ?_ | refine nl ?_ | refine gs rfl rfl ?_
      refine ⟨⟨a + 1, by omega, hgo1 hb1⟩, Weak.sub ?_, by dsimp only; omega⟩
      simp [sub, upd]
  · rw [e3, e4, Bool.true_and, Bool.false_and, Bool.false_or] at hb1
    cases hF : decide (f > 0) with
    | true =>
      rw [hF] at hb1
      rw [ha1 hb1 hs]
      repeat' first | refine vs T rfl fun K hK => ?_; (try simp (disch := omega) only [go_sem, Nat.reduceBEq, hd2, e3, e4, hF, iRs_len, Bool.not_false]); (first | refine hK _ _ ?_; clear hK K | refine Op1.callp rfl rfl (cm) rfl ?_; refine hK _ _ ?_; clear hK K) | refine st rfl ?_ | refine sc rfl ?_ | refine nl ?_ | refine gs rfl rfl ?_ | exact ret1 T (List.nil_sublist _) ⟨rfl, rfl⟩
    | false =>
      rw [hF] at hb1
      repeat' first | refine vs T rfl fun K hK => ?_; (try simp (disch := omega) only [go_sem, Nat.reduceBEq, hd2, hw1, e3, e4, hF, iRs_len, Bool.not_false]); (first | refine hK _ _ ?_; clear hK K | refine Op1.callp rfl rfl (cm) rfl ?_; refine hK _ _ ?_; clear hK K) | refine st rfl ?_ | refine sc rfl ?_ | refine nl ?_ | refine gs rfl rfl ?_
      refine ⟨⟨a + 1, by omega, hgo1 hb1⟩, Weak.sub ?_, by dsimp only; omega⟩
      simp [sub, upd]
set_option maxHeartbeats 16000000 in
theorem rwlas_ok (u : Un) (hu : OkU u) (m r md : Int) (p w : List Int) (hp : p.length ≤ 100000) (hw : w.length ≤ 1000) : Pure Tryz.prog 8 [.agg (unC u), iD m, iD r, iD md, ints p, ints w] (bD (wLas u m r md p w)) := by
  have cb := rstops_ok u hu m r p w hp hw
  have cu := rwunf_ok u hu m r md p w hp hw
  have hR := repF_rt hu (m := m) (r := r) (p := p)
  unfold stopD at cb
  unfold wUnf at cu
  unfold wLas lasB
  generalize ((repF u m r p).2.2 == 0) = o at *
  generalize (repF u m r p).1 = c at *
  refine Fun.of T [.tmp 12] Tryz.func8 rfl Tryz.ntmps8 Tryz.results8 rfl (by kernel_rfl) ?_
  cases hok : o && cyOk u m r c w w.length with
  | false =>
    rw [hok] at cb
    have hno : (o && (!decide (w.length = 0) && ((md == 1 || md == 2) && (cyOk u m r c w w.length && (sameC c (cyC u m r c w w.length) && (cyU u m r md w c == -1)))))) = false := by
      cases o with
      | false => rfl
      | true => rw [Bool.true_and] at hok; rw [hok]; simp
    rw [hno]
    repeat' first | refine vb (t := 25) rfl rfl rfl rfl ?_ | refine vs T rfl fun K hK => ?_; (try simp (disch := omega) only [go_sem, Nat.reduceBEq, Nat.reduceAdd, Nat.reduceLeDiff, Bool.not_false]); (first | refine hK _ _ ?_; clear hK K | refine Op1.callp rfl rfl (cb) rfl ?_; refine hK _ _ ?_; clear hK K) | refine st rfl ?_ | refine sc rfl ?_ | refine nl ?_ | refine gs rfl rfl ?_ | exact ret1 T (List.nil_sublist _) ⟨rfl, rfl⟩
  | true =>
  rw [hok] at cb cu
  dsimp only at cb cu
  rw [Bool.and_eq_true] at hok
  have h := hR hok.1
  rw [hok.1, hok.2, Bool.true_and, Bool.true_and]
  have hm : (decide (md < 1) = true ∧ (md == 1 || md == 2) = false) ∨ (decide (md < 1) = false ∧ decide (md > 2) = true ∧ (md == 1 || md == 2) = false) ∨
      (decide (md < 1) = false ∧ decide (md > 2) = false ∧ (md == 1 || md == 2) = true) := by
    simp only [decide_eq_true_eq, decide_eq_false_iff_not, Bool.or_eq_true, beq_iff_eq, Bool.or_eq_false_iff, beq_eq_false_iff_ne, ne_eq]
    omega
  rcases hm with ⟨e1, e3⟩ | ⟨e1, e2, e3⟩ | ⟨e1, e2, e3⟩
  · rw [e3, Bool.false_and, Bool.and_false]
    repeat' first | refine vb (t := 25) rfl rfl rfl rfl ?_ | refine vs T rfl fun K hK => ?_; (try simp (disch := omega) only [go_sem, Nat.reduceBEq, Nat.reduceAdd, Nat.reduceLeDiff, e1, Bool.not_true]); (first | refine hK _ _ ?_; clear hK K | refine Op1.callp rfl rfl (cb) rfl ?_; refine hK _ _ ?_; clear hK K) | refine st rfl ?_ | refine sc rfl ?_ | refine nl ?_ | refine gs rfl rfl ?_ | exact ret1 T (List.nil_sublist _) ⟨rfl, rfl⟩
  · rw [e3, Bool.false_and, Bool.and_false]
    repeat' first | refine vb (t := 25) rfl rfl rfl rfl ?_ | refine vs T rfl fun K hK => ?_; (try simp (disch := omega) only [go_sem, Nat.reduceBEq, Nat.reduceAdd, Nat.reduceLeDiff, e1, e2, Bool.not_true]); (first | refine hK _ _ ?_; clear hK K | refine Op1.callp rfl rfl (cb) rfl ?_; refine hK _ _ ?_; clear hK K) | refine st rfl ?_ | refine sc rfl ?_ | refine nl ?_ | refine gs rfl rfl ?_ | exact ret1 T (List.nil_sublist _) ⟨rfl, rfl⟩
  rw [e3, Bool.true_and]
  by_cases h0 : w.length = 0
  · have e0 : ((w.length : Int) == 0) = true := by simp [h0]
    rw [show decide (w.length = 0) = true by simp [h0], Bool.not_true, Bool.false_and]
    repeat' first | refine vb (t := 25) rfl rfl rfl rfl ?_ | refine vs T rfl fun K hK => ?_; (try simp (disch := omega) only [go_sem, Nat.reduceBEq, Nat.reduceAdd, Nat.reduceLeDiff, e0, e1, e2, iRs_len, Bool.not_true]); (first | refine hK _ _ ?_; clear hK K | refine Op1.callp rfl rfl (cb) rfl ?_; refine hK _ _ ?_; clear hK K) | refine st rfl ?_ | refine sc rfl ?_ | refine nl ?_ | refine gs rfl rfl ?_ | exact ret1 T (List.nil_sublist _) ⟨rfl, rfl⟩
  have e0 : ((w.length : Int) == 0) = false := by simp [h0]
  rw [show decide (w.length = 0) = false by simp [h0], Bool.not_false, Bool.true_and]
  have r0 := cfsR_at (u := u) (m := m) (r := r) (c := c) (w := w) (k := w.length + 1) (i := 0) (by omega)
  have r1 := cfsR_at (u := u) (m := m) (r := r) (c := c) (w := w) (k := w.length + 1) (i := w.length) (by omega)
  rw [cyC_zero] at r0
  have cs := rsame_ok c (cyC u m r c w w.length) h.okC (h.cy w _).okC
  generalize cyC u m r c w w.length = c2 at *
  have hU : (cyU u m r md w c == -1) = decide (cyU u m r md w c < 0) := by
    unfold cyU unfF
    generalize List.find? _ _ = x
    cases x with
    | some a =>
      have h1 : ¬ ((a : Nat) : Int) = -1 := by omega
      have h2 : ¬ ((a : Nat) : Int) < 0 := by omega
      exact (beq_eq_false_iff_ne.2 h1).trans (decide_eq_false h2).symm
    | none => rfl
  rw [hU]
  generalize cyU u m r md w c = z at *
  cases hS : sameC c c2 with
  | false =>
    rw [hS] at cs
    rw [Bool.false_and]
    repeat' first | refine vb (t := 25) rfl rfl rfl rfl ?_ | refine dr (id := 4) T 16 (by kernel_rfl) ?_ | refine gn ?_ | (apply VCg.step T rfl rfl); focus ((try simp (disch := omega) only [go_sem, Nat.reduceBEq, Nat.reduceAdd, Nat.reduceLeDiff, r0, r1, iRs_len, cfsR_len, Int.toNat_zero]); (first | exact rfl | refine ⟨?_, rfl⟩; try omega | refine Op1.callp rfl rfl (cs) rfl ?_; exact ⟨rfl, rfl⟩)) | refine VCg.gstep T rfl rfl rfl rfl ?_; try simp only [GB] | refine vs T rfl fun K hK => ?_; (try simp (disch := omega) only [go_sem, Nat.reduceBEq, Nat.reduceAdd, Nat.reduceLeDiff, e0, e1, e2, iRs_len, Bool.not_true]); (first | refine hK _ _ ?_; clear hK K | refine Op1.callp rfl rfl (cb) rfl ?_; refine hK _ _ ?_; clear hK K) | refine st rfl ?_ | refine sc rfl ?_ | refine nl ?_ | refine gs rfl rfl ?_ | exact ret1 T (List.nil_sublist _) ⟨rfl, rfl⟩
  | true =>
    rw [hS] at cs
    rw [Bool.true_and]
    repeat' first | refine vb (t := 25) rfl rfl rfl rfl ?_ | refine dr (id := 4) T 16 (by kernel_rfl) ?_ | refine gn ?_ | (first | apply VCg.step T rfl rfl | apply exF); focus ((try simp (disch := omega) only [go_sem, Nat.reduceBEq, Nat.reduceAdd, Nat.reduceLeDiff, r0, r1, iRs_len, cfsR_len, Int.toNat_zero]); (first | exact rfl | refine ⟨?_, rfl⟩; try omega | refine Op1.callp rfl rfl (cs) rfl ?_; exact ⟨rfl, rfl⟩)) | refine VCg.gstep T rfl rfl rfl rfl ?_; try simp only [GB] | refine vs T rfl fun K hK => ?_; (try simp (disch := omega) only [go_sem, Nat.reduceBEq, Nat.reduceAdd, Nat.reduceLeDiff, e0, e1, e2, iRs_len, Bool.not_true]); (first | refine hK _ _ ?_; clear hK K | refine Op1.callp rfl rfl (cb) rfl ?_; refine hK _ _ ?_; clear hK K | refine Op1.callp rfl rfl (cu) rfl ?_; refine hK _ _ ?_; clear hK K) | refine st rfl ?_ | refine sc rfl ?_ | refine nl ?_ | refine gs rfl rfl ?_ | exact ret1 T (List.nil_sublist _) ⟨rfl, rfl⟩
end Go.Proofs.YtfifcjgcajpnoaaGreat
/- What chapter 20's statements take, and their known calls. No condition. -/
namespace Go.Proofs.YtfifcjgcajpnoaaGreat
set_option linter.unusedSimpArgs false
set_option linter.unusedVariables false
set_option maxRecDepth 20000
open Go Go.Proofs Go.Vc
attribute [local irreducible] retQ VCg VCw

theorem RelL.wk' {w : World} {L : Nat → Prop} : ∀ (l' l : List D) (vs : List Value), WkL l' l → RelL w L l vs → RelL w L l' vs
  | [], _, vs, h, r => by cases h; exact r
  | d' :: ds', _, vs, h, r => by
    obtain ⟨d, ds, rfl, h1, h2⟩ := h
    obtain ⟨v, vs', rfl, r1, r2⟩ := r
    exact ⟨v, vs', rfl, Rel.wk _ _ _ h1 r1, RelL.wk' _ _ _ h2 r2⟩
theorem Fun.argsWk {P : Program} {f : FuncId} {args args' : List D} {d : D} (h : Pure P f args' d) (hf : WkL args' args) : Pure P f args d :=
  ⟨h.1, fun w L0 vs hi hr => h.2 w L0 vs hi (RelL.wk' _ _ _ hf hr)⟩
/-- The cells of a claim. -/
abbrev clC (u : Un) (m r md : Int) (p w : List Int) (t : Int) : List D := unC u ++ [iD m, iD r, iD md, ints p, ints w, iD t]
def lightK (u : Un) (p w : List Int) (t : Int) : Bool := lightU u && (decide ((p.length : Int) ≤ 60) && (decide ((w.length : Int) ≤ 60) && decide (t ≤ 20)))
set_option maxHeartbeats 4000000 in
theorem light20_ok (u : Un) (m r md : Int) (p w : List Int) (t : Int) : Pure Tryz.prog 5 [.agg (clC u m r md p w t)] (bD (lightK u p w t)) := by
  have cu := ulight_ok u
  unfold lightK
  refine Fun.of T [.tmp 2] Tryz.func5 rfl Tryz.ntmps5 Tryz.results5 rfl (by kernel_rfl) ?_
  cases h1 : lightU u with
  | false =>
    rw [h1] at cu
    rw [Bool.false_and]
    repeat' first | refine vb rfl rfl rfl rfl ?_ | refine vs T rfl fun K hK => ?_; (try simp (disch := omega) only [go_sem, Nat.reduceBEq, Nat.reduceAdd, Nat.reduceLeDiff]); (first | refine hK _ _ ?_; clear hK K | refine Op1.callp rfl rfl (cu) rfl ?_; refine hK _ _ ?_; clear hK K) | refine st rfl ?_ | refine nl ?_ | refine gs rfl rfl ?_ | exact ret1 T (List.nil_sublist _) ⟨rfl, rfl⟩
  | true =>
  rw [h1] at cu
  rw [Bool.true_and]
  cases h2 : decide ((p.length : Int) ≤ 60) with
  | false =>
    rw [Bool.false_and]
    repeat' first | refine vb rfl rfl rfl rfl ?_ | refine vs T rfl fun K hK => ?_; (try simp (disch := omega) only [go_sem, Nat.reduceBEq, Nat.reduceAdd, Nat.reduceLeDiff, h2, iRs_len]); (first | refine hK _ _ ?_; clear hK K | refine Op1.callp rfl rfl (cu) rfl ?_; refine hK _ _ ?_; clear hK K) | refine st rfl ?_ | refine nl ?_ | refine gs rfl rfl ?_ | exact ret1 T (List.nil_sublist _) ⟨rfl, rfl⟩
  | true =>
  rw [Bool.true_and]
  cases h3 : decide ((w.length : Int) ≤ 60) with
  | false =>
    rw [Bool.false_and]
    repeat' first | refine vb rfl rfl rfl rfl ?_ | refine vs T rfl fun K hK => ?_; (try simp (disch := omega) only [go_sem, Nat.reduceBEq, Nat.reduceAdd, Nat.reduceLeDiff, h2, h3, iRs_len]); (first | refine hK _ _ ?_; clear hK K | refine Op1.callp rfl rfl (cu) rfl ?_; refine hK _ _ ?_; clear hK K) | refine st rfl ?_ | refine nl ?_ | refine gs rfl rfl ?_ | exact ret1 T (List.nil_sublist _) ⟨rfl, rfl⟩
  | true =>
  rw [Bool.true_and]
  repeat' first | refine vb rfl rfl rfl rfl ?_ | refine vs T rfl fun K hK => ?_; (try simp (disch := omega) only [go_sem, Nat.reduceBEq, Nat.reduceAdd, Nat.reduceLeDiff, h2, h3, iRs_len]); (first | refine hK _ _ ?_; clear hK K | refine Op1.callp rfl rfl (cu) rfl ?_; refine hK _ _ ?_; clear hK K) | refine st rfl ?_ | refine nl ?_ | refine gs rfl rfl ?_ | exact ret1 T (List.nil_sublist _) ⟨rfl, rfl⟩
/-- The units of the known calls. -/
def U20 : Un := ⟨2, [], [0, 0], [[⟨20, 0, 0, [], [], false, 0⟩, ⟨22, 0, 0, [], [], false, 0⟩], [⟨8, 0, 0, [], [], false, 0⟩, ⟨22, 0, 0, [], [], false, 0⟩]]⟩
def V20 : Un := ⟨2, [0], [0], [[⟨9, 0, 0, one1, [], false, 0⟩, ⟨22, 0, 0, [], [], false, 0⟩]]⟩
def W20 : Un := ⟨2, [], [0], [[⟨22, 0, 0, [], [], false, 0⟩]]⟩
abbrev vD : D := .agg [iD 2, .sl true 1 [[iD 0]], .sl true 1 [[iD 0]], .sl true 1 [[.sl true 7 [[iD 9, iD 0, iD 0, opT, .gs none 0, bD false, iD 0], [iD 22, iD 0, iD 0, .gs none 0, .gs none 0, bD false, iD 0]]]]]
abbrev wD : D := .agg [iD 2, .gs none 0, .sl true 1 [[iD 0]], .sl true 1 [[.sl true 7 [[iD 22, iD 0, iD 0, .gs none 0, .gs none 0, bD false, iD 0]]]]]
set_option maxHeartbeats 4000000 in
theorem unit20_ok : Pure Tryz.prog 18 [] (.agg (unC U20)) := by
  refine Pure.wk (d := .agg [iD 2, .gs none 0, .sl true 1 [[iD 0], [iD 0]], .sl true 1 [[.sl true 7 [[iD 20, iD 0, iD 0, .gs none 0, .gs none 0, bD false, iD 0], [iD 22, iD 0, iD 0, .gs none 0, .gs none 0, bD false, iD 0]]],
    [.sl true 7 [[iD 8, iD 0, iD 0, .gs none 0, .gs none 0, bD false, iD 0], [iD 22, iD 0, iD 0, .gs none 0, .gs none 0, bD false, iD 0]]]]]) ?_ ?_
  · refine Fun.of T [.cell 0 25] Tryz.func18 rfl Tryz.ntmps18 Tryz.results18 rfl (by kernel_rfl) ?_
    repeat' first | refine vs T rfl fun K hK => ?_; (try simp (disch := omega) only [go_sem, Nat.reduceBEq, Nat.reduceAdd, Nat.reduceMul, Nat.reduceLeDiff]); (first | refine hK _ _ ?_; clear hK K | intro bq hbq; (try simp only [HB] at hbq); refine hK _ _ ?_; clear hK K) | refine st rfl ?_ | refine nl ?_ | exact retc T rfl (by (simp (disch := omega) only [hget_eq]) <;> rfl) rfl rfl rfl (List.nil_sublist _) ⟨rfl, rfl⟩
    all_goals rfl
  · refine wk_agg ?_
    repeat' first | exact wk_is | exact wk_nil | exact wk_end | exact wkr_end | apply wk_sl | apply wk_cons | apply wkr_cons
theorem okU20 : OkU U20 := okU_light (by kernel_rfl)
theorem okV20 : OkU V20 := okU_light (by kernel_rfl)
theorem okW20 : OkU W20 := okU_light (by kernel_rfl)
theorem wk_V : Wk (.agg (unC V20)) vD := by
  refine wk_agg ?_
  repeat' first | exact wk_is | exact wk_nil | exact wk_end | exact wkr_end | apply wk_sl | apply wk_cons | apply wkr_cons
theorem wk_W : Wk (.agg (unC W20)) wD := by
  refine wk_agg ?_
  repeat' first | exact wk_is | exact wk_nil | exact wk_end | exact wkr_end | apply wk_sl | apply wk_cons | apply wkr_cons
set_option maxHeartbeats 8000000 in
theorem known20_ok : Pure Tryz.prog 6 [] (bD true) := by
  have cu := unit20_ok
  have a1 : Pure Tryz.prog 7 [.agg (unC U20), iD 1, iD 1, iD 2, .sl true 1 [[iD 1]], .sl true 1 [[iD 0]]] (bD true) := by
    have := wlas_ok U20 okU20 1 1 2 [1] [0] (by decide) (by decide)
    rw [show wLas U20 1 1 2 [1] [0] = true by kernel_rfl] at this
    exact Fun.argsW this (fz_cons (Fz.refl _ _) (fz_cons (Fz.refl _ _) (fz_cons (Fz.refl _ _) (fz_cons (Fz.refl _ _) (fz_cons fz_sl (fz_cons fz_sl fz_end))))))
  have a2 : Pure Tryz.prog 7 [.agg (unC U20), iD 1, iD 1, iD 1, .gs none 0, .sl true 1 [[iD 0]]] (bD false) := by
    have := wlas_ok U20 okU20 1 1 1 [] [0] (by decide) (by decide)
    rw [show wLas U20 1 1 1 [] [0] = false by kernel_rfl] at this
    exact Fun.argsW this (fz_cons (Fz.refl _ _) (fz_cons (Fz.refl _ _) (fz_cons (Fz.refl _ _) (fz_cons (Fz.refl _ _) (fz_cons fz_nil (fz_cons fz_sl fz_end))))))
  have a3 : Pure Tryz.prog 9 [.agg (unC U20), iD 1, iD 1, iD 1, .gs none 0, .sl true 1 [[iD 0]]] (iD 1) := by
    have := wunf_ok U20 okU20 1 1 1 [] [0] (by decide) (by decide)
    rw [show wUnf U20 1 1 1 [] [0] = 1 by kernel_rfl] at this
    exact Fun.argsW this (fz_cons (Fz.refl _ _) (fz_cons (Fz.refl _ _) (fz_cons (Fz.refl _ _) (fz_cons (Fz.refl _ _) (fz_cons fz_nil (fz_cons fz_sl fz_end))))))
  have a4 : Pure Tryz.prog 9 [.agg (unC U20), iD 1, iD 1, iD 1, .sl true 1 [[iD 1]], .sl true 1 [[iD 0]]] (iD (-1)) := by
    have := wunf_ok U20 okU20 1 1 1 [1] [0] (by decide) (by decide)
    rw [show wUnf U20 1 1 1 [1] [0] = -1 by kernel_rfl] at this
    exact Fun.argsW this (fz_cons (Fz.refl _ _) (fz_cons (Fz.refl _ _) (fz_cons (Fz.refl _ _) (fz_cons (Fz.refl _ _) (fz_cons fz_sl (fz_cons fz_sl fz_end))))))
  have a5 : Pure Tryz.prog 7 [.agg (unC U20), iD 1, iD 1, iD 1, .gs none 0, .sl true 1 [[iD 1]]] (bD false) := by
    have := wlas_ok U20 okU20 1 1 1 [] [1] (by decide) (by decide)
    rw [show wLas U20 1 1 1 [] [1] = false by kernel_rfl] at this
    exact Fun.argsW this (fz_cons (Fz.refl _ _) (fz_cons (Fz.refl _ _) (fz_cons (Fz.refl _ _) (fz_cons (Fz.refl _ _) (fz_cons fz_nil (fz_cons fz_sl fz_end))))))
  have a6 : Pure Tryz.prog 13 [vD, iD 1, iD 1, .gs none 0] (bD true) := by
    have := wdead_ok V20 okV20 1 1 [] (by decide)
    rw [show wDead V20 1 1 [] = true by kernel_rfl] at this
    exact Fun.argsWk this (wk_cons wk_V (wk_cons wk_is (wk_cons wk_is (wk_cons wk_nil wk_end))))
  have a7 : Pure Tryz.prog 13 [.agg (unC U20), iD 1, iD 1, .gs none 0] (bD false) := by
    have := wdead_ok U20 okU20 1 1 [] (by decide)
    rw [show wDead U20 1 1 [] = false by kernel_rfl] at this
    exact Fun.argsW this (fz_cons (Fz.refl _ _) (fz_cons (Fz.refl _ _) (fz_cons (Fz.refl _ _) (fz_cons fz_nil fz_end))))
  have a8 : Pure Tryz.prog 14 [wD, iD 1, iD 1, .gs none 0] (bD true) := by
    have := wfin_ok W20 okW20 1 1 [] (by decide)
    rw [show wFin W20 1 1 [] = true by kernel_rfl] at this
    exact Fun.argsWk this (wk_cons wk_W (wk_cons wk_is (wk_cons wk_is (wk_cons wk_nil wk_end))))
  have a9 : Pure Tryz.prog 14 [.agg (unC U20), iD 1, iD 1, .gs none 0] (bD false) := by
    have := wfin_ok U20 okU20 1 1 [] (by decide)
    rw [show wFin U20 1 1 [] = false by kernel_rfl] at this
    exact Fun.argsW this (fz_cons (Fz.refl _ _) (fz_cons (Fz.refl _ _) (fz_cons (Fz.refl _ _) (fz_cons fz_nil fz_end))))
  have b1 : Pure Tryz.prog 11 [.agg (unC U20), iD 1, iD 1, .sl true 1 [[iD 1]], .sl true 1 [[iD 0], [iD 0]], iD 9] (bD true) := by
    have := wrun_ok U20 okU20 1 1 [1] [0, 0] 9 (by decide) (by decide)
    rw [show wRun U20 1 1 [1] [0, 0] 9 = true by kernel_rfl] at this
    exact Fun.argsW this (fz_cons (Fz.refl _ _) (fz_cons (Fz.refl _ _) (fz_cons (Fz.refl _ _) (fz_cons fz_sl (fz_cons fz_sl (fz_cons (Fz.refl _ _) fz_end))))))
  have b2 : Pure Tryz.prog 11 [.agg (unC U20), iD 1, iD 1, .gs none 0, .sl true 1 [[iD 1]], iD 1] (bD false) := by
    have := wrun_ok U20 okU20 1 1 [] [1] 1 (by decide) (by decide)
    rw [show wRun U20 1 1 [] [1] 1 = false by kernel_rfl] at this
    exact Fun.argsW this (fz_cons (Fz.refl _ _) (fz_cons (Fz.refl _ _) (fz_cons (Fz.refl _ _) (fz_cons fz_nil (fz_cons fz_sl (fz_cons (Fz.refl _ _) fz_end))))))
  have b3 : Pure Tryz.prog 11 [.agg (unC U20), iD 1, iD 1, .gs none 0, .sl true 1 [[iD 1]], iD 0] (bD true) := by
    have := wrun_ok U20 okU20 1 1 [] [1] 0 (by decide) (by decide)
    rw [show wRun U20 1 1 [] [1] 0 = true by kernel_rfl] at this
    exact Fun.argsW this (fz_cons (Fz.refl _ _) (fz_cons (Fz.refl _ _) (fz_cons (Fz.refl _ _) (fz_cons fz_nil (fz_cons fz_sl (fz_cons (Fz.refl _ _) fz_end))))))
  refine Fun.of T [.tmp 0] Tryz.func6 rfl Tryz.ntmps6 Tryz.results6 rfl (by kernel_rfl) ?_
  repeat' first | refine vs T rfl fun K hK => ?_; (try simp (disch := omega) only [go_sem, Nat.reduceBEq, Nat.reduceAdd, Nat.reduceMul, Nat.reduceLeDiff, beq_self_eq_true, Bool.not_false]); (first | refine hK _ _ ?_; clear hK K | intro bq hbq; (try simp only [HB] at hbq); refine hK _ _ ?_; clear hK K | refine Op1.callp rfl rfl (cu) rfl ?_; refine hK _ _ ?_; clear hK K | refine Op1.callp rfl rfl (a1) rfl ?_; refine hK _ _ ?_; clear hK K | refine Op1.callp rfl rfl (a2) rfl ?_; refine hK _ _ ?_; clear hK K | refine Op1.callp rfl rfl (a3) rfl ?_; refine hK _ _ ?_; clear hK K | refine Op1.callp rfl rfl (a4) rfl ?_; refine hK _ _ ?_; clear hK K | refine Op1.callp rfl rfl (a5) rfl ?_; refine hK _ _ ?_; clear hK K | refine Op1.callp rfl rfl (a6) rfl ?_; refine hK _ _ ?_; clear hK K | refine Op1.callp rfl rfl (a7) rfl ?_; refine hK _ _ ?_; clear hK K | refine Op1.callp rfl rfl (a8) rfl ?_; refine hK _ _ ?_; clear hK K | refine Op1.callp rfl rfl (a9) rfl ?_; refine hK _ _ ?_; clear hK K | refine Op1.callp rfl rfl (b1) rfl ?_; refine hK _ _ ?_; clear hK K | refine Op1.callp rfl rfl (b2) rfl ?_; refine hK _ _ ?_; clear hK K | refine Op1.callp rfl rfl (b3) rfl ?_; refine hK _ _ ?_; clear hK K) | refine st rfl ?_ | refine nl ?_ | refine gs rfl rfl ?_ | exact ret1 T (List.nil_sublist _) ⟨rfl, rfl⟩
end Go.Proofs.YtfifcjgcajpnoaaGreat
