/- Contracts: whether a configuration can be told, both sides. No condition. -/
import Derived.Test.YtomcmfbpmkklmaaGreatFa
import Derived.Test.YtomcmfbpmkklmaaGreatFd
namespace Go.Proofs.YtomcmfbpmkklmaaGreat
set_option maxHeartbeats 16000000
set_option linter.unusedSimpArgs false
set_option linter.unusedVariables false
set_option maxRecDepth 20000
open Go Go.Proofs Go.Vc
attribute [local irreducible] retQ VCg VCw VCx
def inN (n : Int) : Prop := 0 ≤ n ∧ n ≤ 9999
theorem okN_iff {n : Int} : okN n = true ↔ inN n := by simp [okN, inN]
theorem all_getD {α : Type} {l : List α} {f : α → Bool} {d : α} : l.all f = true ↔ ∀ i, i < l.length → f (l.getD i d) = true := by
 rw [List.all_eq_true]
 constructor
 ·exact fun h i hi => h _ (getD_mem hi)
 ·intro h x hx
  obtain ⟨i, hi, rfl⟩ := List.getElem_of_mem hx
  have := h i hi
  rwa [getD_of (List.getElem?_eq_getElem hi)] at this
structure RP (c : Cf) : Prop where
 n : c.pc.length ≤ 10
 r : c.regs.length = c.pc.length
 b : c.bufs.length = c.pc.length
 pc : c.pc.all okN = true
 mem : c.mem.all okN = true
 regs : ∀ t, t < c.regs.length → (c.regs.getD t []).all okN = true
 bufs : ∀ t, t < c.bufs.length → ∀ i, i < (c.bufs.getD t []).length → entS ((c.bufs.getD t []).getD i (0, 0)) = true
theorem rightS_iff {c : Cf} : rightS c = true ↔ RP c := by
 simp only [rightS, Bool.and_eq_true, decide_eq_true_eq]
 constructor
 ·rintro ⟨⟨h1, h2, h3⟩, ⟨h4, h5⟩, h6, h7⟩
  refine ⟨h1, h2, h3, h4, h5, (all_getD (d := [])).1 h6, fun t ht i hi => ?_⟩
  exact (all_getD (d := (0, 0))).1 ((all_getD (d := [])).1 h7 t ht) i hi
 ·rintro ⟨h1, h2, h3, h4, h5, h6, h7⟩
  exact ⟨⟨h1, h2, h3⟩, ⟨h4, h5⟩, (all_getD (d := [])).2 h6, (all_getD (d := [])).2 fun t ht => (all_getD (d := (0, 0))).2 (h7 t ht)⟩
theorem rightS_not {c : Cf} (h : ¬ RP c) : rightS c = false := by rw [← Bool.not_eq_true]; exact fun e => h (rightS_iff.1 e)
theorem all29_not {l : List Int} {k : Nat} (hk : k < l.length) (h : ¬ inN (l.getD k 0)) : l.all okN = false := by
 rw [← Bool.not_eq_true]
 exact fun e => h (okN_iff.1 (all_getD.1 e k hk))
theorem all_ok (l : List Int) (hl : l.length ≤ 1000000) : Pure Tryz.prog 166 [ints l] (bD (l.all okN)) := by
 refine Fun.of T [.tmp 2] Tryz.func166 rfl Tryz.ntmps166 Tryz.results166 rfl (by kernel_rfl) ?_
 repeat' first | refine vs T rfl fun K hK => ?_; (try simp (disch := omega) only [go_sem, Nat.reduceBEq, iRs_len]); (refine hK _ _ ?_; clear hK K) | refine st rfl ?_ | refine nl ?_
 refine VC.loop {k : Nat // k ≤ l.length ∧ ∀ i, i < k → inN (l.getD i 0)} (fun p => ⟨lookD [(5, ints l), (6, iD (l.length : Nat)), (7, iD (p.1 : Nat))], []⟩) (fun p => l.length - p.1) ⟨0, by omega, fun i hi => by omega⟩ ?_ ?_
 ·refine Weak_subEq rfl ?_
  simp [sub, upd]
 rintro ⟨k, hk, hs⟩
 dsimp only at hk hs ⊢
 repeat' first | refine vs T rfl fun K hK => ?_; (try simp (disch := omega) only [go_sem, Nat.reduceBEq, ix_ints, w64, Int.toNat_natCast]); (first | refine hK _ _ ?_; clear hK K | refine ⟨?_, hK _ _ ?_⟩ <;> clear hK K; focus (try omega)) | refine st rfl ?_ | refine sc rfl ?_ | refine nl ?_ | refine gs rfl rfl ?_ | refine ret1 T (List.nil_sublist _) ?_; (try simp only [upd, Nat.reduceBEq, cond_true, cond_false, and_true]) | with_reducible refine gsplit_intro (fun hc => ?_) (fun hc => ?_) <;> (try simp only [decide_eq_true_eq, decide_eq_false_iff_not, gt_iff_lt, Int.not_lt] at hc)
 any_goals (refine congrArg bD (all29_not (k := k) (by omega) fun h => ?_).symm; unfold inN at h; omega)
 ·refine ⟨⟨k + 1, by omega, fun i hi => ?_⟩, Weak_subEq rfl ?_, by dsimp only; omega⟩
  ·rcases Nat.lt_or_ge i k with h | h
   ·exact hs i h
   ·obtain rfl : i = k := by omega
    unfold inN; omega
  ·simp [sub, upd]
 ·exact congrArg bD (all_getD.2 fun i hi => okN_iff.2 (hs i (by omega))).symm
theorem in_ok (n : Int) : Pure Tryz.prog 167 [iD n] (bD (okN n)) := by
 refine Fun.of T [.tmp 2] Tryz.func167 rfl Tryz.ntmps167 Tryz.results167 rfl (by kernel_rfl) ?_
 rcases Decidable.em (0 ≤ n) with h | h
 ·have e1 : decide (n ≥ 0) = true := decide_eq_true h
  have e2 : okN n = decide (n ≤ 9999) := by simp [okN, h]
  rw [e2]
  repeat' first | refine vs T rfl fun K hK => ?_; (try simp (disch := omega) only [go_sem, Nat.reduceBEq, e1]); (refine hK _ _ ?_; clear hK K) | refine st rfl ?_ | refine nl ?_ | refine gs rfl rfl ?_ | exact ret1 T (List.nil_sublist _) ⟨rfl, rfl⟩
 ·have e1 : decide (n ≥ 0) = false := decide_eq_false h
  have e2 : okN n = false := by simp [okN, h]
  rw [e2]
  repeat' first | refine vs T rfl fun K hK => ?_; (try simp (disch := omega) only [go_sem, Nat.reduceBEq, e1]); (refine hK _ _ ?_; clear hK K) | refine st rfl ?_ | refine nl ?_ | refine gs rfl rfl ?_ | exact ret1 T (List.nil_sublist _) ⟨rfl, rfl⟩
theorem right29_ok (c : Cf) (hO : OkC c) : Pure Tryz.prog 146 [.agg (cfC c)] (bD (rightS c)) := by
 have g1 := hO.pc
 have g2 := hO.mem
 have g3 := hO.regs
 have g4 := hO.bufs
 have c1 := all_ok c.pc (by omega)
 have c2 := all_ok c.mem (by omega)
 refine Fun.of T [.tmp 2] Tryz.func146 rfl Tryz.ntmps146 Tryz.results146 rfl (by kernel_rfl) ?_
 cases h1 : c.pc.all okN with
 | false =>
  rw [h1] at c1
  have hR : rightS c = false := rightS_not fun h => by rw [h.pc] at h1; cases h1
  rw [hR]
  repeat' first | refine vb (t := 43) rfl rfl rfl rfl ?_ | refine vs T rfl fun K hK => ?_; (try simp (disch := omega) only [go_sem, Nat.reduceBEq, iRs_len, rowsI_len, bufsR_len, Bool.not_false]); (first | refine hK _ _ ?_; clear hK K | refine Op1.callp rfl rfl (c1) rfl ?_; refine hK _ _ ?_; clear hK K) | refine st rfl ?_ | refine sc rfl ?_ | refine nl ?_ | refine gs rfl rfl ?_ | exact ret1 T (List.nil_sublist _) ⟨rfl, rfl⟩ | with_reducible refine gsplit_intro (fun hc => ?_) (fun hc => ?_) <;> (try simp only [decide_eq_true_eq, decide_eq_false_iff_not, bne_iff_ne, bne_eq_false_iff_eq, ne_eq, gt_iff_lt, Int.not_lt] at hc)
 | true =>
 cases h2 : c.mem.all okN with
 | false =>
  rw [h1] at c1
  rw [h2] at c2
  have hR : rightS c = false := rightS_not fun h => by rw [h.mem] at h2; cases h2
  rw [hR]
  repeat' first | refine vb (t := 43) rfl rfl rfl rfl ?_ | refine vs T rfl fun K hK => ?_; (try simp (disch := omega) only [go_sem, Nat.reduceBEq, iRs_len, rowsI_len, bufsR_len, Bool.not_false, Bool.not_true]); (first | refine hK _ _ ?_; clear hK K | refine Op1.callp rfl rfl (c1) rfl ?_; refine hK _ _ ?_; clear hK K | refine Op1.callp rfl rfl (c2) rfl ?_; refine hK _ _ ?_; clear hK K) | refine st rfl ?_ | refine sc rfl ?_ | refine nl ?_ | refine gs rfl rfl ?_ | exact ret1 T (List.nil_sublist _) ⟨rfl, rfl⟩ | with_reducible refine gsplit_intro (fun hc => ?_) (fun hc => ?_) <;> (try simp only [decide_eq_true_eq, decide_eq_false_iff_not, bne_iff_ne, bne_eq_false_iff_eq, ne_eq, gt_iff_lt, Int.not_lt] at hc)
 | true =>
 rw [h1] at c1
 rw [h2] at c2
 repeat' first | refine vb (t := 43) rfl rfl rfl rfl ?_ | refine vs T rfl fun K hK => ?_; (try simp (disch := omega) only [go_sem, Nat.reduceBEq, iRs_len, rowsI_len, bufsR_len, Bool.not_true]); (first | refine hK _ _ ?_; clear hK K | refine Op1.callp rfl rfl (c1) rfl ?_; refine hK _ _ ?_; clear hK K | refine Op1.callp rfl rfl (c2) rfl ?_; refine hK _ _ ?_; clear hK K) | refine st rfl ?_ | refine sc rfl ?_ | refine nl ?_ | refine gs rfl rfl ?_ | refine ret1 T (List.nil_sublist _) ?_; (try simp only [upd, Nat.reduceBEq, cond_true, cond_false, and_true]) | with_reducible refine gsplit_intro (fun hc => ?_) (fun hc => ?_) <;> (try simp only [decide_eq_true_eq, decide_eq_false_iff_not, bne_iff_ne, bne_eq_false_iff_eq, ne_eq, gt_iff_lt, Int.not_lt] at hc)
 any_goals (refine congrArg bD (rightS_not fun h => ?_).symm; obtain ⟨a1, a2, a3, a4, a5, a6, a7⟩ := h; omega)
 clear c1 c2
 refine VC.loop {k : Nat // k ≤ c.pc.length ∧ (∀ t, t < k → (c.regs.getD t []).all okN = true) ∧ (∀ t, t < k → ∀ i, i < (c.bufs.getD t []).length → entS ((c.bufs.getD t []).getD i (0, 0)) = true)} (fun p => ⟨lookD [(1, .pt (cfC c)), (42, iD (c.pc.length : Nat)), (43, iD (p.1 : Nat))], []⟩) (fun p => c.pc.length - p.1) ⟨0, by omega, fun i hi => by omega, fun i hi => by omega⟩ ?_ ?_
 ·refine Weak_subEq rfl ?_
  simp [sub, upd]
 rintro ⟨k, hk, hs, hb⟩
 dsimp only at hk hs hb ⊢
 have g5 := row_le hO.row k
 have g6 := row_le hO.buf k
 have c3 := all_ok (c.regs.getD k []) (by omega)
 rcases Nat.lt_or_ge k c.pc.length with hlt | hge
 case inr =>
  obtain rfl : k = c.pc.length := by omega
  repeat' first | refine vs T rfl fun K hK => ?_; (try simp (disch := omega) only [go_sem, Nat.reduceBEq]); (refine hK _ _ ?_; clear hK K) | refine st rfl ?_ | refine sc rfl ?_ | refine nl ?_ | refine ret1 T (List.nil_sublist _) ?_; (try simp only [upd, Nat.reduceBEq, cond_true, cond_false, and_true]) | with_reducible refine gsplit_intro (fun hc => ?_) (fun hc => ?_) <;> (try simp only [decide_eq_true_eq, decide_eq_false_iff_not, Int.not_lt] at hc) <;> (try (exfalso; omega))
  exact congrArg bD (rightS_iff.2 ⟨by omega, by omega, by omega, h1, h2, fun t ht => hs t (by omega), fun t ht => hb t (by omega)⟩).symm
 cases h3 : (c.regs.getD k []).all okN with
 | false =>
  rw [h3] at c3
  have hR : rightS c = false := rightS_not fun h => by rw [h.regs k (by have := h.r; omega)] at h3; cases h3
  rw [hR]
  repeat' first | refine vs T rfl fun K hK => ?_; (try simp (disch := omega) only [go_sem, Nat.reduceBEq, ix_rows, Bool.not_false, Int.toNat_natCast]); (first | refine hK _ _ ?_; clear hK K | refine ⟨?_, hK _ _ ?_⟩ <;> clear hK K; focus (try omega) | refine Op1.callp rfl rfl (c3) rfl ?_; refine hK _ _ ?_; clear hK K) | refine st rfl ?_ | refine sc rfl ?_ | refine nl ?_ | exact ret1 T (List.nil_sublist _) ⟨rfl, rfl⟩ | with_reducible refine gsplit_intro (fun hc => ?_) (fun hc => ?_) <;> (try simp only [decide_eq_true_eq, decide_eq_false_iff_not, Int.not_lt] at hc) <;> (try (exfalso; omega))
 | true =>
 rw [h3] at c3
 repeat' first | refine vs T rfl fun K hK => ?_; (try simp (disch := omega) only [go_sem, Nat.reduceBEq, ix_rows, ix_bufs, eRs_len, Bool.not_true, Int.toNat_natCast]); (first | refine hK _ _ ?_; clear hK K | refine ⟨?_, hK _ _ ?_⟩ <;> clear hK K; focus (try omega) | refine Op1.callp rfl rfl (c3) rfl ?_; refine hK _ _ ?_; clear hK K) | refine st rfl ?_ | refine sc rfl ?_ | refine nl ?_ | with_reducible refine gsplit_intro (fun hc => ?_) (fun hc => ?_) <;> (try simp only [decide_eq_true_eq, decide_eq_false_iff_not, Int.not_lt] at hc) <;> (try (exfalso; omega))
 clear c3
 refine VC.loop {j : Nat // j ≤ (c.bufs.getD k []).length ∧ ∀ i, i < j → entS ((c.bufs.getD k []).getD i (0, 0)) = true} (fun p => ⟨lookD [(1, .pt (cfC c)), (42, iD (c.pc.length : Nat)), (43, iD (k : Nat)), (57, buf (c.bufs.getD k [])), (58, iD ((c.bufs.getD k []).length : Nat)), (59, iD (p.1 : Nat))], []⟩) (fun p => (c.bufs.getD k []).length - p.1) ⟨0, by omega, fun i hi => by omega⟩ ?_ ?_
 ·refine Weak_subEq rfl ?_
  simp [sub, upd, -List.getD_eq_getElem?_getD]
 rintro ⟨j, hj, he⟩
 dsimp only at hj he ⊢
 rcases Nat.lt_or_ge j (c.bufs.getD k []).length with hjt | hge
 case inr =>
  obtain rfl : j = (c.bufs.getD k []).length := by omega
  repeat' first | refine vs T rfl fun K hK => ?_; (try simp (disch := omega) only [go_sem, Nat.reduceBEq, w64]); (refine hK _ _ ?_; clear hK K) | refine st rfl ?_ | refine sc rfl ?_ | refine nl ?_ | with_reducible refine gsplit_intro (fun hc => ?_) (fun hc => ?_) <;> (try simp only [decide_eq_true_eq, decide_eq_false_iff_not, Int.not_lt] at hc) <;> (try (exfalso; omega))
  refine ⟨⟨k + 1, by omega, fun t ht => ?_, fun t ht => ?_⟩, Weak_subEq rfl ?_, by dsimp only; omega⟩
  ·rcases Nat.lt_or_ge t k with h | h
   ·exact hs t h
   ·obtain rfl : t = k := by omega
    exact h3
  ·rcases Nat.lt_or_ge t k with h | h
   ·exact hb t h
   ·obtain rfl : t = k := by omega
    exact fun i hi => he i hi
  ·simp [sub, upd]
 have c4 := all_ok [((c.bufs.getD k []).getD j (0, 0)).1, ((c.bufs.getD k []).getD j (0, 0)).2] (by simp)
 have e4 : [((c.bufs.getD k []).getD j (0, 0)).1, ((c.bufs.getD k []).getD j (0, 0)).2].all okN = entS ((c.bufs.getD k []).getD j (0, 0)) := by simp [entS]
 rw [e4] at c4
 cases h4 : entS ((c.bufs.getD k []).getD j (0, 0)) with
 | false =>
  rw [h4] at c4
  have hR : rightS c = false := rightS_not fun h => by rw [h.bufs k (by have := h.b; omega) j hjt] at h4; cases h4
  rw [hR]
  repeat' first | refine vs T rfl fun K hK => ?_; (try simp (disch := omega) only [go_sem, Nat.reduceBEq, Nat.reduceAdd, Nat.reduceMul, Nat.reduceLeDiff, ix_ens, eR, Bool.not_false, Int.toNat_natCast]); (first | refine hK _ _ ?_; clear hK K | intro bq hbq; (try simp only [HB] at hbq); refine hK _ _ ?_; clear hK K | refine ⟨?_, hK _ _ ?_⟩ <;> clear hK K; focus (try omega) | refine Op1.lend rfl rfl (c4) (fz_first fz_sl) (.inr rfl) ?_; refine hK _ _ ?_; clear hK K) | refine st rfl ?_ | refine sc rfl ?_ | refine nl ?_ | exact ret1 T (List.nil_sublist _) ⟨rfl, rfl⟩ | with_reducible refine gsplit_intro (fun hc => ?_) (fun hc => ?_) <;> (try simp only [decide_eq_true_eq, decide_eq_false_iff_not, Int.not_lt] at hc) <;> (try (exfalso; omega))
 | true =>
  rw [h4] at c4
  repeat' first | refine vs T rfl fun K hK => ?_; (try simp (disch := omega) only [go_sem, Nat.reduceBEq, Nat.reduceAdd, Nat.reduceMul, Nat.reduceLeDiff, ix_ens, eR, Bool.not_true, Int.toNat_natCast, w64]); (first | refine hK _ _ ?_; clear hK K | intro bq hbq; (try simp only [HB] at hbq); refine hK _ _ ?_; clear hK K | refine ⟨?_, hK _ _ ?_⟩ <;> clear hK K; focus (try omega) | refine Op1.lend rfl rfl (c4) (fz_first fz_sl) (.inr rfl) ?_; refine hK _ _ ?_; clear hK K) | refine st rfl ?_ | refine sc rfl ?_ | refine nl ?_ | with_reducible refine gsplit_intro (fun hc => ?_) (fun hc => ?_) <;> (try simp only [decide_eq_true_eq, decide_eq_false_iff_not, Int.not_lt] at hc) <;> (try (exfalso; omega))
  refine ⟨⟨j + 1, by omega, fun i hi => ?_⟩, Weak_subH rfl ?_, by dsimp only; omega⟩
  ·rcases Nat.lt_or_ge i j with h | h
   ·exact he i h
   ·obtain rfl : i = j := by omega
    exact h4
  ·simp [sub, upd]
theorem rright29_ok (c : Cf) (hO : OkC c) : Pure Tryz.prog 149 [.agg (cfC c)] (bD (rightS c)) := by
 have g1 := hO.pc
 have g2 := hO.mem
 have g3 := hO.regs
 have g4 := hO.bufs
 refine Fun.of T [.tmp 2] Tryz.func149 rfl Tryz.ntmps149 Tryz.results149 rfl (by kernel_rfl) ?_
 repeat' first | refine vb (t := 43) rfl rfl rfl rfl ?_ | refine vs T rfl fun K hK => ?_; (try simp (disch := omega) only [go_sem, Nat.reduceBEq, iRs_len, rowsI_len, bufsR_len]); (refine hK _ _ ?_; clear hK K) | refine st rfl ?_ | refine sc rfl ?_ | refine nl ?_ | refine gs rfl rfl ?_ | refine ret1 T (List.nil_sublist _) ?_; (try simp only [upd, Nat.reduceBEq, cond_true, cond_false, and_true]) | with_reducible refine gsplit_intro (fun hc => ?_) (fun hc => ?_) <;> (try simp only [decide_eq_true_eq, decide_eq_false_iff_not, bne_iff_ne, bne_eq_false_iff_eq, ne_eq, gt_iff_lt, Int.not_lt] at hc)
 any_goals (refine congrArg bD (rightS_not fun h => ?_).symm; obtain ⟨a1, a2, a3, a4, a5, a6, a7⟩ := h; omega)
 refine VC.loop {k : Nat // k ≤ c.pc.length ∧ (∀ t, t < k → okN (c.pc.getD t 0) = true) ∧ (∀ t, t < k → (c.regs.getD t []).all okN = true) ∧ (∀ t, t < k → ∀ i, i < (c.bufs.getD t []).length → entS ((c.bufs.getD t []).getD i (0, 0)) = true)} (fun p => ⟨lookD [(1, .pt (cfC c)), (3, iD (p.1 : Nat))], []⟩) (fun p => c.pc.length - p.1) ⟨0, by omega, fun i hi => by omega, fun i hi => by omega, fun i hi => by omega⟩ ?_ ?_
 ·refine Weak_subEq rfl ?_
  simp [sub, upd]
 rintro ⟨k, hk, hp, hs, hb⟩
 dsimp only at hk hp hs hb ⊢
 have g5 := row_le hO.row k
 have g6 := row_le hO.buf k
 rcases Nat.lt_or_ge k c.pc.length with hlt | hge
 case inl =>
  have c3 := in_ok (c.pc.getD k 0)
  cases h3 : okN (c.pc.getD k 0) with
  | false =>
   rw [h3] at c3
   have hR : rightS c = false := rightS_not fun h => by rw [all_getD.1 h.pc k hlt] at h3; cases h3
   rw [hR]
   repeat' first | refine vs T rfl fun K hK => ?_; (try simp (disch := omega) only [go_sem, Nat.reduceBEq, ix_ints, iRs_len, Bool.not_false, Int.toNat_natCast]); (first | refine hK _ _ ?_; clear hK K | refine ⟨?_, hK _ _ ?_⟩ <;> clear hK K; focus (try omega) | refine Op1.callp rfl rfl (c3) rfl ?_; refine hK _ _ ?_; clear hK K) | refine st rfl ?_ | refine sc rfl ?_ | refine nl ?_ | exact ret1 T (List.nil_sublist _) ⟨rfl, rfl⟩ | with_reducible refine gsplit_intro (fun hc => ?_) (fun hc => ?_) <;> (try simp only [decide_eq_true_eq, decide_eq_false_iff_not, Int.not_lt] at hc) <;> (try (exfalso; omega))
  | true =>
  rw [h3] at c3
  repeat' first | refine vs T rfl fun K hK => ?_; (try simp (disch := omega) only [go_sem, Nat.reduceBEq, ix_ints, iRs_len, Bool.not_true, Int.toNat_natCast]); (first | refine hK _ _ ?_; clear hK K | refine ⟨?_, hK _ _ ?_⟩ <;> clear hK K; focus (try omega) | refine Op1.callp rfl rfl (c3) rfl ?_; refine hK _ _ ?_; clear hK K) | refine st rfl ?_ | refine sc rfl ?_ | refine nl ?_ | with_reducible refine gsplit_intro (fun hc => ?_) (fun hc => ?_) <;> (try simp only [decide_eq_true_eq, decide_eq_false_iff_not, Int.not_lt] at hc) <;> (try (exfalso; omega))
  clear c3
  refine VC.loop {j : Nat // j ≤ (c.regs.getD k []).length ∧ ∀ i, i < j → okN ((c.regs.getD k []).getD i 0) = true} (fun p => ⟨lookD [(1, .pt (cfC c)), (3, iD (k : Nat)), (4, iD (p.1 : Nat))], []⟩) (fun p => (c.regs.getD k []).length - p.1) ⟨0, by omega, fun i hi => by omega⟩ ?_ ?_
  ·refine Weak_subEq rfl ?_
   simp [sub, upd]
  rintro ⟨j, hj, he⟩
  dsimp only at hj he ⊢
  rcases Nat.lt_or_ge j (c.regs.getD k []).length with hjt | hge
  case inl =>
   have c3 := in_ok ((c.regs.getD k []).getD j 0)
   cases h4 : okN ((c.regs.getD k []).getD j 0) with
   | false =>
    rw [h4] at c3
    have hR : rightS c = false := rightS_not fun h => by rw [all_getD.1 (h.regs k (by have := h.r; omega)) j hjt] at h4; cases h4
    rw [hR]
    repeat' first | refine vs T rfl fun K hK => ?_; (try simp (disch := omega) only [go_sem, Nat.reduceBEq, ix_rows, ix_ints, iRs_len, Bool.not_false, Int.toNat_natCast]); (first | refine hK _ _ ?_; clear hK K | refine ⟨?_, hK _ _ ?_⟩ <;> clear hK K; focus (try omega) | refine Op1.callp rfl rfl (c3) rfl ?_; refine hK _ _ ?_; clear hK K) | refine st rfl ?_ | refine sc rfl ?_ | refine nl ?_ | exact ret1 T (List.nil_sublist _) ⟨rfl, rfl⟩ | with_reducible refine gsplit_intro (fun hc => ?_) (fun hc => ?_) <;> (try simp only [decide_eq_true_eq, decide_eq_false_iff_not, Int.not_lt] at hc) <;> (try (exfalso; omega))
   | true =>
   rw [h4] at c3
   repeat' first | refine vs T rfl fun K hK => ?_; (try simp (disch := omega) only [go_sem, Nat.reduceBEq, ix_rows, ix_ints, iRs_len, Bool.not_true, Int.toNat_natCast, w64]); (first | refine hK _ _ ?_; clear hK K | refine ⟨?_, hK _ _ ?_⟩ <;> clear hK K; focus (try omega) | refine Op1.callp rfl rfl (c3) rfl ?_; refine hK _ _ ?_; clear hK K) | refine st rfl ?_ | refine sc rfl ?_ | refine nl ?_ | with_reducible refine gsplit_intro (fun hc => ?_) (fun hc => ?_) <;> (try simp only [decide_eq_true_eq, decide_eq_false_iff_not, Int.not_lt] at hc) <;> (try (exfalso; omega))
   refine ⟨⟨j + 1, by omega, fun i hi => ?_⟩, Weak_subEq rfl ?_, by dsimp only; omega⟩
   ·rcases Nat.lt_or_ge i j with h | h
    ·exact he i h
    ·obtain rfl : i = j := by omega
     exact h4
   ·simp [sub, upd]
  obtain rfl : j = (c.regs.getD k []).length := by omega
  have hr : (c.regs.getD k []).all okN = true := all_getD.2 he
  repeat' first | refine vs T rfl fun K hK => ?_; (try simp (disch := omega) only [go_sem, Nat.reduceBEq, ix_rows, iRs_len, Int.toNat_natCast]); (first | refine hK _ _ ?_; clear hK K | refine ⟨?_, hK _ _ ?_⟩ <;> clear hK K; focus (try omega)) | refine st rfl ?_ | refine sc rfl ?_ | refine nl ?_ | with_reducible refine gsplit_intro (fun hc => ?_) (fun hc => ?_) <;> (try simp only [decide_eq_true_eq, decide_eq_false_iff_not, Int.not_lt] at hc) <;> (try (exfalso; omega))
  clear he hj
  refine VC.loop {j : Nat // j ≤ (c.bufs.getD k []).length ∧ ∀ i, i < j → entS ((c.bufs.getD k []).getD i (0, 0)) = true} (fun p => ⟨lookD [(1, .pt (cfC c)), (3, iD (k : Nat)), (5, iD (p.1 : Nat))], []⟩) (fun p => (c.bufs.getD k []).length - p.1) ⟨0, by omega, fun i hi => by omega⟩ ?_ ?_
  ·refine Weak_subEq rfl ?_
   simp [sub, upd]
  rintro ⟨j, hj, he⟩
  dsimp only at hj he ⊢
  rcases Nat.lt_or_ge j (c.bufs.getD k []).length with hjt | hge
  case inl =>
   have c3 := in_ok ((c.bufs.getD k []).getD j (0, 0)).1
   have c4 := in_ok ((c.bufs.getD k []).getD j (0, 0)).2
   cases h4 : okN ((c.bufs.getD k []).getD j (0, 0)).1 with
   | false =>
    rw [h4] at c3
    have hR : rightS c = false := rightS_not fun h => by have e := h.bufs k (by have := h.b; omega) j hjt; rw [entS, h4] at e; cases e
    rw [hR]
    repeat' first | refine vs T rfl fun K hK => ?_; (try simp (disch := omega) only [go_sem, Nat.reduceBEq, ix_bufs, ix_ens, eR, eRs_len, Bool.not_false, Int.toNat_natCast]); (first | refine hK _ _ ?_; clear hK K | refine ⟨?_, hK _ _ ?_⟩ <;> clear hK K; focus (try omega) | refine Op1.callp rfl rfl (c3) rfl ?_; refine hK _ _ ?_; clear hK K) | refine st rfl ?_ | refine sc rfl ?_ | refine nl ?_ | refine gs rfl rfl ?_ | exact ret1 T (List.nil_sublist _) ⟨rfl, rfl⟩ | with_reducible refine gsplit_intro (fun hc => ?_) (fun hc => ?_) <;> (try simp only [decide_eq_true_eq, decide_eq_false_iff_not, Int.not_lt] at hc) <;> (try (exfalso; omega))
   | true =>
   cases h5 : okN ((c.bufs.getD k []).getD j (0, 0)).2 with
   | false =>
    rw [h4] at c3
    rw [h5] at c4
    have hR : rightS c = false := rightS_not fun h => by have e := h.bufs k (by have := h.b; omega) j hjt; rw [entS, h4, h5] at e; cases e
    rw [hR]
    repeat' first | refine vs T rfl fun K hK => ?_; (try simp (disch := omega) only [go_sem, Nat.reduceBEq, ix_bufs, ix_ens, eR, eRs_len, Bool.not_false, Bool.not_true, Int.toNat_natCast]); (first | refine hK _ _ ?_; clear hK K | refine ⟨?_, hK _ _ ?_⟩ <;> clear hK K; focus (try omega) | refine Op1.callp rfl rfl (c3) rfl ?_; refine hK _ _ ?_; clear hK K | refine Op1.callp rfl rfl (c4) rfl ?_; refine hK _ _ ?_; clear hK K) | refine st rfl ?_ | refine sc rfl ?_ | refine nl ?_ | refine gs rfl rfl ?_ | exact ret1 T (List.nil_sublist _) ⟨rfl, rfl⟩ | with_reducible refine gsplit_intro (fun hc => ?_) (fun hc => ?_) <;> (try simp only [decide_eq_true_eq, decide_eq_false_iff_not, Int.not_lt] at hc) <;> (try (exfalso; omega))
   | true =>
   rw [h4] at c3
   rw [h5] at c4
   repeat' first | refine vs T rfl fun K hK => ?_; (try simp (disch := omega) only [go_sem, Nat.reduceBEq, ix_bufs, ix_ens, eR, eRs_len, Bool.not_true, Int.toNat_natCast, w64]); (first | refine hK _ _ ?_; clear hK K | refine ⟨?_, hK _ _ ?_⟩ <;> clear hK K; focus (try omega) | refine Op1.callp rfl rfl (c3) rfl ?_; refine hK _ _ ?_; clear hK K | refine Op1.callp rfl rfl (c4) rfl ?_; refine hK _ _ ?_; clear hK K) | refine st rfl ?_ | refine sc rfl ?_ | refine nl ?_ | refine gs rfl rfl ?_ | with_reducible refine gsplit_intro (fun hc => ?_) (fun hc => ?_) <;> (try simp only [decide_eq_true_eq, decide_eq_false_iff_not, Int.not_lt] at hc) <;> (try (exfalso; omega))
   refine ⟨⟨j + 1, by omega, fun i hi => ?_⟩, Weak_subEq rfl ?_, by dsimp only; omega⟩
   ·rcases Nat.lt_or_ge i j with h | h
    ·exact he i h
    ·obtain rfl : i = j := by omega
     exact (by rw [entS, h4, h5]; rfl)
   ·simp [sub, upd]
  obtain rfl : j = (c.bufs.getD k []).length := by omega
  repeat' first | refine vs T rfl fun K hK => ?_; (try simp (disch := omega) only [go_sem, Nat.reduceBEq, ix_bufs, eRs_len, Int.toNat_natCast, w64]); (first | refine hK _ _ ?_; clear hK K | refine ⟨?_, hK _ _ ?_⟩ <;> clear hK K; focus (try omega)) | refine st rfl ?_ | refine sc rfl ?_ | refine nl ?_ | with_reducible refine gsplit_intro (fun hc => ?_) (fun hc => ?_) <;> (try simp only [decide_eq_true_eq, decide_eq_false_iff_not, Int.not_lt] at hc) <;> (try (exfalso; omega))
  refine ⟨⟨k + 1, by omega, fun t ht => ?_, fun t ht => ?_, fun t ht => ?_⟩, Weak_subEq rfl ?_, by dsimp only; omega⟩
  ·rcases Nat.lt_or_ge t k with h | h
   ·exact hp t h
   ·obtain rfl : t = k := by omega
    exact h3
  ·rcases Nat.lt_or_ge t k with h | h
   ·exact hs t h
   ·obtain rfl : t = k := by omega
    exact hr
  ·rcases Nat.lt_or_ge t k with h | h
   ·exact hb t h
   ·obtain rfl : t = k := by omega
    exact fun i hi => he i hi
  ·simp [sub, upd]
 obtain rfl : k = c.pc.length := by omega
 repeat' first | refine vs T rfl fun K hK => ?_; (try simp (disch := omega) only [go_sem, Nat.reduceBEq, iRs_len]); (refine hK _ _ ?_; clear hK K) | refine st rfl ?_ | refine sc rfl ?_ | refine nl ?_ | with_reducible refine gsplit_intro (fun hc => ?_) (fun hc => ?_) <;> (try simp only [decide_eq_true_eq, decide_eq_false_iff_not, Int.not_lt] at hc) <;> (try (exfalso; omega))
 refine VC.loop {j : Nat // j ≤ c.mem.length ∧ ∀ i, i < j → okN (c.mem.getD i 0) = true} (fun p => ⟨lookD [(1, .pt (cfC c)), (6, iD (p.1 : Nat))], []⟩) (fun p => c.mem.length - p.1) ⟨0, by omega, fun i hi => by omega⟩ ?_ ?_
 ·refine Weak_subEq rfl ?_
  simp [sub, upd]
 rintro ⟨j, hj, he⟩
 dsimp only at hj he ⊢
 rcases Nat.lt_or_ge j c.mem.length with hjt | hge
 case inl =>
  have c3 := in_ok (c.mem.getD j 0)
  cases h4 : okN (c.mem.getD j 0) with
  | false =>
   rw [h4] at c3
   have hR : rightS c = false := rightS_not fun h => by rw [all_getD.1 h.mem j hjt] at h4; cases h4
   rw [hR]
   repeat' first | refine vs T rfl fun K hK => ?_; (try simp (disch := omega) only [go_sem, Nat.reduceBEq, ix_ints, iRs_len, Bool.not_false, Int.toNat_natCast]); (first | refine hK _ _ ?_; clear hK K | refine ⟨?_, hK _ _ ?_⟩ <;> clear hK K; focus (try omega) | refine Op1.callp rfl rfl (c3) rfl ?_; refine hK _ _ ?_; clear hK K) | refine st rfl ?_ | refine sc rfl ?_ | refine nl ?_ | exact ret1 T (List.nil_sublist _) ⟨rfl, rfl⟩ | with_reducible refine gsplit_intro (fun hc => ?_) (fun hc => ?_) <;> (try simp only [decide_eq_true_eq, decide_eq_false_iff_not, Int.not_lt] at hc) <;> (try (exfalso; omega))
  | true =>
  rw [h4] at c3
  repeat' first | refine vs T rfl fun K hK => ?_; (try simp (disch := omega) only [go_sem, Nat.reduceBEq, ix_ints, iRs_len, Bool.not_true, Int.toNat_natCast, w64]); (first | refine hK _ _ ?_; clear hK K | refine ⟨?_, hK _ _ ?_⟩ <;> clear hK K; focus (try omega) | refine Op1.callp rfl rfl (c3) rfl ?_; refine hK _ _ ?_; clear hK K) | refine st rfl ?_ | refine sc rfl ?_ | refine nl ?_ | with_reducible refine gsplit_intro (fun hc => ?_) (fun hc => ?_) <;> (try simp only [decide_eq_true_eq, decide_eq_false_iff_not, Int.not_lt] at hc) <;> (try (exfalso; omega))
  refine ⟨⟨j + 1, by omega, fun i hi => ?_⟩, Weak_subEq rfl ?_, by dsimp only; omega⟩
  ·rcases Nat.lt_or_ge i j with h | h
   ·exact he i h
   ·obtain rfl : i = j := by omega
    exact h4
  ·simp [sub, upd]
 obtain rfl : j = c.mem.length := by omega
 repeat' first | refine vs T rfl fun K hK => ?_; (try simp (disch := omega) only [go_sem, Nat.reduceBEq, iRs_len]); (refine hK _ _ ?_; clear hK K) | refine st rfl ?_ | refine sc rfl ?_ | refine nl ?_ | refine ret1 T (List.nil_sublist _) ?_; (try simp only [upd, Nat.reduceBEq, cond_true, cond_false, and_true]) | with_reducible refine gsplit_intro (fun hc => ?_) (fun hc => ?_) <;> (try simp only [decide_eq_true_eq, decide_eq_false_iff_not, Int.not_lt] at hc) <;> (try (exfalso; omega))
 exact congrArg bD (rightS_iff.2 ⟨by omega, by omega, by omega, all_getD.2 hp, all_getD.2 he, fun t ht => hs t (by omega), fun t ht => hb t (by omega)⟩).symm
theorem decimalS_ok : ∀ (k : Nat) (n : Int), 0 ≤ n → n < 10 ^ (k + 1) → k ≤ 17 → Pure Tryz.prog 147 [iD n] (sD ⟨(decF k n.toNat).toArray⟩) := by
 intro k
 induction k with
 | zero =>
  intro n h0 h1 _
  refine Fun.of T [.tmp 2] Tryz.func147 rfl Tryz.ntmps147 Tryz.results147 rfl (by kernel_rfl) ?_
  repeat' first | refine dr (id := 3) T 9 (by kernel_rfl) ?_ | apply VCg.step T rfl rfl; focus ((try simp (disch := omega) only [go_sem, Nat.reduceBEq]); (first | exact rfl | refine ⟨?_, rfl⟩; try omega)) | refine vs T rfl fun K hK => ?_; (try simp (disch := omega) only [go_sem, Nat.reduceBEq, Nat.reduceMul, Nat.reduceLeDiff]); (refine hK _ _ ?_; clear hK K) | refine st rfl ?_ | refine sc rfl ?_ | refine nl ?_ | refine ret1 T (List.nil_sublist _) ?_; (try simp only [upd, Nat.reduceBEq, cond_true, cond_false, and_true]) | with_reducible refine gsplit_intro (fun hc => ?_) (fun hc => ?_)
  ·rw [u8_digit h0 (by omega), decF_small _ _ (by omega)]
  ·simp at hc; omega
 | succ k ih =>
  intro n h0 h1 hk
  have hb : n ≤ 1000000000000000000 := by
   have h2 : (10 : Nat) ^ (k + 1 + 1) ≤ 10 ^ 18 := Nat.pow_le_pow_right (by omega) (by omega)
   have h3 : ((10 ^ (k + 1 + 1) : Nat) : Int) ≤ ((10 ^ 18 : Nat) : Int) := by exact_mod_cast h2
   simp only [Int.natCast_pow] at h3
   have h4 : n < ((10 : Nat) : Int) ^ (k + 1 + 1) := h1
   have : (((10 : Nat) : Int) ^ 18) = 1000000000000000000 := by decide
   omega
  have hd : n / 10 < 10 ^ (k + 1) := by
   have : (10 : Int) ^ (k + 1 + 1) = 10 ^ (k + 1) * 10 := Int.pow_succ ..
   omega
  have hq := quo64 (n := n) (k := 10) h0 (by omega) (by omega)
  have hr := rem_pos (n := n) (k := 10) h0
  have hl := decF_len k (n / 10).toNat
  have hm : 0 ≤ n % 10 ∧ n % 10 < 10 := by omega
  have hg := u8_digit hm.1 hm.2
  clear h1
  refine Fun.of T [.tmp 2] Tryz.func147 rfl Tryz.ntmps147 Tryz.results147 rfl (by kernel_rfl) ?_
  repeat' first | refine dr (id := 3) T 9 (by kernel_rfl) ?_ | refine gn ?_ | apply VCg.step T rfl rfl; focus ((try simp (disch := omega) only [go_sem, Nat.reduceBEq, Nat.reduceMul, Nat.reduceLeDiff, hq, hr, hg]); (first | exact rfl | refine ⟨?_, rfl⟩; try omega | refine Op1.callp rfl rfl (ih _ (by omega) (by omega) (by omega)) rfl ?_; exact ⟨rfl, rfl⟩)) | refine vs T rfl fun K hK => ?_; (try simp (disch := omega) only [go_sem, Nat.reduceBEq, Nat.reduceMul, Nat.reduceLeDiff]); (first | refine hK _ _ ?_; clear hK K | refine ⟨?_, hK _ _ ?_⟩ <;> clear hK K) | refine st rfl ?_ | refine sc rfl ?_ | refine nl ?_ | refine ret1 T (List.nil_sublist _) ?_; (try simp only [upd, Nat.reduceBEq, cond_true, cond_false, and_true]) | with_reducible refine gsplit_intro (fun hc => ?_) (fun hc => ?_)
  ·have hn : n < 10 := by simpa using hc
   rw [u8_digit h0 hn, decF_small _ _ (by omega)]
  ·simp [ByteArray.size]; omega
  ·have hn : ¬ n < 10 := by simpa using hc
   rw [show (⟨#[UInt8.ofNat (48 + (n % 10).toNat)]⟩ : ByteArray) = ⟨[UInt8.ofNat (48 + (n % 10).toNat)].toArray⟩ from rfl, bytes_append, decF_step _ _ (by omega)]
   rw [show (n / 10).toNat = n.toNat / 10 by omega, show (n % 10).toNat = n.toNat % 10 by omega]
theorem decimal29_ok (n : Int) (h : 0 ≤ n ∧ n < 1000000) : Pure Tryz.prog 147 [iD n] (sD (dec6 n)) := decimalS_ok 5 n h.1 (by omega) (by omega)
def tx (l : By) : ByteArray := ⟨l.toArray⟩
theorem tx_app (a b : By) : tx (a ++ b) = tx a ++ tx b := (bytes_append a b).symm
theorem tx_size (a : By) : (tx a).size = a.length := by simp [tx, ByteArray.size]
theorem dec6_tx (n : Int) : dec6 n = tx (numT n) := rfl
theorem numT_len (n : Int) : (numT n).length ≤ 6 := decF_len 5 n.toNat
theorem rowT_le : ∀ l : List Int, (rowT l).length ≤ 7 * l.length
 | [] => Nat.le_refl _
 | n :: l => by have h1 := rowT_le l; have h2 := numT_len n; simp only [rowT, List.length_cons, List.length_append]; omega
theorem entT_le : ∀ l : List En, (entT l).length ≤ 14 * l.length
 | [] => Nat.le_refl _
 | e :: l => by have h1 := entT_le l; have h2 := numT_len e.1; have h3 := numT_len e.2; simp only [entT, List.length_cons, List.length_append]; omega
theorem take_getD {α : Type} {l : List α} {k : Nat} (d : α) (h : k < l.length) : l.take (k + 1) = l.take k ++ [l.getD k d] := by
 rw [List.take_add_one, getD_at (d := d) h]; rfl
theorem rowT_take {l : List Int} {k : Nat} (h : k < l.length) : rowT (l.take (k + 1)) = rowT (l.take k) ++ (32 :: numT (l.getD k 0)) := by
 rw [take_getD 0 h, rowT_app]; simp [rowT]
theorem entT_take {l : List En} {k : Nat} (h : k < l.length) : entT (l.take (k + 1)) = entT (l.take k) ++ (32 :: (numT (l.getD k (0, 0)).1 ++ 61 :: numT (l.getD k (0, 0)).2)) := by
 rw [take_getD (0, 0) h, entT_app]; simp [entT]
theorem thrsT_len (c : Cf) (hO : OkC c) : ∀ k, (thrsT c k).length ≤ 22000 * k
 | 0 => Nat.le_refl _
 | k + 1 => by
  have h1 := thrsT_len c hO k
  have h2 := rowT_le (c.regs.getD k [])
  have h3 := entT_le (c.bufs.getD k [])
  have h4 := row_le hO.row k
  have h5 := row_le hO.buf k
  have h6 := numT_len (k : Nat)
  have h7 := numT_len (c.pc.getD k 0)
  simp only [thrsT, thrT, List.length_append, List.length_cons, List.length_nil]
  omega
theorem tx32 (a b : By) : tx (a ++ 32 :: b) = tx a ++ (⟨#[32]⟩ ++ tx b) := by rw [show a ++ 32 :: b = a ++ ([32] ++ b) from rfl, tx_app, tx_app]; rfl
theorem okN_at {l : List Int} {k : Nat} (h : l.all okN = true) (hk : k < l.length) : inN (l.getD k 0) := okN_iff.1 (all_getD.1 h k hk)
theorem row29_ok (l : List Int) (hl : l.length ≤ 1000) (ha : l.all okN = true) : Pure Tryz.prog 148 [ints l] (sD (tx (rowT l))) := by
 refine Fun.of T [.tmp 2] Tryz.func148 rfl Tryz.ntmps148 Tryz.results148 rfl (by kernel_rfl) ?_
 repeat' first | refine vs T rfl fun K hK => ?_; (try simp (disch := omega) only [go_sem, Nat.reduceBEq, iRs_len]); (refine hK _ _ ?_; clear hK K) | refine st rfl ?_ | refine nl ?_
 refine VC.loop {k : Nat // k ≤ l.length} (fun p => ⟨lookD [(3, sD (tx (rowT (l.take p.1)))), (6, ints l), (7, iD (l.length : Nat)), (8, iD (p.1 : Nat))], []⟩) (fun p => l.length - p.1) ⟨0, by omega⟩ ?_ ?_
 ·refine Weak_subEq rfl ?_
  simp [sub, upd, rowT, tx]
 rintro ⟨k, hk⟩
 have s1 := rowT_le (l.take k)
 have s2 := dec6_size (l.getD k 0)
 have z2 : (#[32] : Array UInt8).size = 1 := rfl
 rw [List.length_take] at s1
 dsimp only at hk ⊢
 rcases Nat.lt_or_ge k l.length with hlt | hge
 ·have hn := okN_at ha hlt
  unfold inN at hn
  have c1 := decimal29_ok (l.getD k 0) (by omega)
  repeat' first | refine vs T rfl fun K hK => ?_; (try simp (disch := omega) only [go_sem, Nat.reduceBEq, ix_ints, Int.toNat_natCast, w64, tx_size]); (first | refine hK _ _ ?_; clear hK K | refine ⟨?_, hK _ _ ?_⟩ <;> clear hK K; focus (try omega) | refine Op1.callp rfl rfl (c1) rfl ?_; refine hK _ _ ?_; clear hK K) | refine st rfl ?_ | refine sc rfl ?_ | refine nl ?_ | with_reducible refine gsplit_intro (fun hc => ?_) (fun hc => ?_) <;> (try simp only [decide_eq_true_eq, decide_eq_false_iff_not, Int.not_lt] at hc) <;> (try (exfalso; omega))
  all_goals try (first | omega | (simp only [ByteArray.size_append, tx_size]; omega) | (simp only [ByteArray.size_append, tx_size, ByteArray.size]; omega))
  refine ⟨⟨k + 1, by omega⟩, Weak_subEq rfl ?_, by dsimp only; omega⟩
  simp [sub, upd, dec6_tx, rowT_take hlt, tx32, -List.getD_eq_getElem?_getD]
 ·obtain rfl : k = l.length := by omega
  repeat' first | refine vs T rfl fun K hK => ?_; (try simp (disch := omega) only [go_sem, Nat.reduceBEq]); (refine hK _ _ ?_; clear hK K) | refine st rfl ?_ | refine sc rfl ?_ | refine nl ?_ | refine ret1 T (List.nil_sublist _) ?_; (try simp only [upd, Nat.reduceBEq, cond_true, cond_false, and_true]) | with_reducible refine gsplit_intro (fun hc => ?_) (fun hc => ?_) <;> (try simp only [decide_eq_true_eq, decide_eq_false_iff_not, Int.not_lt] at hc) <;> (try (exfalso; omega))
  exact congrArg sD (by rw [List.take_length])
def hdT (c : Cf) (k : Nat) : By := thrsT c k ++ (116 :: (numT (k : Nat) ++ 58 :: (numT (c.pc.getD k 0) ++ rowT (c.regs.getD k []))))
theorem hdT_eq (c : Cf) (k : Nat) : tx (hdT c k) = tx (thrsT c k) ++ (⟨#[116]⟩ ++ dec6 (k : Nat) ++ ⟨#[58]⟩ ++ dec6 (c.pc.getD k 0) ++ tx (rowT (c.regs.getD k []))) := by
 rw [hdT, show (116 :: (numT (k : Nat) ++ 58 :: (numT (c.pc.getD k 0) ++ rowT (c.regs.getD k [])))) = ([116] ++ numT (k : Nat) ++ [58] ++ numT (c.pc.getD k 0) ++ rowT (c.regs.getD k [])) by simp]
 simp only [tx_app, dec6_tx]
 rfl
theorem hdT_le (c : Cf) (hO : OkC c) (k : Nat) : (hdT c k).length ≤ 22000 * k + 7014 := by
 have h1 := thrsT_len c hO k
 have h2 := rowT_le (c.regs.getD k [])
 have h4 := row_le hO.row k
 have h6 := numT_len (k : Nat)
 have h7 := numT_len (c.pc.getD k 0)
 simp only [hdT, List.length_append, List.length_cons]
 omega
theorem thrsT_hd (c : Cf) (k : Nat) : thrsT c (k + 1) = hdT c k ++ entT (c.bufs.getD k []) ++ [59, 32] := by
 simp [thrsT, thrT, hdT]
theorem thrsT_tx (c : Cf) (k : Nat) : tx (thrsT c (k + 1)) = tx (hdT c k ++ entT (c.bufs.getD k [])) ++ ⟨#[59, 32]⟩ := by rw [thrsT_hd, tx_app]; rfl
theorem showT_tx (c : Cf) : tx (showT c) = tx (thrsT c c.pc.length) ++ ⟨#[109, 58]⟩ ++ tx (rowT c.mem) := by
 rw [showT, show thrsT c c.pc.length ++ (109 :: 58 :: rowT c.mem) = thrsT c c.pc.length ++ [109, 58] ++ rowT c.mem by simp, tx_app, tx_app]
 rfl
theorem tx_ent (s : By) (x y : Int) : tx (s ++ (32 :: (numT x ++ 61 :: numT y))) = tx s ++ (⟨#[32]⟩ ++ dec6 x ++ ⟨#[61]⟩ ++ dec6 y) := by
 rw [show s ++ (32 :: (numT x ++ 61 :: numT y)) = s ++ (([32] ++ numT x ++ [61]) ++ numT y) by simp]
 simp only [tx_app, dec6_tx]
 rfl
theorem show29_ok (c : Cf) (hO : OkC c) : Pure Tryz.prog 106 [.agg (cfC c)] (sD (tx (showF c))) := by
 have g1 := hO.pc
 have g2 := hO.mem
 have g3 := hO.regs
 have g4 := hO.bufs
 have cr := right29_ok c hO
 refine Fun.of T [.tmp 2] Tryz.func106 rfl Tryz.ntmps106 Tryz.results106 rfl (by kernel_rfl) ?_
 cases hR : rightS c with
 | false =>
  rw [hR] at cr
  rw [show showF c = [] by simp [showF, hR]]
  repeat' first | refine vb (t := 43) rfl rfl rfl rfl ?_ | refine vs T rfl fun K hK => ?_; (try simp (disch := omega) only [go_sem, Nat.reduceBEq, Nat.reduceAdd, Nat.reduceLeDiff, Bool.not_false]); (first | refine hK _ _ ?_; clear hK K | refine Op1.callp rfl rfl (cr) rfl ?_; refine hK _ _ ?_; clear hK K) | refine st rfl ?_ | refine sc rfl ?_ | refine nl ?_ | exact ret1 T (List.nil_sublist _) ⟨rfl, rfl⟩
 | true =>
 rw [hR] at cr
 rw [show showF c = showT c by simp [showF, hR]]
 obtain ⟨r1, r2, r3, r4, r5, r6, r7⟩ := rightS_iff.1 hR
 repeat' first | refine vb (t := 43) rfl rfl rfl rfl ?_ | refine vs T rfl fun K hK => ?_; (try simp (disch := omega) only [go_sem, Nat.reduceBEq, Nat.reduceAdd, Nat.reduceLeDiff, Bool.not_true, iRs_len]); (first | refine hK _ _ ?_; clear hK K | refine Op1.callp rfl rfl (cr) rfl ?_; refine hK _ _ ?_; clear hK K) | refine st rfl ?_ | refine sc rfl ?_ | refine nl ?_
 refine VC.loop {k : Nat // k ≤ c.pc.length} (fun p => ⟨lookD [(1, .pt (cfC c)), (3, sD (tx (thrsT c p.1))), (12, ints c.pc), (13, iD (c.pc.length : Nat)), (14, iD (p.1 : Nat))], []⟩) (fun p => c.pc.length - p.1) ⟨0, by omega⟩ ?_ ?_
 ·refine Weak_subEq rfl ?_
  simp [sub, upd, thrsT, tx]
 rintro ⟨k, hk⟩
 dsimp only at hk ⊢
 have s1 := thrsT_len c hO k
 have s2 := dec6_size (k : Nat)
 have s3 := dec6_size (c.pc.getD k 0)
 have s4 := rowT_le (c.regs.getD k [])
 have s5 := row_le hO.row k
 have s6 := row_le hO.buf k
 have z1 : (#[116] : Array UInt8).size = 1 := rfl
 have z2 : (#[58] : Array UInt8).size = 1 := rfl
 rcases Nat.lt_or_ge k c.pc.length with hlt | hge
 case inr =>
  obtain rfl : k = c.pc.length := by omega
  have c1 := row29_ok c.mem (by omega) r5
  have s7 := rowT_le c.mem
  have z3 : (#[109, 58] : Array UInt8).size = 2 := rfl
  repeat' first | refine vs T rfl fun K hK => ?_; (try simp (disch := omega) only [go_sem, Nat.reduceBEq, tx_size]); (first | refine hK _ _ ?_; clear hK K | refine ⟨?_, hK _ _ ?_⟩ <;> clear hK K; focus (try omega) | refine Op1.callp rfl rfl (c1) rfl ?_; refine hK _ _ ?_; clear hK K) | refine st rfl ?_ | refine sc rfl ?_ | refine nl ?_ | refine ret1 T (List.nil_sublist _) ?_; (try simp only [upd, Nat.reduceBEq, cond_true, cond_false, and_true]) | with_reducible refine gsplit_intro (fun hc => ?_) (fun hc => ?_) <;> (try simp only [decide_eq_true_eq, decide_eq_false_iff_not, Int.not_lt] at hc) <;> (try (exfalso; omega))
  all_goals try (first | omega | (simp only [ByteArray.size_append, tx_size]; omega) | (simp only [ByteArray.size_append, tx_size, ByteArray.size]; omega))
  exact congrArg sD (showT_tx c).symm
 have hn := okN_at r4 hlt
 unfold inN at hn
 have c1 := decimal29_ok (k : Nat) (by omega)
 have c2 := decimal29_ok (c.pc.getD k 0) (by omega)
 have c3 := row29_ok (c.regs.getD k []) (by omega) (r6 k (by omega))
 repeat' first | refine dr (id := 7) T 15 (by kernel_rfl) ?_ | refine gn ?_ | apply VCg.step T rfl rfl; focus ((try simp (disch := omega) only [go_sem, Nat.reduceBEq, ix_rows, Int.toNat_natCast, tx_size]); (first | exact rfl | refine ⟨?_, rfl⟩; try omega | refine Op1.callp rfl rfl (c1) rfl ?_; exact ⟨rfl, rfl⟩ | refine Op1.callp rfl rfl (c2) rfl ?_; exact ⟨rfl, rfl⟩ | refine Op1.callp rfl rfl (c3) rfl ?_; exact ⟨rfl, rfl⟩)) | refine vs T rfl fun K hK => ?_; (try simp (disch := omega) only [go_sem, Nat.reduceBEq, ix_ints, ix_bufs, eRs_len, Int.toNat_natCast, tx_size]); (first | refine hK _ _ ?_; clear hK K | refine ⟨?_, hK _ _ ?_⟩ <;> clear hK K; focus (try omega)) | refine st rfl ?_ | refine sc rfl ?_ | refine nl ?_ | with_reducible refine gsplit_intro (fun hc => ?_) (fun hc => ?_) <;> (try simp only [decide_eq_true_eq, decide_eq_false_iff_not, Int.not_lt] at hc) <;> (try (exfalso; omega))
 all_goals try (first | omega | (simp only [ByteArray.size_append, tx_size]; omega) | (simp only [ByteArray.size_append, tx_size, ByteArray.size]; omega))
 clear c1 c2 c3
 have s7 := hdT_le c hO k
 refine VC.loop {j : Nat // j ≤ (c.bufs.getD k []).length} (fun p => ⟨lookD [(1, .pt (cfC c)), (3, sD (tx (hdT c k ++ entT ((c.bufs.getD k []).take p.1)))), (12, ints c.pc), (13, iD (c.pc.length : Nat)), (14, iD (k : Nat)), (39, buf (c.bufs.getD k [])), (40, iD ((c.bufs.getD k []).length : Nat)), (41, iD (p.1 : Nat))], []⟩) (fun p => (c.bufs.getD k []).length - p.1) ⟨0, by omega⟩ ?_ ?_
 ·refine Weak_subEq rfl ?_
  simp [sub, upd, entT, hdT_eq, -List.getD_eq_getElem?_getD]
 rintro ⟨j, hj⟩
 dsimp only at hj ⊢
 have s8 := entT_le ((c.bufs.getD k []).take j)
 rw [List.length_take] at s8
 have s9 := dec6_size ((c.bufs.getD k []).getD j (0, 0)).1
 have s10 := dec6_size ((c.bufs.getD k []).getD j (0, 0)).2
 have z4 : (#[32] : Array UInt8).size = 1 := rfl
 have z5 : (#[61] : Array UInt8).size = 1 := rfl
 have z6 : (#[59, 32] : Array UInt8).size = 2 := rfl
 rcases Nat.lt_or_ge j (c.bufs.getD k []).length with hjt | hge
 case inr =>
  obtain rfl : j = (c.bufs.getD k []).length := by omega
  repeat' first | refine vs T rfl fun K hK => ?_; (try simp (disch := omega) only [go_sem, Nat.reduceBEq, w64, tx_size]); (first | refine hK _ _ ?_; clear hK K | refine ⟨?_, hK _ _ ?_⟩ <;> clear hK K) | refine st rfl ?_ | refine sc rfl ?_ | refine nl ?_ | with_reducible refine gsplit_intro (fun hc => ?_) (fun hc => ?_) <;> (try simp only [decide_eq_true_eq, decide_eq_false_iff_not, Int.not_lt] at hc) <;> (try (exfalso; omega))
  all_goals try (first | omega | (simp only [tx_size, List.length_append, ByteArray.size]; omega))
  refine ⟨⟨k + 1, by omega⟩, Weak_subEq rfl ?_, by dsimp only; omega⟩
  simp [sub, upd, thrsT_tx, -List.getD_eq_getElem?_getD]
 have he := r7 k (by omega) j hjt
 simp only [entS, Bool.and_eq_true, okN_iff, inN] at he
 have c1 := decimal29_ok ((c.bufs.getD k []).getD j (0, 0)).1 (by omega)
 have c2 := decimal29_ok ((c.bufs.getD k []).getD j (0, 0)).2 (by omega)
 repeat' first | refine dr (id := 11) T 10 (by kernel_rfl) ?_ | refine gn ?_ | apply VCg.step T rfl rfl; focus ((try simp (disch := omega) only [go_sem, Nat.reduceBEq]); (first | exact rfl | refine ⟨?_, rfl⟩; try omega | refine Op1.callp rfl rfl (c1) rfl ?_; exact ⟨rfl, rfl⟩ | refine Op1.callp rfl rfl (c2) rfl ?_; exact ⟨rfl, rfl⟩)) | refine vs T rfl fun K hK => ?_; (try simp (disch := omega) only [go_sem, Nat.reduceBEq, Nat.reduceAdd, Nat.reduceLeDiff, ix_ens, eR, Int.toNat_natCast, w64, tx_size]); (first | refine hK _ _ ?_; clear hK K | intro bq hbq; (try simp only [HB] at hbq); refine hK _ _ ?_; clear hK K | refine ⟨?_, hK _ _ ?_⟩ <;> clear hK K; focus (try omega)) | refine st rfl ?_ | refine sc rfl ?_ | refine nl ?_ | with_reducible refine gsplit_intro (fun hc => ?_) (fun hc => ?_) <;> (try simp only [decide_eq_true_eq, decide_eq_false_iff_not, Int.not_lt] at hc) <;> (try (exfalso; omega))
 all_goals try (first | omega | (simp only [ByteArray.size_append, tx_size, List.length_append]; omega) | (simp only [ByteArray.size_append, tx_size, List.length_append, ByteArray.size]; omega))
 refine ⟨⟨j + 1, by omega⟩, Weak_subH rfl ?_, by dsimp only; omega⟩
 simp [sub, upd, entT_take hjt, ← List.append_assoc, tx_ent, -List.getD_eq_getElem?_getD]
def hd0 (c : Cf) (k : Nat) : By := thrsT c k ++ (116 :: (numT (k : Nat) ++ 58 :: numT (c.pc.getD k 0)))
theorem hdT_hd0 (c : Cf) (k : Nat) : hdT c k = hd0 c k ++ rowT (c.regs.getD k []) := by simp [hdT, hd0]
theorem hd0_tx (c : Cf) (k : Nat) : tx (hd0 c k) = tx (thrsT c k) ++ ⟨#[116]⟩ ++ dec6 (k : Nat) ++ ⟨#[58]⟩ ++ dec6 (c.pc.getD k 0) := by
 rw [hd0, show thrsT c k ++ (116 :: (numT (k : Nat) ++ 58 :: numT (c.pc.getD k 0))) = thrsT c k ++ [116] ++ numT (k : Nat) ++ [58] ++ numT (c.pc.getD k 0) by simp]
 simp only [tx_app, dec6_tx]
 rfl
theorem hd0_le (c : Cf) (hO : OkC c) (k : Nat) : (hd0 c k).length ≤ 22000 * k + 14 := by
 have h1 := thrsT_len c hO k
 have h6 := numT_len (k : Nat)
 have h7 := numT_len (c.pc.getD k 0)
 simp only [hd0, List.length_append, List.length_cons]
 omega
theorem tx_rowR (s : By) (n : Int) : tx (s ++ 32 :: numT n) = tx s ++ ⟨#[32]⟩ ++ dec6 n := by
 rw [show s ++ 32 :: numT n = s ++ [32] ++ numT n by simp]
 simp only [tx_app, dec6_tx]
 rfl
theorem tx_entR (s : By) (x y : Int) : tx (s ++ (32 :: (numT x ++ 61 :: numT y))) = tx s ++ ⟨#[32]⟩ ++ dec6 x ++ ⟨#[61]⟩ ++ dec6 y := by
 rw [show s ++ (32 :: (numT x ++ 61 :: numT y)) = s ++ [32] ++ numT x ++ [61] ++ numT y by simp]
 simp only [tx_app, dec6_tx]
 rfl
theorem showT_mem (c : Cf) : tx (thrsT c c.pc.length ++ [109, 58] ++ rowT c.mem) = tx (showT c) := by rw [showT]; simp
theorem tx_m (s : By) : tx (s ++ [109, 58]) = tx s ++ ⟨#[109, 58]⟩ := by rw [tx_app]; rfl
theorem rshow29_ok (c : Cf) (hO : OkC c) : Pure Tryz.prog 107 [.agg (cfC c)] (sD (tx (showF c))) := by
 have g1 := hO.pc
 have g2 := hO.mem
 have g3 := hO.regs
 have g4 := hO.bufs
 have cr := rright29_ok c hO
 refine Fun.of T [.tmp 2] Tryz.func107 rfl Tryz.ntmps107 Tryz.results107 rfl (by kernel_rfl) ?_
 cases hR : rightS c with
 | false =>
  rw [hR] at cr
  rw [show showF c = [] by simp [showF, hR]]
  repeat' first | refine vb (t := 43) rfl rfl rfl rfl ?_ | refine vs T rfl fun K hK => ?_; (try simp (disch := omega) only [go_sem, Nat.reduceBEq, Nat.reduceAdd, Nat.reduceLeDiff, Bool.not_false]); (first | refine hK _ _ ?_; clear hK K | refine Op1.callp rfl rfl (cr) rfl ?_; refine hK _ _ ?_; clear hK K) | refine st rfl ?_ | refine sc rfl ?_ | refine nl ?_ | exact ret1 T (List.nil_sublist _) ⟨rfl, rfl⟩
 | true =>
 rw [hR] at cr
 rw [show showF c = showT c by simp [showF, hR]]
 obtain ⟨r1, r2, r3, r4, r5, r6, r7⟩ := rightS_iff.1 hR
 repeat' first | refine vb (t := 43) rfl rfl rfl rfl ?_ | refine vs T rfl fun K hK => ?_; (try simp (disch := omega) only [go_sem, Nat.reduceBEq, Nat.reduceAdd, Nat.reduceLeDiff, Bool.not_true]); (first | refine hK _ _ ?_; clear hK K | refine Op1.callp rfl rfl (cr) rfl ?_; refine hK _ _ ?_; clear hK K) | refine st rfl ?_ | refine sc rfl ?_ | refine nl ?_
 clear cr
 have z1 : (#[116] : Array UInt8).size = 1 := rfl
 have z2 : (#[58] : Array UInt8).size = 1 := rfl
 have z3 : (#[109, 58] : Array UInt8).size = 2 := rfl
 have z4 : (#[32] : Array UInt8).size = 1 := rfl
 have z5 : (#[61] : Array UInt8).size = 1 := rfl
 have z6 : (#[59, 32] : Array UInt8).size = 2 := rfl
 refine VC.loop {k : Nat // k ≤ c.pc.length} (fun p => ⟨lookD [(1, .pt (cfC c)), (3, sD (tx (thrsT c p.1))), (4, iD (p.1 : Nat))], []⟩) (fun p => c.pc.length - p.1) ⟨0, by omega⟩ ?_ ?_
 ·refine Weak_subEq rfl ?_
  simp [sub, upd, thrsT, tx]
 rintro ⟨k, hk⟩
 dsimp only at hk ⊢
 have s1 := thrsT_len c hO k
 have s2 := dec6_size (k : Nat)
 have s3 := dec6_size (c.pc.getD k 0)
 have s5 := row_le hO.row k
 have s6 := row_le hO.buf k
 rcases Nat.lt_or_ge k c.pc.length with hlt | hge
 case inl =>
  have hn := okN_at r4 hlt
  unfold inN at hn
  have c1 := digits6_ok (k : Nat) (by omega)
  have c2 := digits6_ok (c.pc.getD k 0) (by omega)
  repeat' first | refine dr (id := 7) T 12 (by kernel_rfl) ?_ | refine gn ?_ | apply VCg.step T rfl rfl; focus ((try simp (disch := omega) only [go_sem, Nat.reduceBEq, ix_ints, Int.toNat_natCast, tx_size]); (first | exact rfl | refine ⟨?_, rfl⟩; try omega | refine Op1.callp rfl rfl (c1) rfl ?_; exact ⟨rfl, rfl⟩ | refine Op1.callp rfl rfl (c2) rfl ?_; exact ⟨rfl, rfl⟩)) | refine vs T rfl fun K hK => ?_; (try simp (disch := omega) only [go_sem, Nat.reduceBEq, iRs_len, tx_size]); (first | refine hK _ _ ?_; clear hK K | refine ⟨?_, hK _ _ ?_⟩ <;> clear hK K; focus (try omega)) | refine st rfl ?_ | refine sc rfl ?_ | refine nl ?_ | with_reducible refine gsplit_intro (fun hc => ?_) (fun hc => ?_) <;> (try simp only [decide_eq_true_eq, decide_eq_false_iff_not, Int.not_lt] at hc) <;> (try (exfalso; omega))
  all_goals try (first | omega | (simp only [ByteArray.size_append, tx_size, List.length_append, List.length_cons, List.length_nil]; omega) | (simp only [ByteArray.size_append, tx_size, List.length_append, List.length_cons, List.length_nil, ByteArray.size]; omega))
  clear c1 c2
  have s7 := hd0_le c hO k
  refine VC.loop {j : Nat // j ≤ (c.regs.getD k []).length} (fun p => ⟨lookD [(1, .pt (cfC c)), (3, sD (tx (hd0 c k ++ rowT ((c.regs.getD k []).take p.1)))), (4, iD (k : Nat)), (5, iD (p.1 : Nat))], []⟩) (fun p => (c.regs.getD k []).length - p.1) ⟨0, by omega⟩ ?_ ?_
  ·refine Weak_subEq rfl ?_
   simp [sub, upd, rowT, hd0_tx, -List.getD_eq_getElem?_getD]
  rintro ⟨j, hj⟩
  dsimp only at hj ⊢
  have s8 := rowT_le ((c.regs.getD k []).take j)
  rw [List.length_take] at s8
  rcases Nat.lt_or_ge j (c.regs.getD k []).length with hjt | hge
  case inl =>
   have hm := okN_at (r6 k (by omega)) hjt
   unfold inN at hm
   have c1 := digits6_ok ((c.regs.getD k []).getD j 0) (by omega)
   have s9 := dec6_size ((c.regs.getD k []).getD j 0)
   repeat' first | refine vs T rfl fun K hK => ?_; (try simp (disch := omega) only [go_sem, Nat.reduceBEq, ix_rows, ix_ints, iRs_len, Int.toNat_natCast, w64, tx_size]); (first | refine hK _ _ ?_; clear hK K | refine ⟨?_, hK _ _ ?_⟩ <;> clear hK K; focus (try omega) | refine Op1.callp rfl rfl (c1) rfl ?_; refine hK _ _ ?_; clear hK K) | refine st rfl ?_ | refine sc rfl ?_ | refine nl ?_ | with_reducible refine gsplit_intro (fun hc => ?_) (fun hc => ?_) <;> (try simp only [decide_eq_true_eq, decide_eq_false_iff_not, Int.not_lt] at hc) <;> (try (exfalso; omega))
   all_goals try (first | omega | (simp only [ByteArray.size_append, tx_size, List.length_append, List.length_cons, List.length_nil]; omega) | (simp only [ByteArray.size_append, tx_size, List.length_append, List.length_cons, List.length_nil, ByteArray.size]; omega))
   refine ⟨⟨j + 1, by omega⟩, Weak_subEq rfl ?_, by dsimp only; omega⟩
   simp [sub, upd, rowT_take hjt, ← List.append_assoc, tx_rowR, -List.getD_eq_getElem?_getD]
  obtain rfl : j = (c.regs.getD k []).length := by omega
  repeat' first | refine vs T rfl fun K hK => ?_; (try simp (disch := omega) only [go_sem, Nat.reduceBEq, ix_rows, iRs_len, Int.toNat_natCast]); (first | refine hK _ _ ?_; clear hK K | refine ⟨?_, hK _ _ ?_⟩ <;> clear hK K; focus (try omega)) | refine st rfl ?_ | refine sc rfl ?_ | refine nl ?_ | with_reducible refine gsplit_intro (fun hc => ?_) (fun hc => ?_) <;> (try simp only [decide_eq_true_eq, decide_eq_false_iff_not, Int.not_lt] at hc) <;> (try (exfalso; omega))
  clear s7 s8
  have s7 := hdT_le c hO k
  refine VC.loop {j : Nat // j ≤ (c.bufs.getD k []).length} (fun p => ⟨lookD [(1, .pt (cfC c)), (3, sD (tx (hdT c k ++ entT ((c.bufs.getD k []).take p.1)))), (4, iD (k : Nat)), (6, iD (p.1 : Nat))], []⟩) (fun p => (c.bufs.getD k []).length - p.1) ⟨0, by omega⟩ ?_ ?_
  ·refine Weak_subEq rfl ?_
   simp [sub, upd, entT, hdT_hd0, -List.getD_eq_getElem?_getD]
  rintro ⟨j, hj⟩
  dsimp only at hj ⊢
  have s8 := entT_le ((c.bufs.getD k []).take j)
  rw [List.length_take] at s8
  have s9 := dec6_size ((c.bufs.getD k []).getD j (0, 0)).1
  have s10 := dec6_size ((c.bufs.getD k []).getD j (0, 0)).2
  rcases Nat.lt_or_ge j (c.bufs.getD k []).length with hjt | hge
  case inl =>
   have he := r7 k (by omega) j hjt
   simp only [entS, Bool.and_eq_true, okN_iff, inN] at he
   have c1 := digits6_ok ((c.bufs.getD k []).getD j (0, 0)).1 (by omega)
   have c2 := digits6_ok ((c.bufs.getD k []).getD j (0, 0)).2 (by omega)
   repeat' first | refine dr (id := 15) T 24 (by kernel_rfl) ?_ | refine gn ?_ | apply VCg.step T rfl rfl; focus ((try simp (disch := omega) only [go_sem, Nat.reduceBEq, ix_bufs, ix_ens, eR, Int.toNat_natCast, tx_size]); (first | exact rfl | refine ⟨?_, rfl⟩; try omega | refine Op1.callp rfl rfl (c1) rfl ?_; exact ⟨rfl, rfl⟩ | refine Op1.callp rfl rfl (c2) rfl ?_; exact ⟨rfl, rfl⟩)) | refine vs T rfl fun K hK => ?_; (try simp (disch := omega) only [go_sem, Nat.reduceBEq, ix_bufs, eRs_len, Int.toNat_natCast, w64, tx_size]); (first | refine hK _ _ ?_; clear hK K | refine ⟨?_, hK _ _ ?_⟩ <;> clear hK K; focus (try omega)) | refine st rfl ?_ | refine sc rfl ?_ | refine nl ?_ | with_reducible refine gsplit_intro (fun hc => ?_) (fun hc => ?_) <;> (try simp only [decide_eq_true_eq, decide_eq_false_iff_not, Int.not_lt] at hc) <;> (try (exfalso; omega))
   all_goals try (first | omega | (simp only [ByteArray.size_append, tx_size, List.length_append, List.length_cons, List.length_nil]; omega) | (simp only [ByteArray.size_append, tx_size, List.length_append, List.length_cons, List.length_nil, ByteArray.size]; omega))
   refine ⟨⟨j + 1, by omega⟩, Weak_subEq rfl ?_, by dsimp only; omega⟩
   simp [sub, upd, entT_take hjt, ← List.append_assoc, tx_entR, -List.getD_eq_getElem?_getD]
  obtain rfl : j = (c.bufs.getD k []).length := by omega
  repeat' first | refine vs T rfl fun K hK => ?_; (try simp (disch := omega) only [go_sem, Nat.reduceBEq, ix_bufs, eRs_len, Int.toNat_natCast, w64, tx_size]); (first | refine hK _ _ ?_; clear hK K | refine ⟨?_, hK _ _ ?_⟩ <;> clear hK K; focus (try omega)) | refine st rfl ?_ | refine sc rfl ?_ | refine nl ?_ | with_reducible refine gsplit_intro (fun hc => ?_) (fun hc => ?_) <;> (try simp only [decide_eq_true_eq, decide_eq_false_iff_not, Int.not_lt] at hc) <;> (try (exfalso; omega))
  all_goals try (first | omega | (simp only [ByteArray.size_append, tx_size, List.length_append, List.length_cons, List.length_nil]; omega) | (simp only [ByteArray.size_append, tx_size, List.length_append, List.length_cons, List.length_nil, ByteArray.size]; omega))
  refine ⟨⟨k + 1, by omega⟩, Weak_subEq rfl ?_, by dsimp only; omega⟩
  simp [sub, upd, thrsT_tx, -List.getD_eq_getElem?_getD]
 obtain rfl : k = c.pc.length := by omega
 repeat' first | refine vs T rfl fun K hK => ?_; (try simp (disch := omega) only [go_sem, Nat.reduceBEq, iRs_len, tx_size]); (first | refine hK _ _ ?_; clear hK K | refine ⟨?_, hK _ _ ?_⟩ <;> clear hK K; focus (try omega)) | refine st rfl ?_ | refine sc rfl ?_ | refine nl ?_ | with_reducible refine gsplit_intro (fun hc => ?_) (fun hc => ?_) <;> (try simp only [decide_eq_true_eq, decide_eq_false_iff_not, Int.not_lt] at hc) <;> (try (exfalso; omega))
 all_goals try (first | omega | (simp only [ByteArray.size_append, tx_size, List.length_append, List.length_cons, List.length_nil]; omega) | (simp only [ByteArray.size_append, tx_size, List.length_append, List.length_cons, List.length_nil, ByteArray.size]; omega))
 refine VC.loop {j : Nat // j ≤ c.mem.length} (fun p => ⟨lookD [(1, .pt (cfC c)), (3, sD (tx (thrsT c c.pc.length ++ [109, 58] ++ rowT (c.mem.take p.1)))), (7, iD (p.1 : Nat))], []⟩) (fun p => c.mem.length - p.1) ⟨0, by omega⟩ ?_ ?_
 ·refine Weak_subEq rfl ?_
  simp [sub, upd, rowT, tx_m, -List.getD_eq_getElem?_getD]
 rintro ⟨j, hj⟩
 dsimp only at hj ⊢
 have s8 := rowT_le (c.mem.take j)
 rw [List.length_take] at s8
 rcases Nat.lt_or_ge j c.mem.length with hjt | hge
 case inl =>
  have hm := okN_at r5 hjt
  unfold inN at hm
  have c1 := digits6_ok (c.mem.getD j 0) (by omega)
  have s9 := dec6_size (c.mem.getD j 0)
  repeat' first | refine vs T rfl fun K hK => ?_; (try simp (disch := omega) only [go_sem, Nat.reduceBEq, ix_ints, iRs_len, Int.toNat_natCast, w64, tx_size]); (first | refine hK _ _ ?_; clear hK K | refine ⟨?_, hK _ _ ?_⟩ <;> clear hK K; focus (try omega) | refine Op1.callp rfl rfl (c1) rfl ?_; refine hK _ _ ?_; clear hK K) | refine st rfl ?_ | refine sc rfl ?_ | refine nl ?_ | with_reducible refine gsplit_intro (fun hc => ?_) (fun hc => ?_) <;> (try simp only [decide_eq_true_eq, decide_eq_false_iff_not, Int.not_lt] at hc) <;> (try (exfalso; omega))
  all_goals try (first | omega | (simp only [ByteArray.size_append, tx_size, List.length_append, List.length_cons, List.length_nil]; omega) | (simp only [ByteArray.size_append, tx_size, List.length_append, List.length_cons, List.length_nil, ByteArray.size]; omega))
  refine ⟨⟨j + 1, by omega⟩, Weak_subEq rfl ?_, by dsimp only; omega⟩
  rw [rowT_take hjt, ← List.append_assoc, tx_rowR]
  simp [sub, upd, -List.getD_eq_getElem?_getD, -List.append_assoc]
 obtain rfl : j = c.mem.length := by omega
 repeat' first | refine vs T rfl fun K hK => ?_; (try simp (disch := omega) only [go_sem, Nat.reduceBEq, iRs_len]); (refine hK _ _ ?_; clear hK K) | refine st rfl ?_ | refine sc rfl ?_ | refine nl ?_ | refine ret1 T (List.nil_sublist _) ?_; (try simp only [upd, Nat.reduceBEq, cond_true, cond_false, and_true]) | with_reducible refine gsplit_intro (fun hc => ?_) (fun hc => ?_) <;> (try simp only [decide_eq_true_eq, decide_eq_false_iff_not, Int.not_lt] at hc) <;> (try (exfalso; omega))
 exact congrArg sD (by rw [List.take_length]; exact showT_mem c)
end Go.Proofs.YtomcmfbpmkklmaaGreat
