/- Contracts: the reference's edges. No condition. -/
import Derived.Test.YtomcmfbpmkklmaaGreatDb
import Derived.Test.YtomcmfbpmkklmaaGreatWb
namespace Go.Proofs.YtomcmfbpmkklmaaGreat
set_option maxHeartbeats 16000000
set_option linter.unusedSimpArgs false
set_option linter.unusedVariables false
set_option maxRecDepth 20000
open Go Go.Proofs Go.Vc
attribute [local irreducible] retQ VCg VCw VCx
theorem nodes14_ok (g : Cs) (hg : OkG g) : Pure Tryz.prog 28 [.agg (csC g)] (iD (nodesG g : Nat)) := by
 have h1 := hg.st
 have c1 := right14_ok g hg
 unfold nodesG
 refine Fun.of T [.tmp 2] Tryz.func28 rfl Tryz.ntmps28 Tryz.results28 rfl (by kernel_rfl) ?_
 cases hR : rightG g with
 | false =>
  rw [hR] at c1
  repeat' first | refine vb (t := 32) rfl rfl rfl rfl ?_ | refine vs T rfl fun K hK => ?_; (try simp (disch := omega) only [go_sem, Nat.reduceBEq, Nat.reduceAdd, Nat.reduceLeDiff, Bool.not_false]); (first | refine hK _ _ ?_; clear hK K | refine Op1.callp rfl rfl (c1) rfl ?_; refine hK _ _ ?_; clear hK K) | refine st rfl ?_ | refine sc rfl ?_ | refine nl ?_ | exact ret1 T (List.nil_sublist _) ⟨rfl, rfl⟩
 | true =>
  rw [hR] at c1
  have := (rightG_iff.1 hR).one
  have hw : IntKind.i64.wrap ((g.st.length : Int) - 1) = ((g.st.length - 1 : Nat) : Int) := by rw [w64 (by omega)]; omega
  repeat' first | refine vb (t := 32) rfl rfl rfl rfl ?_ | refine vs T rfl fun K hK => ?_; (try simp (disch := omega) only [go_sem, Nat.reduceBEq, Nat.reduceAdd, Nat.reduceLeDiff, Bool.not_true, iRs_len, hw]); (first | refine hK _ _ ?_; clear hK K | refine Op1.callp rfl rfl (c1) rfl ?_; refine hK _ _ ?_; clear hK K) | refine st rfl ?_ | refine sc rfl ?_ | refine nl ?_ | exact ret1 T (List.nil_sublist _) ⟨rfl, rfl⟩
def lightG (g : Cs) : Bool := Nat.ble g.st.length 80 && (Nat.ble g.to.length 400 && Nat.ble g.ag.length 400)
theorem light14_ok (g : Cs) : Pure Tryz.prog 23 [.agg (csC g)] (bD (lightG g)) := by
 refine Fun.of T [.tmp 2] Tryz.func23 rfl Tryz.ntmps23 Tryz.results23 rfl (by kernel_rfl) ?_
 repeat' first | refine vb (t := 32) rfl rfl rfl rfl ?_ | refine vs T rfl fun K hK => ?_; (try simp (disch := omega) only [go_sem, Nat.reduceBEq, iRs_len]); (refine hK _ _ ?_; clear hK K) | refine st rfl ?_ | refine nl ?_ | refine gs rfl rfl ?_ | refine ret1 T (List.nil_sublist _) ?_; (try simp only [upd, Nat.reduceBEq, cond_true, cond_false, and_true]) | with_reducible refine gsplit_intro (fun hc => ?_) (fun hc => ?_) <;> (try simp only [decide_eq_true_eq, decide_eq_false_iff_not, Int.not_le] at hc)
 all_goals (simp only [lightG, D.is.injEq, Value.bool.injEq]; rw [Bool.eq_iff_iff]; simp only [Bool.and_eq_true, Nat.ble_eq, decide_eq_true_eq, Bool.false_eq_true, false_iff]; omega)
def isB (l : List Bool) (i : Int) : Bool := decide (i < l.length) && l.getD i.toNat false
theorem is14_ok (l : List Bool) (i : Int) (h0 : 0 ≤ i) : Pure Tryz.prog 72 [bools l, iD i] (bD (isB l i)) := by
 refine Fun.of T [.tmp 4] Tryz.func72 rfl Tryz.ntmps72 Tryz.results72 rfl (by kernel_rfl) ?_
 repeat' first | refine vs T rfl fun K hK => ?_; (try simp (disch := omega) only [go_sem, Nat.reduceBEq, ix_bools, bRs_len]); (first | refine hK _ _ ?_; clear hK K | refine ⟨?_, hK _ _ ?_⟩ <;> clear hK K; focus (try omega)) | refine st rfl ?_ | refine nl ?_ | refine gs rfl rfl ?_ | refine ret1 T (List.nil_sublist _) ?_; (try simp only [upd, Nat.reduceBEq, cond_true, cond_false, and_true]) | with_reducible refine gsplit_intro (fun hc => ?_) (fun hc => ?_) <;> (try simp only [decide_eq_true_eq, decide_eq_false_iff_not, Int.not_lt] at hc)
 ·simp only [isB, decide_eq_true hc, Bool.true_and]
 ·simp only [isB, decide_eq_false (Int.not_lt.2 hc), Bool.false_and]
theorem all14_ok (g : Cs) (hg : OkG g) : Pure Tryz.prog 31 [.agg (csC g)] (edsD (allG g)) := by
 have h1 := hg.st
 have h2 := hg.ag
 have h3 := hg.to
 have c1 := right14_ok g hg
 refine Fun.freeze (edRs_row _) ?_
 refine Fun.of T [.tmp 2] Tryz.func31 rfl Tryz.ntmps31 Tryz.results31 rfl (by kernel_rfl) ?_
 cases hR : rightG g with
 | false =>
  have : allG g = [] := by simp [allG, nodesG, hR, upG]
  rw [this]
  rw [hR] at c1
  repeat' first | refine vb (t := 32) rfl rfl rfl rfl ?_ | refine vs T rfl fun K hK => ?_; (try simp (disch := omega) only [go_sem, Nat.reduceBEq, Nat.reduceAdd, Nat.reduceLeDiff, Bool.not_false]); (first | refine hK _ _ ?_; clear hK K | refine Op1.callp rfl rfl (c1) rfl ?_; refine hK _ _ ?_; clear hK K) | refine st rfl ?_ | refine sc rfl ?_ | refine nl ?_
  exact ret1 T (List.nil_sublist _) ⟨none, 0, rfl, rfl⟩
 | true =>
  have hn : allG g = upG g (g.st.length - 1) := by simp [allG, nodesG, hR]
  rw [hn]
  rw [hR] at c1
  have gr := rightG_iff.1 hR
  have b4 := gr.ag
  have b5 := gr.one
  repeat' first | refine vb (t := 32) rfl rfl rfl rfl ?_ | refine vs T rfl fun K hK => ?_; (try simp (disch := omega) only [go_sem, Nat.reduceBEq, Nat.reduceAdd, Nat.reduceLeDiff, Bool.not_true]); (first | refine hK _ _ ?_; clear hK K | refine Op1.callp rfl rfl (c1) rfl ?_; refine hK _ _ ?_; clear hK K) | refine st rfl ?_ | refine sc rfl ?_ | refine nl ?_
  refine VC.loop {p : Nat × Option (Nat × Nat) // p.1 ≤ g.st.length - 1} (fun p => ⟨lookD [(1, .pt (csC g)), (3, .gs p.1.2 (upG g p.1.1).length), (4, iD (p.1.1 : Nat))], shp p.1.2 62 3 (edRs (upG g p.1.1)).flatten []⟩) (fun p => g.st.length - p.1.1) ⟨(0, none), Nat.zero_le _⟩ ?_ ?_
  ·refine Weak_subEq rfl ?_
   simp [sub, upd, upG]
  rintro ⟨⟨i, a⟩, hi⟩
  dsimp only at hi ⊢
  have b1 := gr.bnd hi
  have b6 := gr.upl hi
  repeat' first | refine vs T rfl fun K hK => ?_; (try simp (disch := omega) only [go_sem, Nat.reduceBEq, ix_ints, w64, Int.toNat_natCast, iRs_len]); (first | refine hK _ _ ?_; clear hK K | refine ⟨?_, hK _ _ ?_⟩ <;> clear hK K; focus (try omega)) | refine st rfl ?_ | refine sc rfl ?_ | refine nl ?_ | with_reducible refine gsplit_intro (fun hc => ?_) (fun hc => ?_) <;> (try simp only [decide_eq_true_eq, decide_eq_false_iff_not, Int.not_lt] at hc)
  ·have b2 := gr.bnd (i := i + 1) (by omega)
   have b3 := gr.up i (by omega)
   refine VC.loop {p : Nat × Option (Nat × Nat) // (g.st.getD i 0).toNat ≤ p.1 ∧ p.1 ≤ (g.st.getD (i + 1) 0).toNat} (fun p => ⟨lookD [(1, .pt (csC g)), (3, .gs p.1.2 (upG g i ++ rowK g i p.1.1).length), (4, iD (i : Nat)), (5, iD (p.1.1 : Nat))], shp p.1.2 62 3 (edRs (upG g i ++ rowK g i p.1.1)).flatten []⟩) (fun p => g.to.length - p.1.1) ⟨((g.st.getD i 0).toNat, a), by dsimp only; omega⟩ ?_ ?_
   ·refine Weak_subEq (by rw [rowK_0, List.append_nil]) ?_
    simp [sub, upd, rowK_0, -List.getD_eq_getElem?_getD]
    omega
   rintro ⟨⟨k, a⟩, hk1, hk2⟩
   dsimp only at hk1 hk2 ⊢
   have hl := rowK_len g i k
   have hl2 : (upG g i ++ rowK g i k).length = k := by rw [List.length_append, hl]; omega
   repeat' first | refine dr (id := 10) T 14 (by kernel_rfl) ?_ | refine gn ?_ | apply VCg.step T rfl rfl; focus ((try simp (disch := omega) only [go_sem, Nat.reduceBEq, Nat.reduceAdd, Nat.reduceMul, Nat.reduceLeDiff, ix_ints, Int.toNat_natCast]); (first | exact rfl | refine ⟨?_, rfl⟩; try omega)) | refine vs T rfl fun K hK => ?_; (try simp (disch := omega) only [go_sem, Nat.reduceBEq, ix_ints, w64, toNat1]); (first | refine hK _ _ ?_; clear hK K | refine ⟨_, _, _, _, (by repeat (exact Sp.here)), ?_, (by exact ⟨rfl, rfl⟩), ?_, fun g' hg' => hK _ _ ?_⟩ <;> clear hK K | refine ⟨?_, hK _ _ ?_⟩ <;> clear hK K; focus (try omega)) | refine st rfl ?_ | refine sc rfl ?_ | refine nl ?_ | with_reducible refine gsplit_intro (fun hc => ?_) (fun hc => ?_) <;> (try simp only [decide_eq_true_eq, decide_eq_false_iff_not, Int.not_lt] at hc)
   ·exact edF_len _
   ·omega
   ·refine ⟨⟨(k + 1, g'), by dsimp only; omega⟩, Weak_subEq ?_ ?_, by dsimp only; omega⟩
    ·dsimp only
     rw [rowK_succ hk1, ← List.append_assoc, edF_snoc]
     rfl
    ·simp [sub, upd, rowK_succ hk1]
     omega
   ·obtain rfl : k = (g.st.getD (i + 1) 0).toNat := by omega
    refine ⟨⟨(i + 1, a), by dsimp only; omega⟩, Weak_subEq ?_ ?_, by dsimp only; omega⟩
    ·dsimp only
     rw [upG_succ]; rfl
    ·simp [sub, upd, upG_succ, rowG]
  ·obtain rfl : i = g.st.length - 1 := by omega
   exact ret1 T (List.Sublist.refl _) ⟨a, 62, by rw [edRs_len]; rfl, rfl⟩
end Go.Proofs.YtomcmfbpmkklmaaGreat
