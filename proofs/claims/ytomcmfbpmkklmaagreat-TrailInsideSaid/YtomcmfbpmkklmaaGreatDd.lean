/- Contracts: the reference's edges. No condition. -/
import Derived.Test.YtomcmfbpmkklmaaGreatDb
import Derived.Test.YtomcmfbpmkklmaaGreatWb
namespace Go.Proofs.YtomcmfbpmkklmaaGreat
set_option maxHeartbeats 16000000
set_option linter.unusedSimpArgs false
set_option linter.unusedVariables false
set_option maxRecDepth 20000
open Go Go.Proofs Go.Vc
attribute [local irreducible] retQ VCg VCw VCx
theorem nodes14_ok (g : Cs) (hg : OkG g) : Pure Tryz.prog 28 [.agg (csC g)] (iD (nodesG g : Nat)) := by
 have h1 := hg.st
 have c1 := right14_ok g hg
 unfold nodesG
 refine Fun.of T [.tmp 2] Tryz.func28 rfl Tryz.ntmps28 Tryz.results28 rfl (by kernel_rfl) ?_
 cases hR : rightG g with
 | false =>
  rw [hR] at c1
  repeat' first | refine vb (t := 32) rfl rfl rfl rfl ?_ | refine vs T rfl fun K hK => ?_; (try simp (disch := omega) only [go_sem, Nat.reduceBEq, Nat.reduceAdd, Nat.reduceLeDiff, Bool.not_false]); (first | refine hK _ _ ?_; clear hK K | refine Op1.callp rfl rfl (c1) rfl ?_; refine hK _ _ ?_; clear hK K) | refine st rfl ?_ | refine sc rfl ?_ | refine nl ?_ | exact ret1 T (List.nil_sublist _) ⟨rfl, rfl⟩
 | true =>
  rw [hR] at c1
  have := (rightG_iff.1 hR).one
  have hw : IntKind.i64.wrap ((g.st.length : Int) - 1) = ((g.st.length - 1 : Nat) : Int) := by rw [w64 (by omega)]; omega
  repeat' first | refine vb (t := 32) rfl rfl rfl rfl ?_ | refine vs T rfl fun K hK => ?_; (try simp (disch := omega) only [go_sem, Nat.reduceBEq, Nat.reduceAdd, Nat.reduceLeDiff, Bool.not_true, iRs_len, hw]); (first | refine hK _ _ ?_; clear hK K | refine Op1.callp rfl rfl (c1) rfl ?_; refine hK _ _ ?_; clear hK K) | refine st rfl ?_ | refine sc rfl ?_ | refine nl ?_ | exact ret1 T (List.nil_sublist _) ⟨rfl, rfl⟩
theorem out14_ok (g : Cs) (hg : OkG g) (i : Int) : Pure Tryz.prog 51 [.agg (csC g), iD i] (edsD (outG g i)) := by
 have h1 := hg.st
 have h2 := hg.ag
 have h3 := hg.to
 have c1 := nodes14_ok g hg
 refine Fun.freeze (edRs_row _) ?_
 refine Fun.of T [.tmp 4] Tryz.func51 rfl Tryz.ntmps51 Tryz.results51 rfl (by kernel_rfl) ?_
 cases hd : decide (0 ≤ i) && decide (i < (nodesG g : Int)) with
 | false =>
  have : outG g i = [] := by simp [outG, hd]
  rw [this]
  simp only [Bool.and_eq_false_iff, decide_eq_false_iff_not] at hd
  repeat' first | refine vb (t := 32) rfl rfl rfl rfl ?_ | refine vs T rfl fun K hK => ?_; (try simp (disch := omega) only [go_sem, Nat.reduceBEq, Nat.reduceAdd, Nat.reduceLeDiff]); (first | refine hK _ _ ?_; clear hK K | refine Op1.callp rfl rfl (c1) rfl ?_; refine hK _ _ ?_; clear hK K) | refine st rfl ?_ | refine sc rfl ?_ | refine nl ?_ | refine gs rfl rfl ?_ | with_reducible refine gsplit_intro (fun hc => ?_) (fun hc => ?_) <;> (try simp only [decide_eq_true_eq, decide_eq_false_iff_not, ge_iff_le, Int.not_le, Int.not_lt] at hc) <;> (try (exfalso; omega))
  all_goals exact ret1 T (List.nil_sublist _) ⟨none, 0, rfl, rfl⟩
 | true =>
  have hO : outG g i = rowG g i.toNat := by simp only [outG, hd]
  rw [hO]
  simp only [Bool.and_eq_true, decide_eq_true_eq] at hd
  obtain ⟨i, rfl⟩ : ∃ n : Nat, i = (n : Int) := ⟨i.toNat, by omega⟩
  have hR : rightG g = true := by
   cases hR : rightG g with
   | true => rfl
   | false => simp [nodesG, hR] at hd; omega
  have hn : nodesG g = g.st.length - 1 := by simp [nodesG, hR]
  have gr := rightG_iff.1 hR
  have b1 := gr.bnd (i := i) (by omega)
  have b2 := gr.bnd (i := i + 1) (by omega)
  have b3 := gr.up i (by omega)
  have b4 := gr.ag
  have b5 := gr.one
  rw [hn] at hd c1
  rw [Int.toNat_natCast]
  repeat' first | refine vb (t := 32) rfl rfl rfl rfl ?_ | refine vs T rfl fun K hK => ?_; (try simp (disch := omega) only [go_sem, Nat.reduceBEq, Nat.reduceAdd, Nat.reduceLeDiff, ix_ints]); (first | refine hK _ _ ?_; clear hK K | refine ⟨?_, hK _ _ ?_⟩ <;> clear hK K; focus (try omega) | refine Op1.callp rfl rfl (c1) rfl ?_; refine hK _ _ ?_; clear hK K) | refine st rfl ?_ | refine sc rfl ?_ | refine nl ?_ | refine gs rfl rfl ?_ | with_reducible refine gsplit_intro (fun hc => ?_) (fun hc => ?_) <;> (try simp only [decide_eq_true_eq, decide_eq_false_iff_not, ge_iff_le, Int.not_le] at hc) <;> (try (exfalso; omega))
  refine VC.loop {p : Nat × Option (Nat × Nat) // (g.st.getD i 0).toNat ≤ p.1 ∧ p.1 ≤ (g.st.getD (i + 1) 0).toNat} (fun p => ⟨lookD [(1, iD (i : Nat)), (2, .pt (csC g)), (5, .gs p.1.2 (rowK g i p.1.1).length), (6, iD (p.1.1 : Nat))], shp p.1.2 62 3 (edRs (rowK g i p.1.1)).flatten []⟩) (fun p => g.to.length - p.1.1) ⟨((g.st.getD i 0).toNat, none), by dsimp only; omega⟩ ?_ ?_
  ·refine Weak_subEq (by rw [rowK_0]; rfl) ?_
   simp [sub, upd, rowK_0, -List.getD_eq_getElem?_getD]
   omega
  rintro ⟨⟨k, a⟩, hk1, hk2⟩
  dsimp only at hk1 hk2 ⊢
  have hl := rowK_len g i k
  repeat' first | refine dr (id := 7) T 14 (by kernel_rfl) ?_ | refine gn ?_ | (first | apply VCg.step T rfl rfl | apply exF); focus ((try simp (disch := omega) only [go_sem, Nat.reduceBEq, Nat.reduceAdd, Nat.reduceMul, Nat.reduceLeDiff, ix_ints, Int.toNat_natCast]); (first | exact rfl | refine ⟨?_, rfl⟩; try omega)) | refine vs T rfl fun K hK => ?_; (try simp (disch := omega) only [go_sem, Nat.reduceBEq, ix_ints, w64, toNat1]); (first | refine hK _ _ ?_; clear hK K | refine ⟨_, _, _, _, (by repeat (exact Sp.here)), ?_, (by exact ⟨rfl, rfl⟩), ?_, fun g' hg' => hK _ _ ?_⟩ <;> clear hK K | refine ⟨?_, hK _ _ ?_⟩ <;> clear hK K; focus (try omega)) | refine st rfl ?_ | refine sc rfl ?_ | refine nl ?_ | with_reducible refine gsplit_intro (fun hc => ?_) (fun hc => ?_) <;> (try simp only [decide_eq_true_eq, decide_eq_false_iff_not, Int.not_lt] at hc)
  ·exact edF_len _
  ·omega
  ·refine ⟨⟨(k + 1, g'), by dsimp only; omega⟩, Weak_subEq ?_ ?_, by dsimp only; omega⟩
   ·dsimp only
    rw [rowK_succ hk1, edF_snoc]
    rfl
   ·simp [sub, upd, rowK_succ hk1]
  ·obtain rfl : k = (g.st.getD (i + 1) 0).toNat := by omega
   exact ret1 T (List.Sublist.refl _) ⟨a, 62, by rw [edRs_len]; rfl, rfl⟩
end Go.Proofs.YtomcmfbpmkklmaaGreat
/- Contracts: the reference's comparisons of graphs; all edges. No condition. -/
namespace Go.Proofs.YtomcmfbpmkklmaaGreat
set_option maxHeartbeats 16000000
set_option linter.unusedSimpArgs false
set_option linter.unusedVariables false
set_option maxRecDepth 20000
open Go Go.Proofs Go.Vc
attribute [local irreducible] retQ VCg VCw VCx
end Go.Proofs.YtomcmfbpmkklmaaGreat
/- Contracts: the reference's edges of all nodes; small ones; what is kept. No condition. -/
namespace Go.Proofs.YtomcmfbpmkklmaaGreat
set_option maxHeartbeats 16000000
set_option linter.unusedSimpArgs false
set_option linter.unusedVariables false
set_option maxRecDepth 20000
open Go Go.Proofs Go.Vc
attribute [local irreducible] retQ VCg VCw VCx
def lightG (g : Cs) : Bool := Nat.ble g.st.length 80 && (Nat.ble g.to.length 400 && Nat.ble g.ag.length 400)
theorem light14_ok (g : Cs) : Pure Tryz.prog 23 [.agg (csC g)] (bD (lightG g)) := by
 refine Fun.of T [.tmp 2] Tryz.func23 rfl Tryz.ntmps23 Tryz.results23 rfl (by kernel_rfl) ?_
 repeat' first | refine vb (t := 32) rfl rfl rfl rfl ?_ | refine vs T rfl fun K hK => ?_; (try simp (disch := omega) only [go_sem, Nat.reduceBEq, iRs_len]); (refine hK _ _ ?_; clear hK K) | refine st rfl ?_ | refine nl ?_ | refine gs rfl rfl ?_ | refine ret1 T (List.nil_sublist _) ?_; (try simp only [upd, Nat.reduceBEq, cond_true, cond_false, and_true]) | with_reducible refine gsplit_intro (fun hc => ?_) (fun hc => ?_) <;> (try simp only [decide_eq_true_eq, decide_eq_false_iff_not, Int.not_le] at hc)
 all_goals (simp only [lightG, D.is.injEq, Value.bool.injEq]; rw [Bool.eq_iff_iff]; simp only [Bool.and_eq_true, Nat.ble_eq, decide_eq_true_eq, Bool.false_eq_true, false_iff]; omega)
end Go.Proofs.YtomcmfbpmkklmaaGreat
