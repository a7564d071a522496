/- Contracts: the program's edges. No condition. -/
import Derived.Test.YtomcmfbpmkklmaaGreatDd
import Derived.Test.YtomcmfbpmkklmaaGreatYc
import Derived.Test.YtomcmfbpmkklmaaGreatYi
import Derived.Test.YtomcmfbpmkklmaaGreatDf
namespace Go.Proofs.YtomcmfbpmkklmaaGreat
set_option maxHeartbeats 16000000
set_option linter.unusedSimpArgs false
set_option linter.unusedVariables false
set_option maxRecDepth 20000
open Go Go.Proofs Go.Vc
attribute [local irreducible] retQ VCg VCw VCx
theorem eright_ok (g : Cs) (hg : OkG g) : Pure Tryz.prog 115 [.agg (csC g)] (bD (rightG g)) := by
 have h1 := hg.st
 have h2 := hg.ag
 have h3 := hg.to
 refine Fun.of T [.tmp 2] Tryz.func115 rfl Tryz.ntmps115 Tryz.results115 rfl (by kernel_rfl) ?_
 repeat' first | refine vb (t := 32) rfl rfl rfl rfl ?_ | refine dr (id := 2) T 27 (by kernel_rfl) ?_ | refine gn ?_ | (first | apply VCg.step T rfl rfl | apply exF); focus ((try simp (disch := omega) only [go_sem, Nat.reduceBEq, Int.reduceToNat, ix_ints, iRs_len, toNatP]); (first | exact rfl | refine ⟨?_, rfl⟩; try omega)) | refine VCg.gstep T rfl rfl rfl rfl ?_; try simp only [GB] | refine vs T rfl fun K hK => ?_; (try simp (disch := omega) only [go_sem, Nat.reduceBEq, w64, iRs_len]); (refine hK _ _ ?_; clear hK K) | refine st rfl ?_ | refine sc rfl ?_ | refine nl ?_ | refine gs rfl rfl ?_ | refine ret1 T (List.nil_sublist _) ?_; (try simp only [upd, Nat.reduceBEq, cond_true, cond_false, and_true]) | with_reducible refine gsplit_intro (fun hc => ?_) (fun hc => ?_) <;> (try simp only [decide_eq_true_eq, decide_eq_false_iff_not, bne_iff_ne, bne_eq_false_iff_eq, ne_eq, Int.not_lt] at hc)
 any_goals (refine congrArg bD (rightG_not fun G => ?_).symm; obtain ⟨a1, a2, a3, a4, a5, a6⟩ := G; omega)
 refine VC.loop {k : Nat // k ≤ g.st.length - 1 ∧ ∀ i, i < k → g.st.getD i 0 ≤ g.st.getD (i + 1) 0} (fun x => ⟨lookD [(1, .pt (csC g)), (3, iD ((g.st.length : Int) - 1)), (40, iD ((g.st.length : Int) - 1)), (41, iD (x.1 : Nat))], []⟩) (fun x => g.st.length - x.1) ⟨0, by omega, fun i hi => by omega⟩ ?_ ?_
 ·refine Weak.sub ?_
  simp [sub, upd]
 rintro ⟨k, hk, hs⟩
 dsimp only
 repeat' first | refine dr (id := 7) T 11 (by kernel_rfl) ?_ | refine gn ?_ | (first | apply VCg.step T rfl rfl | apply exF); focus ((try simp (disch := omega) only [go_sem, Nat.reduceBEq, ix_ints, w64, toNat1, Int.toNat_natCast]); (first | exact rfl | refine ⟨?_, rfl⟩; try omega)) | refine vs T rfl fun K hK => ?_; (try simp (disch := omega) only [go_sem, Nat.reduceBEq, w64, iRs_len]); (refine hK _ _ ?_; clear hK K) | refine st rfl ?_ | refine sc rfl ?_ | refine nl ?_ | refine ret1 T (List.nil_sublist _) ?_; (try simp only [upd, Nat.reduceBEq, cond_true, cond_false, and_true]) | with_reducible refine gsplit_intro (fun hc => ?_) (fun hc => ?_) <;> (try simp only [decide_eq_true_eq, decide_eq_false_iff_not, gt_iff_lt, Int.not_lt] at hc)
 any_goals (refine congrArg bD (rightG_not fun G => ?_).symm; have := G.up k (by omega); omega)
 ·refine ⟨⟨k + 1, by omega, fun i hi => ?_⟩, Weak.sub ?_, by simp only []; omega⟩
  ·rcases Nat.lt_or_ge i k with h | h
   ·exact hs i h
   ·obtain rfl : i = k := by omega
    omega
  ·simp [sub, upd]
 refine VC.loop {j : Nat // j ≤ g.to.length ∧ ∀ i, i < j → 0 ≤ g.to.getD i 0 ∧ g.to.getD i 0 < (g.st.length - 1 : Nat) ∧ 0 ≤ g.ag.getD i 0} (fun x => ⟨lookD [(1, .pt (csC g)), (3, iD ((g.st.length : Int) - 1)), (58, ints g.to), (59, iD (g.to.length : Nat)), (60, iD (x.1 : Nat))], []⟩) (fun x => g.to.length - x.1) ⟨0, by omega, fun i hi => by omega⟩ ?_ ?_
 ·refine Weak.sub ?_
  simp [sub, upd]
 rintro ⟨j, hj, ht⟩
 dsimp only
 repeat' first | refine vs T rfl fun K hK => ?_; (try simp (disch := omega) only [go_sem, Nat.reduceBEq, ix_ints, w64, Int.toNat_natCast]); (first | refine hK _ _ ?_; clear hK K | refine ⟨?_, hK _ _ ?_⟩ <;> clear hK K; focus (try omega)) | refine st rfl ?_ | refine sc rfl ?_ | refine nl ?_ | refine gs rfl rfl ?_ | refine ret1 T (List.nil_sublist _) ?_; (try simp only [upd, Nat.reduceBEq, cond_true, cond_false, and_true]) | with_reducible refine gsplit_intro (fun hc => ?_) (fun hc => ?_) <;> (try simp only [decide_eq_true_eq, decide_eq_false_iff_not, ge_iff_le, Int.not_le, Int.not_lt] at hc)
 any_goals (refine congrArg bD (rightG_not fun G => ?_).symm; have := G.to j (by omega); omega)
 ·refine ⟨⟨j + 1, by omega, fun i hi => ?_⟩, Weak.sub ?_, by simp only []; omega⟩
  ·rcases Nat.lt_or_ge i j with h | h
   ·exact ht i h
   ·obtain rfl : i = j := by omega
    exact ⟨by omega, by omega, by omega⟩
  ·simp [sub, upd]
 exact congrArg bD (rightG_iff.2 ⟨by omega, by assumption, by assumption, by omega, fun i hi => hs i (by omega), fun i hi => ht i (by omega)⟩).symm
theorem enodes_ok (g : Cs) (hg : OkG g) : Pure Tryz.prog 66 [.agg (csC g)] (iD (nodesG g : Nat)) := by
 have h1 := hg.st
 have c1 := eright_ok g hg
 unfold nodesG
 refine Fun.of T [.tmp 2] Tryz.func66 rfl Tryz.ntmps66 Tryz.results66 rfl (by kernel_rfl) ?_
 cases hR : rightG g with
 | false =>
  rw [hR] at c1
  repeat' first | refine vb (t := 32) rfl rfl rfl rfl ?_ | refine vs T rfl fun K hK => ?_; (try simp (disch := omega) only [go_sem, Nat.reduceBEq, Nat.reduceAdd, Nat.reduceLeDiff, Bool.not_false]); (first | refine hK _ _ ?_; clear hK K | refine Op1.callp rfl rfl (c1) rfl ?_; refine hK _ _ ?_; clear hK K) | refine st rfl ?_ | refine sc rfl ?_ | refine nl ?_ | exact ret1 T (List.nil_sublist _) ⟨rfl, rfl⟩
 | true =>
  rw [hR] at c1
  have := (rightG_iff.1 hR).one
  have hw : IntKind.i64.wrap ((g.st.length : Int) - 1) = ((g.st.length - 1 : Nat) : Int) := by rw [w64 (by omega)]; omega
  repeat' first | refine vb (t := 32) rfl rfl rfl rfl ?_ | refine vs T rfl fun K hK => ?_; (try simp (disch := omega) only [go_sem, Nat.reduceBEq, Nat.reduceAdd, Nat.reduceLeDiff, Bool.not_true, iRs_len, hw]); (first | refine hK _ _ ?_; clear hK K | refine Op1.callp rfl rfl (c1) rfl ?_; refine hK _ _ ?_; clear hK K) | refine st rfl ?_ | refine sc rfl ?_ | refine nl ?_ | exact ret1 T (List.nil_sublist _) ⟨rfl, rfl⟩
abbrev ovH (b : Nat) (ga : Option (Nat × Nat)) (L : List Ed) : Heap := (b, .cells 59 1 [.gs ga L.length]) :: shp ga 62 3 (edRs L).flatten []
theorem out1_ok (b : Nat) (ga : Option (Nat × Nat)) (L : List Ed) (hL : L.length ≤ 1000000) (e : Ed) : Fun Tryz.prog 117 [.agg (edR e), pD b] (ovH b ga L) false (fun d H' => ∃ x : Option (Nat × Nat), True ∧ d = .tup [] ∧ H' = ovH b x (L ++ [e])) := by
 obtain ⟨e1, e2, e3⟩ := e
 refine Fun.of T [] Tryz.func117 rfl Tryz.ntmps117 Tryz.results117 rfl (by kernel_rfl) ?_
 repeat' first | refine vb (t := 62) rfl rfl rfl rfl ?_ | refine vs T rfl fun K hK => ?_; (try simp (disch := omega) only [go_sem, Nat.reduceBEq, Nat.reduceAdd, Nat.reduceMul, Nat.reduceLeDiff, edR]); (first | refine hK _ _ ?_; clear hK K | refine ⟨_, _, _, _, (by repeat (first | exact Sp.here | apply Sp.cons)), ?_, (by exact ⟨rfl, rfl⟩), ?_, fun g' hg' => hK _ _ ?_⟩ <;> clear hK K) | refine st rfl ?_ | refine nl ?_
 ·exact edF_len _
 ·omega
 ·exact ret0 T rfl (List.Sublist.refl _) ⟨g', trivial, rfl, by simp only [ovH, edF_snoc, List.length_append, List.length_cons, List.length_nil]; rfl⟩
theorem each_ok (g : Cs) (hg : OkG g) (hr : Gr g) (i : Nat) (hi : i < g.st.length - 1) (b : Nat) : Fun Tryz.prog 116 [.agg (csC g), iD (i : Nat), iD ((i : Int) + 1), .is (.func (.func 117) #[] #[.pointer (some ⟨b, 0, none⟩)])] (ovH b none []) false
  (fun d H' => ∃ x : Option (Nat × Nat), True ∧ d = .tup [] ∧ H' = ovH b x (rowG g i)) := by
 have h1 := hg.st
 have h2 := hg.ag
 have h3 := hg.to
 have b1 := hr.bnd (i := i) (by omega)
 have b2 := hr.bnd (i := i + 1) (by omega)
 have b3 := hr.up i (by omega)
 have b4 := hr.ag
 refine Fun.of T [] Tryz.func116 rfl Tryz.ntmps116 Tryz.results116 rfl (by kernel_rfl) ?_
 repeat' first | refine vb (t := 32) rfl rfl rfl rfl ?_ | refine vs T rfl fun K hK => ?_; (try simp (disch := omega) only [go_sem, Nat.reduceBEq, Nat.reduceAdd]); (refine hK _ _ ?_; clear hK K) | refine st rfl ?_ | refine nl ?_
 refine VC.loop {p : Nat × Option (Nat × Nat) // p.1 ≤ 1} (fun p => ⟨lookD [(2, iD ((i : Int) + 1)), (3, .is (.func (.func 117) #[] #[.pointer (some ⟨b, 0, none⟩)])), (4, .pt (csC g)), (8, iD ((i + p.1.1 : Nat) : Int))], ovH b p.1.2 (match p.1.1 with | 0 => [] | _ + 1 => rowG g i)⟩) (fun p => 1 - p.1.1) ⟨(0, none), by decide⟩ ?_ ?_
 ·refine Weak_subEq rfl ?_
  simp [sub, upd]
 rintro ⟨⟨q, ga⟩, hq⟩
 dsimp only at hq ⊢
 rcases q with _ | q
 case succ =>
  obtain rfl : q = 0 := by omega
  repeat' first | refine vs T rfl fun K hK => ?_; (try simp (disch := omega) only [go_sem, Nat.reduceBEq]); (refine hK _ _ ?_; clear hK K) | refine st rfl ?_ | refine sc rfl ?_ | refine nl ?_ | with_reducible refine gsplit_intro (fun hc => ?_) (fun hc => ?_) <;> (try simp only [decide_eq_true_eq, decide_eq_false_iff_not, Int.not_lt] at hc) <;> (try (exfalso; omega))
  exact ret0 T rfl (List.Sublist.refl _) ⟨ga, trivial, rfl, rfl⟩
 dsimp only
 repeat' first | refine vs T rfl fun K hK => ?_; (try simp (disch := omega) only [go_sem, Nat.reduceBEq, ix_ints, Int.toNat_natCast, Nat.add_zero]); (first | refine hK _ _ ?_; clear hK K | refine ⟨?_, hK _ _ ?_⟩ <;> clear hK K; focus (try omega)) | refine st rfl ?_ | refine sc rfl ?_ | refine nl ?_ | with_reducible refine gsplit_intro (fun hc => ?_) (fun hc => ?_) <;> (try simp only [decide_eq_true_eq, decide_eq_false_iff_not, Int.not_lt] at hc) <;> (try (exfalso; omega))
 refine VC.loop {p : Nat × Option (Nat × Nat) // (g.st.getD i 0).toNat ≤ p.1 ∧ p.1 ≤ (g.st.getD (i + 1) 0).toNat} (fun p => ⟨lookD [(2, iD ((i : Int) + 1)), (3, .is (.func (.func 117) #[] #[.pointer (some ⟨b, 0, none⟩)])), (4, .pt (csC g)), (8, iD (i : Nat)), (9, iD (p.1.1 : Nat))], ovH b p.1.2 (rowK g i p.1.1)⟩) (fun p => g.to.length - p.1.1) ⟨((g.st.getD i 0).toNat, ga), by dsimp only; omega⟩ ?_ ?_
 ·refine Weak_subEq (by rw [rowK_0]) ?_
  simp [sub, upd, rowK_0, -List.getD_eq_getElem?_getD]
  try omega
 rintro ⟨⟨k, a⟩, hk1, hk2⟩
 dsimp only at hk1 hk2 ⊢
 have hl := rowK_len g i k
 have c1 := out1_ok b a (rowK g i k) (by omega) (egG g i k)
 repeat' first | refine dr (id := 7) T 13 (by kernel_rfl) ?_ | refine gn ?_ | apply VCg.step T rfl rfl; focus ((try simp (disch := omega) only [go_sem, Nat.reduceBEq, Nat.reduceAdd, ix_ints, Int.toNat_natCast]); (first | exact rfl | refine ⟨?_, rfl⟩; try omega)) | refine vs T rfl fun K hK => ?_; (try simp (disch := omega) only [go_sem, Nat.reduceBEq, ix_ints, w64, toNat1]); (first | refine hK _ _ ?_; clear hK K | refine ⟨?_, hK _ _ ?_⟩ <;> clear hK K; focus (try omega) | skip) | refine st rfl ?_ | refine sc rfl ?_ | refine nl ?_ | with_reducible refine gsplit_intro (fun hc => ?_) (fun hc => ?_) <;> (try simp only [decide_eq_true_eq, decide_eq_false_iff_not, Int.not_lt] at hc)
 ·refine Op1.callG (Hr := []) rfl rfl rfl c1 (by rw [List.append_nil]) (fun d H' h => ?_)
  obtain ⟨a', -, rfl, rfl⟩ := h
  refine hK _ _ ?_
  clear hK K
  rw [List.append_nil]
  repeat' first | refine vs T rfl fun K hK => ?_; (try simp (disch := omega) only [go_sem, Nat.reduceBEq, w64]); (refine hK _ _ ?_; clear hK K) | refine st rfl ?_ | refine nl ?_
  refine ⟨⟨(k + 1, a'), by dsimp only; omega⟩, Weak_subEq ?_ ?_, by dsimp only; omega⟩
  ·dsimp only
   rw [rowK_succ hk1]
  ·simp [sub, upd]
 ·obtain rfl : k = (g.st.getD (i + 1) 0).toNat := by omega
  repeat' first
   | (refine dr (id := 7) T 13 (by kernel_rfl) ?_)
   | (refine gn ?_)
   | (refine VCg.nil T ?_; simp only [allK, WB, Nat.reduceAdd]; try (refine fun (bq : Nat) hbq => ?_; (try simp only [HB] at hbq)))
   | (apply VCg.step T rfl rfl; focus ((try simp (disch := omega) only [go_sem, Nat.reduceBEq, Nat.reduceAdd, Nat.reduceMul, Nat.reduceSub, Nat.reduceLeDiff, Int.reduceToNat, w64]); (first | exact rfl | exact ⟨rfl, rfl⟩ | (refine ⟨?_, rfl⟩; try (first | omega | exact ⟨rfl, by decide⟩ | exact rfl)))))
   | (refine vs T rfl fun K hK => ?_; (try simp (disch := omega) only [go_sem, Nat.reduceBEq, Nat.reduceAdd, Nat.reduceMul, Nat.reduceSub, Nat.reduceLeDiff, Int.reduceToNat, w64]); (first | (refine hK _ _ ?_; clear hK K) | (intro bq hbq; (try simp only [HB] at hbq); refine hK _ _ ?_; clear hK K) | (refine ⟨?_, hK _ _ ?_⟩ <;> clear hK K; focus (try (first | omega | exact ⟨rfl, by decide⟩ | exact rfl))) | (refine ⟨_, ?_, hK _ _ ?_⟩ <;> clear hK K) | skip))
   | (refine st rfl ?_)
   | (refine sc rfl ?_)
   | (refine nl ?_)
   | (refine ov ?_)
   | (with_reducible refine gt ?_ ?_; focus (simp (disch := omega) only [go_sem, Nat.reduceBEq, Nat.reduceAdd, Nat.reduceMul, Nat.reduceSub, Nat.reduceLeDiff, Int.reduceToNat, w64]; done))
   | (with_reducible refine gf ?_ ?_; focus (simp (disch := omega) only [go_sem, Nat.reduceBEq, Nat.reduceAdd, Nat.reduceMul, Nat.reduceSub, Nat.reduceLeDiff, Int.reduceToNat, w64]; done))
   | (with_reducible refine gsplit_intro (fun hc => ?_) (fun hc => ?_) <;> (try simp only [decide_eq_true_eq, decide_eq_false_iff_not, beq_iff_eq, beq_eq_false_iff_ne, bne_iff_ne, bne_eq_false_iff_eq, ne_eq, Bool.not_eq_true', Bool.not_eq_false', Bool.not_eq_true, Bool.not_eq_false, ge_iff_le, gt_iff_lt, Int.not_le, Int.not_lt, Decidable.not_not] at hc) <;> (try (exfalso; omega)))
  refine ⟨⟨(1, a), by dsimp only; omega⟩, Weak_subEq rfl ?_, by dsimp only; omega⟩
  simp [sub, upd]
theorem eout_ok (g : Cs) (hg : OkG g) (i : Int) : Pure Tryz.prog 68 [.agg (csC g), iD i] (edsD (outG g i)) := by
 have c1 := enodes_ok g hg
 refine Fun.freeze (edRs_row _) ?_
 refine Fun.of T [.tmp 4] Tryz.func68 rfl Tryz.ntmps68 Tryz.results68 rfl (by kernel_rfl) ?_
 cases hd : decide (0 ≤ i) && decide (i < (nodesG g : Int)) with
 | false =>
  have : outG g i = [] := by simp [outG, hd]
  rw [this]
  simp only [Bool.and_eq_false_iff, decide_eq_false_iff_not] at hd
  repeat' first | refine vb (t := 32) rfl rfl rfl rfl ?_ | refine vs T rfl fun K hK => ?_; (try simp (disch := omega) only [go_sem, Nat.reduceBEq, Nat.reduceAdd, Nat.reduceLeDiff]); (first | refine hK _ _ ?_; clear hK K | refine Op1.callp rfl rfl (c1) rfl ?_; refine hK _ _ ?_; clear hK K) | refine st rfl ?_ | refine sc rfl ?_ | refine nl ?_ | refine gs rfl rfl ?_ | with_reducible refine gsplit_intro (fun hc => ?_) (fun hc => ?_) <;> (try simp only [decide_eq_true_eq, decide_eq_false_iff_not, ge_iff_le, Int.not_le, Int.not_lt] at hc) <;> (try (exfalso; omega))
  all_goals exact ret1 T (List.nil_sublist _) ⟨none, 0, rfl, rfl⟩
 | true =>
  have hO : outG g i = rowG g i.toNat := by simp only [outG, hd]
  rw [hO]
  simp only [Bool.and_eq_true, decide_eq_true_eq] at hd
  obtain ⟨i, rfl⟩ : ∃ n : Nat, i = (n : Int) := ⟨i.toNat, by omega⟩
  have hR : rightG g = true := by
   cases hR : rightG g with
   | true => rfl
   | false => simp [nodesG, hR] at hd; omega
  have hn : nodesG g = g.st.length - 1 := by simp [nodesG, hR]
  have gr := rightG_iff.1 hR
  have h1 := hg.st
  rw [hn] at hd c1
  rw [Int.toNat_natCast]
  repeat' first | refine vb (t := 32) rfl rfl rfl rfl ?_ | refine vs T rfl fun K hK => ?_; (try simp (disch := omega) only [go_sem, Nat.reduceBEq, Nat.reduceAdd, Nat.reduceLeDiff, w64]); (first | refine hK _ _ ?_; clear hK K | intro bq hbq; (try simp only [HB] at hbq); refine hK _ _ ?_; clear hK K | refine Op1.callp rfl rfl (c1) rfl ?_; refine hK _ _ ?_; clear hK K | skip) | refine st rfl ?_ | refine sc rfl ?_ | refine nl ?_ | refine gs rfl rfl ?_ | with_reducible refine gsplit_intro (fun hc => ?_) (fun hc => ?_) <;> (try simp only [decide_eq_true_eq, decide_eq_false_iff_not, ge_iff_le, Int.not_le] at hc) <;> (try (exfalso; omega))
  refine r_mkFunc (cs := [.tmp 5]) (us := [.pointer (some ⟨bq, 0, none⟩)]) rfl rfl ?_
  refine hK _ _ ?_
  clear hK K
  repeat' refine vs T rfl fun K hK => ?_; (try simp (disch := omega) only [go_sem])
  refine Op1.callG (Hr := []) rfl rfl rfl (each_ok g hg gr i (by omega) bq) (by rw [List.append_nil]; rfl) (fun d H' h => ?_)
  obtain ⟨a, -, rfl, rfl⟩ := h
  refine hK _ _ ?_
  clear hK K
  rw [List.append_nil]
  repeat' first | refine vs T rfl fun K hK => ?_; (try simp (disch := omega) only [go_sem, Nat.reduceBEq]); (refine hK _ _ ?_; clear hK K) | refine st rfl ?_ | refine nl ?_
  exact ret1 T (List.sublist_cons_self _ _) ⟨a, 62, by rw [edRs_len]; rfl, rfl⟩
def nxt (L : List Ed) (a : Int) : Int :=
 match L with
 | [] => -1
 | e :: L => match decide (e.2.1 = a) with | true => e.2.2 | false => nxt L a
theorem nxt_yes {L : List Ed} {k : Nat} {a : Int} (h : k < L.length) (he : (L.getD k (0, 0, 0)).2.1 = a) : nxt (L.drop k) a = (L.getD k (0, 0, 0)).2.2 := by
 rw [show L.drop k = L.getD k (0, 0, 0) :: L.drop (k + 1) by rw [List.drop_eq_getElem_cons h, List.getD_eq_getElem?_getD, List.getElem?_eq_getElem h]; rfl]
 simp only [nxt, decide_eq_true he]
theorem nxt_no {L : List Ed} {k : Nat} {a : Int} (h : k < L.length) (he : (L.getD k (0, 0, 0)).2.1 ≠ a) : nxt (L.drop k) a = nxt (L.drop (k + 1)) a := by
 rw [show L.drop k = L.getD k (0, 0, 0) :: L.drop (k + 1) by rw [List.drop_eq_getElem_cons h, List.getD_eq_getElem?_getD, List.getElem?_eq_getElem h]; rfl]
 simp only [nxt, decide_eq_false he]
theorem nxt_end {L : List Ed} {k : Nat} {a : Int} (h : L.length ≤ k) : nxt (L.drop k) a = -1 := by rw [List.drop_eq_nil_of_le h]; rfl
def nextG (g : Cs) (x a : Int) : Int := nxt (outG g x) a
def walkF (g : Cs) : Int → List Int → Int
 | x, [] => x
 | x, a :: p => match decide (nextG g x a < 0) with | true => -1 | false => walkF g (nextG g x a) p
def followF (g : Cs) (x : Int) (p : List Int) : Int := match decide (0 ≤ x) && decide (x < nodesG g) with | true => walkF g x p | false => -1
theorem outG_len {g : Cs} (hg : OkG g) (x : Int) : (outG g x).length ≤ 1000000 := by
 unfold outG
 cases hd : decide (0 ≤ x) && decide (x < (nodesG g : Int)) with
 | false => exact Nat.zero_le _
 | true =>
  simp only [Bool.and_eq_true, decide_eq_true_eq] at hd
  cases hR : rightG g with
  | false => simp only [nodesG, hR] at hd; omega
  | true =>
  simp only [nodesG, hR] at hd
  have gr := rightG_iff.1 hR
  have b2 := gr.bnd (i := x.toNat + 1) (by omega)
  have := hg.to
  simp only [rowG, rowK_len]
  omega
theorem walk_cons {g : Cs} {p : List Int} {k : Nat} {x : Int} (h : k < p.length) : walkF g x (p.drop k) = match decide (nextG g x (p.getD k 0) < 0) with | true => -1 | false => walkF g (nextG g x (p.getD k 0)) (p.drop (k + 1)) := by
 rw [show p.drop k = p.getD k 0 :: p.drop (k + 1) by rw [List.drop_eq_getElem_cons h, List.getD_eq_getElem?_getD, List.getElem?_eq_getElem h]; rfl]
 rfl
theorem follow1_ok (g : Cs) (hg : OkG g) (x a : Int) (b c : Nat) : Fun Tryz.prog 67 [iD a, pD b, pD c] [(b, .cells 32 3 (csC g)), (c, .cells 3 1 [iD x])] false
  (fun d H' => d = iD (nextG g x a) ∧ H' = [(b, .cells 32 3 (csC g)), (c, .cells 3 1 [iD x])]) := by
 have c1 := eout_ok g hg x
 have hl := outG_len hg x
 have hN : nextG g x a = nxt (outG g x) a := rfl
 generalize outG g x = L at *
 refine Fun.of T [.tmp 4] Tryz.func67 rfl Tryz.ntmps67 Tryz.results67 rfl (by kernel_rfl) ?_
 refine VC.nodup fun hn => ?_
 simp only [Heap.blocks, List.map_cons, List.nodup_cons, List.mem_cons, not_or] at hn
 obtain ⟨⟨q1, _⟩, _⟩ := hn
 repeat' first | refine vs T rfl fun K hK => ?_; (try simp (disch := omega) only [go_sem, Nat.reduceBEq, Nat.reduceAdd, Nat.reduceLeDiff]); (first | refine hK _ _ ?_; clear hK K | refine Op1.callp rfl rfl (c1) rfl ?_; refine hK _ _ ?_; clear hK K) | refine st rfl ?_ | refine nl ?_
 refine VC.loop {k : Nat // k ≤ L.length ∧ nxt (L.drop k) a = nextG g x a} (fun p => ⟨lookD [(0, iD a), (9, edsD L), (10, iD (L.length : Nat)), (11, iD (p.1 : Nat))], [(b, .cells 32 3 (csC g)), (c, .cells 3 1 [iD x])]⟩) (fun p => L.length - p.1) ⟨0, by omega, by rw [hN]; rfl⟩ ?_ ?_
 ·refine Weak_subEq rfl ?_
  simp [sub, upd, edRs_len]
 rintro ⟨k, hk, hn⟩
 dsimp only at hk hn ⊢
 repeat' first | refine vs T rfl fun K hK => ?_; (try simp (disch := omega) only [go_sem, Nat.reduceBEq, Nat.reduceAdd, Nat.reduceLeDiff, ix_eds, edR, Int.toNat_natCast, w64]); (first | refine hK _ _ ?_; clear hK K | intro bq hbq; (try simp only [HB] at hbq); refine hK _ _ ?_; clear hK K | refine ⟨?_, hK _ _ ?_⟩ <;> clear hK K; focus (try omega)) | refine st rfl ?_ | refine sc rfl ?_ | refine nl ?_ | with_reducible refine gsplit_intro (fun hc => ?_) (fun hc => ?_) <;> (try simp only [decide_eq_true_eq, decide_eq_false_iff_not, beq_iff_eq, beq_eq_false_iff_ne, ne_eq, Int.not_lt] at hc)
 ·exact ret1 T (List.sublist_cons_self _ _) ⟨by rw [← hn, nxt_yes (by omega) (by omega)]; rfl, rfl⟩
 ·refine ⟨⟨k + 1, by omega, (nxt_no (k := k) (by omega) (by omega)).symm.trans hn⟩, Weak_subH rfl ?_, by dsimp only; omega⟩
  simp [sub, upd]
 ·exact ret1 T (List.Sublist.refl _) ⟨by rw [← hn, nxt_end (by omega)]; rfl, rfl⟩
theorem walk_neg {g : Cs} {x a : Int} (h : nextG g x a ≠ -1 → 0 ≤ nextG g x a) : decide (nextG g x a < 0) = decide (nextG g x a = -1) := by
 by_cases h1 : nextG g x a = -1
 ·rw [h1]; rfl
 ·have := h h1
  rw [decide_eq_false h1, decide_eq_false (by omega)]
theorem nxt_nn {a : Int} : ∀ {L : List Ed}, (∀ e, e ∈ L → 0 ≤ e.2.2) → nxt L a ≠ -1 → 0 ≤ nxt L a
 | [], _, h => absurd rfl h
 | e :: L, hL, h => by
  unfold nxt at h ⊢
  cases hd : decide (e.2.1 = a) with
  | true => exact hL e (List.mem_cons_self ..)
  | false => rw [hd] at h; exact nxt_nn (fun x hx => hL x (List.mem_cons_of_mem _ hx)) h
theorem outG_to {g : Cs} {x : Int} : ∀ e, e ∈ outG g x → (0 ≤ e.2.2 ∧ e.2.2 < nodesG g) ∧ 0 ≤ e.2.1 := by
 unfold outG
 cases hd : decide (0 ≤ x) && decide (x < (nodesG g : Int)) with
 | false => intro e he; cases he
 | true =>
  simp only [Bool.and_eq_true, decide_eq_true_eq] at hd
  cases hR : rightG g with
  | false => simp only [nodesG, hR] at hd; omega
  | true =>
  simp only [nodesG, hR] at hd ⊢
  have gr := rightG_iff.1 hR
  have b1 := gr.bnd (i := x.toNat) (by omega)
  have b2 := gr.bnd (i := x.toNat + 1) (by omega)
  intro e he
  simp only [rowG, rowK, List.mem_map, List.mem_range'_1] at he
  obtain ⟨k, ⟨h1, h2⟩, rfl⟩ := he
  have := gr.to k (by omega)
  exact ⟨⟨this.1, this.2.1⟩, this.2.2⟩
theorem nextG_nn {g : Cs} {x a : Int} : nextG g x a ≠ -1 → 0 ≤ nextG g x a := nxt_nn fun e he => (outG_to e he).1.1
theorem walk_cons' {g : Cs} {p : List Int} {k : Nat} {x : Int} (h : k < p.length) : walkF g x (p.drop k) = match decide (nextG g x (p.getD k 0) = -1) with | true => -1 | false => walkF g (nextG g x (p.getD k 0)) (p.drop (k + 1)) := by
 rw [walk_cons h, walk_neg nextG_nn]
theorem follow_ok (g : Cs) (hg : OkG g) (x : Int) (p : List Int) (hp : p.length ≤ 1000000) : Pure Tryz.prog 22 [.agg (csC g), iD x, ints p] (iD (followF g x p)) := by
 have c1 := enodes_ok g hg
 refine Fun.of T [.tmp 6] Tryz.func22 rfl Tryz.ntmps22 Tryz.results22 rfl (by kernel_rfl) ?_
 cases hd : decide (0 ≤ x) && decide (x < (nodesG g : Int)) with
 | false =>
  have : followF g x p = -1 := by simp only [followF, hd]
  rw [this]
  simp only [Bool.and_eq_false_iff, decide_eq_false_iff_not] at hd
  repeat' first | refine dr (id := 1) T 6 (by kernel_rfl) ?_ | refine gn ?_ | (first | apply VCg.step T rfl rfl | apply exF); focus ((try simp (disch := omega) only [go_sem, Nat.reduceBEq, Nat.reduceAdd, Nat.reduceLeDiff]); (first | exact rfl | refine Op1.callp rfl rfl (c1) rfl ?_; exact ⟨rfl, rfl⟩)) | refine VCg.gstep T rfl rfl rfl rfl ?_; try simp only [GB] | refine vs T rfl fun K hK => ?_; (try simp (disch := omega) only [go_sem, Nat.reduceBEq, Nat.reduceAdd]); (first | refine hK _ _ ?_; clear hK K | intro bq hbq; (try simp only [HB] at hbq); refine hK _ _ ?_; clear hK K) | refine st rfl ?_ | refine sc rfl ?_ | refine nl ?_ | refine gs rfl rfl ?_ | with_reducible refine gsplit_intro (fun hc => ?_) (fun hc => ?_) <;> (try simp only [decide_eq_true_eq, decide_eq_false_iff_not, ge_iff_le, Int.not_le, Int.not_lt] at hc) <;> (try (exfalso; omega))
  all_goals exact ret1 T (List.nil_sublist _) ⟨rfl, rfl⟩
 | true =>
 have hF : followF g x p = walkF g x p := by simp only [followF, hd]
 rw [hF]
 simp only [Bool.and_eq_true, decide_eq_true_eq] at hd
 repeat' first | refine dr (id := 1) T 6 (by kernel_rfl) ?_ | refine gn ?_ | (first | apply VCg.step T rfl rfl | apply exF); focus ((try simp (disch := omega) only [go_sem, Nat.reduceBEq, Nat.reduceAdd, Nat.reduceLeDiff]); (first | exact rfl | refine Op1.callp rfl rfl (c1) rfl ?_; exact ⟨rfl, rfl⟩)) | refine VCg.gstep T rfl rfl rfl rfl ?_; try simp only [GB] | refine vs T rfl fun K hK => ?_; (try simp (disch := omega) only [go_sem, Nat.reduceBEq, Nat.reduceAdd]); (first | refine hK _ _ ?_; clear hK K | intro bq hbq; (try simp only [HB] at hbq); refine hK _ _ ?_; clear hK K | skip) | refine st rfl ?_ | refine sc rfl ?_ | refine nl ?_ | refine gs rfl rfl ?_ | with_reducible refine gsplit_intro (fun hc => ?_) (fun hc => ?_) <;> (try simp only [decide_eq_true_eq, decide_eq_false_iff_not, ge_iff_le, Int.not_le, Int.not_lt] at hc) <;> (try (exfalso; omega))
 rename_i b3 _ _
 refine r_mkFunc (cs := [.tmp 3, .tmp 4]) (us := [.pointer (some ⟨b3, 0, none⟩), .pointer (some ⟨bq, 0, none⟩)]) rfl rfl ?_
 refine hK _ _ ?_
 clear hK K
 repeat' first | refine vs T rfl fun K hK => ?_; (try simp (disch := omega) only [go_sem, Nat.reduceBEq]); (refine hK _ _ ?_; clear hK K) | refine st rfl ?_ | refine nl ?_
 refine VC.loop {q : Nat × Int // q.1 ≤ p.length ∧ walkF g x p = walkF g q.2 (p.drop q.1)} (fun q => ⟨lookD [(3, pD b3), (4, pD bq), (7, .is (.func (.func 67) #[] #[.pointer (some ⟨b3, 0, none⟩), .pointer (some ⟨bq, 0, none⟩)])), (19, ints p), (20, iD (p.length : Nat)), (21, iD (q.1.1 : Nat))], [(b3, .cells 32 3 (csC g)), (bq, .cells 3 1 [iD q.1.2])]⟩) (fun q => p.length - q.1.1) ⟨(0, x), by dsimp only; exact ⟨Nat.zero_le _, rfl⟩⟩ ?_ ?_
 ·refine Weak.trans (Weak.perm (List.Perm.swap _ _ _)) (Weak_subEq rfl ?_)
  simp [sub, upd, iRs_len]
 rintro ⟨⟨k, y⟩, hk, hw⟩
 dsimp only at hk hw ⊢
 refine VC.nodup fun hn => ?_
 simp only [Heap.blocks, List.map_cons, List.nodup_cons, List.mem_cons, not_or] at hn
 obtain ⟨⟨q1, _⟩, _⟩ := hn
 rcases Nat.lt_or_ge k p.length with hlt | hge
 ·generalize ha : p.getD k 0 = a
  rw [walk_cons' hlt, ha] at hw
  have c2 := follow1_ok g hg y a b3 bq
  repeat' first | refine vs T rfl fun K hK => ?_; (try simp (disch := omega) only [go_sem, Nat.reduceBEq, ix_ints, Int.toNat_natCast, ha]); (first | refine hK _ _ ?_; clear hK K | refine ⟨?_, hK _ _ ?_⟩ <;> clear hK K; focus (try omega) | skip) | refine st rfl ?_ | refine sc rfl ?_ | refine nl ?_ | with_reducible refine gsplit_intro (fun hc => ?_) (fun hc => ?_) <;> (try simp only [decide_eq_true_eq, decide_eq_false_iff_not, Int.not_lt] at hc) <;> (try (exfalso; omega))
  refine Op1.callG (Hr := []) rfl rfl rfl c2 (by rw [List.append_nil]) (fun d H' h => ?_)
  obtain ⟨rfl, rfl⟩ := h
  refine hK _ _ ?_
  clear hK K
  rw [List.append_nil]
  cases hx : decide (nextG g y a = -1) with
  | true =>
   rw [hx] at hw
   simp only [decide_eq_true_eq] at hx
   repeat' first | refine vs T rfl fun K hK => ?_; (try simp (disch := omega) only [go_sem, Nat.reduceBEq, Nat.reduceLeDiff, hx]); (refine hK _ _ ?_; clear hK K) | refine st rfl ?_ | refine sc rfl ?_ | refine nl ?_
   exact ret1 T (List.nil_sublist _) ⟨by rw [hw]; rfl, rfl⟩
  | false =>
   rw [hx] at hw
   simp only [decide_eq_false_iff_not] at hx
   repeat' first | refine vs T rfl fun K hK => ?_; (try simp (disch := omega) only [go_sem, Nat.reduceBEq, Nat.reduceLeDiff, w64]); (refine hK _ _ ?_; clear hK K) | refine st rfl ?_ | refine sc rfl ?_ | refine nl ?_ | with_reducible refine gsplit_intro (fun hc => ?_) (fun hc => ?_) <;> (try simp only [beq_iff_eq, beq_eq_false_iff_ne, ne_eq] at hc) <;> (try (exfalso; omega))
   refine ⟨⟨(k + 1, nextG g y a), by dsimp only; exact ⟨by omega, hw⟩⟩, Weak_subEq rfl ?_, by dsimp only; omega⟩
   simp [sub, upd]
 ·obtain rfl : k = p.length := by omega
  rw [List.drop_length] at hw
  rw [hw]
  repeat' first | refine vs T rfl fun K hK => ?_; (try simp (disch := omega) only [go_sem, Nat.reduceBEq]); (refine hK _ _ ?_; clear hK K) | refine st rfl ?_ | refine sc rfl ?_ | refine nl ?_ | with_reducible refine gsplit_intro (fun hc => ?_) (fun hc => ?_) <;> (try simp only [decide_eq_true_eq, decide_eq_false_iff_not, Int.not_lt] at hc) <;> (try (exfalso; omega))
  exact ret1 T (List.nil_sublist _) ⟨rfl, rfl⟩
end Go.Proofs.YtomcmfbpmkklmaaGreat
