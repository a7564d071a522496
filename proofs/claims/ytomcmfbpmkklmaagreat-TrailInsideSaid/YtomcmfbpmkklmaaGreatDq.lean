/- Contracts: a way by some nodes, the program. No condition. -/
import Derived.Test.YtomcmfbpmkklmaaGreatDp
namespace Go.Proofs.YtomcmfbpmkklmaaGreat
set_option maxHeartbeats 16000000
set_option linter.unusedSimpArgs false
set_option linter.unusedVariables false
set_option maxRecDepth 20000
open Go Go.Proofs Go.Vc
attribute [local irreducible] retQ VCg VCw VCx
abbrev inF (b4 b7 : Nat) : D := .is (.func (.func 69) #[] #[.pointer (some ⟨b7, 0, none⟩), .pointer (some ⟨b4, 0, none⟩)])
abbrev inQ (b4 b7 bm bq : Nat) (g : Cs) (In : List Bool) (F : List Wy) (i : Nat) (pre : List D) (cap : Nat) : Heap :=
 (bq, .cells 3 (pre.length + cap * 1) (pre ++ (F.drop i).map fun e => iD e.1)) :: (bm, .obj (mapI (wayM F))) :: inH b4 b7 g In
theorem perm31 {x y z : Nat × HC} {X : Heap} : (x :: y :: z :: X).Perm (z :: x :: y :: X) := (List.Perm.cons x (List.Perm.swap z y X)).trans (List.Perm.swap z x (y :: X))
theorem fz_insN {H : Heap} : Fz H (insWy none) (.tup [.gs none 0, bD false]) := fz_int0
theorem inside_ok (g : Cs) (hg : OkG g) (hR : rightG g = true) (a b : Int) (In : List Bool) (hI : In.length ≤ 1000000) : Pure Tryz.prog 25 [.agg (csC g), iD a, iD b, bools In] (insWy (insI g a b In)) := by
 have u3 := Tryz.underlying3
 refine Fun.fz ?_
 refine Fun.of T [.tmp 8, .tmp 9] Tryz.func25 rfl Tryz.ntmps25 Tryz.results25 rfl (by kernel_rfl) ?_
 repeat' first | refine vs T rfl fun K hK => ?_; (try simp (disch := omega) only [go_sem, Nat.reduceBEq, Nat.reduceAdd]); (first | refine hK _ _ ?_; clear hK K | intro bq hbq; (try simp only [HB] at hbq); refine hK _ _ ?_; clear hK K | skip) | refine st rfl ?_ | refine nl ?_
 rename_i b4 _
 refine r_mkFunc (cs := [.tmp 7, .tmp 4]) (us := [.pointer (some ⟨bq, 0, none⟩), .pointer (some ⟨b4, 0, none⟩)]) rfl rfl ?_
 refine hK _ _ ?_
 clear hK K
 have ca := inside1_ok g hg hR In hI a b4 bq
 have cb := inside1_ok g hg hR In hI b b4 bq
 repeat' first | refine vs T rfl fun K hK => ?_; (try simp (disch := omega) only [go_sem, Nat.reduceBEq]); (first | refine hK _ _ ?_; clear hK K | skip) | refine st rfl ?_ | refine nl ?_
 refine Op1.callG (Hr := []) rfl rfl rfl ca (by rw [List.append_nil]) (fun d H' h => ?_)
 obtain ⟨rfl, rfl⟩ := h
 refine hK _ _ ?_
 clear hK K
 rw [List.append_nil]
 cases hA : okI g In a with
 | false =>
  have : insI g a b In = none := by simp only [insI, hA, Bool.false_and]
  rw [this]
  repeat' first | refine vs T rfl fun K hK => ?_; (try simp (disch := omega) only [go_sem, Nat.reduceBEq, Bool.not_false]); (refine hK _ _ ?_; clear hK K) | refine st rfl ?_ | refine sc rfl ?_ | refine nl ?_ | refine gs rfl rfl ?_
  exact ret2 T (List.nil_sublist _) fz_insN
 | true =>
 repeat' first | refine vs T rfl fun K hK => ?_; (try simp (disch := omega) only [go_sem, Nat.reduceBEq, Bool.not_true]); (first | refine hK _ _ ?_; clear hK K | skip) | refine gs rfl rfl ?_
 refine Op1.callG (Hr := []) rfl rfl rfl cb (by rw [List.append_nil]) (fun d H' h => ?_)
 obtain ⟨rfl, rfl⟩ := h
 refine hK _ _ ?_
 clear hK K
 rw [List.append_nil]
 cases hB : okI g In b with
 | false =>
  have : insI g a b In = none := by simp only [insI, hA, hB, Bool.and_false]
  rw [this]
  repeat' first | refine vs T rfl fun K hK => ?_; (try simp (disch := omega) only [go_sem, Nat.reduceBEq, Bool.not_false]); (refine hK _ _ ?_; clear hK K) | refine st rfl ?_ | refine sc rfl ?_ | refine nl ?_ | refine gs rfl rfl ?_
  exact ret2 T (List.nil_sublist _) fz_insN
 | true =>
 repeat' first | refine vt rfl fun K hK => ?_; refine r_buildO T (l := [iD a]) rfl rfl rfl rfl (by decide) <| fun bq hbq => ?_; refine hK _ _ ?_; clear hK K; (try simp only [updO]) | refine vt rfl fun K hK => ?_; refine r_makeMap rfl umW (fun x hx => (by cases hx)) (fun bq hbq => ?_); (try simp only [HB] at hbq); refine hK _ _ ?_; clear hK K; (try simp only [updO]) | refine vt rfl fun K hK => ?_; refine r_mapSet (by exact .inr rfl) umW u3 rfl rfl rfl (by (try simp (disch := omega) only [hget_eq]); rfl) (by rfl) ?_; refine hK _ _ ?_; clear hK K; (try simp (disch := omega) only [updO, hset_eq, List.nil_append]) | refine vs T rfl fun K hK => ?_; (try simp (disch := omega) only [go_sem, Nat.reduceBEq, Nat.reduceAdd, Nat.reduceMul, Bool.not_true]); (refine hK _ _ ?_; clear hK K) | refine st rfl ?_ | refine sc rfl ?_ | refine nl ?_ | refine gs rfl rfl ?_
 rename_i b7 _ bm _
 have hbn : nodesG g ≤ 1000000 := by have := hg.st; simp only [nodesG, hR]; omega
 have haok : 0 ≤ a ∧ a < nodesG g := by simp only [okI, Bool.and_eq_true, decide_eq_true_eq] at hA; exact hA.1
 have hE0 : insI g a b In = goI g In b (nodesG g + 1) 0 [(a, -1, -1, [])] := by simp only [insI, hA, hB, Bool.and_self]
 generalize hn : nodesG g = n at *
 refine VC.loop {p : Nat × List Wy × Nat × List D × Nat // p.1 ≤ p.2.1.length ∧ IW n p.2.1 ∧ insI g a b In = goI g In b (n + 1 - p.1) p.1 p.2.1 ∧ p.2.1.length - p.1 ≤ p.2.2.2.2}
  (fun p => ⟨lookD [(2, iD b), (4, pD b4), (10, inF b4 b7), (11, .is (.map (some bm))), (12, .os p.1.2.2.1 p.1.2.2.2.1.length (p.1.2.1.length - p.1.1) p.1.2.2.2.2)], inQ b4 b7 bm p.1.2.2.1 g In p.1.2.1 p.1.1 p.1.2.2.2.1 p.1.2.2.2.2⟩)
  (fun p => n + 1 - p.1.1) ⟨(0, [(a, -1, -1, [])], bq, [], 1), by dsimp only; exact ⟨by simp, IW.one haok, hE0, by simp⟩⟩ ?_ ?_
 ·refine Weak_subEq rfl ?_
  simp [sub, upd]
 clear hbq bq hE0
 rintro ⟨⟨i, F, bq, pre, cap⟩, hi, hF, hE, hcap⟩
 dsimp only at hi hF hE hcap ⊢
 have hFl := hF.len
 refine VC.nodup fun hnd => ?_
 simp only [Heap.blocks, List.map_cons, List.nodup_cons, List.mem_cons, not_or] at hnd
 obtain ⟨⟨q1, q2, q3, _⟩, ⟨q4, q5, _⟩, ⟨q6, _⟩, _⟩ := hnd
 rcases Nat.lt_or_ge i F.length with hlt | hge
 case inr =>
  obtain rfl : i = F.length := by omega
  rw [goI_end (Nat.le_refl _)] at hE
  rw [hE]
  repeat' first | refine vs T rfl fun K hK => ?_; (try simp (disch := omega) only [go_sem, Nat.reduceBEq]); (refine hK _ _ ?_; clear hK K) | refine st rfl ?_ | refine sc rfl ?_ | refine nl ?_ | with_reducible refine gsplit_intro (fun hc => ?_) (fun hc => ?_) <;> (try simp only [decide_eq_true_eq, decide_eq_false_iff_not, gt_iff_lt, Int.not_lt] at hc) <;> (try (exfalso; omega))
  exact ret2 T (List.nil_sublist _) fz_insN
 obtain ⟨e, he⟩ : ∃ e, F[i]? = some e := ⟨_, getD_at (d := default) hlt⟩
 rw [show n + 1 - i = (n - i) + 1 by omega, goI_at he] at hE
 have hdr : F.drop i = e :: F.drop (i + 1) := by rw [List.drop_eq_getElem_cons hlt]; congr 1; rw [List.getElem?_eq_getElem hlt] at he; exact Option.some.inj he
 have hld : (pre ++ (F.drop i).map fun e => iD e.1)[pre.length]? = some (iD e.1) := by rw [hdr, List.getElem?_append_right (Nat.le_refl _)]; simp
 have co := eout_ok g hg e.1
 cases hx : decide (e.1 = b) with
 | true =>
  rw [hx] at hE
  simp only [decide_eq_true_eq] at hx
  rw [hE]
  repeat' first | refine vt rfl fun K hK => ?_; refine r_indexO T rfl rfl rfl rfl (by omega) ?_; refine hK _ _ ?_; clear hK K; (try simp only [updO]) | refine vt rfl fun K hK => ?_; refine r_sliceO T (k := 1) rfl rfl rfl rfl (by omega) ?_; refine hK _ _ ?_; clear hK K; (try simp only [updO]) | refine vs T rfl fun K hK => ?_; (try simp (disch := omega) only [go_sem, Nat.reduceBEq, Nat.reduceMul, hld, hx, Int.toNat_zero]); (first | refine hK _ _ ?_; clear hK K | skip) | refine st rfl ?_ | refine sc rfl ?_ | refine nl ?_ | with_reducible refine gsplit_intro (fun hc => ?_) (fun hc => ?_) <;> (try simp only [decide_eq_true_eq, decide_eq_false_iff_not, gt_iff_lt, Int.not_lt] at hc) <;> (try (exfalso; omega))
  have ck := back_ok n hbn F hF i e he bm
  rw [hx] at ck
  refine Op1.callG (Hp := [(bm, .obj (mapI (wayM F)))]) (Hr := (bq, .cells 3 (pre.length + cap * 1) (pre ++ (F.drop i).map fun e => iD e.1)) :: inH b4 b7 g In) rfl rfl rfl ck (perm_of fun a => by simp only [cnt_cons, cnt_app, cnt_nil]; omega) (fun d H' h => ?_)
  obtain ⟨ga, hga, rfl, rfl⟩ := h
  refine hK _ _ ?_
  clear hK K
  repeat' first | refine vs T rfl fun K hK => ?_; (try simp (disch := omega) only [go_sem, Nat.reduceBEq]); (refine hK _ _ ?_; clear hK K) | refine st rfl ?_ | refine nl ?_
  exact ret2 T (List.Sublist.refl _) (fz_int2 (e := 3) hga fun bb cc q => by subst q; exact List.mem_append_left _ mem_shp0)
 | false =>
 rw [hx] at hE
 simp only [decide_eq_false_iff_not] at hx
 repeat' first | refine vt rfl fun K hK => ?_; refine r_indexO T rfl rfl rfl rfl (by omega) ?_; refine hK _ _ ?_; clear hK K; (try simp only [updO]) | refine vt rfl fun K hK => ?_; refine r_sliceO T (k := 1) rfl rfl rfl rfl (by omega) ?_; refine hK _ _ ?_; clear hK K; (try simp only [updO]) | refine vs T rfl fun K hK => ?_; (try simp (disch := omega) only [go_sem, Nat.reduceBEq, Nat.reduceAdd, Nat.reduceMul, Nat.reduceLeDiff, hld, Int.toNat_zero]); (first | refine hK _ _ ?_; clear hK K | refine Op1.callp rfl rfl (co) rfl ?_; refine hK _ _ ?_; clear hK K) | refine st rfl ?_ | refine sc rfl ?_ | refine nl ?_ | with_reducible refine gsplit_intro (fun hc => ?_) (fun hc => ?_) <;> (try simp only [decide_eq_true_eq, decide_eq_false_iff_not, beq_iff_eq, beq_eq_false_iff_ne, ne_eq, gt_iff_lt, Int.not_lt] at hc) <;> (try (exfalso; omega))
 have hto : ∀ d, d ∈ outG g e.1 → 0 ≤ d.2.2 ∧ d.2.2 < n := fun d hd => by rw [← hn]; exact (outG_to d hd).1
 have hLl := outG_len hg e.1
 generalize outG g e.1 = L at *
 refine VC.loop {p : Nat × List Wy × Nat × List D × Nat // p.1 ≤ L.length ∧ IW n p.2.1 ∧ p.2.1[i]? = some e ∧ insI g a b In = goI g In b (n - i) (i + 1) (rowI In e.1 e.2.2.2 p.2.1 (L.drop p.1)) ∧ p.2.1.length - (i + 1) ≤ p.2.2.2.2}
  (fun p => ⟨lookD [(2, iD b), (4, pD b4), (10, inF b4 b7), (11, .is (.map (some bm))), (12, .os p.1.2.2.1 p.1.2.2.2.1.length (p.1.2.1.length - (i + 1)) p.1.2.2.2.2), (13, iD e.1), (51, edsD L), (52, iD (L.length : Nat)), (53, iD (p.1.1 : Nat))], inQ b4 b7 bm p.1.2.2.1 g In p.1.2.1 (i + 1) p.1.2.2.2.1 p.1.2.2.2.2⟩)
  (fun p => L.length - p.1.1) ⟨(0, F, bq, pre ++ [iD e.1], cap - 1), by dsimp only; exact ⟨Nat.zero_le _, hF, he, hE, by omega⟩⟩ ?_ ?_
 ·refine Weak_subEq ?_ ?_
  ·dsimp only [inQ]
   rw [hdr, List.map_cons, List.append_assoc, List.length_append, show pre.length + cap * 1 = pre.length + [iD e.1].length + (cap - 1) * 1 by simp only [List.length_cons, List.length_nil]; omega]
   rfl
  ·simp [sub, upd, edRs_len]
   omega
 clear q1 q2 q3 q4 q5 q6 hld hdr hE he hF hFl hi hcap hlt co
 rintro ⟨⟨k, G', bk, pre, cap⟩, hk, hF, he, hE, hcap⟩
 dsimp only at hk hF he hE hcap ⊢
 have hFl := hF.len
 have hlt := at_lt he
 refine VC.nodup fun hnd => ?_
 simp only [Heap.blocks, List.map_cons, List.nodup_cons, List.mem_cons, not_or] at hnd
 obtain ⟨⟨q1, q2, q3, _⟩, ⟨q4, q5, _⟩, ⟨q6, _⟩, _⟩ := hnd
 rcases Nat.lt_or_ge k L.length with hkl | hge
 case inr =>
  obtain rfl : k = L.length := by omega
  rw [List.drop_length] at hE
  repeat' first | refine vs T rfl fun K hK => ?_; (try simp (disch := omega) only [go_sem, Nat.reduceBEq]); (refine hK _ _ ?_; clear hK K) | refine st rfl ?_ | refine sc rfl ?_ | refine nl ?_ | with_reducible refine gsplit_intro (fun hc => ?_) (fun hc => ?_) <;> (try simp only [decide_eq_true_eq, decide_eq_false_iff_not, Int.not_lt] at hc) <;> (try (exfalso; omega))
  refine ⟨⟨(i + 1, G', bk, pre, cap), by dsimp only; exact ⟨by omega, hF, by rw [hE, show n + 1 - (i + 1) = n - i by omega]; rfl, hcap⟩⟩, Weak_subEq rfl ?_, by dsimp only; omega⟩
  simp [sub, upd]
 rw [rowI_cons hkl] at hE
 have htk := hto _ (getD_mem (d := ((0, 0, 0) : Ed)) hkl)
 have hst := hF.step he (In := In) htk
 obtain ⟨d, hd⟩ : ∃ d, d = L.getD k (0, 0, 0) := ⟨_, rfl⟩
 rw [← hd] at hE htk hst
 obtain ⟨d1, d2, d3⟩ := d
 dsimp only at hE htk hst
 cases hh : hasN G' d3 with
 | true =>
  obtain ⟨α, β, hf⟩ := findI_yes hh
  have hs : stepI In e.1 e.2.2.2 G' (d1, d2, d3) = G' := by simp only [stepI, hh, Bool.not_true, Bool.and_false]
  rw [hs] at hE
  repeat' first | refine vt rfl fun K hK => ?_; refine r_lookI (l := wayM G') rfl umW u3 zW rfl rfl (by simp (disch := omega) only [hget_ne, hget_eq]) (r := (wV α β, true)) (by rw [hf]) (wV_one _ _) ?_; refine hK _ _ ?_; clear hK K; (try simp only [updO]) | refine vs T rfl fun K hK => ?_; (try simp (disch := omega) only [go_sem, Nat.reduceBEq, Nat.reduceAdd, Nat.reduceLeDiff, ix_eds, Int.toNat_natCast, ← hd, edR, valW, Bool.not_true, w64]); (first | refine hK _ _ ?_; clear hK K | intro bq hbq; (try simp only [HB] at hbq); refine hK _ _ ?_; clear hK K | refine ⟨?_, hK _ _ ?_⟩ <;> clear hK K; focus (try omega)) | refine st rfl ?_ | refine sc rfl ?_ | refine nl ?_ | refine gs rfl rfl ?_ | with_reducible refine gsplit_intro (fun hc => ?_) (fun hc => ?_) <;> (try simp only [decide_eq_true_eq, decide_eq_false_iff_not, Int.not_lt] at hc) <;> (try (exfalso; omega))
  refine ⟨⟨(k + 1, G', bk, pre, cap), by dsimp only; exact ⟨by omega, hF, he, hE, hcap⟩⟩, Weak_subH2 rfl ?_, by dsimp only; omega⟩
  simp [sub, upd]
 | false =>
 have hf := findI_no hh
 have c1 := inside1_ok g hg hR In hI d3 b4 b7
 cases hin : isN In d3 with
 | false =>
  have hs : stepI In e.1 e.2.2.2 G' (d1, d2, d3) = G' := by simp only [stepI, hin, Bool.false_and]
  rw [hs] at hE
  rw [show okI g In d3 = false by simp only [okI, hin, Bool.and_false]] at c1
  repeat' first | refine vt rfl fun K hK => ?_; refine r_lookI (l := wayM G') rfl umW u3 zW rfl rfl (by simp (disch := omega) only [hget_ne, hget_eq]) (r := (wV 0 0, false)) (by rw [hf]) (wV_one _ _) ?_; refine hK _ _ ?_; clear hK K; (try simp only [updO]) | refine vs T rfl fun K hK => ?_; (try simp (disch := omega) only [go_sem, Nat.reduceBEq, Nat.reduceAdd, Nat.reduceLeDiff, ix_eds, Int.toNat_natCast, ← hd, edR, valW, Bool.not_false]); (first | refine hK _ _ ?_; clear hK K | intro bq hbq; (try simp only [HB] at hbq); refine hK _ _ ?_; clear hK K | refine ⟨?_, hK _ _ ?_⟩ <;> clear hK K; focus (try omega) | skip) | refine st rfl ?_ | refine sc rfl ?_ | refine nl ?_ | refine gs rfl rfl ?_ | with_reducible refine gsplit_intro (fun hc => ?_) (fun hc => ?_) <;> (try simp only [decide_eq_true_eq, decide_eq_false_iff_not, Int.not_lt] at hc) <;> (try (exfalso; omega))
  rename_i b15 _
  refine Op1.callG (Hp := inH b4 b7 g In) (Hr := (bq, .cells 102 2 [iD 0, iD 0]) :: (b15, .cells 62 3 [iD d1, iD d2, iD d3]) :: (bk, .cells 3 (pre.length + cap * 1) (pre ++ (G'.drop (i + 1)).map fun e => iD e.1)) :: (bm, .obj (mapI (wayM G'))) :: []) rfl rfl rfl c1 (perm_of fun a => by simp only [cnt_cons, cnt_app, cnt_nil]; omega) (fun d H' h => ?_)
  obtain ⟨rfl, rfl⟩ := h
  refine hK _ _ ?_
  clear hK K
  refine vo ?_
  refine VCo.weak (Weak.perm (H' := (bq, .cells 102 2 [iD 0, iD 0]) :: (b15, .cells 62 3 [iD d1, iD d2, iD d3]) :: inQ b4 b7 bm bk g In G' (i + 1) pre cap) (perm_of fun a => by simp only [cnt_cons, cnt_app, cnt_nil]; omega)) ?_
  repeat' first | refine vs T rfl fun K hK => ?_; (try simp (disch := omega) only [go_sem, Nat.reduceBEq, w64]); (refine hK _ _ ?_; clear hK K) | refine st rfl ?_ | refine sc rfl ?_ | refine nl ?_ | refine ov ?_
  refine ⟨⟨(k + 1, G', bk, pre, cap), by dsimp only; exact ⟨by omega, hF, he, hE, hcap⟩⟩, Weak_subH2 rfl ?_, by dsimp only; omega⟩
  simp [sub, upd]
 | true =>
  have hs : stepI In e.1 e.2.2.2 G' (d1, d2, d3) = G' ++ [(d3, e.1, d2, e.2.2.2 ++ [d2])] := by simp only [stepI, hin, hh, Bool.not_false, Bool.and_self]
  rw [hs] at hE hst
  rw [show okI g In d3 = true by simp only [okI, hin, hn, decide_eq_true htk.1, decide_eq_true htk.2, Bool.and_self]] at c1
  repeat' first | refine vt rfl fun K hK => ?_; refine r_lookI (l := wayM G') rfl umW u3 zW rfl rfl (by simp (disch := omega) only [hget_ne, hget_eq]) (r := (wV 0 0, false)) (by rw [hf]) (wV_one _ _) ?_; refine hK _ _ ?_; clear hK K; (try simp only [updO]) | refine vs T rfl fun K hK => ?_; (try simp (disch := omega) only [go_sem, Nat.reduceBEq, Nat.reduceAdd, Nat.reduceLeDiff, ix_eds, Int.toNat_natCast, ← hd, edR, valW, Bool.not_false]); (first | refine hK _ _ ?_; clear hK K | intro bq hbq; (try simp only [HB] at hbq); refine hK _ _ ?_; clear hK K | refine ⟨?_, hK _ _ ?_⟩ <;> clear hK K; focus (try omega) | skip) | refine st rfl ?_ | refine sc rfl ?_ | refine nl ?_ | refine gs rfl rfl ?_ | with_reducible refine gsplit_intro (fun hc => ?_) (fun hc => ?_) <;> (try simp only [decide_eq_true_eq, decide_eq_false_iff_not, Int.not_lt] at hc) <;> (try (exfalso; omega))
  rename_i b15 _
  refine Op1.callG (Hp := inH b4 b7 g In) (Hr := (bq, .cells 102 2 [iD 0, iD 0]) :: (b15, .cells 62 3 [iD d1, iD d2, iD d3]) :: (bk, .cells 3 (pre.length + cap * 1) (pre ++ (G'.drop (i + 1)).map fun e => iD e.1)) :: (bm, .obj (mapI (wayM G'))) :: []) rfl rfl rfl c1 (perm_of fun a => by simp only [cnt_cons, cnt_app, cnt_nil]; omega) (fun d H' h => ?_)
  obtain ⟨rfl, rfl⟩ := h
  refine hK _ _ ?_
  clear hK K
  refine vo ?_
  refine VCo.weak (Weak.perm (H' := (bq, .cells 102 2 [iD 0, iD 0]) :: (b15, .cells 62 3 [iD d1, iD d2, iD d3]) :: inQ b4 b7 bm bk g In G' (i + 1) pre cap) (perm_of fun a => by simp only [cnt_cons, cnt_app, cnt_nil]; omega)) ?_
  have hql : (pre ++ (G'.drop (i + 1)).map fun e => iD e.1).length = pre.length + (G'.length - (i + 1)) * 1 := by rw [List.length_append, List.length_map, List.length_drop]; omega
  repeat' first | refine vt rfl fun K hK => ?_; refine Op1.perm perm31 <| r_appO T (l := pre ++ (G'.drop (i + 1)).map fun e => iD e.1) (news := [iD d3]) (m := 1) rfl rfl rfl hql ⟨rfl, rfl, rfl⟩ (by decide) ⟨by decide, by decide, by omega⟩ <| fun bk' pre' cap' hc' => ?_; refine hK _ _ ?_; clear hK K; (try simp only [updO]) | refine vt rfl fun K hK => ?_; refine r_mapSet (by exact .inl rfl) umW u3 rfl rfl rfl (by (try simp (disch := omega) only [hget_eq, hget_ne]); rfl) (by assumption) ?_; refine hK _ _ ?_; clear hK K; (try simp (disch := omega) only [updO, hset_eq, hset_ne]) | refine vs T rfl fun K hK => ?_; (try simp (disch := omega) only [go_sem, Nat.reduceBEq, Nat.reduceAdd, Nat.reduceMul, Nat.reduceLeDiff, w64]); (refine hK _ _ ?_; clear hK K) | refine st rfl ?_ | refine sc rfl ?_ | refine nl ?_ | refine ov ?_
  refine ⟨⟨(k + 1, G' ++ [(d3, e.1, d2, e.2.2.2 ++ [d2])], bk', pre', cap'), by dsimp only; exact ⟨by omega, hst, by rw [List.getElem?_append_left hlt]; exact he, hE, by rw [List.length_append, List.length_cons, List.length_nil]; omega⟩⟩, Weak.subH ?_ ?_, by dsimp only; omega⟩
  ·dsimp only [inQ]
   rw [List.drop_left, List.drop_append_of_le_length (by omega), List.map_append, wayM, wayM, List.map_append]
   exact List.Sublist.cons_cons _ ((List.sublist_cons_self _ _).trans (List.sublist_cons_self _ _))
  ·simp [sub, upd]
   omega
end Go.Proofs.YtomcmfbpmkklmaaGreat
