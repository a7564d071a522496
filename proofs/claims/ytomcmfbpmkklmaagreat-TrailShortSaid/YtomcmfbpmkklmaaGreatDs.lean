/- Contracts: the agents by which a node was found. No condition. -/
import Derived.Test.YtomcmfbpmkklmaaGreatDp
import Derived.Test.YtomcmfbpmkklmaaGreatDg
namespace Go.Proofs.YtomcmfbpmkklmaaGreat
set_option maxHeartbeats 16000000
set_option linter.unusedSimpArgs false
set_option linter.unusedVariables false
set_option maxRecDepth 20000
open Go Go.Proofs Go.Vc
attribute [local irreducible] retQ VCg VCw VCx
def wV (a b : Int) : Value := .agg #[.int .i64 a, .int .i64 b]
def wayM (F : List Wy) : List (Int × Value) := F.map fun e => (e.1, wV e.2.1 e.2.2.1)
theorem findI_no {x : Int} : ∀ {F : List Wy}, hasN F x = false → findI x (wayM F) = none
 | [], _ => rfl
 | e :: F, h => by
  simp only [hasN, List.any_cons, Bool.or_eq_false_iff, decide_eq_false_iff_not] at h
  have hx : (x == e.1) = false := by simpa using fun q => h.1 q.symm
  simp only [wayM, List.map_cons, findI, hx, cond_false]
  exact findI_no h.2
theorem findI_at {F : List Wy} : (F.map (·.1)).Nodup → ∀ {j : Nat} {e : Wy}, F[j]? = some e → findI e.1 (wayM F) = some (wV e.2.1 e.2.2.1) := by
 induction F with
 | nil => intro _ j e h; simp at h
 | cons y F ih =>
  intro hn j e h
  obtain ⟨h1, h2⟩ := List.nodup_cons.1 hn
  cases j with
  | zero => cases h; simp only [wayM, List.map_cons, findI, beq_self_eq_true, cond_true]
  | succ j =>
   have hm : e ∈ F := List.mem_of_getElem? h
   have hx : (e.1 == y.1) = false := by simpa using fun q => h1 (List.mem_map.2 ⟨e, hm, q⟩)
   simp only [wayM, List.map_cons, findI, hx, cond_false]
   exact ih h2 h
theorem findI_yes {x : Int} {F : List Wy} (h : hasN F x = true) : ∃ a b, findI x (wayM F) = some (wV a b) := by
 induction F with
 | nil => cases h
 | cons y F ih =>
  by_cases hx : x = y.1
  ·exact ⟨y.2.1, y.2.2.1, by simp only [wayM, List.map_cons, findI, hx, beq_self_eq_true, cond_true]⟩
  ·have hx' : (x == y.1) = false := by simpa using hx
   simp only [hasN, List.any_cons, Bool.or_eq_true, decide_eq_true_eq] at h
   obtain ⟨a, b, q⟩ := ih (h.resolve_left fun q => hx q.symm)
   exact ⟨a, b, by simp only [wayM, List.map_cons, findI, hx', cond_false]; exact q⟩
theorem umW : Tryz.prog.underlying 103 = some (.map 3 102) := by kernel_rfl
theorem zW : (Tryz.prog.info? 102).bind (·.zero) = some (wV 0 0) := by kernel_rfl
theorem wV_one (a b : Int) : ∀ cs, wV a b = .agg cs → cs.toList.all Value.oneCell' = true := fun cs h => by cases h; rfl
theorem valW (a b : Int) : valD (wV a b) = .agg [iD a, iD b] := rfl
theorem up_at {n : Nat} {F : List Wy} (h : IW n F) {j : Nat} {e : Wy} (he : F[j]? = some e) (hp : e.2.1 ≠ -1) : ∃ (j' : Nat) (e' : Wy), j' < j ∧ F[j']? = some e' ∧ e'.1 = e.2.1 ∧ e.2.2.2 = e'.2.2.2 ++ [e.2.2.1] := by
 rcases h.up j e he with h1 | h1
 ·exact absurd h1.1 hp
 ·exact h1
theorem up_end {n : Nat} {F : List Wy} (h : IW n F) {j : Nat} {e : Wy} (he : F[j]? = some e) (hp : e.2.1 = -1) : e.2.2.2 = [] := by
 rcases h.up j e he with h1 | ⟨j', e', h1, h2, h3, h4⟩
 ·exact h1.2
 ·have := h.bd e' (List.mem_of_getElem? h2); omega
theorem IW.path {n : Nat} {F : List Wy} (h : IW n F) : ∀ (k j : Nat) (e : Wy), j ≤ k → F[j]? = some e → e.2.2.2.length ≤ j
 | k, j, e, hk, he => by
  rcases h.up j e he with h1 | ⟨j', e', h1, h2, h3, h4⟩
  ·rw [h1.2]; exact Nat.zero_le _
  ·cases k with
   | zero => omega
   | succ k =>
    have := IW.path h k j' e' (by omega) h2
    rw [h4, List.length_append, List.length_cons, List.length_nil]
    omega
theorem at_lt {α : Type} {l : List α} {i : Nat} {x : α} (h : l[i]? = some x) : i < l.length := by
 rcases Nat.lt_or_ge i l.length with h1 | h1
 ·exact h1
 ·rw [List.getElem?_eq_none h1] at h; cases h
theorem back_ok (n : Nat) (hn : n ≤ 1000000) (F : List Wy) (hF : IW n F) (j0 : Nat) (e0 : Wy) (h0 : F[j0]? = some e0) (bm : Nat) : Fun Tryz.prog 70 [.is (.map (some bm)), iD e0.1] [(bm, .obj (mapI (wayM F)))] false
  (fun d H' => ∃ x : Option (Nat × Nat), gOk x e0.2.2.2.length ∧ d = .gs x e0.2.2.2.length ∧ H' = shp x 3 1 (e0.2.2.2.map iD) [(bm, .obj (mapI (wayM F)))]) := by
 have hf := findI_at hF.nd h0
 have hlen := hF.len
 have u3 := Tryz.underlying3
 refine Fun.of T [.tmp 4] Tryz.func70 rfl Tryz.ntmps70 Tryz.results70 rfl (by kernel_rfl) ?_
 repeat' first | refine vt rfl fun K hK => ?_; refine r_lookJ rfl umW u3 rfl rfl hget_eq hf (wV_one _ _) ?_; refine hK _ _ ?_; clear hK K; (try simp only [updO]) | refine vs T rfl fun K hK => ?_; (try simp (disch := omega) only [go_sem, Nat.reduceBEq, Nat.reduceAdd, Nat.reduceLeDiff, valW]); (first | refine hK _ _ ?_; clear hK K | intro bq hbq; (try simp only [HB] at hbq); refine hK _ _ ?_; clear hK K) | refine st rfl ?_ | refine nl ?_
 have hp0 := hF.path j0 j0 e0 (Nat.le_refl _) h0
 have hj0 := at_lt h0
 refine VC.loop {p : Nat × Wy × List Int × Option (Nat × Nat) × Nat // F[p.1]? = some p.2.1 ∧ p.2.1.2.2.2 ++ p.2.2.1.reverse = e0.2.2.2 ∧ gOk p.2.2.2.1 p.2.2.1.length} (fun p => ⟨lookD [(0, .is (.map (some bm))), (5, .gs p.1.2.2.2.1 p.1.2.2.1.length), (6, pD p.1.2.2.2.2)],
  (p.1.2.2.2.2, .cells 102 2 [iD p.1.2.1.2.1, iD p.1.2.1.2.2.1]) :: (bm, .obj (mapI (wayM F))) :: shp p.1.2.2.2.1 3 1 (p.1.2.2.1.map iD) []⟩) (fun p => p.1.1) ⟨(j0, e0, [], none, bq), by dsimp only; exact ⟨h0, by simp, rfl⟩⟩ ?_ ?_
 ·refine Weak_subEq rfl ?_
  simp [sub, upd]
 clear hf hbq bq
 rintro ⟨⟨j, e, l, ga, bw⟩, he, hl, hga⟩
 dsimp only at he hl hga ⊢
 have hll : l.length ≤ e0.2.2.2.length := by rw [← hl, List.length_append, List.length_reverse]; omega
 refine VC.nodup fun hn => ?_
 simp only [Heap.blocks, List.map_cons, List.nodup_cons, List.mem_cons, not_or] at hn
 obtain ⟨⟨q1, _⟩, _⟩ := hn
 by_cases hw : e.2.1 = -1
 ·have hz := up_end hF he hw
  rw [hz, List.nil_append] at hl
  repeat' first | refine vs T rfl fun K hK => ?_; (try simp (disch := omega) only [go_sem, Nat.reduceBEq, hw]); (first | refine hK _ _ ?_; clear hK K | skip) | refine st rfl ?_ | refine sc rfl ?_ | refine nl ?_
  refine Op1.cally (Hp := shp ga 3 1 (l.map iD) []) (Hr := [(bw, .cells 102 2 [iD (-1), iD e.2.2.1]), (bm, .obj (mapI (wayM F)))]) rfl rfl (reversed_ok ga l hga (by omega)) rfl (perm_of fun a => by simp only [cnt_cons, cnt_shp, cnt_app, cnt_nil]; omega) (fun q hq => ?_)
  refine hK _ _ ?_
  clear hK K
  repeat' first | refine vs T rfl fun K hK => ?_; (try simp (disch := omega) only [go_sem, Nat.reduceBEq]); (refine hK _ _ ?_; clear hK K) | refine st rfl ?_ | refine nl ?_
  refine ret1 T (H' := shp ga 3 1 (e0.2.2.2.map iD) [(bm, .obj (mapI (wayM F)))]) ?_ ⟨ga, by rw [← hl, List.length_reverse]; exact hga, by rw [← hl, List.length_reverse]; rfl, rfl⟩
  rw [← hl, show shp ga 3 1 (l.reverse.map iD) [(bm, .obj (mapI (wayM F)))] = shp ga 3 1 (l.reverse.map iD) [] ++ [(bm, .obj (mapI (wayM F)))] by rw [shp_app]; rfl]
  exact List.Sublist.append (List.Sublist.refl _) (List.sublist_cons_self _ _)
 ·obtain ⟨j', e', h1, h2, h3, h4⟩ := up_at hF he hw
  have hf := findI_at hF.nd h2
  rw [h3] at hf
  repeat' first | refine vt rfl fun K hK => ?_; refine r_lookJ rfl umW u3 rfl rfl (by simp (disch := omega) only [hget_ne, hget_eq]) hf (wV_one _ _) ?_; refine hK _ _ ?_; clear hK K; (try simp only [updO]) | refine vs T rfl fun K hK => ?_; (try simp (disch := omega) only [go_sem, Nat.reduceBEq, Nat.reduceAdd, Nat.reduceMul, Nat.reduceLeDiff, valW]); (first | refine hK _ _ ?_; clear hK K | refine ⟨_, _, _, _, (by repeat (first | exact Sp.here | apply Sp.cons)), ?_, (by exact ⟨rfl, rfl⟩), ⟨by decide, ?_⟩, fun g' hg' => hK _ _ ?_⟩ <;> clear hK K | intro bq hbq; (try simp only [HB] at hbq); refine hK _ _ ?_; clear hK K) | refine st rfl ?_ | refine sc rfl ?_ | refine nl ?_ | with_reducible refine gsplit_intro (fun hc => ?_) (fun hc => ?_) <;> (try simp only [bne_iff_ne, bne_eq_false_iff_eq, ne_eq] at hc) <;> (try (exfalso; omega))
  ·simp
  ·omega
  ·refine ⟨⟨(j', e', l ++ [e.2.2.1], g', bq), by dsimp only; exact ⟨h2, by rw [← hl, h4]; simp, by rw [List.length_append]; exact hg'⟩⟩, Weak.subH ?_ ?_, by dsimp only; omega⟩
   ·dsimp only
    rw [List.map_append]
    exact List.Sublist.cons_cons _ (List.sublist_cons_self _ _)
   ·simp [sub, upd]
abbrev inF (b4 b7 : Nat) : D := .is (.func (.func 69) #[] #[.pointer (some ⟨b7, 0, none⟩), .pointer (some ⟨b4, 0, none⟩)])
abbrev inQ (b4 b7 bm bq : Nat) (g : Cs) (In : List Bool) (F : List Wy) (i : Nat) (pre : List D) (cap : Nat) : Heap :=
 (bq, .cells 3 (pre.length + cap * 1) (pre ++ (F.drop i).map fun e => iD e.1)) :: (bm, .obj (mapI (wayM F))) :: inH b4 b7 g In
theorem perm31 {x y z : Nat × HC} {X : Heap} : (x :: y :: z :: X).Perm (z :: x :: y :: X) := (List.Perm.cons x (List.Perm.swap z y X)).trans (List.Perm.swap z x (y :: X))
theorem fz_insN {H : Heap} : Fz H (insWy none) (.tup [.gs none 0, bD false]) := fz_int0
theorem inside_ok (g : Cs) (hg : OkG g) (hR : rightG g = true) (a b : Int) (In : List Bool) (hI : In.length ≤ 1000000) : Pure Tryz.prog 25 [.agg (csC g), iD a, iD b, bools In] (insWy (insI g a b In)) := by
 have u3 := Tryz.underlying3
 refine Fun.fz ?_
 refine Fun.of T [.tmp 8, .tmp 9] Tryz.func25 rfl Tryz.ntmps25 Tryz.results25 rfl (by kernel_rfl) ?_
 repeat' first | refine vs T rfl fun K hK => ?_; (try simp (disch := omega) only [go_sem, Nat.reduceBEq, Nat.reduceAdd]); (first | refine hK _ _ ?_; clear hK K | intro bq hbq; (try simp only [HB] at hbq); refine hK _ _ ?_; clear hK K | skip) | refine st rfl ?_ | refine nl ?_
 rename_i b4 _
 refine r_mkFunc (cs := [.tmp 7, .tmp 4]) (us := [.pointer (some ⟨bq, 0, none⟩), .pointer (some ⟨b4, 0, none⟩)]) rfl rfl ?_
 refine hK _ _ ?_
 clear hK K
 have ca := inside1_ok g hg hR In hI a b4 bq
 have cb := inside1_ok g hg hR In hI b b4 bq
 repeat' first | refine vs T rfl fun K hK => ?_; (try simp (disch := omega) only [go_sem, Nat.reduceBEq]); (first | refine hK _ _ ?_; clear hK K | skip) | refine st rfl ?_ | refine nl ?_
 refine Op1.callG (Hr := []) rfl rfl rfl ca (by rw [List.append_nil]) (fun d H' h => ?_)
 obtain ⟨rfl, rfl⟩ := h
 refine hK _ _ ?_
 clear hK K
 rw [List.append_nil]
 cases hA : okI g In a with
 | false =>
  have : insI g a b In = none := by simp only [insI, hA, Bool.false_and]
  rw [this]
  repeat' first | refine vs T rfl fun K hK => ?_; (try simp (disch := omega) only [go_sem, Nat.reduceBEq, Bool.not_false]); (refine hK _ _ ?_; clear hK K) | refine st rfl ?_ | refine sc rfl ?_ | refine nl ?_ | refine gs rfl rfl ?_
  exact ret2 T (List.nil_sublist _) fz_insN
 | true =>
 repeat' first | refine vs T rfl fun K hK => ?_; (try simp (disch := omega) only [go_sem, Nat.reduceBEq, Bool.not_true]); (first | refine hK _ _ ?_; clear hK K | skip) | refine gs rfl rfl ?_
 refine Op1.callG (Hr := []) rfl rfl rfl cb (by rw [List.append_nil]) (fun d H' h => ?_)
 obtain ⟨rfl, rfl⟩ := h
 refine hK _ _ ?_
 clear hK K
 rw [List.append_nil]
 cases hB : okI g In b with
 | false =>
  have : insI g a b In = none := by simp only [insI, hA, hB, Bool.and_false]
  rw [this]
  repeat' first | refine vs T rfl fun K hK => ?_; (try simp (disch := omega) only [go_sem, Nat.reduceBEq, Bool.not_false]); (refine hK _ _ ?_; clear hK K) | refine st rfl ?_ | refine sc rfl ?_ | refine nl ?_ | refine gs rfl rfl ?_
  exact ret2 T (List.nil_sublist _) fz_insN
 | true =>
 repeat' first | refine vt rfl fun K hK => ?_; refine r_buildO T (l := [iD a]) rfl rfl rfl rfl (by decide) <| fun bq hbq => ?_; refine hK _ _ ?_; clear hK K; (try simp only [updO]) | refine vt rfl fun K hK => ?_; refine r_makeMap rfl umW (fun x hx => (by cases hx)) (fun bq hbq => ?_); (try simp only [HB] at hbq); refine hK _ _ ?_; clear hK K; (try simp only [updO]) | refine vt rfl fun K hK => ?_; refine r_mapSet (by exact .inr rfl) umW u3 rfl rfl rfl (by (try simp (disch := omega) only [hget_eq]); rfl) (by rfl) ?_; refine hK _ _ ?_; clear hK K; (try simp (disch := omega) only [updO, hset_eq, List.nil_append]) | refine vs T rfl fun K hK => ?_; (try simp (disch := omega) only [go_sem, Nat.reduceBEq, Nat.reduceAdd, Nat.reduceMul, Bool.not_true]); (refine hK _ _ ?_; clear hK K) | refine st rfl ?_ | refine sc rfl ?_ | refine nl ?_ | refine gs rfl rfl ?_
 rename_i b7 _ bm _
 have hbn : nodesG g ≤ 1000000 := by have := hg.st; simp only [nodesG, hR]; omega
 have haok : 0 ≤ a ∧ a < nodesG g := by simp only [okI, Bool.and_eq_true, decide_eq_true_eq] at hA; exact hA.1
 have hE0 : insI g a b In = goI g In b (nodesG g + 1) 0 [(a, -1, -1, [])] := by simp only [insI, hA, hB, Bool.and_self]
 generalize hn : nodesG g = n at *
 refine VC.loop {p : Nat × List Wy × Nat × List D × Nat // p.1 ≤ p.2.1.length ∧ IW n p.2.1 ∧ insI g a b In = goI g In b (n + 1 - p.1) p.1 p.2.1 ∧ p.2.1.length - p.1 ≤ p.2.2.2.2}
  (fun p => ⟨lookD [(2, iD b), (4, pD b4), (10, inF b4 b7), (11, .is (.map (some bm))), (12, .os p.1.2.2.1 p.1.2.2.2.1.length (p.1.2.1.length - p.1.1) p.1.2.2.2.2)], inQ b4 b7 bm p.1.2.2.1 g In p.1.2.1 p.1.1 p.1.2.2.2.1 p.1.2.2.2.2⟩)
  (fun p => n + 1 - p.1.1) ⟨(0, [(a, -1, -1, [])], bq, [], 1), by dsimp only; exact ⟨by simp, IW.one haok, hE0, by simp⟩⟩ ?_ ?_
 ·refine Weak_subEq rfl ?_
  simp [sub, upd]
 clear hbq bq hE0
 rintro ⟨⟨i, F, bq, pre, cap⟩, hi, hF, hE, hcap⟩
 dsimp only at hi hF hE hcap ⊢
 have hFl := hF.len
 refine VC.nodup fun hnd => ?_
 simp only [Heap.blocks, List.map_cons, List.nodup_cons, List.mem_cons, not_or] at hnd
 obtain ⟨⟨q1, q2, q3, _⟩, ⟨q4, q5, _⟩, ⟨q6, _⟩, _⟩ := hnd
 rcases Nat.lt_or_ge i F.length with hlt | hge
 case inr =>
  obtain rfl : i = F.length := by omega
  rw [goI_end (Nat.le_refl _)] at hE
  rw [hE]
  repeat' first | refine vs T rfl fun K hK => ?_; (try simp (disch := omega) only [go_sem, Nat.reduceBEq]); (refine hK _ _ ?_; clear hK K) | refine st rfl ?_ | refine sc rfl ?_ | refine nl ?_ | with_reducible refine gsplit_intro (fun hc => ?_) (fun hc => ?_) <;> (try simp only [decide_eq_true_eq, decide_eq_false_iff_not, gt_iff_lt, Int.not_lt] at hc) <;> (try (exfalso; omega))
  exact ret2 T (List.nil_sublist _) fz_insN
 obtain ⟨e, he⟩ : ∃ e, F[i]? = some e := ⟨_, getD_at (d := default) hlt⟩
 rw [show n + 1 - i = (n - i) + 1 by omega, goI_at he] at hE
 have hdr : F.drop i = e :: F.drop (i + 1) := by rw [List.drop_eq_getElem_cons hlt]; congr 1; rw [List.getElem?_eq_getElem hlt] at he; exact Option.some.inj he
 have hld : (pre ++ (F.drop i).map fun e => iD e.1)[pre.length]? = some (iD e.1) := by rw [hdr, List.getElem?_append_right (Nat.le_refl _)]; simp
 have co := eout_ok g hg e.1
 cases hx : decide (e.1 = b) with
 | true =>
  rw [hx] at hE
  simp only [decide_eq_true_eq] at hx
  rw [hE]
  repeat' first | refine vt rfl fun K hK => ?_; refine r_indexO T rfl rfl rfl rfl (by omega) ?_; refine hK _ _ ?_; clear hK K; (try simp only [updO]) | refine vt rfl fun K hK => ?_; refine r_sliceO T (k := 1) rfl rfl rfl rfl (by omega) ?_; refine hK _ _ ?_; clear hK K; (try simp only [updO]) | refine vs T rfl fun K hK => ?_; (try simp (disch := omega) only [go_sem, Nat.reduceBEq, Nat.reduceMul, hld, hx, Int.toNat_zero]); (first | refine hK _ _ ?_; clear hK K | skip) | refine st rfl ?_ | refine sc rfl ?_ | refine nl ?_ | with_reducible refine gsplit_intro (fun hc => ?_) (fun hc => ?_) <;> (try simp only [decide_eq_true_eq, decide_eq_false_iff_not, gt_iff_lt, Int.not_lt] at hc) <;> (try (exfalso; omega))
  have ck := back_ok n hbn F hF i e he bm
  rw [hx] at ck
  refine Op1.callG (Hp := [(bm, .obj (mapI (wayM F)))]) (Hr := (bq, .cells 3 (pre.length + cap * 1) (pre ++ (F.drop i).map fun e => iD e.1)) :: inH b4 b7 g In) rfl rfl rfl ck (perm_of fun a => by simp only [cnt_cons, cnt_app, cnt_nil]; omega) (fun d H' h => ?_)
  obtain ⟨ga, hga, rfl, rfl⟩ := h
  refine hK _ _ ?_
  clear hK K
  repeat' first | refine vs T rfl fun K hK => ?_; (try simp (disch := omega) only [go_sem, Nat.reduceBEq]); (refine hK _ _ ?_; clear hK K) | refine st rfl ?_ | refine nl ?_
  exact ret2 T (List.Sublist.refl _) (fz_int2 (e := 3) hga fun bb cc q => by subst q; exact List.mem_append_left _ mem_shp0)
 | false =>
 rw [hx] at hE
 simp only [decide_eq_false_iff_not] at hx
 repeat' first | refine vt rfl fun K hK => ?_; refine r_indexO T rfl rfl rfl rfl (by omega) ?_; refine hK _ _ ?_; clear hK K; (try simp only [updO]) | refine vt rfl fun K hK => ?_; refine r_sliceO T (k := 1) rfl rfl rfl rfl (by omega) ?_; refine hK _ _ ?_; clear hK K; (try simp only [updO]) | refine vs T rfl fun K hK => ?_; (try simp (disch := omega) only [go_sem, Nat.reduceBEq, Nat.reduceAdd, Nat.reduceMul, Nat.reduceLeDiff, hld, Int.toNat_zero]); (first | refine hK _ _ ?_; clear hK K | refine Op1.callp rfl rfl (co) rfl ?_; refine hK _ _ ?_; clear hK K) | refine st rfl ?_ | refine sc rfl ?_ | refine nl ?_ | with_reducible refine gsplit_intro (fun hc => ?_) (fun hc => ?_) <;> (try simp only [decide_eq_true_eq, decide_eq_false_iff_not, beq_iff_eq, beq_eq_false_iff_ne, ne_eq, gt_iff_lt, Int.not_lt] at hc) <;> (try (exfalso; omega))
 have hto : ∀ d, d ∈ outG g e.1 → 0 ≤ d.2.2 ∧ d.2.2 < n := fun d hd => by rw [← hn]; exact (outG_to d hd).1
 have hLl := outG_len hg e.1
 generalize outG g e.1 = L at *
 refine VC.loop {p : Nat × List Wy × Nat × List D × Nat // p.1 ≤ L.length ∧ IW n p.2.1 ∧ p.2.1[i]? = some e ∧ insI g a b In = goI g In b (n - i) (i + 1) (rowI In e.1 e.2.2.2 p.2.1 (L.drop p.1)) ∧ p.2.1.length - (i + 1) ≤ p.2.2.2.2}
  (fun p => ⟨lookD [(2, iD b), (4, pD b4), (10, inF b4 b7), (11, .is (.map (some bm))), (12, .os p.1.2.2.1 p.1.2.2.2.1.length (p.1.2.1.length - (i + 1)) p.1.2.2.2.2), (13, iD e.1), (51, edsD L), (52, iD (L.length : Nat)), (53, iD (p.1.1 : Nat))], inQ b4 b7 bm p.1.2.2.1 g In p.1.2.1 (i + 1) p.1.2.2.2.1 p.1.2.2.2.2⟩)
  (fun p => L.length - p.1.1) ⟨(0, F, bq, pre ++ [iD e.1], cap - 1), by dsimp only; exact ⟨Nat.zero_le _, hF, he, hE, by omega⟩⟩ ?_ ?_
 ·refine Weak_subEq ?_ ?_
  ·dsimp only [inQ]
   rw [hdr, List.map_cons, List.append_assoc, List.length_append, show pre.length + cap * 1 = pre.length + [iD e.1].length + (cap - 1) * 1 by simp only [List.length_cons, List.length_nil]; omega]
   rfl
  ·simp [sub, upd, edRs_len]
   omega
 clear q1 q2 q3 q4 q5 q6 hld hdr hE he hF hFl hi hcap hlt co
 rintro ⟨⟨k, G', bk, pre, cap⟩, hk, hF, he, hE, hcap⟩
 dsimp only at hk hF he hE hcap ⊢
 have hFl := hF.len
 have hlt := at_lt he
 refine VC.nodup fun hnd => ?_
 simp only [Heap.blocks, List.map_cons, List.nodup_cons, List.mem_cons, not_or] at hnd
 obtain ⟨⟨q1, q2, q3, _⟩, ⟨q4, q5, _⟩, ⟨q6, _⟩, _⟩ := hnd
 rcases Nat.lt_or_ge k L.length with hkl | hge
 case inr =>
  obtain rfl : k = L.length := by omega
  rw [List.drop_length] at hE
  repeat' first | refine vs T rfl fun K hK => ?_; (try simp (disch := omega) only [go_sem, Nat.reduceBEq]); (refine hK _ _ ?_; clear hK K) | refine st rfl ?_ | refine sc rfl ?_ | refine nl ?_ | with_reducible refine gsplit_intro (fun hc => ?_) (fun hc => ?_) <;> (try simp only [decide_eq_true_eq, decide_eq_false_iff_not, Int.not_lt] at hc) <;> (try (exfalso; omega))
  refine ⟨⟨(i + 1, G', bk, pre, cap), by dsimp only; exact ⟨by omega, hF, by rw [hE, show n + 1 - (i + 1) = n - i by omega]; rfl, hcap⟩⟩, Weak_subEq rfl ?_, by dsimp only; omega⟩
  simp [sub, upd]
 rw [rowI_cons hkl] at hE
 have htk := hto _ (getD_mem (d := ((0, 0, 0) : Ed)) hkl)
 have hst := hF.step he (In := In) htk
 obtain ⟨d, hd⟩ : ∃ d, d = L.getD k (0, 0, 0) := ⟨_, rfl⟩
 rw [← hd] at hE htk hst
 obtain ⟨d1, d2, d3⟩ := d
 dsimp only at hE htk hst
 cases hh : hasN G' d3 with
 | true =>
  obtain ⟨α, β, hf⟩ := findI_yes hh
  have hs : stepI In e.1 e.2.2.2 G' (d1, d2, d3) = G' := by simp only [stepI, hh, Bool.not_true, Bool.and_false]
  rw [hs] at hE
  repeat' first | refine vt rfl fun K hK => ?_; refine r_lookI (l := wayM G') rfl umW u3 zW rfl rfl (by simp (disch := omega) only [hget_ne, hget_eq]) (r := (wV α β, true)) (by rw [hf]) (wV_one _ _) ?_; refine hK _ _ ?_; clear hK K; (try simp only [updO]) | refine vs T rfl fun K hK => ?_; (try simp (disch := omega) only [go_sem, Nat.reduceBEq, Nat.reduceAdd, Nat.reduceLeDiff, ix_eds, Int.toNat_natCast, ← hd, edR, valW, Bool.not_true, w64]); (first | refine hK _ _ ?_; clear hK K | intro bq hbq; (try simp only [HB] at hbq); refine hK _ _ ?_; clear hK K | refine ⟨?_, hK _ _ ?_⟩ <;> clear hK K; focus (try omega)) | refine st rfl ?_ | refine sc rfl ?_ | refine nl ?_ | refine gs rfl rfl ?_ | with_reducible refine gsplit_intro (fun hc => ?_) (fun hc => ?_) <;> (try simp only [decide_eq_true_eq, decide_eq_false_iff_not, Int.not_lt] at hc) <;> (try (exfalso; omega))
  refine ⟨⟨(k + 1, G', bk, pre, cap), by dsimp only; exact ⟨by omega, hF, he, hE, hcap⟩⟩, Weak_subH2 rfl ?_, by dsimp only; omega⟩
  simp [sub, upd]
 | false =>
 have hf := findI_no hh
 have c1 := inside1_ok g hg hR In hI d3 b4 b7
 cases hin : isN In d3 with
 | false =>
  have hs : stepI In e.1 e.2.2.2 G' (d1, d2, d3) = G' := by simp only [stepI, hin, Bool.false_and]
  rw [hs] at hE
  rw [show okI g In d3 = false by simp only [okI, hin, Bool.and_false]] at c1
  repeat' first | refine vt rfl fun K hK => ?_; refine r_lookI (l := wayM G') rfl umW u3 zW rfl rfl (by simp (disch := omega) only [hget_ne, hget_eq]) (r := (wV 0 0, false)) (by rw [hf]) (wV_one _ _) ?_; refine hK _ _ ?_; clear hK K; (try simp only [updO]) | refine vs T rfl fun K hK => ?_; (try simp (disch := omega) only [go_sem, Nat.reduceBEq, Nat.reduceAdd, Nat.reduceLeDiff, ix_eds, Int.toNat_natCast, ← hd, edR, valW, Bool.not_false]); (first | refine hK _ _ ?_; clear hK K | intro bq hbq; (try simp only [HB] at hbq); refine hK _ _ ?_; clear hK K | refine ⟨?_, hK _ _ ?_⟩ <;> clear hK K; focus (try omega) | skip) | refine st rfl ?_ | refine sc rfl ?_ | refine nl ?_ | refine gs rfl rfl ?_ | with_reducible refine gsplit_intro (fun hc => ?_) (fun hc => ?_) <;> (try simp only [decide_eq_true_eq, decide_eq_false_iff_not, Int.not_lt] at hc) <;> (try (exfalso; omega))
  rename_i b15 _
  refine Op1.callG (Hp := inH b4 b7 g In) (Hr := (bq, .cells 102 2 [iD 0, iD 0]) :: (b15, .cells 62 3 [iD d1, iD d2, iD d3]) :: (bk, .cells 3 (pre.length + cap * 1) (pre ++ (G'.drop (i + 1)).map fun e => iD e.1)) :: (bm, .obj (mapI (wayM G'))) :: []) rfl rfl rfl c1 (perm_of fun a => by simp only [cnt_cons, cnt_app, cnt_nil]; omega) (fun d H' h => ?_)
  obtain ⟨rfl, rfl⟩ := h
  refine hK _ _ ?_
  clear hK K
  refine vo ?_
  refine VCo.weak (Weak.perm (H' := (bq, .cells 102 2 [iD 0, iD 0]) :: (b15, .cells 62 3 [iD d1, iD d2, iD d3]) :: inQ b4 b7 bm bk g In G' (i + 1) pre cap) (perm_of fun a => by simp only [cnt_cons, cnt_app, cnt_nil]; omega)) ?_
  repeat' first | refine vs T rfl fun K hK => ?_; (try simp (disch := omega) only [go_sem, Nat.reduceBEq, w64]); (refine hK _ _ ?_; clear hK K) | refine st rfl ?_ | refine sc rfl ?_ | refine nl ?_ | refine ov ?_
  refine ⟨⟨(k + 1, G', bk, pre, cap), by dsimp only; exact ⟨by omega, hF, he, hE, hcap⟩⟩, Weak_subH2 rfl ?_, by dsimp only; omega⟩
  simp [sub, upd]
 | true =>
  have hs : stepI In e.1 e.2.2.2 G' (d1, d2, d3) = G' ++ [(d3, e.1, d2, e.2.2.2 ++ [d2])] := by simp only [stepI, hin, hh, Bool.not_false, Bool.and_self]
  rw [hs] at hE hst
  rw [show okI g In d3 = true by simp only [okI, hin, hn, decide_eq_true htk.1, decide_eq_true htk.2, Bool.and_self]] at c1
  repeat' first | refine vt rfl fun K hK => ?_; refine r_lookI (l := wayM G') rfl umW u3 zW rfl rfl (by simp (disch := omega) only [hget_ne, hget_eq]) (r := (wV 0 0, false)) (by rw [hf]) (wV_one _ _) ?_; refine hK _ _ ?_; clear hK K; (try simp only [updO]) | refine vs T rfl fun K hK => ?_; (try simp (disch := omega) only [go_sem, Nat.reduceBEq, Nat.reduceAdd, Nat.reduceLeDiff, ix_eds, Int.toNat_natCast, ← hd, edR, valW, Bool.not_false]); (first | refine hK _ _ ?_; clear hK K | intro bq hbq; (try simp only [HB] at hbq); refine hK _ _ ?_; clear hK K | refine ⟨?_, hK _ _ ?_⟩ <;> clear hK K; focus (try omega) | skip) | refine st rfl ?_ | refine sc rfl ?_ | refine nl ?_ | refine gs rfl rfl ?_ | with_reducible refine gsplit_intro (fun hc => ?_) (fun hc => ?_) <;> (try simp only [decide_eq_true_eq, decide_eq_false_iff_not, Int.not_lt] at hc) <;> (try (exfalso; omega))
  rename_i b15 _
  refine Op1.callG (Hp := inH b4 b7 g In) (Hr := (bq, .cells 102 2 [iD 0, iD 0]) :: (b15, .cells 62 3 [iD d1, iD d2, iD d3]) :: (bk, .cells 3 (pre.length + cap * 1) (pre ++ (G'.drop (i + 1)).map fun e => iD e.1)) :: (bm, .obj (mapI (wayM G'))) :: []) rfl rfl rfl c1 (perm_of fun a => by simp only [cnt_cons, cnt_app, cnt_nil]; omega) (fun d H' h => ?_)
  obtain ⟨rfl, rfl⟩ := h
  refine hK _ _ ?_
  clear hK K
  refine vo ?_
  refine VCo.weak (Weak.perm (H' := (bq, .cells 102 2 [iD 0, iD 0]) :: (b15, .cells 62 3 [iD d1, iD d2, iD d3]) :: inQ b4 b7 bm bk g In G' (i + 1) pre cap) (perm_of fun a => by simp only [cnt_cons, cnt_app, cnt_nil]; omega)) ?_
  have hql : (pre ++ (G'.drop (i + 1)).map fun e => iD e.1).length = pre.length + (G'.length - (i + 1)) * 1 := by rw [List.length_append, List.length_map, List.length_drop]; omega
  repeat' first | refine vt rfl fun K hK => ?_; refine Op1.perm perm31 <| r_appO T (l := pre ++ (G'.drop (i + 1)).map fun e => iD e.1) (news := [iD d3]) (m := 1) rfl rfl rfl hql ⟨rfl, rfl, rfl⟩ (by decide) ⟨by decide, by decide, by omega⟩ <| fun bk' pre' cap' hc' => ?_; refine hK _ _ ?_; clear hK K; (try simp only [updO]) | refine vt rfl fun K hK => ?_; refine r_mapSet (by exact .inl rfl) umW u3 rfl rfl rfl (by (try simp (disch := omega) only [hget_eq, hget_ne]); rfl) (by assumption) ?_; refine hK _ _ ?_; clear hK K; (try simp (disch := omega) only [updO, hset_eq, hset_ne]) | refine vs T rfl fun K hK => ?_; (try simp (disch := omega) only [go_sem, Nat.reduceBEq, Nat.reduceAdd, Nat.reduceMul, Nat.reduceLeDiff, w64]); (refine hK _ _ ?_; clear hK K) | refine st rfl ?_ | refine sc rfl ?_ | refine nl ?_ | refine ov ?_
  refine ⟨⟨(k + 1, G' ++ [(d3, e.1, d2, e.2.2.2 ++ [d2])], bk', pre', cap'), by dsimp only; exact ⟨by omega, hst, by rw [List.getElem?_append_left hlt]; exact he, hE, by rw [List.length_append, List.length_cons, List.length_nil]; omega⟩⟩, Weak.subH ?_ ?_, by dsimp only; omega⟩
  ·dsimp only [inQ]
   rw [List.drop_left, List.drop_append_of_le_length (by omega), List.map_append, wayM, wayM, List.map_append]
   exact List.Sublist.cons_cons _ ((List.sublist_cons_self _ _).trans (List.sublist_cons_self _ _))
  ·simp [sub, upd]
   omega
def U16 : Un := ⟨4, [0], [0], [[⟨4, 0, 0, one1, [], false, 0⟩, ⟨22, 0, 0, [], [], false, 0⟩]]⟩
theorem unit16_ok : Pure Tryz.prog 59 [] (.agg (unC U16)) := by
 refine Pure.wk (d := .agg [iD 4, .sl true 1 [[iD 0]], .sl true 1 [[iD 0]], .sl true 1 [[.sl true 7 [[iD 4, iD 0, iD 0, opT, .gs none 0, bD false, iD 0], [iD 22, iD 0, iD 0, .gs none 0, .gs none 0, bD false, iD 0]]]]]) ?_ ?_
 ·refine Fun.of T [.cell 0 25] Tryz.func59 rfl Tryz.ntmps59 Tryz.results59 rfl (by kernel_rfl) ?_
  repeat' first | refine vs T rfl fun K hK => ?_; (try simp (disch := omega) only [go_sem, Nat.reduceBEq, Nat.reduceAdd, Nat.reduceMul, Nat.reduceLeDiff]); (first | refine hK _ _ ?_; clear hK K | intro bq hbq; (try simp only [HB] at hbq); refine hK _ _ ?_; clear hK K) | refine st rfl ?_ | refine nl ?_ | exact retc T rfl (by (simp (disch := omega) only [hget_eq]) <;> rfl) rfl rfl rfl (List.nil_sublist _) ⟨rfl, rfl⟩
  all_goals rfl
 ·refine wk_agg ?_
  repeat' first | exact wk_is | exact wk_nil | exact wk_end | exact wkr_end | apply wk_sl | apply wk_cons | apply wkr_cons
theorem okU16 : OkU U16 := okU_light (by kernel_rfl)
def c16a : Cf := ⟨[0], [[]], [0], [[]]⟩
def c16b : Cf := ⟨[1], [[]], [0], [[(0, 1)]]⟩
def c16c : Cf := ⟨[1], [[]], [1], [[]]⟩
def C16 : List Cf := [c16a, c16b, c16c]
def g16 : Cs := ⟨[0, 1, 2, 2], [0, 1], [1, 2]⟩
def G16 : Cs := ⟨[0, 2, 3, 3], [5, 7, 6], [1, 2, 2]⟩
theorem spR16 : spR U16 2 1 9 = spC C16 g16 [-1, 0, 1] [-1, 0, 1] := by kernel_rfl
theorem okG16 : OkG G16 := ⟨by decide, by decide, by decide⟩
theorem rG16 : rightG G16 = true := by kernel_rfl
theorem toOk16 : ToOk C16.length [-1, 0, 1] [-1, 0, 1] := ⟨by decide, rfl, rfl, fun j h1 h2 => by
 have : j = 1 ∨ j = 2 := by simp only [C16, List.length_cons, List.length_nil] at h2; omega
 rcases this with rfl | rfl <;> decide⟩
abbrev t0f0 : ByteArray := ⟨#[116, 48, 32, 102, 48]⟩
abbrev t0ff0 : ByteArray := ⟨#[116, 48, 32, 32, 102, 48]⟩
abbrev t0f0q : ByteArray := ⟨#[116, 48, 32, 102, 48, 32, 63]⟩
theorem known16_ok : Pure Tryz.prog 15 [] (bD true) := by
 have cu := unit16_ok
 have cs : Pure Tryz.prog 16 [.agg (unC U16), iD 2, iD 1, iD 9] (.tup [.agg (spC C16 g16 [-1, 0, 1] [-1, 0, 1]), iD 0]) := by
  have := rall_in U16 okU16 2 1 9 (by kernel_rfl) (by kernel_rfl) (by decide)
  rwa [spR16, show errS U16 2 1 9 = 0 from by kernel_rfl] at this
 have cr : Pure Tryz.prog 20 [.agg (unC U16), iD 2, iD 1, .sl true 1 [[iD 0], [iD 1]]] (.tup [.agg (cfC c16c), iD 2, iD 0]) := by
  have := replay_ok U16 okU16 2 1 [0, 1] (by decide)
  rw [show repF U16 2 1 [0, 1] = (c16c, 2, 0) from by kernel_rfl] at this
  exact Fun.argsW this (fz_cons (Fz.refl _ _) (fz_cons (Fz.refl _ _) (fz_cons (Fz.refl _ _) (fz_cons fz_sl fz_end))))
 have cr2 : Pure Tryz.prog 20 [.agg (unC U16), iD 2, iD 1, .sl true 1 [[iD 0], [iD 0]]] (.tup [.agg (cfC c16b), iD 1, iD 16]) := by
  have := replay_ok U16 okU16 2 1 [0, 0] (by decide)
  rw [show repF U16 2 1 [0, 0] = (c16b, 1, 16) from by kernel_rfl] at this
  exact Fun.argsW this (fz_cons (Fz.refl _ _) (fz_cons (Fz.refl _ _) (fz_cons (Fz.refl _ _) (fz_cons fz_sl fz_end))))
 have cb : Pure Tryz.prog 60 [iD 3, .sl true 3 [[iD 0, iD 5, iD 1], [iD 1, iD 6, iD 2], [iD 0, iD 7, iD 2]]] (.tup [.agg (csC G16), iD 0]) := by
  have := build14_ok 3 [(0, 5, 1), (1, 6, 2), (0, 7, 2)] (by decide)
  rw [show buildR 3 [(0, 5, 1), (1, 6, 2), (0, 7, 2)] = (G16, 0) from by kernel_rfl] at this
  exact Fun.argsW this (fz_cons (Fz.refl _ _) (fz_cons fz_sl fz_end))
 have i1 : Pure Tryz.prog 25 [.agg (csC G16), iD 0, iD 2, .sl true 1 [[bD true], [bD true], [bD true]]] (.tup [ints [7], bD true]) := by
  have := inside_ok G16 okG16 rG16 0 2 [true, true, true] (by decide)
  rw [show insI G16 0 2 [true, true, true] = some [7] from by kernel_rfl] at this
  exact Fun.argsW this (fz_cons (Fz.refl _ _) (fz_cons (Fz.refl _ _) (fz_cons (Fz.refl _ _) (fz_cons fz_sl fz_end))))
 have i2 : Pure Tryz.prog 25 [.agg (csC G16), iD 2, iD 0, .sl true 1 [[bD true], [bD true], [bD true]]] (.tup [ints [], bD false]) := by
  have := inside_ok G16 okG16 rG16 2 0 [true, true, true] (by decide)
  rw [show insI G16 2 0 [true, true, true] = none from by kernel_rfl] at this
  exact Fun.argsW this (fz_cons (Fz.refl _ _) (fz_cons (Fz.refl _ _) (fz_cons (Fz.refl _ _) (fz_cons fz_sl fz_end))))
 have p1 : Pure Tryz.prog 33 [.agg (unC U16), iD 2, sD t0f0] (.tup [ints [0, 1], iD 0]) := by
  have := parse_ok16 U16 okU16 2 t0f0 (by decide)
  rwa [show parF U16 2 t0f0 = some [0, 1] from by kernel_rfl] at this
 have p2 : Pure Tryz.prog 33 [.agg (unC U16), iD 2, sD t0ff0] (.tup [ints [], iD 8]) := by
  have := parse_ok16 U16 okU16 2 t0ff0 (by decide)
  rwa [show parF U16 2 t0ff0 = none from by kernel_rfl] at this
 have ct : Pure Tryz.prog 18 [.agg (spC C16 g16 [-1, 0, 1] [-1, 0, 1]), iD 2] (ints [0, 1]) := by
  have := to_ok C16 g16 [-1, 0, 1] [-1, 0, 1] toOk16 2
  rwa [show toI C16.length [-1, 0, 1] [-1, 0, 1] 2 = [0, 1] from by kernel_rfl] at this
 have f1 : Pure Tryz.prog 22 [.agg (csC G16), iD 0, .sl true 1 [[iD 5], [iD 6]]] (iD 2) := by
  have := follow_ok G16 okG16 0 [5, 6] (by decide)
  rw [show followF G16 0 [5, 6] = 2 from by kernel_rfl] at this
  exact Fun.argsW this (fz_cons (Fz.refl _ _) (fz_cons (Fz.refl _ _) (fz_cons fz_sl fz_end)))
 have f2 : Pure Tryz.prog 22 [.agg (csC G16), iD 0, .sl true 1 [[iD 6]]] (iD (-1)) := by
  have := follow_ok G16 okG16 0 [6] (by decide)
  rw [show followF G16 0 [6] = -1 from by kernel_rfl] at this
  exact Fun.argsW this (fz_cons (Fz.refl _ _) (fz_cons (Fz.refl _ _) (fz_cons fz_sl fz_end)))
 have x1 : Pure Tryz.prog 32 [.agg (unC U16), iD 2, .sl true 1 [[iD 0], [iD 1], [iD 9]]] (sD t0f0q) := by
  have := text_ok U16 okU16 2 [0, 1, 9] (by decide)
  rw [show txtK U16 2 [0, 1, 9] ([0, 1, 9] : List Int).length = t0f0q from by kernel_rfl] at this
  exact Fun.argsW this (fz_cons (Fz.refl _ _) (fz_cons (Fz.refl _ _) (fz_cons fz_sl fz_end)))
 have j1 : Pure Tryz.prog 17 [ints [0, 1], .sl true 1 [[iD 0], [iD 1]]] (bD true) := by
  have := ints_ok [0, 1] [0, 1] (by decide) (by decide)
  rw [decide_eq_true rfl] at this
  exact Fun.argsW this (fz_cons (Fz.refl _ _) (fz_cons fz_sl fz_end))
 have j2 : Pure Tryz.prog 17 [ints [7], .sl true 1 [[iD 7]]] (bD true) := by
  have := ints_ok [7] [7] (by decide) (by decide)
  rw [decide_eq_true rfl] at this
  exact Fun.argsW this (fz_cons (Fz.refl _ _) (fz_cons fz_sl fz_end))
 have rm : (iRs c16c.mem)[0]? = some [iD 1] := rfl
 have lm : (iRs c16c.mem).length = 1 := rfl
 refine Fun.of T [.tmp 0] Tryz.func15 rfl Tryz.ntmps15 Tryz.results15 rfl (by kernel_rfl) ?_
 repeat' first | refine vs T rfl fun K hK => ?_; (try simp (disch := omega) only [go_sem, Nat.reduceBEq, Nat.reduceAdd, Nat.reduceMul, Nat.reduceLeDiff, rm, lm, Int.toNat_zero, beq_self_eq_true, Bool.not_false]); (first | refine hK _ _ ?_; clear hK K | intro bq hbq; (try simp only [HB] at hbq); refine hK _ _ ?_; clear hK K | refine ⟨?_, hK _ _ ?_⟩ <;> clear hK K; focus (try omega) | refine Op1.callp rfl rfl (cu) rfl ?_; refine hK _ _ ?_; clear hK K | refine Op1.callp rfl rfl (cs) rfl ?_; refine hK _ _ ?_; clear hK K | refine Op1.callp rfl rfl (cr) rfl ?_; refine hK _ _ ?_; clear hK K | refine Op1.callp rfl rfl (cr2) rfl ?_; refine hK _ _ ?_; clear hK K | refine Op1.callp rfl rfl (cb) rfl ?_; refine hK _ _ ?_; clear hK K | refine Op1.callp rfl rfl (i1) rfl ?_; refine hK _ _ ?_; clear hK K | refine Op1.callp rfl rfl (i2) rfl ?_; refine hK _ _ ?_; clear hK K | refine Op1.callp rfl rfl (p1) rfl ?_; refine hK _ _ ?_; clear hK K | refine Op1.callp rfl rfl (p2) rfl ?_; refine hK _ _ ?_; clear hK K | refine Op1.callp rfl rfl (ct) rfl ?_; refine hK _ _ ?_; clear hK K | refine Op1.callp rfl rfl (f1) rfl ?_; refine hK _ _ ?_; clear hK K | refine Op1.callp rfl rfl (f2) rfl ?_; refine hK _ _ ?_; clear hK K | refine Op1.callp rfl rfl (x1) rfl ?_; refine hK _ _ ?_; clear hK K | refine Op1.callp rfl rfl (j1) rfl ?_; refine hK _ _ ?_; clear hK K | refine Op1.callp rfl rfl (j2) rfl ?_; refine hK _ _ ?_; clear hK K) | refine st rfl ?_ | refine nl ?_ | refine gs rfl rfl ?_ | exact ret1 T (List.nil_sublist _) ⟨rfl, rfl⟩
end Go.Proofs.YtomcmfbpmkklmaaGreat
