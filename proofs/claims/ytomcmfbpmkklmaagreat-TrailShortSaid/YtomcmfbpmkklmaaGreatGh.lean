/- Plain law of TrailShort. No condition. -/
import Derived.Test.YtomcmfbpmkklmaaGreatGe
import Derived.Test.YtomcmfbpmkklmaaGreatDs
import Derived.Test.YtomcmfbpmkklmaaGreatZc
namespace Go.Proofs.YtomcmfbpmkklmaaGreat
set_option maxHeartbeats 16000000
set_option linter.unusedSimpArgs false
set_option linter.unusedVariables false
set_option maxRecDepth 20000
open Go Go.Proofs Go.Vc
abbrev askS (g : Cs) (a b : Int) (In : List Bool) : List D := [ints g.st, ints g.ag, ints g.to, iD a, iD b, bools In]
theorem lightG_okS {g : Cs} (h : lightG g = true) : OkG g := by
 simp only [lightG, Bool.and_eq_true, Nat.ble_eq] at h
 exact ⟨by omega, by omega, by omega⟩
theorem keepE_ok {g : Cs} (G : Gr g) (In : List Bool) : EdOk (nodesG g) (keepE g In) ∧ Sorted (keepE g In) :=
 ⟨fun e he => (allG_ok G).1 e (List.mem_filter.1 he).1, List.Pairwise.sublist List.filter_sublist (allG_ok G).2⟩
theorem inS_one {a : Int} {n : Nat} (h : 0 ≤ a ∧ a < n) : inS [a] n = fun x => x = a := by
 funext x
 refine propext ⟨fun h => by simpa using h.1, fun e => ?_⟩
 have e : x = a := e
 subst e
 exact ⟨List.mem_singleton.2 rfl, h⟩
theorem short_law {g : Cs} {In : List Bool} {a b : Int} (G : Gr g) (ha : okI g In a = true) (hb : okI g In b = true) : ∃ (w : List Int) (is : Bool), insWy (insI g a b In) = .tup [ints w, bD is] ∧ w.length ≤ nodesG g ∧
  (reachB (keepE g In) (inS [a] (nodesG g)) (nodesG g)).getD b.toNat false = is ∧ (is = true → (atF (nodesG g) (keepE g In) a w w.length).getD b.toNat false = true ∧ w.length < nodesG g) := by
 have ha' := ha
 have hb' := hb
 simp only [okI, Bool.and_eq_true, decide_eq_true_eq] at ha' hb'
 obtain ⟨l1, l2⟩ := ins_law G ha hb
 rw [inS_one ha'.1]
 have hr := reachB_at (l := keepE g In) (S := fun x => x = a) (n := nodesG g) (i := b.toNat) (by omega)
 rw [Int.toNat_of_nonneg hb'.1.1] at hr
 cases hI : insI g a b In with
 | some w =>
  obtain ⟨k1, k2⟩ := l1 w hI
  refine ⟨w, true, rfl, by omega, hr.2 (way_rch k1), fun _ => ⟨?_, k2⟩⟩
  have := (atF_way (keepE_ok G In).1 ha'.1 k1 []).2
  rwa [List.append_nil] at this
 | none =>
  refine ⟨[], false, rfl, Nat.zero_le _, ?_, fun h => by cases h⟩
  have := l2.1 hI
  rw [← Bool.not_eq_true]
  exact fun h => this (hr.1 h)
theorem atF_len {n : Nat} {l : List Ed} {a : Int} {w : List Int} : ∀ k, (atF n l a w k).length = n
 | 0 => by simp [atF]
 | k + 1 => by simp [atF]
def nxF (n : Nat) (o : List Bool) (x : Int) (l : List Ed) (j : Nat) : List Bool := (List.range n).map fun (i : Nat) => (l.take j).any fun e => o.getD e.1.toNat false && decide (e.2.1 = x) && decide (e.2.2 = (i : Int))
theorem nxF_len {n : Nat} {o : List Bool} {x : Int} {l : List Ed} {j : Nat} : (nxF n o x l j).length = n := by simp [nxF]
theorem nxF_0 {n : Nat} {o : List Bool} {x : Int} {l : List Ed} : nxF n o x l 0 = List.replicate n false := by
 unfold nxF
 simp [List.map_const']
theorem nxF_no {n : Nat} {o : List Bool} {x : Int} {l : List Ed} {j : Nat} (hj : j < l.length) (h : (o.getD (l.getD j (0, 0, 0)).1.toNat false && decide ((l.getD j (0, 0, 0)).2.1 = x)) = false) : nxF n o x l (j + 1) = nxF n o x l j := by
 unfold nxF
 refine List.map_congr_left fun i _ => ?_
 rw [List.take_add_one, List.getElem?_eq_getElem hj, List.any_append]
 have e : l.getD j (0, 0, 0) = l[j] := by rw [List.getD_eq_getElem?_getD, List.getElem?_eq_getElem hj]; rfl
 rw [e] at h
 simp only [Option.toList_some, List.any_cons, List.any_nil, h, Bool.false_and, Bool.or_false]
theorem nxF_yes {n : Nat} {o : List Bool} {x : Int} {l : List Ed} {j : Nat} (hj : j < l.length) (hl : EdOk n l) (h : (o.getD (l.getD j (0, 0, 0)).1.toNat false && decide ((l.getD j (0, 0, 0)).2.1 = x)) = true) : nxF n o x l (j + 1) = (nxF n o x l j).set (l.getD j (0, 0, 0)).2.2.toNat true := by
 have he := hl _ (getD_mem (d := ((0, 0, 0) : Ed)) hj)
 refine ext_getD (d := false) (by rw [List.length_set, nxF_len, nxF_len]) fun i hi => ?_
 rw [nxF_len] at hi
 rw [bset_at (by rw [nxF_len]; omega)]
 unfold nxF
 rw [rangeD _ hi, rangeD _ hi, List.take_add_one, List.getElem?_eq_getElem hj, List.any_append]
 have e : l.getD j (0, 0, 0) = l[j] := by rw [List.getD_eq_getElem?_getD, List.getElem?_eq_getElem hj]; rfl
 rw [e] at h he ⊢
 simp only [Option.toList_some, List.any_cons, List.any_nil, h, Bool.true_and, Bool.or_false]
 rw [Bool.or_comm]
 congr 1
 exact decide_eq_decide.2 ⟨fun h => by omega, fun h => by omega⟩
theorem nxF_end {n : Nat} {l : List Ed} {a : Int} {w : List Int} {k : Nat} : nxF n (atF n l a w k) (w.getD k 0) l l.length = atF n l a w (k + 1) := by
 unfold nxF
 rw [List.take_length, atF]
attribute [local irreducible] retQ VCg VCw VCx
theorem lawShort (g : Cs) (a b : Int) (In : List Bool) : Pure Tryz.prog 5 [.agg (askS g a b In)] (bD true) := by
 have cl := light14_ok g
 have ck := known16_ok
 refine Fun.of T [.tmp 2] Tryz.func5 rfl Tryz.ntmps5 Tryz.results5 rfl (by kernel_rfl) ?_
 cases hL : lightG g with
 | false =>
  rw [hL] at cl
  repeat' first | refine vb (t := 51) rfl rfl rfl rfl ?_ | refine vs T rfl fun K hK => ?_; (try simp (disch := omega) only [go_sem, Nat.reduceBEq, Nat.reduceAdd, Nat.reduceLeDiff, Bool.not_false]); (first | refine hK _ _ ?_; clear hK K | refine Op1.callp rfl rfl (cl) rfl ?_; refine hK _ _ ?_; clear hK K | refine Op1.callp rfl rfl (ck) rfl ?_; refine hK _ _ ?_; clear hK K) | refine st rfl ?_ | refine sc rfl ?_ | refine nl ?_ | refine gs rfl rfl ?_ | exact ret1 T (List.nil_sublist _) ⟨rfl, rfl⟩
 | true =>
 rw [hL] at cl
 have hg := lightG_okS hL
 have cr := right14_ok g hg
 cases hR : rightG g with
 | false =>
  rw [hR] at cr
  repeat' first | refine vb (t := 51) rfl rfl rfl rfl ?_ | refine vs T rfl fun K hK => ?_; (try simp (disch := omega) only [go_sem, Nat.reduceBEq, Nat.reduceAdd, Nat.reduceLeDiff, Bool.not_false, Bool.not_true]); (first | refine hK _ _ ?_; clear hK K | refine Op1.callp rfl rfl (cl) rfl ?_; refine hK _ _ ?_; clear hK K | refine Op1.callp rfl rfl (cr) rfl ?_; refine hK _ _ ?_; clear hK K | refine Op1.callp rfl rfl (ck) rfl ?_; refine hK _ _ ?_; clear hK K) | refine st rfl ?_ | refine sc rfl ?_ | refine nl ?_ | refine gs rfl rfl ?_ | exact ret1 T (List.nil_sublist _) ⟨rfl, rfl⟩
 | true =>
 rw [hR] at cr
 by_cases h1 : In.length ≤ 100
 case neg =>
  have e1 : decide ((In.length : Int) > 100) = true := decide_eq_true (by omega)
  repeat' first | refine vb (t := 51) rfl rfl rfl rfl ?_ | refine vs T rfl fun K hK => ?_; (try simp (disch := omega) only [go_sem, Nat.reduceBEq, Nat.reduceAdd, Nat.reduceLeDiff, Bool.not_true, bRs_len, e1]); (first | refine hK _ _ ?_; clear hK K | refine Op1.callp rfl rfl (cl) rfl ?_; refine hK _ _ ?_; clear hK K | refine Op1.callp rfl rfl (cr) rfl ?_; refine hK _ _ ?_; clear hK K | refine Op1.callp rfl rfl (ck) rfl ?_; refine hK _ _ ?_; clear hK K) | refine st rfl ?_ | refine sc rfl ?_ | refine nl ?_ | refine gs rfl rfl ?_ | exact ret1 T (List.nil_sublist _) ⟨rfl, rfl⟩
 have e1 : decide ((In.length : Int) > 100) = false := decide_eq_false (by omega)
 have cn := nodes14_ok g hg
 have ci := inside_ok g hg hR a b In (by omega)
 have hn : nodesG g ≤ 80 := by
  simp only [lightG, Bool.and_eq_true, Nat.ble_eq] at hL
  simp only [nodesG, hR]; omega
 cases hA : okI g In a && okI g In b with
 | false =>
  have hI : insI g a b In = none := by unfold insI; rw [hA]
  rw [hI] at ci
  simp only [insWy] at ci
  have ia := fun (h0 : 0 ≤ a) (h1 : a < In.length) => getD_at (l := In) (i := a.toNat) (d := false) (by omega)
  simp only [okI, isN, Bool.and_eq_false_iff] at hA
  repeat' first | refine vb (t := 51) rfl rfl rfl rfl ?_ | refine dr (id := 7) T 8 (by kernel_rfl) ?_ | (apply VCg.step T rfl rfl); focus ((try simp (disch := omega) only [go_sem, Nat.reduceBEq, Nat.reduceAdd, Nat.reduceLeDiff]); (exact rfl)) | refine vs T rfl fun K hK => ?_; (try simp (disch := omega) only [go_sem, Nat.reduceBEq, Nat.reduceAdd, Nat.reduceLeDiff, Bool.not_false, Bool.not_true, bRs_len, iRs_len, ix_bools, e1]); (first | refine hK _ _ ?_; clear hK K | refine ⟨?_, hK _ _ ?_⟩ <;> clear hK K; focus (try omega) | refine Op1.callp rfl rfl (cl) rfl ?_; refine hK _ _ ?_; clear hK K | refine Op1.callp rfl rfl (cr) rfl ?_; refine hK _ _ ?_; clear hK K | refine Op1.callp rfl rfl (ck) rfl ?_; refine hK _ _ ?_; clear hK K | refine Op1.callp rfl rfl (cn) rfl ?_; refine hK _ _ ?_; clear hK K | refine Op1.callp rfl rfl (ci) rfl ?_; refine hK _ _ ?_; clear hK K) | refine st rfl ?_ | refine sc rfl ?_ | refine nl ?_ | refine gs rfl rfl ?_ | exact ret1 T (List.nil_sublist _) ⟨rfl, rfl⟩ | with_reducible refine gsplit_intro (fun hc => ?_) (fun hc => ?_) <;> (try simp only [decide_eq_true_eq, decide_eq_false_iff_not, Bool.not_eq_true', Bool.not_eq_false', ge_iff_le, Int.not_le, Int.not_lt] at hc)
  exfalso
  simp only [okI, isN, Bool.and_eq_false_iff, decide_eq_false_iff_not] at hA
  simp_all
  all_goals omega
 | true =>
 rw [Bool.and_eq_true] at hA
 have hG := rightG_iff.1 hR
 obtain ⟨w, is, hw, hwl, hrb, hat⟩ := short_law hG hA.1 hA.2
 rw [hw] at ci
 obtain ⟨hE, hs⟩ := keepE_ok hG In
 have c4 := keep14_ok g hg hR (by omega) In (by omega)
 have hal := allG_len hg hR
 have hkl : (keepE g In).length ≤ 1000000 := Nat.le_trans (List.length_filter_le _ _) hal
 have hKn := nodesG_build hE
 have hKa := allG_build hE hs
 have hKR := rightG_iff.2 (buildF_gr hE)
 have hKo : OkG (buildF (nodesG g) (keepE g In)) := by
  have := upE_le (keepE g In) (nodesG g)
  refine ⟨?_, ?_, ?_⟩
  ·simp only [buildF, List.length_map, List.length_range]; omega
  ·simp only [buildF, List.length_map]; omega
  ·simp only [buildF, List.length_map]; omega
 have c5 := reach14_ok _ hKo hKR [a] (by simp)
 rw [hKn, hKa] at c5
 have c5 : Pure Tryz.prog 29 [.agg (csC (buildF (nodesG g) (keepE g In))), .sl true 1 [[iD a]]] (bools (reachB (keepE g In) (inS [a] (nodesG g)) (nodesG g))) := by
  exact Fun.argsW c5 (fz_cons (Fz.refl _ _) (fz_cons fz_sl fz_end))
 have c6 := all14_ok _ hKo
 rw [hKa] at c6
 have hA1 := hA.1
 have hA2 := hA.2
 simp only [okI, isN, Bool.and_eq_true, decide_eq_true_eq] at hA1 hA2
 obtain ⟨⟨a0, an⟩, ax⟩ := hA1
 obtain ⟨⟨b0, bn⟩, bx⟩ := hA2
 have al : a < In.length ∧ In.getD a.toNat false = true := by
  split at ax
  ·rename_i h; simp only [Bool.and_eq_true, decide_eq_true_eq] at h; exact ⟨h.2, ax⟩
  ·cases ax
 have bl : b < In.length ∧ In.getD b.toNat false = true := by
  split at bx
  ·rename_i h; simp only [Bool.and_eq_true, decide_eq_true_eq] at h; exact ⟨h.2, bx⟩
  ·cases bx
 generalize hK : buildF (nodesG g) (keepE g In) = K at *
 generalize hkE : keepE g In = L at *
 generalize hN : nodesG g = n at *
 have hrl := reachB_len (l := L) (S := inS [a] n) (n := n)
 generalize hr : reachB L (inS [a] n) n = r at *
 repeat' first | refine vb (t := 51) rfl rfl rfl rfl ?_ | refine vt rfl fun K hK => ?_; refine r_buildG T (l := []) rfl rfl rfl rfl (by decide) <| fun bq hbq => ?_; refine hK _ _ ?_; clear hK K; (try simp only [updO]) | refine dr (id := 7) T 8 (by kernel_rfl) ?_ | refine gn ?_ | (apply VCg.step T rfl rfl); focus ((try simp (disch := omega) only [go_sem, Nat.reduceBEq, Nat.reduceAdd, Nat.reduceMul, Nat.reduceLeDiff]); (first | exact rfl | refine Op1.callp rfl rfl (c4) rfl ?_; exact ⟨rfl, rfl⟩)) | refine vs T rfl fun K hK => ?_; (try simp (disch := omega) only [go_sem, Nat.reduceBEq, Nat.reduceAdd, Nat.reduceLeDiff, Bool.not_true, bRs_len, ix_bools, e1, al.2, bl.2]); (first | refine hK _ _ ?_; clear hK K | refine ⟨?_, hK _ _ ?_⟩ <;> clear hK K; focus (try omega) | refine Op1.callp rfl rfl (cl) rfl ?_; refine hK _ _ ?_; clear hK K | refine Op1.callp rfl rfl (cr) rfl ?_; refine hK _ _ ?_; clear hK K | refine Op1.callp rfl rfl (cn) rfl ?_; refine hK _ _ ?_; clear hK K | refine Op1.callp rfl rfl (ci) rfl ?_; refine hK _ _ ?_; clear hK K | refine Op1.callp rfl rfl (c5) rfl ?_; refine hK _ _ ?_; clear hK K) | refine st rfl ?_ | refine sc rfl ?_ | refine nl ?_ | refine gs rfl rfl ?_ | with_reducible refine gsplit_intro (fun hc => ?_) (fun hc => ?_) <;> (try simp only [decide_eq_true_eq, decide_eq_false_iff_not, ge_iff_le, Int.not_le, Int.not_lt] at hc) <;> (try (exfalso; omega))
 have hkl0 := hkl
 clear hkl hKa hKR hKo hKn ci cn cr cl ax bx hw hkE hK hr hG hA
 have hnp : 0 < n := by omega
 refine VC.loop {p : Nat × Option (Nat × Nat) // p.1 ≤ n} (fun p => ⟨lookD [(1, .pt (askS g a b In)), (3, iD (n : Nat)), (4, ints w), (5, bD is), (6, bools r), (7, .gs p.1.2 p.1.1), (8, iD (p.1.1 : Nat))], shp p.1.2 4 1 (((List.range p.1.1).map fun (i : Nat) => decide ((i : Int) = a)).map bD) []⟩) (fun p => n - p.1.1) ⟨(0, some (bq, 0)), Nat.zero_le _⟩ ?_ ?_
 ·refine Weak_subEq rfl ?_
  simp [sub, upd]
 rintro ⟨⟨k, ga⟩, hk⟩
 dsimp only at hk ⊢
 rcases Nat.lt_or_ge k n with hlt | hge
 ·repeat' first | refine vs T rfl fun K hK => ?_; (try simp (disch := omega) only [go_sem, Nat.reduceBEq, Nat.reduceMul, Nat.reduceLeDiff, w64]); (first | refine hK _ _ ?_; clear hK K | refine ⟨_, _, _, _, (by repeat (exact Sp.here)), ?_, (by exact ⟨rfl, rfl⟩), ⟨by decide, ?_⟩, fun g' hg' => hK _ _ ?_⟩ <;> clear hK K) | refine st rfl ?_ | refine sc rfl ?_ | refine nl ?_ | with_reducible refine gsplit_intro (fun hc => ?_) (fun hc => ?_) <;> (try simp only [decide_eq_true_eq, decide_eq_false_iff_not, Int.not_lt] at hc) <;> (try (exfalso; omega))
  ·simp
  ·omega
  ·refine ⟨⟨(k + 1, g'), by dsimp only; omega⟩, Weak_subEq ?_ ?_, by dsimp only; omega⟩
   ·dsimp only
    rw [List.range_succ, List.map_append, List.map_append]; rfl
   ·simp [sub, upd]
 obtain rfl : n = k := by omega
 refine VC_gok (t := 7) rfl fun hga => ?_
 rcases ga with _ | ⟨ba, ca⟩
 ·exact absurd hga (by show ¬ n = 0; omega)
 have hca : n ≤ ca := hga
 clear hga hge hk
 simp only [shp]
 have hkl : L.length ≤ 1000000 := hkl0
 repeat' first | refine vs T rfl fun K hK => ?_; (try simp (disch := omega) only [go_sem, Nat.reduceBEq, Nat.reduceAdd, Nat.reduceLeDiff]); (first | refine hK _ _ ?_; clear hK K | refine Op1.callp rfl rfl (c4) rfl ?_; refine hK _ _ ?_; clear hK K | refine Op1.callp rfl rfl (c6) rfl ?_; refine hK _ _ ?_; clear hK K) | refine st rfl ?_ | refine sc rfl ?_ | refine nl ?_ | with_reducible refine gsplit_intro (fun hc => ?_) (fun hc => ?_) <;> (try simp only [decide_eq_true_eq, decide_eq_false_iff_not, Int.not_lt] at hc) <;> (try (exfalso; omega))
 refine VC.loop {p : Nat × Nat × Nat // p.1 ≤ w.length ∧ n ≤ p.2.2} (fun p => ⟨lookD [(1, .pt (askS g a b In)), (3, iD (n : Nat)), (4, ints w), (5, bD is), (6, bools r), (7, .gs (some p.1.2) n), (9, edsD L), (10, iD (p.1.1 : Nat))], [(p.1.2.1, .cells 4 (p.1.2.2 * 1) ((atF n L a w p.1.1).map bD))]⟩) (fun p => w.length - p.1.1) ⟨(0, ba, ca), Nat.zero_le _, hca⟩ ?_ ?_
 ·refine Weak_subEq rfl ?_
  simp [sub, upd]
 clear hca
 rintro ⟨⟨k, ba, ca⟩, hk, hca⟩
 dsimp only at hk hca ⊢
 have hol := atF_len (n := n) (l := L) (a := a) (w := w) k
 rcases Nat.lt_or_ge k w.length with hlt | hge
 case inr =>
  obtain rfl : k = w.length := by omega
  have q1 := getD_at (l := atF n L a w w.length) (i := b.toNat) (d := false) (by omega)
  have q2 := getD_at (l := r) (i := b.toNat) (d := false) (by omega)
  rw [hrb] at q2
  cases is with
  | true =>
   obtain ⟨t1, t2⟩ := hat rfl
   rw [t1] at q1
   repeat' first | refine vs T rfl fun K hK => ?_; (try simp (disch := omega) only [go_sem, Nat.reduceBEq, ix_bools, iRs_len, Bool.not_true, hrb, hrl, q1, Option.map_some, Nat.mul_one, beq_self_eq_true]); (first | refine hK _ _ ?_; clear hK K | refine ⟨?_, hK _ _ ?_⟩ <;> clear hK K; focus (try omega) | refine Op1.callp rfl rfl (ck) rfl ?_; refine hK _ _ ?_; clear hK K) | refine st rfl ?_ | refine sc rfl ?_ | refine nl ?_ | refine gs rfl rfl ?_ | exact ret1 T (List.nil_sublist _) ⟨rfl, rfl⟩ | with_reducible refine gsplit_intro (fun hc => ?_) (fun hc => ?_) <;> (try simp only [decide_eq_true_eq, decide_eq_false_iff_not, Int.not_lt] at hc) <;> (try (exfalso; omega))
  | false =>
   repeat' first | refine vs T rfl fun K hK => ?_; (try simp (disch := omega) only [go_sem, Nat.reduceBEq, ix_bools, iRs_len, Bool.not_false, hrb, hrl, beq_self_eq_true]); (first | refine hK _ _ ?_; clear hK K | refine ⟨?_, hK _ _ ?_⟩ <;> clear hK K; focus (try omega) | refine Op1.callp rfl rfl (ck) rfl ?_; refine hK _ _ ?_; clear hK K) | refine st rfl ?_ | refine sc rfl ?_ | refine nl ?_ | refine gs rfl rfl ?_ | refine gu rfl rfl ?_ | exact ret1 T (List.nil_sublist _) ⟨rfl, rfl⟩ | with_reducible refine gsplit_intro (fun hc => ?_) (fun hc => ?_) <;> (try simp only [decide_eq_true_eq, decide_eq_false_iff_not, Int.not_lt] at hc) <;> (try (exfalso; omega))
 repeat' first | refine vs T rfl fun K hK => ?_; (try simp (disch := omega) only [go_sem, Nat.reduceBEq, iRs_len, zerosB, Int.toNat_natCast]); (first | refine hK _ _ ?_; clear hK K | refine ⟨?_, fun bq hbq => ?_⟩; rotate_left; (try simp only [HB] at hbq); refine hK _ _ ?_; all_goals clear hK K) | refine st rfl ?_ | refine sc rfl ?_ | refine nl ?_ | with_reducible refine gsplit_intro (fun hc => ?_) (fun hc => ?_) <;> (try simp only [decide_eq_true_eq, decide_eq_false_iff_not, Int.not_lt] at hc) <;> (try (exfalso; omega))
 case refine_1 => exact ⟨by omega, by omega, by omega⟩
 refine VC.nodup fun hnd => ?_
 simp only [Heap.blocks, List.map_cons, List.nodup_cons, List.mem_cons, not_or] at hnd
 obtain ⟨⟨qn, _⟩, _⟩ := hnd
 generalize hO : atF n L a w k = o at *
 have hxw : ∃ x, x = w.getD k 0 := ⟨_, rfl⟩
 obtain ⟨x, hx⟩ := hxw
 refine VC.loop {j : Nat // j ≤ L.length} (fun q => ⟨lookD [(1, .pt (askS g a b In)), (3, iD (n : Nat)), (4, ints w), (5, bD is), (6, bools r), (7, .gs (some (ba, ca)) n), (9, edsD L), (10, iD (k : Nat)), (11, .gs (some (bq, n)) n), (12, iD (q.1 : Nat))], [(bq, .cells 4 (n * 1) ((nxF n o x L q.1).map bD)), (ba, .cells 4 (ca * 1) (o.map bD))]⟩) (fun q => L.length - q.1) ⟨0, Nat.zero_le _⟩ ?_ ?_
 ·refine Weak_subEq (by rw [nxF_0]) ?_
  simp [sub, upd]
 rintro ⟨j, hj⟩
 dsimp only at hj ⊢
 rcases Nat.lt_or_ge j L.length with hjl | hjg
 case inr =>
  obtain rfl : j = L.length := by omega
  repeat' first | refine vs T rfl fun K hK => ?_; (try simp (disch := omega) only [go_sem, Nat.reduceBEq, edRs_len, w64]); (refine hK _ _ ?_; clear hK K) | refine st rfl ?_ | refine sc rfl ?_ | refine nl ?_ | with_reducible refine gsplit_intro (fun hc => ?_) (fun hc => ?_) <;> (try simp only [decide_eq_true_eq, decide_eq_false_iff_not, Int.not_lt] at hc) <;> (try (exfalso; omega))
  refine ⟨⟨(k + 1, bq, n), by dsimp only; omega⟩, Weak.subH ?_ ?_, by dsimp only; omega⟩
  ·dsimp only
   rw [hx, ← hO, nxF_end]
   exact (List.sublist_cons_self _ _).cons_cons _ |>.trans (List.Sublist.refl _)
  ·simp [sub, upd]
 have he := hE (L.getD j (0, 0, 0)) (getD_mem hjl)
 have hnl := nxF_len (n := n) (o := o) (x := x) (l := L) (j := j)
 have ny := nxF_yes (n := n) (o := o) (x := x) hjl hE
 have nn := nxF_no (n := n) (o := o) (x := x) hjl
 obtain ⟨e, hee⟩ : ∃ e, e = L.getD j (0, 0, 0) := ⟨_, rfl⟩
 rw [← hee] at he ny nn
 have r1 := getD_at (l := o) (i := e.1.toNat) (d := false) (by omega)
 cases h2 : o.getD e.1.toNat false
 case false =>
  rw [h2] at r1 nn
  have nn := nn rfl
  repeat' first | refine dr (id := 21) T 18 (by kernel_rfl) ?_ | refine gn ?_ | (first | apply VCg.step T rfl rfl | apply exF); focus ((try simp (disch := omega) only [go_sem, Nat.reduceBEq, ix_eds, edR, Int.toNat_natCast, ← hee, r1, Option.map_some, Nat.mul_one]); (first | exact rfl | refine ⟨?_, rfl⟩; try omega)) | refine VCg.gstep T rfl rfl rfl rfl ?_; try simp only [GB] | refine vs T rfl fun K hK => ?_; (try simp (disch := omega) only [go_sem, Nat.reduceBEq, edRs_len, w64, Nat.mul_one]); (refine hK _ _ ?_; clear hK K) | refine st rfl ?_ | refine sc rfl ?_ | refine nl ?_ | refine gs rfl rfl ?_ | with_reducible refine gsplit_intro (fun hc => ?_) (fun hc => ?_) <;> (try simp only [decide_eq_true_eq, decide_eq_false_iff_not, Int.not_lt] at hc) <;> (try (exfalso; omega))
  refine ⟨⟨j + 1, by omega⟩, Weak_subEq (by dsimp only; rw [nn]; simp only [Nat.mul_one]) ?_, by dsimp only; omega⟩
  simp [sub, upd]
 rw [h2] at r1 ny nn
 cases h3 : decide (e.2.1 = x)
 case false =>
  rw [h3] at nn
  have nn := nn rfl
  have h3 := of_decide_eq_false h3
  repeat' first | refine dr (id := 21) T 18 (by kernel_rfl) ?_ | refine gn ?_ | (first | apply VCg.step T rfl rfl | apply exF); focus ((try simp (disch := omega) only [go_sem, Nat.reduceBEq, ix_eds, ix_ints, edR, Int.toNat_natCast, ← hee, ← hx, r1, Option.map_some, Nat.mul_one]); (first | exact rfl | refine ⟨?_, rfl⟩; try omega)) | refine VCg.gstep T rfl rfl rfl rfl ?_; try simp only [GB] | refine vs T rfl fun K hK => ?_; (try simp (disch := omega) only [go_sem, Nat.reduceBEq, edRs_len, w64, Nat.mul_one]); (refine hK _ _ ?_; clear hK K) | refine st rfl ?_ | refine sc rfl ?_ | refine nl ?_ | refine gs rfl rfl ?_ | with_reducible refine gsplit_intro (fun hc => ?_) (fun hc => ?_) <;> (try simp only [decide_eq_true_eq, decide_eq_false_iff_not, beq_iff_eq, beq_eq_false_iff_ne, ne_eq, Int.not_lt] at hc) <;> (try (exfalso; omega))
  refine ⟨⟨j + 1, by omega⟩, Weak_subEq (by dsimp only; rw [nn]; simp only [Nat.mul_one]) ?_, by dsimp only; omega⟩
  simp [sub, upd]
 rw [h3] at ny
 have ny := ny rfl
 have h3 := of_decide_eq_true h3
 repeat' first | refine dr (id := 21) T 18 (by kernel_rfl) ?_ | refine gn ?_ | (first | apply VCg.step T rfl rfl | apply exF); focus ((try simp (disch := omega) only [go_sem, Nat.reduceBEq, ix_eds, ix_ints, edR, Int.toNat_natCast, ← hee, ← hx, r1, Option.map_some, Nat.mul_one]); (first | exact rfl | refine ⟨?_, rfl⟩; try omega)) | refine VCg.gstep T rfl rfl rfl rfl ?_; try simp only [GB] | refine vs T rfl fun K hK => ?_; (try simp (disch := omega) only [go_sem, Nat.reduceBEq, ix_eds, edRs_len, edR, w64, Int.toNat_natCast, ← hee, Nat.mul_one, hnl, List.length_map]); (first | refine hK _ _ ?_; clear hK K | refine ⟨?_, hK _ _ ?_⟩ <;> clear hK K; focus (try omega)) | refine st rfl ?_ | refine sc rfl ?_ | refine nl ?_ | refine gs rfl rfl ?_ | with_reducible refine gsplit_intro (fun hc => ?_) (fun hc => ?_) <;> (try simp only [decide_eq_true_eq, decide_eq_false_iff_not, beq_iff_eq, beq_eq_false_iff_ne, ne_eq, Int.not_lt] at hc) <;> (try (exfalso; omega))
 refine ⟨⟨j + 1, by omega⟩, Weak_subEq (by dsimp only; rw [ny, List.map_set]; simp only [Nat.mul_one]) ?_, by dsimp only; omega⟩
 simp [sub, upd]
open Go Go.Proofs Go.Vc Go.ChangeShapes Go.WideShapes Go.ChangeAt Go.RowKit Go.Joins
theorem sh_boolsS {d : D} (h : Sh (.sl [.bool]) d) : ∃ l : List Bool, d = bools l := by
 obtain ⟨rows, rfl, _, h3⟩ := h
 obtain ⟨l, rfl⟩ := rows_all (fun n : Bool => [bD n]) (fun r => ShL [.bool] r) (fun r h => by
  obtain ⟨_, _, rfl, ⟨n, rfl⟩, h⟩ := h
  rw [ShL] at h; subst h
  exact ⟨n, rfl⟩) rows h3
 exact ⟨l, rfl⟩
theorem lawTrailShort_all (Ds : List D) (h : ShA [.many [.sl [.int .i64], .sl [.int .i64], .sl [.int .i64], .int .i64, .int .i64, .sl [.bool]]] Ds) : Pure Tryz.prog 5 Ds (bD true) := by
 obtain ⟨_, _, rfl, h, h2⟩ := h
 rw [ShA] at h2; subst h2
 obtain ⟨_, _, rfl, h1, _, _, rfl, h2, _, _, rfl, h3, _, _, rfl, ⟨a, rfl, _⟩, _, _, rfl, ⟨b, rfl, _⟩, _, _, rfl, h4, h⟩ := h
 rw [ShL] at h; subst h
 obtain ⟨st, rfl⟩ := sh_ints h1
 obtain ⟨ag, rfl⟩ := sh_ints h2
 obtain ⟨to, rfl⟩ := sh_ints h3
 obtain ⟨In, rfl⟩ := sh_boolsS h4
 exact lawShort ⟨st, ag, to⟩ a b In
set_option maxRecDepth 100000 in
theorem lifted_TrailShort (os : Os) (started : os.Started) (H : Type) (enc : TypeId × Value → H) :
  ReturnsInHanded {} Tryz.checked os 5 .any (Rows.trailShortSpec.pre6 enc Tryz.prog Tryz.f5 Rows.trailShortRow.domain false) (Rows.trailShortSpec.post enc Tryz.prog Tryz.f5 false true false false) := by
 refine returnsInHanded_of_change (C := Tryz.checked) ownK started (by kernel_rfl) Tryz.func5
  (ChangeSpec.witness6 (enc := enc) (C := Tryz.checked) false ⟨#[], #[.agg #[.slice none 0 0, .slice none 0 0, .slice none 0 0, .int .i64 0, .int .i64 0, .slice none 0 0]], []⟩ 12 (by kernel_rfl) (by kernel_rfl) (by kernel_rfl) (by kernel_rfl)) ?_
 intro W base args ds gs before hval0 hW hcnd _
 have hval : ∀ (j : Nat) t v, Tryz.f5.params[j]? = some t → args[j]? = some v → Value.okWide Tryz.prog W .any base t v := hval0
 have hW' := hW
 obtain ⟨p, q, hA0, hV, rfl, hfz, hnd⟩ := hW
 have hA : DataW.TrodAll enc Tryz.prog W 0 (fun _ => true) true Tryz.f5.params.toList args.toList ds p := hA0
 obtain ⟨rfl, rfl⟩ := trodVars_none hV
 obtain ⟨Ds, hS, hR⟩ := open_args (L := live [] (fun _ => False)) (fun b hb => hb.elim id (fun h => by cases h)) _ _ _ _ [.many [.sl [.int .i64], .sl [.int .i64], .sl [.int .i64], .int .i64, .int .i64, .sl [.bool]]] hA
  (fun j t v h1 h2 => hval j t v (by simpa using h1) (by simpa using h2)) (by kernel_rfl)
 obtain ⟨d0, rfl⟩ := spine1 (trodAll_len _ _ _ _ hA)
 simp only [List.append_nil] at hW'
 have hlt : ∀ x ∈ p, x.block < W.heap.size := fun x hx => by simpa using hW'.lt x hx
 refine (calls_yes (lawTrailShort_all Ds hS) W args.toList hR).mono fun e W' ⟨he, hw⟩ => ?_
 subst he
 exact ⟨_, rfl, _, _, _, [], p, [], hW', trodAll_mk1 (shut_bool Tryz.underlying4 _), shut_args (by kernel_rfl) hw _ _ _ _ (by kernel_rfl) hA hlt, rfl, hw.frame _, fun h => by cases h⟩
theorem TrailShort_holds : Rows.TrailShortSaid :=
 OpenClaim.holds_of_wide 5 Tryz.f5 rfl rfl rfl rfl rfl rfl rfl ⟨rfl, rfl, rfl, rfl, rfl⟩ rfl rfl rfl rfl rfl (by kernel_rfl) Tryz.func5 (by kernel_rfl)
  (of_decide_eq_true (by kernel_rfl)) (by unfold Func.isWrapper; first | (rw [if_pos (by decide +kernel)]; kernel_rfl) | (rw [if_neg (by decide +kernel)]; exact ⟨rfl, rfl⟩))
  (fun os started H enc _ => lifted_TrailShort os started H enc)
end Go.Proofs.YtomcmfbpmkklmaaGreat
