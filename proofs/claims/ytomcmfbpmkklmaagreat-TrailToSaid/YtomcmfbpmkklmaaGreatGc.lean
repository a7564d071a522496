/- Plain law: the path to a configuration is replayed to it, and leads to it in the graph. No condition. -/
import Derived.Test.YtomcmfbpmkklmaaGreatDy
import Derived.Test.YtomcmfbpmkklmaaGreatDf
import Derived.Test.YtomcmfbpmkklmaaGreatDj
import Derived.Test.YtomcmfbpmkklmaaGreatSa
import Derived.Test.YtomcmfbpmkklmaaGreatDs
import Derived.Test.YtomcmfbpmkklmaaGreatDg
import Derived.Test.YtomcmfbpmkklmaaGreatXk
import Derived.Test.YtomcmfbpmkklmaaGreatZc
namespace Go.Proofs.YtomcmfbpmkklmaaGreat
set_option maxHeartbeats 16000000
set_option linter.unusedSimpArgs false
set_option linter.unusedVariables false
set_option maxRecDepth 20000
open Go Go.Proofs Go.Vc
theorem goF_snoc {u : Un} {m r : Int} {a : Int} : ∀ {p : List Int} {c c' : Cf} {k k' : Nat}, goF u m r c p k = (c', k', 0) → enM u c' m r a = true → goF u m r c (p ++ [a]) k = (actM u c' m r a, k' + 1, 0)
 | [], c, c', k, k', h, he => by
  cases h
  simp only [List.nil_append, goF, he]
 | x :: p, c, c', k, k', h, he => by
  simp only [List.cons_append, goF] at h ⊢
  cases hx : enM u c m r x with
  | true => rw [hx] at h; exact goF_snoc h he
  | false => rw [hx] at h; cases h
theorem walk_snoc {g : Cs} {a : Int} : ∀ {p : List Int} {x y : Int}, walkF g x p = y → 0 ≤ y → 0 ≤ nextG g y a → walkF g x (p ++ [a]) = nextG g y a
 | [], x, y, h, hy, hn => by
  have h : x = y := h
  subst h
  simp only [List.nil_append, walkF, show decide (nextG g x a < 0) = false from decide_eq_false (by omega)]
 | q :: p, x, y, h, hy, hn => by
  simp only [List.cons_append, walkF] at h ⊢
  cases hx : decide (nextG g x q < 0) with
  | true => rw [hx] at h; simp only at h; omega
  | false => rw [hx] at h; exact walk_snoc h hy hn
theorem nxt_of {a j : Int} : ∀ {L : List Ed}, (∀ e, e ∈ L → e.2.1 = a → e.2.2 = j) → (∃ e, e ∈ L ∧ e.2.1 = a) → nxt L a = j
 | [], _, h => by obtain ⟨e, he, _⟩ := h; cases he
 | e :: L, h, k => by
  unfold nxt
  by_cases he : e.2.1 = a
  ·rw [decide_eq_true he]; exact h e (List.mem_cons_self ..) he
  ·rw [decide_eq_false he]
   obtain ⟨d, hd, hda⟩ := k
   refine nxt_of (fun x hx => h x (List.mem_cons_of_mem _ hx)) ⟨d, ?_, hda⟩
   rcases List.mem_cons.1 hd with rfl | hd
   ·exact absurd hda he
   ·exact hd
theorem edgesK_mem {α : Type} [DecidableEq α] {mv : α → List Int} {ac : α → Int → α} {cf : List α} {n : Nat} {e : Nat × Int × Nat} : e ∈ edgesK mv ac cf n ↔ ∃ c, e.1 < n ∧ cf[e.1]? = some c ∧ e.2.1 ∈ mv c ∧ e.2.2 = cf.idxOf (ac c e.2.1) := by
 simp only [edgesK, List.mem_flatMap, List.mem_range]
 constructor
 ·rintro ⟨j, hj, h⟩
  split at h
  ·rename_i c hc
   obtain ⟨a, ha, rfl⟩ := List.mem_map.1 h
   exact ⟨c, hj, hc, ha, rfl⟩
  ·cases h
 ·rintro ⟨c, h1, h2, h3, h4⟩
  refine ⟨e.1, h1, ?_⟩
  rw [h2]
  exact List.mem_map.2 ⟨e.2.1, h3, by rw [← h4]⟩
theorem moves_en {u : Un} {c : Cf} {m r a : Int} (h : a ∈ movesF u c m r) : enM u c m r a = true := by
 simp only [movesF, mvK, List.mem_map, List.mem_filter, List.mem_range] at h
 obtain ⟨i, ⟨hi, hb⟩, rfl⟩ := h
 have hA : oneF u m (i : Int) = (agsF u m)[i]? := by
  unfold oneF
  simp
 unfold enM
 rw [hA]
 cases hq : (agsF u m)[i]? with
 | none => rw [hq] at hb; cases hb
 | some ag => rw [hq] at hb; simpa using hb
theorem nodup_idx {α : Type} [DecidableEq α] {l : List α} (hn : l.Nodup) {j : Nat} {x : α} (h : l[j]? = some x) : l.idxOf x = j := by
 obtain ⟨hj, hx⟩ := List.getElem?_eq_some_iff.1 h
 subst hx
 exact hn.idxOf_getElem j hj
theorem gphS_nodes {u : Un} {m r b : Int} {S : Spc Cf} (h : allS u m r b = some S) (hb : 1 ≤ b) : nodesG (gphS S) = S.cf.length := nodesG_build (gphS_ok h hb)
theorem next_S {u : Un} {m r b : Int} {S : Spc Cf} (h : allS u m r b = some S) (hb : 1 ≤ b) {p j : Nat} {c : Cf} {a : Int} (hp : S.cf[p]? = some c) (ha : a ∈ movesF u c m r) (hj : S.cf[j]? = some (actM u c m r a)) : nextG (gphS S) (p : Int) a = (j : Int) := by
 obtain ⟨I, he, hm⟩ := allA_inv h (by omega)
 have hn := gphS_nodes h hb
 have hpl := (List.getElem?_eq_some_iff.1 hp).1
 have hrow : outG (gphS S) (p : Int) = outE (edS S) p := by
  unfold outG
  rw [hn, show (decide ((0 : Int) ≤ (p : Int)) && decide ((p : Int) < (S.cf.length : Int))) = true by simp; omega]
  simp only [Int.toNat_natCast]
  exact rowG_build _ _ hpl
 unfold nextG
 rw [hrow]
 have mem : ∀ e, e ∈ outE (edS S) p ↔ ∃ x, x ∈ S.ed ∧ e = ((x.1 : Int), x.2.1, (x.2.2 : Int)) ∧ x.1 = p := fun e => by
  simp only [outE, edS, List.mem_filter, List.mem_map, beq_iff_eq]
  constructor
  ·rintro ⟨⟨x, hx, rfl⟩, h2⟩; exact ⟨x, hx, rfl, Int.ofNat.inj h2⟩
  ·rintro ⟨x, hx, rfl, h2⟩; exact ⟨⟨x, hx, rfl⟩, congrArg Int.ofNat h2⟩
 refine nxt_of (fun e hx hea => ?_) ?_
 ·obtain ⟨x, hx1, rfl, hx2⟩ := (mem e).1 hx
  rw [he, edgesK_mem] at hx1
  obtain ⟨c', k1, k2, k3, k4⟩ := hx1
  subst hx2
  rw [hp] at k2
  cases k2
  simp only at hea
  subst hea
  simp only
  rw [k4, nodup_idx I.nd hj]
 ·refine ⟨((p : Int), a, (j : Int)), (mem _).2 ⟨(p, a, j), ?_, rfl, rfl⟩, rfl⟩
  rw [he, edgesK_mem]
  exact ⟨c, hpl, hp, ha, (nodup_idx I.nd hj).symm⟩
theorem allS_to {u : Un} {m r b : Int} {S : Spc Cf} (h : allS u m r b = some S) (hb : 1 ≤ b) (hb2 : b ≤ 1000000) : ToOk S.cf.length S.pa S.ag := by
 obtain ⟨I, _, _⟩ := allA_inv h (by omega)
 have hl := (allA_budget h (by omega)).2.1
 refine ⟨by omega, I.pal, I.agl, fun j h0 hj => ?_⟩
 obtain ⟨p, a, c, h1, h2, _⟩ := I.by_ j h0 hj
 rw [List.getD_eq_getElem?_getD, h2]
 simp only [Option.getD_some]; omega
theorem to_law {u : Un} {m r b : Int} {S : Spc Cf} (h : allS u m r b = some S) (hb : 1 ≤ b) (hb2 : b ≤ 1000000) : ∀ (k : Nat) (c : Cf), S.cf[k]? = some c →
  goF u m r (startC u) (toF S.pa S.ag k) 0 = (c, (toF S.pa S.ag k).length, 0) ∧ walkF (gphS S) 0 (toF S.pa S.ag k) = (k : Int) := by
 obtain ⟨I, he, hm⟩ := allA_inv h (by omega)
 have hT := allS_to h hb hb2
 intro k
 induction k using Nat.strongRecOn with
 | _ k ih =>
  intro c hc
  have hk := (List.getElem?_eq_some_iff.1 hc).1
  rcases Nat.eq_zero_or_pos k with rfl | h0
  ·rw [I.first.1] at hc; cases hc
   exact ⟨rfl, rfl⟩
  ·obtain ⟨p, a, d, h1, h2, h3, h4, h5, h6⟩ := I.by_ k h0 hk
   rw [hc] at h6
   cases h6
   obtain ⟨g1, g2⟩ := ih p h1 d h4
   have e1 : (S.pa.getD k 0).toNat = p := by rw [List.getD_eq_getElem?_getD, h2]; rfl
   have e2 : S.ag.getD k 0 = a := by rw [List.getD_eq_getElem?_getD, h3]; rfl
   rw [toF_succ hT h0 hk, e1, e2]
   have hnx := next_S h hb h4 h5 hc
   constructor
   ·rw [goF_snoc g1 (moves_en h5)]; simp
   ·rw [walk_snoc g2 (by omega) (by rw [hnx]; omega), hnx]
attribute [local irreducible] retQ VCg VCw VCx
abbrev c16C (u : Un) (m r b : Int) : List D := unC u ++ [iD m, iD r, iD b]
theorem toI_toF {n : Nat} {P B : List Int} {k : Nat} (h : k < n) : toI n P B (k : Int) = toF P B k := by
 unfold toI
 rcases Nat.eq_zero_or_pos k with rfl | h0
 ·rfl
 ·rw [show (decide (0 < (k : Int)) && decide ((k : Int) < (n : Int))) = true by simp; omega]
  simp
theorem gphS_okg {u : Un} {m r b : Int} {S : Spc Cf} (h : allS u m r b = some S) (hb : 1 ≤ b) (hb2 : b ≤ 1000) : OkG (gphS S) := by
 obtain ⟨I, he, _⟩ := allA_inv h (by omega)
 have hl := (allA_budget h (by omega)).2.1
 have h1 : ∀ n, (edgesK (fun c => movesF u c m r) (fun c a => actM u c m r a) S.cf n).length ≤ 28 * n := by
  intro n
  induction n with
  | zero => exact Nat.zero_le _
  | succ n ih =>
   have e : edgesK (fun c => movesF u c m r) (fun c a => actM u c m r a) S.cf (n + 1) = edgesK (fun c => movesF u c m r) (fun c a => actM u c m r a) S.cf n ++ (match S.cf[n]? with | some c => (movesF u c m r).map fun a => (n, a, S.cf.idxOf (actM u c m r a)) | none => []) := by
    unfold edgesK
    rw [List.range_succ, List.flatMap_append]
    simp
    cases S.cf[n]? <;> rfl
   rw [e, List.length_append]
   split
   ·rename_i c _
    have := moves_len (u := u) (c := c) (m := m) (r := r)
    rw [List.length_map]; omega
   ·rw [List.length_nil]; omega
 have h2 := h1 S.cf.length
 rw [← he] at h2
 have h3 := upE_le (edS S) S.cf.length
 rw [edS_len] at h3
 refine ⟨?_, ?_, ?_⟩
 ·simp only [gphS, buildF, List.length_map, List.length_range]; omega
 ·simp only [gphS, buildF, List.length_map]; omega
 ·simp only [gphS, buildF, List.length_map]; omega
theorem lawTo (u : Un) (m r b i : Int) : Pure Tryz.prog 3 [.agg (c16C u m r b), iD i] (bD true) := by
 have cl := ulight_ok u
 have ck := known16_ok
 refine Fun.of T [.tmp 4] Tryz.func3 rfl Tryz.ntmps3 Tryz.results3 rfl (by kernel_rfl) ?_
 cases hL : lightU u with
 | false =>
  rw [hL] at cl
  repeat' first | refine vb (t := 27) rfl rfl rfl rfl ?_ | refine vs T rfl fun K hK => ?_; (try simp (disch := omega) only [go_sem, Nat.reduceBEq, Nat.reduceAdd, Nat.reduceLeDiff, Bool.not_false]); (first | refine hK _ _ ?_; clear hK K | refine Op1.callp rfl rfl (cl) rfl ?_; refine hK _ _ ?_; clear hK K | refine Op1.callp rfl rfl (ck) rfl ?_; refine hK _ _ ?_; clear hK K) | refine st rfl ?_ | refine sc rfl ?_ | refine nl ?_ | refine gs rfl rfl ?_ | exact ret1 T (List.nil_sublist _) ⟨rfl, rfl⟩
 | true =>
 rw [hL] at cl
 have hu := okU_light hL
 by_cases hb : b ≤ 150
 case neg =>
  have e1 : decide (b > 150) = true := decide_eq_true (by omega)
  repeat' first | refine vb (t := 27) rfl rfl rfl rfl ?_ | refine vs T rfl fun K hK => ?_; (try simp (disch := omega) only [go_sem, Nat.reduceBEq, Nat.reduceAdd, Nat.reduceLeDiff, Bool.not_true, e1]); (first | refine hK _ _ ?_; clear hK K | refine Op1.callp rfl rfl (cl) rfl ?_; refine hK _ _ ?_; clear hK K | refine Op1.callp rfl rfl (ck) rfl ?_; refine hK _ _ ?_; clear hK K) | refine st rfl ?_ | refine sc rfl ?_ | refine nl ?_ | refine gs rfl rfl ?_ | exact ret1 T (List.nil_sublist _) ⟨rfl, rfl⟩
 have e1 : decide (b > 150) = false := decide_eq_false (by omega)
 cases hU : unitB u with
 | false =>
  have ca := rall_bad u hu m r b hU
  have he : errS u m r b = 8 := by simp only [errS, hU]
  have hsp : spR u m r b = spC [] ⟨[], [], []⟩ [] [] := by simp only [spR, hU, Bool.false_and]
  rw [he, hsp] at ca
  repeat' first | refine vb (t := 27) rfl rfl rfl rfl ?_ | refine vs T rfl fun K hK => ?_; (try simp (disch := omega) only [go_sem, Nat.reduceBEq, Nat.reduceAdd, Nat.reduceLeDiff, Bool.not_true, e1]); (first | refine hK _ _ ?_; clear hK K | intro bq hbq; (try simp only [HB] at hbq); refine hK _ _ ?_; clear hK K | refine Op1.callp rfl rfl (cl) rfl ?_; refine hK _ _ ?_; clear hK K | refine Op1.callp rfl rfl (ck) rfl ?_; refine hK _ _ ?_; clear hK K | refine Op1.callp rfl rfl (ca) rfl ?_; refine hK _ _ ?_; clear hK K) | refine st rfl ?_ | refine sc rfl ?_ | refine nl ?_ | refine gs rfl rfl ?_ | exact ret1 T (List.nil_sublist _) ⟨rfl, rfl⟩
 | true =>
 cases hA : argS m r b with
 | false =>
  have ca := rall_arg u hu m r b hU hA
  have he : errS u m r b = 1 := by simp only [errS, hU, hA]
  have hsp : spR u m r b = spC [] ⟨[], [], []⟩ [] [] := by simp only [spR, hU, hA, Bool.and_false]
  rw [he, hsp] at ca
  repeat' first | refine vb (t := 27) rfl rfl rfl rfl ?_ | refine vs T rfl fun K hK => ?_; (try simp (disch := omega) only [go_sem, Nat.reduceBEq, Nat.reduceAdd, Nat.reduceLeDiff, Bool.not_true, e1]); (first | refine hK _ _ ?_; clear hK K | intro bq hbq; (try simp only [HB] at hbq); refine hK _ _ ?_; clear hK K | refine Op1.callp rfl rfl (cl) rfl ?_; refine hK _ _ ?_; clear hK K | refine Op1.callp rfl rfl (ck) rfl ?_; refine hK _ _ ?_; clear hK K | refine Op1.callp rfl rfl (ca) rfl ?_; refine hK _ _ ?_; clear hK K) | refine st rfl ?_ | refine sc rfl ?_ | refine nl ?_ | refine gs rfl rfl ?_ | exact ret1 T (List.nil_sublist _) ⟨rfl, rfl⟩
 | true =>
 have ca := rall_in u hu m r b hU hA (by omega)
 cases hS : allS u m r b with
 | none =>
  have he : errS u m r b = 18 := by simp only [errS, hU, hA, hS]
  have hsp : spR u m r b = spC [] ⟨[], [], []⟩ [] [] := by simp only [spR, hU, hA, hS, Bool.and_self]
  rw [he, hsp] at ca
  repeat' first | refine vb (t := 27) rfl rfl rfl rfl ?_ | refine vs T rfl fun K hK => ?_; (try simp (disch := omega) only [go_sem, Nat.reduceBEq, Nat.reduceAdd, Nat.reduceLeDiff, Bool.not_true, e1]); (first | refine hK _ _ ?_; clear hK K | intro bq hbq; (try simp only [HB] at hbq); refine hK _ _ ?_; clear hK K | refine Op1.callp rfl rfl (cl) rfl ?_; refine hK _ _ ?_; clear hK K | refine Op1.callp rfl rfl (ck) rfl ?_; refine hK _ _ ?_; clear hK K | refine Op1.callp rfl rfl (ca) rfl ?_; refine hK _ _ ?_; clear hK K) | refine st rfl ?_ | refine sc rfl ?_ | refine nl ?_ | refine gs rfl rfl ?_ | exact ret1 T (List.nil_sublist _) ⟨rfl, rfl⟩
 | some S =>
 have he : errS u m r b = 0 := by simp only [errS, hU, hA, hS]
 have hsp : spR u m r b = spA S := by simp only [spR, hU, hA, hS, Bool.and_self]
 rw [he, hsp] at ca
 have hA' := hA
 simp only [argS, Bool.and_eq_true, decide_eq_true_eq] at hA'
 have hT := allS_to hS hA'.2.2.1 (by omega)
 have hbud := (allA_budget hS (by omega)).2.1
 have c1 := to_ok S.cf (gphS S) S.pa S.ag hT i
 have c2 := rto_ok S.cf (gphS S) S.pa S.ag hT i
 have hlen : (toI S.cf.length S.pa S.ag i).length ≤ 1000000 := by
  unfold toI
  split
  ·rename_i hc
   simp only [Bool.and_eq_true, decide_eq_true_eq] at hc
   have := toF_len hT i.toNat (by omega)
   omega
  ·exact Nat.zero_le _
 have c3 := ints_ok _ _ hlen hlen
 rw [decide_eq_true rfl] at c3
 repeat' first | refine vb (t := 27) rfl rfl rfl rfl ?_ | refine dr (id := 6) T 5 (by kernel_rfl) ?_ | refine gn ?_ | (apply VCg.step T rfl rfl); focus ((try simp (disch := omega) only [go_sem, Nat.reduceBEq, Nat.reduceAdd, Nat.reduceLeDiff, beq_self_eq_true]); (first | exact rfl | refine Op1.callp rfl rfl (c1) rfl ?_; exact ⟨rfl, rfl⟩)) | refine vs T rfl fun K hK => ?_; (try simp (disch := omega) only [go_sem, Nat.reduceBEq, Nat.reduceAdd, Nat.reduceLeDiff, Bool.not_true, e1, beq_self_eq_true]); (first | refine hK _ _ ?_; clear hK K | intro bq hbq; (try simp only [HB] at hbq); refine hK _ _ ?_; clear hK K | refine Op1.callp rfl rfl (cl) rfl ?_; refine hK _ _ ?_; clear hK K | refine Op1.callp rfl rfl (ca) rfl ?_; refine hK _ _ ?_; clear hK K | refine Op1.callp rfl rfl (c2) rfl ?_; refine hK _ _ ?_; clear hK K | refine Op1.callp rfl rfl (c3) rfl ?_; refine hK _ _ ?_; clear hK K) | refine st rfl ?_ | refine sc rfl ?_ | refine nl ?_ | refine gs rfl rfl ?_
 have hrt := allS_rt hS hA'.2.2.1 (start_right hu hU hA'.1 hA'.2.1)
 have hgo := gphS_ok hS hA'.2.2.1
 have hgn := gphS_nodes hS hA'.2.2.1
 have hog : OkG (gphS S) := gphS_okg hS hA'.2.2.1 (by omega)
 refine VC.loop {k : Nat // k ≤ S.cf.length} (fun q => ⟨lookD [(2, .pt (c16C u m r b)), (5, pD bq), (7, iD (q.1 : Nat))], [(bq, .cells 34 6 (spA S))]⟩) (fun q => S.cf.length - q.1) ⟨0, by omega⟩ ?_ ?_
 ·refine Weak_subEq rfl ?_
  simp [sub, upd]
 rintro ⟨k, hk⟩
 dsimp only at hk ⊢
 rcases Nat.lt_or_ge k S.cf.length with hlt | hge
 case inr =>
  obtain rfl : k = S.cf.length := by omega
  repeat' first | refine vs T rfl fun K hK => ?_; (try simp (disch := omega) only [go_sem, Nat.reduceBEq, cfsRows_l]); (first | refine hK _ _ ?_; clear hK K | refine Op1.callp rfl rfl (ck) rfl ?_; refine hK _ _ ?_; clear hK K) | refine st rfl ?_ | refine sc rfl ?_ | refine nl ?_ | with_reducible refine gsplit_intro (fun hc => ?_) (fun hc => ?_) <;> (try simp only [decide_eq_true_eq, decide_eq_false_iff_not, Int.not_lt] at hc) <;> (try (exfalso; omega))
  exact ret1 T (List.nil_sublist _) ⟨rfl, rfl⟩
 obtain ⟨c, hc⟩ : ∃ c, S.cf[k]? = some c := ⟨_, List.getElem?_eq_getElem hlt⟩
 obtain ⟨g1, g2⟩ := to_law hS hA'.2.2.1 (by omega) k c hc
 have hcm := (hrt c (List.mem_of_getElem? hc)).okC
 have d1 := to_ok S.cf (gphS S) S.pa S.ag hT (k : Int)
 rw [toI_toF hlt] at d1
 have hpl := toF_len hT k hlt
 have d2 := replay_ok u hu m r (toF S.pa S.ag k) (by omega)
 have hrep : repF u m r (toF S.pa S.ag k) = (c, (toF S.pa S.ag k).length, 0) := by
  have : okMR m r = true := by simp only [okMR, Bool.and_eq_true, decide_eq_true_eq]; exact ⟨hA'.1, hA'.2.1⟩
  simp only [repF, hU, this]
  exact g1
 rw [hrep] at d2
 have d3 := rsame_ok c c hcm hcm
 rw [sameC_refl] at d3
 have d4 := follow_ok (gphS S) hog 0 (toF S.pa S.ag k) (by omega)
 have hfol : followF (gphS S) 0 (toF S.pa S.ag k) = (k : Int) := by
  unfold followF
  rw [hgn, show (decide ((0 : Int) ≤ 0) && decide ((0 : Int) < (S.cf.length : Int))) = true by simp; omega]
  exact g2
 rw [hfol] at d4
 have hx : S.cf.getD k default = c := by rw [List.getD_eq_getElem?_getD, hc]; rfl
 generalize toF S.pa S.ag k = p at *
 repeat' first | refine dr (id := 13) T 24 (by kernel_rfl) ?_ | refine gn ?_ | (first | apply VCg.step T rfl rfl | apply exF); focus ((try simp (disch := omega) only [go_sem, Nat.reduceBEq, Nat.reduceAdd, Nat.reduceLeDiff, ix_cfs, iRs_len, Int.toNat_natCast, hx, bne_self_eq_false]); (first | exact rfl | refine ⟨?_, rfl⟩; try omega | refine Op1.callp rfl rfl (d3) rfl ?_; exact ⟨rfl, rfl⟩ | refine Op1.callp rfl rfl (d4) rfl ?_; exact ⟨rfl, rfl⟩)) | refine VCg.gstep T rfl rfl rfl rfl ?_; try simp only [GB] | refine vs T rfl fun K hK => ?_; (try simp (disch := omega) only [go_sem, Nat.reduceBEq, Nat.reduceAdd, Nat.reduceLeDiff, cfsRows_l, w64, bne_self_eq_false]); (first | refine hK _ _ ?_; clear hK K | intro bq hbq; (try simp only [HB] at hbq); refine hK _ _ ?_; clear hK K | refine Op1.callp rfl rfl (d1) rfl ?_; refine hK _ _ ?_; clear hK K | refine Op1.callp rfl rfl (d2) rfl ?_; refine hK _ _ ?_; clear hK K) | refine st rfl ?_ | refine sc rfl ?_ | refine nl ?_ | refine gs rfl rfl ?_ | with_reducible refine gsplit_intro (fun hc => ?_) (fun hc => ?_) <;> (try simp only [decide_eq_true_eq, decide_eq_false_iff_not, Int.not_lt] at hc) <;> (try (exfalso; omega))
 refine ⟨⟨k + 1, by omega⟩, Weak_subH rfl ?_, by dsimp only; omega⟩
 simp [sub, upd]
open Go Go.Proofs Go.Vc Go.ChangeShapes Go.WideShapes Go.ChangeAt Go.RowKit Go.Joins
abbrev case16T : List Ty := [.int .i64, .sl [.int .i64], .sl [.int .i64], .sl [.sl insT], .int .i64, .int .i64, .int .i64]
theorem case16_all {l : List D} (h : ShL case16T l) : ∃ u m r b, l = c16C u m r b := by
 obtain ⟨_, _, rfl, ⟨md, rfl, _⟩, _, _, rfl, h1, _, _, rfl, h2, _, _, rfl, ⟨cr, rfl, _, h3⟩, _, _, rfl, ⟨m, rfl, _⟩, _, _, rfl, ⟨r, rfl, _⟩, _, _, rfl, ⟨b, rfl, _⟩, h⟩ := h
 rw [ShL] at h; subst h
 obtain ⟨i0, rfl⟩ := sh_ints h1
 obtain ⟨rg, rfl⟩ := sh_ints h2
 obtain ⟨cd, rfl⟩ := rows_all (fun l : List Ins => [.sl false 7 (insRs l)]) _ (fun r h => sh_row h) cr h3
 exact ⟨⟨md, i0, rg, cd⟩, m, r, b, rfl⟩
theorem lawTrailTo_all (Ds : List D) (h : ShA [.many case16T, .one (.int .i64)] Ds) : Pure Tryz.prog 3 Ds (bD true) := by
 obtain ⟨_, _, rfl, h1, _, _, rfl, ⟨i, rfl, _⟩, h3⟩ := h
 rw [ShA] at h3; subst h3
 obtain ⟨u, m, r, b, rfl⟩ := case16_all h1
 exact lawTo u m r b i
set_option maxRecDepth 100000 in
theorem lifted_TrailTo (os : Os) (started : os.Started) (H : Type) (enc : TypeId × Value → H) :
  ReturnsInHanded {} Tryz.checked os 3 .any (Rows.trailToSpec.pre6 enc Tryz.prog Tryz.f3 Rows.trailToRow.domain false) (Rows.trailToSpec.post enc Tryz.prog Tryz.f3 false true false false) := by
 refine returnsInHanded_of_change (C := Tryz.checked) ownK started (by kernel_rfl) Tryz.func3
  (ChangeSpec.witness6 (enc := enc) (C := Tryz.checked) false ⟨#[], #[.agg #[.int .i64 0, .slice none 0 0, .slice none 0 0, .slice none 0 0, .int .i64 0, .int .i64 0, .int .i64 0], .int .i64 0], []⟩ 12 (by kernel_rfl) (by kernel_rfl) (by kernel_rfl) (by kernel_rfl)) ?_
 intro W base args ds gs before hval0 hW hcnd _
 have hval : ∀ (j : Nat) t v, Tryz.f3.params[j]? = some t → args[j]? = some v → Value.okWide Tryz.prog W .any base t v := hval0
 have hW' := hW
 obtain ⟨p, q, hA0, hV, rfl, hfz, hnd⟩ := hW
 have hA : DataW.TrodAll enc Tryz.prog W 0 (fun _ => true) true Tryz.f3.params.toList args.toList ds p := hA0
 obtain ⟨rfl, rfl⟩ := trodVars_none hV
 obtain ⟨Ds, hS, hR⟩ := open_args (L := live [] (fun _ => False)) (fun b hb => hb.elim id (fun h => by cases h)) _ _ _ _ [.many case16T, .one (.int .i64)] hA
  (fun j t v h1 h2 => hval j t v (by simpa using h1) (by simpa using h2)) (by kernel_rfl)
 obtain ⟨d0, d1, rfl⟩ := spine2 (trodAll_len _ _ _ _ hA)
 simp only [List.append_nil] at hW'
 have hlt : ∀ x ∈ p, x.block < W.heap.size := fun x hx => by simpa using hW'.lt x hx
 refine (calls_yes (lawTrailTo_all Ds hS) W args.toList hR).mono fun e W' ⟨he, hw⟩ => ?_
 subst he
 exact ⟨_, rfl, _, _, _, [], p, [], hW', trodAll_mk1 (shut_bool Tryz.underlying4 _), shut_args (by kernel_rfl) hw _ _ _ _ (by kernel_rfl) hA hlt, rfl, hw.frame _, fun h => by cases h⟩
theorem TrailTo_holds : Rows.TrailToSaid :=
 OpenClaim.holds_of_wide 3 Tryz.f3 rfl rfl rfl rfl rfl rfl rfl ⟨rfl, rfl, rfl, rfl, rfl⟩ rfl rfl rfl rfl rfl (by kernel_rfl) Tryz.func3 (by kernel_rfl)
  (of_decide_eq_true (by kernel_rfl)) (by unfold Func.isWrapper; first | (rw [if_pos (by decide +kernel)]; kernel_rfl) | (rw [if_neg (by decide +kernel)]; exact ⟨rfl, rfl⟩))
  (fun os started H enc _ => lifted_TrailTo os started H enc)
end Go.Proofs.YtomcmfbpmkklmaaGreat
