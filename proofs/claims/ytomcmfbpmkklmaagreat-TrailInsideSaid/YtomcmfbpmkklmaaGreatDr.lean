/- Contracts: a way by some nodes, the reference. No condition. -/
import Derived.Test.YtomcmfbpmkklmaaGreatDp
namespace Go.Proofs.YtomcmfbpmkklmaaGreat
set_option maxHeartbeats 16000000
set_option linter.unusedSimpArgs false
set_option linter.unusedVariables false
set_option maxRecDepth 20000
open Go Go.Proofs Go.Vc
attribute [local irreducible] retQ VCg VCw VCx
def pthD : List Int → D
 | [] => .gs none 0
 | x :: p => ints (x :: p)
theorem fz_pth {H : Heap} (p : List Int) : Fz H (insWy (some p)) (.tup [pthD p, bD true]) := by
 cases p with
 | nil => exact fz_int0
 | cons x p => exact Fz.refl _ _
theorem pth_snoc (p : List Int) (a : Int) : pthD (p ++ [a]) = ints (p ++ [a]) := by cases p <;> rfl
theorem src_pth {H : Heap} (p : List Int) : srcOk 1 (pthD p) H (p.map iD) p.length := by
 cases p with
 | nil => exact ⟨rfl, rfl⟩
 | cons x p => exact ⟨rfl, (iRs_flat _).symm, by rw [iRs_len]⟩
theorem appG {e : TypeId} {esz eb : Nat} {ea : Bool} {ez : List Value} {g : Option (Nat × Nat)} {n m : Nat} {x : D} {H : Heap} {K : D → Heap → Prop} {F : Option (Nat × Nat) → List D → Heap} {l news : List D}
  (h1 : Sp H g e esz l F) (h2 : l.length = n * esz) (h3 : srcOk esz x H news m) (h4 : 0 < esz ∧ 0 < eb ∧ (n + m) * eb ≤ 140737488355328) (h5 : ∀ g', gOk g' (n + m) → K (.gs g' (n + m)) (F g' (l ++ news))) :
  cAppS (.slice e esz eb ea ez) (.gs g n) x H K := ⟨F, l, news, m, h1, h2, h3, h4, h5⟩
abbrev inR (bf cf bp cp : Nat) (F : List Wy) : Heap := [(bp, .cells 22 (cp * 1) (F.map fun e => pthD e.2.2.2)), (bf, .cells 3 (cf * 1) (F.map fun e => iD e.1))]
theorem hasN_take {F : List Wy} {x : Int} {j : Nat} {e : Wy} (h : F[j]? = some e) : hasN (F.take (j + 1)) x = (hasN (F.take j) x || decide (e.1 = x)) := by
 unfold hasN
 rw [List.take_add_one, h, List.any_append]
 simp
theorem rinside_ok (g : Cs) (hg : OkG g) (hR : rightG g = true) (a b : Int) (In : List Bool) (hI : In.length ≤ 1000000) : Pure Tryz.prog 26 [.agg (csC g), iD a, iD b, bools In] (insWy (insI g a b In)) := by
 have cn := nodes14_ok g hg
 have ca := risn_ok In a
 have cb := risn_ok In b
 refine Fun.fz ?_
 have hbn : nodesG g ≤ 1000000 := by have := hg.st; simp only [nodesG, hR]; omega
 generalize hn : nodesG g = n at *
 refine Fun.of T [.tmp 8, .tmp 9] Tryz.func26 rfl Tryz.ntmps26 Tryz.results26 rfl (by kernel_rfl) ?_
 cases hok : okI g In a && okI g In b with
 | false =>
  have : insI g a b In = none := by simp only [insI, hok]
  rw [this]
  simp only [Bool.and_eq_false_iff, okI, decide_eq_false_iff_not, hn] at hok
  repeat' first | refine vb (t := 32) rfl rfl rfl rfl ?_ | refine vs T rfl fun K hK => ?_; (try simp (disch := omega) only [go_sem, Nat.reduceBEq, Nat.reduceAdd, Nat.reduceMul, Nat.reduceLeDiff]); (first | refine hK _ _ ?_; clear hK K | refine Op1.callp rfl rfl (cn) rfl ?_; refine hK _ _ ?_; clear hK K | refine Op1.callp rfl rfl (ca) rfl ?_; refine hK _ _ ?_; clear hK K | refine Op1.callp rfl rfl (cb) rfl ?_; refine hK _ _ ?_; clear hK K) | refine st rfl ?_ | refine sc rfl ?_ | refine nl ?_ | refine gs rfl rfl ?_ | with_reducible refine gsplit_intro (fun hc => ?_) (fun hc => ?_) <;> (try simp only [decide_eq_true_eq, decide_eq_false_iff_not, Bool.not_eq_true', Bool.not_eq_false', ge_iff_le, Int.not_le, Int.not_lt] at hc)
  any_goals exact ret2 T (List.nil_sublist _) fz_int0
  all_goals (exfalso; rcases hok with (h | h) | h | h <;> simp_all <;> omega)
 | true =>
 have hE0 : insI g a b In = goI g In b (nodesG g + 1) 0 [(a, -1, -1, [])] := by simp only [insI, hok]
 simp only [Bool.and_eq_true, okI, decide_eq_true_eq, hn] at hok
 obtain ⟨⟨⟨a1, a2⟩, a3⟩, ⟨b1, b2⟩, b3⟩ := hok
 rw [a3] at ca
 rw [b3] at cb
 repeat' first | refine vb (t := 32) rfl rfl rfl rfl ?_ | refine vt rfl fun K hK => ?_; refine r_buildG T (l := [iD a]) rfl rfl rfl rfl (by decide) <| fun bq hbq => ?_; refine hK _ _ ?_; clear hK K; (try simp only [updO]) | refine vt rfl fun K hK => ?_; refine r_buildG T (l := [.gs none 0]) rfl rfl rfl rfl (by decide) <| fun bq hbq => ?_; refine hK _ _ ?_; clear hK K; (try simp only [updO]) | refine vs T rfl fun K hK => ?_; (try simp (disch := omega) only [go_sem, Nat.reduceBEq, Nat.reduceAdd, Nat.reduceMul, Nat.reduceLeDiff, Bool.not_true]); (first | refine hK _ _ ?_; clear hK K | refine Op1.callp rfl rfl (cn) rfl ?_; refine hK _ _ ?_; clear hK K | refine Op1.callp rfl rfl (ca) rfl ?_; refine hK _ _ ?_; clear hK K | refine Op1.callp rfl rfl (cb) rfl ?_; refine hK _ _ ?_; clear hK K) | refine st rfl ?_ | refine sc rfl ?_ | refine nl ?_ | refine gs rfl rfl ?_ | with_reducible refine gsplit_intro (fun hc => ?_) (fun hc => ?_) <;> (try simp only [decide_eq_true_eq, decide_eq_false_iff_not, ge_iff_le, Int.not_le, Int.not_lt] at hc) <;> (try (exfalso; omega))
 rename_i bf _
 rw [hn] at hE0
 refine VC.loop {p : Nat × List Wy × Nat × Nat × Nat × Nat // p.1 ≤ p.2.1.length ∧ IW n p.2.1 ∧ insI g a b In = goI g In b (n + 1 - p.1) p.1 p.2.1 ∧ p.2.1.length ≤ p.2.2.2.1 ∧ p.2.1.length ≤ p.2.2.2.2.2}
  (fun p => ⟨lookD [(2, iD b), (3, bools In), (4, .pt (csC g)), (11, .gs (some (p.1.2.2.1, p.1.2.2.2.1)) p.1.2.1.length), (12, .gs (some (p.1.2.2.2.2.1, p.1.2.2.2.2.2)) p.1.2.1.length), (13, iD (p.1.1 : Nat))], inR p.1.2.2.1 p.1.2.2.2.1 p.1.2.2.2.2.1 p.1.2.2.2.2.2 p.1.2.1⟩)
  (fun p => n + 1 - p.1.1) ⟨(0, [(a, -1, -1, [])], bf, 1, bq, 1), by dsimp only; exact ⟨by simp, IW.one ⟨a1, a2⟩, hE0, by simp, by simp⟩⟩ ?_ ?_
 ·refine Weak_subEq rfl ?_
  simp [sub, upd]
 clear hE0
 rintro ⟨⟨i, F, bf, cf, bp, cp⟩, hi, hF, hE, hcf, hcp⟩
 dsimp only at hi hF hE hcf hcp ⊢
 have hFl := hF.len
 refine VC.nodup fun hnd => ?_
 simp only [Heap.blocks, List.map_cons, List.nodup_cons, List.mem_cons, not_or] at hnd
 obtain ⟨⟨q1, _⟩, _⟩ := hnd
 rcases Nat.lt_or_ge i F.length with hlt | hge
 case inr =>
  obtain rfl : i = F.length := by omega
  rw [goI_end (Nat.le_refl _)] at hE
  rw [hE]
  repeat' first | refine vs T rfl fun K hK => ?_; (try simp (disch := omega) only [go_sem, Nat.reduceBEq]); (refine hK _ _ ?_; clear hK K) | refine st rfl ?_ | refine sc rfl ?_ | refine nl ?_ | with_reducible refine gsplit_intro (fun hc => ?_) (fun hc => ?_) <;> (try simp only [decide_eq_true_eq, decide_eq_false_iff_not, Int.not_lt] at hc) <;> (try (exfalso; omega))
  exact ret2 T (List.nil_sublist _) fz_int0
 obtain ⟨e, he⟩ : ∃ e, F[i]? = some e := ⟨_, getD_at (d := default) hlt⟩
 have he1 : F[i * 1]? = some e := by rw [Nat.mul_one]; exact he
 rw [show n + 1 - i = (n - i) + 1 by omega, goI_at he] at hE
 have co := out14_ok g hg e.1
 cases hx : decide (e.1 = b) with
 | true =>
  rw [hx] at hE
  simp only [decide_eq_true_eq] at hx
  rw [hE]
  repeat' first | refine vs T rfl fun K hK => ?_; (try simp (disch := omega) only [go_sem, Nat.reduceBEq, he1, hx, Int.toNat_natCast]); (first | refine hK _ _ ?_; clear hK K | refine ⟨?_, hK _ _ ?_⟩ <;> clear hK K; focus (try omega)) | refine st rfl ?_ | refine sc rfl ?_ | refine nl ?_ | with_reducible refine gsplit_intro (fun hc => ?_) (fun hc => ?_) <;> (try simp only [decide_eq_true_eq, decide_eq_false_iff_not, Int.not_lt] at hc) <;> (try (exfalso; omega))
  exact ret2 T (List.nil_sublist _) (fz_pth _)
 | false =>
 rw [hx] at hE
 simp only [decide_eq_false_iff_not] at hx
 repeat' first | refine dr (id := 11) T 5 (by kernel_rfl) ?_ | refine gn ?_ | (apply VCg.step T rfl rfl); focus ((try simp (disch := omega) only [go_sem, Nat.reduceBEq, Nat.reduceAdd, Nat.reduceLeDiff, he1, Int.toNat_natCast]); (first | exact rfl | refine ⟨?_, rfl⟩; try omega)) | refine vs T rfl fun K hK => ?_; (try simp (disch := omega) only [go_sem, Nat.reduceBEq, he1, Int.toNat_natCast]); (first | refine hK _ _ ?_; clear hK K | refine ⟨?_, hK _ _ ?_⟩ <;> clear hK K; focus (try omega) | refine Op1.callp rfl rfl (co) rfl ?_; refine hK _ _ ?_; clear hK K) | refine st rfl ?_ | refine sc rfl ?_ | refine nl ?_ | with_reducible refine gsplit_intro (fun hc => ?_) (fun hc => ?_) <;> (try simp only [decide_eq_true_eq, decide_eq_false_iff_not, beq_iff_eq, beq_eq_false_iff_ne, ne_eq, Int.not_lt] at hc) <;> (try (exfalso; omega))
 have hto : ∀ d, d ∈ outG g e.1 → 0 ≤ d.2.2 ∧ d.2.2 < n := fun d hd => by rw [← hn]; exact (outG_to d hd).1
 have hLl := outG_len hg e.1
 generalize outG g e.1 = L at *
 refine VC.loop {p : Nat × List Wy × Nat × Nat × Nat × Nat // p.1 ≤ L.length ∧ IW n p.2.1 ∧ p.2.1[i]? = some e ∧ insI g a b In = goI g In b (n - i) (i + 1) (rowI In e.1 e.2.2.2 p.2.1 (L.drop p.1)) ∧ p.2.1.length ≤ p.2.2.2.1 ∧ p.2.1.length ≤ p.2.2.2.2.2}
  (fun p => ⟨lookD [(2, iD b), (3, bools In), (4, .pt (csC g)), (11, .gs (some (p.1.2.2.1, p.1.2.2.2.1)) p.1.2.1.length), (12, .gs (some (p.1.2.2.2.2.1, p.1.2.2.2.2.2)) p.1.2.1.length), (13, iD (i : Nat)), (14, edsD L), (15, iD (p.1.1 : Nat))], inR p.1.2.2.1 p.1.2.2.2.1 p.1.2.2.2.2.1 p.1.2.2.2.2.2 p.1.2.1⟩)
  (fun p => L.length - p.1.1) ⟨(0, F, bf, cf, bp, cp), by dsimp only; exact ⟨Nat.zero_le _, hF, he, hE, hcf, hcp⟩⟩ ?_ ?_
 ·refine Weak_subEq rfl ?_
  simp [sub, upd]
 clear q1 hE he1 he hF hFl hi hcf hcp hlt co
 rintro ⟨⟨k, G', bf, cf, bp, cp⟩, hk, hF, he, hE, hcf, hcp⟩
 dsimp only at hk hF he hE hcf hcp ⊢
 have hFl := hF.len
 have hlt := at_lt he
 have he1 : G'[i * 1]? = some e := by rw [Nat.mul_one]; exact he
 refine VC.nodup fun hnd => ?_
 simp only [Heap.blocks, List.map_cons, List.nodup_cons, List.mem_cons, not_or] at hnd
 obtain ⟨⟨q1, _⟩, _⟩ := hnd
 rcases Nat.lt_or_ge k L.length with hkl | hge
 case inr =>
  obtain rfl : k = L.length := by omega
  rw [List.drop_length] at hE
  repeat' first | refine vs T rfl fun K hK => ?_; (try simp (disch := omega) only [go_sem, Nat.reduceBEq, edRs_len, w64]); (refine hK _ _ ?_; clear hK K) | refine st rfl ?_ | refine sc rfl ?_ | refine nl ?_ | with_reducible refine gsplit_intro (fun hc => ?_) (fun hc => ?_) <;> (try simp only [decide_eq_true_eq, decide_eq_false_iff_not, Int.not_lt] at hc) <;> (try (exfalso; omega))
  refine ⟨⟨(i + 1, G', bf, cf, bp, cp), by dsimp only; exact ⟨by omega, hF, by rw [hE, show n + 1 - (i + 1) = n - i by omega]; rfl, hcf, hcp⟩⟩, Weak_subEq rfl ?_, by dsimp only; omega⟩
  simp [sub, upd]
 rw [rowI_cons hkl] at hE
 have htk := hto _ (getD_mem (d := ((0, 0, 0) : Ed)) hkl)
 have hst := hF.step he (In := In) htk
 obtain ⟨d, hd⟩ : ∃ d, d = L.getD k (0, 0, 0) := ⟨_, rfl⟩
 rw [← hd] at hE htk hst
 obtain ⟨d1, d2, d3⟩ := d
 dsimp only at hE htk hst
 have ci := risn_ok In d3
 repeat' first | refine vs T rfl fun K hK => ?_; (try simp (disch := omega) only [go_sem, Nat.reduceBEq, edRs_len, ix_eds, Int.toNat_natCast, ← hd, edR]); (first | refine hK _ _ ?_; clear hK K | refine ⟨?_, hK _ _ ?_⟩ <;> clear hK K; focus (try omega) | refine Op1.callp rfl rfl (ci) rfl ?_; refine hK _ _ ?_; clear hK K) | refine st rfl ?_ | refine sc rfl ?_ | refine nl ?_ | with_reducible refine gsplit_intro (fun hc => ?_) (fun hc => ?_) <;> (try simp only [decide_eq_true_eq, decide_eq_false_iff_not, Int.not_lt] at hc) <;> (try (exfalso; omega))
 refine VC.loop {j : Nat // j ≤ G'.length}
  (fun p => ⟨lookD [(2, iD b), (3, bools In), (4, .pt (csC g)), (11, .gs (some (bf, cf)) G'.length), (12, .gs (some (bp, cp)) G'.length), (13, iD (i : Nat)), (14, edsD L), (15, iD (k : Nat)), (16, bD (!isN In d3 || hasN (G'.take p.1) d3)), (17, iD (p.1 : Nat))], inR bf cf bp cp G'⟩)
  (fun p => G'.length - p.1) ⟨0, Nat.zero_le _⟩ ?_ ?_
 ·refine Weak_subEq rfl ?_
  simp [sub, upd, hasN]
 rintro ⟨j, hj⟩
 dsimp only at hj ⊢
 rcases Nat.lt_or_ge j G'.length with hjl | hge
 ·obtain ⟨y, hy⟩ : ∃ y, G'[j]? = some y := ⟨_, getD_at (d := default) hjl⟩
  have hy1 : G'[j * 1]? = some y := by rw [Nat.mul_one]; exact hy
  repeat' first | refine dr (id := 19) T 11 (by kernel_rfl) ?_ | refine gn ?_ | (first | apply VCg.step T rfl rfl | apply exF); focus ((try simp (disch := omega) only [go_sem, Nat.reduceBEq, ix_eds, Int.toNat_natCast, ← hd, edR, hy1]); (first | exact rfl | refine ⟨?_, rfl⟩; try omega)) | refine VCg.gstep T rfl rfl rfl rfl ?_; try simp only [GB] | refine vs T rfl fun K hK => ?_; (try simp (disch := omega) only [go_sem, Nat.reduceBEq, w64]); (refine hK _ _ ?_; clear hK K) | refine st rfl ?_ | refine sc rfl ?_ | refine nl ?_ | refine gs rfl rfl ?_ | with_reducible refine gsplit_intro (fun hc => ?_) (fun hc => ?_) <;> (try simp only [decide_eq_true_eq, decide_eq_false_iff_not, Int.not_lt] at hc) <;> (try (exfalso; omega))
  all_goals
   have ht := hasN_take (x := d3) hy
   refine ⟨⟨j + 1, by omega⟩, Weak_subEq rfl ?_, by dsimp only; omega⟩
   simp [sub, upd, ht, ← Bool.or_assoc, hc]
   try rfl
 obtain rfl : j = G'.length := by omega
 rw [List.take_length]
 cases hh : !isN In d3 || hasN G' d3 with
 | true =>
  have hs : stepI In e.1 e.2.2.2 G' (d1, d2, d3) = G' := by
   unfold stepI
   simp only [Bool.or_eq_true, Bool.not_eq_true'] at hh
   rcases hh with hh | hh <;> simp [hh]
  rw [hs] at hE
  repeat' first | refine vs T rfl fun K hK => ?_; (try simp (disch := omega) only [go_sem, Nat.reduceBEq, Bool.not_true, w64]); (refine hK _ _ ?_; clear hK K) | refine st rfl ?_ | refine sc rfl ?_ | refine nl ?_ | with_reducible refine gsplit_intro (fun hc => ?_) (fun hc => ?_) <;> (try simp only [decide_eq_true_eq, decide_eq_false_iff_not, Int.not_lt] at hc) <;> (try (exfalso; omega))
  refine ⟨⟨(k + 1, G', bf, cf, bp, cp), by dsimp only; exact ⟨by omega, hF, he, hE, hcf, hcp⟩⟩, Weak_subEq rfl ?_, by dsimp only; omega⟩
  simp [sub, upd]
 | false =>
  have hs : stepI In e.1 e.2.2.2 G' (d1, d2, d3) = G' ++ [(d3, e.1, d2, e.2.2.2 ++ [d2])] := by
   unfold stepI
   simp only [Bool.or_eq_false_iff, Bool.not_eq_false'] at hh
   simp [hh.1, hh.2]
  rw [hs] at hE hst
  have hpl := hF.path i i e (Nat.le_refl _) he
  repeat' first | refine vt rfl fun K hK => ?_; refine r_appS T rfl <| appG Sp.nil rfl (src_pth _) ⟨by decide, by decide, by omega⟩ <| fun g1 hg1 => ?_; refine hK _ _ ?_; clear hK K; (try simp only [updO]) | refine vs T rfl fun K hK => ?_; (try simp (disch := omega) only [go_sem, Nat.reduceBEq, Nat.reduceMul, Nat.reduceLeDiff, Bool.not_false, ix_eds, Int.toNat_natCast, ← hd, edR, he1, w64]); (first | refine hK _ _ ?_; clear hK K | refine ⟨_, _, _, _, (by repeat (first | exact Sp.here | exact Sp.hereS | apply Sp.cons | apply Sp.over)), ?_, (by exact ⟨rfl, rfl⟩), ⟨by decide, ?_⟩, fun g' hg' => hK _ _ ?_⟩ <;> clear hK K | refine ⟨?_, hK _ _ ?_⟩ <;> clear hK K; focus (try omega)) | refine st rfl ?_ | refine sc rfl ?_ | refine nl ?_ | with_reducible refine gsplit_intro (fun hc => ?_) (fun hc => ?_) <;> (try simp only [decide_eq_true_eq, decide_eq_false_iff_not, Int.not_lt] at hc) <;> (try (exfalso; omega))
  any_goals (simp only [List.length_map, Nat.mul_one]; done)
  any_goals omega
  rename_i g2 hg2 gf hgf
  rcases gf with _ | ⟨bf', cf'⟩
  ·cases hgf
  rcases g' with _ | ⟨bp', cp'⟩
  ·cases hg'
  have hfz : FzL (shp g2 3 1 (e.2.2.2.map iD ++ [iD d2]) []) ((G' ++ [(d3, e.1, d2, e.2.2.2 ++ [d2])]).map fun e => pthD e.2.2.2) ((G'.map fun e => pthD e.2.2.2) ++ [.gs g2 (e.2.2.2.length + 1)]) := by
   rw [List.map_append]
   refine FzL.append (FzL.refl _ _) (fz_cons ?_ fz_end)
   dsimp only
   rw [pth_snoc, show e.2.2.2.length + 1 = (e.2.2.2 ++ [d2]).length by rw [List.length_append]; rfl]
   exact Fz_ints (e := 3) (by rw [List.length_append]; exact hg2) fun bb cc q => by subst q; rw [List.map_append]; exact mem_shp0
  refine ⟨⟨(k + 1, G' ++ [(d3, e.1, d2, e.2.2.2 ++ [d2])], bf', cf', bp', cp'), by dsimp only; exact ⟨by omega, hst, by rw [List.getElem?_append_left hlt]; exact he, hE, by rw [List.length_append]; exact hgf, by rw [List.length_append]; exact hg'⟩⟩, ?_, by dsimp only; omega⟩
  refine Weak.trans (Weak.perm (H' := (bp', .cells 22 (cp' * 1) ((G'.map fun e => pthD e.2.2.2) ++ [.gs g2 (e.2.2.2.length + 1)])) :: ([(bf', .cells 3 (cf' * 1) ((G'.map fun e => iD e.1) ++ [iD d3]))] ++ shp g2 3 1 (e.2.2.2.map iD ++ [iD d2]) [])) ?_) (Weak.trans (Weak.fzc hfz) (Weak_subEq ?_ ?_))
  ·exact perm_of fun a => by simp only [iD, shp_some, cnt_shp, cnt_cons, cnt_app, cnt_nil]; omega
  ·dsimp only [inR]
   rw [List.map_append (f := fun e : Wy => iD e.1)]
   rfl
  ·simp [sub, upd]
end Go.Proofs.YtomcmfbpmkklmaaGreat
