/- The laws WitnessTells and WitnessEnds. No condition. -/
import Derived.Test.YtfifcjgcajpnoaaGreatSo
import Derived.Test.YtfifcjgcajpnoaaGreatSm
import Derived.Test.YtfifcjgcajpnoaaGreatRt
namespace Go.Proofs.YtfifcjgcajpnoaaGreat
set_option linter.unusedSimpArgs false
set_option linter.unusedVariables false
set_option maxRecDepth 20000
open Go Go.Proofs Go.Vc
attribute [local irreducible] retQ VCg VCw

theorem lightK_u {u : Un} {p w : List Int} {t : Int} (h : lightK u p w t = true) : lightU u = true ∧ p.length ≤ 60 ∧ w.length ≤ 60 := by
  simp only [lightK, Bool.and_eq_true, decide_eq_true_eq] at h
  exact ⟨h.1, by omega, by omega⟩
section
theorem rquiet_ok (c : Cf) (hn : c.bufs.length ≤ 1000000) : Pure Tryz.prog 57 [.agg (cfC c)] (bD (quietB c)) := by
  refine Fun.of T [.tmp 2] Tryz.func57 rfl Tryz.ntmps57 Tryz.results57 rfl (by kernel_rfl) ?_
  repeat' first | refine vb rfl rfl rfl rfl ?_ | refine vs T rfl fun K hK => ?_; (try simp (disch := omega) only [go_sem]); (refine hK _ _ ?_; clear hK K) | refine st rfl ?_ | refine nl ?_
  refine VC.loop {k : Nat // k ≤ c.bufs.length ∧ ∀ (i : Nat) (y : List En), i < k → c.bufs[i]? = some y → decide (y.length = 0) = true} (fun p => ⟨lookD [(1, .pt (cfC c)), (3, iD (p.1 : Nat))], []⟩) (fun p => c.bufs.length - p.1) ⟨0, by omega, fun i y hi => by omega⟩ ?_ ?_
  · refine Weak.sub ?_
    simp [sub, upd]
  · rintro ⟨k, hk, hs⟩
    dsimp only
    rcases Nat.lt_or_ge k c.bufs.length with hlt | hge
    · have hd : decide ((k : Int) < (c.bufs.length : Int)) = true := by simp; omega
      have hw : IntKind.i64.wrap ((k : Int) + 1) = ((k + 1 : Nat) : Int) := by rw [w64 (by omega)]; omega
      obtain ⟨b, hb⟩ : ∃ b, c.bufs[k]? = some b := ⟨_, List.getElem?_eq_getElem hlt⟩
      have rb : (bufsR c.bufs)[k]? = some [buf b] := by rw [bufsR_at, hb]; rfl
      by_cases h0 : b.length = 0
      · have e0 : decide ((b.length : Int) > 0) = false := by rw [h0]; rfl
        repeat' first | refine vs T rfl fun K hK => ?_; (try simp (disch := omega) only [go_sem, Nat.reduceBEq, hd, hw, rb, e0, bufsR_len, eRs_len]); (first | refine hK _ _ ?_; clear hK K | refine ⟨?_, hK _ _ ?_⟩ <;> clear hK K; focus (try omega)) | refine st rfl ?_ | refine sc rfl ?_ | refine nl ?_
        refine ⟨⟨k + 1, by omega, step_of hs hb (by simpa using h0)⟩, Weak.sub ?_, by simp only []; omega⟩
        simp [sub, upd]
      · have e0 : decide ((b.length : Int) > 0) = true := by simp; omega
        have hr : quietB c = false := all_not hb (by simpa using h0)
        rw [hr]
        repeat' first | refine vs T rfl fun K hK => ?_; (try simp (disch := omega) only [go_sem, Nat.reduceBEq, hd, rb, e0, bufsR_len, eRs_len]); (first | refine hK _ _ ?_; clear hK K | refine ⟨?_, hK _ _ ?_⟩ <;> clear hK K; focus (try omega)) | refine st rfl ?_ | refine sc rfl ?_ | refine nl ?_ | exact ret1 T (List.nil_sublist _) ⟨rfl, rfl⟩
    · have hd : decide ((k : Int) < (c.bufs.length : Int)) = false := by simp; omega
      have hr : quietB c = true := all_of fun i x hi hx => hs i x (by omega) hx
      rw [hr]
      repeat' first | refine vs T rfl fun K hK => ?_; (try simp (disch := omega) only [go_sem, Nat.reduceBEq, hd, bufsR_len]); (refine hK _ _ ?_; clear hK K) | refine st rfl ?_ | refine sc rfl ?_ | refine nl ?_ | exact ret1 T (List.nil_sublist _) ⟨rfl, rfl⟩
end
section
set_option maxHeartbeats 8000000 in
theorem rended_ok (u : Un) (c : Cf) (t : Int) : Pure Tryz.prog 56 [.agg (unC u), .agg (cfC c), iD t] (bD (endedB u c t)) := by
  refine Fun.of T [.tmp 6] Tryz.func56 rfl Tryz.ntmps56 Tryz.results56 rfl (by kernel_rfl) ?_
  by_cases h1 : t < 0
  · have e1 : decide (t < 0) = true := by simpa using h1
    have hr : endedB u c t = false := by simp [endedB, Int.not_le.2 h1]
    rw [hr]
    repeat' first | refine vb rfl rfl rfl rfl ?_ | refine dr (id := 1) T 36 (by kernel_rfl) ?_ | refine gn ?_ | (apply VCg.step T rfl rfl); focus ((try simp (disch := omega) only [go_sem, Nat.reduceBEq, e1]); (exact rfl)) | refine VCg.gstep T rfl rfl rfl rfl ?_; try simp only [GB] | refine vs T rfl fun K hK => ?_; (try simp (disch := omega) only [go_sem, Nat.reduceBEq, Nat.reduceAdd]); (refine hK _ _ ?_; clear hK K) | refine st rfl ?_ | refine sc rfl ?_ | refine nl ?_ | refine gs rfl rfl ?_ | exact ret1 T (List.nil_sublist _) ⟨rfl, rfl⟩
  have e1 : decide (t < 0) = false := by simpa using h1
  obtain ⟨i, rfl⟩ : ∃ i : Nat, t = (i : Int) := ⟨t.toNat, by omega⟩
  by_cases h2 : (i : Int) ≥ (u.code.length : Int)
  · have e2 : decide ((i : Int) ≥ (u.code.length : Int)) = true := by simpa using h2
    have hn : u.code[i]? = none := List.getElem?_eq_none (by omega)
    have hr : endedB u c i = false := by simp [endedB, hn]
    rw [hr]
    repeat' first | refine vb rfl rfl rfl rfl ?_ | refine dr (id := 1) T 36 (by kernel_rfl) ?_ | refine gn ?_ | (first | apply VCg.step T rfl rfl | apply exF); focus ((try simp (disch := omega) only [go_sem, Nat.reduceBEq, e1, e2, codeRs_len]); (exact rfl)) | refine VCg.gstep T rfl rfl rfl rfl ?_; try simp only [GB] | refine vs T rfl fun K hK => ?_; (try simp (disch := omega) only [go_sem, Nat.reduceBEq, Nat.reduceAdd]); (refine hK _ _ ?_; clear hK K) | refine st rfl ?_ | refine sc rfl ?_ | refine nl ?_ | refine gs rfl rfl ?_ | exact ret1 T (List.nil_sublist _) ⟨rfl, rfl⟩
  have e2 : decide ((i : Int) ≥ (u.code.length : Int)) = false := by simpa using h2
  by_cases h3 : (i : Int) ≥ (c.pc.length : Int)
  · have e3 : decide ((i : Int) ≥ (c.pc.length : Int)) = true := by simpa using h3
    have hn : c.pc[i]? = none := List.getElem?_eq_none (by omega)
    have hr : endedB u c i = false := by
      unfold endedB
      rw [show ((i : Int)).toNat = i from rfl, hn]
      split <;> simp_all
    rw [hr]
    repeat' first | refine vb rfl rfl rfl rfl ?_ | refine dr (id := 1) T 36 (by kernel_rfl) ?_ | refine gn ?_ | (first | apply VCg.step T rfl rfl | apply exF); focus ((try simp (disch := omega) only [go_sem, Nat.reduceBEq, e1, e2, e3, codeRs_len, iRs_len]); (exact rfl)) | refine VCg.gstep T rfl rfl rfl rfl ?_; try simp only [GB] | refine vs T rfl fun K hK => ?_; (try simp (disch := omega) only [go_sem, Nat.reduceBEq, Nat.reduceAdd]); (refine hK _ _ ?_; clear hK K) | refine st rfl ?_ | refine sc rfl ?_ | refine nl ?_ | refine gs rfl rfl ?_ | exact ret1 T (List.nil_sublist _) ⟨rfl, rfl⟩
  have e3 : decide ((i : Int) ≥ (c.pc.length : Int)) = false := by simpa using h3
  have hil : i < u.code.length := by omega
  have hip : i < c.pc.length := by omega
  obtain ⟨r, hr⟩ : ∃ r, u.code[i]? = some r := ⟨_, List.getElem?_eq_getElem hil⟩
  obtain ⟨p, hp⟩ : ∃ p, c.pc[i]? = some p := ⟨_, List.getElem?_eq_getElem hip⟩
  have rr : (codeRs u.code)[i]? = some [.sl false 7 (insRs r)] := by rw [codeRs_at, hr]; rfl
  have rp : (iRs c.pc)[i]? = some [iD p] := by rw [iRs_at, hp]; rfl
  by_cases h4 : p < 0
  · have e4 : decide (p < 0) = true := by simpa using h4
    have hE : endedB u c i = false := by simp [endedB, hr, hp, Int.not_le.2 h4]
    rw [hE]
    repeat' first | refine vb rfl rfl rfl rfl ?_ | refine dr (id := 1) T 36 (by kernel_rfl) ?_ | refine gn ?_ | (first | apply VCg.step T rfl rfl | apply exF); focus ((try simp (disch := omega) only [go_sem, Nat.reduceBEq, e1, e2, e3, e4, rp, codeRs_len, iRs_len]); (first | exact rfl | refine ⟨?_, rfl⟩; try omega)) | refine VCg.gstep T rfl rfl rfl rfl ?_; try simp only [GB] | refine vs T rfl fun K hK => ?_; (try simp (disch := omega) only [go_sem, Nat.reduceBEq, Nat.reduceAdd]); (refine hK _ _ ?_; clear hK K) | refine st rfl ?_ | refine sc rfl ?_ | refine nl ?_ | refine gs rfl rfl ?_ | exact ret1 T (List.nil_sublist _) ⟨rfl, rfl⟩
  have e4 : decide (p < 0) = false := by simpa using h4
  obtain ⟨q, rfl⟩ : ∃ q : Nat, p = (q : Int) := ⟨p.toNat, by omega⟩
  by_cases h5 : (q : Int) ≥ (r.length : Int)
  · have e5 : decide ((q : Int) ≥ (r.length : Int)) = true := by simpa using h5
    have hn : r[q]? = none := List.getElem?_eq_none (by omega)
    have hE : endedB u c i = false := by simp [endedB, hr, hp, hn]
    rw [hE]
    repeat' first | refine vb rfl rfl rfl rfl ?_ | refine dr (id := 1) T 36 (by kernel_rfl) ?_ | refine gn ?_ | (first | apply VCg.step T rfl rfl | apply exF); focus ((try simp (disch := omega) only [go_sem, Nat.reduceBEq, e1, e2, e3, e4, rr, rp, codeRs_len, iRs_len, insRs_len]); (first | exact rfl | refine ⟨?_, rfl⟩; try omega)) | refine VCg.gstep T rfl rfl rfl rfl ?_; try simp only [GB] | refine vs T rfl fun K hK => ?_; (try simp (disch := omega) only [go_sem, Nat.reduceBEq, Nat.reduceAdd, e5]); (refine hK _ _ ?_; clear hK K) | refine st rfl ?_ | refine sc rfl ?_ | refine nl ?_ | refine gs rfl rfl ?_ | exact ret1 T (List.nil_sublist _) ⟨rfl, rfl⟩
  have e5 : decide ((q : Int) ≥ (r.length : Int)) = false := by simpa using h5
  have hql : q < r.length := by omega
  obtain ⟨x, hx⟩ : ∃ x, r[q]? = some x := ⟨_, List.getElem?_eq_getElem hql⟩
  have rx : (insRs r)[q]? = some [iD x.op, iD x.reg, iD x.loc, opsD x.e, opsD x.f, bD x.ne, iD x.to] := by rw [insRs_at, hx]; rfl
  have hE : endedB u c i = (x.op == 22) := by simp [endedB, hr, hp, hx]
  rw [hE]
  repeat' first | refine vb rfl rfl rfl rfl ?_ | refine dr (id := 1) T 36 (by kernel_rfl) ?_ | refine dr (id := 3) T 10 (by kernel_rfl) ?_ | refine gn ?_ | (first | apply VCg.step T rfl rfl | apply exF); focus ((try simp (disch := omega) only [go_sem, Nat.reduceBEq, e1, e2, e3, e4, rr, rp, codeRs_len, iRs_len, insRs_len]); (first | exact rfl | refine ⟨?_, rfl⟩; try omega)) | refine VCg.gstep T rfl rfl rfl rfl ?_; try simp only [GB] | refine vs T rfl fun K hK => ?_; (try simp (disch := omega) only [go_sem, Nat.reduceBEq, Nat.reduceAdd, e5, rx, insRs_len]); (first | refine hK _ _ ?_; clear hK K | refine ⟨?_, hK _ _ ?_⟩ <;> clear hK K; focus (try omega)) | refine st rfl ?_ | refine sc rfl ?_ | refine nl ?_ | refine gs rfl rfl ?_ | exact ret1 T (List.nil_sublist _) ⟨rfl, rfl⟩
end
section
theorem rfinal_ok (u : Un) (c : Cf) (hu : u.code.length ≤ 1000000) (hn : c.bufs.length ≤ 1000000) : Pure Tryz.prog 34 [.agg (unC u), .agg (cfC c)] (bD (finalB u c)) := by
  have cq := rquiet_ok c hn
  refine Fun.of T [.tmp 4] Tryz.func34 rfl Tryz.ntmps34 Tryz.results34 rfl (by kernel_rfl) ?_
  repeat' first | refine vb rfl rfl rfl rfl ?_ | refine vs T rfl fun K hK => ?_; (try simp (disch := omega) only [go_sem]); (refine hK _ _ ?_; clear hK K) | refine st rfl ?_ | refine nl ?_
  refine VC.loop {k : Nat // k ≤ u.code.length ∧ ∀ i, i < k → endedB u c (i : Nat) = true} (fun p => ⟨lookD [(2, .pt (unC u)), (3, .pt (cfC c)), (5, iD (p.1 : Nat))], []⟩) (fun p => u.code.length - p.1) ⟨0, by omega, fun i hi => by omega⟩ ?_ ?_
  · refine Weak.sub ?_
    simp [sub, upd]
  rintro ⟨k, hk, hs⟩
  dsimp only
  rcases Nat.lt_or_ge k u.code.length with hlt | hge
  · have hd : decide ((k : Int) < (u.code.length : Int)) = true := by simp; omega
    have hw : IntKind.i64.wrap ((k : Int) + 1) = ((k + 1 : Nat) : Int) := by rw [w64 (by omega)]; omega
    have ce := rended_ok u c (k : Nat)
    cases hE : endedB u c (k : Nat) with
    | false =>
      rw [hE] at ce
      rw [show finalB u c = false by rw [finalB, range_not' hlt hE]; rfl]
      repeat' first | refine vs T rfl fun K hK => ?_; (try simp (disch := omega) only [go_sem, Nat.reduceBEq, Nat.reduceAdd, Nat.reduceLeDiff, hd, codeRs_len, Bool.not_false]); (first | refine hK _ _ ?_; clear hK K | refine Op1.callp rfl rfl (ce) rfl ?_; refine hK _ _ ?_; clear hK K) | refine st rfl ?_ | refine sc rfl ?_ | refine nl ?_ | exact ret1 T (List.nil_sublist _) ⟨rfl, rfl⟩
    | true =>
      rw [hE] at ce
      repeat' first | refine vs T rfl fun K hK => ?_; (try simp (disch := omega) only [go_sem, Nat.reduceBEq, Nat.reduceAdd, Nat.reduceLeDiff, hd, hw, codeRs_len, Bool.not_true]); (first | refine hK _ _ ?_; clear hK K | refine Op1.callp rfl rfl (ce) rfl ?_; refine hK _ _ ?_; clear hK K) | refine st rfl ?_ | refine sc rfl ?_ | refine nl ?_
      refine ⟨⟨k + 1, by omega, fun i hi => ?_⟩, Weak.sub ?_, by simp only []; omega⟩
      · rcases Nat.lt_or_ge i k with h | h
        · exact hs i h
        · obtain rfl : i = k := by omega
          exact hE
      · simp [sub, upd]
  have hd : decide ((k : Int) < (u.code.length : Int)) = false := by simp; omega
  rw [show finalB u c = quietB c by rw [finalB, range_all' fun i hi => hs i (by omega), Bool.true_and]]
  repeat' first | refine vs T rfl fun K hK => ?_; (try simp (disch := omega) only [go_sem, Nat.reduceBEq, Nat.reduceAdd, Nat.reduceLeDiff, hd, codeRs_len]); (first | refine hK _ _ ?_; clear hK K | refine Op1.callp rfl rfl (cq) rfl ?_; refine hK _ _ ?_; clear hK K) | refine st rfl ?_ | refine sc rfl ?_ | refine nl ?_ | exact ret1 T (List.nil_sublist _) ⟨rfl, rfl⟩
end
section
variable {u : Un} {c : Cf} {m r : Int}
theorem enM_at {k : Nat} (h : k < (agsF u m).length) : enM u c m r (k : Nat) = canA u c m r (agF u m k) := by simp [enM, oneF_at h]
end
section
variable {u : Un} {c : Cf} {m r : Int}
set_option maxHeartbeats 4000000 in
theorem rmoves_ok (h : Rt u c m r) : Pure Tryz.prog 55 [.agg (unC u), .agg (cfC c), iD m, iD r] (ints (movesF u c m r)) := by
  have ca := ragents_ok u h.okU m
  have hl := agsF_len u m
  have hat : ∀ k : Nat, k < (agsF u m).length → (agsF u m)[k]? = some (agF u m k) ∧ enM u c m r (k : Nat) = canA u c m r (agF u m k) := fun k hk => ⟨(ag_at hk).1, enM_at hk⟩
  unfold movesF
  generalize agsF u m = A at *
  refine Fun.freeze (iRs_row _) ?_
  refine Fun.of T [.tmp 8] Tryz.func55 rfl Tryz.ntmps55 Tryz.results55 rfl (by kernel_rfl) ?_
  repeat' first | refine vb rfl rfl rfl rfl ?_ | refine vs T rfl fun K hK => ?_; (try simp (disch := omega) only [go_sem, Nat.reduceAdd]); (refine hK _ _ ?_; clear hK K) | refine st rfl ?_ | refine nl ?_
  refine VC.loop {p : Nat × List Int × Option (Nat × Nat) // p.1 ≤ A.length ∧ p.2.1 = mvK u c m r A p.1} (fun p => ⟨lookD [(2, iD m), (3, iD r), (4, .pt (unC u)), (5, .pt (cfC c)), (9, .gs p.1.2.2 p.1.2.1.length), (10, iD (p.1.1 : Nat))], shp p.1.2.2 3 1 (p.1.2.1.map iD) []⟩) (fun p => A.length - p.1.1) ⟨(0, [], none), by dsimp only; omega, rfl⟩ ?_ ?_
  · refine Weak.sub ?_
    simp [sub, upd]
  rintro ⟨⟨k, L, g⟩, hk, hL⟩
  dsimp only at hk hL ⊢
  have hLl : L.length ≤ k := by rw [hL]; exact mvK_len
  rcases Nat.lt_or_ge k A.length with hlt | hge
  case inr =>
    obtain rfl : k = A.length := by omega
    have hd : decide ((A.length : Int) < (A.length : Int)) = false := by simp
    repeat' first | refine vs T rfl fun K hK => ?_; (try simp (disch := omega) only [go_sem, Nat.reduceBEq, Nat.reduceAdd, Nat.reduceLeDiff, hd]); (first | refine hK _ _ ?_; clear hK K | refine Op1.callp rfl rfl (ca) rfl ?_; refine hK _ _ ?_; clear hK K) | refine st rfl ?_ | refine sc rfl ?_ | refine nl ?_
    exact ret1 T (List.Sublist.refl _) ⟨g, 3, by rw [← hL, iRs_len]; rfl, by rw [← hL, iRs_flat]⟩
  have hd : decide ((k : Int) < (A.length : Int)) = true := by simp; omega
  have hw : IntKind.i64.wrap ((k : Int) + 1) = ((k + 1 : Nat) : Int) := by rw [w64 (by omega)]; omega
  obtain ⟨ha, he⟩ := hat k hlt
  have cn := renM_ok h (k : Nat)
  rw [he] at cn
  cases hE : canA u c m r (agF u m k) with
  | false =>
    rw [hE] at cn
    repeat' first | refine vs T rfl fun K hK => ?_; (try simp (disch := omega) only [go_sem, Nat.reduceBEq, Nat.reduceAdd, Nat.reduceLeDiff, hd, hw]); (first | refine hK _ _ ?_; clear hK K | refine Op1.callp rfl rfl (ca) rfl ?_; refine hK _ _ ?_; clear hK K | refine Op1.callp rfl rfl (cn) rfl ?_; refine hK _ _ ?_; clear hK K) | refine st rfl ?_ | refine sc rfl ?_ | refine nl ?_
    refine ⟨⟨(k + 1, L, g), by dsimp only; omega, by dsimp only; rw [mvK_succ ha, hE, hL]; simp⟩, Weak_subEq rfl ?_, by dsimp only; omega⟩
    simp [sub, upd]
  | true =>
    rw [hE] at cn
    repeat' first | refine vs T rfl fun K hK => ?_; (try simp (disch := omega) only [go_sem, Nat.reduceBEq, Nat.reduceAdd, Nat.reduceMul, Nat.reduceLeDiff, hd, hw]); (first | refine hK _ _ ?_; clear hK K | refine ⟨_, _, _, _, (by repeat (exact Sp.here)), ?_, (by exact ⟨rfl, rfl⟩), ⟨by decide, ?_⟩, fun g' hg' => hK _ _ ?_⟩ <;> clear hK K | refine Op1.callp rfl rfl (ca) rfl ?_; refine hK _ _ ?_; clear hK K | refine Op1.callp rfl rfl (cn) rfl ?_; refine hK _ _ ?_; clear hK K) | refine st rfl ?_ | refine sc rfl ?_ | refine nl ?_
    · simp
    · omega
    · refine ⟨⟨(k + 1, L ++ [(k : Int)], g'), by dsimp only; omega, by dsimp only; rw [mvK_succ ha, hE, hL]⟩, Weak_subEq ?_ ?_, by dsimp only; omega⟩
      · dsimp only
        rw [List.map_append]
        rfl
      · simp [sub, upd]
end
section
variable {u : Un} {c : Cf} {m r : Int}
theorem rdead_ok (h : Rt u c m r) : Pure Tryz.prog 33 [.agg (unC u), .agg (cfC c), iD m, iD r] (bD (deadB u c m r)) := by
  have c1 := rfinal_ok u c (by have := h.okU.cod; omega) (by have := h.okC.bufs; omega)
  have c2 := rmoves_ok h
  have he : (((movesF u c m r).length : Int) == 0) = decide ((movesF u c m r).length = 0) := by rw [Bool.eq_iff_iff]; simp
  refine Fun.of T [.tmp 8] Tryz.func33 rfl Tryz.ntmps33 Tryz.results33 rfl (by kernel_rfl) ?_
  unfold deadB
  cases hD : decide ((movesF u c m r).length = 0) with
  | true =>
    cases hF : finalB u c with
    | true =>
      rw [hF] at c1
      repeat' first | refine vb rfl rfl rfl rfl ?_ | refine vs T rfl fun K hK => ?_; (try simp (disch := omega) only [go_sem, Nat.reduceBEq, Nat.reduceAdd, Nat.reduceLeDiff, Bool.not_true, he, hD, iRs_len]); (first | refine hK _ _ ?_; clear hK K | refine Op1.callp rfl rfl (c1) rfl ?_; refine hK _ _ ?_; clear hK K | refine Op1.callp rfl rfl (c2) rfl ?_; refine hK _ _ ?_; clear hK K) | refine st rfl ?_ | refine nl ?_ | refine gs rfl rfl ?_ | exact ret1 T (List.nil_sublist _) ⟨rfl, rfl⟩
      all_goals rfl
    | false =>
      rw [hF] at c1
      repeat' first | refine vb rfl rfl rfl rfl ?_ | refine vs T rfl fun K hK => ?_; (try simp (disch := omega) only [go_sem, Nat.reduceBEq, Nat.reduceAdd, Nat.reduceLeDiff, Bool.not_false, he, hD, iRs_len]); (first | refine hK _ _ ?_; clear hK K | refine Op1.callp rfl rfl (c1) rfl ?_; refine hK _ _ ?_; clear hK K | refine Op1.callp rfl rfl (c2) rfl ?_; refine hK _ _ ?_; clear hK K) | refine st rfl ?_ | refine nl ?_ | refine gs rfl rfl ?_ | exact ret1 T (List.nil_sublist _) ⟨rfl, rfl⟩
      all_goals rfl
  | false =>
    rw [Bool.and_false]
    repeat' first | refine vb rfl rfl rfl rfl ?_ | refine vs T rfl fun K hK => ?_; (try simp (disch := omega) only [go_sem, Nat.reduceBEq, Nat.reduceAdd, Nat.reduceLeDiff, he, hD, iRs_len]); (first | refine hK _ _ ?_; clear hK K | refine Op1.callp rfl rfl (c2) rfl ?_; refine hK _ _ ?_; clear hK K) | refine st rfl ?_ | refine nl ?_ | refine gs rfl rfl ?_ | exact ret1 T (List.nil_sublist _) ⟨rfl, rfl⟩
    all_goals rfl
end
section
set_option maxHeartbeats 8000000 in
theorem rwdead_ok (u : Un) (hu : OkU u) (m r : Int) (p : List Int) (hp : p.length ≤ 1000000) : Pure Tryz.prog 15 [.agg (unC u), iD m, iD r, ints p] (bD (wDead u m r p)) := by
  have cb := rreplay_ok u hu m r p hp
  have hR := repF_rt hu (m := m) (r := r) (p := p)
  unfold wDead
  generalize repF u m r p = x at *
  obtain ⟨c, k, e⟩ := x
  dsimp only at cb hR ⊢
  refine Fun.of T [.tmp 8] Tryz.func15 rfl Tryz.ntmps15 Tryz.results15 rfl (by kernel_rfl) ?_
  cases he : e == 0
  · rw [Bool.false_and]
    repeat' first | refine vb (t := 25) rfl rfl rfl rfl ?_ | refine vs T rfl fun K hK => ?_; (try simp (disch := omega) only [go_sem, Nat.reduceBEq, Nat.reduceAdd, Nat.reduceLeDiff, he]); (first | refine hK _ _ ?_; clear hK K | intro bq hbq; (try simp only [HB] at hbq); refine hK _ _ ?_; clear hK K | refine Op1.callp rfl rfl (cb) rfl ?_; refine hK _ _ ?_; clear hK K) | refine st rfl ?_ | refine nl ?_ | refine gs rfl rfl ?_ | exact ret1 T (List.nil_sublist _) ⟨rfl, rfl⟩
  · have cd := rdead_ok (hR he)
    rw [Bool.true_and]
    generalize deadB u c m r = y at *
    repeat' first | refine vb (t := 25) rfl rfl rfl rfl ?_ | refine vs T rfl fun K hK => ?_; (try simp (disch := omega) only [go_sem, Nat.reduceBEq, Nat.reduceAdd, Nat.reduceLeDiff, he]); (first | refine hK _ _ ?_; clear hK K | intro bq hbq; (try simp only [HB] at hbq); refine hK _ _ ?_; clear hK K | refine Op1.callp rfl rfl (cb) rfl ?_; refine hK _ _ ?_; clear hK K | refine Op1.callp rfl rfl (cd) rfl ?_; refine hK _ _ ?_; clear hK K) | refine st rfl ?_ | refine nl ?_ | refine gs rfl rfl ?_ | exact ret1 T (List.nil_sublist _) ⟨rfl, rfl⟩
end
section
set_option maxHeartbeats 8000000 in
theorem rwfin_ok (u : Un) (hu : OkU u) (m r : Int) (p : List Int) (hp : p.length ≤ 1000000) : Pure Tryz.prog 16 [.agg (unC u), iD m, iD r, ints p] (bD (wFin u m r p)) := by
  have cb := rreplay_ok u hu m r p hp
  have hR := repF_rt hu (m := m) (r := r) (p := p)
  unfold wFin
  generalize repF u m r p = x at *
  obtain ⟨c, k, e⟩ := x
  dsimp only at cb hR ⊢
  refine Fun.of T [.tmp 8] Tryz.func16 rfl Tryz.ntmps16 Tryz.results16 rfl (by kernel_rfl) ?_
  cases he : e == 0
  · rw [Bool.false_and]
    repeat' first | refine vb (t := 25) rfl rfl rfl rfl ?_ | refine vs T rfl fun K hK => ?_; (try simp (disch := omega) only [go_sem, Nat.reduceBEq, Nat.reduceAdd, Nat.reduceLeDiff, he]); (first | refine hK _ _ ?_; clear hK K | intro bq hbq; (try simp only [HB] at hbq); refine hK _ _ ?_; clear hK K | refine Op1.callp rfl rfl (cb) rfl ?_; refine hK _ _ ?_; clear hK K) | refine st rfl ?_ | refine nl ?_ | refine gs rfl rfl ?_ | exact ret1 T (List.nil_sublist _) ⟨rfl, rfl⟩
  · have h := hR he
    have cd := rfinal_ok u c (by have := h.okU.cod; omega) (by have := h.okC.bufs; omega)
    rw [Bool.true_and]
    generalize finalB u c = y at *
    repeat' first | refine vb (t := 25) rfl rfl rfl rfl ?_ | refine vs T rfl fun K hK => ?_; (try simp (disch := omega) only [go_sem, Nat.reduceBEq, Nat.reduceAdd, Nat.reduceLeDiff, he]); (first | refine hK _ _ ?_; clear hK K | intro bq hbq; (try simp only [HB] at hbq); refine hK _ _ ?_; clear hK K | refine Op1.callp rfl rfl (cb) rfl ?_; refine hK _ _ ?_; clear hK K | refine Op1.callp rfl rfl (cd) rfl ?_; refine hK _ _ ?_; clear hK K) | refine st rfl ?_ | refine nl ?_ | refine gs rfl rfl ?_ | exact ret1 T (List.nil_sublist _) ⟨rfl, rfl⟩
end
theorem wdead_fin (u : Un) (m r : Int) (p : List Int) (h : wDead u m r p = true) : wFin u m r p = false := by
  unfold wDead deadB at h
  unfold wFin
  simp only [Bool.and_eq_true, Bool.not_eq_true'] at h
  rw [h.2.1, Bool.and_false]
set_option maxHeartbeats 8000000 in
theorem lawEnds (u : Un) (m r md : Int) (p w : List Int) (t : Int) : Pure Tryz.prog 4 [.agg (clC u m r md p w t)] (bD true) := by
  have cl := light20_ok u m r md p w t
  have ck := known20_ok
  refine Fun.of T [.tmp 2] Tryz.func4 rfl Tryz.ntmps4 Tryz.results4 rfl (by kernel_rfl) ?_
  cases hL : lightK u p w t with
  | false =>
    rw [hL] at cl
    repeat' first | refine vb rfl rfl rfl rfl ?_ | refine vs T rfl fun K hK => ?_; (try simp (disch := omega) only [go_sem, Nat.reduceBEq, Nat.reduceAdd, Nat.reduceLeDiff, Bool.not_false]); (first | refine hK _ _ ?_; clear hK K | refine Op1.callp rfl rfl (cl) rfl ?_; refine hK _ _ ?_; clear hK K | refine Op1.callp rfl rfl (ck) rfl ?_; refine hK _ _ ?_; clear hK K) | refine st rfl ?_ | refine sc rfl ?_ | refine nl ?_ | exact ret1 T (List.nil_sublist _) ⟨rfl, rfl⟩
  | true =>
  rw [hL] at cl
  obtain ⟨hu, hp, hw⟩ := lightK_u hL
  have c1 := wdead_ok u (okU_light hu) m r p (by omega)
  have c2 := wfin_ok u (okU_light hu) m r p (by omega)
  have c3 := rwdead_ok u (okU_light hu) m r p (by omega)
  have c4 := rwfin_ok u (okU_light hu) m r p (by omega)
  have hx := wdead_fin u m r p
  generalize wFin u m r p = y at *
  cases hD : wDead u m r p with
  | true =>
    rw [hD] at c1 c3
    rw [hx hD] at c2 c4
    repeat' first | refine vb rfl rfl rfl rfl ?_ | refine vs T rfl fun K hK => ?_; (try simp (disch := omega) only [go_sem, Nat.reduceBEq, Nat.reduceAdd, Nat.reduceLeDiff, beq_self_eq_true, Bool.not_true, Bool.not_false]); (first | refine hK _ _ ?_; clear hK K | refine Op1.callp rfl rfl (cl) rfl ?_; refine hK _ _ ?_; clear hK K | refine Op1.callp rfl rfl (ck) rfl ?_; refine hK _ _ ?_; clear hK K | refine Op1.callp rfl rfl (c1) rfl ?_; refine hK _ _ ?_; clear hK K | refine Op1.callp rfl rfl (c2) rfl ?_; refine hK _ _ ?_; clear hK K | refine Op1.callp rfl rfl (c3) rfl ?_; refine hK _ _ ?_; clear hK K | refine Op1.callp rfl rfl (c4) rfl ?_; refine hK _ _ ?_; clear hK K) | refine st rfl ?_ | refine sc rfl ?_ | refine nl ?_ | refine gs rfl rfl ?_ | exact ret1 T (List.nil_sublist _) ⟨rfl, rfl⟩
  | false =>
    rw [hD] at c1 c3
    repeat' first | refine vb rfl rfl rfl rfl ?_ | refine vs T rfl fun K hK => ?_; (try simp (disch := omega) only [go_sem, Nat.reduceBEq, Nat.reduceAdd, Nat.reduceLeDiff, beq_self_eq_true, Bool.not_true, Bool.not_false]); (first | refine hK _ _ ?_; clear hK K | refine Op1.callp rfl rfl (cl) rfl ?_; refine hK _ _ ?_; clear hK K | refine Op1.callp rfl rfl (ck) rfl ?_; refine hK _ _ ?_; clear hK K | refine Op1.callp rfl rfl (c1) rfl ?_; refine hK _ _ ?_; clear hK K | refine Op1.callp rfl rfl (c2) rfl ?_; refine hK _ _ ?_; clear hK K | refine Op1.callp rfl rfl (c3) rfl ?_; refine hK _ _ ?_; clear hK K | refine Op1.callp rfl rfl (c4) rfl ?_; refine hK _ _ ?_; clear hK K) | refine st rfl ?_ | refine sc rfl ?_ | refine nl ?_ | refine gs rfl rfl ?_ | exact ret1 T (List.nil_sublist _) ⟨rfl, rfl⟩
end Go.Proofs.YtfifcjgcajpnoaaGreat
/- Claims as arguments. No condition. -/
namespace Go.Proofs.YtfifcjgcajpnoaaGreat
set_option linter.unusedSimpArgs false
set_option linter.unusedVariables false
open Go Go.Proofs Go.Vc Go.ChangeShapes Go.WideShapes Go.ChangeAt Go.RowKit Go.Joins

abbrev claim20T : List Ty := [.int .i64, .sl [.int .i64], .sl [.int .i64], .sl [.sl insT], .int .i64, .int .i64, .int .i64, .sl [.int .i64], .sl [.int .i64], .int .i64]
theorem claim20_all (Ds : List D) (h : ShA [.many claim20T] Ds) : ∃ u m r md p w t, Ds = [.agg (clC u m r md p w t)] := by
  obtain ⟨_, _, rfl, h, h2⟩ := h
  rw [ShA] at h2; subst h2
  obtain ⟨_, _, rfl, ⟨md, rfl, _⟩, _, _, rfl, h1, _, _, rfl, h2, _, _, rfl, ⟨cr, rfl, _, h3⟩, _, _, rfl, ⟨m, rfl, _⟩, _, _, rfl, ⟨r, rfl, _⟩, _, _, rfl, ⟨mo, rfl, _⟩, _, _, rfl, h4, _, _, rfl, h5, _, _, rfl, ⟨t, rfl, _⟩, h⟩ := h
  rw [ShL] at h; subst h
  obtain ⟨i0, rfl⟩ := sh_ints h1
  obtain ⟨rg, rfl⟩ := sh_ints h2
  obtain ⟨p, rfl⟩ := sh_ints h4
  obtain ⟨w, rfl⟩ := sh_ints h5
  obtain ⟨cd, rfl⟩ := rows_all (fun l : List Ins => [.sl false 7 (insRs l)]) _ (fun r h => sh_row h) cr h3
  exact ⟨⟨md, i0, rg, cd⟩, m, r, mo, p, w, t, rfl⟩
end Go.Proofs.YtfifcjgcajpnoaaGreat
