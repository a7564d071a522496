/- Contracts: store, and its reference. No condition. -/
import Derived.Test.YtlnmljmeahknaaaWd
namespace Go.Proofs.Ytlnmljmeahknaaa
set_option linter.unusedSimpArgs false
set_option linter.unusedVariables false
set_option maxRecDepth 20000
open Go Go.Proofs Go.Vc

theorem light_ok (b : List En) : Pure Try.prog 21 [buf b] (bD (decide ((b.length : Int) ≤ 60))) := by
  refine Fun.of T [.tmp 2] Try.func21 rfl Try.ntmps21 Try.results21 rfl (by kernel_rfl) ?_
  repeat' first | refine VCo.step T rfl rfl (fun K hK => ?_); (try simp (disch := omega) only [WB, argE, Nat.reduceBEq, T3, T22, eRs_len]); (refine hK _ _ ?_; clear hK K) | refine VC.region ?_ | refine VC.seq' ?_ | (first | refine VCo.nil ?_ | refine VC.ret ?_); (try simp only [QB]) | refine ret1 T (List.nil_sublist _) ?_; (try simp only [upd, Nat.reduceBEq, cond_true, cond_false, and_true])

theorem same_ok (a b : List En) (ha : a.length ≤ 1000000) (hb : b.length ≤ 1000000) : Pure Try.prog 22 [buf a, buf b] (bD (decide (a = b))) := by
  refine Fun.of T [.tmp 4] Try.func22 rfl Try.ntmps22 Try.results22 rfl (by kernel_rfl) ?_
  by_cases hl : a.length = b.length
  · have hl' : ((a.length : Int) != (b.length : Int)) = false := by simp [hl]
    repeat' first | refine VCo.step T rfl rfl (fun K hK => ?_); (try simp (disch := omega) only [WB, argE, Nat.reduceBEq, T3, T22, eRs_len, hl']); (refine hK _ _ ?_; clear hK K) | refine VC.region ?_ | refine VC.seq' ?_ | refine VC.block ?_ | (first | refine VCo.nil ?_ | refine VC.skip ?_); (try simp only [QB]) | refine VC.cond rfl ?_; (try simp only [gsplit_false])
    refine VC.loop {k : Nat // k ≤ a.length ∧ ∀ i, i < k → a[i]? = b[i]?} (fun p => ⟨lookD [(0, buf a), (1, buf b), (5, iD (p.1 : Nat))], []⟩) (fun p => a.length - p.1) ⟨0, by omega, fun i hi => by omega⟩ ?_ ?_
    · refine Weak.sub ?_
      simp [sub, upd]
    · rintro ⟨k, hk, hs⟩
      dsimp only
      rcases Nat.lt_or_ge k a.length with hlt | hge
      · have hd : decide ((k : Int) < (a.length : Int)) = true := by simp; omega
        have hw : IntKind.i64.wrap ((k : Int) + 1) = ((k + 1 : Nat) : Int) := by rw [w64 (by omega)]; omega
        have hkb : k < b.length := by omega
        obtain ⟨x, hx⟩ : ∃ x, a[k]? = some x := ⟨_, List.getElem?_eq_getElem hlt⟩
        obtain ⟨y, hy⟩ : ∃ y, b[k]? = some y := ⟨_, List.getElem?_eq_getElem hkb⟩
        have hrx : (eRs a)[k]? = some [iD x.1, iD x.2] := by rw [eRs_at, hx]; rfl
        have hry : (eRs b)[k]? = some [iD y.1, iD y.2] := by rw [eRs_at, hy]; rfl
        by_cases he : x = y
        · subst he
          repeat' first | refine VC.draw (id := 6) T 8 (by kernel_rfl) (by kernel_rfl) (by kernel_rfl) ?_ | refine VCg.nil T ?_; simp only [allK, WB] | apply VCg.step T rfl rfl; focus ((try simp (disch := omega) only [WB, Nat.reduceBEq, Nat.reduceAdd, Nat.reduceLeDiff, T22, T25, hrx, hry, eRs_len]); (first | exact rfl | refine ⟨?_, rfl⟩; try omega)) | refine VCo.step T rfl rfl (fun K hK => ?_); (try simp (disch := omega) only [WB, lookD, Nat.reduceBEq, T3, T22, T25, hd, hw, eRs_len, Bool.not_true]); (first | refine hK _ _ ?_; clear hK K | refine Op1.eqS rfl (eq25 _ _ _ _) rfl rfl rfl ?_; refine hK _ _ ?_; clear hK K) | refine VC.region ?_ | refine VC.seq' ?_ | refine VC.block ?_ | (first | refine VCo.nil ?_ | refine VC.skip ?_); (try simp only [QB]) | refine VC.cond rfl ?_; (try simp only [gsplit_true])
          refine ⟨⟨k + 1, by omega, fun i hi => ?_⟩, Weak.sub ?_, by simp only []; omega⟩
          · rcases Nat.lt_or_ge i k with h' | h'
            · exact hs i h'
            · obtain rfl : i = k := by omega
              rw [hx, hy]
          · simp [sub, upd]
        · have hne : (x.1 == y.1 && x.2 == y.2) = false := by
            rw [Bool.eq_false_iff]
            simp only [Bool.and_eq_true, beq_iff_eq, ne_eq]
            exact fun h => he (Prod.ext h.1 h.2)
          have hab : decide (a = b) = false := by
            rw [decide_eq_false_iff_not]
            intro h
            rw [h, hy] at hx
            exact he (Option.some.inj hx).symm
          rw [hab]
          repeat' first | refine VC.draw (id := 6) T 8 (by kernel_rfl) (by kernel_rfl) (by kernel_rfl) ?_ | refine VCg.nil T ?_; simp only [allK, WB] | apply VCg.step T rfl rfl; focus ((try simp (disch := omega) only [WB, Nat.reduceBEq, Nat.reduceAdd, Nat.reduceLeDiff, T22, T25, hrx, hry, eRs_len]); (first | exact rfl | refine ⟨?_, rfl⟩; try omega)) | refine VCo.step T rfl rfl (fun K hK => ?_); (try simp (disch := omega) only [WB, lookD, Nat.reduceBEq, T3, T22, T25, hd, eRs_len]); (first | refine hK _ _ ?_; clear hK K | refine Op1.eqS rfl (eq25 _ _ _ _) rfl rfl rfl ?_; refine hK _ _ ?_; clear hK K) | refine VC.region ?_ | refine VC.seq' ?_ | refine VC.block ?_ | (first | refine VCo.nil ?_ | refine VC.skip ?_ | refine VC.ret ?_); (try simp only [QB]) | refine ret1 T (List.nil_sublist _) ?_; (try simp only [upd, Nat.reduceBEq, cond_true, cond_false, and_true]) | refine VC.cond rfl ?_; (try simp only [hne, Bool.not_false, gsplit_true])
      · have hd : decide ((k : Int) < (a.length : Int)) = false := by simp; omega
        have hab : decide (a = b) = true := by
          rw [decide_eq_true_eq]
          apply List.ext_getElem?
          intro i
          rcases Nat.lt_or_ge i a.length with h' | h'
          · exact hs i (by omega)
          · rw [List.getElem?_eq_none h', List.getElem?_eq_none (by omega)]
        rw [hab]
        repeat' first | refine VCo.step T rfl rfl (fun K hK => ?_); (try simp (disch := omega) only [WB, lookD, Nat.reduceBEq, T3, T22, hd, eRs_len]); (refine hK _ _ ?_; clear hK K) | refine VC.region ?_ | refine VC.seq' ?_ | (first | refine VCo.nil ?_ | refine VC.ret ?_ | refine VC.exit ?_); (try simp only [QB]) | refine ret1 T (List.nil_sublist _) ?_; (try simp only [upd, Nat.reduceBEq, cond_true, cond_false, and_true]) | refine VC.cond rfl ?_; (try simp only [gsplit_false])
  · have hl' : ((a.length : Int) != (b.length : Int)) = true := bne_iff_ne.2 (by omega)
    have hab : decide (a = b) = false := by
      rw [decide_eq_false_iff_not]
      intro h
      exact hl (by rw [h])
    rw [hab]
    repeat' first | refine VCo.step T rfl rfl (fun K hK => ?_); (try simp (disch := omega) only [WB, argE, Nat.reduceBEq, T3, T22, eRs_len, hl']); (refine hK _ _ ?_; clear hK K) | refine VC.region ?_ | refine VC.seq' ?_ | (first | refine VCo.nil ?_ | refine VC.ret ?_); (try simp only [QB]) | refine ret1 T (List.nil_sublist _) ?_; (try simp only [upd, Nat.reduceBEq, cond_true, cond_false, and_true]) | refine VC.cond rfl ?_; (try simp only [gsplit_true])

theorem iRs_len (l : List Int) : (iRs l).length = l.length := List.length_map ..
theorem iRs_at (l : List Int) (i : Nat) : (iRs l)[i]? = (l[i]?).map fun n => [iD n] := List.getElem?_map ..
theorem iRs_append (a b : List Int) : iRs (a ++ b) = iRs a ++ iRs b := List.map_append ..
theorem iRs_row (l : List Int) : ∀ r, r ∈ iRs l → r.length = 1 := by
  intro r h
  obtain ⟨x, _, rfl⟩ := List.mem_map.1 h
  rfl
theorem iRs_flat (l : List Int) : (iRs l).flatten = l.map iD := by
  induction l with
  | nil => rfl
  | cons n l ih => rw [iRs, List.map_cons, List.flatten_cons]; rw [iRs] at ih; rw [ih]; rfl

theorem ints_ok (a b : List Int) (ha : a.length ≤ 1000000) (hb : b.length ≤ 1000000) : Pure Try.prog 37 [ints a, ints b] (bD (decide (a = b))) := by
  refine Fun.of T [.tmp 4] Try.func37 rfl Try.ntmps37 Try.results37 rfl (by kernel_rfl) ?_
  by_cases hl : a.length = b.length
  · have hl' : ((a.length : Int) != (b.length : Int)) = false := by simp [hl]
    repeat' first | refine VCo.step T rfl rfl (fun K hK => ?_); (try simp (disch := omega) only [WB, argE, Nat.reduceBEq, T3, T31, iRs_len, hl']); (refine hK _ _ ?_; clear hK K) | refine VC.region ?_ | refine VC.seq' ?_ | refine VC.block ?_ | (first | refine VCo.nil ?_ | refine VC.skip ?_); (try simp only [QB]) | refine VC.cond rfl ?_; (try simp only [gsplit_false])
    refine VC.loop {k : Nat // k ≤ a.length ∧ ∀ i, i < k → a[i]? = b[i]?} (fun p => ⟨lookD [(0, ints a), (1, ints b), (5, iD (p.1 : Nat))], []⟩) (fun p => a.length - p.1) ⟨0, by omega, fun i hi => by omega⟩ ?_ ?_
    · refine Weak.sub ?_
      simp [sub, upd]
    · rintro ⟨k, hk, hs⟩
      dsimp only
      rcases Nat.lt_or_ge k a.length with hlt | hge
      · have hd : decide ((k : Int) < (a.length : Int)) = true := by simp; omega
        have hw : IntKind.i64.wrap ((k : Int) + 1) = ((k + 1 : Nat) : Int) := by rw [w64 (by omega)]; omega
        have hkb : k < b.length := by omega
        obtain ⟨x, hx⟩ : ∃ x, a[k]? = some x := ⟨_, List.getElem?_eq_getElem hlt⟩
        obtain ⟨y, hy⟩ : ∃ y, b[k]? = some y := ⟨_, List.getElem?_eq_getElem hkb⟩
        have hrx : (iRs a)[k]? = some [iD x] := by rw [iRs_at, hx]; rfl
        have hry : (iRs b)[k]? = some [iD y] := by rw [iRs_at, hy]; rfl
        by_cases he : x = y
        · have he' : (x != y) = false := by simp [he]
          repeat' first | refine VC.draw (id := 6) T 8 (by kernel_rfl) (by kernel_rfl) (by kernel_rfl) ?_ | refine VCg.nil T ?_; simp only [allK, WB] | apply VCg.step T rfl rfl; focus ((try simp (disch := omega) only [WB, Nat.reduceBEq, T3, T31, hrx, hry, iRs_len]); (first | exact rfl | refine ⟨?_, rfl⟩; try omega)) | refine VCo.step T rfl rfl (fun K hK => ?_); (try simp (disch := omega) only [WB, lookD, Nat.reduceBEq, T3, T31, hd, hw, he', iRs_len]); (refine hK _ _ ?_; clear hK K) | refine VC.region ?_ | refine VC.seq' ?_ | refine VC.block ?_ | (first | refine VCo.nil ?_ | refine VC.skip ?_); (try simp only [QB]) | refine VC.cond rfl ?_; (try simp only [gsplit_true, gsplit_false])
          refine ⟨⟨k + 1, by omega, fun i hi => ?_⟩, Weak.sub ?_, by simp only []; omega⟩
          · rcases Nat.lt_or_ge i k with h' | h'
            · exact hs i h'
            · obtain rfl : i = k := by omega
              rw [hx, hy, he]
          · simp [sub, upd]
        · have he' : (x != y) = true := by simpa using he
          have hab : decide (a = b) = false := by
            rw [decide_eq_false_iff_not]
            intro h
            rw [h, hy] at hx
            exact he (Option.some.inj hx).symm
          rw [hab]
          repeat' first | refine VC.draw (id := 6) T 8 (by kernel_rfl) (by kernel_rfl) (by kernel_rfl) ?_ | refine VCg.nil T ?_; simp only [allK, WB] | apply VCg.step T rfl rfl; focus ((try simp (disch := omega) only [WB, Nat.reduceBEq, T3, T31, hrx, hry, iRs_len]); (first | exact rfl | refine ⟨?_, rfl⟩; try omega)) | refine VCo.step T rfl rfl (fun K hK => ?_); (try simp (disch := omega) only [WB, lookD, Nat.reduceBEq, T3, T31, hd, he', iRs_len]); (refine hK _ _ ?_; clear hK K) | refine VC.region ?_ | refine VC.seq' ?_ | refine VC.block ?_ | (first | refine VCo.nil ?_ | refine VC.skip ?_ | refine VC.ret ?_); (try simp only [QB]) | refine ret1 T (List.nil_sublist _) ?_; (try simp only [upd, Nat.reduceBEq, cond_true, cond_false, and_true]) | refine VC.cond rfl ?_; (try simp only [gsplit_true])
      · have hd : decide ((k : Int) < (a.length : Int)) = false := by simp; omega
        have hab : decide (a = b) = true := by
          rw [decide_eq_true_eq]
          apply List.ext_getElem?
          intro i
          rcases Nat.lt_or_ge i a.length with h' | h'
          · exact hs i (by omega)
          · rw [List.getElem?_eq_none h', List.getElem?_eq_none (by omega)]
        rw [hab]
        repeat' first | refine VCo.step T rfl rfl (fun K hK => ?_); (try simp (disch := omega) only [WB, lookD, Nat.reduceBEq, T3, T31, hd, iRs_len]); (refine hK _ _ ?_; clear hK K) | refine VC.region ?_ | refine VC.seq' ?_ | (first | refine VCo.nil ?_ | refine VC.ret ?_ | refine VC.exit ?_); (try simp only [QB]) | refine ret1 T (List.nil_sublist _) ?_; (try simp only [upd, Nat.reduceBEq, cond_true, cond_false, and_true]) | refine VC.cond rfl ?_; (try simp only [gsplit_false])
  · have hl' : ((a.length : Int) != (b.length : Int)) = true := bne_iff_ne.2 (by omega)
    have hab : decide (a = b) = false := by
      rw [decide_eq_false_iff_not]
      intro h
      exact hl (by rw [h])
    rw [hab]
    repeat' first | refine VCo.step T rfl rfl (fun K hK => ?_); (try simp (disch := omega) only [WB, argE, Nat.reduceBEq, T3, T31, iRs_len, hl']); (refine hK _ _ ?_; clear hK K) | refine VC.region ?_ | refine VC.seq' ?_ | (first | refine VCo.nil ?_ | refine VC.ret ?_); (try simp only [QB]) | refine ret1 T (List.nil_sublist _) ?_; (try simp only [upd, Nat.reduceBEq, cond_true, cond_false, and_true]) | refine VC.cond rfl ?_; (try simp only [gsplit_true])

theorem headsK_succ (m : Int) (b : List En) (k : Nat) : headsK m b (k + 1) = headsK m b k ++ (match selF m b k with | true => [((b[k]?).getD (0, 0)).1] | false => []) := by
  unfold headsK
  rw [List.range_succ, List.filter_append, List.map_append]
  cases h : selF m b k <;> simp [h]
theorem headsK_len (m : Int) (b : List En) (k : Nat) : (headsK m b k).length ≤ k := by
  unfold headsK
  rw [List.length_map]
  exact Nat.le_trans (List.length_filter_le ..) (by rw [List.length_range]; exact Nat.le_refl _)
theorem idx_eq (o : Option Nat) (k : Nat) : (idxI o == (k : Int)) = decide (o = some k) := by
  cases o with
  | none =>
    have : (idxI none == (k : Int)) = false := by rw [beq_eq_false_iff_ne]; simp only [idxI]; omega
    simp [this]
  | some j => simp only [idxI, Option.some.injEq]; rw [Bool.eq_iff_iff]; simp; omega

set_option maxHeartbeats 4000000 in
theorem heads_ok (b : List En) (hb : b.length ≤ 1000000) (m : Int) : Pure Try.prog 19 [buf b, iD m] (ints (headsF m b)) := by
  refine Fun.freeze (iRs_row _) ?_
  refine Fun.of T [.tmp 4] Try.func19 rfl Try.ntmps19 Try.results19 rfl (by kernel_rfl) ?_
  repeat' first | (refine VCo.step T rfl rfl (fun K hK => ?_)); (try simp (disch := omega) only [WB, argE, Nat.reduceBEq, T22, eRs_len]); (refine hK _ _ ?_; clear hK K) | refine VC.region ?_ | refine VC.seq' ?_ | refine VC.block ?_ | (refine VCo.nil ?_); (try simp only [QB])
  refine VC.loop {p : Nat × Option (Nat × Nat) // p.1 ≤ b.length} (fun p => ⟨lookD [(0, buf b), (1, iD m), (5, .gs p.1.2 (headsK m b p.1.1).length), (8, buf b), (9, iD (b.length : Nat)), (10, iD (p.1.1 : Nat))], shp p.1.2 3 1 (iRs (headsK m b p.1.1)).flatten []⟩) (fun p => b.length - p.1.1) ⟨(0, none), by simp⟩ ?_ ?_
  · refine Weak.sub ?_
    simp [sub, upd, headsK]
  · rintro ⟨⟨k, g⟩, hk⟩
    dsimp only at hk ⊢
    have hl := headsK_len m b k
    rcases Nat.lt_or_ge k b.length with hlt | hge
    · have hd : decide ((k : Int) < (b.length : Int)) = true := by simp; omega
      have hw : IntKind.i64.wrap ((k : Int) + 1) = ((k + 1 : Nat) : Int) := by rw [w64 (by omega)]; omega
      obtain ⟨x, hx⟩ : ∃ x, b[k]? = some x := ⟨_, List.getElem?_eq_getElem hlt⟩
      have hrow : (eRs b)[k]? = some [iD x.1, iD x.2] := by rw [eRs_at, hx]; rfl
      have hsel : selF m b k = ((decide (m = 2) && decide (k = 0)) || (decide (m = 3) && decide (fstI x.1 b = some k))) := by simp [selF, hx]
      have hfl : (iRs (headsK m b k)).flatten.length = (headsK m b k).length * 1 := by rw [iRs_flat, List.length_map]; omega
      have hidx := idx_eq (fstI x.1 b) k
      by_cases h2 : m = 2
      · have e2 : (m == 2) = true := by simpa using h2
        have e3 : (m == 3) = false := by rw [h2]; decide
        by_cases h0 : k = 0
        · have e0 : ((k : Int) == 0) = true := by rw [h0]; rfl
          clear e3
          have hs : selF m b k = true := by rw [hsel]; simp [h2, h0]
          have hK : headsK m b (k + 1) = headsK m b k ++ [x.1] := by rw [headsK_succ, hs, hx]; rfl
          repeat' first | (first | refine VCo.step T rfl rfl (fun K hK => ?_) | refine VCr.step T rfl (fun K hK => ?_)); (try simp (disch := omega) only [WB, lookD, fillD, setL, rowsOf, Nat.reduceBEq, Nat.reduceAdd, Nat.reduceMul, Nat.reduceLeDiff, T3, T22, T25, T31, hd, hw, hrow, eRs_len, e2, e0]); (first | refine hK _ _ ?_; clear hK K | refine ⟨_, _, _, _, (by repeat (first | exact Sp.here | apply Sp.cons)), ?_, (by exact ⟨rfl, rfl⟩), ⟨by decide, by decide, ?_⟩, fun g' hg' => hK _ _ ?_⟩ <;> clear hK K | intro bq hbq; (try simp only [HB] at hbq); refine hK _ _ ?_; clear hK K | refine ⟨?_, hK _ _ ?_⟩ <;> clear hK K; focus (try omega)) | refine VCo.gstep rfl rfl rfl rfl rfl ?_; try simp only [GB] | refine VCo.gundef rfl rfl rfl rfl rfl ?_; try simp only [updO] | refine VC.region ?_ | refine VC.seq' ?_ | refine VC.block ?_ | (first | refine VCo.nil ?_ | refine VC.skip ?_); (try simp only [QB]) | refine VC.cond rfl ?_; (try simp only [gsplit_true])
          · exact hfl
          · omega
          · refine ⟨⟨(k + 1, g'), by simp only []; omega⟩, Weak_subH ?_ ?_, by simp only []; omega⟩
            · simp only []
              rw [hK, iRs_append, List.flatten_append]
              rfl
            · simp [sub, upd, hK]
        · have e0 : ((k : Int) == 0) = false := by rw [beq_eq_false_iff_ne]; omega
          have hs : selF m b k = false := by rw [hsel]; simp [h2, h0]
          have hK : headsK m b (k + 1) = headsK m b k := by rw [headsK_succ, hs, List.append_nil]
          repeat' first | (first | refine VCo.step T rfl rfl (fun K hK => ?_) | refine VCr.step T rfl (fun K hK => ?_)); (try simp (disch := omega) only [WB, lookD, setL, Nat.reduceBEq, Nat.reduceAdd, Nat.reduceLeDiff, T3, T22, T25, hd, hw, hrow, eRs_len, e2, e0, e3]); (first | refine hK _ _ ?_; clear hK K | intro bq hbq; (try simp only [HB] at hbq); refine hK _ _ ?_; clear hK K | refine ⟨?_, hK _ _ ?_⟩ <;> clear hK K; focus (try omega)) | refine VCo.gstep rfl rfl rfl rfl rfl ?_; try simp only [GB] | refine VC.region ?_ | refine VC.seq' ?_ | refine VC.block ?_ | (first | refine VCo.nil ?_ | refine VC.skip ?_); (try simp only [QB]) | refine VC.cond rfl ?_; (try simp only [gsplit_true, gsplit_false])
          refine ⟨⟨(k + 1, g), by simp only []; omega⟩, Weak_subH ?_ ?_, by simp only []; omega⟩
          · simp only []
            rw [hK]
          · simp [sub, upd, hK]
      · have e2 : (m == 2) = false := by simpa using h2
        by_cases h3 : m = 3
        · have e3 : (m == 3) = true := by simpa using h3
          by_cases hf : fstI x.1 b = some k
          · rw [hf, decide_eq_true rfl] at hidx
            rw [hf] at hsel
            have c1 := first_ok b hb x.1
            rw [hf] at c1
            have hs : selF m b k = true := by rw [hsel]; simp [h3]
            have hK : headsK m b (k + 1) = headsK m b k ++ [x.1] := by rw [headsK_succ, hs, hx]; rfl
            repeat' first | (first | refine VCo.step T rfl rfl (fun K hK => ?_) | refine VCr.step T rfl (fun K hK => ?_)); (try simp (disch := omega) only [WB, lookD, fillD, setL, rowsOf, Nat.reduceBEq, Nat.reduceAdd, Nat.reduceMul, Nat.reduceLeDiff, T3, T22, T25, T31, hd, hw, hrow, eRs_len, e2, e3, hidx]); (first | refine hK _ _ ?_; clear hK K | refine ⟨_, _, _, _, (by repeat (first | exact Sp.here | apply Sp.cons)), ?_, (by exact ⟨rfl, rfl⟩), ⟨by decide, by decide, ?_⟩, fun g' hg' => hK _ _ ?_⟩ <;> clear hK K | intro bq hbq; (try simp only [HB] at hbq); refine hK _ _ ?_; clear hK K | refine ⟨?_, hK _ _ ?_⟩ <;> clear hK K; focus (try omega) | refine Op1.callp rfl rfl (c1) rfl ?_; refine hK _ _ ?_; clear hK K) | refine VCo.gstep rfl rfl rfl rfl rfl ?_; try simp only [GB] | refine VC.region ?_ | refine VC.seq' ?_ | refine VC.block ?_ | (first | refine VCo.nil ?_ | refine VC.skip ?_); (try simp only [QB]) | refine VC.cond rfl ?_; (try simp only [gsplit_true])
            · exact hfl
            · omega
            · refine ⟨⟨(k + 1, g'), by simp only []; omega⟩, Weak_subH ?_ ?_, by simp only []; omega⟩
              · simp only []
                rw [hK, iRs_append, List.flatten_append]
                rfl
              · simp [sub, upd, hK]
          · rw [decide_eq_false hf] at hidx
            have hs : selF m b k = false := by rw [hsel]; simp [h2, hf]
            have hK : headsK m b (k + 1) = headsK m b k := by rw [headsK_succ, hs, List.append_nil]
            repeat' first | (first | refine VCo.step T rfl rfl (fun K hK => ?_) | refine VCr.step T rfl (fun K hK => ?_)); (try simp (disch := omega) only [WB, lookD, setL, Nat.reduceBEq, Nat.reduceAdd, Nat.reduceLeDiff, T3, T22, T25, hd, hw, hrow, eRs_len, e2, e3, hidx]); (first | refine hK _ _ ?_; clear hK K | intro bq hbq; (try simp only [HB] at hbq); refine hK _ _ ?_; clear hK K | refine ⟨?_, hK _ _ ?_⟩ <;> clear hK K; focus (try omega) | refine Op1.callp rfl rfl (first_ok b hb _) rfl ?_; refine hK _ _ ?_; clear hK K) | refine VCo.gstep rfl rfl rfl rfl rfl ?_; try simp only [GB] | refine VC.region ?_ | refine VC.seq' ?_ | refine VC.block ?_ | (first | refine VCo.nil ?_ | refine VC.skip ?_); (try simp only [QB]) | refine VC.cond rfl ?_; (try simp only [gsplit_true, gsplit_false])
            refine ⟨⟨(k + 1, g), by simp only []; omega⟩, Weak_subH ?_ ?_, by simp only []; omega⟩
            · simp only []
              rw [hK]
            · simp [sub, upd, hK]
        · have e3 : (m == 3) = false := by simpa using h3
          have hs : selF m b k = false := by rw [hsel]; simp [h2, h3]
          have hK : headsK m b (k + 1) = headsK m b k := by rw [headsK_succ, hs, List.append_nil]
          repeat' first | (first | refine VCo.step T rfl rfl (fun K hK => ?_) | refine VCr.step T rfl (fun K hK => ?_)); (try simp (disch := omega) only [WB, lookD, setL, Nat.reduceBEq, Nat.reduceAdd, Nat.reduceLeDiff, T3, T22, T25, hd, hw, hrow, eRs_len, e2, e3]); (first | refine hK _ _ ?_; clear hK K | intro bq hbq; (try simp only [HB] at hbq); refine hK _ _ ?_; clear hK K | refine ⟨?_, hK _ _ ?_⟩ <;> clear hK K; focus (try omega)) | refine VCo.gstep rfl rfl rfl rfl rfl ?_; try simp only [GB] | refine VC.region ?_ | refine VC.seq' ?_ | refine VC.block ?_ | (first | refine VCo.nil ?_ | refine VC.skip ?_); (try simp only [QB]) | refine VC.cond rfl ?_; (try simp only [gsplit_true, gsplit_false])
          refine ⟨⟨(k + 1, g), by simp only []; omega⟩, Weak_subH ?_ ?_, by simp only []; omega⟩
          · simp only []
            rw [hK]
          · simp [sub, upd, hK]
    · have hd : decide ((k : Int) < (b.length : Int)) = false := by simp; omega
      obtain rfl : k = b.length := by omega
      repeat' first | (refine VCo.step T rfl rfl (fun K hK => ?_)); (try simp (disch := omega) only [WB, lookD, Nat.reduceBEq, T3, hd]); (refine hK _ _ ?_; clear hK K) | refine VC.region ?_ | refine VC.seq' ?_ | (first | refine VCo.nil ?_ | refine VC.ret ?_ | refine VC.exit ?_); (try simp only [QB]) | refine VC.cond rfl ?_; (try simp only [gsplit_false])
      exact ret1 T (List.Sublist.refl _) ⟨g, _, by rw [iRs_len]; rfl, rfl⟩

end Go.Proofs.Ytlnmljmeahknaaa
