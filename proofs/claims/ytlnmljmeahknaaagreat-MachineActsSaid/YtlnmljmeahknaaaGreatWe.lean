/- Contracts: store, and its reference. No condition. -/
import Derived.Test.YtlnmljmeahknaaaGreatWd
namespace Go.Proofs.YtlnmljmeahknaaaGreat
set_option linter.unusedSimpArgs false
set_option linter.unusedVariables false
set_option maxRecDepth 20000
open Go Go.Proofs Go.Vc

theorem same_ok (a b : List En) (ha : a.length ≤ 1000000) (hb : b.length ≤ 1000000) : Pure Tryz.prog 29 [buf a, buf b] (bD (decide (a = b))) := by
  refine Fun.of T [.tmp 4] Tryz.func29 rfl Tryz.ntmps29 Tryz.results29 rfl (by kernel_rfl) ?_
  by_cases hl : a.length = b.length
  · have hl' : ((a.length : Int) != (b.length : Int)) = false := by simp [hl]
    repeat' first | refine VCo.step T rfl rfl (fun K hK => ?_); (try simp (disch := omega) only [WB, argE, Nat.reduceBEq, T3, T5, T9, T22, T23, T26, T27, T51, T53, T62, T65, T66, T68, T72, T78, T145, eRs_len, hl']); (refine hK _ _ ?_; clear hK K) | refine VC.region ?_ | refine VC.seq' ?_ | refine VC.block ?_ | (first | refine VCo.nil ?_ | refine VC.skip ?_); (try simp only [QB]) | refine VC.cond rfl ?_; (try simp only [gsplit_false])
    refine VC.loop {k : Nat // k ≤ a.length ∧ ∀ i, i < k → a[i]? = b[i]?} (fun p => ⟨lookD [(0, buf a), (1, buf b), (5, iD (p.1 : Nat))], []⟩) (fun p => a.length - p.1) ⟨0, by omega, fun i hi => by omega⟩ ?_ ?_
    · refine Weak.sub ?_
      simp [sub, upd]
    · rintro ⟨k, hk, hs⟩
      dsimp only
      rcases Nat.lt_or_ge k a.length with hlt | hge
      · have hd : decide ((k : Int) < (a.length : Int)) = true := by simp; omega
        have hw : IntKind.i64.wrap ((k : Int) + 1) = ((k + 1 : Nat) : Int) := by rw [w64 (by omega)]; omega
        have hkb : k < b.length := by omega
        obtain ⟨x, hx⟩ : ∃ x, a[k]? = some x := ⟨_, List.getElem?_eq_getElem hlt⟩
        obtain ⟨y, hy⟩ : ∃ y, b[k]? = some y := ⟨_, List.getElem?_eq_getElem hkb⟩
        have hrx : (eRs a)[k]? = some [iD x.1, iD x.2] := by rw [eRs_at, hx]; rfl
        have hry : (eRs b)[k]? = some [iD y.1, iD y.2] := by rw [eRs_at, hy]; rfl
        by_cases he : x = y
        · subst he
          repeat' first | refine VC.draw (id := 6) T 8 (by kernel_rfl) (by kernel_rfl) (by kernel_rfl) ?_ | refine VCg.nil T ?_; simp only [allK, WB] | apply VCg.step T rfl rfl; focus ((try simp (disch := omega) only [WB, Nat.reduceBEq, Nat.reduceAdd, Nat.reduceLeDiff, T3, T5, T9, T22, T23, T26, T27, T51, T53, T62, T65, T66, T68, T72, T78, T145, hrx, hry, eRs_len]); (first | exact rfl | refine ⟨?_, rfl⟩; try omega)) | refine VCo.step T rfl rfl (fun K hK => ?_); (try simp (disch := omega) only [WB, lookD, Nat.reduceBEq, T3, T5, T9, T22, T23, T26, T27, T51, T53, T62, T65, T66, T68, T72, T78, T145, hd, hw, eRs_len, Bool.not_true]); (first | refine hK _ _ ?_; clear hK K | refine Op1.eqS rfl (eq25 _ _ _ _) rfl rfl rfl ?_; refine hK _ _ ?_; clear hK K) | refine VC.region ?_ | refine VC.seq' ?_ | refine VC.block ?_ | (first | refine VCo.nil ?_ | refine VC.skip ?_); (try simp only [QB]) | refine VC.cond rfl ?_; (try simp only [gsplit_true])
          refine ⟨⟨k + 1, by omega, fun i hi => ?_⟩, Weak.sub ?_, by simp only []; omega⟩
          · rcases Nat.lt_or_ge i k with h' | h'
            · exact hs i h'
            · obtain rfl : i = k := by omega
              rw [hx, hy]
          · simp [sub, upd]
        · have hne : (x.1 == y.1 && x.2 == y.2) = false := by
            rw [Bool.eq_false_iff]
            simp only [Bool.and_eq_true, beq_iff_eq, ne_eq]
            exact fun h => he (Prod.ext h.1 h.2)
          have hab : decide (a = b) = false := by
            rw [decide_eq_false_iff_not]
            intro h
            rw [h, hy] at hx
            exact he (Option.some.inj hx).symm
          rw [hab]
          repeat' first | refine VC.draw (id := 6) T 8 (by kernel_rfl) (by kernel_rfl) (by kernel_rfl) ?_ | refine VCg.nil T ?_; simp only [allK, WB] | apply VCg.step T rfl rfl; focus ((try simp (disch := omega) only [WB, Nat.reduceBEq, Nat.reduceAdd, Nat.reduceLeDiff, T3, T5, T9, T22, T23, T26, T27, T51, T53, T62, T65, T66, T68, T72, T78, T145, hrx, hry, eRs_len]); (first | exact rfl | refine ⟨?_, rfl⟩; try omega)) | refine VCo.step T rfl rfl (fun K hK => ?_); (try simp (disch := omega) only [WB, lookD, Nat.reduceBEq, T3, T5, T9, T22, T23, T26, T27, T51, T53, T62, T65, T66, T68, T72, T78, T145, hd, eRs_len]); (first | refine hK _ _ ?_; clear hK K | refine Op1.eqS rfl (eq25 _ _ _ _) rfl rfl rfl ?_; refine hK _ _ ?_; clear hK K) | refine VC.region ?_ | refine VC.seq' ?_ | refine VC.block ?_ | (first | refine VCo.nil ?_ | refine VC.skip ?_ | refine VC.ret ?_); (try simp only [QB]) | refine ret1 T (List.nil_sublist _) ?_; (try simp only [upd, Nat.reduceBEq, cond_true, cond_false, and_true]) | refine VC.cond rfl ?_; (try simp only [hne, Bool.not_false, gsplit_true])
      · have hd : decide ((k : Int) < (a.length : Int)) = false := by simp; omega
        have hab : decide (a = b) = true := by
          rw [decide_eq_true_eq]
          apply List.ext_getElem?
          intro i
          rcases Nat.lt_or_ge i a.length with h' | h'
          · exact hs i (by omega)
          · rw [List.getElem?_eq_none h', List.getElem?_eq_none (by omega)]
        rw [hab]
        repeat' first | refine VCo.step T rfl rfl (fun K hK => ?_); (try simp (disch := omega) only [WB, lookD, Nat.reduceBEq, T3, T5, T9, T22, T23, T26, T27, T51, T53, T62, T65, T66, T68, T72, T78, T145, hd, eRs_len]); (refine hK _ _ ?_; clear hK K) | refine VC.region ?_ | refine VC.seq' ?_ | (first | refine VCo.nil ?_ | refine VC.ret ?_ | refine VC.exit ?_); (try simp only [QB]) | refine ret1 T (List.nil_sublist _) ?_; (try simp only [upd, Nat.reduceBEq, cond_true, cond_false, and_true]) | refine VC.cond rfl ?_; (try simp only [gsplit_false])
  · have hl' : ((a.length : Int) != (b.length : Int)) = true := bne_iff_ne.2 (by omega)
    have hab : decide (a = b) = false := by
      rw [decide_eq_false_iff_not]
      intro h
      exact hl (by rw [h])
    rw [hab]
    repeat' first | refine VCo.step T rfl rfl (fun K hK => ?_); (try simp (disch := omega) only [WB, argE, Nat.reduceBEq, T3, T5, T9, T22, T23, T26, T27, T51, T53, T62, T65, T66, T68, T72, T78, T145, eRs_len, hl']); (refine hK _ _ ?_; clear hK K) | refine VC.region ?_ | refine VC.seq' ?_ | (first | refine VCo.nil ?_ | refine VC.ret ?_); (try simp only [QB]) | refine ret1 T (List.nil_sublist _) ?_; (try simp only [upd, Nat.reduceBEq, cond_true, cond_false, and_true]) | refine VC.cond rfl ?_; (try simp only [gsplit_true])

theorem iRs_len (l : List Int) : (iRs l).length = l.length := List.length_map ..
theorem iRs_at (l : List Int) (i : Nat) : (iRs l)[i]? = (l[i]?).map fun n => [iD n] := List.getElem?_map ..
theorem iRs_row (l : List Int) : ∀ r, r ∈ iRs l → r.length = 1 := by
  intro r h
  obtain ⟨x, _, rfl⟩ := List.mem_map.1 h
  rfl
theorem iRs_flat (l : List Int) : (iRs l).flatten = l.map iD := by
  induction l with
  | nil => rfl
  | cons n l ih => rw [iRs, List.map_cons, List.flatten_cons]; rw [iRs] at ih; rw [ih]; rfl

theorem ints_ok (a b : List Int) (ha : a.length ≤ 1000000) (hb : b.length ≤ 1000000) : Pure Tryz.prog 11 [ints a, ints b] (bD (decide (a = b))) := by
  refine Fun.of T [.tmp 4] Tryz.func11 rfl Tryz.ntmps11 Tryz.results11 rfl (by kernel_rfl) ?_
  by_cases hl : a.length = b.length
  · have hl' : ((a.length : Int) != (b.length : Int)) = false := by simp [hl]
    repeat' first | refine VCo.step T rfl rfl (fun K hK => ?_); (try simp (disch := omega) only [WB, argE, Nat.reduceBEq, T3, T5, T9, T22, T23, T26, T27, T51, T53, T62, T65, T66, T68, T72, T78, T145, iRs_len, hl']); (refine hK _ _ ?_; clear hK K) | refine VC.region ?_ | refine VC.seq' ?_ | refine VC.block ?_ | (first | refine VCo.nil ?_ | refine VC.skip ?_); (try simp only [QB]) | refine VC.cond rfl ?_; (try simp only [gsplit_false])
    refine VC.loop {k : Nat // k ≤ a.length ∧ ∀ i, i < k → a[i]? = b[i]?} (fun p => ⟨lookD [(0, ints a), (1, ints b), (5, iD (p.1 : Nat))], []⟩) (fun p => a.length - p.1) ⟨0, by omega, fun i hi => by omega⟩ ?_ ?_
    · refine Weak.sub ?_
      simp [sub, upd]
    · rintro ⟨k, hk, hs⟩
      dsimp only
      rcases Nat.lt_or_ge k a.length with hlt | hge
      · have hd : decide ((k : Int) < (a.length : Int)) = true := by simp; omega
        have hw : IntKind.i64.wrap ((k : Int) + 1) = ((k + 1 : Nat) : Int) := by rw [w64 (by omega)]; omega
        have hkb : k < b.length := by omega
        obtain ⟨x, hx⟩ : ∃ x, a[k]? = some x := ⟨_, List.getElem?_eq_getElem hlt⟩
        obtain ⟨y, hy⟩ : ∃ y, b[k]? = some y := ⟨_, List.getElem?_eq_getElem hkb⟩
        have hrx : (iRs a)[k]? = some [iD x] := by rw [iRs_at, hx]; rfl
        have hry : (iRs b)[k]? = some [iD y] := by rw [iRs_at, hy]; rfl
        by_cases he : x = y
        · have he' : (x != y) = false := by simp [he]
          repeat' first | refine VC.draw (id := 6) T 8 (by kernel_rfl) (by kernel_rfl) (by kernel_rfl) ?_ | refine VCg.nil T ?_; simp only [allK, WB] | apply VCg.step T rfl rfl; focus ((try simp (disch := omega) only [WB, Nat.reduceBEq, T3, T5, T9, T22, T23, T26, T27, T51, T53, T62, T65, T66, T68, T72, T78, T145, hrx, hry, iRs_len]); (first | exact rfl | refine ⟨?_, rfl⟩; try omega)) | refine VCo.step T rfl rfl (fun K hK => ?_); (try simp (disch := omega) only [WB, lookD, Nat.reduceBEq, T3, T5, T9, T22, T23, T26, T27, T51, T53, T62, T65, T66, T68, T72, T78, T145, hd, hw, he', iRs_len]); (refine hK _ _ ?_; clear hK K) | refine VC.region ?_ | refine VC.seq' ?_ | refine VC.block ?_ | (first | refine VCo.nil ?_ | refine VC.skip ?_); (try simp only [QB]) | refine VC.cond rfl ?_; (try simp only [gsplit_true, gsplit_false])
          refine ⟨⟨k + 1, by omega, fun i hi => ?_⟩, Weak.sub ?_, by simp only []; omega⟩
          · rcases Nat.lt_or_ge i k with h' | h'
            · exact hs i h'
            · obtain rfl : i = k := by omega
              rw [hx, hy, he]
          · simp [sub, upd]
        · have he' : (x != y) = true := by simpa using he
          have hab : decide (a = b) = false := by
            rw [decide_eq_false_iff_not]
            intro h
            rw [h, hy] at hx
            exact he (Option.some.inj hx).symm
          rw [hab]
          repeat' first | refine VC.draw (id := 6) T 8 (by kernel_rfl) (by kernel_rfl) (by kernel_rfl) ?_ | refine VCg.nil T ?_; simp only [allK, WB] | apply VCg.step T rfl rfl; focus ((try simp (disch := omega) only [WB, Nat.reduceBEq, T3, T5, T9, T22, T23, T26, T27, T51, T53, T62, T65, T66, T68, T72, T78, T145, hrx, hry, iRs_len]); (first | exact rfl | refine ⟨?_, rfl⟩; try omega)) | refine VCo.step T rfl rfl (fun K hK => ?_); (try simp (disch := omega) only [WB, lookD, Nat.reduceBEq, T3, T5, T9, T22, T23, T26, T27, T51, T53, T62, T65, T66, T68, T72, T78, T145, hd, he', iRs_len]); (refine hK _ _ ?_; clear hK K) | refine VC.region ?_ | refine VC.seq' ?_ | refine VC.block ?_ | (first | refine VCo.nil ?_ | refine VC.skip ?_ | refine VC.ret ?_); (try simp only [QB]) | refine ret1 T (List.nil_sublist _) ?_; (try simp only [upd, Nat.reduceBEq, cond_true, cond_false, and_true]) | refine VC.cond rfl ?_; (try simp only [gsplit_true])
      · have hd : decide ((k : Int) < (a.length : Int)) = false := by simp; omega
        have hab : decide (a = b) = true := by
          rw [decide_eq_true_eq]
          apply List.ext_getElem?
          intro i
          rcases Nat.lt_or_ge i a.length with h' | h'
          · exact hs i (by omega)
          · rw [List.getElem?_eq_none h', List.getElem?_eq_none (by omega)]
        rw [hab]
        repeat' first | refine VCo.step T rfl rfl (fun K hK => ?_); (try simp (disch := omega) only [WB, lookD, Nat.reduceBEq, T3, T5, T9, T22, T23, T26, T27, T51, T53, T62, T65, T66, T68, T72, T78, T145, hd, iRs_len]); (refine hK _ _ ?_; clear hK K) | refine VC.region ?_ | refine VC.seq' ?_ | (first | refine VCo.nil ?_ | refine VC.ret ?_ | refine VC.exit ?_); (try simp only [QB]) | refine ret1 T (List.nil_sublist _) ?_; (try simp only [upd, Nat.reduceBEq, cond_true, cond_false, and_true]) | refine VC.cond rfl ?_; (try simp only [gsplit_false])
  · have hl' : ((a.length : Int) != (b.length : Int)) = true := bne_iff_ne.2 (by omega)
    have hab : decide (a = b) = false := by
      rw [decide_eq_false_iff_not]
      intro h
      exact hl (by rw [h])
    rw [hab]
    repeat' first | refine VCo.step T rfl rfl (fun K hK => ?_); (try simp (disch := omega) only [WB, argE, Nat.reduceBEq, T3, T5, T9, T22, T23, T26, T27, T51, T53, T62, T65, T66, T68, T72, T78, T145, iRs_len, hl']); (refine hK _ _ ?_; clear hK K) | refine VC.region ?_ | refine VC.seq' ?_ | (first | refine VCo.nil ?_ | refine VC.ret ?_); (try simp only [QB]) | refine ret1 T (List.nil_sublist _) ?_; (try simp only [upd, Nat.reduceBEq, cond_true, cond_false, and_true]) | refine VC.cond rfl ?_; (try simp only [gsplit_true])

theorem idx_eq (o : Option Nat) (k : Nat) : (idxI o == (k : Int)) = decide (o = some k) := by
  cases o with
  | none =>
    have : (idxI none == (k : Int)) = false := by rw [beq_eq_false_iff_ne]; simp only [idxI]; omega
    simp [this]
  | some j => simp only [idxI, Option.some.injEq]; rw [Bool.eq_iff_iff]; simp; omega

end Go.Proofs.YtlnmljmeahknaaaGreat
