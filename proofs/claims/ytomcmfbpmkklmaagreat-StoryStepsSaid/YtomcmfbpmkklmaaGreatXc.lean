/- Contracts: the reference's pop. No condition. -/
import Derived.Test.YtomcmfbpmkklmaaGreatXa
namespace Go.Proofs.YtomcmfbpmkklmaaGreat
set_option maxHeartbeats 16000000
set_option linter.unusedSimpArgs false
set_option linter.unusedVariables false
set_option maxRecDepth 20000
open Go Go.Proofs Go.Vc
attribute [local irreducible] retQ VCg VCw VCx
def matF (m loc : Int) (x : En) : Bool := decide (x.1 = loc) || (decide (m = 2) && decide (loc < 0))
def atK (m loc : Int) (b : List En) (k : Nat) : Option Nat := ((b.drop k).findIdx? (matF m loc)).map (· + k)
theorem atK_end (m loc : Int) (b : List En) : atK m loc b b.length = none := by simp [atK]
theorem atK_step (m loc : Int) {b : List En} {k : Nat} {x : En} (h : b[k]? = some x) : atK m loc b k = (match matF m loc x with | true => some k | false => atK m loc b (k + 1)) := by
 have hk := (List.getElem?_eq_some_iff.1 h).1
 have hd : b.drop k = x :: b.drop (k + 1) := by rw [List.drop_eq_getElem_cons hk]; congr 1; exact Option.some.inj ((List.getElem?_eq_getElem hk).symm.trans h)
 unfold atK
 rw [hd, List.findIdx?_cons]
 cases matF m loc x with
 | true => simp
 | false =>
  cases (b.drop (k + 1)).findIdx? (matF m loc) with
  | none => rfl
  | some j => simp; omega
theorem fstI_find (loc : Int) : ∀ b : List En, fstI loc b = b.findIdx? (fun x => decide (x.1 = loc))
 | [] => rfl
 | x :: r => by
  unfold fstI
  rw [List.findIdx?_cons, fstI_find loc r]
  cases h : decide (x.1 = loc) <;> simp
theorem next_of {m loc : Int} (b : List En) : nextF m loc b = (if (m = 2 ∧ idxI (atK m loc b 0) > 0) ∨ (m ≠ 2 ∧ m ≠ 3) then none else atK m loc b 0) := by
 have h0 : atK m loc b 0 = b.findIdx? (matF m loc) := by unfold atK; rw [List.drop_zero]; cases b.findIdx? (matF m loc) <;> rfl
 by_cases h3 : m = 3
 ·subst h3
  have : matF 3 loc = fun x => decide (x.1 = loc) := by funext x; simp [matF]
  rw [h0, this, ← fstI_find]
  simp [nextF]
 ·by_cases h2 : m = 2
  ·subst h2
   rcases b with _ | ⟨x, r⟩
   ·simp [nextF, h0]
   ·rw [h0, List.findIdx?_cons]
    cases hm : matF 2 loc x with
    | true =>
     have : loc < 0 ∨ x.1 = loc := by
      simp only [matF, Bool.or_eq_true, decide_eq_true_eq, Bool.and_eq_true] at hm
      rcases hm with h | h
      ·exact .inr h
      ·exact .inl h.2
     simp [nextF, idxI, this]
    | false =>
     have hn : ¬ (loc < 0 ∨ x.1 = loc) := fun h => by
      have : matF 2 loc x = true := by
       rcases h with h | h
       ·simp [matF, h]
       ·simp [matF, h]
      rw [this] at hm; cases hm
     have hnx : nextF 2 loc (x :: r) = none := by
      unfold nextF
      rw [if_neg (by decide), if_neg]
      rintro ⟨_, _, h⟩
      exact hn (h.imp id (fun h => by simpa using h))
     rw [hnx]
     cases r.findIdx? (matF 2 loc) with
     | none => simp
     | some j => simp [idxI]
  ·simp [nextF, h2, h3]
def outK (a : Option Nat) (b : List En) (i : Nat) : List En := match a with | none => b.take i | some k => cutF k (b.take i)
theorem outK_succ {a : Option Nat} {b : List En} {i : Nat} {x : En} (h : b[i]? = some x) : outK a b (i + 1) = outK a b i ++ (match decide (a = some i) with | true => [] | false => [x]) := by
 have hi := (List.getElem?_eq_some_iff.1 h).1
 have ht : b.take (i + 1) = b.take i ++ [x] := by rw [List.take_add_one, h]; rfl
 have hl : (b.take i).length = i := by rw [List.length_take]; omega
 unfold outK
 rw [ht]
 generalize b.take i = Y at *
 cases a with
 | none => simp
 | some k =>
  simp only [cutF, Option.some.injEq]
  rcases Nat.lt_trichotomy i k with h1 | h1 | h1
  ·have : ¬ k = i := by omega
   rw [decide_eq_false this, List.take_of_length_le (show (Y ++ [x]).length ≤ k by simp [hl]; omega), List.drop_eq_nil_of_le (show (Y ++ [x]).length ≤ k + 1 by simp [hl]; omega), List.take_of_length_le (show Y.length ≤ k by omega), List.drop_eq_nil_of_le (show Y.length ≤ k + 1 by omega)]
   simp
  ·subst h1
   rw [decide_eq_true rfl, List.take_left' hl, List.drop_eq_nil_of_le (show (Y ++ [x]).length ≤ i + 1 by simp [hl]), List.take_of_length_le (show Y.length ≤ i by omega), List.drop_eq_nil_of_le (show Y.length ≤ i + 1 by omega)]
   simp
  ·have : ¬ k = i := by omega
   rw [decide_eq_false this, List.take_append_of_le_length (show k ≤ Y.length by omega), List.drop_append_of_le_length (show k + 1 ≤ Y.length by omega)]
   simp
theorem outK_len (a : Option Nat) (b : List En) (i : Nat) : (outK a b i).length ≤ b.length := by
 cases a with
 | none => simp only [outK]; rw [List.length_take]; omega
 | some k => simp only [outK, cutF]; rw [List.length_append, List.length_take, List.length_drop, List.length_take]; omega
theorem outK0 (a : Option Nat) (b : List En) : outK a b 0 = [] := by cases a <;> simp [outK, cutF]
theorem outK_none (b : List En) : outK none b b.length = b := List.take_length
theorem outK_some (k : Nat) (b : List En) : outK (some k) b b.length = cutF k b := by simp [outK]
mutual
theorem Fz.more {H H' : Heap} (hs : ∀ x, x ∈ H → x ∈ H') : ∀ (d' d : D), Fz H d' d → Fz H' d' d
 | .sl full esz rows, d, h => by
  rcases h with h | ⟨h1, h | h | ⟨b, o, n, cap, h2, h3, e, k, l, h4, h5⟩⟩
  ·exact .inl h
  ·exact .inr ⟨h1, .inl h⟩
  ·exact .inr ⟨h1, .inr (.inl h)⟩
  ·exact .inr ⟨h1, .inr (.inr ⟨b, o, n, cap, h2, h3, e, k, l, hs _ h4, FzR.more hs esz rows _ h5⟩)⟩
 | .pt row, d, h => by
  rcases h with h | ⟨b, o, e, k, l, h1, h2, h3⟩
  ·exact .inl h
  ·exact .inr ⟨b, o, e, k, l, h1, hs _ h2, FzC.more hs row _ h3⟩
 | .agg l', d, h => by
  obtain ⟨l, h1, h2⟩ := h
  exact ⟨l, h1, FzL.more hs l' l h2⟩
 | .tup l', d, h => by
  obtain ⟨l, h1, h2⟩ := h
  exact ⟨l, h1, FzL.more hs l' l h2⟩
 | .ifc t x', d, h => by
  obtain ⟨x, h1, h2⟩ := h
  exact ⟨x, h1, Fz.more hs x' x h2⟩
 | .is _, d, h => h
 | .gs _ _, d, h => h
 | .os _ _ _ _, d, h => h
 | .any, d, h => h
theorem FzL.more {H H' : Heap} (hs : ∀ x, x ∈ H → x ∈ H') : ∀ (l' l : List D), FzL H l' l → FzL H' l' l
 | [], l, h => h
 | d' :: ds', l, h => by
  obtain ⟨d, ds, h1, h2, h3⟩ := h
  exact ⟨d, ds, h1, Fz.more hs d' d h2, FzL.more hs ds' ds h3⟩
theorem FzC.more {H H' : Heap} (hs : ∀ x, x ∈ H → x ∈ H') : ∀ (l' l : List D), FzC H l' l → FzC H' l' l
 | [], l, h => trivial
 | d' :: ds', l, h => by
  obtain ⟨d, ds, h1, h2, h3⟩ := h
  exact ⟨d, ds, h1, Fz.more hs d' d h2, FzC.more hs ds' ds h3⟩
theorem FzR.more {H H' : Heap} (hs : ∀ x, x ∈ H → x ∈ H') (esz : Nat) : ∀ (rows : List (List D)) (l : List D), FzR H esz rows l → FzR H' esz rows l
 | [], l, h => trivial
 | r :: rs, l, h => ⟨h.1, FzC.more hs r l h.2.1, FzR.more hs esz rs _ h.2.2⟩
end
theorem rpop_ok (b : List En) (hb : b.length ≤ 100000) (m loc : Int) : Pure Tryz.prog 141 [buf b, iD m, iD loc] (popD (popF m loc b)) := by
 refine Fun.fz ?_
 have hw0 : IntKind.i64.wrap ((b.length : Int) - 1) = (b.length : Int) - 1 := by rw [w64 (by omega)]
 refine Fun.of T [.tmp 6, .cell 7 127, .tmp 8] Tryz.func141 rfl Tryz.ntmps141 Tryz.results141 rfl (by kernel_rfl) ?_
 repeat' first | refine vs T rfl fun K hK => ?_; (try simp (disch := omega) only [go_sem, Nat.reduceBEq, Nat.reduceAdd, eRs_len, hw0]); (first | refine hK _ _ ?_; clear hK K | intro bq hbq; (try simp only [HB] at hbq); refine hK _ _ ?_; clear hK K) | refine st rfl ?_ | refine nl ?_
 refine VC.loop {k : Nat // k ≤ b.length} (fun p => ⟨lookD [(0, buf b), (1, iD m), (2, iD loc), (7, .is (.pointer (some ⟨bq, 0, none⟩))), (9, iD (idxI (atK m loc b p.1))), (10, iD ((p.1 : Nat) - 1 : Int))], [(bq, .cells 127 2 [iD 0, iD 0])]⟩) (fun p => p.1) ⟨b.length, by omega⟩ ?_ ?_
 ·refine Weak.sub ?_
  simp [sub, upd, atK_end, idxI]
 ·rintro ⟨k, hk⟩
  dsimp only
  rcases k with _ | k
  ·have hd : decide (((0 : Nat) : Int) - 1 ≥ 0) = false := by decide
   have hnx := next_of (m := m) (loc := loc) b
   by_cases h2 : m = 2
   ·have h2' : (m == 2) = true := by simpa using h2
    have h2n : (m != 2) = false := by simp [h2]
    by_cases hp : idxI (atK m loc b 0) > 0
    ·have hp' : decide (idxI (atK m loc b 0) > 0) = true := by simpa using hp
     have hat : idxI (nextF m loc b) = -1 := by rw [hnx, if_pos (.inl ⟨h2, hp⟩)]; rfl
     repeat' first | refine vs T rfl fun K hK => ?_; (try simp (disch := omega) only [go_sem, Nat.reduceBEq, hd, h2', hp']); (refine hK _ _ ?_; clear hK K) | refine st rfl ?_ | refine sc rfl ?_ | refine nl ?_ | refine gs rfl rfl ?_ | refine gu rfl rfl ?_
     refine VC.loop {q : Nat × Option (Nat × Nat) // q.1 ≤ b.length} (fun q => ⟨lookD [(0, buf b), (7, .is (.pointer (some ⟨bq, 0, none⟩))), (9, iD (idxI (nextF m loc b))), (11, .gs q.1.2 (outK (nextF m loc b) b q.1.1).length), (12, iD (q.1.1 : Nat))], (bq, .cells 127 2 [iD 0, iD 0]) :: shp q.1.2 127 2 (eRs (outK (nextF m loc b) b q.1.1)).flatten []⟩) (fun q => b.length - q.1.1) ⟨(0, none), by simp⟩ ?_ ?_
     ·refine Weak.sub ?_
      simp [sub, upd, hat, outK0]
     ·rintro ⟨⟨i, g⟩, hi⟩
      dsimp only at hi ⊢
      have hol := outK_len (nextF m loc b) b i
      have hfl : (eRs (outK (nextF m loc b) b i)).flatten.length = (outK (nextF m loc b) b i).length * 2 := eRs_flat _
      rcases Nat.lt_or_ge i b.length with hlt | hge
      ·have hdi : decide ((i : Int) < (b.length : Int)) = true := by simp; omega
       have hwi : IntKind.i64.wrap ((i : Int) + 1) = ((i + 1 : Nat) : Int) := by rw [w64 (by omega)]; omega
       obtain ⟨y, hy⟩ : ∃ y, b[i]? = some y := ⟨_, List.getElem?_eq_getElem hlt⟩
       have hry : (eRs b)[i]? = some [iD y.1, iD y.2] := by rw [eRs_at, hy]; rfl
       have hs := outK_succ (a := nextF m loc b) hy
       have hidx := idx_eq (nextF m loc b) i
       by_cases hc : nextF m loc b = some i
       ·rw [decide_eq_true hc] at hs hidx
        simp only [List.append_nil] at hs
        have hne : ((i : Int) != idxI (nextF m loc b)) = false := by rw [bne_eq_false_iff_eq]; exact (eq_of_beq hidx).symm
        repeat' first | refine vs T rfl fun K hK => ?_; (try simp (disch := omega) only [go_sem, Nat.reduceBEq, hdi, hwi, hne, eRs_len]); (refine hK _ _ ?_; clear hK K) | refine st rfl ?_ | refine sc rfl ?_ | refine nl ?_
        refine ⟨⟨(i + 1, g), by simp only []; omega⟩, Weak_subEq ?_ ?_, by simp only []; omega⟩
        ·simp only []
         rw [hs]
        ·simp [sub, upd, hs]
       ·rw [decide_eq_false hc] at hs hidx
        have hne : ((i : Int) != idxI (nextF m loc b)) = true := by rw [bne_iff_ne]; exact fun h => by rw [← h, beq_self_eq_true] at hidx; cases hidx
        repeat' first | refine vs T rfl fun K hK => ?_; (try simp (disch := omega) only [go_sem, Nat.reduceBEq, Nat.reduceAdd, Nat.reduceMul, Nat.reduceLeDiff, hdi, hwi, hry, hne, eRs_len]); (first | refine hK _ _ ?_; clear hK K | refine ⟨_, _, _, _, (by repeat (first | exact Sp.here | apply Sp.cons)), ?_, (by exact ⟨rfl, rfl⟩), ?_, fun g' hg' => hK _ _ ?_⟩ <;> clear hK K | refine ⟨?_, hK _ _ ?_⟩ <;> clear hK K; focus (try omega)) | refine st rfl ?_ | refine sc rfl ?_ | refine nl ?_
        ·exact hfl
        ·omega
        ·refine ⟨⟨(i + 1, g'), by simp only []; omega⟩, Weak_subEq ?_ ?_, by simp only []; omega⟩
         ·simp only []
          rw [hs, eRs_append, List.flatten_append]
          rfl
         ·simp [sub, upd, hs]
      ·have hdi : decide ((i : Int) < (b.length : Int)) = false := by simp; omega
       obtain rfl : i = b.length := by omega
       have htk : b.take b.length = b := List.take_length
       refine VC_gok (t := 11) (g := g) rfl fun hg => ?_
       have hcase : nextF m loc b = none ∨ ∃ j, nextF m loc b = some j := by cases nextF m loc b <;> simp
       rcases hcase with hnx | ⟨j, hnx⟩
       ·
        have hneg : decide (idxI (nextF m loc b) < 0) = true := by rw [hnx]; rfl
        have hO : outK (nextF m loc b) b b.length = b := by rw [hnx]; exact outK_none b
        rw [hO] at hg
        repeat' first | refine vs T rfl fun K hK => ?_; (try simp (disch := omega) only [go_sem, Nat.reduceBEq, Nat.reduceAdd, Nat.reduceLeDiff, hdi, hneg, hO, eRs_len]); (refine hK _ _ ?_; clear hK K) | refine st rfl ?_ | refine sc rfl ?_ | refine nl ?_
        refine ret_tct T rfl hget_eq rfl rfl rfl (List.Sublist.refl _) ?_
        have hp : popF m loc b = (b, (0, 0), false) := by simp [popF, hnx]
        rw [hp]
        exact ⟨_, rfl, fz_cons (Fz.more (H := shp g 127 2 (eRs b).flatten []) (fun x hx => List.mem_cons_of_mem _ hx) _ _ (Fz_shp hg (eRs_len _) (eRs_row _))) (FzL.refl _ _)⟩
       ·
        have hjl := nextF_lt hnx
        obtain ⟨z, hz⟩ : ∃ z, b[j]? = some z := ⟨_, List.getElem?_eq_getElem hjl⟩
        have hrz : (eRs b)[j]? = some [iD z.1, iD z.2] := by rw [eRs_at, hz]; rfl
        have hij : idxI (nextF m loc b) = (j : Int) := by rw [hnx]; rfl
        have hneg : decide ((j : Int) < 0) = false := by rw [decide_eq_false_iff_not]; omega
        have hO : outK (nextF m loc b) b b.length = cutF j b := by rw [hnx]; exact outK_some j b
        rw [hO] at hg
        repeat' first | refine dr (id := 17) T 6 (by kernel_rfl) ?_ | refine gn ?_ | (apply VCg.step T rfl rfl); focus ((try simp (disch := omega) only [go_sem, Nat.reduceBEq, Nat.reduceAdd, Nat.reduceLeDiff, hrz, eRs_len]); (first | exact rfl | refine ⟨?_, rfl⟩; try omega)) | refine vs T rfl fun K hK => ?_; (try simp (disch := omega) only [go_sem, Nat.reduceBEq, Nat.reduceAdd, Nat.reduceLeDiff, hdi, hij, hneg, hO, eRs_len]); (refine hK _ _ ?_; clear hK K) | refine st rfl ?_ | refine sc rfl ?_ | refine nl ?_
        refine ret_tct T rfl hget_eq rfl rfl rfl (List.Sublist.refl _) ?_
        have hp : popF m loc b = (cutF j b, z, true) := by simp [popF, hnx, hz]
        rw [hp]
        exact ⟨_, rfl, fz_cons (Fz.more (H := shp g 127 2 (eRs (cutF j b)).flatten []) (fun x hx => List.mem_cons_of_mem _ hx) _ _ (Fz_shp hg (eRs_len _) (eRs_row _))) (FzL.refl _ _)⟩
    ·have hp' : decide (idxI (atK m loc b 0) > 0) = false := by simpa using hp
     have hat : idxI (nextF m loc b) = idxI (atK m loc b 0) := by rw [hnx, if_neg (by rintro (⟨_, h⟩ | ⟨h, _⟩); exact hp h; exact h h2)]
     repeat' first | refine vs T rfl fun K hK => ?_; (try simp (disch := omega) only [go_sem, Nat.reduceBEq, hd, h2', h2n, hp']); (refine hK _ _ ?_; clear hK K) | refine st rfl ?_ | refine sc rfl ?_ | refine nl ?_ | refine gs rfl rfl ?_
     refine VC.loop {q : Nat × Option (Nat × Nat) // q.1 ≤ b.length} (fun q => ⟨lookD [(0, buf b), (7, .is (.pointer (some ⟨bq, 0, none⟩))), (9, iD (idxI (nextF m loc b))), (11, .gs q.1.2 (outK (nextF m loc b) b q.1.1).length), (12, iD (q.1.1 : Nat))], (bq, .cells 127 2 [iD 0, iD 0]) :: shp q.1.2 127 2 (eRs (outK (nextF m loc b) b q.1.1)).flatten []⟩) (fun q => b.length - q.1.1) ⟨(0, none), by simp⟩ ?_ ?_
     ·refine Weak.sub ?_
      simp [sub, upd, hat, outK0]
     ·rintro ⟨⟨i, g⟩, hi⟩
      dsimp only at hi ⊢
      have hol := outK_len (nextF m loc b) b i
      have hfl : (eRs (outK (nextF m loc b) b i)).flatten.length = (outK (nextF m loc b) b i).length * 2 := eRs_flat _
      rcases Nat.lt_or_ge i b.length with hlt | hge
      ·have hdi : decide ((i : Int) < (b.length : Int)) = true := by simp; omega
       have hwi : IntKind.i64.wrap ((i : Int) + 1) = ((i + 1 : Nat) : Int) := by rw [w64 (by omega)]; omega
       obtain ⟨y, hy⟩ : ∃ y, b[i]? = some y := ⟨_, List.getElem?_eq_getElem hlt⟩
       have hry : (eRs b)[i]? = some [iD y.1, iD y.2] := by rw [eRs_at, hy]; rfl
       have hs := outK_succ (a := nextF m loc b) hy
       have hidx := idx_eq (nextF m loc b) i
       by_cases hc : nextF m loc b = some i
       ·rw [decide_eq_true hc] at hs hidx
        simp only [List.append_nil] at hs
        have hne : ((i : Int) != idxI (nextF m loc b)) = false := by rw [bne_eq_false_iff_eq]; exact (eq_of_beq hidx).symm
        repeat' first | refine vs T rfl fun K hK => ?_; (try simp (disch := omega) only [go_sem, Nat.reduceBEq, hdi, hwi, hne, eRs_len]); (refine hK _ _ ?_; clear hK K) | refine st rfl ?_ | refine sc rfl ?_ | refine nl ?_
        refine ⟨⟨(i + 1, g), by simp only []; omega⟩, Weak_subEq ?_ ?_, by simp only []; omega⟩
        ·simp only []
         rw [hs]
        ·simp [sub, upd, hs]
       ·rw [decide_eq_false hc] at hs hidx
        have hne : ((i : Int) != idxI (nextF m loc b)) = true := by rw [bne_iff_ne]; exact fun h => by rw [← h, beq_self_eq_true] at hidx; cases hidx
        repeat' first | refine vs T rfl fun K hK => ?_; (try simp (disch := omega) only [go_sem, Nat.reduceBEq, Nat.reduceAdd, Nat.reduceMul, Nat.reduceLeDiff, hdi, hwi, hry, hne, eRs_len]); (first | refine hK _ _ ?_; clear hK K | refine ⟨_, _, _, _, (by repeat (first | exact Sp.here | apply Sp.cons)), ?_, (by exact ⟨rfl, rfl⟩), ?_, fun g' hg' => hK _ _ ?_⟩ <;> clear hK K | refine ⟨?_, hK _ _ ?_⟩ <;> clear hK K; focus (try omega)) | refine st rfl ?_ | refine sc rfl ?_ | refine nl ?_
        ·exact hfl
        ·omega
        ·refine ⟨⟨(i + 1, g'), by simp only []; omega⟩, Weak_subEq ?_ ?_, by simp only []; omega⟩
         ·simp only []
          rw [hs, eRs_append, List.flatten_append]
          rfl
         ·simp [sub, upd, hs]
      ·have hdi : decide ((i : Int) < (b.length : Int)) = false := by simp; omega
       obtain rfl : i = b.length := by omega
       have htk : b.take b.length = b := List.take_length
       refine VC_gok (t := 11) (g := g) rfl fun hg => ?_
       have hcase : nextF m loc b = none ∨ ∃ j, nextF m loc b = some j := by cases nextF m loc b <;> simp
       rcases hcase with hnx | ⟨j, hnx⟩
       ·
        have hneg : decide (idxI (nextF m loc b) < 0) = true := by rw [hnx]; rfl
        have hO : outK (nextF m loc b) b b.length = b := by rw [hnx]; exact outK_none b
        rw [hO] at hg
        repeat' first | refine vs T rfl fun K hK => ?_; (try simp (disch := omega) only [go_sem, Nat.reduceBEq, Nat.reduceAdd, Nat.reduceLeDiff, hdi, hneg, hO, eRs_len]); (refine hK _ _ ?_; clear hK K) | refine st rfl ?_ | refine sc rfl ?_ | refine nl ?_
        refine ret_tct T rfl hget_eq rfl rfl rfl (List.Sublist.refl _) ?_
        have hp : popF m loc b = (b, (0, 0), false) := by simp [popF, hnx]
        rw [hp]
        exact ⟨_, rfl, fz_cons (Fz.more (H := shp g 127 2 (eRs b).flatten []) (fun x hx => List.mem_cons_of_mem _ hx) _ _ (Fz_shp hg (eRs_len _) (eRs_row _))) (FzL.refl _ _)⟩
       ·
        have hjl := nextF_lt hnx
        obtain ⟨z, hz⟩ : ∃ z, b[j]? = some z := ⟨_, List.getElem?_eq_getElem hjl⟩
        have hrz : (eRs b)[j]? = some [iD z.1, iD z.2] := by rw [eRs_at, hz]; rfl
        have hij : idxI (nextF m loc b) = (j : Int) := by rw [hnx]; rfl
        have hneg : decide ((j : Int) < 0) = false := by rw [decide_eq_false_iff_not]; omega
        have hO : outK (nextF m loc b) b b.length = cutF j b := by rw [hnx]; exact outK_some j b
        rw [hO] at hg
        repeat' first | refine dr (id := 17) T 6 (by kernel_rfl) ?_ | refine gn ?_ | (apply VCg.step T rfl rfl); focus ((try simp (disch := omega) only [go_sem, Nat.reduceBEq, Nat.reduceAdd, Nat.reduceLeDiff, hrz, eRs_len]); (first | exact rfl | refine ⟨?_, rfl⟩; try omega)) | refine vs T rfl fun K hK => ?_; (try simp (disch := omega) only [go_sem, Nat.reduceBEq, Nat.reduceAdd, Nat.reduceLeDiff, hdi, hij, hneg, hO, eRs_len]); (refine hK _ _ ?_; clear hK K) | refine st rfl ?_ | refine sc rfl ?_ | refine nl ?_
        refine ret_tct T rfl hget_eq rfl rfl rfl (List.Sublist.refl _) ?_
        have hp : popF m loc b = (cutF j b, z, true) := by simp [popF, hnx, hz]
        rw [hp]
        exact ⟨_, rfl, fz_cons (Fz.more (H := shp g 127 2 (eRs (cutF j b)).flatten []) (fun x hx => List.mem_cons_of_mem _ hx) _ _ (Fz_shp hg (eRs_len _) (eRs_row _))) (FzL.refl _ _)⟩
   ·have h2' : (m == 2) = false := by simpa using h2
    have h2n : (m != 2) = true := by simpa using h2
    by_cases h3 : m = 3
    ·have h3n : (m != 3) = false := by simp [h3]
     have hat : idxI (nextF m loc b) = idxI (atK m loc b 0) := by rw [hnx, if_neg (by rintro (⟨h, _⟩ | ⟨_, h⟩); exact h2 h; exact h h3)]
     repeat' first | refine vs T rfl fun K hK => ?_; (try simp (disch := omega) only [go_sem, Nat.reduceBEq, hd, h2', h2n, h3n]); (refine hK _ _ ?_; clear hK K) | refine st rfl ?_ | refine sc rfl ?_ | refine nl ?_ | refine gs rfl rfl ?_
     refine VC.loop {q : Nat × Option (Nat × Nat) // q.1 ≤ b.length} (fun q => ⟨lookD [(0, buf b), (7, .is (.pointer (some ⟨bq, 0, none⟩))), (9, iD (idxI (nextF m loc b))), (11, .gs q.1.2 (outK (nextF m loc b) b q.1.1).length), (12, iD (q.1.1 : Nat))], (bq, .cells 127 2 [iD 0, iD 0]) :: shp q.1.2 127 2 (eRs (outK (nextF m loc b) b q.1.1)).flatten []⟩) (fun q => b.length - q.1.1) ⟨(0, none), by simp⟩ ?_ ?_
     ·refine Weak.sub ?_
      simp [sub, upd, hat, outK0]
     ·rintro ⟨⟨i, g⟩, hi⟩
      dsimp only at hi ⊢
      have hol := outK_len (nextF m loc b) b i
      have hfl : (eRs (outK (nextF m loc b) b i)).flatten.length = (outK (nextF m loc b) b i).length * 2 := eRs_flat _
      rcases Nat.lt_or_ge i b.length with hlt | hge
      ·have hdi : decide ((i : Int) < (b.length : Int)) = true := by simp; omega
       have hwi : IntKind.i64.wrap ((i : Int) + 1) = ((i + 1 : Nat) : Int) := by rw [w64 (by omega)]; omega
       obtain ⟨y, hy⟩ : ∃ y, b[i]? = some y := ⟨_, List.getElem?_eq_getElem hlt⟩
       have hry : (eRs b)[i]? = some [iD y.1, iD y.2] := by rw [eRs_at, hy]; rfl
       have hs := outK_succ (a := nextF m loc b) hy
       have hidx := idx_eq (nextF m loc b) i
       by_cases hc : nextF m loc b = some i
       ·rw [decide_eq_true hc] at hs hidx
        simp only [List.append_nil] at hs
        have hne : ((i : Int) != idxI (nextF m loc b)) = false := by rw [bne_eq_false_iff_eq]; exact (eq_of_beq hidx).symm
        repeat' first | refine vs T rfl fun K hK => ?_; (try simp (disch := omega) only [go_sem, Nat.reduceBEq, hdi, hwi, hne, eRs_len]); (refine hK _ _ ?_; clear hK K) | refine st rfl ?_ | refine sc rfl ?_ | refine nl ?_
        refine ⟨⟨(i + 1, g), by simp only []; omega⟩, Weak_subEq ?_ ?_, by simp only []; omega⟩
        ·simp only []
         rw [hs]
        ·simp [sub, upd, hs]
       ·rw [decide_eq_false hc] at hs hidx
        have hne : ((i : Int) != idxI (nextF m loc b)) = true := by rw [bne_iff_ne]; exact fun h => by rw [← h, beq_self_eq_true] at hidx; cases hidx
        repeat' first | refine vs T rfl fun K hK => ?_; (try simp (disch := omega) only [go_sem, Nat.reduceBEq, Nat.reduceAdd, Nat.reduceMul, Nat.reduceLeDiff, hdi, hwi, hry, hne, eRs_len]); (first | refine hK _ _ ?_; clear hK K | refine ⟨_, _, _, _, (by repeat (first | exact Sp.here | apply Sp.cons)), ?_, (by exact ⟨rfl, rfl⟩), ?_, fun g' hg' => hK _ _ ?_⟩ <;> clear hK K | refine ⟨?_, hK _ _ ?_⟩ <;> clear hK K; focus (try omega)) | refine st rfl ?_ | refine sc rfl ?_ | refine nl ?_
        ·exact hfl
        ·omega
        ·refine ⟨⟨(i + 1, g'), by simp only []; omega⟩, Weak_subEq ?_ ?_, by simp only []; omega⟩
         ·simp only []
          rw [hs, eRs_append, List.flatten_append]
          rfl
         ·simp [sub, upd, hs]
      ·have hdi : decide ((i : Int) < (b.length : Int)) = false := by simp; omega
       obtain rfl : i = b.length := by omega
       have htk : b.take b.length = b := List.take_length
       refine VC_gok (t := 11) (g := g) rfl fun hg => ?_
       have hcase : nextF m loc b = none ∨ ∃ j, nextF m loc b = some j := by cases nextF m loc b <;> simp
       rcases hcase with hnx | ⟨j, hnx⟩
       ·
        have hneg : decide (idxI (nextF m loc b) < 0) = true := by rw [hnx]; rfl
        have hO : outK (nextF m loc b) b b.length = b := by rw [hnx]; exact outK_none b
        rw [hO] at hg
        repeat' first | refine vs T rfl fun K hK => ?_; (try simp (disch := omega) only [go_sem, Nat.reduceBEq, Nat.reduceAdd, Nat.reduceLeDiff, hdi, hneg, hO, eRs_len]); (refine hK _ _ ?_; clear hK K) | refine st rfl ?_ | refine sc rfl ?_ | refine nl ?_
        refine ret_tct T rfl hget_eq rfl rfl rfl (List.Sublist.refl _) ?_
        have hp : popF m loc b = (b, (0, 0), false) := by simp [popF, hnx]
        rw [hp]
        exact ⟨_, rfl, fz_cons (Fz.more (H := shp g 127 2 (eRs b).flatten []) (fun x hx => List.mem_cons_of_mem _ hx) _ _ (Fz_shp hg (eRs_len _) (eRs_row _))) (FzL.refl _ _)⟩
       ·
        have hjl := nextF_lt hnx
        obtain ⟨z, hz⟩ : ∃ z, b[j]? = some z := ⟨_, List.getElem?_eq_getElem hjl⟩
        have hrz : (eRs b)[j]? = some [iD z.1, iD z.2] := by rw [eRs_at, hz]; rfl
        have hij : idxI (nextF m loc b) = (j : Int) := by rw [hnx]; rfl
        have hneg : decide ((j : Int) < 0) = false := by rw [decide_eq_false_iff_not]; omega
        have hO : outK (nextF m loc b) b b.length = cutF j b := by rw [hnx]; exact outK_some j b
        rw [hO] at hg
        repeat' first | refine dr (id := 17) T 6 (by kernel_rfl) ?_ | refine gn ?_ | (apply VCg.step T rfl rfl); focus ((try simp (disch := omega) only [go_sem, Nat.reduceBEq, Nat.reduceAdd, Nat.reduceLeDiff, hrz, eRs_len]); (first | exact rfl | refine ⟨?_, rfl⟩; try omega)) | refine vs T rfl fun K hK => ?_; (try simp (disch := omega) only [go_sem, Nat.reduceBEq, Nat.reduceAdd, Nat.reduceLeDiff, hdi, hij, hneg, hO, eRs_len]); (refine hK _ _ ?_; clear hK K) | refine st rfl ?_ | refine sc rfl ?_ | refine nl ?_
        refine ret_tct T rfl hget_eq rfl rfl rfl (List.Sublist.refl _) ?_
        have hp : popF m loc b = (cutF j b, z, true) := by simp [popF, hnx, hz]
        rw [hp]
        exact ⟨_, rfl, fz_cons (Fz.more (H := shp g 127 2 (eRs (cutF j b)).flatten []) (fun x hx => List.mem_cons_of_mem _ hx) _ _ (Fz_shp hg (eRs_len _) (eRs_row _))) (FzL.refl _ _)⟩
    ·have h3n : (m != 3) = true := by simpa using h3
     have hat : idxI (nextF m loc b) = -1 := by rw [hnx, if_pos (.inr ⟨h2, h3⟩)]; rfl
     repeat' first | refine vs T rfl fun K hK => ?_; (try simp (disch := omega) only [go_sem, Nat.reduceBEq, hd, h2', h2n, h3n]); (refine hK _ _ ?_; clear hK K) | refine st rfl ?_ | refine sc rfl ?_ | refine nl ?_ | refine gs rfl rfl ?_
     refine VC.loop {q : Nat × Option (Nat × Nat) // q.1 ≤ b.length} (fun q => ⟨lookD [(0, buf b), (7, .is (.pointer (some ⟨bq, 0, none⟩))), (9, iD (idxI (nextF m loc b))), (11, .gs q.1.2 (outK (nextF m loc b) b q.1.1).length), (12, iD (q.1.1 : Nat))], (bq, .cells 127 2 [iD 0, iD 0]) :: shp q.1.2 127 2 (eRs (outK (nextF m loc b) b q.1.1)).flatten []⟩) (fun q => b.length - q.1.1) ⟨(0, none), by simp⟩ ?_ ?_
     ·refine Weak.sub ?_
      simp [sub, upd, hat, outK0]
     ·rintro ⟨⟨i, g⟩, hi⟩
      dsimp only at hi ⊢
      have hol := outK_len (nextF m loc b) b i
      have hfl : (eRs (outK (nextF m loc b) b i)).flatten.length = (outK (nextF m loc b) b i).length * 2 := eRs_flat _
      rcases Nat.lt_or_ge i b.length with hlt | hge
      ·have hdi : decide ((i : Int) < (b.length : Int)) = true := by simp; omega
       have hwi : IntKind.i64.wrap ((i : Int) + 1) = ((i + 1 : Nat) : Int) := by rw [w64 (by omega)]; omega
       obtain ⟨y, hy⟩ : ∃ y, b[i]? = some y := ⟨_, List.getElem?_eq_getElem hlt⟩
       have hry : (eRs b)[i]? = some [iD y.1, iD y.2] := by rw [eRs_at, hy]; rfl
       have hs := outK_succ (a := nextF m loc b) hy
       have hidx := idx_eq (nextF m loc b) i
       by_cases hc : nextF m loc b = some i
       ·rw [decide_eq_true hc] at hs hidx
        simp only [List.append_nil] at hs
        have hne : ((i : Int) != idxI (nextF m loc b)) = false := by rw [bne_eq_false_iff_eq]; exact (eq_of_beq hidx).symm
        repeat' first | refine vs T rfl fun K hK => ?_; (try simp (disch := omega) only [go_sem, Nat.reduceBEq, hdi, hwi, hne, eRs_len]); (refine hK _ _ ?_; clear hK K) | refine st rfl ?_ | refine sc rfl ?_ | refine nl ?_
        refine ⟨⟨(i + 1, g), by simp only []; omega⟩, Weak_subEq ?_ ?_, by simp only []; omega⟩
        ·simp only []
         rw [hs]
        ·simp [sub, upd, hs]
       ·rw [decide_eq_false hc] at hs hidx
        have hne : ((i : Int) != idxI (nextF m loc b)) = true := by rw [bne_iff_ne]; exact fun h => by rw [← h, beq_self_eq_true] at hidx; cases hidx
        repeat' first | refine vs T rfl fun K hK => ?_; (try simp (disch := omega) only [go_sem, Nat.reduceBEq, Nat.reduceAdd, Nat.reduceMul, Nat.reduceLeDiff, hdi, hwi, hry, hne, eRs_len]); (first | refine hK _ _ ?_; clear hK K | refine ⟨_, _, _, _, (by repeat (first | exact Sp.here | apply Sp.cons)), ?_, (by exact ⟨rfl, rfl⟩), ?_, fun g' hg' => hK _ _ ?_⟩ <;> clear hK K | refine ⟨?_, hK _ _ ?_⟩ <;> clear hK K; focus (try omega)) | refine st rfl ?_ | refine sc rfl ?_ | refine nl ?_
        ·exact hfl
        ·omega
        ·refine ⟨⟨(i + 1, g'), by simp only []; omega⟩, Weak_subEq ?_ ?_, by simp only []; omega⟩
         ·simp only []
          rw [hs, eRs_append, List.flatten_append]
          rfl
         ·simp [sub, upd, hs]
      ·have hdi : decide ((i : Int) < (b.length : Int)) = false := by simp; omega
       obtain rfl : i = b.length := by omega
       have htk : b.take b.length = b := List.take_length
       refine VC_gok (t := 11) (g := g) rfl fun hg => ?_
       have hcase : nextF m loc b = none ∨ ∃ j, nextF m loc b = some j := by cases nextF m loc b <;> simp
       rcases hcase with hnx | ⟨j, hnx⟩
       ·
        have hneg : decide (idxI (nextF m loc b) < 0) = true := by rw [hnx]; rfl
        have hO : outK (nextF m loc b) b b.length = b := by rw [hnx]; exact outK_none b
        rw [hO] at hg
        repeat' first | refine vs T rfl fun K hK => ?_; (try simp (disch := omega) only [go_sem, Nat.reduceBEq, Nat.reduceAdd, Nat.reduceLeDiff, hdi, hneg, hO, eRs_len]); (refine hK _ _ ?_; clear hK K) | refine st rfl ?_ | refine sc rfl ?_ | refine nl ?_
        refine ret_tct T rfl hget_eq rfl rfl rfl (List.Sublist.refl _) ?_
        have hp : popF m loc b = (b, (0, 0), false) := by simp [popF, hnx]
        rw [hp]
        exact ⟨_, rfl, fz_cons (Fz.more (H := shp g 127 2 (eRs b).flatten []) (fun x hx => List.mem_cons_of_mem _ hx) _ _ (Fz_shp hg (eRs_len _) (eRs_row _))) (FzL.refl _ _)⟩
       ·
        have hjl := nextF_lt hnx
        obtain ⟨z, hz⟩ : ∃ z, b[j]? = some z := ⟨_, List.getElem?_eq_getElem hjl⟩
        have hrz : (eRs b)[j]? = some [iD z.1, iD z.2] := by rw [eRs_at, hz]; rfl
        have hij : idxI (nextF m loc b) = (j : Int) := by rw [hnx]; rfl
        have hneg : decide ((j : Int) < 0) = false := by rw [decide_eq_false_iff_not]; omega
        have hO : outK (nextF m loc b) b b.length = cutF j b := by rw [hnx]; exact outK_some j b
        rw [hO] at hg
        repeat' first | refine dr (id := 17) T 6 (by kernel_rfl) ?_ | refine gn ?_ | (apply VCg.step T rfl rfl); focus ((try simp (disch := omega) only [go_sem, Nat.reduceBEq, Nat.reduceAdd, Nat.reduceLeDiff, hrz, eRs_len]); (first | exact rfl | refine ⟨?_, rfl⟩; try omega)) | refine vs T rfl fun K hK => ?_; (try simp (disch := omega) only [go_sem, Nat.reduceBEq, Nat.reduceAdd, Nat.reduceLeDiff, hdi, hij, hneg, hO, eRs_len]); (refine hK _ _ ?_; clear hK K) | refine st rfl ?_ | refine sc rfl ?_ | refine nl ?_
        refine ret_tct T rfl hget_eq rfl rfl rfl (List.Sublist.refl _) ?_
        have hp : popF m loc b = (cutF j b, z, true) := by simp [popF, hnx, hz]
        rw [hp]
        exact ⟨_, rfl, fz_cons (Fz.more (H := shp g 127 2 (eRs (cutF j b)).flatten []) (fun x hx => List.mem_cons_of_mem _ hx) _ _ (Fz_shp hg (eRs_len _) (eRs_row _))) (FzL.refl _ _)⟩
  ·have hd : decide (((k + 1 : Nat) : Int) - 1 ≥ 0) = true := by rw [decide_eq_true_eq]; omega
   have hi : ((k + 1 : Nat) : Int) - 1 = (k : Int) := by omega
   have hw : IntKind.i64.wrap ((k : Int) - 1) = (k : Int) - 1 := by rw [w64 (by omega)]
   obtain ⟨x, hx⟩ : ∃ x, b[k]? = some x := ⟨_, List.getElem?_eq_getElem (by omega)⟩
   have hrow : (eRs b)[k]? = some [iD x.1, iD x.2] := by rw [eRs_at, hx]; rfl
   have hst := atK_step m loc hx
   rw [hi] at hd ⊢
   have nxt : ∀ v : Bool, matF m loc x = v → ∀ E : Nat → D, Vc.sub E [(0, buf b), (1, iD m), (2, iD loc), (7, .is (.pointer (some ⟨bq, 0, none⟩))), (9, iD (idxI (match v with | true => some k | false => atK m loc b (k + 1)))), (10, iD ((k : Nat) - 1 : Int))] →
     ∃ k' : {k : Nat // k ≤ b.length}, Weak ⟨E, [(bq, .cells 127 2 [iD 0, iD 0])]⟩ ⟨lookD [(0, buf b), (1, iD m), (2, iD loc), (7, .is (.pointer (some ⟨bq, 0, none⟩))), (9, iD (idxI (atK m loc b k'.1))), (10, iD ((k'.1 : Nat) - 1 : Int))], [(bq, .cells 127 2 [iD 0, iD 0])]⟩ ∧ k'.1 < k + 1 := by
    intro v hv E hE
    rw [hv] at hst
    exact ⟨⟨k, by omega⟩, Weak.sub (by rw [hst]; exact hE), by simp only []; omega⟩
   by_cases h1 : x.1 = loc
   ·have h1' : (x.1 == loc) = true := by simpa using h1
    repeat' first | refine vs T rfl fun K hK => ?_; (try simp (disch := omega) only [go_sem, Nat.reduceBEq, hd, hw, hrow, h1', eRs_len]); (first | refine hK _ _ ?_; clear hK K | refine ⟨?_, hK _ _ ?_⟩ <;> clear hK K; focus (try omega)) | refine st rfl ?_ | refine sc rfl ?_ | refine nl ?_ | refine gs rfl rfl ?_ | refine gu rfl rfl ?_
    refine nxt true (by simp [matF, h1]) _ ?_
    simp [sub, upd, idxI]
   ·have h1' : (x.1 == loc) = false := by simpa using h1
    by_cases h2 : m = 2
    ·have h2' : (m == 2) = true := by simpa using h2
     by_cases h0 : loc < 0
     ·have h0' : decide (loc < 0) = true := by simpa using h0
      repeat' first | refine vs T rfl fun K hK => ?_; (try simp (disch := omega) only [go_sem, Nat.reduceBEq, hd, hw, hrow, h1', h2', h0', eRs_len]); (first | refine hK _ _ ?_; clear hK K | refine ⟨?_, hK _ _ ?_⟩ <;> clear hK K; focus (try omega)) | refine st rfl ?_ | refine sc rfl ?_ | refine nl ?_ | refine gs rfl rfl ?_
      refine nxt true (by simp [matF, h2, h0]) _ ?_
      simp [sub, upd, idxI]
     ·have h0' : decide (loc < 0) = false := by simpa using h0
      repeat' first | refine vs T rfl fun K hK => ?_; (try simp (disch := omega) only [go_sem, Nat.reduceBEq, hd, hw, hrow, h1', h2', h0', eRs_len]); (first | refine hK _ _ ?_; clear hK K | refine ⟨?_, hK _ _ ?_⟩ <;> clear hK K; focus (try omega)) | refine st rfl ?_ | refine sc rfl ?_ | refine nl ?_ | refine gs rfl rfl ?_
      refine nxt false (by simp [matF, h1, h0]) _ ?_
      simp [sub, upd]
    ·have h2' : (m == 2) = false := by simpa using h2
     repeat' first | refine vs T rfl fun K hK => ?_; (try simp (disch := omega) only [go_sem, Nat.reduceBEq, hd, hw, hrow, h1', h2', eRs_len]); (first | refine hK _ _ ?_; clear hK K | refine ⟨?_, hK _ _ ?_⟩ <;> clear hK K; focus (try omega)) | refine st rfl ?_ | refine sc rfl ?_ | refine nl ?_ | refine gs rfl rfl ?_
     refine nxt false (by simp [matF, h1, h2]) _ ?_
     simp [sub, upd]
end Go.Proofs.YtomcmfbpmkklmaaGreat
