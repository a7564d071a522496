/- Contracts: all that can act; a name's agent. No condition. -/
import Derived.Test.YtlnmljmeahknaaaGreatRg
import Derived.Test.YtlnmljmeahknaaaGreatYs
namespace Go.Proofs.YtlnmljmeahknaaaGreat
set_option linter.unusedSimpArgs false
set_option linter.unusedVariables false
set_option maxRecDepth 20000
open Go Go.Proofs Go.Vc

/-- The place of a name. -/
def numF (l : List Ag) (s : ByteArray) : Int := match l.findIdx? (fun a => decide (nameA a = s)) with | some i => (i : Nat) | none => -1
theorem numF_at {l : List Ag} {s : ByteArray} {k : Nat} {a : Ag} (ha : l[k]? = some a) (h : decide (nameA a = s) = true) (hs : ∀ (i : Nat) (y : Ag), i < k → l[i]? = some y → decide (nameA y = s) = false) : numF l s = (k : Nat) := by
  obtain ⟨hk, hak⟩ := List.getElem?_eq_some_iff.1 ha
  have : l.findIdx? (fun a => decide (nameA a = s)) = some k := by
    rw [List.findIdx?_eq_some_iff_getElem]
    refine ⟨hk, by rw [hak]; exact h, fun j hj => ?_⟩
    have := hs j l[j] hj (List.getElem?_eq_getElem _)
    simpa using this
  simp [numF, this]
theorem numF_no {l : List Ag} {s : ByteArray} (hs : ∀ (i : Nat) (y : Ag), l[i]? = some y → decide (nameA y = s) = false) : numF l s = -1 := by
  have : l.findIdx? (fun a => decide (nameA a = s)) = none := by
    rw [List.findIdx?_eq_none_iff]
    intro a ha
    obtain ⟨i, hi⟩ := List.getElem?_of_mem ha
    exact hs i a hi
  simp [numF, this]
set_option maxHeartbeats 4000000 in
theorem numM_ok (u : Un) (hu : OkU u) (m : Int) (s : ByteArray) : Pure Tryz.prog 23 [.agg (unC u), iD m, sD s] (iD (numF (agsF u m) s)) := by
  have ca := agents_ok u hu m
  have hl := agsF_len u m
  have hok : ∀ a, a ∈ agsF u m → AgOk a := fun a ha => agsF_ok ha
  generalize agsF u m = A at *
  refine Fun.of T [.tmp 6] Tryz.func23 rfl Tryz.ntmps23 Tryz.results23 rfl (by kernel_rfl) ?_
  repeat' first | refine VCo.stepO rfl rfl (fun K hK => r_boxR rfl rfl rfl (hK _ _ ?_)); (try simp only [updO]) | refine VCo.step T rfl rfl (fun K hK => ?_); (try simp (disch := omega) only [WB, argE, Nat.reduceBEq, Nat.reduceAdd, Nat.reduceLeDiff, T3, T5, T9, T22, T23, T25, T26, T27, T51, T53, T62, T65, T66, T68, T72, T78, T145, agsR_len]); (first | refine hK _ _ ?_; clear hK K | refine Op1.callp rfl rfl (ca) rfl ?_; refine hK _ _ ?_; clear hK K) | refine VC.region ?_ | refine VC.seq' ?_ | refine VC.block ?_ | (refine VCo.nil ?_); (try simp only [QB])
  refine VC.loop {k : Nat // k ≤ A.length ∧ ∀ (i : Nat) (y : Ag), i < k → A[i]? = some y → decide (nameA y = s) = false} (fun p => ⟨lookD [(2, sD s), (11, .sl false 1 (agsR A)), (12, iD (A.length : Nat)), (13, iD (p.1 : Nat))], []⟩) (fun p => A.length - p.1) ⟨0, by omega, fun i y hi => by omega⟩ ?_ ?_
  · refine Weak.sub ?_
    simp [sub, upd]
  rintro ⟨k, hk, hs⟩
  dsimp only
  rcases Nat.lt_or_ge k A.length with hlt | hge
  case inr =>
    have hd : decide ((k : Int) < (A.length : Int)) = false := by simp; omega
    rw [numF_no fun i y hy => hs i y (by have := (List.getElem?_eq_some_iff.1 hy).1; omega) hy]
    repeat' first | refine VCo.step T rfl rfl (fun K hK => ?_); (try simp (disch := omega) only [WB, lookD, Nat.reduceBEq, T3, T5, T9, T22, T23, T25, T26, T27, T51, T53, T62, T65, T66, T68, T72, T78, T145, hd]); (refine hK _ _ ?_; clear hK K) | refine VC.region ?_ | refine VC.seq' ?_ | (first | refine VCo.nil ?_ | refine VC.ret ?_ | refine VC.exit ?_); (try simp only [QB]) | refine ret1 T (List.nil_sublist _) ?_; (try simp only [upd, Nat.reduceBEq, cond_true, cond_false, and_true]) | refine VC.cond rfl ?_; (try simp only [gsplit_false])
  have hd : decide ((k : Int) < (A.length : Int)) = true := by simp; omega
  have hw : IntKind.i64.wrap ((k : Int) + 1) = ((k + 1 : Nat) : Int) := by rw [w64 (by omega)]; omega
  obtain ⟨ag, ha⟩ : ∃ x, A[k]? = some x := ⟨_, List.getElem?_eq_getElem (by omega)⟩
  have ra : (agsR A)[k]? = some [agD ag] := by rw [agsR_at, ha]; rfl
  have o1 := agD_one ag
  have cn := name_ok ag (hok ag (List.mem_of_getElem? ha))
  cases hE : decide (nameA ag = s) with
  | true =>
    rw [numF_at ha hE hs]
    repeat' first | refine VCo.step T rfl rfl (fun K hK => ?_); (try simp (disch := omega) only [WB, lookD, Nat.reduceBEq, T3, T5, T9, T22, T23, T25, T26, T27, T51, T53, T62, T65, T66, T68, T72, T78, T145, hd, ra, hE, agsR_len]); (first | refine hK _ _ ?_; clear hK K | refine ⟨?_, hK _ _ ?_⟩ <;> clear hK K; focus (try omega) | refine Op1.inva rfl rfl (cn) rfl ?_; refine hK _ _ ?_; clear hK K) | refine VC.region ?_ | refine VC.seq' ?_ | refine VC.block ?_ | (first | refine VCo.nil ?_ | refine VC.skip ?_ | refine VC.ret ?_); (try simp only [QB]) | refine ret1 T (List.nil_sublist _) ?_; (try simp only [upd, Nat.reduceBEq, cond_true, cond_false, and_true]) | refine VC.cond rfl ?_; (try simp only [gsplit_true])
  | false =>
    repeat' first | refine VCo.step T rfl rfl (fun K hK => ?_); (try simp (disch := omega) only [WB, lookD, Nat.reduceBEq, T3, T5, T9, T22, T23, T25, T26, T27, T51, T53, T62, T65, T66, T68, T72, T78, T145, hd, hw, ra, hE, agsR_len]); (first | refine hK _ _ ?_; clear hK K | refine ⟨?_, hK _ _ ?_⟩ <;> clear hK K; focus (try omega) | refine Op1.inva rfl rfl (cn) rfl ?_; refine hK _ _ ?_; clear hK K) | refine VC.region ?_ | refine VC.seq' ?_ | refine VC.block ?_ | (first | refine VCo.nil ?_ | refine VC.skip ?_); (try simp only [QB]) | refine VC.cond rfl ?_; (try simp only [gsplit_true, gsplit_false])
    refine ⟨⟨k + 1, by omega, fun i y hi hy => ?_⟩, Weak.sub ?_, by simp only []; omega⟩
    · rcases Nat.lt_or_ge i k with h' | h'
      · exact hs i y h' hy
      · obtain rfl : i = k := by omega
        rw [ha] at hy; cases hy; exact hE
    · simp [sub, upd]

section
variable {u : Un} {c : Cf} {m r : Int}
/-- Those that can, of the first ones. -/
def mvK (u : Un) (c : Cf) (m r : Int) (A : List Ag) (k : Nat) : List Int := ((List.range k).filter fun i => (A[i]?).any (canA u c m r)).map fun (i : Nat) => (i : Int)
def movesF (u : Un) (c : Cf) (m r : Int) : List Int := mvK u c m r (agsF u m) (agsF u m).length
theorem mvK_succ {A : List Ag} {k : Nat} {a : Ag} (h : A[k]? = some a) : mvK u c m r A (k + 1) = mvK u c m r A k ++ (match canA u c m r a with | true => [(k : Int)] | false => []) := by
  simp only [mvK, List.range_succ, List.filter_append, List.map_append]
  congr 1
  cases hc : canA u c m r a <;> simp [h, hc]
theorem mvK_len {A : List Ag} {k : Nat} : (mvK u c m r A k).length ≤ k := by
  simp only [mvK, List.length_map]
  exact Nat.le_trans (List.length_filter_le _ _) (by simp)
set_option maxHeartbeats 4000000 in
theorem moves_ok (h : Rt u c m r) : Pure Tryz.prog 12 [.agg (unC u), .agg (cfC c), iD m, iD r] (ints (movesF u c m r)) := by
  have ca := agents_ok u h.okU m
  have hl := agsF_len u m
  unfold movesF
  generalize agsF u m = A at *
  refine Fun.freeze (iRs_row _) ?_
  refine Fun.of T [.tmp 8] Tryz.func12 rfl Tryz.ntmps12 Tryz.results12 rfl (by kernel_rfl) ?_
  repeat' first | refine VCo.stepO rfl rfl (fun K hK => r_boxR rfl rfl rfl (hK _ _ ?_)); (try simp only [updO]) | refine VCo.step T rfl rfl (fun K hK => ?_); (try simp (disch := omega) only [WB, argE, Nat.reduceBEq, Nat.reduceAdd, Nat.reduceLeDiff, T3, T5, T9, T22, T23, T25, T26, T27, T29, T51, T53, T58, T62, T65, T66, T68, T72, T78, T145, agsR_len]); (first | refine hK _ _ ?_; clear hK K | refine Op1.callp rfl rfl (ca) rfl ?_; refine hK _ _ ?_; clear hK K) | refine VC.region ?_ | refine VC.seq' ?_ | refine VC.block ?_ | (refine VCo.nil ?_); (try simp only [QB])
  refine VC.loop {p : Nat × List Int × Option (Nat × Nat) // p.1 ≤ A.length ∧ p.2.1 = mvK u c m r A p.1} (fun p => ⟨lookD [(2, iD m), (3, iD r), (4, .pt (unC u)), (5, .pt (cfC c)), (9, .gs p.1.2.2 p.1.2.1.length), (14, .sl false 1 (agsR A)), (15, iD (A.length : Nat)), (16, iD (p.1.1 : Nat))], shp p.1.2.2 3 1 (p.1.2.1.map iD) []⟩) (fun p => A.length - p.1.1) ⟨(0, [], none), by dsimp only; omega, rfl⟩ ?_ ?_
  · refine Weak.sub ?_
    simp [sub, upd]
  rintro ⟨⟨k, L, g⟩, hk, hL⟩
  dsimp only at hk hL ⊢
  have hLl : L.length ≤ k := by rw [hL]; exact mvK_len
  rcases Nat.lt_or_ge k A.length with hlt | hge
  case inr =>
    obtain rfl : k = A.length := by omega
    have hd : decide ((A.length : Int) < (A.length : Int)) = false := by simp
    repeat' first | refine VCo.step T rfl rfl (fun K hK => ?_); (try simp (disch := omega) only [WB, lookD, Nat.reduceBEq, T3, T5, T9, T22, T23, T25, T26, T27, T29, T51, T53, T58, T62, T65, T66, T68, T72, T78, T145, hd]); (refine hK _ _ ?_; clear hK K) | refine VC.region ?_ | refine VC.seq' ?_ | (first | refine VCo.nil ?_ | refine VC.ret ?_ | refine VC.exit ?_); (try simp only [QB]) | refine VC.cond rfl ?_; (try simp only [gsplit_false])
    exact ret1 T (List.Sublist.refl _) ⟨g, 3, by rw [← hL, iRs_len]; rfl, by rw [← hL, iRs_flat]⟩
  have hd : decide ((k : Int) < (A.length : Int)) = true := by simp; omega
  have hw : IntKind.i64.wrap ((k : Int) + 1) = ((k + 1 : Nat) : Int) := by rw [w64 (by omega)]; omega
  obtain ⟨ag, ha⟩ : ∃ x, A[k]? = some x := ⟨_, List.getElem?_eq_getElem (by omega)⟩
  have ra : (agsR A)[k]? = some [agD ag] := by rw [agsR_at, ha]; rfl
  have o1 := agD_one ag
  have cn := can_ok h ag
  cases hE : canA u c m r ag with
  | false =>
    rw [hE] at cn
    repeat' first | refine VCo.step T rfl rfl (fun K hK => ?_); (try simp (disch := omega) only [WB, lookD, fillD, setL, Nat.reduceBEq, Nat.reduceAdd, Nat.reduceLeDiff, T3, T5, T9, T22, T23, T25, T26, T27, T29, T51, T53, T58, T62, T65, T66, T68, T72, T78, T145, hd, hw, ra, agsR_len]); (first | refine hK _ _ ?_; clear hK K | refine ⟨?_, hK _ _ ?_⟩ <;> clear hK K; focus (try omega) | refine Op1.inva rfl rfl (cn) rfl ?_; refine hK _ _ ?_; clear hK K) | refine VC.region ?_ | refine VC.seq' ?_ | refine VC.block ?_ | (first | refine VCo.nil ?_ | refine VC.skip ?_); (try simp only [QB]) | refine VC.cond rfl ?_; (try simp only [gsplit_true, gsplit_false])
    refine ⟨⟨(k + 1, L, g), by dsimp only; omega, by dsimp only; rw [mvK_succ ha, hE, hL]; simp⟩, Weak_subEq rfl ?_, by dsimp only; omega⟩
    simp [sub, upd]
  | true =>
    rw [hE] at cn
    repeat' first | refine VCo.step T rfl rfl (fun K hK => ?_); (try simp (disch := omega) only [WB, lookD, fillD, setL, rowsOf, Nat.reduceBEq, Nat.reduceAdd, Nat.reduceMul, Nat.reduceLeDiff, T3, T5, T9, T22, T23, T25, T26, T27, T29, T51, T53, T58, T62, T65, T66, T68, T72, T78, T145, hd, hw, ra, agsR_len]); (first | refine hK _ _ ?_; clear hK K | refine ⟨_, _, _, _, (by repeat (exact Sp.here)), ?_, (by exact ⟨rfl, rfl⟩), ⟨by decide, by decide, ?_⟩, fun g' hg' => hK _ _ ?_⟩ <;> clear hK K | refine ⟨?_, hK _ _ ?_⟩ <;> clear hK K; focus (try omega) | refine Op1.inva rfl rfl (cn) rfl ?_; refine hK _ _ ?_; clear hK K) | refine VC.region ?_ | refine VC.seq' ?_ | refine VC.block ?_ | (first | refine VCo.nil ?_ | refine VC.skip ?_); (try simp only [QB]) | refine VC.cond rfl ?_; (try simp only [gsplit_true])
    · simp
    · omega
    · refine ⟨⟨(k + 1, L ++ [(k : Int)], g'), by dsimp only; omega, by dsimp only; rw [mvK_succ ha, hE, hL]⟩, Weak_subEq ?_ ?_, by dsimp only; omega⟩
      · dsimp only
        rw [List.map_append]
        rfl
      · simp [sub, upd]
def deadB (u : Un) (c : Cf) (m r : Int) : Bool := (!finalB u c) && decide ((movesF u c m r).length = 0)
theorem dead_ok (h : Rt u c m r) : Pure Tryz.prog 14 [.agg (unC u), .agg (cfC c), iD m, iD r] (bD (deadB u c m r)) := by
  have c1 := final_ok u c (by have := h.okU.cod; omega) (by have := h.okC.bufs; omega)
  have c2 := moves_ok h
  have he : (((movesF u c m r).length : Int) == 0) = decide ((movesF u c m r).length = 0) := by rw [Bool.eq_iff_iff]; simp
  refine Fun.of T [.tmp 8] Tryz.func14 rfl Tryz.ntmps14 Tryz.results14 rfl (by kernel_rfl) ?_
  unfold deadB
  cases hF : finalB u c with
  | true =>
    rw [hF] at c1
    repeat' first | refine VCo.stepO rfl rfl (fun K hK => r_boxR rfl rfl rfl (hK _ _ ?_)); (try simp only [updO]) | (refine VCo.step T rfl rfl (fun K hK => ?_)); (try simp (disch := omega) only [WB, argE, Nat.reduceBEq, Nat.reduceAdd, Nat.reduceLeDiff, T3, T5, T9, T22, T23, T25, T26, T27, T29, T51, T53, T62, T65, T66, T68, T72, T78, T145, Bool.not_true]); (first | refine hK _ _ ?_; clear hK K | refine Op1.callp rfl rfl (c1) rfl ?_; refine hK _ _ ?_; clear hK K) | refine VCo.gstep rfl rfl rfl rfl rfl ?_; try simp only [GB] | refine VC.region ?_ | refine VC.seq' ?_ | (first | refine VCo.nil ?_ | refine VC.ret ?_); (try simp only [QB]) | refine ret1 T (List.nil_sublist _) ?_; (try simp only [upd, Nat.reduceBEq, cond_true, cond_false, and_true])
    all_goals rfl
  | false =>
    rw [hF] at c1
    repeat' first | refine VCo.stepO rfl rfl (fun K hK => r_boxR rfl rfl rfl (hK _ _ ?_)); (try simp only [updO]) | (first | refine VCo.step T rfl rfl (fun K hK => ?_) | refine VCr.step T rfl (fun K hK => ?_)); (try simp (disch := omega) only [WB, argE, Nat.reduceBEq, Nat.reduceAdd, Nat.reduceLeDiff, T3, T5, T9, T22, T23, T25, T26, T27, T29, T51, T53, T62, T65, T66, T68, T72, T78, T145, Bool.not_false, he, iRs_len]); (first | refine hK _ _ ?_; clear hK K | refine Op1.callp rfl rfl (c1) rfl ?_; refine hK _ _ ?_; clear hK K | refine Op1.callp rfl rfl (c2) rfl ?_; refine hK _ _ ?_; clear hK K) | refine VCo.gstep rfl rfl rfl rfl rfl ?_; try simp only [GB] | refine VC.region ?_ | refine VC.seq' ?_ | (first | refine VCo.nil ?_ | refine VC.ret ?_); (try simp only [QB]) | refine ret1 T (List.nil_sublist _) ?_; (try simp only [upd, Nat.reduceBEq, cond_true, cond_false, and_true])
    all_goals rfl
end
end Go.Proofs.YtlnmljmeahknaaaGreat
/- Contracts: the reference's agents and names. No condition. -/
namespace Go.Proofs.YtlnmljmeahknaaaGreat
set_option linter.unusedSimpArgs false
set_option linter.unusedVariables false
set_option maxRecDepth 20000
open Go Go.Proofs Go.Vc

theorem grid_len {α : Type} (f : Nat → Nat → α) (L : Nat) : ∀ n, ((List.range n).flatMap fun t => (List.range L).map (f t)).length = n * L
  | 0 => by simp
  | n + 1 => by
    rw [List.range_succ, List.flatMap_append, List.length_append, grid_len f L n]
    simp [Nat.succ_mul]
theorem grid_at {α : Type} (f : Nat → Nat → α) {L : Nat} (hL : 0 < L) : ∀ n i, i < n * L → ((List.range n).flatMap fun t => (List.range L).map (f t))[i]? = some (f (i / L) (i % L))
  | 0, i, h => by omega
  | n + 1, i, h => by
    rw [List.range_succ, List.flatMap_append]
    rcases Nat.lt_or_ge i (n * L) with h' | h'
    · rw [List.getElem?_append_left (by rw [grid_len]; exact h'), grid_at f hL n i h']
    · rw [List.getElem?_append_right (by rw [grid_len]; exact h'), grid_len]
      have h2 : i - n * L < L := by rw [Nat.succ_mul] at h; omega
      have h3 : i = L * n + (i - n * L) := by rw [Nat.mul_comm]; omega
      have h4 : i / L = n := by rw [h3, Nat.mul_add_div hL, Nat.div_eq_of_lt h2]; rfl
      have h5 : i % L = i - n * L := by rw [h3, Nat.mul_add_mod, Nat.mod_eq_of_lt h2]; omega
      simp [h2, h4, h5]
theorem agsF_1 {u : Un} (h : unitB u = true) : agsF u 1 = thsF u.regs.length := by
  rw [agsF, if_pos ⟨h, by omega, by omega⟩, allF]
  have : (List.range u.regs.length).flatMap (flsF u 1) = [] := by
    rw [List.flatMap_eq_nil_iff]
    intro t _
    simp [flsF]
  rw [this, List.append_nil]
theorem agsF_2 {u : Un} (h : unitB u = true) : agsF u 2 = thsF u.regs.length ++ (List.range u.regs.length).map fun t => .fl t (-1) := by
  rw [agsF, if_pos ⟨h, by omega, by omega⟩, allF]
  congr 1
  rw [List.map_eq_flatMap]
  rfl
theorem agsF_3 {u : Un} (h : unitB u = true) : agsF u 3 = thsF u.regs.length ++ (List.range u.regs.length).flatMap fun t => (List.range u.init.length).map fun l => .fl t (l : Int) := by
  rw [agsF, if_pos ⟨h, by omega, by omega⟩, allF]
  rfl
theorem agsF_no {u : Un} {m : Int} (h : ¬ (unitB u = true ∧ 1 ≤ m ∧ m ≤ 3)) : agsF u m = [] := if_neg h
theorem count_1 {u : Un} (h : unitB u = true) : (agsF u 1).length = u.regs.length := by rw [agsF_1 h, thsF_len]
theorem count_2 {u : Un} (h : unitB u = true) : (agsF u 2).length = 2 * u.regs.length := by rw [agsF_2 h, List.length_append, thsF_len, List.length_map, List.length_range]; omega
theorem count_3 {u : Un} (h : unitB u = true) : (agsF u 3).length = u.regs.length + u.regs.length * u.init.length := by rw [agsF_3 h, List.length_append, thsF_len, grid_len]
theorem ths_at {n i : Nat} (h : i < n) (l : List Ag) : (thsF n ++ l)[i]? = some (.th i) := by
  rw [List.getElem?_append_left (by rw [thsF_len]; exact h)]
  simp [thsF, h]
theorem ths_past {n i : Nat} (h : n ≤ i) (l : List Ag) : (thsF n ++ l)[i]? = l[i - n]? := by rw [List.getElem?_append_right (by rw [thsF_len]; exact h), thsF_len]

set_option maxHeartbeats 4000000 in
theorem ragents_ok (u : Un) (hu : OkU u) (m : Int) : Pure Tryz.prog 31 [.agg (unC u), iD m] (iD ((agsF u m).length : Nat)) := by
  have cu := right07_ok u hu
  refine Fun.of T [.tmp 4] Tryz.func31 rfl Tryz.ntmps31 Tryz.results31 rfl (by kernel_rfl) ?_
  cases hU : unitB u with
  | false =>
    rw [hU] at cu
    rw [agsF_no (by simp [hU])]
    repeat' first | refine VCo.stepO rfl rfl (fun K hK => r_boxR rfl rfl rfl (hK _ _ ?_)); (try simp only [updO]) | refine VCo.step T rfl rfl (fun K hK => ?_); (try simp (disch := omega) only [WB, argE, Nat.reduceBEq, Nat.reduceAdd, Nat.reduceLeDiff, T3, T5, T9, T22, T23, T25, T26, T27, T51, T53, T62, T65, T66, T68, T72, T78, T145, Bool.not_false]); (first | refine hK _ _ ?_; clear hK K | refine Op1.callp rfl rfl (cu) rfl ?_; refine hK _ _ ?_; clear hK K) | refine VC.region ?_ | refine VC.seq' ?_ | (first | refine VCo.nil ?_ | refine VC.ret ?_); (try simp only [QB]) | refine ret1 T (List.nil_sublist _) ?_; (try simp only [upd, Nat.reduceBEq, cond_true, cond_false, and_true]) | refine VC.cond rfl ?_; (try simp only [gsplit_true])
    all_goals rfl
  | true =>
  rw [hU] at cu
  obtain ⟨kn, ki, k0⟩ := unit_lens hU
  by_cases m1 : m = 1
  · have f1 : (m == 1) = true := by simpa using m1
    have hc : (agsF u m).length = u.regs.length := by subst m1; exact count_1 hU
    rw [hc]
    repeat' first | refine VCo.stepO rfl rfl (fun K hK => r_boxR rfl rfl rfl (hK _ _ ?_)); (try simp only [updO]) | refine VCo.step T rfl rfl (fun K hK => ?_); (try simp (disch := omega) only [WB, argE, Nat.reduceBEq, Nat.reduceAdd, Nat.reduceLeDiff, T3, T5, T9, T22, T23, T25, T26, T27, T51, T53, T62, T65, T66, T68, T72, T78, T145, f1, iRs_len, Bool.not_true]); (first | refine hK _ _ ?_; clear hK K | refine Op1.callp rfl rfl (cu) rfl ?_; refine hK _ _ ?_; clear hK K) | refine VC.region ?_ | refine VC.seq' ?_ | refine VC.block ?_ | (first | refine VCo.nil ?_ | refine VC.skip ?_ | refine VC.ret ?_); (try simp only [QB]) | refine ret1 T (List.nil_sublist _) ?_; (try simp only [upd, Nat.reduceBEq, cond_true, cond_false, and_true]) | refine VC.cond rfl ?_; (try simp only [gsplit_true, gsplit_false])
  have f1 : (m == 1) = false := by simpa using m1
  by_cases m2 : m = 2
  · have f2 : (m == 2) = true := by simpa using m2
    have hw : IntKind.i64.wrap (2 * (u.regs.length : Int)) = ((2 * u.regs.length : Nat) : Int) := by rw [w64 (by omega)]; omega
    have hc : (agsF u m).length = 2 * u.regs.length := by subst m2; exact count_2 hU
    rw [hc]
    repeat' first | refine VCo.stepO rfl rfl (fun K hK => r_boxR rfl rfl rfl (hK _ _ ?_)); (try simp only [updO]) | refine VCo.step T rfl rfl (fun K hK => ?_); (try simp (disch := omega) only [WB, argE, Nat.reduceBEq, Nat.reduceAdd, Nat.reduceLeDiff, T3, T5, T9, T22, T23, T25, T26, T27, T51, T53, T62, T65, T66, T68, T72, T78, T145, f1, f2, hw, iRs_len, Bool.not_true]); (first | refine hK _ _ ?_; clear hK K | refine Op1.callp rfl rfl (cu) rfl ?_; refine hK _ _ ?_; clear hK K) | refine VC.region ?_ | refine VC.seq' ?_ | refine VC.block ?_ | (first | refine VCo.nil ?_ | refine VC.skip ?_ | refine VC.ret ?_); (try simp only [QB]) | refine ret1 T (List.nil_sublist _) ?_; (try simp only [upd, Nat.reduceBEq, cond_true, cond_false, and_true]) | refine VC.cond rfl ?_; (try simp only [gsplit_true, gsplit_false])
  have f2 : (m == 2) = false := by simpa using m2
  by_cases m3 : m = 3
  · have f3 : (m == 3) = true := by simpa using m3
    have hb : u.regs.length * u.init.length ≤ 4 * 6 := Nat.mul_le_mul kn ki
    have hw1 : IntKind.i64.wrap ((u.regs.length : Int) * (u.init.length : Int)) = ((u.regs.length * u.init.length : Nat) : Int) := by
      rw [show (u.regs.length : Int) * (u.init.length : Int) = ((u.regs.length * u.init.length : Nat) : Int) by simp, w64 (by omega)]
    have hw2 : IntKind.i64.wrap ((u.regs.length : Int) + ((u.regs.length * u.init.length : Nat) : Int)) = ((u.regs.length + u.regs.length * u.init.length : Nat) : Int) := by rw [w64 (by omega)]; omega
    have hc : (agsF u m).length = u.regs.length + u.regs.length * u.init.length := by subst m3; exact count_3 hU
    rw [hc]
    repeat' first | refine VCo.stepO rfl rfl (fun K hK => r_boxR rfl rfl rfl (hK _ _ ?_)); (try simp only [updO]) | refine VCo.step T rfl rfl (fun K hK => ?_); (try simp (disch := omega) only [WB, argE, Nat.reduceBEq, Nat.reduceAdd, Nat.reduceLeDiff, T3, T5, T9, T22, T23, T25, T26, T27, T51, T53, T62, T65, T66, T68, T72, T78, T145, f1, f2, f3, hw1, hw2, iRs_len, Bool.not_true]); (first | refine hK _ _ ?_; clear hK K | refine Op1.callp rfl rfl (cu) rfl ?_; refine hK _ _ ?_; clear hK K) | refine VC.region ?_ | refine VC.seq' ?_ | refine VC.block ?_ | (first | refine VCo.nil ?_ | refine VC.skip ?_ | refine VC.ret ?_); (try simp only [QB]) | refine ret1 T (List.nil_sublist _) ?_; (try simp only [upd, Nat.reduceBEq, cond_true, cond_false, and_true]) | refine VC.cond rfl ?_; (try simp only [gsplit_true, gsplit_false])
  have f3 : (m == 3) = false := by simpa using m3
  rw [agsF_no (by omega)]
  repeat' first | refine VCo.stepO rfl rfl (fun K hK => r_boxR rfl rfl rfl (hK _ _ ?_)); (try simp only [updO]) | refine VCo.step T rfl rfl (fun K hK => ?_); (try simp (disch := omega) only [WB, argE, Nat.reduceBEq, Nat.reduceAdd, Nat.reduceLeDiff, T3, T5, T9, T22, T23, T25, T26, T27, T51, T53, T62, T65, T66, T68, T72, T78, T145, f1, f2, f3, iRs_len, Bool.not_true]); (first | refine hK _ _ ?_; clear hK K | refine Op1.callp rfl rfl (cu) rfl ?_; refine hK _ _ ?_; clear hK K) | refine VC.region ?_ | refine VC.seq' ?_ | refine VC.block ?_ | (first | refine VCo.nil ?_ | refine VC.skip ?_ | refine VC.ret ?_); (try simp only [QB]) | refine ret1 T (List.nil_sublist _) ?_; (try simp only [upd, Nat.reduceBEq, cond_true, cond_false, and_true]) | refine VC.cond rfl ?_; (try simp only [gsplit_false])
  all_goals rfl
end Go.Proofs.YtlnmljmeahknaaaGreat
/- Contracts: the reference's number of a name; a case; the known calls of chapter 11. No condition. -/
namespace Go.Proofs.YtlnmljmeahknaaaGreat
set_option linter.unusedSimpArgs false
set_option linter.unusedVariables false
set_option maxRecDepth 20000
open Go Go.Proofs Go.Vc

/-- The cells of a case. -/
abbrev cbC (u : Un) (c : Cf) (m r a : Int) : List D :=
  [iD u.md, ints u.init, ints u.regs, .sl false 1 (codeRs u.code), ints c.pc, .sl false 1 (rowsI c.regs), ints c.mem, .sl false 1 (bufsR c.bufs), iD m, iD r, iD a]
set_option maxHeartbeats 4000000 in
theorem right11_ok (u : Un) (c : Cf) (m r a : Int) : Pure Tryz.prog 4 [.agg (cbC u c m r a)] (bD (rightK u c m r)) := by
  have cu := ulight_ok u
  have cc := rlight_ok c
  refine Fun.of T [.tmp 2] Tryz.func4 rfl Tryz.ntmps4 Tryz.results4 rfl (by kernel_rfl) ?_
  cases h1 : lightU u with
  | false =>
    rw [h1] at cu
    rw [show rightK u c m r = false by simp [rightK, h1]]
    repeat' first | refine VCo.stepO rfl rfl (fun K hK => r_boxR rfl rfl rfl (hK _ _ ?_)); (try simp only [updO]) | (refine VCo.step T rfl rfl (fun K hK => ?_)); (try simp (disch := omega) only [WB, argE, Nat.reduceBEq, Nat.reduceAdd, Nat.reduceLeDiff, T3, T25, T29, T31]); (first | refine hK _ _ ?_; clear hK K | refine Op1.callp rfl rfl (cu) rfl ?_; refine hK _ _ ?_; clear hK K) | refine VCo.gstep rfl rfl rfl rfl rfl ?_; try simp only [GB] | refine VC.region ?_ | refine VC.seq' ?_ | (first | refine VCo.nil ?_ | refine VC.ret ?_); (try simp only [QB]) | refine ret1 T (List.nil_sublist _) ?_; (try simp only [upd, Nat.reduceBEq, cond_true, cond_false, and_true])
  | true =>
  rw [h1] at cu
  cases h2 : lightC c with
  | false =>
    rw [h2] at cc
    rw [show rightK u c m r = false by simp [rightK, h2]]
    repeat' first | refine VCo.stepO rfl rfl (fun K hK => r_boxR rfl rfl rfl (hK _ _ ?_)); (try simp only [updO]) | (first | refine VCo.step T rfl rfl (fun K hK => ?_) | refine VCr.step T rfl (fun K hK => ?_)); (try simp (disch := omega) only [WB, argE, Nat.reduceBEq, Nat.reduceAdd, Nat.reduceLeDiff, T3, T25, T29, T31]); (first | refine hK _ _ ?_; clear hK K | refine Op1.callp rfl rfl (cu) rfl ?_; refine hK _ _ ?_; clear hK K | refine Op1.callp rfl rfl (cc) rfl ?_; refine hK _ _ ?_; clear hK K) | refine VCo.gstep rfl rfl rfl rfl rfl ?_; try simp only [GB] | refine VC.region ?_ | refine VC.seq' ?_ | (first | refine VCo.nil ?_ | refine VC.ret ?_); (try simp only [QB]) | refine ret1 T (List.nil_sublist _) ?_; (try simp only [upd, Nat.reduceBEq, cond_true, cond_false, and_true])
  | true =>
  rw [h2] at cc
  have cr := right09_ok u (okU_light h1) c (okC_light h2) m r
  rw [show rightK u c m r = rightC u c m r by simp [rightK, h1, h2]]
  repeat' first | refine VCo.stepO rfl rfl (fun K hK => r_boxR rfl rfl rfl (hK _ _ ?_)); (try simp only [updO]) | (first | refine VCo.step T rfl rfl (fun K hK => ?_) | refine VCr.step T rfl (fun K hK => ?_)); (try simp (disch := omega) only [WB, argE, Nat.reduceBEq, Nat.reduceAdd, Nat.reduceLeDiff, T3, T25, T29, T31]); (first | refine hK _ _ ?_; clear hK K | refine Op1.callp rfl rfl (cu) rfl ?_; refine hK _ _ ?_; clear hK K | refine Op1.callp rfl rfl (cc) rfl ?_; refine hK _ _ ?_; clear hK K | refine Op1.callp rfl rfl (cr) rfl ?_; refine hK _ _ ?_; clear hK K) | refine VCo.gstep rfl rfl rfl rfl rfl ?_; try simp only [GB] | refine VC.region ?_ | refine VC.seq' ?_ | (first | refine VCo.nil ?_ | refine VC.ret ?_); (try simp only [QB]) | refine ret1 T (List.nil_sublist _) ?_; (try simp only [upd, Nat.reduceBEq, cond_true, cond_false, and_true])

/-- The unit of the known calls. -/
def U11 : Un := ⟨4, [0, 0], [0, 0], [[⟨4, 0, 0, one1, [], false, 0⟩, ⟨22, 0, 0, [], [], false, 0⟩], [⟨9, 0, 1, one1, [], false, 0⟩, ⟨22, 0, 0, [], [], false, 0⟩]]⟩
set_option maxHeartbeats 4000000 in
theorem unit11_ok : Pure Tryz.prog 19 [] (.agg (unC U11)) := by
  refine Pure.wk (d := .agg [iD 4, .sl true 1 [[iD 0], [iD 0]], .sl true 1 [[iD 0], [iD 0]], .sl true 1 [[.sl true 7 [[iD 4, iD 0, iD 0, opT, .gs none 0, bD false, iD 0], [iD 22, iD 0, iD 0, .gs none 0, .gs none 0, bD false, iD 0]]],
    [.sl true 7 [[iD 9, iD 0, iD 1, opT, .gs none 0, bD false, iD 0], [iD 22, iD 0, iD 0, .gs none 0, .gs none 0, bD false, iD 0]]]]]) ?_ ?_
  · refine Fun.of T [.cell 0 25] Tryz.func19 rfl Tryz.ntmps19 Tryz.results19 rfl (by kernel_rfl) ?_
    repeat' first | refine VCo.step T rfl rfl (fun K hK => ?_); (try simp (disch := omega) only [WB, argE, fillD, setL, rowsOf, Nat.reduceBEq, Nat.reduceAdd, Nat.reduceMul, Nat.reduceLeDiff, T3, T22, T23, T25, T65, T66, T68, T72]); (first | refine hK _ _ ?_; clear hK K | intro bq hbq; (try simp only [HB] at hbq); refine hK _ _ ?_; clear hK K) | refine VC.region ?_ | refine VC.seq' ?_ | (first | refine VCo.nil ?_ | refine VC.ret ?_); (try simp only [QB]) | refine retc T rfl (by (simp (disch := omega) only [hget_eq]) <;> rfl) rfl rfl rfl (List.nil_sublist _) ?_; (try simp only [and_true])
    all_goals rfl
  · refine wk_agg ?_
    repeat' first | exact wk_is | exact wk_nil | exact wk_end | exact wkr_end | apply wk_sl | apply wk_cons | apply wkr_cons

def c11 : Cf := ⟨[0, 0], [[], []], [0, 0], [[], []]⟩
def d11 : Cf := ⟨[1, 0], [[], []], [0, 0], [[(0, 1)], []]⟩
def e11 : Cf := ⟨[1, 0], [[], []], [1, 0], [[], []]⟩
theorem okU11 : OkU U11 := okU_light (by kernel_rfl)
theorem rtc11 : Rt U11 c11 3 1 := rtK (by kernel_rfl)
theorem rtd11 : Rt U11 d11 3 1 := rtK (by kernel_rfl)
theorem rte11 : Rt U11 e11 3 1 := rtK (by kernel_rfl)
set_option maxHeartbeats 8000000 in
theorem known11_ok : Pure Tryz.prog 5 [] (bD true) := by
  have cu := unit11_ok
  have p0 : Pure Tryz.prog 20 [.agg (unC U11)] (.tup [.agg (cfC c11), iD 0]) := by
    have := start_ok U11 okU11 (by kernel_rfl)
    rwa [show startC U11 = c11 from by kernel_rfl] at this
  have a1 : Pure Tryz.prog 7 [.agg (unC U11), .agg (cfC c11), iD 3, iD 1, iD 0] (.tup [.agg (cfC d11), bD true]) := by
    have := actM_ok rtc11 0
    rwa [show actM U11 c11 3 1 0 = d11 from by kernel_rfl, show enM U11 c11 3 1 0 = true from by kernel_rfl] at this
  have a2 : Pure Tryz.prog 7 [.agg (unC U11), .agg (cfC d11), iD 3, iD 1, iD 2] (.tup [.agg (cfC e11), bD true]) := by
    have := actM_ok rtd11 2
    rwa [show actM U11 d11 3 1 2 = e11 from by kernel_rfl, show enM U11 d11 3 1 2 = true from by kernel_rfl] at this
  have a3 : Pure Tryz.prog 7 [.agg (unC U11), .agg (cfC c11), iD 3, iD 1, iD 1] (.tup [.agg (cfC c11), bD false]) := by
    have := actM_ok rtc11 1
    rwa [show actM U11 c11 3 1 1 = c11 from by kernel_rfl, show enM U11 c11 3 1 1 = false from by kernel_rfl] at this
  have n1 : Pure Tryz.prog 21 [.agg (unC U11), iD 1] (iD 2) := by
    have := agentsN_ok U11 okU11 1
    rwa [show (((agsF U11 1).length : Nat) : Int) = 2 from by kernel_rfl] at this
  have n2 : Pure Tryz.prog 21 [.agg (unC U11), iD 2] (iD 4) := by
    have := agentsN_ok U11 okU11 2
    rwa [show (((agsF U11 2).length : Nat) : Int) = 4 from by kernel_rfl] at this
  have n3 : Pure Tryz.prog 21 [.agg (unC U11), iD 3] (iD 6) := by
    have := agentsN_ok U11 okU11 3
    rwa [show (((agsF U11 3).length : Nat) : Int) = 6 from by kernel_rfl] at this
  have n4 : Pure Tryz.prog 21 [.agg (unC U11), iD 4] (iD 0) := by
    have := agentsN_ok U11 okU11 4
    rwa [show (((agsF U11 4).length : Nat) : Int) = 0 from by kernel_rfl] at this
  have m1 : Pure Tryz.prog 22 [.agg (unC U11), iD 3, iD 5] (sD ⟨#[102, 49, 46, 49]⟩) := by
    have := nameM_ok U11 okU11 3 5
    rwa [show nameM U11 3 5 = ⟨#[102, 49, 46, 49]⟩ from by kernel_rfl] at this
  have m2 : Pure Tryz.prog 22 [.agg (unC U11), iD 2, iD 2] (sD ⟨#[102, 48]⟩) := by
    have := nameM_ok U11 okU11 2 2
    rwa [show nameM U11 2 2 = ⟨#[102, 48]⟩ from by kernel_rfl] at this
  have k1 : Pure Tryz.prog 23 [.agg (unC U11), iD 3, sD ⟨#[102, 49, 46, 48]⟩] (iD 4) := by
    have := numM_ok U11 okU11 3 ⟨#[102, 49, 46, 48]⟩
    rwa [show numF (agsF U11 3) ⟨#[102, 49, 46, 48]⟩ = 4 from by kernel_rfl] at this
  have k2 : Pure Tryz.prog 23 [.agg (unC U11), iD 1, sD ⟨#[102, 48]⟩] (iD (-1)) := by
    have := numM_ok U11 okU11 1 ⟨#[102, 48]⟩
    rwa [show numF (agsF U11 1) ⟨#[102, 48]⟩ = -1 from by kernel_rfl] at this
  have v1 : Pure Tryz.prog 12 [.agg (unC U11), .agg (cfC c11), iD 3, iD 1] (ints [0]) := by
    have := moves_ok rtc11
    rwa [show movesF U11 c11 3 1 = [0] from by kernel_rfl] at this
  have v2 : Pure Tryz.prog 12 [.agg (unC U11), .agg (cfC d11), iD 3, iD 1] (ints [2]) := by
    have := moves_ok rtd11
    rwa [show movesF U11 d11 3 1 = [2] from by kernel_rfl] at this
  have w1 : Pure Tryz.prog 14 [.agg (unC U11), .agg (cfC e11), iD 3, iD 1] (bD true) := by
    have := dead_ok rte11
    rwa [show deadB U11 e11 3 1 = true from by kernel_rfl] at this
  have w2 : Pure Tryz.prog 14 [.agg (unC U11), .agg (cfC d11), iD 3, iD 1] (bD false) := by
    have := dead_ok rtd11
    rwa [show deadB U11 d11 3 1 = false from by kernel_rfl] at this
  have x1 : Pure Tryz.prog 10 [.agg (unC U11), .agg (cfC c11), iD 3, iD 1, iD 0] (bD true) := by
    have := enM_ok rtc11 0
    rwa [show enM U11 c11 3 1 0 = true from by kernel_rfl] at this
  have i1 : Pure Tryz.prog 11 [ints [0], .sl true 1 [[iD 0]]] (bD true) := by
    have := ints_ok [0] [0] (by decide) (by decide)
    rw [decide_eq_true rfl] at this
    exact Fun.argsW this (fz_cons (Fz.refl _ _) (fz_cons fz_sl fz_end))
  have i2 : Pure Tryz.prog 11 [ints [2], .sl true 1 [[iD 2]]] (bD true) := by
    have := ints_ok [2] [2] (by decide) (by decide)
    rw [decide_eq_true rfl] at this
    exact Fun.argsW this (fz_cons (Fz.refl _ _) (fz_cons fz_sl fz_end))
  have rm : (iRs e11.mem)[0]? = some [iD 1] := rfl
  have lm : (iRs e11.mem).length = 2 := rfl
  refine Fun.of T [.tmp 0] Tryz.func5 rfl Tryz.ntmps5 Tryz.results5 rfl (by kernel_rfl) ?_
  repeat' first | (first | refine VCo.step T rfl rfl (fun K hK => ?_) | refine VCr.step T rfl (fun K hK => ?_)); (try simp (disch := omega) only [WB, argE, fillD, setL, rowsOf, Nat.reduceBEq, Nat.reduceAdd, Nat.reduceMul, Nat.reduceLeDiff, T3, T5, T9, T22, T23, T25, T26, T27, T29, T51, T53, T62, T65, T66, T68, T72, T78, T145, rm, lm, Int.toNat_zero, Bool.not_false]); (first | refine hK _ _ ?_; clear hK K | intro bq hbq; (try simp only [HB] at hbq); refine hK _ _ ?_; clear hK K | refine ⟨?_, hK _ _ ?_⟩ <;> clear hK K; focus (try omega) | refine Op1.callp rfl rfl (cu) rfl ?_; refine hK _ _ ?_; clear hK K | refine Op1.callp rfl rfl (p0) rfl ?_; refine hK _ _ ?_; clear hK K | refine Op1.callp rfl rfl (a1) rfl ?_; refine hK _ _ ?_; clear hK K | refine Op1.callp rfl rfl (a2) rfl ?_; refine hK _ _ ?_; clear hK K | refine Op1.callp rfl rfl (a3) rfl ?_; refine hK _ _ ?_; clear hK K | refine Op1.callp rfl rfl (n1) rfl ?_; refine hK _ _ ?_; clear hK K | refine Op1.callp rfl rfl (n2) rfl ?_; refine hK _ _ ?_; clear hK K | refine Op1.callp rfl rfl (n3) rfl ?_; refine hK _ _ ?_; clear hK K | refine Op1.callp rfl rfl (n4) rfl ?_; refine hK _ _ ?_; clear hK K | refine Op1.callp rfl rfl (m1) rfl ?_; refine hK _ _ ?_; clear hK K | refine Op1.callp rfl rfl (m2) rfl ?_; refine hK _ _ ?_; clear hK K | refine Op1.callp rfl rfl (k1) rfl ?_; refine hK _ _ ?_; clear hK K | refine Op1.callp rfl rfl (k2) rfl ?_; refine hK _ _ ?_; clear hK K | refine Op1.callp rfl rfl (v1) rfl ?_; refine hK _ _ ?_; clear hK K | refine Op1.callp rfl rfl (v2) rfl ?_; refine hK _ _ ?_; clear hK K | refine Op1.callp rfl rfl (w1) rfl ?_; refine hK _ _ ?_; clear hK K | refine Op1.callp rfl rfl (w2) rfl ?_; refine hK _ _ ?_; clear hK K | refine Op1.callp rfl rfl (x1) rfl ?_; refine hK _ _ ?_; clear hK K | refine Op1.callp rfl rfl (i1) rfl ?_; refine hK _ _ ?_; clear hK K | refine Op1.callp rfl rfl (i2) rfl ?_; refine hK _ _ ?_; clear hK K) | refine VCo.gstep rfl rfl rfl rfl rfl ?_; try simp only [GB] | refine VC.region ?_ | refine VC.seq' ?_ | (first | refine VCo.nil ?_ | refine VC.ret ?_); (try simp only [QB]) | refine ret1 T (List.nil_sublist _) ?_; (try simp only [upd, Nat.reduceBEq, cond_true, cond_false, and_true])
end Go.Proofs.YtlnmljmeahknaaaGreat
