/- Contracts: all that can act; a name's agent. No condition. -/
import Derived.Test.YtfifcjgcajpnoaaRg
import Derived.Test.YtfifcjgcajpnoaaYq
namespace Go.Proofs.Ytfifcjgcajpnoaa
set_option linter.unusedSimpArgs false
set_option linter.unusedVariables false
set_option maxRecDepth 20000
open Go Go.Proofs Go.Vc
attribute [local irreducible] retQ VCg VCw

section
variable {u : Un} {c : Cf} {m r : Int}
/-- Those that can, of the first ones. -/
def mvK (u : Un) (c : Cf) (m r : Int) (A : List Ag) (k : Nat) : List Int := ((List.range k).filter fun i => (A[i]?).any (canA u c m r)).map fun (i : Nat) => (i : Int)
def movesF (u : Un) (c : Cf) (m r : Int) : List Int := mvK u c m r (agsF u m) (agsF u m).length
theorem mvK_succ {A : List Ag} {k : Nat} {a : Ag} (h : A[k]? = some a) : mvK u c m r A (k + 1) = mvK u c m r A k ++ (match canA u c m r a with | true => [(k : Int)] | false => []) := by
  simp only [mvK, List.range_succ, List.filter_append, List.map_append]
  congr 1
  cases hc : canA u c m r a <;> simp [h, hc]
theorem mvK_len {A : List Ag} {k : Nat} : (mvK u c m r A k).length ≤ k := by
  simp only [mvK, List.length_map]
  exact Nat.le_trans (List.length_filter_le _ _) (by simp)
set_option maxHeartbeats 4000000 in
theorem moves_ok (h : Rt u c m r) : Pure Try.prog 29 [.agg (unC u), .agg (cfC c), iD m, iD r] (ints (movesF u c m r)) := by
  have ca := agents_ok u h.okU m
  have hl := agsF_len u m
  unfold movesF
  generalize agsF u m = A at *
  refine Fun.freeze (iRs_row _) ?_
  refine Fun.of T [.tmp 8] Try.func29 rfl Try.ntmps29 Try.results29 rfl (by kernel_rfl) ?_
  repeat' first | refine vb rfl rfl rfl rfl ?_ | refine vs T rfl fun K hK => ?_; (try simp (disch := omega) only [go_sem, Nat.reduceBEq, Nat.reduceAdd, Nat.reduceLeDiff, agsR_len]); (first | refine hK _ _ ?_; clear hK K | refine Op1.callp rfl rfl (ca) rfl ?_; refine hK _ _ ?_; clear hK K) | refine st rfl ?_ | refine nl ?_
  refine VC.loop {p : Nat × List Int × Option (Nat × Nat) // p.1 ≤ A.length ∧ p.2.1 = mvK u c m r A p.1} (fun p => ⟨lookD [(2, iD m), (3, iD r), (4, .pt (unC u)), (5, .pt (cfC c)), (9, .gs p.1.2.2 p.1.2.1.length), (14, .sl false 1 (agsR A)), (15, iD (A.length : Nat)), (16, iD (p.1.1 : Nat))], shp p.1.2.2 3 1 (p.1.2.1.map iD) []⟩) (fun p => A.length - p.1.1) ⟨(0, [], none), by dsimp only; omega, rfl⟩ ?_ ?_
  · refine Weak.sub ?_
    simp [sub, upd]
  rintro ⟨⟨k, L, g⟩, hk, hL⟩
  dsimp only at hk hL ⊢
  have hLl : L.length ≤ k := by rw [hL]; exact mvK_len
  rcases Nat.lt_or_ge k A.length with hlt | hge
  case inr =>
    obtain rfl : k = A.length := by omega
    have hd : decide ((A.length : Int) < (A.length : Int)) = false := by simp
    repeat' first | refine vs T rfl fun K hK => ?_; (try simp (disch := omega) only [go_sem, Nat.reduceBEq, hd]); (refine hK _ _ ?_; clear hK K) | refine st rfl ?_ | refine sc rfl ?_ | refine nl ?_
    exact ret1 T (List.Sublist.refl _) ⟨g, 3, by rw [← hL, iRs_len]; rfl, by rw [← hL, iRs_flat]⟩
  have hd : decide ((k : Int) < (A.length : Int)) = true := by simp; omega
  have hw : IntKind.i64.wrap ((k : Int) + 1) = ((k + 1 : Nat) : Int) := by rw [w64 (by omega)]; omega
  obtain ⟨ag, ha⟩ : ∃ x, A[k]? = some x := ⟨_, List.getElem?_eq_getElem (by omega)⟩
  have ra : (agsR A)[k]? = some [agD ag] := by rw [agsR_at, ha]; rfl
  have o1 := agD_one ag
  have cn := can_ok h ag
  cases hE : canA u c m r ag with
  | false =>
    rw [hE] at cn
    repeat' first | refine vs T rfl fun K hK => ?_; (try simp (disch := omega) only [go_sem, Nat.reduceBEq, Nat.reduceAdd, Nat.reduceLeDiff, hd, hw, ra, agsR_len]); (first | refine hK _ _ ?_; clear hK K | refine ⟨?_, hK _ _ ?_⟩ <;> clear hK K; focus (try omega) | refine Op1.inva rfl rfl (cn) rfl ?_; refine hK _ _ ?_; clear hK K) | refine st rfl ?_ | refine sc rfl ?_ | refine nl ?_
    refine ⟨⟨(k + 1, L, g), by dsimp only; omega, by dsimp only; rw [mvK_succ ha, hE, hL]; simp⟩, Weak_subEq rfl ?_, by dsimp only; omega⟩
    simp [sub, upd]
  | true =>
    rw [hE] at cn
    repeat' first | refine vs T rfl fun K hK => ?_; (try simp (disch := omega) only [go_sem, Nat.reduceBEq, Nat.reduceAdd, Nat.reduceMul, Nat.reduceLeDiff, hd, hw, ra, agsR_len]); (first | refine hK _ _ ?_; clear hK K | refine ⟨_, _, _, _, (by repeat (exact Sp.here)), ?_, (by exact ⟨rfl, rfl⟩), ⟨by decide, ?_⟩, fun g' hg' => hK _ _ ?_⟩ <;> clear hK K | refine ⟨?_, hK _ _ ?_⟩ <;> clear hK K; focus (try omega) | refine Op1.inva rfl rfl (cn) rfl ?_; refine hK _ _ ?_; clear hK K) | refine st rfl ?_ | refine sc rfl ?_ | refine nl ?_
    · simp
    · omega
    · refine ⟨⟨(k + 1, L ++ [(k : Int)], g'), by dsimp only; omega, by dsimp only; rw [mvK_succ ha, hE, hL]⟩, Weak_subEq ?_ ?_, by dsimp only; omega⟩
      · dsimp only
        rw [List.map_append]
        rfl
      · simp [sub, upd]
def deadB (u : Un) (c : Cf) (m r : Int) : Bool := (!finalB u c) && decide ((movesF u c m r).length = 0)
theorem dead_ok (h : Rt u c m r) : Pure Try.prog 19 [.agg (unC u), .agg (cfC c), iD m, iD r] (bD (deadB u c m r)) := by
  have c1 := final_ok u c (by have := h.okU.cod; omega) (by have := h.okC.bufs; omega)
  have c2 := moves_ok h
  have he : (((movesF u c m r).length : Int) == 0) = decide ((movesF u c m r).length = 0) := by rw [Bool.eq_iff_iff]; simp
  refine Fun.of T [.tmp 8] Try.func19 rfl Try.ntmps19 Try.results19 rfl (by kernel_rfl) ?_
  unfold deadB
  cases hF : finalB u c with
  | true =>
    rw [hF] at c1
    repeat' first | refine vb rfl rfl rfl rfl ?_ | refine vs T rfl fun K hK => ?_; (try simp (disch := omega) only [go_sem, Nat.reduceBEq, Nat.reduceAdd, Nat.reduceLeDiff, Bool.not_true]); (first | refine hK _ _ ?_; clear hK K | refine Op1.callp rfl rfl (c1) rfl ?_; refine hK _ _ ?_; clear hK K) | refine st rfl ?_ | refine nl ?_ | refine gs rfl rfl ?_ | exact ret1 T (List.nil_sublist _) ⟨rfl, rfl⟩
    all_goals rfl
  | false =>
    rw [hF] at c1
    repeat' first | refine vb rfl rfl rfl rfl ?_ | refine vs T rfl fun K hK => ?_; (try simp (disch := omega) only [go_sem, Nat.reduceBEq, Nat.reduceAdd, Nat.reduceLeDiff, Bool.not_false, he, iRs_len]); (first | refine hK _ _ ?_; clear hK K | refine Op1.callp rfl rfl (c1) rfl ?_; refine hK _ _ ?_; clear hK K | refine Op1.callp rfl rfl (c2) rfl ?_; refine hK _ _ ?_; clear hK K) | refine st rfl ?_ | refine nl ?_ | refine gs rfl rfl ?_ | exact ret1 T (List.nil_sublist _) ⟨rfl, rfl⟩
    all_goals rfl
end
end Go.Proofs.Ytfifcjgcajpnoaa
/- Contracts: the reference's agents and names. No condition. -/
namespace Go.Proofs.Ytfifcjgcajpnoaa
set_option linter.unusedSimpArgs false
set_option linter.unusedVariables false
set_option maxRecDepth 20000
open Go Go.Proofs Go.Vc

theorem grid_len {α : Type} (f : Nat → Nat → α) (L : Nat) : ∀ n, ((List.range n).flatMap fun t => (List.range L).map (f t)).length = n * L
  | 0 => by simp
  | n + 1 => by
    rw [List.range_succ, List.flatMap_append, List.length_append, grid_len f L n]
    simp [Nat.succ_mul]
theorem grid_at {α : Type} (f : Nat → Nat → α) {L : Nat} (hL : 0 < L) : ∀ n i, i < n * L → ((List.range n).flatMap fun t => (List.range L).map (f t))[i]? = some (f (i / L) (i % L))
  | 0, i, h => by omega
  | n + 1, i, h => by
    rw [List.range_succ, List.flatMap_append]
    rcases Nat.lt_or_ge i (n * L) with h' | h'
    · rw [List.getElem?_append_left (by rw [grid_len]; exact h'), grid_at f hL n i h']
    · rw [List.getElem?_append_right (by rw [grid_len]; exact h'), grid_len]
      have h2 : i - n * L < L := by rw [Nat.succ_mul] at h; omega
      have h3 : i = L * n + (i - n * L) := by rw [Nat.mul_comm]; omega
      have h4 : i / L = n := by rw [h3, Nat.mul_add_div hL, Nat.div_eq_of_lt h2]; rfl
      have h5 : i % L = i - n * L := by rw [h3, Nat.mul_add_mod, Nat.mod_eq_of_lt h2]; omega
      simp [h2, h4, h5]
theorem agsF_1 {u : Un} (h : unitB u = true) : agsF u 1 = thsF u.regs.length := by
  rw [agsF, if_pos ⟨h, by omega, by omega⟩, allF]
  have : (List.range u.regs.length).flatMap (flsF u 1) = [] := by
    rw [List.flatMap_eq_nil_iff]
    intro t _
    simp [flsF]
  rw [this, List.append_nil]
theorem agsF_2 {u : Un} (h : unitB u = true) : agsF u 2 = thsF u.regs.length ++ (List.range u.regs.length).map fun t => .fl t (-1) := by
  rw [agsF, if_pos ⟨h, by omega, by omega⟩, allF]
  congr 1
  rw [List.map_eq_flatMap]
  rfl
theorem agsF_3 {u : Un} (h : unitB u = true) : agsF u 3 = thsF u.regs.length ++ (List.range u.regs.length).flatMap fun t => (List.range u.init.length).map fun l => .fl t (l : Int) := by
  rw [agsF, if_pos ⟨h, by omega, by omega⟩, allF]
  rfl
theorem agsF_no {u : Un} {m : Int} (h : ¬ (unitB u = true ∧ 1 ≤ m ∧ m ≤ 3)) : agsF u m = [] := if_neg h
theorem count_1 {u : Un} (h : unitB u = true) : (agsF u 1).length = u.regs.length := by rw [agsF_1 h, thsF_len]
theorem count_2 {u : Un} (h : unitB u = true) : (agsF u 2).length = 2 * u.regs.length := by rw [agsF_2 h, List.length_append, thsF_len, List.length_map, List.length_range]; omega
theorem count_3 {u : Un} (h : unitB u = true) : (agsF u 3).length = u.regs.length + u.regs.length * u.init.length := by rw [agsF_3 h, List.length_append, thsF_len, grid_len]
theorem ths_at {n i : Nat} (h : i < n) (l : List Ag) : (thsF n ++ l)[i]? = some (.th i) := by
  rw [List.getElem?_append_left (by rw [thsF_len]; exact h)]
  simp [thsF, h]
theorem ths_past {n i : Nat} (h : n ≤ i) (l : List Ag) : (thsF n ++ l)[i]? = l[i - n]? := by rw [List.getElem?_append_right (by rw [thsF_len]; exact h), thsF_len]

end Go.Proofs.Ytfifcjgcajpnoaa
/- Contracts: the reference's number of a name; a case; the known calls of chapter 11. No condition. -/
namespace Go.Proofs.Ytfifcjgcajpnoaa
set_option linter.unusedSimpArgs false
set_option linter.unusedVariables false
set_option maxRecDepth 20000
open Go Go.Proofs Go.Vc

end Go.Proofs.Ytfifcjgcajpnoaa
