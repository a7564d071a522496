/- Plain law: the graph of edges has just these edges. No condition. -/
import Derived.Test.YtomcmfbpmkklmaaGreatDd
namespace Go.Proofs.YtomcmfbpmkklmaaGreat
set_option linter.unusedSimpArgs false
set_option linter.unusedVariables false
set_option maxRecDepth 20000
open Go Go.Proofs Go.Vc
def EdOk (n : Nat) (l : List Ed) : Prop := ∀ e, e ∈ l → 0 ≤ e.1 ∧ e.1 < n ∧ 0 ≤ e.2.2 ∧ e.2.2 < n ∧ 0 ≤ e.2.1
theorem upE_mem {l : List Ed} {e : Ed} : ∀ {i : Nat}, e ∈ upE l i → e ∈ l ∧ 0 ≤ e.1 ∧ e.1 < i
 | 0, h => by simp [upE] at h
 | i + 1, h => by
  rw [upE_succ, List.mem_append] at h
  rcases h with h | h
  ·have := upE_mem h; exact ⟨this.1, this.2.1, by omega⟩
  ·simp only [outE, List.mem_filter, beq_iff_eq] at h
   exact ⟨h.1, by omega, by omega⟩
theorem stB_at (n : Nat) (l : List Ed) {i : Nat} (h : i ≤ n) : (buildF n l).st.getD i 0 = ((upE l i).length : Int) := by
 simp only [buildF, List.getD_eq_getElem?_getD, List.getElem?_map]
 rw [List.getElem?_range (by omega)]; rfl
theorem upE_pre (l : List Ed) (i : Nat) : ∀ m, ∃ X, upE l (i + m) = upE l i ++ X
 | 0 => ⟨[], by simp⟩
 | m + 1 => by
  obtain ⟨X, h⟩ := upE_pre l i m
  exact ⟨X ++ outE l (i + m), by rw [← Nat.add_assoc, upE_succ, h, List.append_assoc]⟩
theorem egB_at (n : Nat) (l : List Ed) {i j : Nat} (hi : i < n) (hj : j < (outE l i).length) : egG (buildF n l) i ((upE l i).length + j) = (outE l i).getD j (0, 0, 0) := by
 obtain ⟨X, hX⟩ := upE_pre l (i + 1) (n - (i + 1))
 rw [show i + 1 + (n - (i + 1)) = n by omega, upE_succ, List.append_assoc] at hX
 have hg : (upE l n)[(upE l i).length + j]? = some ((outE l i).getD j (0, 0, 0)) := by
  rw [hX, List.getElem?_append_right (by omega), Nat.add_sub_cancel_left, List.getElem?_append_left hj, List.getD_eq_getElem?_getD, List.getElem?_eq_getElem hj]; rfl
 have hm : (outE l i).getD j (0, 0, 0) ∈ outE l i := by
  rw [List.getD_eq_getElem?_getD, List.getElem?_eq_getElem hj]; exact List.getElem_mem hj
 have hm2 : ((outE l i).getD j (0, 0, 0)).1 = (i : Int) := by
  have := List.mem_filter.1 hm
  exact beq_iff_eq.1 this.2
 generalize (outE l i).getD j (0, 0, 0) = x at hg hm2 ⊢
 simp only [egG, buildF, List.getD_eq_getElem?_getD, List.getElem?_map, hg, Option.map_some, Option.getD_some]
 rw [← hm2]
theorem rowG_build (n : Nat) (l : List Ed) {i : Nat} (hi : i < n) : rowG (buildF n l) i = outE l i := by
 have h1 := stB_at n l (i := i) (by omega)
 have h2 := stB_at n l (i := i + 1) (by omega)
 have h3 : (upE l (i + 1)).length = (upE l i).length + (outE l i).length := by rw [upE_succ, List.length_append]
 unfold rowG rowK
 rw [h1, h2, Int.toNat_natCast, Int.toNat_natCast, h3, Nat.add_sub_cancel_left]
 refine List.ext_getElem? fun j => ?_
 rw [List.getElem?_map]
 rcases Nat.lt_or_ge j (outE l i).length with h | h
 ·rw [List.getElem?_range' (by omega), Option.map_some, Nat.one_mul, egB_at n l hi h, List.getElem?_eq_getElem h, List.getD_eq_getElem?_getD, List.getElem?_eq_getElem h]; rfl
 ·rw [List.getElem?_eq_none (by simpa using h), List.getElem?_eq_none h]; rfl
theorem buildF_gr {n : Nat} {l : List Ed} (h : EdOk n l) : Gr (buildF n l) := by
 have hl : (buildF n l).st.length = n + 1 := by simp [buildF]
 refine ⟨by omega, ?_, ?_, by simp [buildF], ?_, ?_⟩
 ·rw [stB_at n l (Nat.zero_le _)]; rfl
 ·rw [hl, Nat.add_sub_cancel, stB_at n l (Nat.le_refl _)]; simp [buildF]
 ·intro i hi
  rw [hl] at hi
  rw [stB_at n l (by omega), stB_at n l (by omega), upE_succ, List.length_append]; omega
 ·intro i hi
  rw [hl, Nat.add_sub_cancel]
  have hi' : i < (upE l n).length := by simpa [buildF] using hi
  have hm := List.getElem_mem hi'
  have := h _ (upE_mem hm).1
  simp only [buildF, List.getD_eq_getElem?_getD, List.getElem?_map, List.getElem?_eq_getElem hi', Option.map_some, Option.getD_some]
  omega
theorem nodesG_build {n : Nat} {l : List Ed} (h : EdOk n l) : nodesG (buildF n l) = n := by
 unfold nodesG
 rw [rightG_iff.2 (buildF_gr h)]
 simp [buildF]
theorem upG_build (n : Nat) (l : List Ed) : ∀ k, k ≤ n → upG (buildF n l) k = upE l k
 | 0, _ => rfl
 | k + 1, hk => by rw [upG_succ, upE_succ, upG_build n l k (by omega), rowG_build n l (by omega)]
theorem allG_build {n : Nat} {l : List Ed} (h : EdOk n l) (hs : Sorted l) : allG (buildF n l) = l := by
 rw [allG, nodesG_build h, upG_build n l n (Nat.le_refl _), upE_all hs n fun e he => ⟨(h e he).1, (h e he).2.1⟩]
theorem rowG_mem {g : Cs} {i : Nat} {e : Ed} (h : e ∈ rowG g i) : e.1 = (i : Int) := by
 simp only [rowG, rowK, List.mem_map] at h
 obtain ⟨k, _, rfl⟩ := h; rfl
theorem upG_sorted (g : Cs) : ∀ n, Sorted (upG g n) ∧ ∀ e, e ∈ upG g n → 0 ≤ e.1 ∧ e.1 < n
 | 0 => ⟨List.Pairwise.nil, fun e he => by simp [upG] at he⟩
 | n + 1 => by
  obtain ⟨h1, h2⟩ := upG_sorted g n
  rw [upG_succ]
  have hr : ∀ e, e ∈ rowG g n → e.1 = (n : Int) := fun e he => rowG_mem he
  constructor
  ·refine List.pairwise_append.2 ⟨h1, List.Pairwise.imp_of_mem (R := fun _ _ => True) (fun ha hb _ => ?_) (List.pairwise_of_forall fun _ _ => trivial), fun a ha b hb => ?_⟩
   ·rw [hr _ ha, hr _ hb]; exact Int.le_refl _
   ·have := h2 a ha; rw [hr b hb]; omega
  ·intro e he
   rcases List.mem_append.1 he with he | he
   ·have := h2 e he; omega
   ·have := hr e he; omega
theorem rowG_ok {g : Cs} (G : Gr g) {i : Nat} (hi : i < g.st.length - 1) {e : Ed} (h : e ∈ rowG g i) : 0 ≤ e.2.2 ∧ e.2.2 < (g.st.length - 1 : Nat) ∧ 0 ≤ e.2.1 := by
 simp only [rowG, rowK, List.mem_map, List.mem_range'_1] at h
 obtain ⟨k, hk, rfl⟩ := h
 have b1 := G.bnd (i := i) (by omega)
 have b2 := G.bnd (i := i + 1) (by omega)
 have := G.to k (by omega)
 simp only [egG]; omega
theorem upG_mem {g : Cs} {e : Ed} : ∀ {n : Nat}, e ∈ upG g n → ∃ i, i < n ∧ e ∈ rowG g i := fun h => by
 simp only [upG, List.mem_flatMap, List.mem_range] at h
 exact h
theorem allG_ok {g : Cs} (G : Gr g) : EdOk (nodesG g) (allG g) ∧ Sorted (allG g) := by
 have hn : nodesG g = g.st.length - 1 := by unfold nodesG; rw [rightG_iff.2 G]
 obtain ⟨h1, h2⟩ := upG_sorted g (nodesG g)
 refine ⟨fun e he => ?_, h1⟩
 obtain ⟨i, hi, hm⟩ := upG_mem (g := g) he
 have := h2 e he
 have k := rowG_ok G (by omega) hm
 rw [hn] at this ⊢
 exact ⟨this.1, this.2, k⟩
theorem outG_mem {g : Cs} {x : Int} {e : Ed} : e ∈ outG g x ↔ e ∈ allG g ∧ e.1 = x := by
 unfold outG allG
 constructor
 ·split
  ·rename_i hb
   intro h
   simp only [Bool.and_eq_true, decide_eq_true_eq] at hb
   have := rowG_mem h
   refine ⟨?_, by omega⟩
   simp only [upG, List.mem_flatMap, List.mem_range]
   exact ⟨_, by omega, h⟩
  ·intro h; cases h
 ·rintro ⟨h, rfl⟩
  obtain ⟨i, hi, hm⟩ := upG_mem (g := g) h
  have := rowG_mem hm
  have hb : (decide (0 ≤ e.1) && decide (e.1 < nodesG g)) = true := by simp only [Bool.and_eq_true, decide_eq_true_eq]; omega
  rw [hb]
  rw [show e.1.toNat = i by omega]
  exact hm
end Go.Proofs.YtomcmfbpmkklmaaGreat
