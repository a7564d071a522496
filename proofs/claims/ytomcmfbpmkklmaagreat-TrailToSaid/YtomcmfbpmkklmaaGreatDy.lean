/- Plain law: the graph of edges has just these edges. No condition. -/
import Derived.Test.YtomcmfbpmkklmaaGreatDd
namespace Go.Proofs.YtomcmfbpmkklmaaGreat
set_option linter.unusedSimpArgs false
set_option linter.unusedVariables false
set_option maxRecDepth 20000
open Go Go.Proofs Go.Vc
def EdOk (n : Nat) (l : List Ed) : Prop := ∀ e, e ∈ l → 0 ≤ e.1 ∧ e.1 < n ∧ 0 ≤ e.2.2 ∧ e.2.2 < n ∧ 0 ≤ e.2.1
theorem upE_mem {l : List Ed} {e : Ed} : ∀ {i : Nat}, e ∈ upE l i → e ∈ l ∧ 0 ≤ e.1 ∧ e.1 < i
 | 0, h => by simp [upE] at h
 | i + 1, h => by
  rw [upE_succ, List.mem_append] at h
  rcases h with h | h
  ·have := upE_mem h; exact ⟨this.1, this.2.1, by omega⟩
  ·simp only [outE, List.mem_filter, beq_iff_eq] at h
   exact ⟨h.1, by omega, by omega⟩
theorem stB_at (n : Nat) (l : List Ed) {i : Nat} (h : i ≤ n) : (buildF n l).st.getD i 0 = ((upE l i).length : Int) := by
 simp only [buildF, List.getD_eq_getElem?_getD, List.getElem?_map]
 rw [List.getElem?_range (by omega)]; rfl
theorem upE_pre (l : List Ed) (i : Nat) : ∀ m, ∃ X, upE l (i + m) = upE l i ++ X
 | 0 => ⟨[], by simp⟩
 | m + 1 => by
  obtain ⟨X, h⟩ := upE_pre l i m
  exact ⟨X ++ outE l (i + m), by rw [← Nat.add_assoc, upE_succ, h, List.append_assoc]⟩
theorem egB_at (n : Nat) (l : List Ed) {i j : Nat} (hi : i < n) (hj : j < (outE l i).length) : egG (buildF n l) i ((upE l i).length + j) = (outE l i).getD j (0, 0, 0) := by
 obtain ⟨X, hX⟩ := upE_pre l (i + 1) (n - (i + 1))
 rw [show i + 1 + (n - (i + 1)) = n by omega, upE_succ, List.append_assoc] at hX
 have hg : (upE l n)[(upE l i).length + j]? = some ((outE l i).getD j (0, 0, 0)) := by
  rw [hX, List.getElem?_append_right (by omega), Nat.add_sub_cancel_left, List.getElem?_append_left hj, List.getD_eq_getElem?_getD, List.getElem?_eq_getElem hj]; rfl
 have hm : (outE l i).getD j (0, 0, 0) ∈ outE l i := by
  rw [List.getD_eq_getElem?_getD, List.getElem?_eq_getElem hj]; exact List.getElem_mem hj
 have hm2 : ((outE l i).getD j (0, 0, 0)).1 = (i : Int) := by
  have := List.mem_filter.1 hm
  exact beq_iff_eq.1 this.2
 generalize (outE l i).getD j (0, 0, 0) = x at hg hm2 ⊢
 simp only [egG, buildF, List.getD_eq_getElem?_getD, List.getElem?_map, hg, Option.map_some, Option.getD_some]
 rw [← hm2]
theorem rowG_build (n : Nat) (l : List Ed) {i : Nat} (hi : i < n) : rowG (buildF n l) i = outE l i := by
 have h1 := stB_at n l (i := i) (by omega)
 have h2 := stB_at n l (i := i + 1) (by omega)
 have h3 : (upE l (i + 1)).length = (upE l i).length + (outE l i).length := by rw [upE_succ, List.length_append]
 unfold rowG rowK
 rw [h1, h2, Int.toNat_natCast, Int.toNat_natCast, h3, Nat.add_sub_cancel_left]
 refine List.ext_getElem? fun j => ?_
 rw [List.getElem?_map]
 rcases Nat.lt_or_ge j (outE l i).length with h | h
 ·rw [List.getElem?_range' (by omega), Option.map_some, Nat.one_mul, egB_at n l hi h, List.getElem?_eq_getElem h, List.getD_eq_getElem?_getD, List.getElem?_eq_getElem h]; rfl
 ·rw [List.getElem?_eq_none (by simpa using h), List.getElem?_eq_none h]; rfl
theorem buildF_gr {n : Nat} {l : List Ed} (h : EdOk n l) : Gr (buildF n l) := by
 have hl : (buildF n l).st.length = n + 1 := by simp [buildF]
 refine ⟨by omega, ?_, ?_, by simp [buildF], ?_, ?_⟩
 ·rw [stB_at n l (Nat.zero_le _)]; rfl
 ·rw [hl, Nat.add_sub_cancel, stB_at n l (Nat.le_refl _)]; simp [buildF]
 ·intro i hi
  rw [hl] at hi
  rw [stB_at n l (by omega), stB_at n l (by omega), upE_succ, List.length_append]; omega
 ·intro i hi
  rw [hl, Nat.add_sub_cancel]
  have hi' : i < (upE l n).length := by simpa [buildF] using hi
  have hm := List.getElem_mem hi'
  have := h _ (upE_mem hm).1
  simp only [buildF, List.getD_eq_getElem?_getD, List.getElem?_map, List.getElem?_eq_getElem hi', Option.map_some, Option.getD_some]
  omega
theorem nodesG_build {n : Nat} {l : List Ed} (h : EdOk n l) : nodesG (buildF n l) = n := by
 unfold nodesG
 rw [rightG_iff.2 (buildF_gr h)]
 simp [buildF]
end Go.Proofs.YtomcmfbpmkklmaaGreat
