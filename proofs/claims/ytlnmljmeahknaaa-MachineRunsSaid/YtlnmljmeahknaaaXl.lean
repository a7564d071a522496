/- Own cells of which less is said; code's value. No condition. -/
import Derived.Test.YtlnmljmeahknaaaXe
namespace Go.Proofs.Ytlnmljmeahknaaa
set_option linter.unusedSimpArgs false
set_option linter.unusedVariables false
set_option maxRecDepth 20000
open Go Go.Proofs Go.Vc

theorem HRel.cut {w : World} {L : Nat → Prop} {b n k : Nat} {ty : TypeId} {l : List D} (h : HRel w L b (.cells ty n l)) : HRel w L b (.cells ty n (l.take k)) := by
  obtain ⟨h1, arr, h2, h3, h4⟩ := h
  refine ⟨all_take h1 k, arr, h2, h3, ?_⟩
  have := RelL.take k _ _ h4
  rw [List.take_take] at this
  rwa [List.length_take]
/-- The first cells of an own slice are all that is said of it from now on. -/
theorem Weak.cut {env : Nat → D} {g : Option (Nat × Nat)} {e : TypeId} {esz k : Nat} {l : List D} {X : Heap} : Weak ⟨env, shp g e esz l X⟩ ⟨env, shp g e esz (l.take k) X⟩ := fun x a w h => by
  cases g with
  | none => exact h
  | some p =>
    obtain ⟨b, cap⟩ := p
    have hbl : (shp (some (b, cap)) e esz (l.take k) X).blocks = (shp (some (b, cap)) e esz l X).blocks := rfl
    have hlv : live (shp (some (b, cap)) e esz (l.take k) X) x.L0 = live (shp (some (b, cap)) e esz l X) x.L0 := by
      funext b'
      simp only [live, hbl]
    refine { env := fun t => by rw [hlv]; exact h.env t, inv := ?_, evo := ?_, defers := h.defers, size := h.size }
    · refine { rel := fun b' c hm => ?_, nodup := by rw [hbl]; exact h.inv.nodup, apart := fun b' hb => h.inv.apart b' (by rw [← hbl]; exact hb), old := h.inv.old }
      rw [hlv]
      rcases List.mem_cons.1 hm with hm | hm
      · cases hm
        exact HRel.cut (h.inv.rel b _ (List.mem_cons_self ..))
      · exact h.inv.rel b' c (List.mem_cons_of_mem _ hm)
    · exact ⟨h.evo.os, h.evo.tape, h.evo.output, h.evo.size, h.evo.block, fun b' hb => h.evo.fresh b' (by rw [← hbl]; exact hb)⟩
end Go.Proofs.Ytlnmljmeahknaaa
