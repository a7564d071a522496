/- Copies, as the reference makes them. No condition. -/
import Derived.Test.YtfifcjgcajpnoaaYf
namespace Go.Proofs.Ytfifcjgcajpnoaa
set_option linter.unusedSimpArgs false
set_option linter.unusedVariables false
set_option maxRecDepth 20000
open Go Go.Proofs Go.Vc

theorem nodup_app {H X : Heap} (h : (H ++ X).blocks.Nodup) : ∀ b, b ∈ H.blocks → b ∉ X.blocks := by
  simp only [Heap.blocks, List.map_append] at h
  obtain ⟨_, _, h3⟩ := List.nodup_append.1 h
  exact fun b hp hr => h3 b hp b hr rfl
theorem FzL.length {H : Heap} : ∀ {l' l : List D}, FzL H l' l → l'.length = l.length
  | [], _, h => by cases h; rfl
  | _ :: _, _, h => by
    obtain ⟨d, ds, rfl, _, h2⟩ := h
    rw [List.length_cons, List.length_cons, FzL.length h2]
theorem FzL.append {H : Heap} : ∀ {l' l m' m : List D}, FzL H l' l → FzL H m' m → FzL H (l' ++ m') (l ++ m)
  | [], _, _, _, h, h2 => by cases h; exact h2
  | _ :: _, _, _, _, h, h2 => by
    obtain ⟨d, ds, rfl, q1, q2⟩ := h
    exact ⟨d, ds ++ _, rfl, q1, FzL.append q2 h2⟩
theorem shp_some {b cap : Nat} {e : TypeId} {esz : Nat} {l : List D} {X : Heap} : shp (some (b, cap)) e esz l X = (b, .cells e (cap * esz) l) :: X := rfl

end Go.Proofs.Ytfifcjgcajpnoaa
