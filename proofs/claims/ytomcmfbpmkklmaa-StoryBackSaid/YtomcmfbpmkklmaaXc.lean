/- Contracts: the reference's pop. No condition. -/
import Derived.Test.YtomcmfbpmkklmaaXa
namespace Go.Proofs.Ytomcmfbpmkklmaa
set_option linter.unusedSimpArgs false
set_option linter.unusedVariables false
set_option maxRecDepth 20000
open Go Go.Proofs Go.Vc
mutual
theorem Fz.more {H H' : Heap} (hs : ∀ x, x ∈ H → x ∈ H') : ∀ (d' d : D), Fz H d' d → Fz H' d' d
 | .sl full esz rows, d, h => by
  rcases h with h | ⟨h1, h | h | ⟨b, o, n, cap, h2, h3, e, k, l, h4, h5⟩⟩
  ·exact .inl h
  ·exact .inr ⟨h1, .inl h⟩
  ·exact .inr ⟨h1, .inr (.inl h)⟩
  ·exact .inr ⟨h1, .inr (.inr ⟨b, o, n, cap, h2, h3, e, k, l, hs _ h4, FzR.more hs esz rows _ h5⟩)⟩
 | .pt row, d, h => by
  rcases h with h | ⟨b, o, e, k, l, h1, h2, h3⟩
  ·exact .inl h
  ·exact .inr ⟨b, o, e, k, l, h1, hs _ h2, FzC.more hs row _ h3⟩
 | .agg l', d, h => by
  obtain ⟨l, h1, h2⟩ := h
  exact ⟨l, h1, FzL.more hs l' l h2⟩
 | .tup l', d, h => by
  obtain ⟨l, h1, h2⟩ := h
  exact ⟨l, h1, FzL.more hs l' l h2⟩
 | .ifc t x', d, h => by
  obtain ⟨x, h1, h2⟩ := h
  exact ⟨x, h1, Fz.more hs x' x h2⟩
 | .is _, d, h => h
 | .gs _ _, d, h => h
 | .os _ _ _ _, d, h => h
 | .any, d, h => h
theorem FzL.more {H H' : Heap} (hs : ∀ x, x ∈ H → x ∈ H') : ∀ (l' l : List D), FzL H l' l → FzL H' l' l
 | [], l, h => h
 | d' :: ds', l, h => by
  obtain ⟨d, ds, h1, h2, h3⟩ := h
  exact ⟨d, ds, h1, Fz.more hs d' d h2, FzL.more hs ds' ds h3⟩
theorem FzC.more {H H' : Heap} (hs : ∀ x, x ∈ H → x ∈ H') : ∀ (l' l : List D), FzC H l' l → FzC H' l' l
 | [], l, h => trivial
 | d' :: ds', l, h => by
  obtain ⟨d, ds, h1, h2, h3⟩ := h
  exact ⟨d, ds, h1, Fz.more hs d' d h2, FzC.more hs ds' ds h3⟩
theorem FzR.more {H H' : Heap} (hs : ∀ x, x ∈ H → x ∈ H') (esz : Nat) : ∀ (rows : List (List D)) (l : List D), FzR H esz rows l → FzR H' esz rows l
 | [], l, h => trivial
 | r :: rs, l, h => ⟨h.1, FzC.more hs r l h.2.1, FzR.more hs esz rs _ h.2.2⟩
end
end Go.Proofs.Ytomcmfbpmkklmaa
