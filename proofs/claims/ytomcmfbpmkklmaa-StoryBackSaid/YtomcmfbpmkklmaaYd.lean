/- Contracts: code's value, as the reference says. No condition. -/
import Derived.Test.YtomcmfbpmkklmaaYc
import Derived.Test.YtomcmfbpmkklmaaXk
import Derived.Test.YtomcmfbpmkklmaaK2
namespace Go.Proofs.Ytomcmfbpmkklmaa
set_option linter.unusedSimpArgs false
set_option linter.unusedVariables false
set_option maxRecDepth 20000
open Go Go.Proofs Go.Vc
theorem Weak.cutC {env : Nat → D} {b n : Nat} {e : TypeId} {k : Nat} {l : List Int} {X : Heap} : Weak ⟨env, (b, .cells e n (l.map iD)) :: X⟩ ⟨env, (b, .cells e n ((l.take k).map iD)) :: X⟩ := fun x a w h => by
 have hlv : live ((b, HC.cells e n ((l.take k).map iD)) :: X) x.L0 = live ((b, HC.cells e n (l.map iD)) :: X) x.L0 := rfl
 refine { env := fun t => by rw [hlv]; exact h.env t, inv := ?_, evo := ?_, defers := h.defers, size := h.size }
 ·refine { rel := fun b' c hm => ?_, nodup := h.inv.nodup, apart := h.inv.apart, old := h.inv.old }
  rw [hlv]
  rcases List.mem_cons.1 hm with hm | hm
  ·cases hm
   rw [List.map_take]
   exact HRel.cut (h.inv.rel b _ (List.mem_cons_self ..))
  ·exact h.inv.rel b' c (List.mem_cons_of_mem _ hm)
 ·exact ⟨h.evo.os, h.evo.tape, h.evo.output, h.evo.size, h.evo.block, h.evo.fresh⟩
def valD2 (l : List Opc) (md : Int) (own : List Int) (all : List (List Int)) (mem : List Int) : D := .tup [iD (valF l md own all mem), bD (valB l md own all mem)]
theorem val_no {l : List Opc} {md : Int} {own mem : List Int} {all : List (List Int)} (h : valB l md own all mem = false) : valD2 l md own all mem = .tup [iD 0, bD false] := by simp [valD2, valF, h]
structure OkV (l : List Opc) (own : List Int) (all : List (List Int)) (mem : List Int) : Prop where
 kl : l.length ≤ 1000
 ko : own.length ≤ 1000
 km : mem.length ≤ 1000
 ka : all.length ≤ 1000
 kr : ∀ r, r ∈ all → r.length ≤ 1000
theorem lensI_take {all : List (List Int)} {k : Nat} {r : List Int} (h : all[k]? = some r) : (lensI (all.take (k + 1))).map iD = (lensI (all.take k)).map iD ++ [iD (r.length : Nat)] := by
 rw [List.take_add_one, h]
 simp [lensI]
theorem lensI_len (all : List (List Int)) : (lensI all).length = all.length := List.length_map ..
end Go.Proofs.Ytomcmfbpmkklmaa
