/- A region that draws: a move that waits for nothing that binds is carried out first. No condition. -/
import Derived.Test.YtjlnkedmbfdofaaGreatWb
import Derived.Test.YtjlnkedmbfdofaaGreatFq
namespace Go.Proofs.YtjlnkedmbfdofaaGreat
set_option linter.unusedSimpArgs false
set_option linter.unusedVariables false
open Go Go.Proofs Go.Vc
section
variable {P : Program} (T : Tab P) {ops : Array Oper} {st i m : Nat} {o : Oper} {l : List Oper} {H H1 : Heap} {Φ : D → Heap → Prop} {E : Nat → D} {r rA : Nat → D} {d d0 : D} {K : (Nat → D) → (Nat → D) → Prop}
theorem Zme (h:opC T o (evD E) H Φ):OpS P o (evD E) H Φ:=by
 obtain⟨Ψ,h1,h2⟩:=x'L T h
 exact h1.mono h2
theorem NW.nil {R:Nat→Oper→(Nat→D)→D→Prop} (h:K E r):NW R K 0 i l E r:=h
end
end Go.Proofs.YtjlnkedmbfdofaaGreat
