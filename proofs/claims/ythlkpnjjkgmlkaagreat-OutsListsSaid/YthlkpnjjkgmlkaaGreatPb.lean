/- Fixed calls, reckoned out. No condition. -/
import Derived.Test.YthlkpnjjkgmlkaaGreatWj
namespace Go.Proofs.YthlkpnjjkgmlkaaGreat
set_option linter.unusedSimpArgs false
set_option linter.unusedVariables false
set_option maxRecDepth 20000
open Go Go.Proofs Go.Vc
theorem p_0:Pure Tryz.prog 89 [Zux] (Zh4):=
 Fun.reckonF T pwF Zo7 (by kernel_rfl) (args:=[ZuA]) (g:=Ztr) 20000 (by kernel_rfl) (by kernel_rfl) rfl rfl
end Go.Proofs.YthlkpnjjkgmlkaaGreat
