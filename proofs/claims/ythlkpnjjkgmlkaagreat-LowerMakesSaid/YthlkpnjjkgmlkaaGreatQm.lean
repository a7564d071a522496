/- Fixed calls, reckoned out. No condition. -/
import Derived.Test.YthlkpnjjkgmlkaaGreatQk
namespace Go.Proofs.YthlkpnjjkgmlkaaGreat
set_option linter.unusedSimpArgs false
set_option linter.unusedVariables false
set_option maxRecDepth 20000
open Go Go.Proofs Go.Vc
theorem Zt9:Pure Tryz.prog 53 [Zts] (Zqz):=
 Fun.reckonF T Zte ZlS (by kernel_rfl) (args:=[Ztx]) (g:=Zty) 20000 (by kernel_rfl) (by kernel_rfl) rfl rfl
end Go.Proofs.YthlkpnjjkgmlkaaGreat
