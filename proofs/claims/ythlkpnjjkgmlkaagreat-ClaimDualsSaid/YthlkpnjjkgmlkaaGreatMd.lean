/- Fixed calls, reckoned out. No condition. -/
import Derived.Test.YthlkpnjjkgmlkaaGreatMa
namespace Go.Proofs.YthlkpnjjkgmlkaaGreat
set_option linter.unusedSimpArgs false
set_option linter.unusedVariables false
set_option maxRecDepth 20000
open Go Go.Proofs Go.Vc
theorem m_2:Pure Tryz.prog 48 [Zhp,iD 1,iD 1,iD 9] (d_m5):=
 Fun.reckonF T mow ZaH (by kernel_rfl) (args:=[ZhB,.int .i64 1,.int .i64 1,.int .i64 9]) (g:=ZvA) 20000 (by kernel_rfl) (by kernel_rfl) rfl rfl
end Go.Proofs.YthlkpnjjkgmlkaaGreat
