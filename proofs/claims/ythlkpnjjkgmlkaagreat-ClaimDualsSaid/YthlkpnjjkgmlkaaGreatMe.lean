/- Fixed calls, reckoned out. No condition. -/
import Derived.Test.YthlkpnjjkgmlkaaGreatMa
namespace Go.Proofs.YthlkpnjjkgmlkaaGreat
set_option linter.unusedSimpArgs false
set_option linter.unusedVariables false
set_option maxRecDepth 20000
open Go Go.Proofs Go.Vc
theorem m_3:Pure Tryz.prog 23 [Zqo,Zhp,ZkQ] (d_m7):=
 Fun.reckonF T mow ZaH (by kernel_rfl) (args:=[ZqU,ZhB,Zlv]) (g:=ZvB) 20000 (by kernel_rfl) (by kernel_rfl) rfl rfl
end Go.Proofs.YthlkpnjjkgmlkaaGreat
