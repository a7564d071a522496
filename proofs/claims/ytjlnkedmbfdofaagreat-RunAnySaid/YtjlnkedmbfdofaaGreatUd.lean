/- Fixed calls, reckoned out. No condition. -/
import Derived.Test.YtjlnkedmbfdofaaGreatUa
namespace Go.Proofs.YtjlnkedmbfdofaaGreat
set_option linter.unusedSimpArgs false
set_option linter.unusedVariables false
set_option maxRecDepth 20000
open Go Go.Proofs Go.Vc
theorem u_2:Pure Tryz.prog 18 [Zkc] (ZmA):=
 Fun.reckonT T uow y'X y'z (by kernel_rfl) (args:=[ZdA]) (g:=ZeL) 20000 (by kernel_rfl) (by kernel_rfl) rfl rfl
end Go.Proofs.YtjlnkedmbfdofaaGreat
