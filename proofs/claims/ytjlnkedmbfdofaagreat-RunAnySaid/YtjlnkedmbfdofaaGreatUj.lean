/- Fixed calls, reckoned out. No condition. -/
import Derived.Test.YtjlnkedmbfdofaaGreatUa
namespace Go.Proofs.YtjlnkedmbfdofaaGreat
set_option linter.unusedSimpArgs false
set_option linter.unusedVariables false
set_option maxRecDepth 20000
open Go Go.Proofs Go.Vc
theorem Znt:Pure Tryz.prog 18 [Zld] (ZmA):=
 Fun.reckonT T uow y'X y'z (by kernel_rfl) (args:=[Zea]) (g:=ZeL) 20000 (by kernel_rfl) (by kernel_rfl) rfl rfl
theorem ZoG:Pure Tryz.prog 47 [Zer,iD 2,iD 1,iD 2] (ZnE):=
 Fun.reckonT T uow y'X y'z (by kernel_rfl) (args:=[v'6,.int .i64 2,.int .i64 1,.int .i64 2]) (g:=Zlp) 20000 (by kernel_rfl) (by kernel_rfl) rfl rfl
end Go.Proofs.YtjlnkedmbfdofaaGreat
