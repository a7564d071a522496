/- Fixed calls, reckoned out. No condition. -/
import Derived.Test.YtjlnkedmbfdofaaGreatUa
namespace Go.Proofs.YtjlnkedmbfdofaaGreat
set_option linter.unusedSimpArgs false
set_option linter.unusedVariables false
set_option maxRecDepth 20000
open Go Go.Proofs Go.Vc
theorem u_5:Pure Tryz.prog 49 [Zkc,Zer,ZmB] (Zom):=
 Fun.reckonT T uow y'X y'z (by kernel_rfl) (args:=[ZdA,v'6,ZiF]) (g:=ZmP) 20000 (by kernel_rfl) (by kernel_rfl) rfl rfl
theorem u_6:Pure Tryz.prog 11 [Zer,iD 2,Zkd] (ZfA):=
 Fun.reckonT T uow y'X y'z (by kernel_rfl) (args:=[v'6,.int .i64 2,ZeM]) (g:=ZaX) 20000 (by kernel_rfl) (by kernel_rfl) rfl rfl
end Go.Proofs.YtjlnkedmbfdofaaGreat
