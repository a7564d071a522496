/- Fixed calls, reckoned out. No condition. -/
import Derived.Test.YtjlnkedmbfdofaaGreatUa
namespace Go.Proofs.YtjlnkedmbfdofaaGreat
set_option linter.unusedSimpArgs false
set_option linter.unusedVariables false
set_option maxRecDepth 20000
open Go Go.Proofs Go.Vc
theorem u_4:Pure Tryz.prog 48 [Zer,ZmB,iD 2,iD 1,iD 1] (.tup [iD 1,.gs none 0,.gs none 0]):=
 Fun.reckonT T uow y'X y'z (by kernel_rfl) (args:=[v'6,ZiF,.int .i64 2,.int .i64 1,.int .i64 1]) (g:= .tup [.int .i64 1,.nils,.nils]) 20000 (by kernel_rfl) (by kernel_rfl) rfl rfl
end Go.Proofs.YtjlnkedmbfdofaaGreat
