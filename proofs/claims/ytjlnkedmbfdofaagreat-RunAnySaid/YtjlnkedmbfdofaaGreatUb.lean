/- Fixed calls, reckoned out. No condition. -/
import Derived.Test.YtjlnkedmbfdofaaGreatUa
namespace Go.Proofs.YtjlnkedmbfdofaaGreat
set_option linter.unusedSimpArgs false
set_option linter.unusedVariables false
set_option maxRecDepth 20000
open Go Go.Proofs Go.Vc
theorem u_0:Pure Tryz.prog 15 [sD ⟨#[116,115,111,32,49,32,119,101,97,107,32,57]⟩] (Zoj):=
 Fun.reckonT T uow y'X y'z (by kernel_rfl) (args:=[.str [116,115,111,32,49,32,119,101,97,107,32,57]]) (g:=ZmM) 20000 (by kernel_rfl) (by kernel_rfl) rfl rfl
end Go.Proofs.YtjlnkedmbfdofaaGreat
