/- Fixed calls, reckoned out. No condition. -/
import Derived.Test.YtjlnkedmbfdofaaGreatUa
namespace Go.Proofs.YtjlnkedmbfdofaaGreat
set_option linter.unusedSimpArgs false
set_option linter.unusedVariables false
set_option maxRecDepth 20000
open Go Go.Proofs Go.Vc
theorem u_7:Pure Tryz.prog 14 [Zer,iD 2,ZfA] (ZnA):=
 Fun.reckonT T uow y'X y'z (by kernel_rfl) (args:=[v'6,.int .i64 2,ZaX]) (g:=Zll) 20000 (by kernel_rfl) (by kernel_rfl) rfl rfl
theorem u_8:Pure Tryz.prog 15 [sD ⟨#[115,99,32,49,32,119,101,97,107,32,57]⟩] (Zii):=
 Fun.reckonT T uow y'X y'z (by kernel_rfl) (args:=[.str [115,99,32,49,32,119,101,97,107,32,57]]) (g:=ZnK) 20000 (by kernel_rfl) (by kernel_rfl) rfl rfl
theorem u_9:Pure Tryz.prog 17 [sD ⟨#[120]⟩] (Zk9):=
 Fun.reckonT T uow y'X y'z (by kernel_rfl) (args:=[.str [120]]) (g:=ZnL) 20000 (by kernel_rfl) (by kernel_rfl) rfl rfl
theorem ZoB:Pure Tryz.prog 17 [Zij] (Zla):=
 Fun.reckonT T uow y'X y'z (by kernel_rfl) (args:=[Zlm]) (g:=ZnM) 20000 (by kernel_rfl) (by kernel_rfl) rfl rfl
theorem ZoC:Pure Tryz.prog 18 [ZnB] (Zlb):=
 Fun.reckonT T uow y'X y'z (by kernel_rfl) (args:=[ZnN]) (g:=ZnO) 20000 (by kernel_rfl) (by kernel_rfl) rfl rfl
theorem ZoD:Pure Tryz.prog 15 [sD ⟨#[120]⟩] (Zlc):=
 Fun.reckonT T uow y'X y'z (by kernel_rfl) (args:=[.str [120]]) (g:=ZnP) 20000 (by kernel_rfl) (by kernel_rfl) rfl rfl
theorem ZoE:Pure Tryz.prog 15 [sD ⟨#[116,115,111,32,49,32,119,101,97,107,32,50]⟩] (ZnC):=
 Fun.reckonT T uow y'X y'z (by kernel_rfl) (args:=[.str [116,115,111,32,49,32,119,101,97,107,32,50]]) (g:=Zln) 20000 (by kernel_rfl) (by kernel_rfl) rfl rfl
end Go.Proofs.YtjlnkedmbfdofaaGreat
