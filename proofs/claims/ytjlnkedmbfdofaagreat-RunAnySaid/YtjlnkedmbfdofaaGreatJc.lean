/- What becomes of the programs of law27. No condition. -/
import Derived.Test.YtjlnkedmbfdofaaGreatJb
import Derived.Test.YtjlnkedmbfdofaaGreatUb
import Derived.Test.YtjlnkedmbfdofaaGreatUc
import Derived.Test.YtjlnkedmbfdofaaGreatUd
import Derived.Test.YtjlnkedmbfdofaaGreatUe
import Derived.Test.YtjlnkedmbfdofaaGreatUf
import Derived.Test.YtjlnkedmbfdofaaGreatUg
import Derived.Test.YtjlnkedmbfdofaaGreatUh
import Derived.Test.YtjlnkedmbfdofaaGreatUi
import Derived.Test.YtjlnkedmbfdofaaGreatUj
namespace Go.Proofs.YtjlnkedmbfdofaaGreat
set_option linter.unusedSimpArgs false
set_option linter.unusedVariables false
set_option maxRecDepth 20000
open Go Go.Proofs Go.Vc
noncomputable def ZlD:List (Nat×List Vc.G×Vc.G):=[
 (18,[ZdA],ZeL),
 (47,[v'6,.int .i64 2,.int .i64 1,.int .i64 9],ZmO),
 (48,[v'6,ZiF,.int .i64 2,.int .i64 1,.int .i64 1],.tup [.int .i64 1,.nils,.nils]),
 (49,[ZdA,v'6,ZiF],ZmP),
 (18,[Zea],ZeL),
 (47,[v'6,.int .i64 2,.int .i64 1,.int .i64 2],Zlp)]
theorem Zh3:TabOk Tryz.prog (Zb8 ZlD):=Zap _ fun e he=>by
 simp only[ZlD,z'p,z'I,or_false]at he
 rcases he with rfl|rfl|rfl|rfl|rfl|rfl
 ·exact⟨rfl,fun σ=>u_2⟩
 ·exact⟨rfl,fun σ=>u_3⟩
 ·exact⟨rfl,fun σ=>u_4⟩
 ·exact⟨rfl,fun σ=>u_5⟩
 ·exact⟨rfl,fun σ=>Znt⟩
 ·exact⟨rfl,fun σ=>ZoG⟩
theorem ZnG:Vc.Pure Tryz.prog 19 [Zkc,iD 2,iD 1,iD 1,iD 9] (.tup [Zkd,iD 0,iD 0]):=
 Fun.reckonD T uow Zh3 y'z (by kernel_rfl) (args:=[ZdA,.int .i64 2,.int .i64 1,.int .i64 1,.int .i64 9]) (g:= .tup [ZeM,.int .i64 0,.int .i64 0]) 20000 (by kernel_rfl) (by kernel_rfl) rfl rfl
theorem ZnH:Vc.Pure Tryz.prog 19 [Zld,iD 2,iD 1,iD 1,iD 2] (.tup [.agg [iD 0,.gs none 0,.gs none 0,.gs none 0,iD 0,iD 0],iD 18,iD 0]):=
 Fun.reckonD T uow Zh3 y'z (by kernel_rfl) (args:=[Zea,.int .i64 2,.int .i64 1,.int .i64 1,.int .i64 2]) (g:= .tup [.agg [.int .i64 0,.nils,.nils,.nils,.int .i64 0,.int .i64 0],.int .i64 18,.int .i64 0]) 20000 (by kernel_rfl) (by kernel_rfl) rfl rfl
end Go.Proofs.YtjlnkedmbfdofaaGreat
