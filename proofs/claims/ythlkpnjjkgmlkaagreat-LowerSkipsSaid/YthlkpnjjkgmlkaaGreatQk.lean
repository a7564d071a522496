/- Data of fixed calls. No condition. -/
import Derived.Test.YthlkpnjjkgmlkaaGreatEh
import Derived.Test.YthlkpnjjkgmlkaaGreatWa
namespace Go.Proofs.YthlkpnjjkgmlkaaGreat
set_option linter.unusedSimpArgs false
set_option linter.unusedVariables false
set_option maxRecDepth 20000
open Go Go.Proofs Go.Vc
attribute [local irreducible] x'r VCg VCw VCx
theorem ZlS:NamesOk Tryz.prog:=NamesOk.of (by kernel_rfl)
noncomputable def Zte (f:Nat) (g:Vc.G):Bool:=Zfc f []||(ZtX g&& !Zfc f [187,275,247])
def Ztv:Vc.G:= .str [109,111,100,32,52,59,32,108,111,99,32,120,32,61,32,49,59,32,116,104,114,101,97,100,32,116,32,123,32,114,101,103,32,97,59,32,119,104,105,108,101,32,97,32,33,61,32,48,32,123,32,108,111,97,100,32,97,32,61,32,120,59,32,98,114,101,97,107,59,32,125,32,105,102,32,97,32,123,32,115,107,105,112,59,32,125,32,101,108,115,101,32,123,32,102,101,110,99,101,59,32,125,32,125]
abbrev Ztr:D:=sD ⟨#[109,111,100,32,52,59,32,108,111,99,32,120,32,61,32,49,59,32,116,104,114,101,97,100,32,116,32,123,32,114,101,103,32,97,59,32,119,104,105,108,101,32,97,32,33,61,32,48,32,123,32,108,111,97,100,32,97,32,61,32,120,59,32,98,114,101,97,107,59,32,125,32,105,102,32,97,32,123,32,115,107,105,112,59,32,125,32,101,108,115,101,32,123,32,102,101,110,99,101,59,32,125,32,125]⟩
def Ztw:Vc.G:= .agg [.int .i64 4,.sl false 3 [[.str [120],.int .i64 1,.int .i64 7]],.sl false 4 [[.str [116],.sl false 1 [[.str [97]]],.sl false 9 [[.int .i64 11,.str [],.str [],.sl false 5 [[.int .i64 10,.int .i64 0,.str [],.str [],.int .i64 44],[.int .i64 2,.int .i64 0,.str [97],.str [],.int .i64 42],[.int .i64 1,.int .i64 0,.str [],.str [],.int .i64 47]],.nils,.bool false,.int .i64 2,.int .i64 0,.int .i64 36],[.int .i64 3,.str [97],.str [120],.nils,.nils,.bool false,.int .i64 0,.int .i64 0,.int .i64 51],[.int .i64 13,.str [],.str [],.nils,.nils,.bool false,.int .i64 0,.int .i64 0,.int .i64 63],[.int .i64 10,.str [],.str [],.sl true 5 [[.int .i64 2,.int .i64 0,.str [97],.str [],.int .i64 75]],.nils,.bool false,.int .i64 1,.int .i64 1,.int .i64 72],[.int .i64 1,.str [],.str [],.nils,.nils,.bool false,.int .i64 0,.int .i64 0,.int .i64 79],[.int .i64 8,.str [],.str [],.nils,.nils,.bool false,.int .i64 0,.int .i64 0,.int .i64 94]],.int .i64 18]],.nils]
abbrev Zqy:D:= .agg [iD 4,.sl false 3 [[sD ⟨#[120]⟩,iD 1,iD 7]],.sl false 4 [[sD ⟨#[116]⟩,.sl false 1 [[sD ⟨#[97]⟩]],.sl false 9 [[iD 11,sD ⟨#[]⟩,sD ⟨#[]⟩,.sl false 5 [[iD 10,iD 0,sD ⟨#[]⟩,sD ⟨#[]⟩,iD 44],[iD 2,iD 0,sD ⟨#[97]⟩,sD ⟨#[]⟩,iD 42],[iD 1,iD 0,sD ⟨#[]⟩,sD ⟨#[]⟩,iD 47]],.gs none 0,bD false,iD 2,iD 0,iD 36],[iD 3,sD ⟨#[97]⟩,sD ⟨#[120]⟩,.gs none 0,.gs none 0,bD false,iD 0,iD 0,iD 51],[iD 13,sD ⟨#[]⟩,sD ⟨#[]⟩,.gs none 0,.gs none 0,bD false,iD 0,iD 0,iD 63],[iD 10,sD ⟨#[]⟩,sD ⟨#[]⟩,.sl true 5 [[iD 2,iD 0,sD ⟨#[97]⟩,sD ⟨#[]⟩,iD 75]],.gs none 0,bD false,iD 1,iD 1,iD 72],[iD 1,sD ⟨#[]⟩,sD ⟨#[]⟩,.gs none 0,.gs none 0,bD false,iD 0,iD 0,iD 79],[iD 8,sD ⟨#[]⟩,sD ⟨#[]⟩,.gs none 0,.gs none 0,bD false,iD 0,iD 0,iD 94]],iD 18]],.gs none 0]
def Ztx:Vc.G:= .str [109,111,100,32,49,59,32,116,104,114,101,97,100,32,116,32,123,32,125]
abbrev Zts:D:=sD ⟨#[109,111,100,32,49,59,32,116,104,114,101,97,100,32,116,32,123,32,125]⟩
def Zty:Vc.G:= .agg [.int .i64 1,.nils,.sl false 4 [[.str [116],.nils,.nils,.int .i64 7]],.nils]
abbrev Zqz:D:= .agg [iD 1,.gs none 0,.sl false 4 [[sD ⟨#[116]⟩,.gs none 0,.gs none 0,iD 7]],.gs none 0]
end Go.Proofs.YthlkpnjjkgmlkaaGreat
