/- A table of calls at fixed data. No condition. -/
import Derived.Test.YtjlnkedmbfdofaaGreatCm
import Derived.Test.YtjlnkedmbfdofaaGreatCa
import Derived.Test.YtjlnkedmbfdofaaGreatWj
import Derived.Test.YtjlnkedmbfdofaaGreatEh
namespace Go.Proofs.YtjlnkedmbfdofaaGreat
set_option linter.unusedSimpArgs false
set_option linter.unusedVariables false
set_option maxRecDepth 20000
open Go Go.Proofs Go.Vc
attribute [local irreducible] z'Z VCg VCw VCx
noncomputable def Zb8:List (Nat×List Vc.G×Vc.G)→Nat→List Vc.G→Option Vc.G
 |[],_,_=>none
 |e::r,f,a=>match Nat.beq e.1 f with
  |true=>match ZbF a e.2.1 with|true=>some e.2.2|false=>Zb8 r f a
  |false=>Zb8 r f a
theorem Zap {P:Program}: ∀(L:List (Nat×List Vc.G×Vc.G)),(∀e,e∈L→gNo e.2.2=true∧ ∀σ:Nm,Vc.Pure P e.1 (e.2.1.map (Vc.G.d σ)) (e.2.2.d σ))→TabOk P (Zb8 L)
 |[],_,f,a,g,h=>by cases h
 |e::r,hL,f,a,g,h=>by
  have ih:=Zap r (fun x hx=>hL x (z'n _ hx)) f a g
  rw[Zb8]at h
  split at h
  ·rename_i hf
   split at h
   ·rename_i ha
    cases h
    have hf:=z'd hf
    have ha:=v'z ha
    subst hf;subst ha
    obtain⟨q1,q2⟩:=hL e (z'k ..)
    exact⟨fun σ τ=>x'a q1 σ τ,q2⟩
   ·exact ih h
  ·exact ih h
theorem ZmR:ZcZ (y'u [0,0,0,0])=16574511329435702050:=by rw[ZbZ];decide
theorem ZmS:ZcZ (y'u [0,1,0,1])=11790453928327529515:=by rw[ZbZ];decide
theorem ZmT:ZcZ (y'u [0,1,1,0,1,0])=9200103703960348667:=by rw[ZbZ];decide
theorem Znw:Vc.Pure Tryz.prog 88 [iD 3,Zas [(0,0,1),(1,1,2)]] (.tup [.agg [v'7 [0,1,2,2],v'7 [0,1],v'7 [1,2]],iD 0]):=
 Ze2 3 [(0,0,1),(1,1,2)] (by decide) (by decide) (by unfold w'O;decide) (by decide)
theorem Znx:Vc.Pure Tryz.prog 88 [iD 3,.gs none 0] (.tup [.agg [v'7 [0,0,0,0],v'7 [],v'7 []],iD 0]):=
 ZjK (Ze2 3 [] (by decide) (by decide) (by unfold w'O;decide) (by decide)) (Zaj (Fz.refl _ _) (Zaj Zjl Zjk))
theorem Znz:Vc.Pure Tryz.prog 341 [buf [(0,1)],iD 0] (buf []):=Zmy [(0,1)] (by decide) 0 (by decide)
noncomputable def ZlG:List (Nat×List Vc.G×Vc.G):=[
 (199,[.str [0,0,0,0]],.int .u64 16574511329435702050),
 (199,[.str [0,1,0,1]],.int .u64 11790453928327529515),
 (199,[.str [0,1,1,0,1,0]],.int .u64 9200103703960348667),
 (341,[.sl false 2 [[.int .i64 0,.int .i64 1]],.int .i64 0],.sl false 2 []),
 (88,[.int .i64 3,.nils],.tup [.agg [.sl false 1 [[.int .i64 0],[.int .i64 0],[.int .i64 0],[.int .i64 0]],.sl false 1 [],.sl false 1 []],.int .i64 0]),
 (88,[.int .i64 3,.sl false 3 [[.int .i64 0,.int .i64 0,.int .i64 1],[.int .i64 1,.int .i64 1,.int .i64 2]]],.tup [.agg [.sl false 1 [[.int .i64 0],[.int .i64 1],[.int .i64 2],[.int .i64 2]],.sl false 1 [[.int .i64 0],[.int .i64 1]],.sl false 1 [[.int .i64 1],[.int .i64 2]]],.int .i64 0])]
noncomputable def Zoy:Nat→List Vc.G→Option Vc.G:=Zb8 ZlG
theorem y'X:TabOk Tryz.prog Zoy:=Zap _ fun e he=>by
 simp only[ZlG,z'p,z'I,or_false]at he
 rcases he with rfl|rfl|rfl|rfl|rfl|rfl
 ·exact⟨rfl,fun σ=>by have h:=ZeO (y'u [0,0,0,0]) (by decide);rw[ZmR]at h;exact h⟩
 ·exact⟨rfl,fun σ=>by have h:=ZeO (y'u [0,1,0,1]) (by decide);rw[ZmS]at h;exact h⟩
 ·exact⟨rfl,fun σ=>by have h:=ZeO (y'u [0,1,1,0,1,0]) (by decide);rw[ZmT]at h;exact h⟩
 ·exact⟨rfl,fun σ=>Znz⟩
 ·exact⟨rfl,fun σ=>Znx⟩
 ·exact⟨rfl,fun σ=>Znw⟩
theorem y'z:NamesOk Tryz.prog:=NamesOk.of (by kernel_rfl)
noncomputable def uow (f:Nat) (g:Vc.G):Bool:=match g with
 | .any=>Nat.beq f 88
 |g=>v'n f [44]||(Zoo g&& !v'n f [126])
def ZmM:Vc.G:= .tup [.agg [.int .i64 2,.int .i64 1,.int .i64 1,.int .i64 9],.int .i64 0]
abbrev Zoj:D:= .tup [.agg [iD 2,iD 1,iD 1,iD 9],iD 0]
def ZeK:Vc.G:= .str [109,111,100,32,50,59,32,108,111,99,32,120,32,61,32,48,59,32,116,104,114,101,97,100,32,116,32,123,32,115,116,111,114,101,32,120,32,61,32,49,59,32,125,32,97,108,119,97,121,115,32,120,32,61,61,32,48,59]
abbrev Zkb:D:=sD ⟨#[109,111,100,32,50,59,32,108,111,99,32,120,32,61,32,48,59,32,116,104,114,101,97,100,32,116,32,123,32,115,116,111,114,101,32,120,32,61,32,49,59,32,125,32,97,108,119,97,121,115,32,120,32,61,61,32,48,59]⟩
def ZmN:Vc.G:= .tup [.agg [.int .i64 2,.sl false 3 [[.str [120],.int .i64 0,.int .i64 7]],.sl false 4 [[.str [116],.nils,.sl false 9 [[.int .i64 4,.str [],.str [120],.sl true 5 [[.int .i64 1,.int .i64 1,.str [],.str [],.int .i64 39]],.nils,.bool false,.int .i64 0,.int .i64 0,.int .i64 29]],.int .i64 18]],.sl false 3 [[.int .i64 3,.sl false 5 [[.int .i64 9,.int .i64 0,.str [],.str [],.int .i64 53],[.int .i64 3,.int .i64 0,.str [120],.str [],.int .i64 51],[.int .i64 1,.int .i64 0,.str [],.str [],.int .i64 56]],.int .i64 44]]],.int .i64 0,.int .i64 0]
abbrev Zok:D:= .tup [.agg [iD 2,.sl false 3 [[sD ⟨#[120]⟩,iD 0,iD 7]],.sl false 4 [[sD ⟨#[116]⟩,.gs none 0,.sl false 9 [[iD 4,sD ⟨#[]⟩,sD ⟨#[120]⟩,.sl true 5 [[iD 1,iD 1,sD ⟨#[]⟩,sD ⟨#[]⟩,iD 39]],.gs none 0,bD false,iD 0,iD 0,iD 29]],iD 18]],.sl false 3 [[iD 3,.sl false 5 [[iD 9,iD 0,sD ⟨#[]⟩,sD ⟨#[]⟩,iD 53],[iD 3,iD 0,sD ⟨#[120]⟩,sD ⟨#[]⟩,iD 51],[iD 1,iD 0,sD ⟨#[]⟩,sD ⟨#[]⟩,iD 56]],iD 44]]],iD 0,iD 0]
def ZdA:Vc.G:= .agg [.int .i64 2,.sl false 3 [[.str [120],.int .i64 0,.int .i64 7]],.sl false 4 [[.str [116],.nils,.sl false 9 [[.int .i64 4,.str [],.str [120],.sl true 5 [[.int .i64 1,.int .i64 1,.str [],.str [],.int .i64 39]],.nils,.bool false,.int .i64 0,.int .i64 0,.int .i64 29]],.int .i64 18]],.sl false 3 [[.int .i64 3,.sl false 5 [[.int .i64 9,.int .i64 0,.str [],.str [],.int .i64 53],[.int .i64 3,.int .i64 0,.str [120],.str [],.int .i64 51],[.int .i64 1,.int .i64 0,.str [],.str [],.int .i64 56]],.int .i64 44]]]
abbrev Zkc:D:= .agg [iD 2,.sl false 3 [[sD ⟨#[120]⟩,iD 0,iD 7]],.sl false 4 [[sD ⟨#[116]⟩,.gs none 0,.sl false 9 [[iD 4,sD ⟨#[]⟩,sD ⟨#[120]⟩,.sl true 5 [[iD 1,iD 1,sD ⟨#[]⟩,sD ⟨#[]⟩,iD 39]],.gs none 0,bD false,iD 0,iD 0,iD 29]],iD 18]],.sl false 3 [[iD 3,.sl false 5 [[iD 9,iD 0,sD ⟨#[]⟩,sD ⟨#[]⟩,iD 53],[iD 3,iD 0,sD ⟨#[120]⟩,sD ⟨#[]⟩,iD 51],[iD 1,iD 0,sD ⟨#[]⟩,sD ⟨#[]⟩,iD 56]],iD 44]]]
def ZeL:Vc.G:= .tup [.agg [.int .i64 2,.sl false 1 [[.int .i64 0]],.sl false 1 [[.int .i64 0]],.sl false 1 [[.sl false 7 [[.int .i64 4,.int .i64 0,.int .i64 0,.sl false 3 [[.int .i64 1,.int .i64 1,.int .i64 0]],.nils,.bool false,.int .i64 0],[.int .i64 22,.int .i64 0,.int .i64 0,.nils,.nils,.bool false,.int .i64 0]]]]],.int .i64 0,.int .i64 0]
abbrev ZmA:D:= .tup [.agg [iD 2,.sl false 1 [[iD 0]],.sl false 1 [[iD 0]],.sl false 1 [[.sl false 7 [[iD 4,iD 0,iD 0,.sl false 3 [[iD 1,iD 1,iD 0]],.gs none 0,bD false,iD 0],[iD 22,iD 0,iD 0,.gs none 0,.gs none 0,bD false,iD 0]]]]],iD 0,iD 0]
def v'6:Vc.G:= .agg [.int .i64 2,.sl false 1 [[.int .i64 0]],.sl false 1 [[.int .i64 0]],.sl false 1 [[.sl false 7 [[.int .i64 4,.int .i64 0,.int .i64 0,.sl false 3 [[.int .i64 1,.int .i64 1,.int .i64 0]],.nils,.bool false,.int .i64 0],[.int .i64 22,.int .i64 0,.int .i64 0,.nils,.nils,.bool false,.int .i64 0]]]]]
abbrev Zer:D:= .agg [iD 2,.sl false 1 [[iD 0]],.sl false 1 [[iD 0]],.sl false 1 [[.sl false 7 [[iD 4,iD 0,iD 0,.sl false 3 [[iD 1,iD 1,iD 0]],.gs none 0,bD false,iD 0],[iD 22,iD 0,iD 0,.gs none 0,.gs none 0,bD false,iD 0]]]]]
def ZmO:Vc.G:= .tup [.agg [.sl false 4 [[.sl false 1 [[.int .i64 0]],.sl false 1 [[.sl false 1 []]],.sl false 1 [[.int .i64 0]],.sl false 1 [[.nils]]],[.sl false 1 [[.int .i64 1]],.sl false 1 [[.nils]],.sl false 1 [[.int .i64 0]],.sl false 1 [[.sl false 2 [[.int .i64 0,.int .i64 1]]]]],[.sl false 1 [[.int .i64 1]],.sl false 1 [[.nils]],.sl false 1 [[.int .i64 1]],.sl false 1 [[.sl false 2 []]]]],.sl false 1 [[.int .i64 0],[.int .i64 1],[.int .i64 2],[.int .i64 2]],.sl false 1 [[.int .i64 0],[.int .i64 1]],.sl false 1 [[.int .i64 1],[.int .i64 2]],.sl false 1 [[.int .i64 (-1)],[.int .i64 0],[.int .i64 1]],.sl false 1 [[.int .i64 (-1)],[.int .i64 0],[.int .i64 1]]],.int .i64 0]
abbrev Zol:D:= .tup [.agg [.sl false 4 [[.sl false 1 [[iD 0]],.sl false 1 [[.sl false 1 []]],.sl false 1 [[iD 0]],.sl false 1 [[.gs none 0]]],[.sl false 1 [[iD 1]],.sl false 1 [[.gs none 0]],.sl false 1 [[iD 0]],.sl false 1 [[.sl false 2 [[iD 0,iD 1]]]]],[.sl false 1 [[iD 1]],.sl false 1 [[.gs none 0]],.sl false 1 [[iD 1]],.sl false 1 [[.sl false 2 []]]]],.sl false 1 [[iD 0],[iD 1],[iD 2],[iD 2]],.sl false 1 [[iD 0],[iD 1]],.sl false 1 [[iD 1],[iD 2]],.sl false 1 [[iD (-1)],[iD 0],[iD 1]],.sl false 1 [[iD (-1)],[iD 0],[iD 1]]],iD 0]
def ZiF:Vc.G:= .agg [.sl false 4 [[.sl false 1 [[.int .i64 0]],.sl false 1 [[.sl false 1 []]],.sl false 1 [[.int .i64 0]],.sl false 1 [[.nils]]],[.sl false 1 [[.int .i64 1]],.sl false 1 [[.nils]],.sl false 1 [[.int .i64 0]],.sl false 1 [[.sl false 2 [[.int .i64 0,.int .i64 1]]]]],[.sl false 1 [[.int .i64 1]],.sl false 1 [[.nils]],.sl false 1 [[.int .i64 1]],.sl false 1 [[.sl false 2 []]]]],.sl false 1 [[.int .i64 0],[.int .i64 1],[.int .i64 2],[.int .i64 2]],.sl false 1 [[.int .i64 0],[.int .i64 1]],.sl false 1 [[.int .i64 1],[.int .i64 2]],.sl false 1 [[.int .i64 (-1)],[.int .i64 0],[.int .i64 1]],.sl false 1 [[.int .i64 (-1)],[.int .i64 0],[.int .i64 1]]]
abbrev ZmB:D:= .agg [.sl false 4 [[.sl false 1 [[iD 0]],.sl false 1 [[.sl false 1 []]],.sl false 1 [[iD 0]],.sl false 1 [[.gs none 0]]],[.sl false 1 [[iD 1]],.sl false 1 [[.gs none 0]],.sl false 1 [[iD 0]],.sl false 1 [[.sl false 2 [[iD 0,iD 1]]]]],[.sl false 1 [[iD 1]],.sl false 1 [[.gs none 0]],.sl false 1 [[iD 1]],.sl false 1 [[.sl false 2 []]]]],.sl false 1 [[iD 0],[iD 1],[iD 2],[iD 2]],.sl false 1 [[iD 0],[iD 1]],.sl false 1 [[iD 1],[iD 2]],.sl false 1 [[iD (-1)],[iD 0],[iD 1]],.sl false 1 [[iD (-1)],[iD 0],[iD 1]]]
def ZmP:Vc.G:= .tup [.sl false 3 [[.bool false,.bool true,.sl false 1 [[.int .i64 0],[.int .i64 1]]]],.int .i64 0]
abbrev Zom:D:= .tup [.sl false 3 [[bD false,bD true,.sl false 1 [[iD 0],[iD 1]]]],iD 0]
def ZeM:Vc.G:= .agg [.int .i64 1,.nils,.nils,.sl false 3 [[.bool false,.bool true,.sl false 1 [[.int .i64 0],[.int .i64 1]]]],.int .i64 3,.int .i64 2]
abbrev Zkd:D:= .agg [iD 1,.gs none 0,.gs none 0,.sl false 3 [[bD false,bD true,.sl false 1 [[iD 0],[iD 1]]]],iD 3,iD 2]
def ZaX:Vc.G:= .str [111,117,116,99,111,109,101,32,116,101,114,109,105,110,97,116,105,110,103,10,115,116,97,116,101,115,32,51,10,101,100,103,101,115,32,50,10,112,114,101,102,105,120,10,99,121,99,108,101,10,99,108,97,105,109,32,102,97,105,108,115,32,98,121,32,116,48,32,102,48,10]
abbrev ZfA:D:=sD ⟨#[111,117,116,99,111,109,101,32,116,101,114,109,105,110,97,116,105,110,103,10,115,116,97,116,101,115,32,51,10,101,100,103,101,115,32,50,10,112,114,101,102,105,120,10,99,121,99,108,101,10,99,108,97,105,109,32,102,97,105,108,115,32,98,121,32,116,48,32,102,48,10]⟩
def Zll:Vc.G:= .tup [.agg [.int .i64 1,.nils,.nils,.sl false 3 [[.bool false,.bool true,.sl false 1 [[.int .i64 0],[.int .i64 1]]]],.int .i64 3,.int .i64 2],.int .i64 0,.int .i64 0]
abbrev ZnA:D:= .tup [.agg [iD 1,.gs none 0,.gs none 0,.sl false 3 [[bD false,bD true,.sl false 1 [[iD 0],[iD 1]]]],iD 3,iD 2],iD 0,iD 0]
def ZnK:Vc.G:= .tup [.agg [.int .i64 1,.int .i64 1,.int .i64 1,.int .i64 9],.int .i64 0]
abbrev Zii:D:= .tup [.agg [iD 1,iD 1,iD 1,iD 9],iD 0]
def ZnL:Vc.G:= .tup [.agg [.int .i64 0,.nils,.nils,.nils],.int .i64 5,.int .i64 0]
abbrev Zk9:D:= .tup [.agg [iD 0,.gs none 0,.gs none 0,.gs none 0],iD 5,iD 0]
def Zlm:Vc.G:= .str [109,111,100,32,49,59,32,116,104,114,101,97,100,32,116,32,123,32,125]
abbrev Zij:D:=sD ⟨#[109,111,100,32,49,59,32,116,104,114,101,97,100,32,116,32,123,32,125]⟩
def ZnM:Vc.G:= .tup [.agg [.int .i64 1,.nils,.sl false 4 [[.str [116],.nils,.nils,.int .i64 7]],.nils],.int .i64 0,.int .i64 0]
abbrev Zla:D:= .tup [.agg [iD 1,.gs none 0,.sl false 4 [[sD ⟨#[116]⟩,.gs none 0,.gs none 0,iD 7]],.gs none 0],iD 0,iD 0]
def ZnN:Vc.G:= .agg [.int .i64 1,.nils,.sl false 4 [[.str [116],.nils,.nils,.int .i64 7]],.nils]
abbrev ZnB:D:= .agg [iD 1,.gs none 0,.sl false 4 [[sD ⟨#[116]⟩,.gs none 0,.gs none 0,iD 7]],.gs none 0]
def ZnO:Vc.G:= .tup [.agg [.int .i64 0,.nils,.nils,.nils],.int .i64 11,.int .i64 0]
abbrev Zlb:D:= .tup [.agg [iD 0,.gs none 0,.gs none 0,.gs none 0],iD 11,iD 0]
def ZnP:Vc.G:= .tup [.agg [.int .i64 0,.int .i64 0,.int .i64 0,.int .i64 0],.int .i64 19]
abbrev Zlc:D:= .tup [.agg [iD 0,iD 0,iD 0,iD 0],iD 19]
def Zln:Vc.G:= .tup [.agg [.int .i64 2,.int .i64 1,.int .i64 1,.int .i64 2],.int .i64 0]
abbrev ZnC:D:= .tup [.agg [iD 2,iD 1,iD 1,iD 2],iD 0]
def ZfE:Vc.G:= .str [109,111,100,32,50,59,32,108,111,99,32,120,32,61,32,48,59,32,116,104,114,101,97,100,32,116,32,123,32,115,116,111,114,101,32,120,32,61,32,49,59,32,125]
abbrev Zik:D:=sD ⟨#[109,111,100,32,50,59,32,108,111,99,32,120,32,61,32,48,59,32,116,104,114,101,97,100,32,116,32,123,32,115,116,111,114,101,32,120,32,61,32,49,59,32,125]⟩
def Zlo:Vc.G:= .tup [.agg [.int .i64 2,.sl false 3 [[.str [120],.int .i64 0,.int .i64 7]],.sl false 4 [[.str [116],.nils,.sl false 9 [[.int .i64 4,.str [],.str [120],.sl true 5 [[.int .i64 1,.int .i64 1,.str [],.str [],.int .i64 39]],.nils,.bool false,.int .i64 0,.int .i64 0,.int .i64 29]],.int .i64 18]],.nils],.int .i64 0,.int .i64 0]
abbrev ZnD:D:= .tup [.agg [iD 2,.sl false 3 [[sD ⟨#[120]⟩,iD 0,iD 7]],.sl false 4 [[sD ⟨#[116]⟩,.gs none 0,.sl false 9 [[iD 4,sD ⟨#[]⟩,sD ⟨#[120]⟩,.sl true 5 [[iD 1,iD 1,sD ⟨#[]⟩,sD ⟨#[]⟩,iD 39]],.gs none 0,bD false,iD 0,iD 0,iD 29]],iD 18]],.gs none 0],iD 0,iD 0]
def Zea:Vc.G:= .agg [.int .i64 2,.sl false 3 [[.str [120],.int .i64 0,.int .i64 7]],.sl false 4 [[.str [116],.nils,.sl false 9 [[.int .i64 4,.str [],.str [120],.sl true 5 [[.int .i64 1,.int .i64 1,.str [],.str [],.int .i64 39]],.nils,.bool false,.int .i64 0,.int .i64 0,.int .i64 29]],.int .i64 18]],.nils]
abbrev Zld:D:= .agg [iD 2,.sl false 3 [[sD ⟨#[120]⟩,iD 0,iD 7]],.sl false 4 [[sD ⟨#[116]⟩,.gs none 0,.sl false 9 [[iD 4,sD ⟨#[]⟩,sD ⟨#[120]⟩,.sl true 5 [[iD 1,iD 1,sD ⟨#[]⟩,sD ⟨#[]⟩,iD 39]],.gs none 0,bD false,iD 0,iD 0,iD 29]],iD 18]],.gs none 0]
def Zlp:Vc.G:= .tup [.agg [.nils,.nils,.nils,.nils,.nils,.nils],.int .i64 18]
abbrev ZnE:D:= .tup [.agg [.gs none 0,.gs none 0,.gs none 0,.gs none 0,.gs none 0,.gs none 0],iD 18]
end Go.Proofs.YtjlnkedmbfdofaaGreat
