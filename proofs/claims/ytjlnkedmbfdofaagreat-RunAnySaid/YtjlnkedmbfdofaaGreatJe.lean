/- What is told of the good program of law27, and read. No condition. -/
import Derived.Test.YtjlnkedmbfdofaaGreatJc
namespace Go.Proofs.YtjlnkedmbfdofaaGreat
set_option linter.unusedSimpArgs false
set_option linter.unusedVariables false
set_option maxRecDepth 20000
open Go Go.Proofs Go.Vc
def Zgt:Vc.G:= .str [116,115,111,32,49,32,119,101,97,107,32,57]
abbrev Zmz:D:=sD ⟨#[116,115,111,32,49,32,119,101,97,107,32,57]⟩
noncomputable def ZlH:List (Nat×List Vc.G×Vc.G):=[
 (15,[Zgt],ZmM),
 (17,[ZeK],ZmN),
 (18,[ZdA],ZeL),
 (19,[ZdA,.int .i64 2,.int .i64 1,.int .i64 1,.int .i64 9],.tup [ZeM,.int .i64 0,.int .i64 0]),
 (11,[v'6,.int .i64 2,ZeM],ZaX),
 (14,[v'6,.int .i64 2,ZaX],Zll)]
theorem Zh4:TabOk Tryz.prog (Zb8 ZlH):=Zap _ fun e he=>by
 simp only[ZlH,z'p,z'I,or_false]at he
 rcases he with rfl|rfl|rfl|rfl|rfl|rfl
 ·exact⟨rfl,fun σ=>u_0⟩
 ·exact⟨rfl,fun σ=>u_1⟩
 ·exact⟨rfl,fun σ=>u_2⟩
 ·exact⟨rfl,fun σ=>ZnG⟩
 ·exact⟨rfl,fun σ=>u_6⟩
 ·exact⟨rfl,fun σ=>u_7⟩
theorem Zn5:Vc.Pure Tryz.prog 8 [Zkb,Zmz] (ZfA):=
 Fun.reckonT T uow Zh4 y'z (by kernel_rfl) (args:=[ZeK,Zgt]) (g:=ZaX) 20000 (by kernel_rfl) (by kernel_rfl) rfl rfl
theorem Znm:Vc.Pure Tryz.prog 9 [Zkb,Zmz,ZfA] (.tup [Zkd,bD true]):=
 Fun.reckonT T uow Zh4 y'z (by kernel_rfl) (args:=[ZeK,Zgt,ZaX]) (g:= .tup [ZeM,.bool true]) 20000 (by kernel_rfl) (by kernel_rfl) rfl rfl
end Go.Proofs.YtjlnkedmbfdofaaGreat
