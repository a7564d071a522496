/- A run whose budget is spent. No condition. -/
import Derived.Test.YtjlnkedmbfdofaaGreatJi
namespace Go.Vc
set_option linter.unusedSimpArgs false
set_option linter.unusedVariables false
open Go
noncomputable def Zjq {P:Program} (T:Tab P) (w:Gw) (f:Nat) (args:List G):Option (G×Nat×Nat×Nat×List G):=match ZaS T w f args [] 0 with
 |some (.tup [g0,.ifc t (.ptr k 0)],[(k',.fix ty n l)],_)=>match Nat.beq k k'&&(gNo g0&&l.all gNo)with
  |true=>some (g0,t,ty,n,l)
  |false=>none
 |_=>none
theorem Fun.reckonO {P:Program} (T:Tab P) (ow:Nat→G→Bool) {tab:Nat→List G→Option G} (hT:TabOk P tab) (hN:NamesOk P) (hM:P.follows .mixedOrders=true) {f:Nat} {args:List G} {g0:G} {t ty n:Nat} {l:List G} (fuel:Nat) (h:Zjq T (w'W T ow tab fuel) f args=some (g0,t,ty,n,l)) (ha:args.all gNo=true)
  {ads ds:List D} {d0:D} (e1:args.map (G.d fun _=>(0,0))=ads) (e2:g0.d (fun _=>(0,0))=d0) (e3:l.map (G.d fun _=>(0,0))=ds):Fun P f ads [] false (fun d H'=> ∃b:Nat,True∧d= .tup [d0,.ifc t (.is (.pointer (some ⟨b,0,none⟩)))]∧H'=[(b,.cells ty n ds)]):=by
 subst e1;subst e2;subst e3
 unfold Zjq at h
 split at h
 ·rename_i g1 t1 k k' ty1 n1 l1 nx hc
  split at h
  ·rename_i hk
   cases h
   simp only[z'b]at hk
   obtain⟨hk,hg,hl⟩:=hk
   have hk:=z'd hk
   subst hk
   obtain⟨_,h2⟩:=w'2 T hN (Zdv T ow hT hN hM fuel) (lo:=fun _=>True) hc (fun _ _=>trivial) (fun x hx σ τ _=>x'a (z'h.1 ha x hx) σ τ) VOk.nil
   refine(h2 fun _=>(0,0)).mono ?_
   rintro d H' ⟨σ',_,rfl,rfl⟩
   refine⟨(σ' k).1,trivial,?_,?_⟩
   ·show D.tup [g0.d σ',.ifc t (.is (.pointer (some ⟨(σ' k).1,0,none⟩)))]=_
    rw[x'a hg σ' fun _=>(0,0)]
   ·show[((σ' k).1,HC.cells ty n (l.map (G.d σ')))]=_
    rw[z'R fun x hx=>x'a (z'h.1 hl x hx) σ' fun _=>(0,0)]
  ·cases h
 ·cases h
end Go.Vc
namespace Go.Proofs.YtjlnkedmbfdofaaGreat
set_option linter.unusedSimpArgs false
set_option linter.unusedVariables false
set_option maxRecDepth 20000
open Go Go.Proofs Go.Vc
noncomputable def ZlF:List (Nat×List Vc.G×Vc.G):=[
 (15,[.str [116,115,111,32,49,32,119,101,97,107,32,50]],Zln),
 (17,[ZfE],Zlo),
 (18,[Zea],ZeL),
 (19,[Zea,.int .i64 2,.int .i64 1,.int .i64 1,.int .i64 2],.tup [.agg [.int .i64 0,.nils,.nils,.nils,.int .i64 0,.int .i64 0],.int .i64 18,.int .i64 0])]
theorem Zmp:TabOk Tryz.prog (Zb8 ZlF):=Zap _ fun e he=>by
 simp only[ZlF,z'p,z'I,or_false]at he
 rcases he with rfl|rfl|rfl|rfl
 ·exact⟨rfl,fun σ=>ZoE⟩
 ·exact⟨rfl,fun σ=>ZoF⟩
 ·exact⟨rfl,fun σ=>Znt⟩
 ·exact⟨rfl,fun σ=>ZnH⟩
abbrev lkD:D:= .agg [iD 2,iD 1,iD 1,iD 2,iD 2,.sl false 1 [[iD 0]],.sl false 1 [[iD 0]],.sl false 1 [[.sl false 7 [[iD 4,iD 0,iD 0,.sl false 3 [[iD 1,iD 1,iD 0]],.gs none 0,bD false,iD 0],[iD 22,iD 0,iD 0,.gs none 0,.gs none 0,bD false,iD 0]]]],iD 0,.gs none 0,.gs none 0,.gs none 0,iD 0,iD 0]
theorem ZmX:Fun Tryz.prog 10 [Zik,sD ⟨#[116,115,111,32,49,32,119,101,97,107,32,50]⟩] [] false (fun d H'=> ∃b:Nat,True∧d= .tup [lkD,.ifc 87 (ptE b)]∧H'=y'9 b ⟨#[]⟩ 18 0):=
 Fun.reckonO T uow Zmp y'z (by kernel_rfl) (args:=[ZfE,.str [116,115,111,32,49,32,119,101,97,107,32,50]]) (g0:= .agg [.int .i64 2,.int .i64 1,.int .i64 1,.int .i64 2,.int .i64 2,.sl false 1 [[.int .i64 0]],.sl false 1 [[.int .i64 0]],.sl false 1 [[.sl false 7 [[.int .i64 4,.int .i64 0,.int .i64 0,.sl false 3 [[.int .i64 1,.int .i64 1,.int .i64 0]],.nils,.bool false,.int .i64 0],[.int .i64 22,.int .i64 0,.int .i64 0,.nils,.nils,.bool false,.int .i64 0]]]],.int .i64 0,.nils,.nils,.nils,.int .i64 0,.int .i64 0]) (l:=[.str [],.int .i64 18,.int .i64 0]) 20000 (by kernel_rfl) (by kernel_rfl) rfl rfl rfl
end Go.Proofs.YtjlnkedmbfdofaaGreat
