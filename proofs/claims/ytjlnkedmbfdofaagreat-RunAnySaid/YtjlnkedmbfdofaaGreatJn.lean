/- Contracts: what is told of what goes wrong. No condition. -/
import Derived.Test.YtjlnkedmbfdofaaGreatJk
import Derived.Test.YtjlnkedmbfdofaaGreatJe
import Derived.Test.YtjlnkedmbfdofaaGreatJi
namespace Go.Proofs.YtjlnkedmbfdofaaGreat
set_option maxHeartbeats 16000000
set_option linter.unusedSimpArgs false
set_option linter.unusedVariables false
set_option maxRecDepth 20000
open Go Go.Proofs Go.Vc
attribute [local irreducible] z'Z VCg VCw VCx
theorem ZgZ {x y:D} {s:ByteArray} {n a:Int} {z:ByteArray} (hn:n≠18) (hs:z.size≤1000) (hl:Fun Tryz.prog 10 [x,y] [] false (fun d H'=> ∃b:Nat,True∧d= .tup [.agg lkZ,.ifc 87 (ptE b)]∧H'=y'9 b s n a))
  (he: ∀b:Nat,Fun Tryz.prog 293 [ptE b] (y'9 b s n a) false (fun d H'=>d=sD z∧H'=y'9 b s n a)):Vc.Pure Tryz.prog 8 [x,y] (sD (z++⟨#[10]⟩)):=by
 have hE:=Tryz.underlying42
 have hq:decide (n=18)=false:=decide_eq_false hn
 refine Fun.of T [.tmp 4] Tryz.func8 rfl Tryz.ntmps8 Tryz.results8 rfl (by kernel_rfl) ?_
 repeat' first|refine vs T rfl fun K hK=>?_;(try simp (disch:=omega) only[go_sem,Nat.reduceBEq]);(first|refine hK _ _ ?_;clear hK K|skip)|refine st rfl ?_|refine nl ?_
 refine Op1.callG (caps:= #[]) (Hp:=[]) rfl rfl rfl hl (y'f _) (fun d H' h=>?_)
 obtain⟨b, -,rfl,rfl⟩:=h
 refine hK _ _ ?_
 clear hK K
 simp only[y'9,z'x]
 repeat' first|refine vt rfl fun K hK=>?_;refine w'4 rfl rfl rfl hE rfl ?_;refine hK _ _ ?_;clear hK K;(try simp only[updO])|refine vs T rfl fun K hK=>?_;(try simp (disch:=omega) only[go_sem,Nat.reduceBEq,Nat.reduceAdd,Nat.reduceLeDiff,Za6]);(first|refine hK _ _ ?_;clear hK K|intro bq hbq;(try simp only[HB]at hbq);refine hK _ _ ?_;clear hK K|refine⟨?_,hK _ _ ?_⟩<;>clear hK K;focus skip|skip)|refine st rfl ?_|refine sc rfl ?_|refine nl ?_
 ·exact⟨_,Tryz.underlying47,fun ms h=>by cases h⟩
 refine Op1.callG (caps:= #[]) rfl rfl rfl (Ze4 b s n a) (List.Perm.swap _ _ _) (fun d H' h=>?_)
 obtain⟨rfl,rfl⟩:=h
 refine hK _ _ ?_
 clear hK K
 rw[hq]
 simp only[y'9,y'w,z'L]
 repeat' first|refine vs T rfl fun K hK=>?_;(try simp (disch:=omega) only[go_sem,Nat.reduceBEq,Za6]);(first|refine hK _ _ ?_;clear hK K|skip)|refine st rfl ?_|refine sc rfl ?_|refine nl ?_
 refine ZjU (Hp:=y'9 b s n a) rfl rfl Zjc (he b) (y'f _) (fun d H' h=>?_)
 obtain⟨rfl,rfl⟩:=h
 refine hK _ _ ?_
 clear hK K
 repeat' first|refine vs T rfl fun K hK=>?_;(try simp (disch:=omega) only[go_sem,Nat.reduceBEq,Za6]);(first|refine hK _ _ ?_;clear hK K|refine⟨?_,hK _ _ ?_⟩<;>clear hK K)|refine st rfl ?_|refine nl ?_
 any_goals(simp only[List.size_toArray,z'A,x'c];omega)
 refine x'7 T (z'T _) ?_
 exact⟨rfl,rfl⟩
theorem Znr {x y:D} {s:ByteArray} {a:Int} (hl:Fun Tryz.prog 10 [x,y] [] false (fun d H'=> ∃b:Nat,True∧d= .tup [lkD,.ifc 87 (ptE b)]∧H'=y'9 b s 18 a)):Vc.Pure Tryz.prog 8 [x,y] (sD (⟨#[98,117,100,103,101,116,32]⟩++⟨#[50]⟩++⟨#[10]⟩)):=by
 have hE:=Tryz.underlying42
 refine Fun.of T [.tmp 4] Tryz.func8 rfl Tryz.ntmps8 Tryz.results8 rfl (by kernel_rfl) ?_
 repeat' first|refine vs T rfl fun K hK=>?_;(try simp (disch:=omega) only[go_sem,Nat.reduceBEq]);(first|refine hK _ _ ?_;clear hK K|skip)|refine st rfl ?_|refine nl ?_
 refine Op1.callG (caps:= #[]) (Hp:=[]) rfl rfl rfl hl (y'f _) (fun d H' h=>?_)
 obtain⟨b, -,rfl,rfl⟩:=h
 refine hK _ _ ?_
 clear hK K
 simp only[y'9,z'x]
 repeat' first|refine vt rfl fun K hK=>?_;refine w'4 rfl rfl rfl hE rfl ?_;refine hK _ _ ?_;clear hK K;(try simp only[updO])|refine vs T rfl fun K hK=>?_;(try simp (disch:=omega) only[go_sem,Nat.reduceBEq,Nat.reduceAdd,Nat.reduceLeDiff,Za6]);(first|refine hK _ _ ?_;clear hK K|intro bq hbq;(try simp only[HB]at hbq);refine hK _ _ ?_;clear hK K|refine⟨?_,hK _ _ ?_⟩<;>clear hK K;focus skip|skip)|refine st rfl ?_|refine sc rfl ?_|refine nl ?_
 ·exact⟨_,Tryz.underlying47,fun ms h=>by cases h⟩
 refine Op1.callG (caps:= #[]) rfl rfl rfl (Ze4 b s 18 a) (List.Perm.swap _ _ _) (fun d H' h=>?_)
 obtain⟨rfl,rfl⟩:=h
 refine hK _ _ ?_
 clear hK K
 rw[decide_eq_true (rfl:(18:Int)=18)]
 simp only[y'9,y'w,z'L]
 repeat' first|refine vs T rfl fun K hK=>?_;(try simp (disch:=omega) only[go_sem,Nat.reduceBEq,Za6]);(first|refine hK _ _ ?_;clear hK K|refine⟨?_,hK _ _ ?_⟩<;>clear hK K;focus skip|refine Op1.callp rfl rfl (ZnF) rfl ?_;refine hK _ _ ?_;clear hK K)|refine st rfl ?_|refine sc rfl ?_|refine nl ?_
 any_goals decide
 refine x'7 T (z'T _) ?_
 exact⟨rfl,rfl⟩
theorem Zn6:Vc.Pure Tryz.prog 8 [sD ⟨#[120]⟩,sD ⟨#[115,99,32,49,32,119,101,97,107,32,57]⟩] (sD ⟨#[101,114,114,111,114,32,112,97,114,115,101,32,53,32,97,116,32,48,10]⟩):=
 ZgZ (by decide) (by decide) ZmU fun b=>Zlh b _ _ _ 5 0 (by decide) (by decide) (by decide) (by decide) ZnX Zle
theorem Zn7:Vc.Pure Tryz.prog 8 [Zij,sD ⟨#[115,99,32,49,32,119,101,97,107,32,57]⟩] (sD ⟨#[101,114,114,111,114,32,102,111,114,109,32,49,49,32,97,116,32,48,10]⟩):=
 ZgZ (by decide) (by decide) ZmV fun b=>Zlh b _ _ _ 11 0 (by decide) (by decide) (by decide) (by decide) Zm8 Zle
theorem Zn8:Vc.Pure Tryz.prog 8 [sD ⟨#[]⟩,sD ⟨#[120]⟩] (sD ⟨#[101,114,114,111,114,32,111,112,116,105,111,110,10]⟩):=
 ZgZ (by decide) (by decide) ZmW fun b=>ZnI b _ 19 (-1) (by decide)
theorem Zn9:Vc.Pure Tryz.prog 8 [Zik,sD ⟨#[116,115,111,32,49,32,119,101,97,107,32,50]⟩] (sD ⟨#[98,117,100,103,101,116,32,50,10]⟩):=Znr ZmX
noncomputable def ZlE:List (Nat×List Vc.G×Vc.G):=[
 (8,[ZeK,Zgt],ZaX),
 (9,[ZeK,Zgt,ZaX],.tup [ZeM,.bool true]),
 (8,[.str [120],.str [115,99,32,49,32,119,101,97,107,32,57]],.str [101,114,114,111,114,32,112,97,114,115,101,32,53,32,97,116,32,48,10]),
 (8,[Zlm,.str [115,99,32,49,32,119,101,97,107,32,57]],.str [101,114,114,111,114,32,102,111,114,109,32,49,49,32,97,116,32,48,10]),
 (8,[.str [],.str [120]],.str [101,114,114,111,114,32,111,112,116,105,111,110,10]),
 (8,[ZfE,.str [116,115,111,32,49,32,119,101,97,107,32,50]],.str [98,117,100,103,101,116,32,50,10])]
theorem Zmo:TabOk Tryz.prog (Zb8 ZlE):=Zap _ fun e he=>by
 simp only[ZlE,z'p,z'I,or_false]at he
 rcases he with rfl|rfl|rfl|rfl|rfl|rfl
 ·exact⟨rfl,fun σ=>Zn5⟩
 ·exact⟨rfl,fun σ=>Znm⟩
 ·exact⟨rfl,fun σ=>Zn6⟩
 ·exact⟨rfl,fun σ=>Zn7⟩
 ·exact⟨rfl,fun σ=>Zn8⟩
 ·exact⟨rfl,fun σ=>Zn9⟩
theorem Zee:Vc.Pure Tryz.prog 6 [] (bD true):=
 Fun.reckonT T uow Zmo y'z (by kernel_rfl) (args:=[]) (g:= .bool true) 20000 (by kernel_rfl) (by kernel_rfl) rfl rfl
def bgn (s t:ByteArray):Bool:=decide (t.size≤s.size)&&decide (s.extract 0 t.size=t)
theorem Zjb {s t:ByteArray} (h:(s.size:Int)<(t.size:Int)):bgn s t=false:=by
 unfold bgn
 rw[decide_eq_false (by omega),Bool.false_and]
theorem ZfR {s t:ByteArray} (h:(t.size:Int)≤(s.size:Int)):bgn s t=decide (s.extract 0 t.size=t):=by
 unfold bgn
 rw[decide_eq_true (by omega),Bool.true_and]
theorem Zj2 (s t:ByteArray) (hs:s.size≤3000) (ht:t.size≤100):Vc.Pure Tryz.prog 7 [sD s,sD t] (bD (bgn s t)):=by
 refine Fun.of T [.tmp 4] Tryz.func7 rfl Tryz.ntmps7 Tryz.results7 rfl (by kernel_rfl) ?_
 repeat' first|refine vs T rfl fun K hK=>?_;(try simp (disch:=omega) only[go_sem,Nat.reduceBEq,sD]);(first|refine hK _ _ ?_;clear hK K|refine⟨?_,hK _ _ ?_⟩<;>clear hK K;focus(try omega))|refine st rfl ?_|refine nl ?_|refine gs rfl rfl ?_|with_reducible refine y'E (fun hc=>?_) (fun hc=>?_)<;>(try simp only[decide_eq_true_eq,decide_eq_false_iff_not,ge_iff_le,Int.not_le]at hc)
 ·exact x'7 T (z'V _) ⟨congrArg bD (ZfR hc).symm,rfl⟩
 ·exact x'7 T (z'V _) ⟨congrArg bD (Zjb hc).symm,rfl⟩
def hdB:List ByteArray:=[⟨#[101,114,114,111,114,32,111,112,116,105,111,110]⟩,⟨#[101,114,114,111,114,32,112,97,114,115,101,32]⟩,⟨#[101,114,114,111,114,32,102,111,114,109,32]⟩,⟨#[98,117,100,103,101,116,32]⟩,⟨#[111,117,116,99,111,109,101,32]⟩]
def ZdF (s:ByteArray):List ByteArray→Nat→Nat
 |[],_=>0
 |h::r,i=>if bgn s h=true then i else ZdF s r (i+1)
def ZiM (s:ByteArray):Nat:=ZdF s hdB 1
def hdC:List ByteArray:=⟨#[]⟩::hdB
def hdR (l:List ByteArray):List (List D):=l.map fun x=>[sD x]
theorem Zl6 (l:List ByteArray):(hdR l).length=l.length:=z'f ..
theorem Zlr {e eb:Nat} {ea full:Bool} {ez:List Value} {l:List ByteArray} {k:IntKind} {n:Int} {K:D→Prop}:
  cIndexAddr (.slice e 1 eb ea ez) (.sl full 1 (hdR l)) (.is (.int k n)) K=((0≤n∧n<l.length)∧K (.pt [sD (l.getD n.toNat ⟨#[]⟩)])):=ZjI (fun n=>[sD n]) ⟨#[]⟩
theorem ZaA {s:ByteArray} {l:List ByteArray} {k i:Nat} (h:k<l.length):ZdF s (l.drop k) i=if bgn s (l.getD k ⟨#[]⟩)=true then i else ZdF s (l.drop (k+1)) (i+1):=by
 rw[x'p h,ZdF,z'e,z'l h]
 rfl
theorem Zgy (k:Nat):(hdC.getD k ⟨#[]⟩).size≤100:=by
 rcases z't k 6 with h|h
 ·exact(by decide: ∀k,k<6→(hdC.getD k ⟨#[]⟩).size≤100) k h
 ·rw[z'e,z'X h];decide
theorem ZkF (k:Nat):(hdB.getD k ⟨#[]⟩).size≤100:=Zgy (k+1)
theorem Zk1 (s:ByteArray) (hs:s.size≤3000):Vc.Pure Tryz.prog 5 [sD s] (iD (ZiM s)):=by
 refine Fun.of T [.tmp 2] Tryz.func5 rfl Tryz.ntmps5 Tryz.results5 rfl (by kernel_rfl) ?_
 repeat' first|refine vs T rfl fun K hK=>?_;(try simp (disch:=omega) only[go_sem,Nat.reduceBEq,Nat.reduceAdd,Nat.reduceMul,Nat.reduceLeDiff,sD]);(refine hK _ _ ?_;clear hK K)|refine st rfl ?_|refine nl ?_
 refine VC.loop {k:Nat//1≤k∧k≤6∧ZdF s (hdC.drop k) k=ZiM s} (fun k=>⟨x'K [(0,sD s),(3,.sl true 1 (hdR hdC)),(4,iD (k.1:Nat))],[]⟩) (fun k=>6-k.1) ⟨1,by decide,by decide,rfl⟩ ?_ ?_
 ·refine Weak.sub ?_
  simp[sub,upd]
  rfl
 rintro⟨k,h1,h2,h3⟩
 dsimp only
 have hl:hdC.length=6:=rfl
 have hst:=Zj2 s (hdC.getD k ⟨#[]⟩) hs (Zgy k)
 repeat' first|refine vs T rfl fun K hK=>?_;(try simp (disch:=omega) only[go_sem,Nat.reduceBEq,Zlr,Zl6,hl,w64,z'D]);(first|refine hK _ _ ?_;clear hK K|refine⟨?_,hK _ _ ?_⟩<;>clear hK K;focus(try omega)|refine Op1.callp rfl rfl (hst) rfl ?_;refine hK _ _ ?_;clear hK K)|refine st rfl ?_|refine sc rfl ?_|refine nl ?_|refine x'7 T (z'T _) ?_;(try simp only[upd,Nat.reduceBEq,cond_true,cond_false,and_true])|with_reducible refine y'E (fun hc=>?_) (fun hc=>?_)<;>(try simp only[decide_eq_true_eq,decide_eq_false_iff_not,x'v]at hc)
 ·rename_i hc1
  rw[←h3,ZaA (by omega),if_pos hc]
 ·rename_i hc1
  refine⟨⟨k+1,by omega,by omega,?_⟩,Weak.sub ?_,by simp only[];omega⟩
  ·rw[←h3,ZaA (k:=k) (by omega),hc]
   rfl
  ·simp[sub,upd]
 ·rw[←h3,x'G (by omega)]
  rfl
theorem Zl8 (s:ByteArray) (hs:s.size≤3000):Vc.Pure Tryz.prog 4 [sD s] (iD (ZiM s)):=by
 refine Fun.of T [.tmp 2] Tryz.func4 rfl Tryz.ntmps4 Tryz.results4 rfl (by kernel_rfl) ?_
 repeat' first|refine vs T rfl fun K hK=>?_;(try simp (disch:=omega) only[go_sem,Nat.reduceBEq,Nat.reduceAdd,Nat.reduceMul,Nat.reduceLeDiff,sD]);(refine hK _ _ ?_;clear hK K)|refine st rfl ?_|refine nl ?_
 refine VC.loop {k:Nat//k≤5∧ZdF s (hdB.drop k) (k+1)=ZiM s} (fun k=>⟨x'K [(0,sD s),(5,.sl true 1 (hdR hdB)),(6,iD 5),(7,iD (k.1:Nat))],[]⟩) (fun k=>5-k.1) ⟨0,by decide,rfl⟩ ?_ ?_
 ·refine Weak.sub ?_
  simp[sub,upd]
  rfl
 rintro⟨k,h2,h3⟩
 dsimp only
 have hl:hdB.length=5:=rfl
 have hz:=ZkF k
 repeat' first|refine vs T rfl fun K hK=>?_;(try simp (disch:=omega) only[go_sem,Nat.reduceBEq,Zlr,hl,w64,z'D]);(first|refine hK _ _ ?_;clear hK K|refine⟨?_,hK _ _ ?_⟩<;>clear hK K;focus(try omega))|refine st rfl ?_|refine sc rfl ?_|refine nl ?_|refine gs rfl rfl ?_|refine x'7 T (z'T _) ?_;(try simp only[upd,Nat.reduceBEq,cond_true,cond_false,and_true])|with_reducible refine y'E (fun hc=>?_) (fun hc=>?_)<;>(try simp only[decide_eq_true_eq,decide_eq_false_iff_not,ge_iff_le,Int.not_le,x'v]at hc)
 ·rename_i hc2 hc1
  rw[←h3,ZaA (by omega),if_pos (by rw[ZfR hc1];exact decide_eq_true hc)]
  rfl
 ·rename_i hc2 hc1
  refine⟨⟨k+1,by omega,?_⟩,Weak.sub ?_,by simp only[];omega⟩
  ·rw[←h3,ZaA (k:=k) (by omega),ZfR hc1,decide_eq_false hc]
   rfl
  ·simp[sub,upd]
 ·rename_i hc1
  refine⟨⟨k+1,by omega,?_⟩,Weak.sub ?_,by simp only[];omega⟩
  ·rw[←h3,ZaA (k:=k) (by omega),Zjb hc]
   rfl
  ·simp[sub,upd]
 ·rw[←h3,x'G (by omega)]
  rfl
theorem ZjJ (s:ByteArray) (hs:s.size≤9223372036854775807):Vc.Pure Tryz.prog 3 [sD s] (bD true):=by
 refine Fun.of T [.tmp 2] Tryz.func3 rfl Tryz.ntmps3 Tryz.results3 rfl (by kernel_rfl) ?_
 rcases z't 3000 s.size with hl|hl
 ·have e1:decide ((s.size:Int)>3000)=true:=decide_eq_true (by omega)
  repeat' first|refine vs T rfl fun K hK=>?_;(try simp (disch:=omega) only[go_sem,Nat.reduceBEq,sD,bD,e1]);(first|refine hK _ _ ?_;clear hK K|refine Op1.callp rfl rfl (Zee) rfl ?_;refine hK _ _ ?_;clear hK K)|refine st rfl ?_|refine nl ?_|refine gs rfl rfl ?_|exact x'7 T (z'T _) ⟨rfl,rfl⟩
 ·have e1:decide ((s.size:Int)>3000)=false:=decide_eq_false (by omega)
  have c1:=Zl8 s hl
  have c2:=Zk1 s hl
  repeat' first|refine vs T rfl fun K hK=>?_;(try simp (disch:=omega) only[go_sem,Nat.reduceBEq,sD,bD,e1]);(first|refine hK _ _ ?_;clear hK K|refine Op1.callp rfl rfl (Zee) rfl ?_;refine hK _ _ ?_;clear hK K|refine Op1.callp rfl rfl (c1) rfl ?_;refine hK _ _ ?_;clear hK K|refine Op1.callp rfl rfl (c2) rfl ?_;refine hK _ _ ?_;clear hK K)|refine st rfl ?_|refine nl ?_|refine gs rfl rfl ?_|exact x'7 T (z'T _) ⟨rfl,rfl⟩
end Go.Proofs.YtjlnkedmbfdofaaGreat
