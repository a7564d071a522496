/- Contracts: what can act. No condition. -/
import Derived.Test.YtomcmfbpmkklmaaGreatRb
import Derived.Test.YtomcmfbpmkklmaaGreatRa
import Derived.Test.YtomcmfbpmkklmaaGreatZm
namespace Go.Proofs.YtomcmfbpmkklmaaGreat
set_option maxHeartbeats 16000000
set_option linter.unusedSimpArgs false
set_option linter.unusedVariables false
set_option maxRecDepth 20000
open Go Go.Proofs Go.Vc
attribute [local irreducible] y'0 VCg VCw VCx
inductive Ag where
 |th (t:Nat)
 |fl (t:Nat) (l:Int)
def agD:Ag→D
 | .th t=> .ifc 186 (iD (t:Nat))
 | .fl t l=> .ifc 188 (.agg [iD (t:Nat),iD l])
def Zc3 (l:List Ag):List (List D):=l.map fun a=>[agD a]
theorem Zbo (l:List Ag):(Zc3 l).length=l.length:=z'p ..
theorem ZjL (l:List Ag) (i:Nat):(Zc3 l)[i]?=(l[i]?).map fun a=>[agD a]:=z'4 ..
theorem ZlY (l:List Ag): ∀r,r∈Zc3 l→r.length=1:=by
 intro r hr
 obtain⟨a,_,rfl⟩:=z'y.1 hr
 rfl
theorem Zk9 (l:List Ag):(Zc3 l).flatten=l.map agD:=by
 induction l with
 |nil=>rfl
 |cons a l ih=>simp only[Zc3,z'z,z'X]at ih⊢;rw[ih];rfl
def ZbP (k:Nat):List Ag:=(List.range k).map .th
def ZbW (u:Un) (m:Int) (t:Nat):List Ag:=if m=2 then[.fl t (-1)]else if m=3 then(List.range u.init.length).map fun(l:Nat)=> .fl t (l:Int)else[]
def Zb5 (u:Un) (m:Int) (k:Nat):List Ag:=ZbP u.regs.length++(List.range k).flatMap (ZbW u m)
def y'N (u:Un) (m:Int):List Ag:=if z'8 u=true∧1≤m∧m≤3 then Zb5 u m u.regs.length else[]
theorem ZlC (k:Nat):ZbP (k+1)=ZbP k++[.th k]:=by simp[ZbP,y'p]
theorem Zc9 (u:Un) (m:Int) (k:Nat):Zb5 u m (k+1)=Zb5 u m k++ZbW u m k:=by simp[Zb5,y'p,z'7]
theorem Zad (k:Nat):(ZbP k).length=k:=by simp[ZbP]
theorem Zc4 {u:Un} (h:z'8 u=true):u.regs.length≤4∧u.init.length≤6∧1≤u.regs.length:=by
 simp only[z'8,w'e,z'h,decide_eq_true_eq]at h
 omega
theorem nI186: ∃d,Tryz.prog.underlying 186=some d∧ ∀ms,d≠ .interface ms:=⟨_,Tryz.underlying186,fun ms h=>by cases h⟩
theorem nI188: ∃d,Tryz.prog.underlying 188=some d∧ ∀ms,d≠ .interface ms:=⟨_,Tryz.underlying188,fun ms h=>by cases h⟩
theorem ZeP (u:Un) (hu:OkU u) (m:Int):Pure Tryz.prog 118 [.agg (unC u),iD m] (.sl false 1 (Zc3 (y'N u m))):=by
 have cu:=ZeJ u hu
 refine Fun.freeze (ZlY _) ?_
 refine Fun.of T [.tmp 4] Tryz.func118 rfl Tryz.ntmps118 Tryz.results118 rfl (by kernel_rfl) ?_
 have fin0:y'N u m=[]→ ∀E:Nat→D,E 4= .gs none 0→y'0 T [.tmp 4] (fun d H'=> ∃g e,d= .gs g (Zc3 (y'N u m)).length∧H'=shp g e 1 (Zc3 (y'N u m)).flatten []) .ret ⟨E,[]⟩:=fun h E hE=>by
  rw[h]
  exact z'j T (z'a _) ⟨none,0,by rw[hE];rfl,rfl⟩
 cases hU:z'8 u with
 |false=>
  rw[hU]at cu
  repeat' first|refine vb rfl rfl rfl rfl ?_|refine vs T rfl fun K hK=>?_;(try simp (disch:=omega) only[go_sem,Nat.reduceBEq,Nat.reduceAdd,Nat.reduceLeDiff,z'q]);(first|refine hK _ _ ?_;clear hK K|refine Op1.callp rfl rfl (cu) rfl ?_;refine hK _ _ ?_;clear hK K)|refine st rfl ?_|refine sc rfl ?_|refine nl ?_|refine gs rfl rfl ?_
  exact fin0 (by simp[y'N,hU]) _ rfl
 |true=>
 rw[hU]at cu
 by_cases h1:m<1
 ·have e1:decide (m<1)=true:=by simpa using h1
  repeat' first|refine vb rfl rfl rfl rfl ?_|refine vs T rfl fun K hK=>?_;(try simp (disch:=omega) only[go_sem,Nat.reduceBEq,Nat.reduceAdd,Nat.reduceLeDiff,e1,z'i]);(first|refine hK _ _ ?_;clear hK K|refine Op1.callp rfl rfl (cu) rfl ?_;refine hK _ _ ?_;clear hK K)|refine st rfl ?_|refine sc rfl ?_|refine nl ?_|refine gs rfl rfl ?_
  exact fin0 (by simp[y'N];omega) _ rfl
 have e1:decide (m<1)=false:=by simpa using h1
 by_cases h3:m>3
 ·have e3:decide (m>3)=true:=by simpa using h3
  repeat' first|refine vb rfl rfl rfl rfl ?_|refine vs T rfl fun K hK=>?_;(try simp (disch:=omega) only[go_sem,Nat.reduceBEq,Nat.reduceAdd,Nat.reduceLeDiff,e1,e3,z'i]);(first|refine hK _ _ ?_;clear hK K|refine Op1.callp rfl rfl (cu) rfl ?_;refine hK _ _ ?_;clear hK K)|refine st rfl ?_|refine sc rfl ?_|refine nl ?_|refine gs rfl rfl ?_
  exact fin0 (by simp[y'N];omega) _ rfl
 have e3:decide (m>3)=false:=by simpa using h3
 clear fin0
 obtain⟨kn,ki,k0⟩:=Zc4 hU
 have hA:y'N u m=Zb5 u m u.regs.length:=if_pos ⟨hU,by omega,by omega⟩
 rw[hA]
 repeat' first|refine vb rfl rfl rfl rfl ?_|refine vs T rfl fun K hK=>?_;(try simp (disch:=omega) only[go_sem,Nat.reduceBEq,Nat.reduceAdd,Nat.reduceLeDiff,e1,e3,z'l,z'i]);(first|refine hK _ _ ?_;clear hK K|refine Op1.callp rfl rfl (cu) rfl ?_;refine hK _ _ ?_;clear hK K)|refine st rfl ?_|refine sc rfl ?_|refine nl ?_|refine gs rfl rfl ?_
 refine VC.loop {p:Nat×Option (Nat×Nat)//p.1≤u.regs.length} (fun p=>⟨z'M [(1,iD m),(2,.pt (unC u)),(5,.gs p.1.2 p.1.1),(22,iD (u.regs.length:Nat)),(23,iD (p.1.1:Nat))],shp p.1.2 136 1 ((ZbP p.1.1).map agD) []⟩) (fun p=>u.regs.length-p.1.1) ⟨(0,none),by dsimp only;omega⟩ ?_ ?_
 ·refine Weak.sub ?_
  simp[sub,upd]
 rintro⟨⟨k,g⟩,hk⟩
 dsimp only at hk⊢
 rcases z'g k u.regs.length with hlt|hge
 case inl=>
  have hd:decide ((k:Int)<(u.regs.length:Int))=true:=by simp;omega
  have hw:IntKind.i64.wrap ((k:Int)+1)=((k+1:Nat):Int):=by rw[w64 (by omega)];omega
  repeat' first|refine vs T rfl fun K hK=>?_;(try simp (disch:=omega) only[go_sem,Nat.reduceBEq,Nat.reduceMul,Nat.reduceLeDiff,hd,hw]);(first|refine⟨nI186,hK _ _ ?_⟩;clear hK K|refine hK _ _ ?_;clear hK K|refine⟨_,_,_,_,(by repeat (exact Sp.here)),?_,(by exact⟨rfl,rfl⟩),⟨by decide,?_⟩,fun g' hg'=>hK _ _ ?_⟩<;>clear hK K)|refine st rfl ?_|refine sc rfl ?_|refine nl ?_
  ·simp[Zad]
  ·omega
  ·refine⟨⟨(k+1,g'),by dsimp only;omega⟩,z'G ?_ ?_,by dsimp only;omega⟩
   ·dsimp only
    rw[ZlC,z'F]
    rfl
   ·simp[sub,upd]
 obtain rfl:k=u.regs.length:=by omega
 have hd:decide ((u.regs.length:Int)<(u.regs.length:Int))=false:=by simp
 repeat' first|refine vs T rfl fun K hK=>?_;(try simp (disch:=omega) only[go_sem,Nat.reduceBEq,hd,z'l]);(refine hK _ _ ?_;clear hK K)|refine st rfl ?_|refine sc rfl ?_|refine nl ?_
 refine VC.loop {p:Nat×List Ag×Option (Nat×Nat)//p.1≤u.regs.length∧p.2.1=Zb5 u m p.1∧p.2.1.length≤10+10*p.1} (fun p=>⟨z'M [(1,iD m),(2,.pt (unC u)),(5,.gs p.1.2.2 p.1.2.1.length),(34,iD (u.regs.length:Nat)),(35,iD (p.1.1:Nat))],shp p.1.2.2 136 1 (p.1.2.1.map agD) []⟩) (fun p=>u.regs.length-p.1.1) ⟨(0,ZbP u.regs.length,g),by dsimp only;omega,by dsimp only;simp[Zb5],by dsimp only;rw[Zad];omega⟩ ?_ ?_
 ·refine Weak.sub ?_
  simp[sub,upd,Zad]
 rintro⟨⟨t,L,g⟩,ht,hL,hB⟩
 dsimp only at ht hL hB⊢
 rcases z'g t u.regs.length with hlt|hge
 case inr=>
  obtain rfl:t=u.regs.length:=by omega
  have hd:decide ((u.regs.length:Int)<(u.regs.length:Int))=false:=by simp
  repeat' first|refine vs T rfl fun K hK=>?_;(try simp (disch:=omega) only[go_sem,Nat.reduceBEq,hd]);(refine hK _ _ ?_;clear hK K)|refine st rfl ?_|refine sc rfl ?_|refine nl ?_
  exact z'j T (z'm _) ⟨g,136,by rw[←hL,Zbo];rfl,by rw[←hL,Zk9]⟩
 have hd:decide ((t:Int)<(u.regs.length:Int))=true:=by simp;omega
 have hw:IntKind.i64.wrap ((t:Int)+1)=((t+1:Nat):Int):=by rw[w64 (by omega)];omega
 by_cases m2:m=2
 ·have f2:(m == 2)=true:=by simpa using m2
  repeat' first|refine vs T rfl fun K hK=>?_;(try simp (disch:=omega) only[go_sem,Nat.reduceBEq,Nat.reduceAdd,Nat.reduceMul,Nat.reduceLeDiff,hd,hw,f2]);(first|refine⟨nI188,hK _ _ ?_⟩;clear hK K|refine hK _ _ ?_;clear hK K|refine⟨_,_,_,_,(by repeat (exact Sp.here)),?_,(by exact⟨rfl,rfl⟩),⟨by decide,?_⟩,fun g' hg'=>hK _ _ ?_⟩<;>clear hK K)|refine st rfl ?_|refine sc rfl ?_|refine nl ?_
  ·simp
  ·omega
  ·refine⟨⟨(t+1,L++[.fl t (-1)],g'),by dsimp only;omega,by dsimp only;rw[Zc9, ←hL];simp[ZbW,m2],by dsimp only;simp;omega⟩,z'G ?_ ?_,by dsimp only;omega⟩
   ·dsimp only
    rw[z'F]
    rfl
   ·simp[sub,upd]
 have f2:(m == 2)=false:=by simpa using m2
 by_cases m3:m=3
 case neg=>
  have f3:(m == 3)=false:=by simpa using m3
  repeat' first|refine vs T rfl fun K hK=>?_;(try simp (disch:=omega) only[go_sem,Nat.reduceBEq,hd,hw,f2,f3]);(refine hK _ _ ?_;clear hK K)|refine st rfl ?_|refine sc rfl ?_|refine nl ?_
  refine⟨⟨(t+1,L,g),by dsimp only;omega,by dsimp only;rw[Zc9, ←hL];simp[ZbW,m2,m3],by dsimp only;omega⟩,z'G rfl ?_,by dsimp only;omega⟩
  simp[sub,upd]
 have f3:(m == 3)=true:=by simpa using m3
 repeat' first|refine vs T rfl fun K hK=>?_;(try simp (disch:=omega) only[go_sem,Nat.reduceBEq,hd,f2,f3,z'l]);(refine hK _ _ ?_;clear hK K)|refine st rfl ?_|refine sc rfl ?_|refine nl ?_
 refine VC.loop {p:Nat×List Ag×Option (Nat×Nat)//p.1≤u.init.length∧p.2.1=Zb5 u m t++(List.range p.1).map (fun(l:Nat)=> .fl t (l:Int))∧p.2.1.length≤10+10*t+p.1} (fun p=>⟨z'M [(1,iD m),(2,.pt (unC u)),(5,.gs p.1.2.2 p.1.2.1.length),(7,iD (t:Nat)),(34,iD (u.regs.length:Nat)),(35,iD (t:Nat)),(51,iD (u.init.length:Nat)),(52,iD (p.1.1:Nat))],shp p.1.2.2 136 1 (p.1.2.1.map agD) []⟩) (fun p=>u.init.length-p.1.1) ⟨(0,L,g),by dsimp only;omega,by dsimp only;simp[hL],by dsimp only;omega⟩ ?_ ?_
 ·refine Weak.sub ?_
  simp[sub,upd]
 rintro⟨⟨l,L2,g2⟩,hl,hL2,hB2⟩
 dsimp only at hl hL2 hB2⊢
 rcases z'g l u.init.length with hlt2|hge2
 case inl=>
  have hd2:decide ((l:Int)<(u.init.length:Int))=true:=by simp;omega
  have hw2:IntKind.i64.wrap ((l:Int)+1)=((l+1:Nat):Int):=by rw[w64 (by omega)];omega
  repeat' first|refine vs T rfl fun K hK=>?_;(try simp (disch:=omega) only[go_sem,Nat.reduceBEq,Nat.reduceAdd,Nat.reduceMul,Nat.reduceLeDiff,hd2,hw2]);(first|refine⟨nI188,hK _ _ ?_⟩;clear hK K|refine hK _ _ ?_;clear hK K|refine⟨_,_,_,_,(by repeat (exact Sp.here)),?_,(by exact⟨rfl,rfl⟩),⟨by decide,?_⟩,fun g' hg'=>hK _ _ ?_⟩<;>clear hK K)|refine st rfl ?_|refine sc rfl ?_|refine nl ?_
  ·simp
  ·omega
  ·refine⟨⟨(l+1,L2++[.fl t (l:Int)],g'),by dsimp only;omega,by dsimp only;rw[hL2,y'p,z'F,z'7];rfl,by dsimp only;simp;omega⟩,z'G ?_ ?_,by dsimp only;omega⟩
   ·dsimp only
    rw[z'F]
    rfl
   ·simp[sub,upd]
 obtain rfl:l=u.init.length:=by omega
 have hd2:decide ((u.init.length:Int)<(u.init.length:Int))=false:=by simp
 repeat' first|refine vs T rfl fun K hK=>?_;(try simp (disch:=omega) only[go_sem,Nat.reduceBEq,hd2,hw]);(refine hK _ _ ?_;clear hK K)|refine st rfl ?_|refine sc rfl ?_|refine nl ?_
 refine⟨⟨(t+1,L2,g2),by dsimp only;omega,by dsimp only;rw[Zc9,hL2];simp[ZbW,m2,m3],by dsimp only;omega⟩,z'G rfl ?_,by dsimp only;omega⟩
 simp[sub,upd]
theorem mC1:ZcI Tryz.prog 186 "spinnaker/machine.can" =some 208:=by kernel_rfl
theorem mA1:ZcI Tryz.prog 186 "spinnaker/machine.act" =some 207:=by kernel_rfl
theorem mC2:ZcI Tryz.prog 188 "spinnaker/machine.can" =some 237:=by kernel_rfl
theorem mA2:ZcI Tryz.prog 188 "spinnaker/machine.act" =some 236:=by kernel_rfl
def Zmf (a:Ag) (name:String) (args:List D) (d0:D):Prop:= ∃t dv f,agD a= .ifc t dv∧ZcI Tryz.prog t name=some f∧Pure Tryz.prog f (dv::args) d0
theorem Op1.inva {o:Oper} {E:Operand→D} {x:Operand} {name:String} {xs:Array Operand} {tys:Array TypeId} {a:Ag} {args:List D} {d0:D} {H:Heap} {K:D→Heap→Prop}
  (ho:o.op= .call ⟨.invoke x name,xs,tys⟩) (hE:E x=agD a) (hm:Zmf a name args d0) (ha:xs.toList.map E=args) (hk:K d0 H):Op1 Tryz.prog o E H K:=by
 obtain⟨t,dv,f,h1,h2,h3⟩:=hm
 exact Op1.invokep ho (hE.trans h1) h2 h3 (by rw[ha]) hk
theorem ZjD (a:Ag):oneD (agD a)=true:=by cases a<;>rfl
abbrev woC (u:Un) (c:Cf) (m r:Int):List D:=
 [iD u.md,z'S u.init,z'S u.regs,.sl false 1 (x'6 u.code),z'S c.pc,.sl false 1 (x'j c.regs),z'S c.mem,.sl false 1 (y'U c.bufs),iD m,iD r]
def ZaN (u:Un) (c:Cf) (m r:Int):Ag→Bool
 | .th t=>enT u c m r (t:Nat)
 | .fl t l=>x'n c m (t:Nat) l
def ZfN (u:Un) (c:Cf) (m r:Int):Ag→Cf
 | .th t=>v'C u c m r (t:Nat)
 | .fl t l=>w'Q c m (t:Nat) l
section
variable {u : Un} {c : Cf} {m r : Int}
theorem Zo6 (h:Rt u c m r) (a:Ag):Zmf a "spinnaker/machine.can" [.agg (woC u c m r)] (bD (ZaN u c m r a)):=by
 cases a with
 |th t=>
  refine⟨_,_,_,rfl,mC1,?_⟩
  have c1:=Zqd h r (t:Nat)
  refine Fun.of T [.tmp 4] Tryz.func208 rfl Tryz.ntmps208 Tryz.results208 rfl (by kernel_rfl) ?_
  repeat' first|refine vb rfl rfl rfl rfl ?_|refine vs T rfl fun K hK=>?_;(try simp (disch:=omega) only[go_sem,Nat.reduceBEq,Nat.reduceAdd,Nat.reduceLeDiff]);(first|refine hK _ _ ?_;clear hK K|refine Op1.callp rfl rfl (c1) rfl ?_;refine hK _ _ ?_;clear hK K)|refine st rfl ?_|refine nl ?_|exact z'j T (z'a _) ⟨rfl,rfl⟩
 |fl t l=>
  refine⟨_,_,_,rfl,mC2,?_⟩
  have c1:=ZgC c h.okC.buf m (t:Nat) l
  refine Fun.of T [.tmp 4] Tryz.func237 rfl Tryz.ntmps237 Tryz.results237 rfl (by kernel_rfl) ?_
  repeat' first|refine vb rfl rfl rfl rfl ?_|refine vs T rfl fun K hK=>?_;(try simp (disch:=omega) only[go_sem,Nat.reduceBEq,Nat.reduceAdd,Nat.reduceLeDiff]);(first|refine hK _ _ ?_;clear hK K|refine Op1.callp rfl rfl (c1) rfl ?_;refine hK _ _ ?_;clear hK K)|refine st rfl ?_|refine nl ?_|exact z'j T (z'a _) ⟨rfl,rfl⟩
theorem ZnG (h:Rt u c m r) (a:Ag):Zmf a "spinnaker/machine.act" [.agg (woC u c m r)] (.tup [.agg (cfC (ZfN u c m r a)),bD (ZaN u c m r a)]):=by
 cases a with
 |th t=>
  refine⟨_,_,_,rfl,mA1,?_⟩
  have c1:=ZoR h (t:Nat)
  refine Fun.of T [.cell 4 43,.tmp 5] Tryz.func207 rfl Tryz.ntmps207 Tryz.results207 rfl (by kernel_rfl) ?_
  repeat' first|refine vb rfl rfl rfl rfl ?_|refine vs T rfl fun K hK=>?_;(try simp (disch:=omega) only[go_sem,Nat.reduceBEq,Nat.reduceAdd,Nat.reduceLeDiff]);(first|refine hK _ _ ?_;clear hK K|intro bq hbq;(try simp only[HB]at hbq);refine hK _ _ ?_;clear hK K|refine Op1.callp rfl rfl (c1) rfl ?_;refine hK _ _ ?_;clear hK K)|refine st rfl ?_|refine nl ?_|exact y'T T rfl (by(simp (disch:=omega) only[hget_eq])<;>rfl) rfl rfl rfl (z'a _) ⟨rfl,rfl⟩
 |fl t l=>
  refine⟨_,_,_,rfl,mA2,?_⟩
  have c1:=ZmV c h.okC h.locs m (t:Nat) l
  refine Fun.of T [.cell 4 43,.tmp 5] Tryz.func236 rfl Tryz.ntmps236 Tryz.results236 rfl (by kernel_rfl) ?_
  repeat' first|refine vb rfl rfl rfl rfl ?_|refine vs T rfl fun K hK=>?_;(try simp (disch:=omega) only[go_sem,Nat.reduceBEq,Nat.reduceAdd,Nat.reduceLeDiff]);(first|refine hK _ _ ?_;clear hK K|intro bq hbq;(try simp only[HB]at hbq);refine hK _ _ ?_;clear hK K|refine Op1.callp rfl rfl (c1) rfl ?_;refine hK _ _ ?_;clear hK K)|refine st rfl ?_|refine nl ?_|exact y'T T rfl (by(simp (disch:=omega) only[hget_eq])<;>rfl) rfl rfl rfl (z'a _) ⟨rfl,rfl⟩
end
theorem ZmD {u:Un} (hi:u.init.length≤6) (m:Int) (t:Nat):(ZbW u m t).length≤6:=by
 unfold ZbW
 split
 ·simp
 split
 ·simpa using hi
 ·simp
theorem ZmY {u:Un} (hi:u.init.length≤6) (m:Int) (k:Nat):(Zb5 u m k).length≤u.regs.length+6*k:=by
 induction k with
 |zero=>simp[Zb5,Zad]
 |succ k ih=>rw[Zc9,z'k];have:=ZmD hi m k;omega
theorem v'J (u:Un) (m:Int):(y'N u m).length≤28:=by
 unfold y'N
 split
 ·rename_i h
  have:=Zc4 h.1
  have:=ZmY this.2.1 m u.regs.length
  omega
 ·simp
def Zaq (u:Un) (m a:Int):Option Ag:=match decide (0≤a)with|true=>(y'N u m)[a.toNat]?|false=>none
def agO:Option Ag→D
 |some a=>agD a
 |none=> .is .nilIface
theorem ZpE (u:Un) (hu:OkU u) (m a:Int):Pure Tryz.prog 113 [.agg (unC u),iD m,iD a] (.tup [agO (Zaq u m a),bD (Zaq u m a).isSome]):=by
 have ca:=ZeP u hu m
 have hl:=v'J u m
 refine Fun.of T [.tmp 6,.tmp 7] Tryz.func113 rfl Tryz.ntmps113 Tryz.results113 rfl (by kernel_rfl) ?_
 by_cases h1:a<0
 ·have e1:decide (a<0)=true:=by simpa using h1
  rw[show Zaq u m a=none by simp[Zaq,x'd.2 h1]]
  repeat' first|refine vb rfl rfl rfl rfl ?_|refine vs T rfl fun K hK=>?_;(try simp (disch:=omega) only[go_sem,Nat.reduceBEq,Nat.reduceAdd,Nat.reduceLeDiff,e1]);(first|refine hK _ _ ?_;clear hK K|refine Op1.callp rfl rfl (ca) rfl ?_;refine hK _ _ ?_;clear hK K)|refine st rfl ?_|refine sc rfl ?_|refine nl ?_|refine gs rfl rfl ?_|exact x'E T (z'a _) ⟨rfl,rfl⟩
  all_goals rfl
 have e1:decide (a<0)=false:=by simpa using h1
 obtain⟨i,rfl⟩: ∃i:Nat,a=(i:Int):=⟨a.toNat,by omega⟩
 have hO:Zaq u m (i:Nat)=(y'N u m)[i]?:=by simp[Zaq]
 generalize y'N u m=A at*
 by_cases h2:(i:Int)≥(A.length:Int)
 ·have e2:decide ((i:Int)≥(A.length:Int))=true:=by simpa using h2
  rw[hO,z'x (show A.length≤i by omega)]
  repeat' first|refine vb rfl rfl rfl rfl ?_|refine vs T rfl fun K hK=>?_;(try simp (disch:=omega) only[go_sem,Nat.reduceBEq,Nat.reduceAdd,Nat.reduceLeDiff,e1,e2,Zbo]);(first|refine hK _ _ ?_;clear hK K|refine Op1.callp rfl rfl (ca) rfl ?_;refine hK _ _ ?_;clear hK K)|refine st rfl ?_|refine sc rfl ?_|refine nl ?_|refine gs rfl rfl ?_|exact x'E T (z'a _) ⟨rfl,rfl⟩
  all_goals rfl
 have e2:decide ((i:Int)≥(A.length:Int))=false:=by simpa using h2
 obtain⟨ag,ha⟩: ∃x,A[i]?=some x:=⟨_,z'b (by omega)⟩
 have ra:(Zc3 A)[i]?=some [agD ag]:=by rw[ZjL,ha];rfl
 have l1:i<A.length:=by omega
 have o1:=ZjD ag
 rw[hO,ha]
 repeat' first|refine vb rfl rfl rfl rfl ?_|refine vs T rfl fun K hK=>?_;(try simp (disch:=omega) only[go_sem,Nat.reduceBEq,Nat.reduceAdd,Nat.reduceLeDiff,e1,e2,ra,Zbo]);(first|refine hK _ _ ?_;clear hK K|refine⟨?_,hK _ _ ?_⟩<;>clear hK K;focus(try omega)|refine Op1.callp rfl rfl (ca) rfl ?_;refine hK _ _ ?_;clear hK K)|refine st rfl ?_|refine sc rfl ?_|refine nl ?_|refine gs rfl rfl ?_|exact x'E T (z'a _) ⟨rfl,rfl⟩
 all_goals rfl
theorem Zkd (u:Un) (hu:OkU u) (m:Int):Pure Tryz.prog 87 [.agg (unC u),iD m] (iD ((y'N u m).length:Nat)):=by
 have ca:=ZeP u hu m
 refine Fun.of T [.tmp 4] Tryz.func87 rfl Tryz.ntmps87 Tryz.results87 rfl (by kernel_rfl) ?_
 repeat' first|refine vb rfl rfl rfl rfl ?_|refine vs T rfl fun K hK=>?_;(try simp (disch:=omega) only[go_sem,Nat.reduceBEq,Nat.reduceAdd,Nat.reduceLeDiff,Zbo]);(first|refine hK _ _ ?_;clear hK K|refine Op1.callp rfl rfl (ca) rfl ?_;refine hK _ _ ?_;clear hK K)|refine st rfl ?_|refine nl ?_|exact z'j T (z'a _) ⟨rfl,rfl⟩
def enM (u:Un) (c:Cf) (m r a:Int):Bool:=match Zaq u m a with|some ag=>ZaN u c m r ag|none=>false
def actM (u:Un) (c:Cf) (m r a:Int):Cf:=match Zaq u m a with|some ag=>ZfN u c m r ag|none=>c
section
variable {u : Un} {c : Cf} {m r : Int}
theorem ZmL (c:Cf) (hc:OkC c):Pure Tryz.prog 114 [.agg (cfC c)] (.agg (cfC c)):=
 Fun.fz ((Zfb c hc).mono fun d H' ⟨q,h1,h2,h3⟩=>by
  rw[h2,h3]
  exact⟨_,rfl,OC.fzL (X:=[]) h1 fun y hy=>hy⟩)
theorem ZnW (h:Rt u c m r) (a:Int):Pure Tryz.prog 64 [.agg (unC u),.agg (cfC c),iD m,iD r,iD a] (.tup [.agg (cfC (actM u c m r a)),bD (enM u c m r a)]):=by
 have c1:=ZpE u h.okU m a
 refine Fun.of T [.cell 10 43,.tmp 11] Tryz.func64 rfl Tryz.ntmps64 Tryz.results64 rfl (by kernel_rfl) ?_
 cases hO:Zaq u m a with
 |none=>
  have c1':Pure Tryz.prog 113 [.agg (unC u),iD m,iD a] (.tup [.is .nilIface,bD false]):=by rw[hO]at c1;exact c1
  have c2:=ZmL c h.okC
  rw[show enM u c m r a=false by simp[enM,hO],show actM u c m r a=c by simp[actM,hO]]
  repeat' first|refine vb rfl rfl rfl rfl ?_|refine vs T rfl fun K hK=>?_;(try simp (disch:=omega) only[go_sem,Nat.reduceBEq,Nat.reduceAdd,Nat.reduceLeDiff]);(first|refine hK _ _ ?_;clear hK K|intro bq hbq;(try simp only[HB]at hbq);refine hK _ _ ?_;clear hK K|refine Op1.callp rfl rfl (c1') rfl ?_;refine hK _ _ ?_;clear hK K|refine Op1.callp rfl rfl (c2) rfl ?_;refine hK _ _ ?_;clear hK K)|refine st rfl ?_|refine sc rfl ?_|refine nl ?_|exact y'T T rfl (by(simp (disch:=omega) only[hget_eq])<;>rfl) rfl rfl rfl (z'a _) ⟨rfl,rfl⟩
 |some ag=>
  have c1':Pure Tryz.prog 113 [.agg (unC u),iD m,iD a] (.tup [agD ag,bD true]):=by rw[hO]at c1;exact c1
  have cn:=ZnG h ag
  rw[show enM u c m r a=ZaN u c m r ag by simp[enM,hO],show actM u c m r a=ZfN u c m r ag by simp[actM,hO]]
  repeat' first|refine vb rfl rfl rfl rfl ?_|refine vs T rfl fun K hK=>?_;(try simp (disch:=omega) only[go_sem,Nat.reduceBEq,Nat.reduceAdd,Nat.reduceLeDiff]);(first|refine hK _ _ ?_;clear hK K|intro bq hbq;(try simp only[HB]at hbq);refine hK _ _ ?_;clear hK K|refine Op1.callp rfl rfl (c1') rfl ?_;refine hK _ _ ?_;clear hK K|refine Op1.inva rfl rfl (cn) rfl ?_;refine hK _ _ ?_;clear hK K)|refine st rfl ?_|refine sc rfl ?_|refine nl ?_|exact y'T T rfl (by(simp (disch:=omega) only[hget_eq])<;>rfl) rfl rfl rfl (z'a _) ⟨rfl,rfl⟩
end
end Go.Proofs.YtomcmfbpmkklmaaGreat
