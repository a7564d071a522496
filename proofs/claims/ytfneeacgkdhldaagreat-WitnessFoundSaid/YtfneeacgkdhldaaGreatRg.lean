/- Contracts: what can act. No condition. -/
import Derived.Test.YtfneeacgkdhldaaGreatRb
import Derived.Test.YtfneeacgkdhldaaGreatRa
import Derived.Test.YtfneeacgkdhldaaGreatZm
namespace Go.Proofs.YtfneeacgkdhldaaGreat
set_option maxHeartbeats 16000000
set_option linter.unusedSimpArgs false
set_option linter.unusedVariables false
set_option maxRecDepth 20000
open Go Go.Proofs Go.Vc
attribute [local irreducible] y'5 VCg VCw VCx
inductive Ag where
 |th (t:Nat)
 |fl (t:Nat) (l:Int)
def agD:Ag→D
 | .th t=> .ifc 160 (iD (t:Nat))
 | .fl t l=> .ifc 162 (.agg [iD (t:Nat),iD l])
def Zcc (l:List Ag):List (List D):=l.map fun a=>[agD a]
theorem Za2 (l:List Ag):(Zcc l).length=l.length:=z's ..
theorem ZiN (l:List Ag) (i:Nat):(Zcc l)[i]?=(l[i]?).map fun a=>[agD a]:=y'c ..
theorem ZlS (l:List Ag): ∀r,r∈Zcc l→r.length=1:=by
 intro r hr
 obtain⟨a,_,rfl⟩:=z'y.1 hr
 rfl
theorem Zkl (l:List Ag):(Zcc l).flatten=l.map agD:=by
 induction l with
 |nil=>rfl
 |cons a l ih=>simp only[Zcc,z'B,z'0]at ih⊢;rw[ih];rfl
def Zbw (k:Nat):List Ag:=(List.range k).map .th
def Zdw (u:Un) (m:Int) (t:Nat):List Ag:=if m=2 then[.fl t (-1)]else if m=3 then(List.range u.init.length).map fun(l:Nat)=> .fl t (l:Int)else[]
def ZbA (u:Un) (m:Int) (k:Nat):List Ag:=Zbw u.regs.length++(List.range k).flatMap (Zdw u m)
def y'C (u:Un) (m:Int):List Ag:=if y't u=true∧1≤m∧m≤3 then ZbA u m u.regs.length else[]
theorem ZlG (k:Nat):Zbw (k+1)=Zbw k++[.th k]:=by simp[Zbw,y'l]
theorem ZcE (u:Un) (m:Int) (k:Nat):ZbA u m (k+1)=ZbA u m k++Zdw u m k:=by simp[ZbA,y'l,y'u]
theorem v'T (k:Nat):(Zbw k).length=k:=by simp[Zbw]
theorem Zeo {u:Un} (h:y't u=true):u.regs.length≤4∧u.init.length≤6∧1≤u.regs.length:=by
 simp only[y't,w'H,z'i,decide_eq_true_eq]at h
 omega
theorem nI160: ∃d,Tryz.prog.underlying 160=some d∧ ∀ms,d≠ .interface ms:=⟨_,Tryz.underlying160,fun ms h=>by cases h⟩
theorem nI162: ∃d,Tryz.prog.underlying 162=some d∧ ∀ms,d≠ .interface ms:=⟨_,Tryz.underlying162,fun ms h=>by cases h⟩
theorem ZdZ (u:Un) (hu:OkU u) (m:Int):Pure Tryz.prog 93 [.agg (unC u),iD m] (.sl false 1 (Zcc (y'C u m))):=by
 have cu:=ZgS u hu
 refine Fun.freeze (ZlS _) ?_
 refine Fun.of T [.tmp 4] Tryz.func93 rfl Tryz.ntmps93 Tryz.results93 rfl (by kernel_rfl) ?_
 have fin0:y'C u m=[]→ ∀E:Nat→D,E 4= .gs none 0→y'5 T [.tmp 4] (fun d H'=> ∃g e,d= .gs g (Zcc (y'C u m)).length∧H'=shp g e 1 (Zcc (y'C u m)).flatten []) .ret ⟨E,[]⟩:=fun h E hE=>by
  rw[h]
  exact z'n T (z'a _) ⟨none,0,by rw[hE];rfl,rfl⟩
 cases hU:y't u with
 |false=>
  rw[hU]at cu
  repeat' first|refine vb rfl rfl rfl rfl ?_|refine vs T rfl fun K hK=>?_;(try simp (disch:=omega) only[go_sem,Nat.reduceBEq,Nat.reduceAdd,Nat.reduceLeDiff,z'r]);(first|refine hK _ _ ?_;clear hK K|refine Op1.callp rfl rfl (cu) rfl ?_;refine hK _ _ ?_;clear hK K)|refine st rfl ?_|refine sc rfl ?_|refine nl ?_|refine gs rfl rfl ?_
  exact fin0 (by simp[y'C,hU]) _ rfl
 |true=>
 rw[hU]at cu
 by_cases h1:m<1
 ·have e1:decide (m<1)=true:=by simpa using h1
  repeat' first|refine vb rfl rfl rfl rfl ?_|refine vs T rfl fun K hK=>?_;(try simp (disch:=omega) only[go_sem,Nat.reduceBEq,Nat.reduceAdd,Nat.reduceLeDiff,e1,z'l]);(first|refine hK _ _ ?_;clear hK K|refine Op1.callp rfl rfl (cu) rfl ?_;refine hK _ _ ?_;clear hK K)|refine st rfl ?_|refine sc rfl ?_|refine nl ?_|refine gs rfl rfl ?_
  exact fin0 (by simp[y'C];omega) _ rfl
 have e1:decide (m<1)=false:=by simpa using h1
 by_cases h3:m>3
 ·have e3:decide (m>3)=true:=by simpa using h3
  repeat' first|refine vb rfl rfl rfl rfl ?_|refine vs T rfl fun K hK=>?_;(try simp (disch:=omega) only[go_sem,Nat.reduceBEq,Nat.reduceAdd,Nat.reduceLeDiff,e1,e3,z'l]);(first|refine hK _ _ ?_;clear hK K|refine Op1.callp rfl rfl (cu) rfl ?_;refine hK _ _ ?_;clear hK K)|refine st rfl ?_|refine sc rfl ?_|refine nl ?_|refine gs rfl rfl ?_
  exact fin0 (by simp[y'C];omega) _ rfl
 have e3:decide (m>3)=false:=by simpa using h3
 clear fin0
 obtain⟨kn,ki,k0⟩:=Zeo hU
 have hA:y'C u m=ZbA u m u.regs.length:=if_pos ⟨hU,by omega,by omega⟩
 rw[hA]
 repeat' first|refine vb rfl rfl rfl rfl ?_|refine vs T rfl fun K hK=>?_;(try simp (disch:=omega) only[go_sem,Nat.reduceBEq,Nat.reduceAdd,Nat.reduceLeDiff,e1,e3,z'k,z'l]);(first|refine hK _ _ ?_;clear hK K|refine Op1.callp rfl rfl (cu) rfl ?_;refine hK _ _ ?_;clear hK K)|refine st rfl ?_|refine sc rfl ?_|refine nl ?_|refine gs rfl rfl ?_
 refine VC.loop {p:Nat×Option (Nat×Nat)//p.1≤u.regs.length} (fun p=>⟨z'J [(1,iD m),(2,.pt (unC u)),(5,.gs p.1.2 p.1.1),(22,iD (u.regs.length:Nat)),(23,iD (p.1.1:Nat))],shp p.1.2 145 1 ((Zbw p.1.1).map agD) []⟩) (fun p=>u.regs.length-p.1.1) ⟨(0,none),by dsimp only;omega⟩ ?_ ?_
 ·refine Weak.sub ?_
  simp[sub,upd]
 rintro⟨⟨k,g⟩,hk⟩
 dsimp only at hk⊢
 rcases z'g k u.regs.length with hlt|hge
 case inl=>
  have hd:decide ((k:Int)<(u.regs.length:Int))=true:=by simp;omega
  have hw:IntKind.i64.wrap ((k:Int)+1)=((k+1:Nat):Int):=by rw[w64 (by omega)];omega
  repeat' first|refine vs T rfl fun K hK=>?_;(try simp (disch:=omega) only[go_sem,Nat.reduceBEq,Nat.reduceMul,Nat.reduceLeDiff,hd,hw]);(first|refine⟨nI160,hK _ _ ?_⟩;clear hK K|refine hK _ _ ?_;clear hK K|refine⟨_,_,_,_,(by repeat (exact Sp.here)),?_,(by exact⟨rfl,rfl⟩),⟨by decide,?_⟩,fun g' hg'=>hK _ _ ?_⟩<;>clear hK K)|refine st rfl ?_|refine sc rfl ?_|refine nl ?_
  ·simp[v'T]
  ·omega
  ·refine⟨⟨(k+1,g'),by dsimp only;omega⟩,z'v ?_ ?_,by dsimp only;omega⟩
   ·dsimp only
    rw[ZlG,z'E]
    rfl
   ·simp[sub,upd]
 obtain rfl:k=u.regs.length:=by omega
 have hd:decide ((u.regs.length:Int)<(u.regs.length:Int))=false:=by simp
 repeat' first|refine vs T rfl fun K hK=>?_;(try simp (disch:=omega) only[go_sem,Nat.reduceBEq,hd,z'k]);(refine hK _ _ ?_;clear hK K)|refine st rfl ?_|refine sc rfl ?_|refine nl ?_
 refine VC.loop {p:Nat×List Ag×Option (Nat×Nat)//p.1≤u.regs.length∧p.2.1=ZbA u m p.1∧p.2.1.length≤10+10*p.1} (fun p=>⟨z'J [(1,iD m),(2,.pt (unC u)),(5,.gs p.1.2.2 p.1.2.1.length),(34,iD (u.regs.length:Nat)),(35,iD (p.1.1:Nat))],shp p.1.2.2 145 1 (p.1.2.1.map agD) []⟩) (fun p=>u.regs.length-p.1.1) ⟨(0,Zbw u.regs.length,g),by dsimp only;omega,by dsimp only;simp[ZbA],by dsimp only;rw[v'T];omega⟩ ?_ ?_
 ·refine Weak.sub ?_
  simp[sub,upd,v'T]
 rintro⟨⟨t,L,g⟩,ht,hL,hB⟩
 dsimp only at ht hL hB⊢
 rcases z'g t u.regs.length with hlt|hge
 case inr=>
  obtain rfl:t=u.regs.length:=by omega
  have hd:decide ((u.regs.length:Int)<(u.regs.length:Int))=false:=by simp
  repeat' first|refine vs T rfl fun K hK=>?_;(try simp (disch:=omega) only[go_sem,Nat.reduceBEq,hd]);(refine hK _ _ ?_;clear hK K)|refine st rfl ?_|refine sc rfl ?_|refine nl ?_
  exact z'n T (z'p _) ⟨g,145,by rw[←hL,Za2];rfl,by rw[←hL,Zkl]⟩
 have hd:decide ((t:Int)<(u.regs.length:Int))=true:=by simp;omega
 have hw:IntKind.i64.wrap ((t:Int)+1)=((t+1:Nat):Int):=by rw[w64 (by omega)];omega
 by_cases m2:m=2
 ·have f2:(m == 2)=true:=by simpa using m2
  repeat' first|refine vs T rfl fun K hK=>?_;(try simp (disch:=omega) only[go_sem,Nat.reduceBEq,Nat.reduceAdd,Nat.reduceMul,Nat.reduceLeDiff,hd,hw,f2]);(first|refine⟨nI162,hK _ _ ?_⟩;clear hK K|refine hK _ _ ?_;clear hK K|refine⟨_,_,_,_,(by repeat (exact Sp.here)),?_,(by exact⟨rfl,rfl⟩),⟨by decide,?_⟩,fun g' hg'=>hK _ _ ?_⟩<;>clear hK K)|refine st rfl ?_|refine sc rfl ?_|refine nl ?_
  ·simp
  ·omega
  ·refine⟨⟨(t+1,L++[.fl t (-1)],g'),by dsimp only;omega,by dsimp only;rw[ZcE, ←hL];simp[Zdw,m2],by dsimp only;simp;omega⟩,z'v ?_ ?_,by dsimp only;omega⟩
   ·dsimp only
    rw[z'E]
    rfl
   ·simp[sub,upd]
 have f2:(m == 2)=false:=by simpa using m2
 by_cases m3:m=3
 case neg=>
  have f3:(m == 3)=false:=by simpa using m3
  repeat' first|refine vs T rfl fun K hK=>?_;(try simp (disch:=omega) only[go_sem,Nat.reduceBEq,hd,hw,f2,f3]);(refine hK _ _ ?_;clear hK K)|refine st rfl ?_|refine sc rfl ?_|refine nl ?_
  refine⟨⟨(t+1,L,g),by dsimp only;omega,by dsimp only;rw[ZcE, ←hL];simp[Zdw,m2,m3],by dsimp only;omega⟩,z'v rfl ?_,by dsimp only;omega⟩
  simp[sub,upd]
 have f3:(m == 3)=true:=by simpa using m3
 repeat' first|refine vs T rfl fun K hK=>?_;(try simp (disch:=omega) only[go_sem,Nat.reduceBEq,hd,f2,f3,z'k]);(refine hK _ _ ?_;clear hK K)|refine st rfl ?_|refine sc rfl ?_|refine nl ?_
 refine VC.loop {p:Nat×List Ag×Option (Nat×Nat)//p.1≤u.init.length∧p.2.1=ZbA u m t++(List.range p.1).map (fun(l:Nat)=> .fl t (l:Int))∧p.2.1.length≤10+10*t+p.1} (fun p=>⟨z'J [(1,iD m),(2,.pt (unC u)),(5,.gs p.1.2.2 p.1.2.1.length),(7,iD (t:Nat)),(34,iD (u.regs.length:Nat)),(35,iD (t:Nat)),(51,iD (u.init.length:Nat)),(52,iD (p.1.1:Nat))],shp p.1.2.2 145 1 (p.1.2.1.map agD) []⟩) (fun p=>u.init.length-p.1.1) ⟨(0,L,g),by dsimp only;omega,by dsimp only;simp[hL],by dsimp only;omega⟩ ?_ ?_
 ·refine Weak.sub ?_
  simp[sub,upd]
 rintro⟨⟨l,L2,g2⟩,hl,hL2,hB2⟩
 dsimp only at hl hL2 hB2⊢
 rcases z'g l u.init.length with hlt2|hge2
 case inl=>
  have hd2:decide ((l:Int)<(u.init.length:Int))=true:=by simp;omega
  have hw2:IntKind.i64.wrap ((l:Int)+1)=((l+1:Nat):Int):=by rw[w64 (by omega)];omega
  repeat' first|refine vs T rfl fun K hK=>?_;(try simp (disch:=omega) only[go_sem,Nat.reduceBEq,Nat.reduceAdd,Nat.reduceMul,Nat.reduceLeDiff,hd2,hw2]);(first|refine⟨nI162,hK _ _ ?_⟩;clear hK K|refine hK _ _ ?_;clear hK K|refine⟨_,_,_,_,(by repeat (exact Sp.here)),?_,(by exact⟨rfl,rfl⟩),⟨by decide,?_⟩,fun g' hg'=>hK _ _ ?_⟩<;>clear hK K)|refine st rfl ?_|refine sc rfl ?_|refine nl ?_
  ·simp
  ·omega
  ·refine⟨⟨(l+1,L2++[.fl t (l:Int)],g'),by dsimp only;omega,by dsimp only;rw[hL2,y'l,z'E,y'u];rfl,by dsimp only;simp;omega⟩,z'v ?_ ?_,by dsimp only;omega⟩
   ·dsimp only
    rw[z'E]
    rfl
   ·simp[sub,upd]
 obtain rfl:l=u.init.length:=by omega
 have hd2:decide ((u.init.length:Int)<(u.init.length:Int))=false:=by simp
 repeat' first|refine vs T rfl fun K hK=>?_;(try simp (disch:=omega) only[go_sem,Nat.reduceBEq,hd2,hw]);(refine hK _ _ ?_;clear hK K)|refine st rfl ?_|refine sc rfl ?_|refine nl ?_
 refine⟨⟨(t+1,L2,g2),by dsimp only;omega,by dsimp only;rw[ZcE,hL2];simp[Zdw,m2,m3],by dsimp only;omega⟩,z'v rfl ?_,by dsimp only;omega⟩
 simp[sub,upd]
theorem mC1:Zb7 Tryz.prog 160 "spinnaker/machine.can" =some 150:=by kernel_rfl
theorem mA1:Zb7 Tryz.prog 160 "spinnaker/machine.act" =some 149:=by kernel_rfl
theorem mC2:Zb7 Tryz.prog 162 "spinnaker/machine.can" =some 179:=by kernel_rfl
theorem mA2:Zb7 Tryz.prog 162 "spinnaker/machine.act" =some 178:=by kernel_rfl
def ZlO (a:Ag) (name:String) (args:List D) (d0:D):Prop:= ∃t dv f,agD a= .ifc t dv∧Zb7 Tryz.prog t name=some f∧Pure Tryz.prog f (dv::args) d0
theorem Op1.inva {o:Oper} {E:Operand→D} {x:Operand} {name:String} {xs:Array Operand} {tys:Array TypeId} {a:Ag} {args:List D} {d0:D} {H:Heap} {K:D→Heap→Prop}
  (ho:o.op= .call ⟨.invoke x name,xs,tys⟩) (hE:E x=agD a) (hm:ZlO a name args d0) (ha:xs.toList.map E=args) (hk:K d0 H):Op1 Tryz.prog o E H K:=by
 obtain⟨t,dv,f,h1,h2,h3⟩:=hm
 exact Op1.invokep ho (hE.trans h1) h2 h3 (by rw[ha]) hk
theorem ZiM (a:Ag):oneD (agD a)=true:=by cases a<;>rfl
abbrev woC (u:Un) (c:Cf) (m r:Int):List D:=
 [iD u.md,z'C u.init,z'C u.regs,.sl false 1 (x'9 u.code),z'C c.pc,.sl false 1 (y'V c.regs),z'C c.mem,.sl false 1 (y'Y c.bufs),iD m,iD r]
def Zbh (u:Un) (c:Cf) (m r:Int):Ag→Bool
 | .th t=>enT u c m r (t:Nat)
 | .fl t l=>x'H c m (t:Nat) l
def ZjD (u:Un) (c:Cf) (m r:Int):Ag→Cf
 | .th t=>Zb2 u c m r (t:Nat)
 | .fl t l=>w'3 c m (t:Nat) l
section
variable {u : Un} {c : Cf} {m r : Int}
theorem Zkr (h:Rt u c m r) (a:Ag):ZlO a "spinnaker/machine.can" [.agg (woC u c m r)] (bD (Zbh u c m r a)):=by
 cases a with
 |th t=>
  refine⟨_,_,_,rfl,mC1,?_⟩
  have c1:=ZpW h r (t:Nat)
  refine Fun.of T [.tmp 4] Tryz.func150 rfl Tryz.ntmps150 Tryz.results150 rfl (by kernel_rfl) ?_
  repeat' first|refine vb rfl rfl rfl rfl ?_|refine vs T rfl fun K hK=>?_;(try simp (disch:=omega) only[go_sem,Nat.reduceBEq,Nat.reduceAdd,Nat.reduceLeDiff]);(first|refine hK _ _ ?_;clear hK K|refine Op1.callp rfl rfl (c1) rfl ?_;refine hK _ _ ?_;clear hK K)|refine st rfl ?_|refine nl ?_|exact z'n T (z'a _) ⟨rfl,rfl⟩
 |fl t l=>
  refine⟨_,_,_,rfl,mC2,?_⟩
  have c1:=ZfF c h.okC.buf m (t:Nat) l
  refine Fun.of T [.tmp 4] Tryz.func179 rfl Tryz.ntmps179 Tryz.results179 rfl (by kernel_rfl) ?_
  repeat' first|refine vb rfl rfl rfl rfl ?_|refine vs T rfl fun K hK=>?_;(try simp (disch:=omega) only[go_sem,Nat.reduceBEq,Nat.reduceAdd,Nat.reduceLeDiff]);(first|refine hK _ _ ?_;clear hK K|refine Op1.callp rfl rfl (c1) rfl ?_;refine hK _ _ ?_;clear hK K)|refine st rfl ?_|refine nl ?_|exact z'n T (z'a _) ⟨rfl,rfl⟩
theorem Znj (h:Rt u c m r) (a:Ag):ZlO a "spinnaker/machine.act" [.agg (woC u c m r)] (.tup [.agg (cfC (ZjD u c m r a)),bD (Zbh u c m r a)]):=by
 cases a with
 |th t=>
  refine⟨_,_,_,rfl,mA1,?_⟩
  have c1:=Znm h (t:Nat)
  refine Fun.of T [.cell 4 51,.tmp 5] Tryz.func149 rfl Tryz.ntmps149 Tryz.results149 rfl (by kernel_rfl) ?_
  repeat' first|refine vb rfl rfl rfl rfl ?_|refine vs T rfl fun K hK=>?_;(try simp (disch:=omega) only[go_sem,Nat.reduceBEq,Nat.reduceAdd,Nat.reduceLeDiff]);(first|refine hK _ _ ?_;clear hK K|intro bq hbq;(try simp only[HB]at hbq);refine hK _ _ ?_;clear hK K|refine Op1.callp rfl rfl (c1) rfl ?_;refine hK _ _ ?_;clear hK K)|refine st rfl ?_|refine nl ?_|exact x'g T rfl (by(simp (disch:=omega) only[hget_eq])<;>rfl) rfl rfl rfl (z'a _) ⟨rfl,rfl⟩
 |fl t l=>
  refine⟨_,_,_,rfl,mA2,?_⟩
  have c1:=Zma c h.okC h.locs m (t:Nat) l
  refine Fun.of T [.cell 4 51,.tmp 5] Tryz.func178 rfl Tryz.ntmps178 Tryz.results178 rfl (by kernel_rfl) ?_
  repeat' first|refine vb rfl rfl rfl rfl ?_|refine vs T rfl fun K hK=>?_;(try simp (disch:=omega) only[go_sem,Nat.reduceBEq,Nat.reduceAdd,Nat.reduceLeDiff]);(first|refine hK _ _ ?_;clear hK K|intro bq hbq;(try simp only[HB]at hbq);refine hK _ _ ?_;clear hK K|refine Op1.callp rfl rfl (c1) rfl ?_;refine hK _ _ ?_;clear hK K)|refine st rfl ?_|refine nl ?_|exact x'g T rfl (by(simp (disch:=omega) only[hget_eq])<;>rfl) rfl rfl rfl (z'a _) ⟨rfl,rfl⟩
end
theorem Zl9 {u:Un} (hi:u.init.length≤6) (m:Int) (t:Nat):(Zdw u m t).length≤6:=by
 unfold Zdw
 split
 ·simp
 split
 ·simpa using hi
 ·simp
theorem ZlT {u:Un} (hi:u.init.length≤6) (m:Int) (k:Nat):(ZbA u m k).length≤u.regs.length+6*k:=by
 induction k with
 |zero=>simp[ZbA,v'T]
 |succ k ih=>rw[ZcE,z'o];have:=Zl9 hi m k;omega
theorem v'd (u:Un) (m:Int):(y'C u m).length≤28:=by
 unfold y'C
 split
 ·rename_i h
  have:=Zeo h.1
  have:=ZlT this.2.1 m u.regs.length
  omega
 ·simp
def Zao (u:Un) (m a:Int):Option Ag:=match decide (0≤a)with|true=>(y'C u m)[a.toNat]?|false=>none
def agO:Option Ag→D
 |some a=>agD a
 |none=> .is .nilIface
theorem Zk6 (u:Un) (hu:OkU u) (m a:Int):Pure Tryz.prog 96 [.agg (unC u),iD m,iD a] (.tup [agO (Zao u m a),bD (Zao u m a).isSome]):=by
 have ca:=ZdZ u hu m
 have hl:=v'd u m
 refine Fun.of T [.tmp 6,.tmp 7] Tryz.func96 rfl Tryz.ntmps96 Tryz.results96 rfl (by kernel_rfl) ?_
 by_cases h1:a<0
 ·have e1:decide (a<0)=true:=by simpa using h1
  rw[show Zao u m a=none by simp[Zao,y'e.2 h1]]
  repeat' first|refine vb rfl rfl rfl rfl ?_|refine vs T rfl fun K hK=>?_;(try simp (disch:=omega) only[go_sem,Nat.reduceBEq,Nat.reduceAdd,Nat.reduceLeDiff,e1]);(first|refine hK _ _ ?_;clear hK K|refine Op1.callp rfl rfl (ca) rfl ?_;refine hK _ _ ?_;clear hK K)|refine st rfl ?_|refine sc rfl ?_|refine nl ?_|refine gs rfl rfl ?_|exact y'9 T (z'a _) ⟨rfl,rfl⟩
  all_goals rfl
 have e1:decide (a<0)=false:=by simpa using h1
 obtain⟨i,rfl⟩: ∃i:Nat,a=(i:Int):=⟨a.toNat,by omega⟩
 have hO:Zao u m (i:Nat)=(y'C u m)[i]?:=by simp[Zao]
 generalize y'C u m=A at*
 by_cases h2:(i:Int)≥(A.length:Int)
 ·have e2:decide ((i:Int)≥(A.length:Int))=true:=by simpa using h2
  rw[hO,z'z (show A.length≤i by omega)]
  repeat' first|refine vb rfl rfl rfl rfl ?_|refine vs T rfl fun K hK=>?_;(try simp (disch:=omega) only[go_sem,Nat.reduceBEq,Nat.reduceAdd,Nat.reduceLeDiff,e1,e2,Za2]);(first|refine hK _ _ ?_;clear hK K|refine Op1.callp rfl rfl (ca) rfl ?_;refine hK _ _ ?_;clear hK K)|refine st rfl ?_|refine sc rfl ?_|refine nl ?_|refine gs rfl rfl ?_|exact y'9 T (z'a _) ⟨rfl,rfl⟩
  all_goals rfl
 have e2:decide ((i:Int)≥(A.length:Int))=false:=by simpa using h2
 obtain⟨ag,ha⟩: ∃x,A[i]?=some x:=⟨_,z'b (by omega)⟩
 have ra:(Zcc A)[i]?=some [agD ag]:=by rw[ZiN,ha];rfl
 have l1:i<A.length:=by omega
 have o1:=ZiM ag
 rw[hO,ha]
 repeat' first|refine vb rfl rfl rfl rfl ?_|refine vs T rfl fun K hK=>?_;(try simp (disch:=omega) only[go_sem,Nat.reduceBEq,Nat.reduceAdd,Nat.reduceLeDiff,e1,e2,ra,Za2]);(first|refine hK _ _ ?_;clear hK K|refine⟨?_,hK _ _ ?_⟩<;>clear hK K;focus(try omega)|refine Op1.callp rfl rfl (ca) rfl ?_;refine hK _ _ ?_;clear hK K)|refine st rfl ?_|refine sc rfl ?_|refine nl ?_|refine gs rfl rfl ?_|exact y'9 T (z'a _) ⟨rfl,rfl⟩
 all_goals rfl
theorem ZjF (u:Un) (hu:OkU u) (m:Int):Pure Tryz.prog 56 [.agg (unC u),iD m] (iD ((y'C u m).length:Nat)):=by
 have ca:=ZdZ u hu m
 refine Fun.of T [.tmp 4] Tryz.func56 rfl Tryz.ntmps56 Tryz.results56 rfl (by kernel_rfl) ?_
 repeat' first|refine vb rfl rfl rfl rfl ?_|refine vs T rfl fun K hK=>?_;(try simp (disch:=omega) only[go_sem,Nat.reduceBEq,Nat.reduceAdd,Nat.reduceLeDiff,Za2]);(first|refine hK _ _ ?_;clear hK K|refine Op1.callp rfl rfl (ca) rfl ?_;refine hK _ _ ?_;clear hK K)|refine st rfl ?_|refine nl ?_|exact z'n T (z'a _) ⟨rfl,rfl⟩
def enM (u:Un) (c:Cf) (m r a:Int):Bool:=match Zao u m a with|some ag=>Zbh u c m r ag|none=>false
def actM (u:Un) (c:Cf) (m r a:Int):Cf:=match Zao u m a with|some ag=>ZjD u c m r ag|none=>c
section
variable {u : Un} {c : Cf} {m r : Int}
theorem Zo8 (h:Rt u c m r) (a:Int):Pure Tryz.prog 94 [.agg (unC u),.agg (cfC c),iD m,iD r,iD a] (bD (enM u c m r a)):=by
 have c1:=Zk6 u h.okU m a
 refine Fun.of T [.tmp 10] Tryz.func94 rfl Tryz.ntmps94 Tryz.results94 rfl (by kernel_rfl) ?_
 cases hO:Zao u m a with
 |none=>
  have c1':Pure Tryz.prog 96 [.agg (unC u),iD m,iD a] (.tup [.is .nilIface,bD false]):=by rw[hO]at c1;exact c1
  rw[show enM u c m r a=false by simp[enM,hO]]
  repeat' first|refine vb rfl rfl rfl rfl ?_|refine vs T rfl fun K hK=>?_;(try simp (disch:=omega) only[go_sem,Nat.reduceBEq,Nat.reduceAdd,Nat.reduceLeDiff]);(first|refine hK _ _ ?_;clear hK K|refine Op1.callp rfl rfl (c1') rfl ?_;refine hK _ _ ?_;clear hK K)|refine st rfl ?_|refine nl ?_|refine gs rfl rfl ?_|exact z'n T (z'a _) ⟨rfl,rfl⟩
 |some ag=>
  have c1':Pure Tryz.prog 96 [.agg (unC u),iD m,iD a] (.tup [agD ag,bD true]):=by rw[hO]at c1;exact c1
  have cn:=Zkr h ag
  rw[show enM u c m r a=Zbh u c m r ag by simp[enM,hO]]
  repeat' first|refine vb rfl rfl rfl rfl ?_|refine vs T rfl fun K hK=>?_;(try simp (disch:=omega) only[go_sem,Nat.reduceBEq,Nat.reduceAdd,Nat.reduceLeDiff]);(first|refine hK _ _ ?_;clear hK K|refine Op1.callp rfl rfl (c1') rfl ?_;refine hK _ _ ?_;clear hK K|refine Op1.inva rfl rfl (cn) rfl ?_;refine hK _ _ ?_;clear hK K)|refine st rfl ?_|refine nl ?_|refine gs rfl rfl ?_|exact z'n T (z'a _) ⟨rfl,rfl⟩
theorem Zl2 (c:Cf) (hc:OkC c):Pure Tryz.prog 97 [.agg (cfC c)] (.agg (cfC c)):=
 Fun.fz ((Zes c hc).mono fun d H' ⟨q,h1,h2,h3⟩=>by
  rw[h2,h3]
  exact⟨_,rfl,OC.fzL (X:=[]) h1 fun y hy=>hy⟩)
theorem ZiJ (h:Rt u c m r) (a:Int):Pure Tryz.prog 67 [.agg (unC u),.agg (cfC c),iD m,iD r,iD a] (.tup [.agg (cfC (actM u c m r a)),bD (enM u c m r a)]):=by
 have c1:=Zk6 u h.okU m a
 refine Fun.of T [.cell 10 51,.tmp 11] Tryz.func67 rfl Tryz.ntmps67 Tryz.results67 rfl (by kernel_rfl) ?_
 cases hO:Zao u m a with
 |none=>
  have c1':Pure Tryz.prog 96 [.agg (unC u),iD m,iD a] (.tup [.is .nilIface,bD false]):=by rw[hO]at c1;exact c1
  have c2:=Zl2 c h.okC
  rw[show enM u c m r a=false by simp[enM,hO],show actM u c m r a=c by simp[actM,hO]]
  repeat' first|refine vb rfl rfl rfl rfl ?_|refine vs T rfl fun K hK=>?_;(try simp (disch:=omega) only[go_sem,Nat.reduceBEq,Nat.reduceAdd,Nat.reduceLeDiff]);(first|refine hK _ _ ?_;clear hK K|intro bq hbq;(try simp only[HB]at hbq);refine hK _ _ ?_;clear hK K|refine Op1.callp rfl rfl (c1') rfl ?_;refine hK _ _ ?_;clear hK K|refine Op1.callp rfl rfl (c2) rfl ?_;refine hK _ _ ?_;clear hK K)|refine st rfl ?_|refine sc rfl ?_|refine nl ?_|exact x'g T rfl (by(simp (disch:=omega) only[hget_eq])<;>rfl) rfl rfl rfl (z'a _) ⟨rfl,rfl⟩
 |some ag=>
  have c1':Pure Tryz.prog 96 [.agg (unC u),iD m,iD a] (.tup [agD ag,bD true]):=by rw[hO]at c1;exact c1
  have cn:=Znj h ag
  rw[show enM u c m r a=Zbh u c m r ag by simp[enM,hO],show actM u c m r a=ZjD u c m r ag by simp[actM,hO]]
  repeat' first|refine vb rfl rfl rfl rfl ?_|refine vs T rfl fun K hK=>?_;(try simp (disch:=omega) only[go_sem,Nat.reduceBEq,Nat.reduceAdd,Nat.reduceLeDiff]);(first|refine hK _ _ ?_;clear hK K|intro bq hbq;(try simp only[HB]at hbq);refine hK _ _ ?_;clear hK K|refine Op1.callp rfl rfl (c1') rfl ?_;refine hK _ _ ?_;clear hK K|refine Op1.inva rfl rfl (cn) rfl ?_;refine hK _ _ ?_;clear hK K)|refine st rfl ?_|refine sc rfl ?_|refine nl ?_|exact x'g T rfl (by(simp (disch:=omega) only[hget_eq])<;>rfl) rfl rfl rfl (z'a _) ⟨rfl,rfl⟩
end
end Go.Proofs.YtfneeacgkdhldaaGreat
