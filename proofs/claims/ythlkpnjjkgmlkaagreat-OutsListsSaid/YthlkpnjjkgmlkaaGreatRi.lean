/- The program's steps of any thread. No condition. -/
import Derived.Test.YthlkpnjjkgmlkaaGreatZq
import Derived.Test.YthlkpnjjkgmlkaaGreatYr
import Derived.Test.YthlkpnjjkgmlkaaGreatRg
import Derived.Test.YthlkpnjjkgmlkaaGreatYla
namespace Go.Proofs.YthlkpnjjkgmlkaaGreat
set_option maxHeartbeats 16000000
set_option linter.unusedSimpArgs false
set_option linter.unusedVariables false
set_option maxRecDepth 20000
open Go Go.Proofs Go.Vc
attribute [local irreducible] x'c VCg VCw VCx
def ZcJ (u:Un) (c:Cf) (m r t:Int):Cf:=match enT u c m r t with
 |true=>match Zis u c t.toNat with
  |some x=>w'4 u (setP c t.toNat (c.pc.getD t.toNat 0+1)) m t.toNat x (c.regs.getD t.toNat []) (c.bufs.getD t.toNat [])
  |none=>c
 |false=>c
theorem Zl3 {u:Un} {c:Cf} {m r:Int} {i:Nat} {x:Ins} {row:List Int} {b:List En} {p:Nat} (h:Zs4 u c i x row b p):ZcJ u c m r (i:Nat)=ZpM u c m i x row b p (enT u c m r (i:Nat)):=by
 unfold ZcJ ZpM
 cases enT u c m r (i:Nat)with
 |false=>rfl
 |true=>
  simp only[z'q,h.thr.at_.ins,z'd,h.pc,h.thr.reg,h.thr.buf,z'M]
  rfl
theorem Zl4 {u:Un} {c:Cf} {m r t:Int} (h:enT u c m r t=false):ZcJ u c m r t=c:=by unfold ZcJ;rw[h]
theorem Zt9 {u:Un} {c:Cf} {m r:Int} (h:Rt u c m r) (k t:Int):Pure Tryz.prog 319 [.agg (unC u),.agg (cfC c),iD m,iD k,iD t] (bD (enT u c m k t)):=by
 by_cases ht:t<0∨t≥c.pc.length
 ·exact Znb u c m k t ht
 obtain⟨i,rfl⟩: ∃i:Nat,t=(i:Int):=⟨t.toNat,by omega⟩
 obtain⟨x,row,b,p,ha⟩:=h.at (i:=i) (by omega)
 exact Zna u c h.okC m k ha.thr
theorem Zs8 (u:Un) (c:Cf) (hc:OkC c) (m r t:Int) (h:t<0∨t≥c.pc.length):
  Fun Tryz.prog 318 [.agg (unC u),.agg (cfC c),iD m,iD r,iD t] [] false (fun d H'=> ∃q:OC,q.ok c∧d= .tup [.agg (q.cs c),bD false]∧H'=q.h c []):=by
 have cc:=ZdP c hc
 refine Fun.of T [.cell 10 69,.tmp 11] Tryz.func318 rfl Tryz.ntmps318 Tryz.results318 rfl (by kernel_rfl) ?_
 repeat' first|refine vb (t:=32) rfl rfl rfl rfl ?_|refine vb (t:=69) rfl rfl rfl rfl ?_|refine VC.drawS (id:=1) (by kernel_rfl) ?_|refine VCd.group T (s:=0) 6 11 rfl rfl (by kernel_rfl) (by kernel_rfl) (by kernel_rfl) ?_;(try simp only[y'a,Nat.reduceSub])|refine VCg.nil T ?_;simp only[ZaL,WB]|apply VCg.step T rfl rfl;focus((try simp (disch:=omega) only[go_sem,Nat.reduceBEq,Nat.reduceAdd,Nat.reduceLeDiff]);(exact rfl))|refine VCg.ownx T rfl rfl rfl rfl (cc) rfl ?_|refine vs T rfl fun K hK=>?_;(try simp (disch:=omega) only[go_sem,Nat.reduceAdd]);(first|refine hK _ _ ?_;clear hK K|intro bq hbq;(try simp only[HB]at hbq);refine hK _ _ ?_;clear hK K)|refine st rfl ?_|refine nl ?_
 rintro _ _ ⟨q,hq,rfl,rfl⟩ hap
 have cn:=Zro u c m r t h
 have hfz:FzL ((bq,.cells 69 4 [.gs none 0,.gs none 0,.gs none 0,.gs none 0])::q.h c []) [.agg (unC u),.agg (cfC c),iD m,iD r,iD t] [.agg (unC u),.agg (q.cs c),iD m,iD r,iD t]:=
  z'4 (Fz.refl _ _) (z'4 ⟨_,rfl,OC.fzL (X:=[]) hq fun y hy=>z'k _ hy⟩ (FzL.refl _ _))
 refine VCd.weak (Weak.perm (H':=(bq,.cells 69 4 [.gs none 0,.gs none 0,.gs none 0,.gs none 0])::q.h c []) (y'6 fun a=>by simp only[y'I,y'N,y'V];omega)) ?_
 repeat' first|refine VCd.tail (f:=11) (by kernel_rfl) ?_;(try simp only[y'j,y'a])|refine VCd.group T (s:=6) 11 11 rfl rfl (by kernel_rfl) (by kernel_rfl) (by kernel_rfl) ?_;(try simp only[y'j,y'a,Nat.reduceSub])|refine gn ?_|apply VCg.step T rfl rfl;focus((try simp (disch:=omega) only[go_sem,Nat.reduceBEq]);(first|exact rfl|refine Op1.lend rfl rfl (cn) (hfz) (.inr rfl) ?_;exact⟨rfl,rfl⟩))|refine vs T rfl fun K hK=>?_;(try simp (disch:=omega) only[go_sem,Nat.reduceBEq,Nat.reduceAdd,Nat.reduceLeDiff,z'O]);(first|refine hK _ _ ?_;clear hK K|skip)|refine st rfl ?_|refine sc rfl ?_|refine nl ?_|refine ov ?_
 refine Op1.callx rfl rfl cc rfl (fun q2 hq2=>?_)
 refine hK _ _ ?_
 clear hK K
 refine vo ?_
 refine VCo.weak (Weak.perm (H':=(bq,.cells 69 4 [.gs none 0,.gs none 0,.gs none 0,.gs none 0])::(q2.h c []++q.h c [])) (y'6 fun a=>by simp only[y'I,y'N,y'V];omega)) ?_
 repeat' first|refine vs T rfl fun K hK=>?_;(try simp (disch:=omega) only[go_sem,Nat.reduceBEq,Nat.reduceAdd,Nat.reduceLeDiff,OC.cs]);(refine hK _ _ ?_;clear hK K)|refine st rfl ?_|refine nl ?_|refine ov ?_
 exact w'N T rfl (by(try simp (disch:=omega) only[hget_ne,hget_eq]);rfl) rfl rfl rfl ((List.sublist_append_left _ _).trans (z'0 _ _)) ⟨q2,hq2,rfl,rfl⟩
theorem ZrM {u:Un} {c:Cf} {m r:Int} (h:Rt u c m r) (t:Int):
  Fun Tryz.prog 318 [.agg (unC u),.agg (cfC c),iD m,iD r,iD t] [] false (fun d H'=> ∃q:OC,q.ok (ZcJ u c m r t)∧d= .tup [.agg (q.cs (ZcJ u c m r t)),bD (enT u c m r t)]∧H'=q.h (ZcJ u c m r t) []):=by
 by_cases ht:t<0∨t≥c.pc.length
 ·have hn:=Zj5 (u:=u) (m:=m) (r:=r) ht
  rw[Zl4 hn,hn]
  exact Zs8 u c h.okC m r t ht
 obtain⟨i,rfl⟩: ∃i:Nat,t=(i:Int):=⟨t.toNat,by omega⟩
 obtain⟨x,row,b,p,ha⟩:=h.at (i:=i) (by omega)
 rw[Zl3 ha]
 have:=Zs9 u c h.okC m r i x row b ha.thr p ha.pc ha.pl ha.fit
 unfold ZpM
 exact this
theorem ZrN {u:Un} {c:Cf} {m r:Int} (h:Rt u c m r) (t:Int):Pure Tryz.prog 318 [.agg (unC u),.agg (cfC c),iD m,iD r,iD t] (.tup [.agg (cfC (ZcJ u c m r t)),bD (enT u c m r t)]):=
 Fun.fz ((ZrM h t).mono fun d H' ⟨q,h1,h2,h3⟩=>by
  rw[h2,h3]
  exact cfz h1 (fun y hy=>hy) _)
theorem mC1:Zb1 Tryz.prog 309 "spinnaker/machine.can" =some 316:=by kernel_rfl
theorem mA1:Zb1 Tryz.prog 309 "spinnaker/machine.act" =some 315:=by kernel_rfl
theorem mC2:Zb1 Tryz.prog 311 "spinnaker/machine.can" =some 342:=by kernel_rfl
theorem mA2:Zb1 Tryz.prog 311 "spinnaker/machine.act" =some 341:=by kernel_rfl
def ZpJ (a:Ag) (name:String) (args:List D) (d0:D):Prop:= ∃t dv f,agD a= .ifc t dv∧Zb1 Tryz.prog t name=some f∧Pure Tryz.prog f (dv::args) d0
theorem Op1.inva {o:Oper} {E:Operand→D} {x:Operand} {name:String} {xs:Array Operand} {tys:Array TypeId} {a:Ag} {args:List D} {d0:D} {H:Heap} {K:D→Heap→Prop}
  (ho:o.op= .call ⟨.invoke x name,xs,tys⟩) (hE:E x=agD a) (hm:ZpJ a name args d0) (ha:xs.toList.map E=args) (hk:K d0 H):Op1 Tryz.prog o E H K:=by
 obtain⟨t,dv,f,h1,h2,h3⟩:=hm
 exact Op1.invokep ho (hE.trans h1) h2 h3 (by rw[ha]) hk
theorem Zl5 (a:Ag):oneD (agD a)=true:=by cases a<;>rfl
abbrev woC (u:Un) (c:Cf) (m r:Int):List D:=
 [iD u.md,y'c u.init,y'c u.regs,.sl false 1 (Zax u.code),y'c c.pc,.sl false 1 (x'X c.regs),y'c c.mem,.sl false 1 (x'6 c.bufs),iD m,iD r]
def Ze2 (u:Un) (c:Cf) (m r:Int):Ag→Bool
 | .th t=>enT u c m r (t:Nat)
 | .fl t l=>w't c m (t:Nat) l
def ZpL (u:Un) (c:Cf) (m r:Int):Ag→Cf
 | .th t=>ZcJ u c m r (t:Nat)
 | .fl t l=>Zay c m (t:Nat) l
section
variable {u : Un} {c : Cf} {m r : Int}
theorem Ztf (h:Rt u c m r) (a:Ag):ZpJ a "spinnaker/machine.can" [.agg (woC u c m r)] (bD (Ze2 u c m r a)):=by
 cases a with
 |th t=>
  refine⟨_,_,_,rfl,mC1,?_⟩
  have c1:=Zt9 h r (t:Nat)
  refine Fun.of T [.tmp 4] Tryz.func316 rfl Tryz.ntmps316 Tryz.results316 rfl (by kernel_rfl) ?_
  repeat' first|refine vb rfl rfl rfl rfl ?_|refine vs T rfl fun K hK=>?_;(try simp (disch:=omega) only[go_sem,Nat.reduceBEq,Nat.reduceAdd,Nat.reduceLeDiff]);(first|refine hK _ _ ?_;clear hK K|refine Op1.callp rfl rfl (c1) rfl ?_;refine hK _ _ ?_;clear hK K)|refine st rfl ?_|refine nl ?_|exact z'A T (z'a _) ⟨rfl,rfl⟩
 |fl t l=>
  refine⟨_,_,_,rfl,mC2,?_⟩
  have c1:=Zhn c h.okC.buf m (t:Nat) l
  refine Fun.of T [.tmp 4] Tryz.func342 rfl Tryz.ntmps342 Tryz.results342 rfl (by kernel_rfl) ?_
  repeat' first|refine vb rfl rfl rfl rfl ?_|refine vs T rfl fun K hK=>?_;(try simp (disch:=omega) only[go_sem,Nat.reduceBEq,Nat.reduceAdd,Nat.reduceLeDiff]);(first|refine hK _ _ ?_;clear hK K|refine Op1.callp rfl rfl (c1) rfl ?_;refine hK _ _ ?_;clear hK K)|refine st rfl ?_|refine nl ?_|exact z'A T (z'a _) ⟨rfl,rfl⟩
theorem ZrK (h:Rt u c m r) (a:Ag):ZpJ a "spinnaker/machine.act" [.agg (woC u c m r)] (.tup [.agg (cfC (ZpL u c m r a)),bD (Ze2 u c m r a)]):=by
 cases a with
 |th t=>
  refine⟨_,_,_,rfl,mA1,?_⟩
  have c1:=ZrN h (t:Nat)
  refine Fun.of T [.cell 4 69,.tmp 5] Tryz.func315 rfl Tryz.ntmps315 Tryz.results315 rfl (by kernel_rfl) ?_
  repeat' first|refine vb rfl rfl rfl rfl ?_|refine vs T rfl fun K hK=>?_;(try simp (disch:=omega) only[go_sem,Nat.reduceBEq,Nat.reduceAdd,Nat.reduceLeDiff]);(first|refine hK _ _ ?_;clear hK K|intro bq hbq;(try simp only[HB]at hbq);refine hK _ _ ?_;clear hK K|refine Op1.callp rfl rfl (c1) rfl ?_;refine hK _ _ ?_;clear hK K)|refine st rfl ?_|refine nl ?_|exact w'N T rfl (by(simp (disch:=omega) only[hget_eq])<;>rfl) rfl rfl rfl (z'a _) ⟨rfl,rfl⟩
 |fl t l=>
  refine⟨_,_,_,rfl,mA2,?_⟩
  have c1:=Zp7 c h.okC h.locs m (t:Nat) l
  refine Fun.of T [.cell 4 69,.tmp 5] Tryz.func341 rfl Tryz.ntmps341 Tryz.results341 rfl (by kernel_rfl) ?_
  repeat' first|refine vb rfl rfl rfl rfl ?_|refine vs T rfl fun K hK=>?_;(try simp (disch:=omega) only[go_sem,Nat.reduceBEq,Nat.reduceAdd,Nat.reduceLeDiff]);(first|refine hK _ _ ?_;clear hK K|intro bq hbq;(try simp only[HB]at hbq);refine hK _ _ ?_;clear hK K|refine Op1.callp rfl rfl (c1) rfl ?_;refine hK _ _ ?_;clear hK K)|refine st rfl ?_|refine nl ?_|exact w'N T rfl (by(simp (disch:=omega) only[hget_eq])<;>rfl) rfl rfl rfl (z'a _) ⟨rfl,rfl⟩
end
theorem Zp6 {u:Un} (hi:u.init.length≤6) (m:Int) (t:Nat):(ZgE u m t).length≤6:=by
 unfold ZgE
 split
 ·simp
 split
 ·simpa using hi
 ·simp
theorem ZpP {u:Un} (hi:u.init.length≤6) (m:Int) (k:Nat):(Zdw u m k).length≤u.regs.length+6*k:=by
 induction k with
 |zero=>simp[Zdw,ZeT]
 |succ k ih=>rw[Zdf,z'h];have:=Zp6 hi m k;omega
theorem Zgy (u:Un) (m:Int):(Zaq u m).length≤28:=by
 unfold Zaq
 split
 ·rename_i h
  have:=ZfH h.1
  have:=ZpP this.2.1 m u.regs.length
  omega
 ·simp
def ZeJ (u:Un) (m a:Int):Option Ag:=match decide (0≤a)with|true=>(Zaq u m)[a.toNat]?|false=>none
def agO:Option Ag→D
 |some a=>agD a
 |none=> .is .nilIface
theorem ZtL (u:Un) (hu:OkU u) (m a:Int):Pure Tryz.prog 262 [.agg (unC u),iD m,iD a] (.tup [agO (ZeJ u m a),bD (ZeJ u m a).isSome]):=by
 have ca:=ZiM u hu m
 have hl:=Zgy u m
 refine Fun.of T [.tmp 6,.tmp 7] Tryz.func262 rfl Tryz.ntmps262 Tryz.results262 rfl (by kernel_rfl) ?_
 by_cases h1:a<0
 ·have e1:decide (a<0)=true:=by simpa using h1
  rw[show ZeJ u m a=none by simp[ZeJ,v'j.2 h1]]
  repeat' first|refine vb rfl rfl rfl rfl ?_|refine vs T rfl fun K hK=>?_;(try simp (disch:=omega) only[go_sem,Nat.reduceBEq,Nat.reduceAdd,Nat.reduceLeDiff,e1]);(first|refine hK _ _ ?_;clear hK K|refine Op1.callp rfl rfl (ca) rfl ?_;refine hK _ _ ?_;clear hK K)|refine st rfl ?_|refine sc rfl ?_|refine nl ?_|refine gs rfl rfl ?_|exact w'd T (z'a _) ⟨rfl,rfl⟩
  all_goals rfl
 have e1:decide (a<0)=false:=by simpa using h1
 obtain⟨i,rfl⟩: ∃i:Nat,a=(i:Int):=⟨a.toNat,by omega⟩
 have hO:ZeJ u m (i:Nat)=(Zaq u m)[i]?:=by simp[ZeJ]
 generalize Zaq u m=A at*
 by_cases h2:(i:Int)≥(A.length:Int)
 ·have e2:decide ((i:Int)≥(A.length:Int))=true:=by simpa using h2
  rw[hO,z'L (show A.length≤i by omega)]
  repeat' first|refine vb rfl rfl rfl rfl ?_|refine vs T rfl fun K hK=>?_;(try simp (disch:=omega) only[go_sem,Nat.reduceBEq,Nat.reduceAdd,Nat.reduceLeDiff,e1,e2,ZbD]);(first|refine hK _ _ ?_;clear hK K|refine Op1.callp rfl rfl (ca) rfl ?_;refine hK _ _ ?_;clear hK K)|refine st rfl ?_|refine sc rfl ?_|refine nl ?_|refine gs rfl rfl ?_|exact w'd T (z'a _) ⟨rfl,rfl⟩
  all_goals rfl
 have e2:decide ((i:Int)≥(A.length:Int))=false:=by simpa using h2
 obtain⟨ag,ha⟩: ∃x,A[i]?=some x:=⟨_,z'b (by omega)⟩
 have ra:(ZcK A)[i]?=some [agD ag]:=by rw[Zl6,ha];rfl
 have l1:i<A.length:=by omega
 have o1:=Zl5 ag
 rw[hO,ha]
 repeat' first|refine vb rfl rfl rfl rfl ?_|refine vs T rfl fun K hK=>?_;(try simp (disch:=omega) only[go_sem,Nat.reduceBEq,Nat.reduceAdd,Nat.reduceLeDiff,e1,e2,ra,ZbD]);(first|refine hK _ _ ?_;clear hK K|refine⟨?_,hK _ _ ?_⟩<;>clear hK K;focus(try omega)|refine Op1.callp rfl rfl (ca) rfl ?_;refine hK _ _ ?_;clear hK K)|refine st rfl ?_|refine sc rfl ?_|refine nl ?_|refine gs rfl rfl ?_|exact w'd T (z'a _) ⟨rfl,rfl⟩
 all_goals rfl
def enM (u:Un) (c:Cf) (m r a:Int):Bool:=match ZeJ u m a with|some ag=>Ze2 u c m r ag|none=>false
def actM (u:Un) (c:Cf) (m r a:Int):Cf:=match ZeJ u m a with|some ag=>ZpL u c m r ag|none=>c
section
variable {u : Un} {c : Cf} {m r : Int}
theorem ZpV (c:Cf) (hc:OkC c):Pure Tryz.prog 96 [.agg (cfC c)] (.agg (cfC c)):=
 Fun.fz ((ZdP c hc).mono fun d H' ⟨q,h1,h2,h3⟩=>by
  rw[h2,h3]
  exact⟨_,rfl,OC.fzL (X:=[]) h1 fun y hy=>hy⟩)
theorem ZrL (h:Rt u c m r) (a:Int):Pure Tryz.prog 218 [.agg (unC u),.agg (cfC c),iD m,iD r,iD a] (.tup [.agg (cfC (actM u c m r a)),bD (enM u c m r a)]):=by
 have c1:=ZtL u h.okU m a
 refine Fun.of T [.cell 10 69,.tmp 11] Tryz.func218 rfl Tryz.ntmps218 Tryz.results218 rfl (by kernel_rfl) ?_
 cases hO:ZeJ u m a with
 |none=>
  have c1':Pure Tryz.prog 262 [.agg (unC u),iD m,iD a] (.tup [.is .nilIface,bD false]):=by rw[hO]at c1;exact c1
  have c2:=ZpV c h.okC
  rw[show enM u c m r a=false by simp[enM,hO],show actM u c m r a=c by simp[actM,hO]]
  repeat' first|refine vb rfl rfl rfl rfl ?_|refine vs T rfl fun K hK=>?_;(try simp (disch:=omega) only[go_sem,Nat.reduceBEq,Nat.reduceAdd,Nat.reduceLeDiff]);(first|refine hK _ _ ?_;clear hK K|intro bq hbq;(try simp only[HB]at hbq);refine hK _ _ ?_;clear hK K|refine Op1.callp rfl rfl (c1') rfl ?_;refine hK _ _ ?_;clear hK K|refine Op1.callp rfl rfl (c2) rfl ?_;refine hK _ _ ?_;clear hK K)|refine st rfl ?_|refine sc rfl ?_|refine nl ?_|exact w'N T rfl (by(simp (disch:=omega) only[hget_eq])<;>rfl) rfl rfl rfl (z'a _) ⟨rfl,rfl⟩
 |some ag=>
  have c1':Pure Tryz.prog 262 [.agg (unC u),iD m,iD a] (.tup [agD ag,bD true]):=by rw[hO]at c1;exact c1
  have cn:=ZrK h ag
  rw[show enM u c m r a=Ze2 u c m r ag by simp[enM,hO],show actM u c m r a=ZpL u c m r ag by simp[actM,hO]]
  repeat' first|refine vb rfl rfl rfl rfl ?_|refine vs T rfl fun K hK=>?_;(try simp (disch:=omega) only[go_sem,Nat.reduceBEq,Nat.reduceAdd,Nat.reduceLeDiff]);(first|refine hK _ _ ?_;clear hK K|intro bq hbq;(try simp only[HB]at hbq);refine hK _ _ ?_;clear hK K|refine Op1.callp rfl rfl (c1') rfl ?_;refine hK _ _ ?_;clear hK K|refine Op1.inva rfl rfl (cn) rfl ?_;refine hK _ _ ?_;clear hK K)|refine st rfl ?_|refine sc rfl ?_|refine nl ?_|exact w'N T rfl (by(simp (disch:=omega) only[hget_eq])<;>rfl) rfl rfl rfl (z'a _) ⟨rfl,rfl⟩
end
section
variable {u : Un} {c : Cf} {m r : Int}
def mvK (u:Un) (c:Cf) (m r:Int) (A:List Ag) (k:Nat):List Int:=((List.range k).filter fun i=>(A[i]?).any (Ze2 u c m r)).map fun(i:Nat)=>(i:Int)
def Zbr (u:Un) (c:Cf) (m r:Int):List Int:=mvK u c m r (Zaq u m) (Zaq u m).length
theorem ZkX {A:List Ag} {k:Nat} {a:Ag} (h:A[k]?=some a):mvK u c m r A (k+1)=mvK u c m r A k++(match Ze2 u c m r a with|true=>[(k:Int)]|false=>[]):=by
 simp only[mvK,y'h,z'1,z'v]
 congr 1
 cases hc:Ze2 u c m r a<;>simp[h,hc]
theorem ZmE {A:List Ag} {k:Nat}:(mvK u c m r A k).length≤k:=by
 simp only[mvK,z'i]
 exact z'3 (List.length_filter_le _ _) (by simp)
theorem ZqE (h:Rt u c m r):Pure Tryz.prog 217 [.agg (unC u),.agg (cfC c),iD m,iD r] (y'c (Zbr u c m r)):=by
 have ca:=ZiM u h.okU m
 have hl:=Zgy u m
 unfold Zbr
 generalize Zaq u m=A at*
 refine Fun.freeze (Zf0 _) ?_
 refine Fun.of T [.tmp 8] Tryz.func217 rfl Tryz.ntmps217 Tryz.results217 rfl (by kernel_rfl) ?_
 repeat' first|refine vb rfl rfl rfl rfl ?_|refine vs T rfl fun K hK=>?_;(try simp (disch:=omega) only[go_sem,Nat.reduceBEq,Nat.reduceAdd,Nat.reduceLeDiff,ZbD]);(first|refine hK _ _ ?_;clear hK K|refine Op1.callp rfl rfl (ca) rfl ?_;refine hK _ _ ?_;clear hK K)|refine st rfl ?_|refine nl ?_
 refine VC.loop {p:Nat×List Int×Option (Nat×Nat)//p.1≤A.length∧p.2.1=mvK u c m r A p.1} (fun p=>⟨y'd [(2,iD m),(3,iD r),(4,.pt (unC u)),(5,.pt (cfC c)),(9,.gs p.1.2.2 p.1.2.1.length),(14,.sl false 1 (ZcK A)),(15,iD (A.length:Nat)),(16,iD (p.1.1:Nat))],shp p.1.2.2 3 1 (p.1.2.1.map iD) []⟩) (fun p=>A.length-p.1.1) ⟨(0,[],none),by dsimp only;omega,rfl⟩ ?_ ?_
 ·refine Weak.sub ?_
  simp[sub,upd]
 rintro⟨⟨k,L,g⟩,hk,hL⟩
 dsimp only at hk hL⊢
 have hLl:L.length≤k:=by rw[hL];exact ZmE
 rcases z'j k A.length with hlt|hge
 case inr=>
  obtain rfl:k=A.length:=by omega
  have hd:decide ((A.length:Int)<(A.length:Int))=false:=by simp
  repeat' first|refine vs T rfl fun K hK=>?_;(try simp (disch:=omega) only[go_sem,Nat.reduceBEq,hd]);(refine hK _ _ ?_;clear hK K)|refine st rfl ?_|refine sc rfl ?_|refine nl ?_
  exact z'A T (z'w _) ⟨g,3,by rw[←hL,z'I];rfl,by rw[←hL,ZkJ]⟩
 have hd:decide ((k:Int)<(A.length:Int))=true:=by simp;omega
 have hw:IntKind.i64.wrap ((k:Int)+1)=((k+1:Nat):Int):=by rw[w64 (by omega)];omega
 obtain⟨ag,ha⟩: ∃x,A[k]?=some x:=⟨_,z'b (by omega)⟩
 have ra:(ZcK A)[k]?=some [agD ag]:=by rw[Zl6,ha];rfl
 have o1:=Zl5 ag
 have cn:=Ztf h ag
 cases hE:Ze2 u c m r ag with
 |false=>
  rw[hE]at cn
  repeat' first|refine vs T rfl fun K hK=>?_;(try simp (disch:=omega) only[go_sem,Nat.reduceBEq,Nat.reduceAdd,Nat.reduceLeDiff,hd,hw,ra,ZbD]);(first|refine hK _ _ ?_;clear hK K|refine⟨?_,hK _ _ ?_⟩<;>clear hK K;focus(try omega)|refine Op1.inva rfl rfl (cn) rfl ?_;refine hK _ _ ?_;clear hK K)|refine st rfl ?_|refine sc rfl ?_|refine nl ?_
  refine⟨⟨(k+1,L,g),by dsimp only;omega,by dsimp only;rw[ZkX ha,hE,hL];simp⟩,z'S rfl ?_,by dsimp only;omega⟩
  simp[sub,upd]
 |true=>
  rw[hE]at cn
  repeat' first|refine vs T rfl fun K hK=>?_;(try simp (disch:=omega) only[go_sem,Nat.reduceBEq,Nat.reduceAdd,Nat.reduceMul,Nat.reduceLeDiff,hd,hw,ra,ZbD]);(first|refine hK _ _ ?_;clear hK K|refine⟨_,_,_,_,(by repeat (exact Sp.here)),?_,(by exact⟨rfl,rfl⟩),⟨by decide,?_⟩,fun g' hg'=>hK _ _ ?_⟩<;>clear hK K|refine⟨?_,hK _ _ ?_⟩<;>clear hK K;focus(try omega)|refine Op1.inva rfl rfl (cn) rfl ?_;refine hK _ _ ?_;clear hK K)|refine st rfl ?_|refine sc rfl ?_|refine nl ?_
  ·simp
  ·omega
  ·refine⟨⟨(k+1,L++[(k:Int)],g'),by dsimp only;omega,by dsimp only;rw[ZkX ha,hE,hL]⟩,z'S ?_ ?_,by dsimp only;omega⟩
   ·dsimp only
    rw[z'v]
    rfl
   ·simp[sub,upd]
end
end Go.Proofs.YthlkpnjjkgmlkaaGreat
