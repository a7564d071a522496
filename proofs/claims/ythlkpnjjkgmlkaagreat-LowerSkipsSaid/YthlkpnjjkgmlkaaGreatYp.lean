/- Contracts: what an instruction has, whether it fits. No condition. -/
import Derived.Test.YthlkpnjjkgmlkaaGreatYi
import Derived.Test.YthlkpnjjkgmlkaaGreatYb
import Derived.Test.YthlkpnjjkgmlkaaGreatXe
import Derived.Test.YthlkpnjjkgmlkaaGreatXa
import Derived.Test.YthlkpnjjkgmlkaaGreatWa
import Derived.Test.YthlkpnjjkgmlkaaGreatYd
import Derived.Test.YthlkpnjjkgmlkaaGreatK2
namespace Go.Proofs.YthlkpnjjkgmlkaaGreat
set_option maxHeartbeats 16000000
set_option linter.unusedSimpArgs false
set_option linter.unusedVariables false
set_option maxRecDepth 20000
open Go Go.Proofs Go.Vc
attribute [local irreducible] x'r VCg VCw VCx
theorem ZgI (has:Bool) (n m:Int):Pure Tryz.prog 178 [bD has,iD n,iD m] (bD (x'a has n m)):=by
 refine Fun.of T [.tmp 6] Tryz.func178 rfl Tryz.ntmps178 Tryz.results178 rfl (by kernel_rfl) ?_
 cases has with
 |true=>
  by_cases h1:n≥0
  ·have e1:decide (n≥0)=true:=by simpa using h1
   by_cases h2:n<m
   ·have e2:decide (n<m)=true:=by simpa using h2
    rw[show x'a true n m=true by simp[x'a,inB,h1,h2]]
    repeat' first|refine mq1 (mqt2 @e1 @e2) ?_|refine gu rfl rfl ?_|exact z'r T (z'a _) ⟨rfl,rfl⟩|fail
   ·have e2:decide (n<m)=false:=by simpa using h2
    rw[show x'a true n m=false by simp[x'a,inB,h2]]
    repeat' first|refine mq1 (mqt2 @e1 @e2) ?_|exact z'r T (z'a _) ⟨rfl,rfl⟩|fail
  ·have e1:decide (n≥0)=false:=by simpa using h1
   rw[show x'a true n m=false by simp[x'a,inB,h1]]
   repeat' first|refine mq1 @e1 ?_|exact z'r T (z'a _) ⟨rfl,rfl⟩|fail
 |false=>
  rw[show x'a false n m=(n == 0) from rfl]
  repeat' first|refine mq0 ?_|exact z'r T (z'a _) ⟨rfl,rfl⟩|fail
abbrev ndL (d:Nd):List D:=[bD d.r,bD d.l,bD d.e,bD d.f,bD d.n,bD d.t]
abbrev nd0:Nd:=⟨false,false,false,false,false,false⟩
abbrev ndV (d:Nd):Value:= .agg #[.bool d.r,.bool d.l,.bool d.e,.bool d.f,.bool d.n,.bool d.t]
def ndR (o:Option Nd):D:= .tup [.agg (ndL (o.getD nd0)),bD o.isSome]
def Zqo:List (Int×Value):=[(2,ndV ⟨true,false,true,false,false,false⟩),(3,ndV ⟨true,true,false,false,false,false⟩),(4,ndV ⟨false,true,true,false,false,false⟩),(5,ndV ⟨true,true,true,true,false,false⟩),(6,ndV ⟨true,true,true,false,false,false⟩),(7,ndV ⟨true,true,true,false,false,false⟩),(8,ndV nd0),(9,ndV ⟨false,true,true,false,true,false⟩),(20,ndV ⟨false,false,false,false,false,true⟩),(21,ndV ⟨false,false,true,false,false,true⟩)]
theorem ZoJ (op:Int):Zba op Zqo=(ndF op).map ndV:=by
 unfold Zqo ndF
 by_cases h2:op=2
 ·subst h2;rfl
 by_cases h3:op=3
 ·subst h3;rfl
 by_cases h4:op=4
 ·subst h4;rfl
 by_cases h5:op=5
 ·subst h5;rfl
 by_cases h6:op=6
 ·subst h6;rfl
 by_cases h7:op=7
 ·subst h7;rfl
 by_cases h8:op=8
 ·subst h8;rfl
 by_cases h9:op=9
 ·subst h9;rfl
 by_cases h20:op=20
 ·subst h20;rfl
 by_cases h21:op=21
 ·subst h21;rfl
 simp only[Zba,h2,h3,h4,h5,h6,h7,h8,h9,h20,h21,if_false,beq_eq_false_iff_ne.2 h2,beq_eq_false_iff_ne.2 h3,beq_eq_false_iff_ne.2 h4,beq_eq_false_iff_ne.2 h5,beq_eq_false_iff_ne.2 h6,beq_eq_false_iff_ne.2 h7,beq_eq_false_iff_ne.2 h8,beq_eq_false_iff_ne.2 h9,beq_eq_false_iff_ne.2 h20,beq_eq_false_iff_ne.2 h21,cond_false]
 rfl
theorem umN:Tryz.prog.underlying 266=some (.map 3 219):=by kernel_rfl
theorem zN:(Tryz.prog.info? 219).bind (·.zero)=some (ndV nd0):=by kernel_rfl
theorem Zru (d:Nd): ∀cs,ndV d= .agg cs→cs.toList.all Value.oneCell'=true:=fun cs h=>by cases h;rfl
theorem Zrw (op:Int):Pure Tryz.prog 176 [iD op] (ndR (ndF op)):=by
 refine Fun.of T [.cell 2 219,.tmp 3] Tryz.func176 rfl Tryz.ntmps176 Tryz.results176 rfl (by kernel_rfl) ?_
 repeat' first|refine vt rfl fun K hK=>?_;refine Zb9 rfl umN (fun x hx=>(by cases hx)) (fun bq hbq=>?_);(try simp only[HB]at hbq);refine hK _ _ ?_;clear hK K;(try simp only[updO])|refine vt rfl fun K hK=>?_;refine Zp7 (by exact .inr rfl) umN Tryz.underlying3 rfl rfl rfl (by(try simp (disch:=omega) only[hget_eq]);rfl) (by rfl) ?_;refine hK _ _ ?_;clear hK K;(try simp (disch:=omega) only[updO,hset_eq,y'h,y'D])|refine vs T rfl fun K hK=>?_;(try simp (disch:=omega) only[go_sem,Nat.reduceBEq,Nat.reduceAdd]);(first|refine hK _ _ ?_;clear hK K|intro bq hbq;(try simp only[HB]at hbq);refine hK _ _ ?_;clear hK K|skip)|refine st rfl ?_|refine nl ?_
 refine ZrN rfl umN Tryz.underlying3 zN rfl rfl hget_eq (r:=(ndV ((ndF op).getD nd0),(ndF op).isSome)) (show(match Zba op Zqo with|some v=>(v,true)|none=>(ndV nd0,false))=_ by rw[ZoJ];cases ndF op<;>rfl) (Zru _) ?_
 refine hK _ _ ?_
 clear hK K
 try simp only[updO]
 repeat' first|refine vs T rfl fun K hK=>?_;(try simp (disch:=omega) only[go_sem,Nat.reduceBEq,Nat.reduceAdd,Nat.reduceLeDiff,ZbM,z'p,y'a]);(first|refine hK _ _ ?_;clear hK K|intro bq hbq;(try simp only[HB]at hbq);refine hK _ _ ?_;clear hK K)|refine st rfl ?_|refine nl ?_|exact ZbV T rfl (by(simp (disch:=omega) only[hget_ne,hget_eq])<;>rfl) rfl rfl rfl (z'a _) ⟨rfl,rfl⟩
theorem Zoy (has:Bool) (l:List Opc) (hl:l.length≤1000) (n:Int) (b:Nat):Fun Tryz.prog 177 [bD has,y'0 l,pD b] [(b,.cells 3 1 [iD n])] false (fun d H'=>d=bD (Zas has l n)∧H'=[(b,.cells 3 1 [iD n])]):=by
 have c1:Pure Tryz.prog 130 [y'0 l,.gs none 0,iD n,iD 0] (bD (v'j l [] n 0)):=Fun.argsW (Zqb l hl [] (by simp) n 0) (y'f (Fz.refl _ _) (y'f x'I (FzL.refl _ _)))
 have he:((l.length:Int) == 0)=decide (l.length=0):=by rw[z'9];simp
 refine Fun.of T [.tmp 5] Tryz.func177 rfl Tryz.ntmps177 Tryz.results177 rfl (by kernel_rfl) ?_
 cases has with
 |true=>
  rw[show Zas true l n=v'j l [] n 0 from rfl]
  cases hc:v'j l [] n 0 with
  |true=>
   rw[hc]at c1
   repeat' first|refine mq3 c1 ?_|refine gu rfl rfl ?_|fail
   exact z'r T (z'n _) ⟨rfl,rfl⟩
  |false=>
   rw[hc]at c1
   repeat' first|refine mq3 c1 ?_|fail
   exact z'r T (z'n _) ⟨rfl,rfl⟩
 |false=>
  rw[show Zas false l n=decide (l.length=0) from rfl]
  repeat' first|refine mq1 (mqt2 @he @y'q) ?_|fail
  exact z'r T (z'n _) ⟨rfl,rfl⟩
theorem Zo9 (x:Ins) (he:x.e.length≤1000) (hf:x.f.length≤1000):Pure Tryz.prog 113 [.agg (insR x)] (bD (Zd7 x)):=by
 obtain⟨op,reg,loc,e,f,ne,to⟩:=x
 dsimp only at he hf
 have hw:IntKind.i64.wrap ((e.length:Int)+(f.length:Int))=((e.length+f.length:Nat):Int):=by rw[w64 (by omega)];omega
 have hD:Zd7 ⟨op,reg,loc,e,f,ne,to⟩=((op == 22)&&((reg == 0)&&((loc == 0)&&((to == 0)&&((!ne)&&(((e.length+f.length:Nat):Int) == 0)))))):=by
  have h0:(((e.length+f.length:Nat):Int) == 0)=(decide (e.length=0)&&decide (f.length=0)):=by
   rw[z'9];simp only[beq_iff_eq,z'd,decide_eq_true_eq];omega
  rw[z'9]
  simp only[Zd7,h0,z'd,decide_eq_true_eq,beq_iff_eq]
  constructor
  ·rintro⟨a,b,c,d,e,f,g⟩;exact⟨a,b,c,g,f,d,e⟩
  ·rintro⟨a,b,c,g,f,d,e⟩;exact⟨a,b,c,d,e,f,g⟩
 refine Fun.of T [.tmp 2] Tryz.func113 rfl Tryz.ntmps113 Tryz.results113 rfl (by kernel_rfl) ?_
 rw[hD]
 cases h1:op == 22 with
 |false=>
  repeat' first|refine vb rfl rfl rfl rfl ?_|refine mq1 (mqt2 @insR.eq_1 @h1) ?_|exact z'r T (z'a _) ⟨rfl,rfl⟩|fail
  all_goals rfl
 |true=>
 cases h2:reg == 0 with
 |false=>
  repeat' first|refine vb rfl rfl rfl rfl ?_|refine mq1 (mqt3 @insR.eq_1 @h1 @h2) ?_|exact z'r T (z'a _) ⟨rfl,rfl⟩|fail
  all_goals rfl
 |true=>
 cases h3:loc == 0 with
 |false=>
  repeat' first|refine vb rfl rfl rfl rfl ?_|refine mq1 (mqt4 @insR.eq_1 @h1 @h2 @h3) ?_|exact z'r T (z'a _) ⟨rfl,rfl⟩|fail
  all_goals rfl
 |true=>
 cases h4:to == 0 with
 |false=>
  repeat' first|refine vb rfl rfl rfl rfl ?_|refine mq1 (mqt5 @insR.eq_1 @h1 @h2 @h3 @h4) ?_|exact z'r T (z'a _) ⟨rfl,rfl⟩|fail
  all_goals rfl
 |true=>
 cases ne with
 |true=>
  repeat' first|refine vb rfl rfl rfl rfl ?_|refine mq1 (mqt5 @insR.eq_1 @h1 @h2 @h3 @h4) ?_|exact z'r T (z'a _) ⟨rfl,rfl⟩|fail
  all_goals rfl
 |false=>
  repeat' first|refine vb rfl rfl rfl rfl ?_|refine mq1 (mqt7 @insR.eq_1 @h1 @h2 @h3 @h4 @hw @y'q) ?_|exact z'r T (z'a _) ⟨rfl,rfl⟩|fail
  all_goals rfl
theorem ZsO {x:Ins} {d:Nd} (h:ndF x.op=some d) (regs locs many:Int):w'w x regs locs many=(((!x.ne)||d.n)&&(x'a d.r x.reg regs&&(x'a d.l x.loc locs&&(x'a d.t x.to many&&(Zas d.e x.e regs&&Zas d.f x.f regs))))):=by
 unfold w'w
 rw[h]
 simp only[]
 cases x.ne<;>cases d.n<;>cases x'a d.r x.reg regs<;>cases x'a d.l x.loc locs<;>cases x'a d.t x.to many<;>cases Zas d.e x.e regs<;>cases Zas d.f x.f regs<;>rfl
theorem Zq6 (x:Ins) (he:x.e.length≤1000) (hf:x.f.length≤1000) (regs locs many:Int):Pure Tryz.prog 114 [.agg (insR x),iD regs,iD locs,iD many] (bD (w'w x regs locs many)):=by
 have c0:=Zrw x.op
 refine Fun.of T [.tmp 8] Tryz.func114 rfl Tryz.ntmps114 Tryz.results114 rfl (by kernel_rfl) ?_
 cases hN:ndF x.op with
 |none=>
  have c0':Pure Tryz.prog 176 [iD x.op] (.tup [.agg [bD false,bD false,bD false,bD false,bD false,bD false],bD false]):=by rw[hN]at c0;exact c0
  rw[show w'w x regs locs many=false by simp[w'w,hN]]
  repeat' first|refine vb (t:=104) rfl rfl rfl rfl ?_|refine mq2 @insR.eq_1 c0' ?_|refine mqn fun bq hbq=>?_|refine gu rfl rfl ?_|exact z'r T (z'a _) ⟨rfl,rfl⟩|fail
 |some d=>
 have c0':Pure Tryz.prog 176 [iD x.op] (.tup [.agg [bD d.r,bD d.l,bD d.e,bD d.f,bD d.n,bD d.t],bD true]):=by rw[hN]at c0;exact c0
 rw[ZsO hN]
 obtain⟨dr,dl,de,df,dn,dt⟩:=d
 dsimp only at c0'⊢
 have c1:=ZgI dr x.reg regs
 have c2:=ZgI dl x.loc locs
 have c3:=ZgI dt x.to many
 cases hne:((!x.ne)||dn)with
 |false=>
  obtain⟨h1,h2⟩:x.ne=true∧dn=false:=by cases hx:x.ne<;>cases dn<;>simp_all
  subst h2
  repeat' first|refine vb (t:=104) rfl rfl rfl rfl ?_|refine mq2 (mqt2 @insR.eq_1 @h1) c0' ?_|refine mqn fun bq hbq=>?_|exact z'r T (z'a _) ⟨rfl,rfl⟩|fail
  all_goals rfl
 |true=>
 have hpre:x.ne=false∨(x.ne=true∧dn=true):=by cases hx:x.ne<;>cases dn<;>simp_all
 rcases hpre with h1|⟨h1,h2⟩
 case' inl=>
  repeat' first|refine vb (t:=104) rfl rfl rfl rfl ?_|refine vs T rfl fun K hK=>?_;(try simp (disch:=omega) only[go_sem,Nat.reduceBEq,Nat.reduceAdd,Nat.reduceLeDiff,insR,h1,z'H]);(first|refine hK _ _ ?_;clear hK K|intro bq hbq;(try simp only[HB]at hbq);refine hK _ _ ?_;clear hK K|refine Op1.callp rfl rfl (c0') rfl ?_;refine hK _ _ ?_;clear hK K|skip)|refine st rfl ?_|refine sc rfl ?_|refine nl ?_|refine gs rfl rfl ?_
 case' inr=>
  repeat' first|refine vb (t:=104) rfl rfl rfl rfl ?_|refine vs T rfl fun K hK=>?_;(try simp (disch:=omega) only[go_sem,Nat.reduceBEq,Nat.reduceAdd,Nat.reduceLeDiff,insR,h1,h2,z'H]);(first|refine hK _ _ ?_;clear hK K|intro bq hbq;(try simp only[HB]at hbq);refine hK _ _ ?_;clear hK K|refine Op1.callp rfl rfl (c0') rfl ?_;refine hK _ _ ?_;clear hK K|skip)|refine st rfl ?_|refine sc rfl ?_|refine nl ?_|refine gs rfl rfl ?_
 all_goals
  rename_i b5 hb5
  have n1: ¬bq=b5:=hbq
  refine w'h (us:=[.pointer (some ⟨b5,0,none⟩)]) rfl rfl ?_
  refine hK _ _ ?_
  clear hK K
  try simp only[updO]
  cases hp1:x'a dr x.reg regs with
  |false=>
   rw[hp1]at c1
   repeat' first|refine mq3 c1 ?_|exact z'r T (z'a _) ⟨rfl,rfl⟩|fail
   all_goals rfl
  |true=>
  rw[hp1]at c1
  cases hp2:x'a dl x.loc locs with
  |false=>
   rw[hp2]at c2
   repeat' first|refine mq3 (mqt2 c1 c2) ?_|exact z'r T (z'a _) ⟨rfl,rfl⟩|fail
   all_goals rfl
  |true=>
  rw[hp2]at c2
  cases hp3:x'a dt x.to many with
  |false=>
   rw[hp3]at c3
   repeat' first|refine mq3 (mqt3 c1 c2 c3) ?_|exact z'r T (z'a _) ⟨rfl,rfl⟩|fail
   all_goals rfl
  |true=>
  rw[hp3]at c3
  repeat' first|refine vs T rfl fun K hK=>?_;(try simp (disch:=omega) only[go_sem,Nat.reduceBEq]);(first|refine hK _ _ ?_;clear hK K|refine Op1.callp rfl rfl (c1) rfl ?_;refine hK _ _ ?_;clear hK K|refine Op1.callp rfl rfl (c2) rfl ?_;refine hK _ _ ?_;clear hK K|refine Op1.callp rfl rfl (c3) rfl ?_;refine hK _ _ ?_;clear hK K|skip)|refine st rfl ?_|refine nl ?_|refine gs rfl rfl ?_
  refine Op1.callG (Hp:=[(b5,.cells 3 1 [iD regs])]) (Hr:=[(bq,.cells 219 6 [bD dr,bD dl,bD de,bD df,_,bD dt])]) rfl rfl rfl (Zoy de x.e he regs b5) (List.Perm.swap _ _ []) (fun d' H' hd'=>?_)
  obtain⟨rfl,rfl⟩:=hd'
  refine hK _ _ ?_
  clear hK K
  try simp only[updO,y'D,y'h]
  cases hc4:Zas de x.e regs with
  |false=>
   repeat' first|refine mq0 ?_|exact z'r T (z'a _) ⟨rfl,rfl⟩|fail
   all_goals rfl
  |true=>
  repeat' first|refine vs T rfl fun K hK=>?_;(try simp (disch:=omega) only[go_sem,Nat.reduceBEq]);(first|refine hK _ _ ?_;clear hK K|skip)|refine gs rfl rfl ?_
  refine Op1.callG (Hp:=[(b5,.cells 3 1 [iD regs])]) (Hr:=[(bq,.cells 219 6 [bD dr,bD dl,bD de,bD df,_,bD dt])]) rfl rfl rfl (Zoy df x.f hf regs b5) (y't _) (fun d' H' hd'=>?_)
  obtain⟨rfl,rfl⟩:=hd'
  refine hK _ _ ?_
  clear hK K
  try simp only[updO,y'D,y'h]
  repeat' first|refine mq0 ?_|exact z'r T (z'a _) ⟨rfl,rfl⟩|fail
  all_goals rfl
theorem ZpB (b:List Ins) (k:Nat):(y'Y b).take k=y'Y (b.take k):=by rw[y'Y,y'Y,List.map_take]
def Zbn (n locs:Int) (r:List Ins):Bool:=(decide (1≤r.length)&&decide (r.length≤1000)&&Zd7 (r.getD (r.length-1) default))&&((List.range (r.length-1)).all fun i=>w'w (r.getD i default) n locs r.length)
theorem Zhw (n locs:Int) (r:List Ins):ZcO n locs r=(decide (0≤n)&&decide (n≤6)&&Zbn n locs r):=by
 unfold ZcO Zbn
 simp only[Bool.and_assoc]
theorem ZrT (r:List Ins) (hrl:r.length≤100000) (hins: ∀x,x∈r→x.e.length≤1000∧x.f.length≤1000) (n locs:Int):Pure Tryz.prog 64 [.sl false 7 (y'Y r),iD n,iD locs] (bD (Zbn n locs r)):=by
 have hwl:IntKind.i64.wrap ((r.length:Int)-1)=(r.length:Int)-1:=by rw[w64 (by omega)]
 refine Fun.of T [.tmp 6] Tryz.func64 rfl Tryz.ntmps64 Tryz.results64 rfl (by kernel_rfl) ?_
 by_cases q0:r.length=0
 ·have s0:decide ((r.length:Int)-1<0)=true:=by simp;omega
  rw[show Zbn n locs r=false by simp[Zbn,q0]]
  repeat' first|refine mq1 (mqt3 @hwl @s0 @y'W) ?_|exact z'r T (z'a _) ⟨rfl,rfl⟩|fail
 have s0:decide ((r.length:Int)-1<0)=false:=by simp;omega
 by_cases q1:r.length>1000
 ·have s1:decide ((r.length:Int)-1≥1000)=true:=by simp;omega
  rw[show Zbn n locs r=false by simp[Zbn];omega]
  repeat' first|refine mq1 (mqt4 @hwl @s0 @s1 @y'W) ?_|exact z'r T (z'a _) ⟨rfl,rfl⟩|fail
 have s1:decide ((r.length:Int)-1≥1000)=false:=by simp;omega
 have hk:((r.length:Int)-1)=((r.length-1:Nat):Int):=by omega
 rw[hk]at s0 s1
 have hwl:IntKind.i64.wrap ((r.length:Int)-1)=((r.length-1:Nat):Int):=by rw[hwl];exact hk
 clear hk
 obtain⟨xl,hxl⟩: ∃x,r[r.length-1]?=some x:=⟨_,z'k (by omega)⟩
 have rx:(y'Y r)[r.length-1]?=some [iD xl.op,iD xl.reg,iD xl.loc,y'0 xl.e,y'0 xl.f,bD xl.ne,iD xl.to]:=by rw[Zkg,hxl];rfl
 have hgl:r.getD (r.length-1) default=xl:=by rw[z'f,hxl];rfl
 have hl0:r.length-1<r.length:=by omega
 have cd:=Zo9 xl (hins xl (z'E hxl)).1 (hins xl (z'E hxl)).2
 cases hdn:Zd7 xl with
 |false=>
  rw[hdn]at cd
  rw[show Zbn n locs r=false by simp only[Zbn,hgl,hdn,w'm,x'e]]
  repeat' first|refine mq2 (mqt5 @hwl @s0 @s1 @rx @y'W) cd ?_|refine .wk ?_ ?_;focus(try omega)|exact z'r T (z'a _) ⟨rfl,rfl⟩|fail
 |true=>
 rw[hdn]at cd
 have hRow:Zbn n locs r=(List.range (r.length-1)).all fun i=>w'w (r.getD i default) n locs r.length:=by
  unfold Zbn
  rw[hgl,hdn]
  have:(decide (1≤r.length)&&decide (r.length≤1000)&&true)=true:=by simp;omega
  rw[this];rfl
 have htl:(r.take (r.length-1)).length=r.length-1:=by rw[z'T];omega
 generalize hq:r.take (r.length-1)=q at*
 repeat' first|refine mq2 (mqt8 @hwl @s0 @s1 @rx @y'W @ZpB @hq @htl) cd ?_|refine .wk ?_ ?_;focus(try omega)|fail
 refine VC.loop {i:Nat//i≤r.length-1∧ ∀j,j<i→w'w (r.getD j default) n locs r.length=true} (fun p=>⟨z'0 [(0,.sl false 7 (y'Y r)),(1,iD n),(2,iD locs),(29,.sl false 7 (y'Y q)),(30,iD (r.length-1:Nat)),(31,iD (p.1:Nat))],[]⟩) (fun p=>r.length-p.1) ⟨0,by omega,fun j hj=>by omega⟩ ?_ ?_
 ·refine Weak.sub ?_
  simp[sub,upd]
 rintro⟨i,hi,hsi⟩
 dsimp only
 have hwi:IntKind.i64.wrap ((i:Int)+1)=((i+1:Nat):Int):=by rw[w64 (by omega)];omega
 rcases z'g i (r.length-1)with hlt|hge
 case inr=>
  have hd:decide ((i:Int)<((r.length-1:Nat):Int))=false:=by simp;omega
  rw[show Zbn n locs r=true by rw[hRow];exact Zfl fun j hj=>hsi j (by omega)]
  repeat' first|refine mq1 @hd ?_|exact z'r T (z'a _) ⟨rfl,rfl⟩|fail
 have hd:decide ((i:Int)<((r.length-1:Nat):Int))=true:=by simp;omega
 obtain⟨x,hx⟩: ∃x,r[i]?=some x:=⟨_,z'k (by omega)⟩
 have hxq:q[i]?=some x:=by rw[←hq,y'1,if_pos hlt,hx]
 have rx2:(y'Y q)[i]?=some [iD x.op,iD x.reg,iD x.loc,y'0 x.e,y'0 x.f,bD x.ne,iD x.to]:=by rw[Zkg,hxq];rfl
 have hgx:r.getD i default=x:=by rw[z'f,hx];rfl
 have hef:=hins x (z'E hx)
 have co:=Zq6 x hef.1 hef.2 n locs r.length
 cases hO:w'w x n locs r.length with
 |false=>
  rw[hO]at co
  rw[show Zbn n locs r=false by rw[hRow];exact ZiP hlt (by rw[hgx];exact hO)]
  repeat' first|refine mq2 (mqt4 @hd @rx2 @htl @y'W) co ?_|refine mqn fun bq hbq=>?_|refine .wk ?_ ?_;focus(try omega)|exact z'r T (z'a _) ⟨rfl,rfl⟩|fail
 |true=>
  rw[hO]at co
  repeat' first|refine mq2 (mqt5 @hd @hwi @rx2 @htl @y'W) co ?_|refine mqn fun bq hbq=>?_|refine .wk ?_ ?_;focus(try omega)|fail
  refine⟨⟨i+1,by omega,fun j hj=>?_⟩,Weak.subH (z'a _) ?_,by dsimp only;omega⟩
  ·rcases z'g j i with h'|h'
   ·exact hsi j h'
   ·obtain rfl:j=i:=by omega
    rw[hgx];exact hO
  ·simp[sub,upd]
theorem ZiQ (u:Un) (hu:OkU u):Pure Tryz.prog 19 [.agg (unC u)] (bD (x'Q u)):=by
 have k1:=hu.ini
 have k2:=hu.reg
 have k3:=hu.cod
 refine Fun.of T [.tmp 2] Tryz.func19 rfl Tryz.ntmps19 Tryz.results19 rfl (by kernel_rfl) ?_
 by_cases q0:u.md<2
 ·have s0:decide (u.md<2)=true:=by simpa using q0
  rw[show x'Q u=false by simp[x'Q,Zau];omega]
  repeat' first|refine vb rfl rfl rfl rfl ?_|refine mq1 @s0 ?_|exact z'r T (z'a _) ⟨rfl,rfl⟩|fail
 have s0:decide (u.md<2)=false:=by simpa using q0
 by_cases q1:u.md>16
 ·have s1:decide (u.md>16)=true:=by simpa using q1
  rw[show x'Q u=false by simp[x'Q,Zau];omega]
  repeat' first|refine vb rfl rfl rfl rfl ?_|refine mq1 (mqt2 @s0 @s1) ?_|exact z'r T (z'a _) ⟨rfl,rfl⟩|fail
 have s1:decide (u.md>16)=false:=by simpa using q1
 by_cases q2:u.init.length>6
 ·have s2:decide ((u.init.length:Int)>6)=true:=by simp;omega
  rw[show x'Q u=false by simp[x'Q,Zau];omega]
  repeat' first|refine vb rfl rfl rfl rfl ?_|refine mq1 (mqt4 @s0 @s1 @s2 @y'T) ?_|exact z'r T (z'a _) ⟨rfl,rfl⟩|fail
 have s2:decide ((u.init.length:Int)>6)=false:=by simp;omega
 by_cases q3:u.regs.length=0
 ·have s3:((u.regs.length:Int) == 0)=true:=beq_iff_eq.2 (by omega)
  rw[show x'Q u=false by simp[x'Q,Zau,q3]]
  repeat' first|refine vb rfl rfl rfl rfl ?_|refine mq1 (mqt5 @s0 @s1 @s2 @s3 @y'T) ?_|exact z'r T (z'a _) ⟨rfl,rfl⟩|fail
 have s3:((u.regs.length:Int) == 0)=false:=beq_eq_false_iff_ne.2 (by omega)
 by_cases q4:u.regs.length>4
 ·have s4:decide ((u.regs.length:Int)>4)=true:=by simp;omega
  rw[show x'Q u=false by simp[x'Q,Zau];omega]
  repeat' first|refine vb rfl rfl rfl rfl ?_|refine mq1 (mqt6 @s0 @s1 @s2 @s3 @s4 @y'T) ?_|exact z'r T (z'a _) ⟨rfl,rfl⟩|fail
 have s4:decide ((u.regs.length:Int)>4)=false:=by simp;omega
 by_cases q5:u.code.length=u.regs.length
 case neg=>
  have s5:((u.code.length:Int) != (u.regs.length:Int))=true:=by simp;omega
  rw[show x'Q u=false by simp[x'Q,Zau,q5]]
  repeat' first|refine vb rfl rfl rfl rfl ?_|refine mq1 (mqt8 @s0 @s1 @s2 @s3 @s4 @s5 @y'T @w'r) ?_|exact z'r T (z'a _) ⟨rfl,rfl⟩|fail
 have s5:((u.code.length:Int) != (u.regs.length:Int))=false:=by simp;omega
 repeat' first|refine vb rfl rfl rfl rfl ?_|refine mq1 (mqt8 @s0 @s1 @s2 @s3 @s4 @s5 @y'T @w'r) ?_|fail
 have hH:Zau u=x'A u.init u.md:=by
  have h1:decide (2≤u.md)=true:=by simp;omega
  have h2:decide (u.md≤16)=true:=by simp;omega
  have h3:decide (u.init.length≤6)=true:=by simp;omega
  have h4:decide (1≤u.regs.length)=true:=by simp;omega
  have h5:decide (u.regs.length≤4)=true:=by simp;omega
  simp only[Zau,h1,h2,h3,h4,h5,decide_eq_true q5,y'g,x'8]
 refine VC.loop {k:Nat//k≤u.init.length∧ ∀(i:Nat) (y:Int),i<k→u.init[i]?=some y→inB y u.md=true} (fun p=>⟨z'0 [(1,.pt (unC u)),(43,w'H u.init),(44,iD (u.init.length:Nat)),(45,iD (p.1:Nat))],[]⟩) (fun p=>u.init.length-p.1) ⟨0,by omega,fun i y hi=>by omega⟩ ?_ ?_
 ·refine Weak.sub ?_
  simp[sub,upd]
 rintro⟨k,hk,hs⟩
 dsimp only
 rcases z'g k u.init.length with hlt|hge
 case inl=>
  have hd:decide ((k:Int)<(u.init.length:Int))=true:=by simp;omega
  have hw:IntKind.i64.wrap ((k:Int)+1)=((k+1:Nat):Int):=by rw[w64 (by omega)];omega
  obtain⟨n,hn⟩: ∃n,u.init[k]?=some n:=⟨_,z'k hlt⟩
  have rn:(iRs u.init)[k]?=some [iD n]:=by rw[Ze9,hn];rfl
  have bad:inB n u.md=false→x'Q u=false:=fun h=>by
   have:x'A u.init u.md=false:=Zll (p:=fun n=>inB n u.md) hn h
   simp[x'Q,hH,this]
  by_cases p0:n<0
  ·have d0:decide (n<0)=true:=by simpa using p0
   rw[bad (by simp[inB];omega)]
   repeat' first|refine mq1 (mqt4 @hd @rn @d0 @y'T) ?_|refine .wk ?_ ?_;focus(try omega)|exact z'r T (z'a _) ⟨rfl,rfl⟩|fail
  have d0:decide (n<0)=false:=by simpa using p0
  by_cases p1:n≥u.md
  ·have d1:decide (n≥u.md)=true:=by simpa using p1
   rw[bad (by simp[inB];omega)]
   repeat' first|refine mq1 (mqt5 @hd @rn @d0 @d1 @y'T) ?_|refine .wk ?_ ?_;focus(try omega)|exact z'r T (z'a _) ⟨rfl,rfl⟩|fail
  have d1:decide (n≥u.md)=false:=by simpa using p1
  repeat' first|refine mq1 (mqt6 @hd @hw @rn @d0 @d1 @y'T) ?_|refine .wk ?_ ?_;focus(try omega)|fail
  refine⟨⟨k+1,by omega,Zmf hs hn (by simp[inB];omega)⟩,Weak.sub ?_,by simp only[];omega⟩
  simp[sub,upd]
 have hd:decide ((k:Int)<(u.init.length:Int))=false:=by simp;omega
 have hA:x'A u.init u.md=true:=Znu fun i x hi hx=>hs i x (by omega) hx
 have hU:x'Q u=(List.range u.regs.length).all fun t=>ZcO (u.regs.getD t 0) u.init.length (u.code.getD t []):=by
  unfold x'Q
  rw[hH,hA,y'g]
 repeat' first|refine mq1 (mqt2 @hd @y'T) ?_|fail
 refine VC.loop {t:Nat//t≤u.regs.length∧ ∀j,j<t→ZcO (u.regs.getD j 0) u.init.length (u.code.getD j [])=true} (fun p=>⟨z'0 [(1,.pt (unC u)),(59,w'H u.regs),(60,iD (u.regs.length:Nat)),(61,iD (p.1:Nat))],[]⟩) (fun p=>u.regs.length-p.1) ⟨0,by omega,fun j hj=>by omega⟩ ?_ ?_
 ·refine Weak.sub ?_
  simp[sub,upd]
 rintro⟨t,ht,hs⟩
 dsimp only
 rcases z'g t u.regs.length with hlt|hge
 case inr=>
  have hd:decide ((t:Int)<(u.regs.length:Int))=false:=by simp;omega
  rw[show x'Q u=true by rw[hU];exact Zfl fun i hi=>hs i (by omega)]
  repeat' first|refine mq1 @hd ?_|exact z'r T (z'a _) ⟨rfl,rfl⟩|fail
 have hd:decide ((t:Int)<(u.regs.length:Int))=true:=by simp;omega
 have hw:IntKind.i64.wrap ((t:Int)+1)=((t+1:Nat):Int):=by rw[w64 (by omega)];omega
 obtain⟨n,hn⟩: ∃n,u.regs[t]?=some n:=⟨_,z'k hlt⟩
 obtain⟨r,hr⟩: ∃r,u.code[t]?=some r:=⟨_,z'k (by omega)⟩
 have rn:(iRs u.regs)[t]?=some [iD n]:=by rw[Ze9,hn];rfl
 have rr:(Zaj u.code)[t]?=some [.sl false 7 (y'Y r)]:=by rw[ZnD,hr];rfl
 have hrm:=z'E hr
 have hgn:u.regs.getD t 0=n:=by rw[z'f,hn];rfl
 have hgr:u.code.getD t []=r:=by rw[z'f,hr];rfl
 have bad:ZcO n u.init.length r=false→x'Q u=false:=fun h=>by rw[hU];exact ZiP hlt (by rw[hgn,hgr];exact h)
 have htc:t<u.code.length:=by omega
 have cr:=ZrT r (hu.row r hrm) (hu.ins r hrm) n u.init.length
 by_cases p0:n<0
 ·have d0:decide (n<0)=true:=by simpa using p0
  rw[bad (by rw[Zhw];simp;omega)]
  repeat' first|refine dr (id:=14) T 16 (by kernel_rfl) ?_|(apply VCg.step T rfl rfl);focus((try simp (disch:=omega) only[go_sem,Nat.reduceBEq,d0]);(exact rfl))|refine VCg.gstep T rfl rfl rfl rfl ?_;try simp only[GB]|refine mq1 (mqt3 @hd @rn @y'T) ?_|refine .wk ?_ ?_;focus(try omega)|exact z'r T (z'a _) ⟨rfl,rfl⟩|fail
 have d0:decide (n<0)=false:=by simpa using p0
 by_cases p1:n>6
 ·have d1:decide (n>6)=true:=by simpa using p1
  rw[bad (by rw[Zhw];simp;omega)]
  repeat' first|refine dr (id:=14) T 16 (by kernel_rfl) ?_|(first|apply VCg.step T rfl rfl|apply exF);focus((try simp (disch:=omega) only[go_sem,Nat.reduceBEq,d0,d1]);(exact rfl))|refine VCg.gstep T rfl rfl rfl rfl ?_;try simp only[GB]|refine mq1 (mqt3 @hd @rn @y'T) ?_|refine .wk ?_ ?_;focus(try omega)|exact z'r T (z'a _) ⟨rfl,rfl⟩|fail
 have d1:decide (n>6)=false:=by simpa using p1
 cases hQ:Zbn n u.init.length r with
 |false=>
  rw[hQ]at cr
  rw[bad (by rw[Zhw,hQ];simp)]
  repeat' first|refine dr (id:=14) T 16 (by kernel_rfl) ?_|(first|apply VCg.step T rfl rfl|apply exF);focus((try simp (disch:=omega) only[go_sem,Nat.reduceBEq,rr,d0,d1,y'T,w'r]);(first|exact rfl|refine⟨?_,rfl⟩;try omega))|refine VCg.gstep T rfl rfl rfl rfl ?_;try simp only[GB]|refine mq2 (mqt3 @hd @rn @y'T) cr ?_|refine .wk ?_ ?_;focus(try omega)|exact z'r T (z'a _) ⟨rfl,rfl⟩|fail
 |true=>
  rw[hQ]at cr
  repeat' first|refine dr (id:=14) T 16 (by kernel_rfl) ?_|(first|apply VCg.step T rfl rfl|apply exF);focus((try simp (disch:=omega) only[go_sem,Nat.reduceBEq,rr,d0,d1,y'T,w'r]);(first|exact rfl|refine⟨?_,rfl⟩;try omega))|refine VCg.gstep T rfl rfl rfl rfl ?_;try simp only[GB]|refine mq2 (mqt4 @hd @hw @rn @y'T) cr ?_|refine .wk ?_ ?_;focus(try omega)|fail
  refine⟨⟨t+1,by omega,fun j hj=>?_⟩,Weak.sub ?_,by simp only[];omega⟩
  ·rcases z'g j t with h'|h'
   ·exact hs j h'
   ·obtain rfl:j=t:=by omega
    rw[hgn,hgr,Zhw,hQ];simp;omega
  ·simp[sub,upd]
end Go.Proofs.YthlkpnjjkgmlkaaGreat
/- Calls through interfaces. No condition. -/
namespace Go.Vc
set_option maxHeartbeats 16000000
set_option linter.unusedSimpArgs false
set_option linter.unusedVariables false
open Go
def Zjd (P:Program) (t:TypeId) (name:String):Option FuncId:=
 match P.info? t,P.underlying t with
 |some i,some d=>(match d with
  | .pointer _=>none
  |_=>match i.methods.find? (·.name == name)with
   |some m=>(match m.path.toList,m.func with
    |[],some (f,false)=>some f
    |_,_=>none)
   |none=>none)
 |_,_=>none
theorem ZkM {P:Program} {t:TypeId} {i:TypeInfo} (h:P.info? t=some i) (w:World):(typeInfo t).run P w= .ok i w:=by
 unfold typeInfo
 rw[z'h (a:=P) (w':=w) rfl]
 simp only[h]
 rfl
theorem Zm4 {P:Program} {t:TypeId} {name:String} {f:FuncId} (h:Zjd P t name=some f) (n:Nat) (v:Value) (w:World):(method (n+1) t v name).run P w= .ok (f,v) w:=by
 unfold Zjd at h
 split at h
 ·rename_i i d hi hd
  split at h
  ·cases h
  rename_i hnp
  split at h
  ·rename_i m hm
   split at h
   ·rename_i f' hp hf
    cases h
    unfold method
    rw[z'h (ZkM hi w)]
    simp only[hm]
    rw[hp]
    simp only[follow]
    rw[z'h (a:=(t,Place.val v)) (w':=w) rfl]
    simp only[hf]
    unfold receiverAt
    refine(z'h (a:=v) (w':=w) ?_).trans rfl
    rw[z'h (run_underlying hd w)]
    split
    all_goals first|rfl|(exfalso;simp_all;done)|skip
   ·cases h
  ·cases h
 ·cases h
theorem Op1.enterG {P:Program} {o:Oper} {E:Operand→D} {f:FuncId} {args:List D} {H:Heap} {fr:Bool} {Φ:D→Heap→Prop} {K:D→Heap→Prop} (h:Fun P f args [] fr Φ)
  (hrun: ∀(w:World) (L:Nat→Prop) (ε:Operand→Value),(∀fn,P.funcs[f]?=some fn→fn.body.isSome=true→(fn.name == "runtime.NumGoroutine")=false→ ∀(xs:Array Value) (w:World),(callFunc f xs).run P w= .ok (.enter f xs) w)→
   (∀y,y∈o.op.operands→Rel w L (E y) (ε y))→ ∃vs:List Value,(execOp ε o).run P w= .ok (.enter f vs.toArray) w∧RelL w L args vs)
  (hk: ∀d H',Φ d H'→K d (H'++H)):Op1 P o E H K:=by
 refine⟨fun d H'=> ∃Hp',Φ d Hp'∧H'=Hp'++H,?_,fun d H' ⟨Hp',h1,h2⟩=>h2▸hk d Hp' h1⟩
 intro w L0 ε hi hx
 obtain⟨⟨fn,hf,hbody,hname⟩,h⟩:=h
 obtain⟨vs,hr,hargs⟩:=hrun w _ ε (fun fn hf hb hn xs w=>v'3 hf hb hn xs w) hx
 rw[hr]
 have same: ∀b,live [] (live H L0) b↔live H L0 b:=fun b=>by simp[live,Heap.blocks]
 have hlt: ∀b,b∈H.blocks→b<w.heap.size:=fun b hb=>hi.lt hb
 have hi1:HInv w (live H L0) []:=
  {rel:=fun b c hm=>by cases hm
   nodup:=w'F
   apart:=fun b hb=>by cases hb
   old:=fun b hl=>by
    rcases hl with hl|hl
    ·exact hi.old b hl
    ·exact hlt b hl}
 have hk1:Keeps w (live H L0) w (live [] (live H L0)):=Keeps.less fun b _ hl=>(same b).1 hl
 refine(h w (live H L0) _ hi1 (RelL.mono hk1 _ _ hargs)).mono ?_
 rintro e w' ⟨v,rfl,d,Hp',hΦ,hrel,hi',he⟩
 have hmem': ∀b,b∈(Hp'++H).blocks↔b∈Hp'.blocks∨b∈H.blocks:=fun b=>by simp[Heap.blocks]
 have hevo:Evo w H w' (Hp'++H):=
  ⟨he.os,he.tape,he.output,he.size,fun b hb hn=>he.block b hb (fun h=>by cases h),fun b hb=>by
   rcases(hmem' b).1 hb with h|h
   ·exact(he.fresh b h).imp (fun h=>by cases h) id
   ·exact .inl h⟩
 refine⟨v,rfl,d,Hp'++H,⟨Hp',hΦ,rfl⟩,?_,?_,hevo⟩
 ·refine Rel.mono (Keeps.less fun b _ hl=>?_) _ _ hrel
  rcases hl with hl|hl
  ·exact .inl (.inl (.inl hl))
  ·rcases(hmem' b).1 hl with hl|hl
   ·exact .inr hl
   ·exact .inl (.inl (.inr hl))
 ·exact
   {rel:=fun b c hm=>by
     rcases z'X.1 hm with hm|hm
     ·refine(hi'.rel b c hm).mono (Keeps.less fun b _ hl=>?_) rfl
      rcases hl with hl|hl
      ·exact .inl (.inl hl)
      ·rcases(hmem' b).1 hl with hl|hl
       ·exact .inr hl
       ·exact .inl (.inr hl)
     ·have hbr:b∈H.blocks:=z'w.2 ⟨(b,c),hm,rfl⟩
      exact(hi.rel b c hm).mono hevo.keeps (he.block b (hlt b hbr) (fun h=>by cases h))
    nodup:=by
     simp only[Heap.blocks,z'A]
     refine y'S.2 ⟨hi'.nodup,hi.nodup,fun a ha b hb hab=>?_⟩
     subst hab
     rcases he.fresh a ha with h|h
     ·cases h
     ·have:=hlt a hb;omega
    apart:=fun b hb hl=>by
     rcases(hmem' b).1 hb with h|h
     ·exact hi'.apart b h (.inl hl)
     ·exact hi.apart b h hl
    old:=fun b hl=>z'N (hi.old b hl) he.size}
theorem Op1.invoke {P:Program} {o:Oper} {E:Operand→D} {f:FuncId} {x:Operand} {name:String} {xs:Array Operand} {tys:Array TypeId} {t:TypeId} {dv:D} {args:List D} {H:Heap} {fr:Bool} {Φ:D→Heap→Prop} {K:D→Heap→Prop}
  (ho:o.op= .call ⟨.invoke x name,xs,tys⟩) (hE:E x= .ifc t dv) (hm:Zjd P t name=some f) (h:Fun P f args [] fr Φ) (ha:dv::xs.toList.map E=args) (hk: ∀d H',Φ d H'→K d (H'++H)):Op1 P o E H K:=by
 subst ha
 have hF:=h.1
 obtain⟨fn,hf,hb,hn⟩:=hF
 refine Op1.enterG h (fun w L ε hc hx=>?_) hk
 have hr:=hx x (by simp[ho,Op.operands,Call.operands])
 rw[hE]at hr
 obtain⟨y,hy,hrel⟩:=hr
 refine⟨y::xs.toList.map ε,?_,y,_,rfl,hrel,?_⟩
 ·have e:(y::xs.toList.map ε).toArray= #[y]++xs.map ε:=by
   rw[←Array.toList_map]
   apply Array.ext'
   simp
  rw[e, ←hc fn hf hb hn (#[y]++xs.map ε) w]
  have hmr:=Zm4 hm (P.types.size+99) y w
  have hex:(#[ε x]++xs.map ε).extract 1 (#[ε x]++xs.map ε).size=xs.map ε:=by
   apply Array.ext'
   simp
   exact x'p (by simp)
  have h0:(#[ε x]++xs.map ε)[0]?=some (ε x):=by
   rw[Array.getElem?_append_left (by simp)]
   rfl
  rw[hy]at h0 hex
  simp only[execOp,ho,resolve]
  rw[z'h (a:={target:= .fn (.method name) #[],args:= #[ε x]++xs.map ε}) (w':=w) rfl]
  simp only[Go.invoke,h0,hex,hy,callMethod]
  rw[z'h (a:=P) (w':=w) rfl]
  have hmr':(method (P.types.size+Made.depth) t y name).run P w= .ok (f,y) w:=hmr
  rw[z'h hmr']
 ·have: ∀l:List Operand,(∀x∈l,x∈xs.toList)→RelL w L (l.map E) (l.map ε):=by
   intro l
   induction l with
   |nil=>intro _;rfl
   |cons x l ih=>
    intro hl
    refine⟨ε x,l.map ε,rfl,hx x ?_,ih fun y hy=>hl y (z'o _ hy)⟩
    have:=hl x (z't ..)
    simp only[ho,Op.operands,Call.operands]
    exact Array.mem_append.2 (.inr (x'm.1 this))
  exact this _ fun _ h=>h
end Go.Vc
/- Contracts: what can act. No condition. -/
namespace Go.Proofs.YthlkpnjjkgmlkaaGreat
set_option maxHeartbeats 16000000
set_option linter.unusedSimpArgs false
set_option linter.unusedVariables false
set_option maxRecDepth 20000
open Go Go.Proofs Go.Vc
attribute [local irreducible] x'r VCg VCw VCx
inductive Ag where
 |th (t:Nat)
 |fl (t:Nat) (l:Int)
def Zuc (k:Nat):List Ag:=(List.range k).map .th
def ZtV (u:Un) (m:Int) (t:Nat):List Ag:=if m=2 then[.fl t (-1)]else if m=3 then(List.range u.init.length).map fun(l:Nat)=> .fl t (l:Int)else[]
def ZtQ (u:Un) (m:Int) (k:Nat):List Ag:=Zuc u.regs.length++(List.range k).flatMap (ZtV u m)
def ZtP (u:Un) (m:Int):List Ag:=if x'Q u=true∧1≤m∧m≤3 then ZtQ u m u.regs.length else[]
def ZgN (u:Un) (c:Cf) (m r:Int) (t:Nat):Bool:=
 decide (0≤c.pc.getD t 0)&&decide (c.pc.getD t 0<((u.code.getD t []).length:Int))&&decide (((c.regs.getD t []).length:Int)=u.regs.getD t 0)&&x'A (c.regs.getD t []) u.md&&v'r m r u.md u.init.length (c.bufs.getD t [])
def Zhf (u:Un) (c:Cf):Bool:=x'Q u&&decide (c.pc.length=u.regs.length)&&decide (c.regs.length=u.regs.length)&&decide (c.bufs.length=u.regs.length)&&decide (c.mem.length=u.init.length)&&x'A c.mem u.md
def w'i (u:Un) (c:Cf) (m r:Int):Bool:=Zhf u c&&((List.range u.regs.length).all fun t=>ZgN u c m r t)&&v'r m r u.md u.init.length []
mutual
def Wk:D→D→Prop
 | .sl full esz rows',d=>d= .sl full esz rows'∨(full=false∧((∃f rows,d= .sl f esz rows∧WkR rows' rows)∨(rows'=[]∧d= .gs none 0)))
 | .pt row',d=> ∃row,d= .pt row∧WkL row' row
 | .agg l',d=> ∃l,d= .agg l∧WkL l' l
 | .tup l',d=> ∃l,d= .tup l∧WkL l' l
 | .ifc t x',d=> ∃x,d= .ifc t x∧Wk x' x
 | .is v,d=>d= .is v
 | .gs g n,d=>d= .gs g n
 | .os b o n cap,d=>d= .os b o n cap
 | .any,d=>d= .any
termination_by structural d=>d
def WkL:List D→List D→Prop
 |[],l=>l=[]
 |d'::ds',l=> ∃d ds,l=d::ds∧Wk d' d∧WkL ds' ds
def WkR:List (List D)→List (List D)→Prop
 |[],l=>l=[]
 |r'::rs',l=> ∃r rs,l=r::rs∧WkL r' r∧WkR rs' rs
end
theorem Wk.one {d' d:D} (h:Wk d' d) (h1:oneD d=true):oneD d'=true:=by
 cases d' with
 |sl=>rfl
 |pt=>rfl
 |agg l'=>obtain⟨l,rfl,_⟩:=h;cases h1
 |tup l'=>obtain⟨l,rfl,_⟩:=h;cases h1
 |ifc t x'=>rfl
 |is v=>obtain rfl:d= .is v:=h;exact h1
 |gs g n=>rfl
 |os=>rfl
 |any=>obtain rfl:d= .any:=h;exact h1
theorem WkL.one: ∀{ds' ds:List D},WkL ds' ds→ds.all oneD=true→ds'.all oneD=true
 |[],_,_,_=>rfl
 |d'::ds',l,h,h1=>by
  obtain⟨d,ds,rfl,h2,h3⟩:=h
  rw[y'L,z'd]at h1
  rw[y'L,h2.one h1.1,h3.one h1.2];rfl
theorem WkL.len: ∀{ds' ds:List D},WkL ds' ds→ds'.length=ds.length
 |[],_,h=>by cases h;rfl
 |d'::ds',l,h=>by
  obtain⟨d,ds,rfl,h2,h3⟩:=h
  simp[h3.len]
theorem WkR.len: ∀{ds' ds:List (List D)},WkR ds' ds→ds'.length=ds.length
 |[],_,h=>by cases h;rfl
 |d'::ds',l,h=>by
  obtain⟨d,ds,rfl,h2,h3⟩:=h
  simp[h3.len]
mutual
theorem Rel.wk {w:World} {L:Nat→Prop}: ∀(d' d:D) (v:Value),Wk d' d→Rel w L d v→Rel w L d' v
 | .sl full esz rows',d,v,h,r=>by
  rcases h with rfl|⟨rfl,⟨f,rows,rfl,hr⟩|⟨rfl,rfl⟩⟩
  ·exact r
  ·obtain⟨a,cap,h1,h2,h3,h4⟩:=r
   refine⟨a,cap,by rw[hr.len];exact h1,by rw[hr.len];exact h2,fun h=>(by cases h),?_⟩
   rcases h4 with h4|⟨b,o,h5,h6⟩
   ·subst h4
    cases rows' with
    |nil=>exact .inl rfl
    |cons r rs=>obtain⟨_,_,e,_⟩:=hr;cases e
   ·exact .inr ⟨b,o,h5,RowsAt.wk esz rows' rows b o hr h6⟩
  ·obtain⟨rfl,_⟩:=r
   exact⟨none,0,rfl,⟨z'c _,fun _=>rfl⟩,fun h=>(by cases h),.inl rfl⟩
 | .pt row',d,v,h,r=>by
  obtain⟨row,rfl,hr⟩:=h
  obtain⟨b,o,h1,h2⟩:=r
  exact⟨b,o,h1,CellsAt.wk row' row b o hr h2⟩
 | .agg l',d,v,h,r=>by
  obtain⟨l,rfl,h⟩:=h
  obtain⟨h1,cs,rfl,hr⟩:=r
  exact⟨WkL.one h h1,cs,rfl,RelL.wk l' l _ h hr⟩
 | .tup l',d,v,h,r=>by
  obtain⟨l,rfl,h⟩:=h
  obtain⟨cs,rfl,hr⟩:=r
  exact⟨cs,rfl,RelL.wk l' l _ h hr⟩
 | .ifc t x',d,v,h,r=>by
  obtain⟨x,rfl,h⟩:=h
  obtain⟨y,rfl,hr⟩:=r
  exact⟨y,rfl,Rel.wk x' x y h hr⟩
 | .is u,d,v,h,r=>by obtain rfl:d= .is u:=h;exact r
 | .gs g n,d,v,h,r=>by obtain rfl:d= .gs g n:=h;exact r
 | .os b o n cap,d,v,h,r=>by obtain rfl:d= .os b o n cap:=h;exact r
 | .any,d,v,h,r=>trivial
theorem RelL.wk {w:World} {L:Nat→Prop}: ∀(l' l:List D) (vs:List Value),WkL l' l→RelL w L l vs→RelL w L l' vs
 |[],l,vs,h,r=>by obtain rfl:l=[]:=h;exact r
 |d'::ds',l,vs,h,r=>by
  obtain⟨d,ds,rfl,h1,h2⟩:=h
  obtain⟨v,rest,rfl,r1,r2⟩:=r
  exact⟨v,rest,rfl,Rel.wk d' d v h1 r1,RelL.wk ds' ds rest h2 r2⟩
theorem CellsAt.wk {w:World} {L:Nat→Prop}: ∀(l' l:List D) (b o:Nat),WkL l' l→CellsAt w L l b o→CellsAt w L l' b o
 |[],_,_,_,_,_=>trivial
 |d'::ds',l,b,o,h,r=>by
  obtain⟨d,ds,rfl,h1,h2⟩:=h
  obtain⟨q1,⟨q2,v,q3,q4⟩,q5⟩:=r
  exact⟨q1,⟨h1.one q2,v,q3,Rel.wk d' d v h1 q4⟩,CellsAt.wk ds' ds b (o+1) h2 q5⟩
theorem RowsAt.wk {w:World} {L:Nat→Prop} (esz:Nat): ∀(l' l:List (List D)) (b o:Nat),WkR l' l→RowsAt w L esz l b o→RowsAt w L esz l' b o
 |[],_,_,_,_,_=>trivial
 |r'::rs',l,b,o,h,r=>by
  obtain⟨r0,rs,rfl,h1,h2⟩:=h
  obtain⟨q1,q2,q3⟩:=r
  exact⟨by rw[h1.len];exact q1,CellsAt.wk r' r0 b o h1 q2,RowsAt.wk esz rs' rs b (o+esz) h2 q3⟩
end
theorem Pure.wk {P:Program} {f:FuncId} {args:List D} {d' d:D} (h:Pure P f args d) (hw:Wk d' d):Pure P f args d':=
 ⟨h.1,fun w L0 vs hi hr=>(h.2 w L0 vs hi hr).mono fun e w' ⟨v,he,d0,H',⟨h1,h2⟩,h3,h4,h5⟩=>⟨v,he,d',[],⟨rfl,rfl⟩,by subst h1;subst h2;exact Rel.wk _ _ _ hw h3,by subst h2;exact h4,by subst h2;exact h5⟩⟩
def Zsd (u:Un) (c:Cf) (m:Int) (i:Nat) (x:Ins) (row:List Int) (b:List En) (p:Nat) (en:Bool):Cf:=match en with
 |true=>ZdE u (setP c i ((p+1:Nat):Int)) m i x row b
 |false=>c
def d10:Cf:=⟨[1,0],[[],[]],[0],[[(0,1)],[]]⟩
end Go.Proofs.YthlkpnjjkgmlkaaGreat
/- Calls of functions that take blocks of one's own, wherever they stand. No condition. -/
namespace Go.Vc
set_option maxHeartbeats 16000000
set_option linter.unusedSimpArgs false
set_option linter.unusedVariables false
open Go
inductive Pick:Heap→Heap→Heap→Prop where
 |nil {H:Heap}:Pick [] H H
 |take {x:Nat×HC} {Hp H Hr:Heap}:Pick Hp H Hr→Pick (x::Hp) (x::H) Hr
 |skip {x:Nat×HC} {Hp H Hr:Heap}:Pick Hp H Hr→Pick Hp (x::H) (x::Hr)
theorem Pick.perm {Hp H Hr:Heap} (h:Pick Hp H Hr):H.Perm (Hp++Hr):=by
 induction h with
 |nil=>exact y't _
 |take _ ih=>exact List.Perm.cons _ ih
 |skip _ ih=>exact(List.Perm.cons _ ih).trans List.perm_middle.symm
theorem VCo.nodup {P:Program} {n:Nat} {ops:Array Oper} {l:List Oper} {s:St} {Q:Exit→St→Prop} (h:s.heap.blocks.Nodup→VCo P n ops l s Q):VCo P n ops l s Q:=fun x a w hn hs=>h hs.inv.nodup x a w hn hs
end Go.Vc
/- Contracts: a configuration as bytes. No condition. -/
namespace Go.Proofs.YthlkpnjjkgmlkaaGreat
set_option maxHeartbeats 16000000
set_option linter.unusedSimpArgs false
set_option linter.unusedVariables false
set_option maxRecDepth 20000
open Go Go.Proofs Go.Vc
attribute [local irreducible] x'r VCg VCw VCx
end Go.Proofs.YthlkpnjjkgmlkaaGreat
