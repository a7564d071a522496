/- Contracts: what an instruction has, whether it fits. No condition. -/
import Derived.Test.YtomcmfbpmkklmaaGreatYl
import Derived.Test.YtomcmfbpmkklmaaGreatYa
import Derived.Test.YtomcmfbpmkklmaaGreatXk
import Derived.Test.YtomcmfbpmkklmaaGreatYi
import Derived.Test.YtomcmfbpmkklmaaGreatYo
namespace Go.Proofs.YtomcmfbpmkklmaaGreat
set_option maxHeartbeats 16000000
set_option linter.unusedSimpArgs false
set_option linter.unusedVariables false
set_option maxRecDepth 20000
open Go Go.Proofs Go.Vc
attribute [local irreducible] y'0 VCg VCw VCx
theorem ZfV (has:Bool) (n m:Int):Pure Tryz.prog 178 [bD has,iD n,iD m] (bD (x'F has n m)):=by
 refine Fun.of T [.tmp 6] Tryz.func178 rfl Tryz.ntmps178 Tryz.results178 rfl (by kernel_rfl) ?_
 cases has with
 |true=>
  by_cases h1:n≥0
  ·have e1:decide (n≥0)=true:=by simpa using h1
   by_cases h2:n<m
   ·have e2:decide (n<m)=true:=by simpa using h2
    rw[show x'F true n m=true by simp[x'F,inB,h1,h2]]
    repeat' first|refine vs T rfl fun K hK=>?_;(try simp (disch:=omega) only[go_sem,Nat.reduceBEq,Nat.reduceAdd,e1,e2]);(refine hK _ _ ?_;clear hK K)|refine st rfl ?_|refine nl ?_|refine gs rfl rfl ?_|refine gu rfl rfl ?_|exact z'j T (z'a _) ⟨rfl,rfl⟩
   ·have e2:decide (n<m)=false:=by simpa using h2
    rw[show x'F true n m=false by simp[x'F,inB,h2]]
    repeat' first|refine vs T rfl fun K hK=>?_;(try simp (disch:=omega) only[go_sem,Nat.reduceBEq,Nat.reduceAdd,e1,e2,z'i]);(refine hK _ _ ?_;clear hK K)|refine st rfl ?_|refine nl ?_|refine gs rfl rfl ?_|exact z'j T (z'a _) ⟨rfl,rfl⟩
  ·have e1:decide (n≥0)=false:=by simpa using h1
   rw[show x'F true n m=false by simp[x'F,inB,h1]]
   repeat' first|refine vs T rfl fun K hK=>?_;(try simp (disch:=omega) only[go_sem,Nat.reduceBEq,Nat.reduceAdd,e1,z'i]);(refine hK _ _ ?_;clear hK K)|refine st rfl ?_|refine nl ?_|refine gs rfl rfl ?_|exact z'j T (z'a _) ⟨rfl,rfl⟩
 |false=>
  rw[show x'F false n m=(n == 0) from rfl]
  repeat' first|refine vs T rfl fun K hK=>?_;(try simp (disch:=omega) only[go_sem,Nat.reduceBEq,Nat.reduceAdd,z'q]);(refine hK _ _ ?_;clear hK K)|refine st rfl ?_|refine nl ?_|refine gs rfl rfl ?_|exact z'j T (z'a _) ⟨rfl,rfl⟩
abbrev ndL (d:Nd):List D:=[bD d.r,bD d.l,bD d.e,bD d.f,bD d.n,bD d.t]
abbrev nd0:Nd:=⟨false,false,false,false,false,false⟩
abbrev ndV (d:Nd):Value:= .agg #[.bool d.r,.bool d.l,.bool d.e,.bool d.f,.bool d.n,.bool d.t]
def ndR (o:Option Nd):D:= .tup [.agg (ndL (o.getD nd0)),bD o.isSome]
def Zmy:List (Int×Value):=[(2,ndV ⟨true,false,true,false,false,false⟩),(3,ndV ⟨true,true,false,false,false,false⟩),(4,ndV ⟨false,true,true,false,false,false⟩),(5,ndV ⟨true,true,true,true,false,false⟩),(6,ndV ⟨true,true,true,false,false,false⟩),(7,ndV ⟨true,true,true,false,false,false⟩),(8,ndV nd0),(9,ndV ⟨false,true,true,false,true,false⟩),(20,ndV ⟨false,false,false,false,false,true⟩),(21,ndV ⟨false,false,true,false,false,true⟩)]
theorem Zk2 (op:Int):Zbc op Zmy=(ndF op).map ndV:=by
 unfold Zmy ndF
 by_cases h2:op=2
 ·subst h2;rfl
 by_cases h3:op=3
 ·subst h3;rfl
 by_cases h4:op=4
 ·subst h4;rfl
 by_cases h5:op=5
 ·subst h5;rfl
 by_cases h6:op=6
 ·subst h6;rfl
 by_cases h7:op=7
 ·subst h7;rfl
 by_cases h8:op=8
 ·subst h8;rfl
 by_cases h9:op=9
 ·subst h9;rfl
 by_cases h20:op=20
 ·subst h20;rfl
 by_cases h21:op=21
 ·subst h21;rfl
 simp only[Zbc,h2,h3,h4,h5,h6,h7,h8,h9,h20,h21,if_false,beq_eq_false_iff_ne.2 h2,beq_eq_false_iff_ne.2 h3,beq_eq_false_iff_ne.2 h4,beq_eq_false_iff_ne.2 h5,beq_eq_false_iff_ne.2 h6,beq_eq_false_iff_ne.2 h7,beq_eq_false_iff_ne.2 h8,beq_eq_false_iff_ne.2 h9,beq_eq_false_iff_ne.2 h20,beq_eq_false_iff_ne.2 h21,cond_false]
 rfl
theorem umN:Tryz.prog.underlying 214=some (.map 3 207):=by kernel_rfl
theorem zN:(Tryz.prog.info? 207).bind (·.zero)=some (ndV nd0):=by kernel_rfl
theorem Zn7 (d:Nd): ∀cs,ndV d= .agg cs→cs.toList.all Value.oneCell'=true:=fun cs h=>by cases h;rfl
theorem ZoM (op:Int):Pure Tryz.prog 175 [iD op] (ndR (ndF op)):=by
 refine Fun.of T [.cell 2 207,.tmp 3] Tryz.func175 rfl Tryz.ntmps175 Tryz.results175 rfl (by kernel_rfl) ?_
 repeat' first|refine vt rfl fun K hK=>?_;refine Zg5 rfl umN (fun x hx=>(by cases hx)) (fun bq hbq=>?_);(try simp only[HB]at hbq);refine hK _ _ ?_;clear hK K;(try simp only[updO])|refine vt rfl fun K hK=>?_;refine ZiG (by exact .inr rfl) umN Tryz.underlying3 rfl rfl rfl (by(try simp (disch:=omega) only[hget_eq]);rfl) (by rfl) ?_;refine hK _ _ ?_;clear hK K;(try simp (disch:=omega) only[updO,hset_eq,z'N,z'T])|refine vs T rfl fun K hK=>?_;(try simp (disch:=omega) only[go_sem,Nat.reduceBEq,Nat.reduceAdd]);(first|refine hK _ _ ?_;clear hK K|intro bq hbq;(try simp only[HB]at hbq);refine hK _ _ ?_;clear hK K|skip)|refine st rfl ?_|refine nl ?_
 refine ZgV rfl umN Tryz.underlying3 zN rfl rfl hget_eq (r:=(ndV ((ndF op).getD nd0),(ndF op).isSome)) (show(match Zbc op Zmy with|some v=>(v,true)|none=>(ndV nd0,false))=_ by rw[Zk2];cases ndF op<;>rfl) (Zn7 _) ?_
 refine hK _ _ ?_
 clear hK K
 try simp only[updO]
 repeat' first|refine vs T rfl fun K hK=>?_;(try simp (disch:=omega) only[go_sem,Nat.reduceBEq,Nat.reduceAdd,Nat.reduceLeDiff,ZfB,z'z,y't]);(first|refine hK _ _ ?_;clear hK K|intro bq hbq;(try simp only[HB]at hbq);refine hK _ _ ?_;clear hK K)|refine st rfl ?_|refine nl ?_|exact y'T T rfl (by(simp (disch:=omega) only[hget_ne,hget_eq])<;>rfl) rfl rfl rfl (z'a _) ⟨rfl,rfl⟩
theorem ZlI (has:Bool) (l:List Opc) (hl:l.length≤1000) (n:Int) (b:Nat):Fun Tryz.prog 176 [bD has,z'R l,pD b] [(b,.cells 3 1 [iD n])] false (fun d H'=>d=bD (Zcd has l n)∧H'=[(b,.cells 3 1 [iD n])]):=by
 have c1:Pure Tryz.prog 177 [z'R l,.gs none 0,iD n,iD 0] (bD (y'X l [] n 0)):=Fun.argsW (Ziq l hl [] (by simp) n 0) (z'E (Fz.refl _ _) (z'E y'v (FzL.refl _ _)))
 have he:((l.length:Int) == 0)=decide (l.length=0):=by rw[x'l];simp
 refine Fun.of T [.tmp 5] Tryz.func176 rfl Tryz.ntmps176 Tryz.results176 rfl (by kernel_rfl) ?_
 cases has with
 |true=>
  rw[show Zcd true l n=y'X l [] n 0 from rfl]
  cases hc:y'X l [] n 0 with
  |true=>
   rw[hc]at c1
   repeat' first|refine vs T rfl fun K hK=>?_;(try simp (disch:=omega) only[go_sem,Nat.reduceBEq,Nat.reduceAdd]);(first|refine hK _ _ ?_;clear hK K|refine Op1.callp rfl rfl (c1) rfl ?_;refine hK _ _ ?_;clear hK K)|refine st rfl ?_|refine nl ?_|refine gs rfl rfl ?_|refine gu rfl rfl ?_
   exact z'j T (z'm _) ⟨rfl,rfl⟩
  |false=>
   rw[hc]at c1
   repeat' first|refine vs T rfl fun K hK=>?_;(try simp (disch:=omega) only[go_sem,Nat.reduceBEq,Nat.reduceAdd,z'i]);(first|refine hK _ _ ?_;clear hK K|refine Op1.callp rfl rfl (c1) rfl ?_;refine hK _ _ ?_;clear hK K)|refine st rfl ?_|refine nl ?_|refine gs rfl rfl ?_
   exact z'j T (z'm _) ⟨rfl,rfl⟩
 |false=>
  rw[show Zcd false l n=decide (l.length=0) from rfl]
  repeat' first|refine vs T rfl fun K hK=>?_;(try simp (disch:=omega) only[go_sem,Nat.reduceBEq,Nat.reduceAdd,he,z'O,z'q]);(refine hK _ _ ?_;clear hK K)|refine st rfl ?_|refine nl ?_|refine gs rfl rfl ?_
  exact z'j T (z'm _) ⟨rfl,rfl⟩
theorem ZlN (x:Ins) (he:x.e.length≤1000) (hf:x.f.length≤1000):Pure Tryz.prog 168 [.agg (v'B x)] (bD (w'1 x)):=by
 obtain⟨op,reg,loc,e,f,ne,to⟩:=x
 dsimp only at he hf
 have hw:IntKind.i64.wrap ((e.length:Int)+(f.length:Int))=((e.length+f.length:Nat):Int):=by rw[w64 (by omega)];omega
 have hD:w'1 ⟨op,reg,loc,e,f,ne,to⟩=((op == 22)&&((reg == 0)&&((loc == 0)&&((to == 0)&&((!ne)&&(((e.length+f.length:Nat):Int) == 0)))))):=by
  have h0:(((e.length+f.length:Nat):Int) == 0)=(decide (e.length=0)&&decide (f.length=0)):=by
   rw[x'l];simp only[beq_iff_eq,z'h,decide_eq_true_eq];omega
  rw[x'l]
  simp only[w'1,h0,z'h,decide_eq_true_eq,beq_iff_eq]
  constructor
  ·rintro⟨a,b,c,d,e,f,g⟩;exact⟨a,b,c,g,f,d,e⟩
  ·rintro⟨a,b,c,g,f,d,e⟩;exact⟨a,b,c,d,e,f,g⟩
 refine Fun.of T [.tmp 2] Tryz.func168 rfl Tryz.ntmps168 Tryz.results168 rfl (by kernel_rfl) ?_
 rw[hD]
 cases h1:op == 22 with
 |false=>
  repeat' first|refine vb rfl rfl rfl rfl ?_|refine vs T rfl fun K hK=>?_;(try simp (disch:=omega) only[go_sem,Nat.reduceBEq,v'B,h1]);(refine hK _ _ ?_;clear hK K)|refine st rfl ?_|refine nl ?_|refine gs rfl rfl ?_|exact z'j T (z'a _) ⟨rfl,rfl⟩
  all_goals rfl
 |true=>
 cases h2:reg == 0 with
 |false=>
  repeat' first|refine vb rfl rfl rfl rfl ?_|refine vs T rfl fun K hK=>?_;(try simp (disch:=omega) only[go_sem,Nat.reduceBEq,v'B,h1,h2]);(refine hK _ _ ?_;clear hK K)|refine st rfl ?_|refine nl ?_|refine gs rfl rfl ?_|exact z'j T (z'a _) ⟨rfl,rfl⟩
  all_goals rfl
 |true=>
 cases h3:loc == 0 with
 |false=>
  repeat' first|refine vb rfl rfl rfl rfl ?_|refine vs T rfl fun K hK=>?_;(try simp (disch:=omega) only[go_sem,Nat.reduceBEq,v'B,h1,h2,h3]);(refine hK _ _ ?_;clear hK K)|refine st rfl ?_|refine nl ?_|refine gs rfl rfl ?_|exact z'j T (z'a _) ⟨rfl,rfl⟩
  all_goals rfl
 |true=>
 cases h4:to == 0 with
 |false=>
  repeat' first|refine vb rfl rfl rfl rfl ?_|refine vs T rfl fun K hK=>?_;(try simp (disch:=omega) only[go_sem,Nat.reduceBEq,v'B,h1,h2,h3,h4]);(refine hK _ _ ?_;clear hK K)|refine st rfl ?_|refine nl ?_|refine gs rfl rfl ?_|exact z'j T (z'a _) ⟨rfl,rfl⟩
  all_goals rfl
 |true=>
 cases ne with
 |true=>
  repeat' first|refine vb rfl rfl rfl rfl ?_|refine vs T rfl fun K hK=>?_;(try simp (disch:=omega) only[go_sem,Nat.reduceBEq,v'B,h1,h2,h3,h4,z'i]);(refine hK _ _ ?_;clear hK K)|refine st rfl ?_|refine nl ?_|refine gs rfl rfl ?_|exact z'j T (z'a _) ⟨rfl,rfl⟩
  all_goals rfl
 |false=>
  repeat' first|refine vb rfl rfl rfl rfl ?_|refine vs T rfl fun K hK=>?_;(try simp (disch:=omega) only[go_sem,Nat.reduceBEq,v'B,h1,h2,h3,h4,hw,z'O,z'q]);(refine hK _ _ ?_;clear hK K)|refine st rfl ?_|refine nl ?_|refine gs rfl rfl ?_|exact z'j T (z'a _) ⟨rfl,rfl⟩
  all_goals rfl
theorem Zpl {x:Ins} {d:Nd} (h:ndF x.op=some d) (regs locs many:Int):x'Y x regs locs many=(((!x.ne)||d.n)&&(x'F d.r x.reg regs&&(x'F d.l x.loc locs&&(x'F d.t x.to many&&(Zcd d.e x.e regs&&Zcd d.f x.f regs))))):=by
 unfold x'Y
 rw[h]
 simp only[]
 cases x.ne<;>cases d.n<;>cases x'F d.r x.reg regs<;>cases x'F d.l x.loc locs<;>cases x'F d.t x.to many<;>cases Zcd d.e x.e regs<;>cases Zcd d.f x.f regs<;>rfl
theorem Zn9 (x:Ins) (he:x.e.length≤1000) (hf:x.f.length≤1000) (regs locs many:Int):Pure Tryz.prog 169 [.agg (v'B x),iD regs,iD locs,iD many] (bD (x'Y x regs locs many)):=by
 have c0:=ZoM x.op
 refine Fun.of T [.tmp 8] Tryz.func169 rfl Tryz.ntmps169 Tryz.results169 rfl (by kernel_rfl) ?_
 cases hN:ndF x.op with
 |none=>
  have c0':Pure Tryz.prog 175 [iD x.op] (.tup [.agg [bD false,bD false,bD false,bD false,bD false,bD false],bD false]):=by rw[hN]at c0;exact c0
  rw[show x'Y x regs locs many=false by simp[x'Y,hN]]
  repeat' first|refine vb (t:=90) rfl rfl rfl rfl ?_|refine vs T rfl fun K hK=>?_;(try simp (disch:=omega) only[go_sem,Nat.reduceBEq,Nat.reduceAdd,Nat.reduceLeDiff,v'B,z'q]);(first|refine hK _ _ ?_;clear hK K|intro bq hbq;(try simp only[HB]at hbq);refine hK _ _ ?_;clear hK K|refine Op1.callp rfl rfl (c0') rfl ?_;refine hK _ _ ?_;clear hK K)|refine st rfl ?_|refine sc rfl ?_|refine nl ?_|refine gs rfl rfl ?_|refine gu rfl rfl ?_|exact z'j T (z'a _) ⟨rfl,rfl⟩
 |some d=>
 have c0':Pure Tryz.prog 175 [iD x.op] (.tup [.agg [bD d.r,bD d.l,bD d.e,bD d.f,bD d.n,bD d.t],bD true]):=by rw[hN]at c0;exact c0
 rw[Zpl hN]
 obtain⟨dr,dl,de,df,dn,dt⟩:=d
 dsimp only at c0'⊢
 have c1:=ZfV dr x.reg regs
 have c2:=ZfV dl x.loc locs
 have c3:=ZfV dt x.to many
 cases hne:((!x.ne)||dn)with
 |false=>
  obtain⟨h1,h2⟩:x.ne=true∧dn=false:=by cases hx:x.ne<;>cases dn<;>simp_all
  subst h2
  repeat' first|refine vb (t:=90) rfl rfl rfl rfl ?_|refine vs T rfl fun K hK=>?_;(try simp (disch:=omega) only[go_sem,Nat.reduceBEq,Nat.reduceAdd,Nat.reduceLeDiff,v'B,h1,z'i,z'q]);(first|refine hK _ _ ?_;clear hK K|intro bq hbq;(try simp only[HB]at hbq);refine hK _ _ ?_;clear hK K|refine Op1.callp rfl rfl (c0') rfl ?_;refine hK _ _ ?_;clear hK K)|refine st rfl ?_|refine sc rfl ?_|refine nl ?_|refine gs rfl rfl ?_|exact z'j T (z'a _) ⟨rfl,rfl⟩
  all_goals rfl
 |true=>
 have hpre:x.ne=false∨(x.ne=true∧dn=true):=by cases hx:x.ne<;>cases dn<;>simp_all
 rcases hpre with h1|⟨h1,h2⟩
 case' inl=>
  repeat' first|refine vb (t:=90) rfl rfl rfl rfl ?_|refine vs T rfl fun K hK=>?_;(try simp (disch:=omega) only[go_sem,Nat.reduceBEq,Nat.reduceAdd,Nat.reduceLeDiff,v'B,h1,z'i]);(first|refine hK _ _ ?_;clear hK K|intro bq hbq;(try simp only[HB]at hbq);refine hK _ _ ?_;clear hK K|refine Op1.callp rfl rfl (c0') rfl ?_;refine hK _ _ ?_;clear hK K|skip)|refine st rfl ?_|refine sc rfl ?_|refine nl ?_|refine gs rfl rfl ?_
 case' inr=>
  repeat' first|refine vb (t:=90) rfl rfl rfl rfl ?_|refine vs T rfl fun K hK=>?_;(try simp (disch:=omega) only[go_sem,Nat.reduceBEq,Nat.reduceAdd,Nat.reduceLeDiff,v'B,h1,h2,z'i]);(first|refine hK _ _ ?_;clear hK K|intro bq hbq;(try simp only[HB]at hbq);refine hK _ _ ?_;clear hK K|refine Op1.callp rfl rfl (c0') rfl ?_;refine hK _ _ ?_;clear hK K|skip)|refine st rfl ?_|refine sc rfl ?_|refine nl ?_|refine gs rfl rfl ?_
 all_goals
  rename_i b5 hb5
  have n1: ¬bq=b5:=hbq
  refine ZfL (us:=[.pointer (some ⟨b5,0,none⟩)]) rfl rfl ?_
  refine hK _ _ ?_
  clear hK K
  try simp only[updO]
  cases hp1:x'F dr x.reg regs with
  |false=>
   rw[hp1]at c1
   repeat' first|refine vs T rfl fun K hK=>?_;(try simp (disch:=omega) only[go_sem,Nat.reduceBEq]);(first|refine hK _ _ ?_;clear hK K|refine Op1.callp rfl rfl (c1) rfl ?_;refine hK _ _ ?_;clear hK K)|refine st rfl ?_|refine nl ?_|refine gs rfl rfl ?_|exact z'j T (z'a _) ⟨rfl,rfl⟩
   all_goals rfl
  |true=>
  rw[hp1]at c1
  cases hp2:x'F dl x.loc locs with
  |false=>
   rw[hp2]at c2
   repeat' first|refine vs T rfl fun K hK=>?_;(try simp (disch:=omega) only[go_sem,Nat.reduceBEq]);(first|refine hK _ _ ?_;clear hK K|refine Op1.callp rfl rfl (c1) rfl ?_;refine hK _ _ ?_;clear hK K|refine Op1.callp rfl rfl (c2) rfl ?_;refine hK _ _ ?_;clear hK K)|refine st rfl ?_|refine nl ?_|refine gs rfl rfl ?_|exact z'j T (z'a _) ⟨rfl,rfl⟩
   all_goals rfl
  |true=>
  rw[hp2]at c2
  cases hp3:x'F dt x.to many with
  |false=>
   rw[hp3]at c3
   repeat' first|refine vs T rfl fun K hK=>?_;(try simp (disch:=omega) only[go_sem,Nat.reduceBEq]);(first|refine hK _ _ ?_;clear hK K|refine Op1.callp rfl rfl (c1) rfl ?_;refine hK _ _ ?_;clear hK K|refine Op1.callp rfl rfl (c2) rfl ?_;refine hK _ _ ?_;clear hK K|refine Op1.callp rfl rfl (c3) rfl ?_;refine hK _ _ ?_;clear hK K)|refine st rfl ?_|refine nl ?_|refine gs rfl rfl ?_|exact z'j T (z'a _) ⟨rfl,rfl⟩
   all_goals rfl
  |true=>
  rw[hp3]at c3
  repeat' first|refine vs T rfl fun K hK=>?_;(try simp (disch:=omega) only[go_sem,Nat.reduceBEq]);(first|refine hK _ _ ?_;clear hK K|refine Op1.callp rfl rfl (c1) rfl ?_;refine hK _ _ ?_;clear hK K|refine Op1.callp rfl rfl (c2) rfl ?_;refine hK _ _ ?_;clear hK K|refine Op1.callp rfl rfl (c3) rfl ?_;refine hK _ _ ?_;clear hK K|skip)|refine st rfl ?_|refine nl ?_|refine gs rfl rfl ?_
  refine Op1.callG (Hp:=[(b5,.cells 3 1 [iD regs])]) (Hr:=[(bq,.cells 207 6 [bD dr,bD dl,bD de,bD df,_,bD dt])]) rfl rfl rfl (ZlI de x.e he regs b5) (List.Perm.swap _ _ []) (fun d' H' hd'=>?_)
  obtain⟨rfl,rfl⟩:=hd'
  refine hK _ _ ?_
  clear hK K
  try simp only[updO,z'T,z'N]
  cases hc4:Zcd de x.e regs with
  |false=>
   repeat' first|refine vs T rfl fun K hK=>?_;(try simp (disch:=omega) only[go_sem,Nat.reduceBEq]);(refine hK _ _ ?_;clear hK K)|refine st rfl ?_|refine nl ?_|refine gs rfl rfl ?_|exact z'j T (z'a _) ⟨rfl,rfl⟩
   all_goals rfl
  |true=>
  repeat' first|refine vs T rfl fun K hK=>?_;(try simp (disch:=omega) only[go_sem,Nat.reduceBEq]);(first|refine hK _ _ ?_;clear hK K|skip)|refine gs rfl rfl ?_
  refine Op1.callG (Hp:=[(b5,.cells 3 1 [iD regs])]) (Hr:=[(bq,.cells 207 6 [bD dr,bD dl,bD de,bD df,_,bD dt])]) rfl rfl rfl (ZlI df x.f hf regs b5) (y'G _) (fun d' H' hd'=>?_)
  obtain⟨rfl,rfl⟩:=hd'
  refine hK _ _ ?_
  clear hK K
  try simp only[updO,z'T,z'N]
  repeat' first|refine vs T rfl fun K hK=>?_;(try simp (disch:=omega) only[go_sem,Nat.reduceBEq]);(refine hK _ _ ?_;clear hK K)|refine st rfl ?_|refine nl ?_|exact z'j T (z'a _) ⟨rfl,rfl⟩
  all_goals rfl
theorem Zmv (b:List Ins) (k:Nat):(y'J b).take k=y'J (b.take k):=by rw[y'J,y'J,List.map_take]
def ZbM (n locs:Int) (r:List Ins):Bool:=(decide (1≤r.length)&&decide (r.length≤1000)&&w'1 (r.getD (r.length-1) default))&&((List.range (r.length-1)).all fun i=>x'Y (r.getD i default) n locs r.length)
theorem Zgl (n locs:Int) (r:List Ins):v'P n locs r=(decide (0≤n)&&decide (n≤6)&&ZbM n locs r):=by
 unfold v'P ZbM
 simp only[Bool.and_assoc]
theorem Zn6 (r:List Ins) (hrl:r.length≤100000) (hins: ∀x,x∈r→x.e.length≤1000∧x.f.length≤1000) (n locs:Int):Pure Tryz.prog 151 [.sl false 7 (y'J r),iD n,iD locs] (bD (ZbM n locs r)):=by
 have hwl:IntKind.i64.wrap ((r.length:Int)-1)=(r.length:Int)-1:=by rw[w64 (by omega)]
 refine Fun.of T [.tmp 6] Tryz.func151 rfl Tryz.ntmps151 Tryz.results151 rfl (by kernel_rfl) ?_
 by_cases q0:r.length=0
 ·have s0:decide ((r.length:Int)-1<0)=true:=by simp;omega
  rw[show ZbM n locs r=false by simp[ZbM,q0]]
  repeat' first|refine vs T rfl fun K hK=>?_;(try simp (disch:=omega) only[go_sem,Nat.reduceBEq,Nat.reduceAdd,hwl,s0,z'U]);(refine hK _ _ ?_;clear hK K)|refine st rfl ?_|refine sc rfl ?_|refine nl ?_|refine gs rfl rfl ?_|exact z'j T (z'a _) ⟨rfl,rfl⟩
 have s0:decide ((r.length:Int)-1<0)=false:=by simp;omega
 by_cases q1:r.length>1000
 ·have s1:decide ((r.length:Int)-1≥1000)=true:=by simp;omega
  rw[show ZbM n locs r=false by simp[ZbM];omega]
  repeat' first|refine vs T rfl fun K hK=>?_;(try simp (disch:=omega) only[go_sem,Nat.reduceBEq,Nat.reduceAdd,hwl,s0,s1,z'U]);(refine hK _ _ ?_;clear hK K)|refine st rfl ?_|refine sc rfl ?_|refine nl ?_|refine gs rfl rfl ?_|exact z'j T (z'a _) ⟨rfl,rfl⟩
 have s1:decide ((r.length:Int)-1≥1000)=false:=by simp;omega
 have hk:((r.length:Int)-1)=((r.length-1:Nat):Int):=by omega
 rw[hk]at s0 s1
 have hwl:IntKind.i64.wrap ((r.length:Int)-1)=((r.length-1:Nat):Int):=by rw[hwl];exact hk
 clear hk
 obtain⟨xl,hxl⟩: ∃x,r[r.length-1]?=some x:=⟨_,z'b (by omega)⟩
 have rx:(y'J r)[r.length-1]?=some [iD xl.op,iD xl.reg,iD xl.loc,z'R xl.e,z'R xl.f,bD xl.ne,iD xl.to]:=by rw[x'V,hxl];rfl
 have hgl:r.getD (r.length-1) default=xl:=by rw[z'd,hxl];rfl
 have hl0:r.length-1<r.length:=by omega
 have cd:=ZlN xl (hins xl (z'f hxl)).1 (hins xl (z'f hxl)).2
 cases hdn:w'1 xl with
 |false=>
  rw[hdn]at cd
  rw[show ZbM n locs r=false by simp only[ZbM,hgl,hdn,w'o,x'z]]
  repeat' first|refine vs T rfl fun K hK=>?_;(try simp (disch:=omega) only[go_sem,Nat.reduceBEq,Nat.reduceAdd,Nat.reduceLeDiff,hwl,s0,s1,rx,z'U,z'q]);(first|refine hK _ _ ?_;clear hK K|refine⟨?_,hK _ _ ?_⟩<;>clear hK K;focus(try omega)|refine Op1.callp rfl rfl (cd) rfl ?_;refine hK _ _ ?_;clear hK K)|refine st rfl ?_|refine sc rfl ?_|refine nl ?_|refine gs rfl rfl ?_|exact z'j T (z'a _) ⟨rfl,rfl⟩
 |true=>
 rw[hdn]at cd
 have hRow:ZbM n locs r=(List.range (r.length-1)).all fun i=>x'Y (r.getD i default) n locs r.length:=by
  unfold ZbM
  rw[hgl,hdn]
  have:(decide (1≤r.length)&&decide (r.length≤1000)&&true)=true:=by simp;omega
  rw[this];rfl
 have htl:(r.take (r.length-1)).length=r.length-1:=by rw[z'A];omega
 generalize hq:r.take (r.length-1)=q at*
 repeat' first|refine vs T rfl fun K hK=>?_;(try simp (disch:=omega) only[go_sem,Nat.reduceBEq,Nat.reduceAdd,Nat.reduceLeDiff,hwl,s0,s1,rx,z'U,Zmv,hq,htl,z'i]);(first|refine hK _ _ ?_;clear hK K|refine⟨?_,hK _ _ ?_⟩<;>clear hK K;focus(try omega)|refine Op1.callp rfl rfl (cd) rfl ?_;refine hK _ _ ?_;clear hK K)|refine st rfl ?_|refine sc rfl ?_|refine nl ?_|refine gs rfl rfl ?_
 refine VC.loop {i:Nat//i≤r.length-1∧ ∀j,j<i→x'Y (r.getD j default) n locs r.length=true} (fun p=>⟨z'M [(0,.sl false 7 (y'J r)),(1,iD n),(2,iD locs),(29,.sl false 7 (y'J q)),(30,iD (r.length-1:Nat)),(31,iD (p.1:Nat))],[]⟩) (fun p=>r.length-p.1) ⟨0,by omega,fun j hj=>by omega⟩ ?_ ?_
 ·refine Weak.sub ?_
  simp[sub,upd]
 rintro⟨i,hi,hsi⟩
 dsimp only
 have hwi:IntKind.i64.wrap ((i:Int)+1)=((i+1:Nat):Int):=by rw[w64 (by omega)];omega
 rcases z'g i (r.length-1)with hlt|hge
 case inr=>
  have hd:decide ((i:Int)<((r.length-1:Nat):Int))=false:=by simp;omega
  rw[show ZbM n locs r=true by rw[hRow];exact Zbw fun j hj=>hsi j (by omega)]
  repeat' first|refine vs T rfl fun K hK=>?_;(try simp (disch:=omega) only[go_sem,Nat.reduceBEq,hd]);(refine hK _ _ ?_;clear hK K)|refine st rfl ?_|refine sc rfl ?_|refine nl ?_|exact z'j T (z'a _) ⟨rfl,rfl⟩
 have hd:decide ((i:Int)<((r.length-1:Nat):Int))=true:=by simp;omega
 obtain⟨x,hx⟩: ∃x,r[i]?=some x:=⟨_,z'b (by omega)⟩
 have hxq:q[i]?=some x:=by rw[←hq,x'h,if_pos hlt,hx]
 have rx2:(y'J q)[i]?=some [iD x.op,iD x.reg,iD x.loc,z'R x.e,z'R x.f,bD x.ne,iD x.to]:=by rw[x'V,hxq];rfl
 have hgx:r.getD i default=x:=by rw[z'd,hx];rfl
 have hef:=hins x (z'f hx)
 have co:=Zn9 x hef.1 hef.2 n locs r.length
 cases hO:x'Y x n locs r.length with
 |false=>
  rw[hO]at co
  rw[show ZbM n locs r=false by rw[hRow];exact Zbv hlt (by rw[hgx];exact hO)]
  repeat' first|refine vs T rfl fun K hK=>?_;(try simp (disch:=omega) only[go_sem,Nat.reduceBEq,Nat.reduceAdd,Nat.reduceLeDiff,hd,rx2,htl,z'q,z'U]);(first|refine hK _ _ ?_;clear hK K|intro bq hbq;(try simp only[HB]at hbq);refine hK _ _ ?_;clear hK K|refine⟨?_,hK _ _ ?_⟩<;>clear hK K;focus(try omega)|refine Op1.callp rfl rfl (co) rfl ?_;refine hK _ _ ?_;clear hK K)|refine st rfl ?_|refine sc rfl ?_|refine nl ?_|exact z'j T (z'a _) ⟨rfl,rfl⟩
 |true=>
  rw[hO]at co
  repeat' first|refine vs T rfl fun K hK=>?_;(try simp (disch:=omega) only[go_sem,Nat.reduceBEq,Nat.reduceAdd,Nat.reduceLeDiff,hd,hwi,rx2,htl,z'i,z'U]);(first|refine hK _ _ ?_;clear hK K|intro bq hbq;(try simp only[HB]at hbq);refine hK _ _ ?_;clear hK K|refine⟨?_,hK _ _ ?_⟩<;>clear hK K;focus(try omega)|refine Op1.callp rfl rfl (co) rfl ?_;refine hK _ _ ?_;clear hK K)|refine st rfl ?_|refine sc rfl ?_|refine nl ?_
  refine⟨⟨i+1,by omega,fun j hj=>?_⟩,Weak.subH (z'a _) ?_,by dsimp only;omega⟩
  ·rcases z'g j i with h'|h'
   ·exact hsi j h'
   ·obtain rfl:j=i:=by omega
    rw[hgx];exact hO
  ·simp[sub,upd]
theorem ZeJ (u:Un) (hu:OkU u):Pure Tryz.prog 111 [.agg (unC u)] (bD (z'8 u)):=by
 have k1:=hu.ini
 have k2:=hu.reg
 have k3:=hu.cod
 refine Fun.of T [.tmp 2] Tryz.func111 rfl Tryz.ntmps111 Tryz.results111 rfl (by kernel_rfl) ?_
 by_cases q0:u.md<2
 ·have s0:decide (u.md<2)=true:=by simpa using q0
  rw[show z'8 u=false by simp[z'8,w'e];omega]
  repeat' first|refine vb rfl rfl rfl rfl ?_|refine vs T rfl fun K hK=>?_;(try simp (disch:=omega) only[go_sem,Nat.reduceBEq,s0]);(refine hK _ _ ?_;clear hK K)|refine st rfl ?_|refine sc rfl ?_|refine nl ?_|refine gs rfl rfl ?_|exact z'j T (z'a _) ⟨rfl,rfl⟩
 have s0:decide (u.md<2)=false:=by simpa using q0
 by_cases q1:u.md>16
 ·have s1:decide (u.md>16)=true:=by simpa using q1
  rw[show z'8 u=false by simp[z'8,w'e];omega]
  repeat' first|refine vb rfl rfl rfl rfl ?_|refine vs T rfl fun K hK=>?_;(try simp (disch:=omega) only[go_sem,Nat.reduceBEq,s0,s1]);(refine hK _ _ ?_;clear hK K)|refine st rfl ?_|refine sc rfl ?_|refine nl ?_|refine gs rfl rfl ?_|exact z'j T (z'a _) ⟨rfl,rfl⟩
 have s1:decide (u.md>16)=false:=by simpa using q1
 by_cases q2:u.init.length>6
 ·have s2:decide ((u.init.length:Int)>6)=true:=by simp;omega
  rw[show z'8 u=false by simp[z'8,w'e];omega]
  repeat' first|refine vb rfl rfl rfl rfl ?_|refine vs T rfl fun K hK=>?_;(try simp (disch:=omega) only[go_sem,Nat.reduceBEq,s0,s1,s2,z'l]);(refine hK _ _ ?_;clear hK K)|refine st rfl ?_|refine sc rfl ?_|refine nl ?_|refine gs rfl rfl ?_|exact z'j T (z'a _) ⟨rfl,rfl⟩
 have s2:decide ((u.init.length:Int)>6)=false:=by simp;omega
 by_cases q3:u.regs.length=0
 ·have s3:((u.regs.length:Int) == 0)=true:=beq_iff_eq.2 (by omega)
  rw[show z'8 u=false by simp[z'8,w'e,q3]]
  repeat' first|refine vb rfl rfl rfl rfl ?_|refine vs T rfl fun K hK=>?_;(try simp (disch:=omega) only[go_sem,Nat.reduceBEq,s0,s1,s2,s3,z'l]);(refine hK _ _ ?_;clear hK K)|refine st rfl ?_|refine sc rfl ?_|refine nl ?_|refine gs rfl rfl ?_|exact z'j T (z'a _) ⟨rfl,rfl⟩
 have s3:((u.regs.length:Int) == 0)=false:=beq_eq_false_iff_ne.2 (by omega)
 by_cases q4:u.regs.length>4
 ·have s4:decide ((u.regs.length:Int)>4)=true:=by simp;omega
  rw[show z'8 u=false by simp[z'8,w'e];omega]
  repeat' first|refine vb rfl rfl rfl rfl ?_|refine vs T rfl fun K hK=>?_;(try simp (disch:=omega) only[go_sem,Nat.reduceBEq,s0,s1,s2,s3,s4,z'l]);(refine hK _ _ ?_;clear hK K)|refine st rfl ?_|refine sc rfl ?_|refine nl ?_|refine gs rfl rfl ?_|exact z'j T (z'a _) ⟨rfl,rfl⟩
 have s4:decide ((u.regs.length:Int)>4)=false:=by simp;omega
 by_cases q5:u.code.length=u.regs.length
 case neg=>
  have s5:((u.code.length:Int) != (u.regs.length:Int))=true:=by simp;omega
  rw[show z'8 u=false by simp[z'8,w'e,q5]]
  repeat' first|refine vb rfl rfl rfl rfl ?_|refine vs T rfl fun K hK=>?_;(try simp (disch:=omega) only[go_sem,Nat.reduceBEq,s0,s1,s2,s3,s4,s5,z'l,z'H]);(refine hK _ _ ?_;clear hK K)|refine st rfl ?_|refine sc rfl ?_|refine nl ?_|refine gs rfl rfl ?_|exact z'j T (z'a _) ⟨rfl,rfl⟩
 have s5:((u.code.length:Int) != (u.regs.length:Int))=false:=by simp;omega
 repeat' first|refine vb rfl rfl rfl rfl ?_|refine vs T rfl fun K hK=>?_;(try simp (disch:=omega) only[go_sem,Nat.reduceBEq,s0,s1,s2,s3,s4,s5,z'l,z'H]);(refine hK _ _ ?_;clear hK K)|refine st rfl ?_|refine sc rfl ?_|refine nl ?_|refine gs rfl rfl ?_
 have hH:w'e u=y'z u.init u.md:=by
  have h1:decide (2≤u.md)=true:=by simp;omega
  have h2:decide (u.md≤16)=true:=by simp;omega
  have h3:decide (u.init.length≤6)=true:=by simp;omega
  have h4:decide (1≤u.regs.length)=true:=by simp;omega
  have h5:decide (u.regs.length≤4)=true:=by simp;omega
  simp only[w'e,h1,h2,h3,h4,h5,decide_eq_true q5,y'Z,w'S]
 refine VC.loop {k:Nat//k≤u.init.length∧ ∀(i:Nat) (y:Int),i<k→u.init[i]?=some y→inB y u.md=true} (fun p=>⟨z'M [(1,.pt (unC u)),(43,z'S u.init),(44,iD (u.init.length:Nat)),(45,iD (p.1:Nat))],[]⟩) (fun p=>u.init.length-p.1) ⟨0,by omega,fun i y hi=>by omega⟩ ?_ ?_
 ·refine Weak.sub ?_
  simp[sub,upd]
 rintro⟨k,hk,hs⟩
 dsimp only
 rcases z'g k u.init.length with hlt|hge
 case inl=>
  have hd:decide ((k:Int)<(u.init.length:Int))=true:=by simp;omega
  have hw:IntKind.i64.wrap ((k:Int)+1)=((k+1:Nat):Int):=by rw[w64 (by omega)];omega
  obtain⟨n,hn⟩: ∃n,u.init[k]?=some n:=⟨_,z'b hlt⟩
  have rn:(iRs u.init)[k]?=some [iD n]:=by rw[y'y,hn];rfl
  have bad:inB n u.md=false→z'8 u=false:=fun h=>by
   have:y'z u.init u.md=false:=v'g (p:=fun n=>inB n u.md) hn h
   simp[z'8,hH,this]
  by_cases p0:n<0
  ·have d0:decide (n<0)=true:=by simpa using p0
   rw[bad (by simp[inB];omega)]
   repeat' first|refine vs T rfl fun K hK=>?_;(try simp (disch:=omega) only[go_sem,Nat.reduceBEq,hd,rn,d0,z'l]);(first|refine hK _ _ ?_;clear hK K|refine⟨?_,hK _ _ ?_⟩<;>clear hK K;focus(try omega))|refine st rfl ?_|refine sc rfl ?_|refine nl ?_|refine gs rfl rfl ?_|exact z'j T (z'a _) ⟨rfl,rfl⟩
  have d0:decide (n<0)=false:=by simpa using p0
  by_cases p1:n≥u.md
  ·have d1:decide (n≥u.md)=true:=by simpa using p1
   rw[bad (by simp[inB];omega)]
   repeat' first|refine vs T rfl fun K hK=>?_;(try simp (disch:=omega) only[go_sem,Nat.reduceBEq,hd,rn,d0,d1,z'l]);(first|refine hK _ _ ?_;clear hK K|refine⟨?_,hK _ _ ?_⟩<;>clear hK K;focus(try omega))|refine st rfl ?_|refine sc rfl ?_|refine nl ?_|refine gs rfl rfl ?_|exact z'j T (z'a _) ⟨rfl,rfl⟩
  have d1:decide (n≥u.md)=false:=by simpa using p1
  repeat' first|refine vs T rfl fun K hK=>?_;(try simp (disch:=omega) only[go_sem,Nat.reduceBEq,hd,hw,rn,d0,d1,z'l]);(first|refine hK _ _ ?_;clear hK K|refine⟨?_,hK _ _ ?_⟩<;>clear hK K;focus(try omega))|refine st rfl ?_|refine sc rfl ?_|refine nl ?_|refine gs rfl rfl ?_
  refine⟨⟨k+1,by omega,v'W hs hn (by simp[inB];omega)⟩,Weak.sub ?_,by simp only[];omega⟩
  simp[sub,upd]
 have hd:decide ((k:Int)<(u.init.length:Int))=false:=by simp;omega
 have hA:y'z u.init u.md=true:=ZaC fun i x hi hx=>hs i x (by omega) hx
 have hU:z'8 u=(List.range u.regs.length).all fun t=>v'P (u.regs.getD t 0) u.init.length (u.code.getD t []):=by
  unfold z'8
  rw[hH,hA,y'Z]
 repeat' first|refine vs T rfl fun K hK=>?_;(try simp (disch:=omega) only[go_sem,Nat.reduceBEq,hd,z'l]);(refine hK _ _ ?_;clear hK K)|refine st rfl ?_|refine sc rfl ?_|refine nl ?_
 refine VC.loop {t:Nat//t≤u.regs.length∧ ∀j,j<t→v'P (u.regs.getD j 0) u.init.length (u.code.getD j [])=true} (fun p=>⟨z'M [(1,.pt (unC u)),(59,z'S u.regs),(60,iD (u.regs.length:Nat)),(61,iD (p.1:Nat))],[]⟩) (fun p=>u.regs.length-p.1) ⟨0,by omega,fun j hj=>by omega⟩ ?_ ?_
 ·refine Weak.sub ?_
  simp[sub,upd]
 rintro⟨t,ht,hs⟩
 dsimp only
 rcases z'g t u.regs.length with hlt|hge
 case inr=>
  have hd:decide ((t:Int)<(u.regs.length:Int))=false:=by simp;omega
  rw[show z'8 u=true by rw[hU];exact Zbw fun i hi=>hs i (by omega)]
  repeat' first|refine vs T rfl fun K hK=>?_;(try simp (disch:=omega) only[go_sem,Nat.reduceBEq,hd]);(refine hK _ _ ?_;clear hK K)|refine st rfl ?_|refine sc rfl ?_|refine nl ?_|exact z'j T (z'a _) ⟨rfl,rfl⟩
 have hd:decide ((t:Int)<(u.regs.length:Int))=true:=by simp;omega
 have hw:IntKind.i64.wrap ((t:Int)+1)=((t+1:Nat):Int):=by rw[w64 (by omega)];omega
 obtain⟨n,hn⟩: ∃n,u.regs[t]?=some n:=⟨_,z'b hlt⟩
 obtain⟨r,hr⟩: ∃r,u.code[t]?=some r:=⟨_,z'b (by omega)⟩
 have rn:(iRs u.regs)[t]?=some [iD n]:=by rw[y'y,hn];rfl
 have rr:(x'6 u.code)[t]?=some [.sl false 7 (y'J r)]:=by rw[x'C,hr];rfl
 have hrm:=z'f hr
 have hgn:u.regs.getD t 0=n:=by rw[z'd,hn];rfl
 have hgr:u.code.getD t []=r:=by rw[z'd,hr];rfl
 have bad:v'P n u.init.length r=false→z'8 u=false:=fun h=>by rw[hU];exact Zbv hlt (by rw[hgn,hgr];exact h)
 have htc:t<u.code.length:=by omega
 have cr:=Zn6 r (hu.row r hrm) (hu.ins r hrm) n u.init.length
 by_cases p0:n<0
 ·have d0:decide (n<0)=true:=by simpa using p0
  rw[bad (by rw[Zgl];simp;omega)]
  repeat' first|refine dr (id:=14) T 16 (by kernel_rfl) ?_|refine gn ?_|(apply VCg.step T rfl rfl);focus((try simp (disch:=omega) only[go_sem,Nat.reduceBEq,d0]);(exact rfl))|refine VCg.gstep T rfl rfl rfl rfl ?_;try simp only[GB]|refine vs T rfl fun K hK=>?_;(try simp (disch:=omega) only[go_sem,Nat.reduceBEq,hd,rn,z'l]);(first|refine hK _ _ ?_;clear hK K|refine⟨?_,hK _ _ ?_⟩<;>clear hK K;focus(try omega))|refine st rfl ?_|refine sc rfl ?_|refine nl ?_|refine gs rfl rfl ?_|exact z'j T (z'a _) ⟨rfl,rfl⟩
 have d0:decide (n<0)=false:=by simpa using p0
 by_cases p1:n>6
 ·have d1:decide (n>6)=true:=by simpa using p1
  rw[bad (by rw[Zgl];simp;omega)]
  repeat' first|refine dr (id:=14) T 16 (by kernel_rfl) ?_|refine gn ?_|(first|apply VCg.step T rfl rfl|apply exF);focus((try simp (disch:=omega) only[go_sem,Nat.reduceBEq,d0,d1]);(exact rfl))|refine VCg.gstep T rfl rfl rfl rfl ?_;try simp only[GB]|refine vs T rfl fun K hK=>?_;(try simp (disch:=omega) only[go_sem,Nat.reduceBEq,hd,rn,z'l]);(first|refine hK _ _ ?_;clear hK K|refine⟨?_,hK _ _ ?_⟩<;>clear hK K;focus(try omega))|refine st rfl ?_|refine sc rfl ?_|refine nl ?_|refine gs rfl rfl ?_|exact z'j T (z'a _) ⟨rfl,rfl⟩
 have d1:decide (n>6)=false:=by simpa using p1
 cases hQ:ZbM n u.init.length r with
 |false=>
  rw[hQ]at cr
  rw[bad (by rw[Zgl,hQ];simp)]
  repeat' first|refine dr (id:=14) T 16 (by kernel_rfl) ?_|refine gn ?_|(first|apply VCg.step T rfl rfl|apply exF);focus((try simp (disch:=omega) only[go_sem,Nat.reduceBEq,rr,d0,d1,z'l,z'H]);(first|exact rfl|refine⟨?_,rfl⟩;try omega))|refine VCg.gstep T rfl rfl rfl rfl ?_;try simp only[GB]|refine vs T rfl fun K hK=>?_;(try simp (disch:=omega) only[go_sem,Nat.reduceBEq,hd,rn,z'q,z'l]);(first|refine hK _ _ ?_;clear hK K|refine⟨?_,hK _ _ ?_⟩<;>clear hK K;focus(try omega)|refine Op1.callp rfl rfl (cr) rfl ?_;refine hK _ _ ?_;clear hK K)|refine st rfl ?_|refine sc rfl ?_|refine nl ?_|refine gs rfl rfl ?_|exact z'j T (z'a _) ⟨rfl,rfl⟩
 |true=>
  rw[hQ]at cr
  repeat' first|refine dr (id:=14) T 16 (by kernel_rfl) ?_|refine gn ?_|(first|apply VCg.step T rfl rfl|apply exF);focus((try simp (disch:=omega) only[go_sem,Nat.reduceBEq,rr,d0,d1,z'l,z'H]);(first|exact rfl|refine⟨?_,rfl⟩;try omega))|refine VCg.gstep T rfl rfl rfl rfl ?_;try simp only[GB]|refine vs T rfl fun K hK=>?_;(try simp (disch:=omega) only[go_sem,Nat.reduceBEq,hd,hw,rn,z'i,z'l]);(first|refine hK _ _ ?_;clear hK K|refine⟨?_,hK _ _ ?_⟩<;>clear hK K;focus(try omega)|refine Op1.callp rfl rfl (cr) rfl ?_;refine hK _ _ ?_;clear hK K)|refine st rfl ?_|refine sc rfl ?_|refine nl ?_|refine gs rfl rfl ?_
  refine⟨⟨t+1,by omega,fun j hj=>?_⟩,Weak.sub ?_,by simp only[];omega⟩
  ·rcases z'g j t with h'|h'
   ·exact hs j h'
   ·obtain rfl:j=t:=by omega
    rw[hgn,hgr,Zgl,hQ];simp;omega
  ·simp[sub,upd]
end Go.Proofs.YtomcmfbpmkklmaaGreat
