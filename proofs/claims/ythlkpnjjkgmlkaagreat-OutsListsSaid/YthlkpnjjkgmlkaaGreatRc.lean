/- Contracts: what an instruction has, whether it fits. No condition. -/
import Derived.Test.YthlkpnjjkgmlkaaGreatYla
import Derived.Test.YthlkpnjjkgmlkaaGreatYb
import Derived.Test.YthlkpnjjkgmlkaaGreatYi
namespace Go.Proofs.YthlkpnjjkgmlkaaGreat
set_option maxHeartbeats 16000000
set_option linter.unusedSimpArgs false
set_option linter.unusedVariables false
set_option maxRecDepth 20000
open Go Go.Proofs Go.Vc
attribute [local irreducible] x'c VCg VCw VCx
theorem ZgZ (has:Bool) (n m:Int):Pure Tryz.prog 178 [bD has,iD n,iD m] (bD (y'5 has n m)):=by
 refine Fun.of T [.tmp 6] Tryz.func178 rfl Tryz.ntmps178 Tryz.results178 rfl (by kernel_rfl) ?_
 cases has with
 |true=>
  by_cases h1:n≥0
  ·have e1:decide (n≥0)=true:=by simpa using h1
   by_cases h2:n<m
   ·have e2:decide (n<m)=true:=by simpa using h2
    rw[show y'5 true n m=true by simp[y'5,inB,h1,h2]]
    repeat' first|refine vs T rfl fun K hK=>?_;(try simp (disch:=omega) only[go_sem,Nat.reduceBEq,Nat.reduceAdd,e1,e2]);(refine hK _ _ ?_;clear hK K)|refine st rfl ?_|refine nl ?_|refine gs rfl rfl ?_|refine gu rfl rfl ?_|exact z'A T (z'a _) ⟨rfl,rfl⟩
   ·have e2:decide (n<m)=false:=by simpa using h2
    rw[show y'5 true n m=false by simp[y'5,inB,h2]]
    repeat' first|refine vs T rfl fun K hK=>?_;(try simp (disch:=omega) only[go_sem,Nat.reduceBEq,Nat.reduceAdd,e1,e2,z'E]);(refine hK _ _ ?_;clear hK K)|refine st rfl ?_|refine nl ?_|refine gs rfl rfl ?_|exact z'A T (z'a _) ⟨rfl,rfl⟩
  ·have e1:decide (n≥0)=false:=by simpa using h1
   rw[show y'5 true n m=false by simp[y'5,inB,h1]]
   repeat' first|refine vs T rfl fun K hK=>?_;(try simp (disch:=omega) only[go_sem,Nat.reduceBEq,Nat.reduceAdd,e1,z'E]);(refine hK _ _ ?_;clear hK K)|refine st rfl ?_|refine nl ?_|refine gs rfl rfl ?_|exact z'A T (z'a _) ⟨rfl,rfl⟩
 |false=>
  rw[show y'5 false n m=(n == 0) from rfl]
  repeat' first|refine vs T rfl fun K hK=>?_;(try simp (disch:=omega) only[go_sem,Nat.reduceBEq,Nat.reduceAdd,z'O]);(refine hK _ _ ?_;clear hK K)|refine st rfl ?_|refine nl ?_|refine gs rfl rfl ?_|exact z'A T (z'a _) ⟨rfl,rfl⟩
abbrev ndL (d:Nd):List D:=[bD d.r,bD d.l,bD d.e,bD d.f,bD d.n,bD d.t]
abbrev nd0:Nd:=⟨false,false,false,false,false,false⟩
abbrev ndV (d:Nd):Value:= .agg #[.bool d.r,.bool d.l,.bool d.e,.bool d.f,.bool d.n,.bool d.t]
def ndR (o:Option Nd):D:= .tup [.agg (ndL (o.getD nd0)),bD o.isSome]
def Zrd:List (Int×Value):=[(2,ndV ⟨true,false,true,false,false,false⟩),(3,ndV ⟨true,true,false,false,false,false⟩),(4,ndV ⟨false,true,true,false,false,false⟩),(5,ndV ⟨true,true,true,true,false,false⟩),(6,ndV ⟨true,true,true,false,false,false⟩),(7,ndV ⟨true,true,true,false,false,false⟩),(8,ndV nd0),(9,ndV ⟨false,true,true,false,true,false⟩),(20,ndV ⟨false,false,false,false,false,true⟩),(21,ndV ⟨false,false,true,false,false,true⟩)]
theorem ZpA (op:Int):Zaj op Zrd=(ndF op).map ndV:=by
 unfold Zrd ndF
 by_cases h2:op=2
 ·subst h2;rfl
 by_cases h3:op=3
 ·subst h3;rfl
 by_cases h4:op=4
 ·subst h4;rfl
 by_cases h5:op=5
 ·subst h5;rfl
 by_cases h6:op=6
 ·subst h6;rfl
 by_cases h7:op=7
 ·subst h7;rfl
 by_cases h8:op=8
 ·subst h8;rfl
 by_cases h9:op=9
 ·subst h9;rfl
 by_cases h20:op=20
 ·subst h20;rfl
 by_cases h21:op=21
 ·subst h21;rfl
 simp only[Zaj,h2,h3,h4,h5,h6,h7,h8,h9,h20,h21,if_false,beq_eq_false_iff_ne.2 h2,beq_eq_false_iff_ne.2 h3,beq_eq_false_iff_ne.2 h4,beq_eq_false_iff_ne.2 h5,beq_eq_false_iff_ne.2 h6,beq_eq_false_iff_ne.2 h7,beq_eq_false_iff_ne.2 h8,beq_eq_false_iff_ne.2 h9,beq_eq_false_iff_ne.2 h20,beq_eq_false_iff_ne.2 h21,cond_false]
 rfl
theorem umN:Tryz.prog.underlying 266=some (.map 3 219):=by kernel_rfl
theorem zN:(Tryz.prog.info? 219).bind (·.zero)=some (ndV nd0):=by kernel_rfl
theorem Zsm (d:Nd): ∀cs,ndV d= .agg cs→cs.toList.all Value.oneCell'=true:=fun cs h=>by cases h;rfl
theorem Zsq (op:Int):Pure Tryz.prog 176 [iD op] (ndR (ndF op)):=by
 refine Fun.of T [.cell 2 219,.tmp 3] Tryz.func176 rfl Tryz.ntmps176 Tryz.results176 rfl (by kernel_rfl) ?_
 repeat' first|refine vt rfl fun K hK=>?_;refine Zci rfl umN (fun x hx=>(by cases hx)) (fun bq hbq=>?_);(try simp only[HB]at hbq);refine hK _ _ ?_;clear hK K;(try simp only[updO])|refine vt rfl fun K hK=>?_;refine Zlg (by exact .inr rfl) umN Tryz.underlying3 rfl rfl rfl (by(try simp (disch:=omega) only[hget_eq]);rfl) (by rfl) ?_;refine hK _ _ ?_;clear hK K;(try simp (disch:=omega) only[updO,hset_eq,z'H,z'N])|refine vs T rfl fun K hK=>?_;(try simp (disch:=omega) only[go_sem,Nat.reduceBEq,Nat.reduceAdd]);(first|refine hK _ _ ?_;clear hK K|intro bq hbq;(try simp only[HB]at hbq);refine hK _ _ ?_;clear hK K|skip)|refine st rfl ?_|refine nl ?_
 refine ZiD rfl umN Tryz.underlying3 zN rfl rfl hget_eq (r:=(ndV ((ndF op).getD nd0),(ndF op).isSome)) (show(match Zaj op Zrd with|some v=>(v,true)|none=>(ndV nd0,false))=_ by rw[ZpA];cases ndF op<;>rfl) (Zsm _) ?_
 refine hK _ _ ?_
 clear hK K
 try simp only[updO]
 repeat' first|refine vs T rfl fun K hK=>?_;(try simp (disch:=omega) only[go_sem,Nat.reduceBEq,Nat.reduceAdd,Nat.reduceLeDiff,ZaY,z'm,z'8]);(first|refine hK _ _ ?_;clear hK K|intro bq hbq;(try simp only[HB]at hbq);refine hK _ _ ?_;clear hK K)|refine st rfl ?_|refine nl ?_|exact w'N T rfl (by(simp (disch:=omega) only[hget_ne,hget_eq])<;>rfl) rfl rfl rfl (z'a _) ⟨rfl,rfl⟩
theorem Zpr (has:Bool) (l:List Opc) (hl:l.length≤1000) (n:Int) (b:Nat):Fun Tryz.prog 177 [bD has,y'8 l,pD b] [(b,.cells 3 1 [iD n])] false (fun d H'=>d=bD (ZbV has l n)∧H'=[(b,.cells 3 1 [iD n])]):=by
 have c1:Pure Tryz.prog 130 [y'8 l,.gs none 0,iD n,iD 0] (bD (v'V l [] n 0)):=Fun.argsW (Zlm l hl [] (by simp) n 0) (z'4 (Fz.refl _ _) (z'4 w'v (FzL.refl _ _)))
 have he:((l.length:Int) == 0)=decide (l.length=0):=by rw[x'0];simp
 refine Fun.of T [.tmp 5] Tryz.func177 rfl Tryz.ntmps177 Tryz.results177 rfl (by kernel_rfl) ?_
 cases has with
 |true=>
  rw[show ZbV true l n=v'V l [] n 0 from rfl]
  cases hc:v'V l [] n 0 with
  |true=>
   rw[hc]at c1
   repeat' first|refine vs T rfl fun K hK=>?_;(try simp (disch:=omega) only[go_sem,Nat.reduceBEq,Nat.reduceAdd]);(first|refine hK _ _ ?_;clear hK K|refine Op1.callp rfl rfl (c1) rfl ?_;refine hK _ _ ?_;clear hK K)|refine st rfl ?_|refine nl ?_|refine gs rfl rfl ?_|refine gu rfl rfl ?_
   exact z'A T (z'w _) ⟨rfl,rfl⟩
  |false=>
   rw[hc]at c1
   repeat' first|refine vs T rfl fun K hK=>?_;(try simp (disch:=omega) only[go_sem,Nat.reduceBEq,Nat.reduceAdd,z'E]);(first|refine hK _ _ ?_;clear hK K|refine Op1.callp rfl rfl (c1) rfl ?_;refine hK _ _ ?_;clear hK K)|refine st rfl ?_|refine nl ?_|refine gs rfl rfl ?_
   exact z'A T (z'w _) ⟨rfl,rfl⟩
 |false=>
  rw[show ZbV false l n=decide (l.length=0) from rfl]
  repeat' first|refine vs T rfl fun K hK=>?_;(try simp (disch:=omega) only[go_sem,Nat.reduceBEq,Nat.reduceAdd,he,y's,z'O]);(refine hK _ _ ?_;clear hK K)|refine st rfl ?_|refine nl ?_|refine gs rfl rfl ?_
  exact z'A T (z'w _) ⟨rfl,rfl⟩
theorem ZpX (x:Ins) (he:x.e.length≤1000) (hf:x.f.length≤1000):Pure Tryz.prog 113 [.agg (Zbn x)] (bD (Zef x)):=by
 obtain⟨op,reg,loc,e,f,ne,to⟩:=x
 dsimp only at he hf
 have hw:IntKind.i64.wrap ((e.length:Int)+(f.length:Int))=((e.length+f.length:Nat):Int):=by rw[w64 (by omega)];omega
 have hD:Zef ⟨op,reg,loc,e,f,ne,to⟩=((op == 22)&&((reg == 0)&&((loc == 0)&&((to == 0)&&((!ne)&&(((e.length+f.length:Nat):Int) == 0)))))):=by
  have h0:(((e.length+f.length:Nat):Int) == 0)=(decide (e.length=0)&&decide (f.length=0)):=by
   rw[x'0];simp only[beq_iff_eq,z'c,decide_eq_true_eq];omega
  rw[x'0]
  simp only[Zef,h0,z'c,decide_eq_true_eq,beq_iff_eq]
  constructor
  ·rintro⟨a,b,c,d,e,f,g⟩;exact⟨a,b,c,g,f,d,e⟩
  ·rintro⟨a,b,c,g,f,d,e⟩;exact⟨a,b,c,d,e,f,g⟩
 refine Fun.of T [.tmp 2] Tryz.func113 rfl Tryz.ntmps113 Tryz.results113 rfl (by kernel_rfl) ?_
 rw[hD]
 cases h1:op == 22 with
 |false=>
  repeat' first|refine vb rfl rfl rfl rfl ?_|refine vs T rfl fun K hK=>?_;(try simp (disch:=omega) only[go_sem,Nat.reduceBEq,Zbn,h1]);(refine hK _ _ ?_;clear hK K)|refine st rfl ?_|refine nl ?_|refine gs rfl rfl ?_|exact z'A T (z'a _) ⟨rfl,rfl⟩
  all_goals rfl
 |true=>
 cases h2:reg == 0 with
 |false=>
  repeat' first|refine vb rfl rfl rfl rfl ?_|refine vs T rfl fun K hK=>?_;(try simp (disch:=omega) only[go_sem,Nat.reduceBEq,Zbn,h1,h2]);(refine hK _ _ ?_;clear hK K)|refine st rfl ?_|refine nl ?_|refine gs rfl rfl ?_|exact z'A T (z'a _) ⟨rfl,rfl⟩
  all_goals rfl
 |true=>
 cases h3:loc == 0 with
 |false=>
  repeat' first|refine vb rfl rfl rfl rfl ?_|refine vs T rfl fun K hK=>?_;(try simp (disch:=omega) only[go_sem,Nat.reduceBEq,Zbn,h1,h2,h3]);(refine hK _ _ ?_;clear hK K)|refine st rfl ?_|refine nl ?_|refine gs rfl rfl ?_|exact z'A T (z'a _) ⟨rfl,rfl⟩
  all_goals rfl
 |true=>
 cases h4:to == 0 with
 |false=>
  repeat' first|refine vb rfl rfl rfl rfl ?_|refine vs T rfl fun K hK=>?_;(try simp (disch:=omega) only[go_sem,Nat.reduceBEq,Zbn,h1,h2,h3,h4]);(refine hK _ _ ?_;clear hK K)|refine st rfl ?_|refine nl ?_|refine gs rfl rfl ?_|exact z'A T (z'a _) ⟨rfl,rfl⟩
  all_goals rfl
 |true=>
 cases ne with
 |true=>
  repeat' first|refine vb rfl rfl rfl rfl ?_|refine vs T rfl fun K hK=>?_;(try simp (disch:=omega) only[go_sem,Nat.reduceBEq,Zbn,h1,h2,h3,h4,z'E]);(refine hK _ _ ?_;clear hK K)|refine st rfl ?_|refine nl ?_|refine gs rfl rfl ?_|exact z'A T (z'a _) ⟨rfl,rfl⟩
  all_goals rfl
 |false=>
  repeat' first|refine vb rfl rfl rfl rfl ?_|refine vs T rfl fun K hK=>?_;(try simp (disch:=omega) only[go_sem,Nat.reduceBEq,Zbn,h1,h2,h3,h4,hw,y's,z'O]);(refine hK _ _ ?_;clear hK K)|refine st rfl ?_|refine nl ?_|refine gs rfl rfl ?_|exact z'A T (z'a _) ⟨rfl,rfl⟩
  all_goals rfl
theorem ZtK {x:Ins} {d:Nd} (h:ndF x.op=some d) (regs locs many:Int):v'h x regs locs many=(((!x.ne)||d.n)&&(y'5 d.r x.reg regs&&(y'5 d.l x.loc locs&&(y'5 d.t x.to many&&(ZbV d.e x.e regs&&ZbV d.f x.f regs))))):=by
 unfold v'h
 rw[h]
 simp only[]
 cases x.ne<;>cases d.n<;>cases y'5 d.r x.reg regs<;>cases y'5 d.l x.loc locs<;>cases y'5 d.t x.to many<;>cases ZbV d.e x.e regs<;>cases ZbV d.f x.f regs<;>rfl
theorem ZrV (x:Ins) (he:x.e.length≤1000) (hf:x.f.length≤1000) (regs locs many:Int):Pure Tryz.prog 114 [.agg (Zbn x),iD regs,iD locs,iD many] (bD (v'h x regs locs many)):=by
 have c0:=Zsq x.op
 refine Fun.of T [.tmp 8] Tryz.func114 rfl Tryz.ntmps114 Tryz.results114 rfl (by kernel_rfl) ?_
 cases hN:ndF x.op with
 |none=>
  have c0':Pure Tryz.prog 176 [iD x.op] (.tup [.agg [bD false,bD false,bD false,bD false,bD false,bD false],bD false]):=by rw[hN]at c0;exact c0
  rw[show v'h x regs locs many=false by simp[v'h,hN]]
  repeat' first|refine vb (t:=104) rfl rfl rfl rfl ?_|refine vs T rfl fun K hK=>?_;(try simp (disch:=omega) only[go_sem,Nat.reduceBEq,Nat.reduceAdd,Nat.reduceLeDiff,Zbn,z'O]);(first|refine hK _ _ ?_;clear hK K|intro bq hbq;(try simp only[HB]at hbq);refine hK _ _ ?_;clear hK K|refine Op1.callp rfl rfl (c0') rfl ?_;refine hK _ _ ?_;clear hK K)|refine st rfl ?_|refine sc rfl ?_|refine nl ?_|refine gs rfl rfl ?_|refine gu rfl rfl ?_|exact z'A T (z'a _) ⟨rfl,rfl⟩
 |some d=>
 have c0':Pure Tryz.prog 176 [iD x.op] (.tup [.agg [bD d.r,bD d.l,bD d.e,bD d.f,bD d.n,bD d.t],bD true]):=by rw[hN]at c0;exact c0
 rw[ZtK hN]
 obtain⟨dr,dl,de,df,dn,dt⟩:=d
 dsimp only at c0'⊢
 have c1:=ZgZ dr x.reg regs
 have c2:=ZgZ dl x.loc locs
 have c3:=ZgZ dt x.to many
 cases hne:((!x.ne)||dn)with
 |false=>
  obtain⟨h1,h2⟩:x.ne=true∧dn=false:=by cases hx:x.ne<;>cases dn<;>simp_all
  subst h2
  repeat' first|refine vb (t:=104) rfl rfl rfl rfl ?_|refine vs T rfl fun K hK=>?_;(try simp (disch:=omega) only[go_sem,Nat.reduceBEq,Nat.reduceAdd,Nat.reduceLeDiff,Zbn,h1,z'E,z'O]);(first|refine hK _ _ ?_;clear hK K|intro bq hbq;(try simp only[HB]at hbq);refine hK _ _ ?_;clear hK K|refine Op1.callp rfl rfl (c0') rfl ?_;refine hK _ _ ?_;clear hK K)|refine st rfl ?_|refine sc rfl ?_|refine nl ?_|refine gs rfl rfl ?_|exact z'A T (z'a _) ⟨rfl,rfl⟩
  all_goals rfl
 |true=>
 have hpre:x.ne=false∨(x.ne=true∧dn=true):=by cases hx:x.ne<;>cases dn<;>simp_all
 rcases hpre with h1|⟨h1,h2⟩
 case' inl=>
  repeat' first|refine vb (t:=104) rfl rfl rfl rfl ?_|refine vs T rfl fun K hK=>?_;(try simp (disch:=omega) only[go_sem,Nat.reduceBEq,Nat.reduceAdd,Nat.reduceLeDiff,Zbn,h1,z'E]);(first|refine hK _ _ ?_;clear hK K|intro bq hbq;(try simp only[HB]at hbq);refine hK _ _ ?_;clear hK K|refine Op1.callp rfl rfl (c0') rfl ?_;refine hK _ _ ?_;clear hK K|skip)|refine st rfl ?_|refine sc rfl ?_|refine nl ?_|refine gs rfl rfl ?_
 case' inr=>
  repeat' first|refine vb (t:=104) rfl rfl rfl rfl ?_|refine vs T rfl fun K hK=>?_;(try simp (disch:=omega) only[go_sem,Nat.reduceBEq,Nat.reduceAdd,Nat.reduceLeDiff,Zbn,h1,h2,z'E]);(first|refine hK _ _ ?_;clear hK K|intro bq hbq;(try simp only[HB]at hbq);refine hK _ _ ?_;clear hK K|refine Op1.callp rfl rfl (c0') rfl ?_;refine hK _ _ ?_;clear hK K|skip)|refine st rfl ?_|refine sc rfl ?_|refine nl ?_|refine gs rfl rfl ?_
 all_goals
  rename_i b5 hb5
  have n1: ¬bq=b5:=hbq
  refine Zlh (us:=[.pointer (some ⟨b5,0,none⟩)]) rfl rfl ?_
  refine hK _ _ ?_
  clear hK K
  try simp only[updO]
  cases hp1:y'5 dr x.reg regs with
  |false=>
   rw[hp1]at c1
   repeat' first|refine vs T rfl fun K hK=>?_;(try simp (disch:=omega) only[go_sem,Nat.reduceBEq]);(first|refine hK _ _ ?_;clear hK K|refine Op1.callp rfl rfl (c1) rfl ?_;refine hK _ _ ?_;clear hK K)|refine st rfl ?_|refine nl ?_|refine gs rfl rfl ?_|exact z'A T (z'a _) ⟨rfl,rfl⟩
   all_goals rfl
  |true=>
  rw[hp1]at c1
  cases hp2:y'5 dl x.loc locs with
  |false=>
   rw[hp2]at c2
   repeat' first|refine vs T rfl fun K hK=>?_;(try simp (disch:=omega) only[go_sem,Nat.reduceBEq]);(first|refine hK _ _ ?_;clear hK K|refine Op1.callp rfl rfl (c1) rfl ?_;refine hK _ _ ?_;clear hK K|refine Op1.callp rfl rfl (c2) rfl ?_;refine hK _ _ ?_;clear hK K)|refine st rfl ?_|refine nl ?_|refine gs rfl rfl ?_|exact z'A T (z'a _) ⟨rfl,rfl⟩
   all_goals rfl
  |true=>
  rw[hp2]at c2
  cases hp3:y'5 dt x.to many with
  |false=>
   rw[hp3]at c3
   repeat' first|refine vs T rfl fun K hK=>?_;(try simp (disch:=omega) only[go_sem,Nat.reduceBEq]);(first|refine hK _ _ ?_;clear hK K|refine Op1.callp rfl rfl (c1) rfl ?_;refine hK _ _ ?_;clear hK K|refine Op1.callp rfl rfl (c2) rfl ?_;refine hK _ _ ?_;clear hK K|refine Op1.callp rfl rfl (c3) rfl ?_;refine hK _ _ ?_;clear hK K)|refine st rfl ?_|refine nl ?_|refine gs rfl rfl ?_|exact z'A T (z'a _) ⟨rfl,rfl⟩
   all_goals rfl
  |true=>
  rw[hp3]at c3
  repeat' first|refine vs T rfl fun K hK=>?_;(try simp (disch:=omega) only[go_sem,Nat.reduceBEq]);(first|refine hK _ _ ?_;clear hK K|refine Op1.callp rfl rfl (c1) rfl ?_;refine hK _ _ ?_;clear hK K|refine Op1.callp rfl rfl (c2) rfl ?_;refine hK _ _ ?_;clear hK K|refine Op1.callp rfl rfl (c3) rfl ?_;refine hK _ _ ?_;clear hK K|skip)|refine st rfl ?_|refine nl ?_|refine gs rfl rfl ?_
  refine Op1.callG (Hp:=[(b5,.cells 3 1 [iD regs])]) (Hr:=[(bq,.cells 219 6 [bD dr,bD dl,bD de,bD df,_,bD dt])]) rfl rfl rfl (Zpr de x.e he regs b5) (List.Perm.swap _ _ []) (fun d' H' hd'=>?_)
  obtain⟨rfl,rfl⟩:=hd'
  refine hK _ _ ?_
  clear hK K
  try simp only[updO,z'N,z'H]
  cases hc4:ZbV de x.e regs with
  |false=>
   repeat' first|refine vs T rfl fun K hK=>?_;(try simp (disch:=omega) only[go_sem,Nat.reduceBEq]);(refine hK _ _ ?_;clear hK K)|refine st rfl ?_|refine nl ?_|refine gs rfl rfl ?_|exact z'A T (z'a _) ⟨rfl,rfl⟩
   all_goals rfl
  |true=>
  repeat' first|refine vs T rfl fun K hK=>?_;(try simp (disch:=omega) only[go_sem,Nat.reduceBEq]);(first|refine hK _ _ ?_;clear hK K|skip)|refine gs rfl rfl ?_
  refine Op1.callG (Hp:=[(b5,.cells 3 1 [iD regs])]) (Hr:=[(bq,.cells 219 6 [bD dr,bD dl,bD de,bD df,_,bD dt])]) rfl rfl rfl (Zpr df x.f hf regs b5) (z'9 _) (fun d' H' hd'=>?_)
  obtain⟨rfl,rfl⟩:=hd'
  refine hK _ _ ?_
  clear hK K
  try simp only[updO,z'N,z'H]
  repeat' first|refine vs T rfl fun K hK=>?_;(try simp (disch:=omega) only[go_sem,Nat.reduceBEq]);(refine hK _ _ ?_;clear hK K)|refine st rfl ?_|refine nl ?_|exact z'A T (z'a _) ⟨rfl,rfl⟩
  all_goals rfl
end Go.Proofs.YthlkpnjjkgmlkaaGreat
