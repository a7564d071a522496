/- Contracts: what an instruction has, whether it fits. No condition. -/
import Derived.Test.YtfneeacgkdhldaaGreatYl
import Derived.Test.YtfneeacgkdhldaaGreatYa
import Derived.Test.YtfneeacgkdhldaaGreatXk
import Derived.Test.YtfneeacgkdhldaaGreatYi
import Derived.Test.YtfneeacgkdhldaaGreatYo
namespace Go.Proofs.YtfneeacgkdhldaaGreat
set_option maxHeartbeats 16000000
set_option linter.unusedSimpArgs false
set_option linter.unusedVariables false
set_option maxRecDepth 20000
open Go Go.Proofs Go.Vc
attribute [local irreducible] y'5 VCg VCw VCx
theorem Zff (has:Bool) (n m:Int):Pure Tryz.prog 120 [bD has,iD n,iD m] (bD (x'C has n m)):=by
 refine Fun.of T [.tmp 6] Tryz.func120 rfl Tryz.ntmps120 Tryz.results120 rfl (by kernel_rfl) ?_
 cases has with
 |true=>
  by_cases h1:n≥0
  ·have e1:decide (n≥0)=true:=by simpa using h1
   by_cases h2:n<m
   ·have e2:decide (n<m)=true:=by simpa using h2
    rw[show x'C true n m=true by simp[x'C,inB,h1,h2]]
    repeat' first|refine vs T rfl fun K hK=>?_;(try simp (disch:=omega) only[go_sem,Nat.reduceBEq,Nat.reduceAdd,e1,e2]);(refine hK _ _ ?_;clear hK K)|refine st rfl ?_|refine nl ?_|refine gs rfl rfl ?_|refine gu rfl rfl ?_|exact z'n T (z'a _) ⟨rfl,rfl⟩
   ·have e2:decide (n<m)=false:=by simpa using h2
    rw[show x'C true n m=false by simp[x'C,inB,h2]]
    repeat' first|refine vs T rfl fun K hK=>?_;(try simp (disch:=omega) only[go_sem,Nat.reduceBEq,Nat.reduceAdd,e1,e2,z'l]);(refine hK _ _ ?_;clear hK K)|refine st rfl ?_|refine nl ?_|refine gs rfl rfl ?_|exact z'n T (z'a _) ⟨rfl,rfl⟩
  ·have e1:decide (n≥0)=false:=by simpa using h1
   rw[show x'C true n m=false by simp[x'C,inB,h1]]
   repeat' first|refine vs T rfl fun K hK=>?_;(try simp (disch:=omega) only[go_sem,Nat.reduceBEq,Nat.reduceAdd,e1,z'l]);(refine hK _ _ ?_;clear hK K)|refine st rfl ?_|refine nl ?_|refine gs rfl rfl ?_|exact z'n T (z'a _) ⟨rfl,rfl⟩
 |false=>
  rw[show x'C false n m=(n == 0) from rfl]
  repeat' first|refine vs T rfl fun K hK=>?_;(try simp (disch:=omega) only[go_sem,Nat.reduceBEq,Nat.reduceAdd,z'r]);(refine hK _ _ ?_;clear hK K)|refine st rfl ?_|refine nl ?_|refine gs rfl rfl ?_|exact z'n T (z'a _) ⟨rfl,rfl⟩
abbrev ndL (d:Nd):List D:=[bD d.r,bD d.l,bD d.e,bD d.f,bD d.n,bD d.t]
abbrev nd0:Nd:=⟨false,false,false,false,false,false⟩
abbrev ndV (d:Nd):Value:= .agg #[.bool d.r,.bool d.l,.bool d.e,.bool d.f,.bool d.n,.bool d.t]
def ndR (o:Option Nd):D:= .tup [.agg (ndL (o.getD nd0)),bD o.isSome]
def Zm0:List (Int×Value):=[(2,ndV ⟨true,false,true,false,false,false⟩),(3,ndV ⟨true,true,false,false,false,false⟩),(4,ndV ⟨false,true,true,false,false,false⟩),(5,ndV ⟨true,true,true,true,false,false⟩),(6,ndV ⟨true,true,true,false,false,false⟩),(7,ndV ⟨true,true,true,false,false,false⟩),(8,ndV nd0),(9,ndV ⟨false,true,true,false,true,false⟩),(20,ndV ⟨false,false,false,false,false,true⟩),(21,ndV ⟨false,false,true,false,false,true⟩)]
theorem ZlF (op:Int):ZaI op Zm0=(ndF op).map ndV:=by
 unfold Zm0 ndF
 by_cases h2:op=2
 ·subst h2;rfl
 by_cases h3:op=3
 ·subst h3;rfl
 by_cases h4:op=4
 ·subst h4;rfl
 by_cases h5:op=5
 ·subst h5;rfl
 by_cases h6:op=6
 ·subst h6;rfl
 by_cases h7:op=7
 ·subst h7;rfl
 by_cases h8:op=8
 ·subst h8;rfl
 by_cases h9:op=9
 ·subst h9;rfl
 by_cases h20:op=20
 ·subst h20;rfl
 by_cases h21:op=21
 ·subst h21;rfl
 simp only[ZaI,h2,h3,h4,h5,h6,h7,h8,h9,h20,h21,if_false,beq_eq_false_iff_ne.2 h2,beq_eq_false_iff_ne.2 h3,beq_eq_false_iff_ne.2 h4,beq_eq_false_iff_ne.2 h5,beq_eq_false_iff_ne.2 h6,beq_eq_false_iff_ne.2 h7,beq_eq_false_iff_ne.2 h8,beq_eq_false_iff_ne.2 h9,beq_eq_false_iff_ne.2 h20,beq_eq_false_iff_ne.2 h21,cond_false]
 rfl
theorem umN:Tryz.prog.underlying 175=some (.map 3 170):=by kernel_rfl
theorem zN:(Tryz.prog.info? 170).bind (·.zero)=some (ndV nd0):=by kernel_rfl
theorem Zn0 (d:Nd): ∀cs,ndV d= .agg cs→cs.toList.all Value.oneCell'=true:=fun cs h=>by cases h;rfl
theorem Zn3 (op:Int):Pure Tryz.prog 117 [iD op] (ndR (ndF op)):=by
 refine Fun.of T [.cell 2 170,.tmp 3] Tryz.func117 rfl Tryz.ntmps117 Tryz.results117 rfl (by kernel_rfl) ?_
 repeat' first|refine vt rfl fun K hK=>?_;refine ZgO rfl umN (fun x hx=>(by cases hx)) (fun bq hbq=>?_);(try simp only[HB]at hbq);refine hK _ _ ?_;clear hK K;(try simp only[updO])|refine vt rfl fun K hK=>?_;refine Zh6 (by exact .inr rfl) umN Tryz.underlying3 rfl rfl rfl (by(try simp (disch:=omega) only[hget_eq]);rfl) (by rfl) ?_;refine hK _ _ ?_;clear hK K;(try simp (disch:=omega) only[updO,hset_eq,z'T,y'i])|refine vs T rfl fun K hK=>?_;(try simp (disch:=omega) only[go_sem,Nat.reduceBEq,Nat.reduceAdd]);(first|refine hK _ _ ?_;clear hK K|intro bq hbq;(try simp only[HB]at hbq);refine hK _ _ ?_;clear hK K|skip)|refine st rfl ?_|refine nl ?_
 refine Zgl rfl umN Tryz.underlying3 zN rfl rfl hget_eq (r:=(ndV ((ndF op).getD nd0),(ndF op).isSome)) (show(match ZaI op Zm0 with|some v=>(v,true)|none=>(ndV nd0,false))=_ by rw[ZlF];cases ndF op<;>rfl) (Zn0 _) ?_
 refine hK _ _ ?_
 clear hK K
 try simp only[updO]
 repeat' first|refine vs T rfl fun K hK=>?_;(try simp (disch:=omega) only[go_sem,Nat.reduceBEq,Nat.reduceAdd,Nat.reduceLeDiff,Zfo,z'B,x'y]);(first|refine hK _ _ ?_;clear hK K|intro bq hbq;(try simp only[HB]at hbq);refine hK _ _ ?_;clear hK K)|refine st rfl ?_|refine nl ?_|exact x'g T rfl (by(simp (disch:=omega) only[hget_ne,hget_eq])<;>rfl) rfl rfl rfl (z'a _) ⟨rfl,rfl⟩
theorem Zlp (has:Bool) (l:List Opc) (hl:l.length≤1000) (n:Int) (b:Nat):Fun Tryz.prog 118 [bD has,z'S l,pD b] [(b,.cells 3 1 [iD n])] false (fun d H'=>d=bD (ZbI has l n)∧H'=[(b,.cells 3 1 [iD n])]):=by
 have c1:Pure Tryz.prog 119 [z'S l,.gs none 0,iD n,iD 0] (bD (y'1 l [] n 0)):=Fun.argsW (Zia l hl [] (by simp) n 0) (z't (Fz.refl _ _) (z't y'q (FzL.refl _ _)))
 have he:((l.length:Int) == 0)=decide (l.length=0):=by rw[x'Y];simp
 refine Fun.of T [.tmp 5] Tryz.func118 rfl Tryz.ntmps118 Tryz.results118 rfl (by kernel_rfl) ?_
 cases has with
 |true=>
  rw[show ZbI true l n=y'1 l [] n 0 from rfl]
  cases hc:y'1 l [] n 0 with
  |true=>
   rw[hc]at c1
   repeat' first|refine vs T rfl fun K hK=>?_;(try simp (disch:=omega) only[go_sem,Nat.reduceBEq,Nat.reduceAdd]);(first|refine hK _ _ ?_;clear hK K|refine Op1.callp rfl rfl (c1) rfl ?_;refine hK _ _ ?_;clear hK K)|refine st rfl ?_|refine nl ?_|refine gs rfl rfl ?_|refine gu rfl rfl ?_
   exact z'n T (z'p _) ⟨rfl,rfl⟩
  |false=>
   rw[hc]at c1
   repeat' first|refine vs T rfl fun K hK=>?_;(try simp (disch:=omega) only[go_sem,Nat.reduceBEq,Nat.reduceAdd,z'l]);(first|refine hK _ _ ?_;clear hK K|refine Op1.callp rfl rfl (c1) rfl ?_;refine hK _ _ ?_;clear hK K)|refine st rfl ?_|refine nl ?_|refine gs rfl rfl ?_
   exact z'n T (z'p _) ⟨rfl,rfl⟩
 |false=>
  rw[show ZbI false l n=decide (l.length=0) from rfl]
  repeat' first|refine vs T rfl fun K hK=>?_;(try simp (disch:=omega) only[go_sem,Nat.reduceBEq,Nat.reduceAdd,he,z'K,z'r]);(refine hK _ _ ?_;clear hK K)|refine st rfl ?_|refine nl ?_|refine gs rfl rfl ?_
  exact z'n T (z'p _) ⟨rfl,rfl⟩
theorem Zl6 (x:Ins) (he:x.e.length≤1000) (hf:x.f.length≤1000):Pure Tryz.prog 115 [.agg (v'e x)] (bD (w'G x)):=by
 obtain⟨op,reg,loc,e,f,ne,to⟩:=x
 dsimp only at he hf
 have hw:IntKind.i64.wrap ((e.length:Int)+(f.length:Int))=((e.length+f.length:Nat):Int):=by rw[w64 (by omega)];omega
 have hD:w'G ⟨op,reg,loc,e,f,ne,to⟩=((op == 22)&&((reg == 0)&&((loc == 0)&&((to == 0)&&((!ne)&&(((e.length+f.length:Nat):Int) == 0)))))):=by
  have h0:(((e.length+f.length:Nat):Int) == 0)=(decide (e.length=0)&&decide (f.length=0)):=by
   rw[x'Y];simp only[beq_iff_eq,z'i,decide_eq_true_eq];omega
  rw[x'Y]
  simp only[w'G,h0,z'i,decide_eq_true_eq,beq_iff_eq]
  constructor
  ·rintro⟨a,b,c,d,e,f,g⟩;exact⟨a,b,c,g,f,d,e⟩
  ·rintro⟨a,b,c,g,f,d,e⟩;exact⟨a,b,c,d,e,f,g⟩
 refine Fun.of T [.tmp 2] Tryz.func115 rfl Tryz.ntmps115 Tryz.results115 rfl (by kernel_rfl) ?_
 rw[hD]
 cases h1:op == 22 with
 |false=>
  repeat' first|refine vb rfl rfl rfl rfl ?_|refine vs T rfl fun K hK=>?_;(try simp (disch:=omega) only[go_sem,Nat.reduceBEq,v'e,h1]);(refine hK _ _ ?_;clear hK K)|refine st rfl ?_|refine nl ?_|refine gs rfl rfl ?_|exact z'n T (z'a _) ⟨rfl,rfl⟩
  all_goals rfl
 |true=>
 cases h2:reg == 0 with
 |false=>
  repeat' first|refine vb rfl rfl rfl rfl ?_|refine vs T rfl fun K hK=>?_;(try simp (disch:=omega) only[go_sem,Nat.reduceBEq,v'e,h1,h2]);(refine hK _ _ ?_;clear hK K)|refine st rfl ?_|refine nl ?_|refine gs rfl rfl ?_|exact z'n T (z'a _) ⟨rfl,rfl⟩
  all_goals rfl
 |true=>
 cases h3:loc == 0 with
 |false=>
  repeat' first|refine vb rfl rfl rfl rfl ?_|refine vs T rfl fun K hK=>?_;(try simp (disch:=omega) only[go_sem,Nat.reduceBEq,v'e,h1,h2,h3]);(refine hK _ _ ?_;clear hK K)|refine st rfl ?_|refine nl ?_|refine gs rfl rfl ?_|exact z'n T (z'a _) ⟨rfl,rfl⟩
  all_goals rfl
 |true=>
 cases h4:to == 0 with
 |false=>
  repeat' first|refine vb rfl rfl rfl rfl ?_|refine vs T rfl fun K hK=>?_;(try simp (disch:=omega) only[go_sem,Nat.reduceBEq,v'e,h1,h2,h3,h4]);(refine hK _ _ ?_;clear hK K)|refine st rfl ?_|refine nl ?_|refine gs rfl rfl ?_|exact z'n T (z'a _) ⟨rfl,rfl⟩
  all_goals rfl
 |true=>
 cases ne with
 |true=>
  repeat' first|refine vb rfl rfl rfl rfl ?_|refine vs T rfl fun K hK=>?_;(try simp (disch:=omega) only[go_sem,Nat.reduceBEq,v'e,h1,h2,h3,h4,z'l]);(refine hK _ _ ?_;clear hK K)|refine st rfl ?_|refine nl ?_|refine gs rfl rfl ?_|exact z'n T (z'a _) ⟨rfl,rfl⟩
  all_goals rfl
 |false=>
  repeat' first|refine vb rfl rfl rfl rfl ?_|refine vs T rfl fun K hK=>?_;(try simp (disch:=omega) only[go_sem,Nat.reduceBEq,v'e,h1,h2,h3,h4,hw,z'K,z'r]);(refine hK _ _ ?_;clear hK K)|refine st rfl ?_|refine nl ?_|refine gs rfl rfl ?_|exact z'n T (z'a _) ⟨rfl,rfl⟩
  all_goals rfl
theorem Zpu {x:Ins} {d:Nd} (h:ndF x.op=some d) (regs locs many:Int):x'V x regs locs many=(((!x.ne)||d.n)&&(x'C d.r x.reg regs&&(x'C d.l x.loc locs&&(x'C d.t x.to many&&(ZbI d.e x.e regs&&ZbI d.f x.f regs))))):=by
 unfold x'V
 rw[h]
 simp only[]
 cases x.ne<;>cases d.n<;>cases x'C d.r x.reg regs<;>cases x'C d.l x.loc locs<;>cases x'C d.t x.to many<;>cases ZbI d.e x.e regs<;>cases ZbI d.f x.f regs<;>rfl
theorem ZnG (x:Ins) (he:x.e.length≤1000) (hf:x.f.length≤1000) (regs locs many:Int):Pure Tryz.prog 116 [.agg (v'e x),iD regs,iD locs,iD many] (bD (x'V x regs locs many)):=by
 have c0:=Zn3 x.op
 refine Fun.of T [.tmp 8] Tryz.func116 rfl Tryz.ntmps116 Tryz.results116 rfl (by kernel_rfl) ?_
 cases hN:ndF x.op with
 |none=>
  have c0':Pure Tryz.prog 117 [iD x.op] (.tup [.agg [bD false,bD false,bD false,bD false,bD false,bD false],bD false]):=by rw[hN]at c0;exact c0
  rw[show x'V x regs locs many=false by simp[x'V,hN]]
  repeat' first|refine vb (t:=56) rfl rfl rfl rfl ?_|refine vs T rfl fun K hK=>?_;(try simp (disch:=omega) only[go_sem,Nat.reduceBEq,Nat.reduceAdd,Nat.reduceLeDiff,v'e,z'r]);(first|refine hK _ _ ?_;clear hK K|intro bq hbq;(try simp only[HB]at hbq);refine hK _ _ ?_;clear hK K|refine Op1.callp rfl rfl (c0') rfl ?_;refine hK _ _ ?_;clear hK K)|refine st rfl ?_|refine sc rfl ?_|refine nl ?_|refine gs rfl rfl ?_|refine gu rfl rfl ?_|exact z'n T (z'a _) ⟨rfl,rfl⟩
 |some d=>
 have c0':Pure Tryz.prog 117 [iD x.op] (.tup [.agg [bD d.r,bD d.l,bD d.e,bD d.f,bD d.n,bD d.t],bD true]):=by rw[hN]at c0;exact c0
 rw[Zpu hN]
 obtain⟨dr,dl,de,df,dn,dt⟩:=d
 dsimp only at c0'⊢
 have c1:=Zff dr x.reg regs
 have c2:=Zff dl x.loc locs
 have c3:=Zff dt x.to many
 cases hne:((!x.ne)||dn)with
 |false=>
  obtain⟨h1,h2⟩:x.ne=true∧dn=false:=by cases hx:x.ne<;>cases dn<;>simp_all
  subst h2
  repeat' first|refine vb (t:=56) rfl rfl rfl rfl ?_|refine vs T rfl fun K hK=>?_;(try simp (disch:=omega) only[go_sem,Nat.reduceBEq,Nat.reduceAdd,Nat.reduceLeDiff,v'e,h1,z'l,z'r]);(first|refine hK _ _ ?_;clear hK K|intro bq hbq;(try simp only[HB]at hbq);refine hK _ _ ?_;clear hK K|refine Op1.callp rfl rfl (c0') rfl ?_;refine hK _ _ ?_;clear hK K)|refine st rfl ?_|refine sc rfl ?_|refine nl ?_|refine gs rfl rfl ?_|exact z'n T (z'a _) ⟨rfl,rfl⟩
  all_goals rfl
 |true=>
 have hpre:x.ne=false∨(x.ne=true∧dn=true):=by cases hx:x.ne<;>cases dn<;>simp_all
 rcases hpre with h1|⟨h1,h2⟩
 case' inl=>
  repeat' first|refine vb (t:=56) rfl rfl rfl rfl ?_|refine vs T rfl fun K hK=>?_;(try simp (disch:=omega) only[go_sem,Nat.reduceBEq,Nat.reduceAdd,Nat.reduceLeDiff,v'e,h1,z'l]);(first|refine hK _ _ ?_;clear hK K|intro bq hbq;(try simp only[HB]at hbq);refine hK _ _ ?_;clear hK K|refine Op1.callp rfl rfl (c0') rfl ?_;refine hK _ _ ?_;clear hK K|skip)|refine st rfl ?_|refine sc rfl ?_|refine nl ?_|refine gs rfl rfl ?_
 case' inr=>
  repeat' first|refine vb (t:=56) rfl rfl rfl rfl ?_|refine vs T rfl fun K hK=>?_;(try simp (disch:=omega) only[go_sem,Nat.reduceBEq,Nat.reduceAdd,Nat.reduceLeDiff,v'e,h1,h2,z'l]);(first|refine hK _ _ ?_;clear hK K|intro bq hbq;(try simp only[HB]at hbq);refine hK _ _ ?_;clear hK K|refine Op1.callp rfl rfl (c0') rfl ?_;refine hK _ _ ?_;clear hK K|skip)|refine st rfl ?_|refine sc rfl ?_|refine nl ?_|refine gs rfl rfl ?_
 all_goals
  rename_i b5 hb5
  have n1: ¬bq=b5:=hbq
  refine ZmL (us:=[.pointer (some ⟨b5,0,none⟩)]) rfl rfl ?_
  refine hK _ _ ?_
  clear hK K
  try simp only[updO]
  cases hp1:x'C dr x.reg regs with
  |false=>
   rw[hp1]at c1
   repeat' first|refine vs T rfl fun K hK=>?_;(try simp (disch:=omega) only[go_sem,Nat.reduceBEq]);(first|refine hK _ _ ?_;clear hK K|refine Op1.callp rfl rfl (c1) rfl ?_;refine hK _ _ ?_;clear hK K)|refine st rfl ?_|refine nl ?_|refine gs rfl rfl ?_|exact z'n T (z'a _) ⟨rfl,rfl⟩
   all_goals rfl
  |true=>
  rw[hp1]at c1
  cases hp2:x'C dl x.loc locs with
  |false=>
   rw[hp2]at c2
   repeat' first|refine vs T rfl fun K hK=>?_;(try simp (disch:=omega) only[go_sem,Nat.reduceBEq]);(first|refine hK _ _ ?_;clear hK K|refine Op1.callp rfl rfl (c1) rfl ?_;refine hK _ _ ?_;clear hK K|refine Op1.callp rfl rfl (c2) rfl ?_;refine hK _ _ ?_;clear hK K)|refine st rfl ?_|refine nl ?_|refine gs rfl rfl ?_|exact z'n T (z'a _) ⟨rfl,rfl⟩
   all_goals rfl
  |true=>
  rw[hp2]at c2
  cases hp3:x'C dt x.to many with
  |false=>
   rw[hp3]at c3
   repeat' first|refine vs T rfl fun K hK=>?_;(try simp (disch:=omega) only[go_sem,Nat.reduceBEq]);(first|refine hK _ _ ?_;clear hK K|refine Op1.callp rfl rfl (c1) rfl ?_;refine hK _ _ ?_;clear hK K|refine Op1.callp rfl rfl (c2) rfl ?_;refine hK _ _ ?_;clear hK K|refine Op1.callp rfl rfl (c3) rfl ?_;refine hK _ _ ?_;clear hK K)|refine st rfl ?_|refine nl ?_|refine gs rfl rfl ?_|exact z'n T (z'a _) ⟨rfl,rfl⟩
   all_goals rfl
  |true=>
  rw[hp3]at c3
  repeat' first|refine vs T rfl fun K hK=>?_;(try simp (disch:=omega) only[go_sem,Nat.reduceBEq]);(first|refine hK _ _ ?_;clear hK K|refine Op1.callp rfl rfl (c1) rfl ?_;refine hK _ _ ?_;clear hK K|refine Op1.callp rfl rfl (c2) rfl ?_;refine hK _ _ ?_;clear hK K|refine Op1.callp rfl rfl (c3) rfl ?_;refine hK _ _ ?_;clear hK K|skip)|refine st rfl ?_|refine nl ?_|refine gs rfl rfl ?_
  refine Op1.callG (Hp:=[(b5,.cells 3 1 [iD regs])]) (Hr:=[(bq,.cells 170 6 [bD dr,bD dl,bD de,bD df,_,bD dt])]) rfl rfl rfl (Zlp de x.e he regs b5) (List.Perm.swap _ _ []) (fun d' H' hd'=>?_)
  obtain⟨rfl,rfl⟩:=hd'
  refine hK _ _ ?_
  clear hK K
  try simp only[updO,y'i,z'T]
  cases hc4:ZbI de x.e regs with
  |false=>
   repeat' first|refine vs T rfl fun K hK=>?_;(try simp (disch:=omega) only[go_sem,Nat.reduceBEq]);(refine hK _ _ ?_;clear hK K)|refine st rfl ?_|refine nl ?_|refine gs rfl rfl ?_|exact z'n T (z'a _) ⟨rfl,rfl⟩
   all_goals rfl
  |true=>
  repeat' first|refine vs T rfl fun K hK=>?_;(try simp (disch:=omega) only[go_sem,Nat.reduceBEq]);(first|refine hK _ _ ?_;clear hK K|skip)|refine gs rfl rfl ?_
  refine Op1.callG (Hp:=[(b5,.cells 3 1 [iD regs])]) (Hr:=[(bq,.cells 170 6 [bD dr,bD dl,bD de,bD df,_,bD dt])]) rfl rfl rfl (Zlp df x.f hf regs b5) (y'K _) (fun d' H' hd'=>?_)
  obtain⟨rfl,rfl⟩:=hd'
  refine hK _ _ ?_
  clear hK K
  try simp only[updO,y'i,z'T]
  repeat' first|refine vs T rfl fun K hK=>?_;(try simp (disch:=omega) only[go_sem,Nat.reduceBEq]);(refine hK _ _ ?_;clear hK K)|refine st rfl ?_|refine nl ?_|exact z'n T (z'a _) ⟨rfl,rfl⟩
  all_goals rfl
theorem Zme (b:List Ins) (k:Nat):(y'P b).take k=y'P (b.take k):=by rw[y'P,y'P,List.map_take]
def Zbs (n locs:Int) (r:List Ins):Bool:=(decide (1≤r.length)&&decide (r.length≤1000)&&w'G (r.getD (r.length-1) default))&&((List.range (r.length-1)).all fun i=>x'V (r.getD i default) n locs r.length)
theorem ZfT (n locs:Int) (r:List Ins):v'D n locs r=(decide (0≤n)&&decide (n≤6)&&Zbs n locs r):=by
 unfold v'D Zbs
 simp only[Bool.and_assoc]
theorem ZoC (r:List Ins) (hrl:r.length≤100000) (hins: ∀x,x∈r→x.e.length≤1000∧x.f.length≤1000) (n locs:Int):Pure Tryz.prog 113 [.sl false 7 (y'P r),iD n,iD locs] (bD (Zbs n locs r)):=by
 have hwl:IntKind.i64.wrap ((r.length:Int)-1)=(r.length:Int)-1:=by rw[w64 (by omega)]
 refine Fun.of T [.tmp 6] Tryz.func113 rfl Tryz.ntmps113 Tryz.results113 rfl (by kernel_rfl) ?_
 by_cases q0:r.length=0
 ·have s0:decide ((r.length:Int)-1<0)=true:=by simp;omega
  rw[show Zbs n locs r=false by simp[Zbs,q0]]
  repeat' first|refine vs T rfl fun K hK=>?_;(try simp (disch:=omega) only[go_sem,Nat.reduceBEq,Nat.reduceAdd,hwl,s0,z'7]);(refine hK _ _ ?_;clear hK K)|refine st rfl ?_|refine sc rfl ?_|refine nl ?_|refine gs rfl rfl ?_|exact z'n T (z'a _) ⟨rfl,rfl⟩
 have s0:decide ((r.length:Int)-1<0)=false:=by simp;omega
 by_cases q1:r.length>1000
 ·have s1:decide ((r.length:Int)-1≥1000)=true:=by simp;omega
  rw[show Zbs n locs r=false by simp[Zbs];omega]
  repeat' first|refine vs T rfl fun K hK=>?_;(try simp (disch:=omega) only[go_sem,Nat.reduceBEq,Nat.reduceAdd,hwl,s0,s1,z'7]);(refine hK _ _ ?_;clear hK K)|refine st rfl ?_|refine sc rfl ?_|refine nl ?_|refine gs rfl rfl ?_|exact z'n T (z'a _) ⟨rfl,rfl⟩
 have s1:decide ((r.length:Int)-1≥1000)=false:=by simp;omega
 have hk:((r.length:Int)-1)=((r.length-1:Nat):Int):=by omega
 rw[hk]at s0 s1
 have hwl:IntKind.i64.wrap ((r.length:Int)-1)=((r.length-1:Nat):Int):=by rw[hwl];exact hk
 clear hk
 obtain⟨xl,hxl⟩: ∃x,r[r.length-1]?=some x:=⟨_,z'b (by omega)⟩
 have rx:(y'P r)[r.length-1]?=some [iD xl.op,iD xl.reg,iD xl.loc,z'S xl.e,z'S xl.f,bD xl.ne,iD xl.to]:=by rw[x'Q,hxl];rfl
 have hgl:r.getD (r.length-1) default=xl:=by rw[z'e,hxl];rfl
 have hl0:r.length-1<r.length:=by omega
 have cd:=Zl6 xl (hins xl (z'h hxl)).1 (hins xl (z'h hxl)).2
 cases hdn:w'G xl with
 |false=>
  rw[hdn]at cd
  rw[show Zbs n locs r=false by simp only[Zbs,hgl,hdn,w's,y'p]]
  repeat' first|refine vs T rfl fun K hK=>?_;(try simp (disch:=omega) only[go_sem,Nat.reduceBEq,Nat.reduceAdd,Nat.reduceLeDiff,hwl,s0,s1,rx,z'7,z'r]);(first|refine hK _ _ ?_;clear hK K|refine⟨?_,hK _ _ ?_⟩<;>clear hK K;focus(try omega)|refine Op1.callp rfl rfl (cd) rfl ?_;refine hK _ _ ?_;clear hK K)|refine st rfl ?_|refine sc rfl ?_|refine nl ?_|refine gs rfl rfl ?_|exact z'n T (z'a _) ⟨rfl,rfl⟩
 |true=>
 rw[hdn]at cd
 have hRow:Zbs n locs r=(List.range (r.length-1)).all fun i=>x'V (r.getD i default) n locs r.length:=by
  unfold Zbs
  rw[hgl,hdn]
  have:(decide (1≤r.length)&&decide (r.length≤1000)&&true)=true:=by simp;omega
  rw[this];rfl
 have htl:(r.take (r.length-1)).length=r.length-1:=by rw[z'F];omega
 generalize hq:r.take (r.length-1)=q at*
 repeat' first|refine vs T rfl fun K hK=>?_;(try simp (disch:=omega) only[go_sem,Nat.reduceBEq,Nat.reduceAdd,Nat.reduceLeDiff,hwl,s0,s1,rx,z'7,Zme,hq,htl,z'l]);(first|refine hK _ _ ?_;clear hK K|refine⟨?_,hK _ _ ?_⟩<;>clear hK K;focus(try omega)|refine Op1.callp rfl rfl (cd) rfl ?_;refine hK _ _ ?_;clear hK K)|refine st rfl ?_|refine sc rfl ?_|refine nl ?_|refine gs rfl rfl ?_
 refine VC.loop {i:Nat//i≤r.length-1∧ ∀j,j<i→x'V (r.getD j default) n locs r.length=true} (fun p=>⟨z'J [(0,.sl false 7 (y'P r)),(1,iD n),(2,iD locs),(29,.sl false 7 (y'P q)),(30,iD (r.length-1:Nat)),(31,iD (p.1:Nat))],[]⟩) (fun p=>r.length-p.1) ⟨0,by omega,fun j hj=>by omega⟩ ?_ ?_
 ·refine Weak.sub ?_
  simp[sub,upd]
 rintro⟨i,hi,hsi⟩
 dsimp only
 have hwi:IntKind.i64.wrap ((i:Int)+1)=((i+1:Nat):Int):=by rw[w64 (by omega)];omega
 rcases z'g i (r.length-1)with hlt|hge
 case inr=>
  have hd:decide ((i:Int)<((r.length-1:Nat):Int))=false:=by simp;omega
  rw[show Zbs n locs r=true by rw[hRow];exact ZcN fun j hj=>hsi j (by omega)]
  repeat' first|refine vs T rfl fun K hK=>?_;(try simp (disch:=omega) only[go_sem,Nat.reduceBEq,hd]);(refine hK _ _ ?_;clear hK K)|refine st rfl ?_|refine sc rfl ?_|refine nl ?_|exact z'n T (z'a _) ⟨rfl,rfl⟩
 have hd:decide ((i:Int)<((r.length-1:Nat):Int))=true:=by simp;omega
 obtain⟨x,hx⟩: ∃x,r[i]?=some x:=⟨_,z'b (by omega)⟩
 have hxq:q[i]?=some x:=by rw[←hq,x'e,if_pos hlt,hx]
 have rx2:(y'P q)[i]?=some [iD x.op,iD x.reg,iD x.loc,z'S x.e,z'S x.f,bD x.ne,iD x.to]:=by rw[x'Q,hxq];rfl
 have hgx:r.getD i default=x:=by rw[z'e,hx];rfl
 have hef:=hins x (z'h hx)
 have co:=ZnG x hef.1 hef.2 n locs r.length
 cases hO:x'V x n locs r.length with
 |false=>
  rw[hO]at co
  rw[show Zbs n locs r=false by rw[hRow];exact ZcO hlt (by rw[hgx];exact hO)]
  repeat' first|refine vs T rfl fun K hK=>?_;(try simp (disch:=omega) only[go_sem,Nat.reduceBEq,Nat.reduceAdd,Nat.reduceLeDiff,hd,rx2,htl,z'r,z'7]);(first|refine hK _ _ ?_;clear hK K|intro bq hbq;(try simp only[HB]at hbq);refine hK _ _ ?_;clear hK K|refine⟨?_,hK _ _ ?_⟩<;>clear hK K;focus(try omega)|refine Op1.callp rfl rfl (co) rfl ?_;refine hK _ _ ?_;clear hK K)|refine st rfl ?_|refine sc rfl ?_|refine nl ?_|exact z'n T (z'a _) ⟨rfl,rfl⟩
 |true=>
  rw[hO]at co
  repeat' first|refine vs T rfl fun K hK=>?_;(try simp (disch:=omega) only[go_sem,Nat.reduceBEq,Nat.reduceAdd,Nat.reduceLeDiff,hd,hwi,rx2,htl,z'l,z'7]);(first|refine hK _ _ ?_;clear hK K|intro bq hbq;(try simp only[HB]at hbq);refine hK _ _ ?_;clear hK K|refine⟨?_,hK _ _ ?_⟩<;>clear hK K;focus(try omega)|refine Op1.callp rfl rfl (co) rfl ?_;refine hK _ _ ?_;clear hK K)|refine st rfl ?_|refine sc rfl ?_|refine nl ?_
  refine⟨⟨i+1,by omega,fun j hj=>?_⟩,Weak.subH (z'a _) ?_,by dsimp only;omega⟩
  ·rcases z'g j i with h'|h'
   ·exact hsi j h'
   ·obtain rfl:j=i:=by omega
    rw[hgx];exact hO
  ·simp[sub,upd]
theorem ZgS (u:Un) (hu:OkU u):Pure Tryz.prog 106 [.agg (unC u)] (bD (y't u)):=by
 have k1:=hu.ini
 have k2:=hu.reg
 have k3:=hu.cod
 refine Fun.of T [.tmp 2] Tryz.func106 rfl Tryz.ntmps106 Tryz.results106 rfl (by kernel_rfl) ?_
 by_cases q0:u.md<2
 ·have s0:decide (u.md<2)=true:=by simpa using q0
  rw[show y't u=false by simp[y't,w'H];omega]
  repeat' first|refine vb rfl rfl rfl rfl ?_|refine vs T rfl fun K hK=>?_;(try simp (disch:=omega) only[go_sem,Nat.reduceBEq,s0]);(refine hK _ _ ?_;clear hK K)|refine st rfl ?_|refine sc rfl ?_|refine nl ?_|refine gs rfl rfl ?_|exact z'n T (z'a _) ⟨rfl,rfl⟩
 have s0:decide (u.md<2)=false:=by simpa using q0
 by_cases q1:u.md>16
 ·have s1:decide (u.md>16)=true:=by simpa using q1
  rw[show y't u=false by simp[y't,w'H];omega]
  repeat' first|refine vb rfl rfl rfl rfl ?_|refine vs T rfl fun K hK=>?_;(try simp (disch:=omega) only[go_sem,Nat.reduceBEq,s0,s1]);(refine hK _ _ ?_;clear hK K)|refine st rfl ?_|refine sc rfl ?_|refine nl ?_|refine gs rfl rfl ?_|exact z'n T (z'a _) ⟨rfl,rfl⟩
 have s1:decide (u.md>16)=false:=by simpa using q1
 by_cases q2:u.init.length>6
 ·have s2:decide ((u.init.length:Int)>6)=true:=by simp;omega
  rw[show y't u=false by simp[y't,w'H];omega]
  repeat' first|refine vb rfl rfl rfl rfl ?_|refine vs T rfl fun K hK=>?_;(try simp (disch:=omega) only[go_sem,Nat.reduceBEq,s0,s1,s2,z'k]);(refine hK _ _ ?_;clear hK K)|refine st rfl ?_|refine sc rfl ?_|refine nl ?_|refine gs rfl rfl ?_|exact z'n T (z'a _) ⟨rfl,rfl⟩
 have s2:decide ((u.init.length:Int)>6)=false:=by simp;omega
 by_cases q3:u.regs.length=0
 ·have s3:((u.regs.length:Int) == 0)=true:=beq_iff_eq.2 (by omega)
  rw[show y't u=false by simp[y't,w'H,q3]]
  repeat' first|refine vb rfl rfl rfl rfl ?_|refine vs T rfl fun K hK=>?_;(try simp (disch:=omega) only[go_sem,Nat.reduceBEq,s0,s1,s2,s3,z'k]);(refine hK _ _ ?_;clear hK K)|refine st rfl ?_|refine sc rfl ?_|refine nl ?_|refine gs rfl rfl ?_|exact z'n T (z'a _) ⟨rfl,rfl⟩
 have s3:((u.regs.length:Int) == 0)=false:=beq_eq_false_iff_ne.2 (by omega)
 by_cases q4:u.regs.length>4
 ·have s4:decide ((u.regs.length:Int)>4)=true:=by simp;omega
  rw[show y't u=false by simp[y't,w'H];omega]
  repeat' first|refine vb rfl rfl rfl rfl ?_|refine vs T rfl fun K hK=>?_;(try simp (disch:=omega) only[go_sem,Nat.reduceBEq,s0,s1,s2,s3,s4,z'k]);(refine hK _ _ ?_;clear hK K)|refine st rfl ?_|refine sc rfl ?_|refine nl ?_|refine gs rfl rfl ?_|exact z'n T (z'a _) ⟨rfl,rfl⟩
 have s4:decide ((u.regs.length:Int)>4)=false:=by simp;omega
 by_cases q5:u.code.length=u.regs.length
 case neg=>
  have s5:((u.code.length:Int) != (u.regs.length:Int))=true:=by simp;omega
  rw[show y't u=false by simp[y't,w'H,q5]]
  repeat' first|refine vb rfl rfl rfl rfl ?_|refine vs T rfl fun K hK=>?_;(try simp (disch:=omega) only[go_sem,Nat.reduceBEq,s0,s1,s2,s3,s4,s5,z'k,z'Q]);(refine hK _ _ ?_;clear hK K)|refine st rfl ?_|refine sc rfl ?_|refine nl ?_|refine gs rfl rfl ?_|exact z'n T (z'a _) ⟨rfl,rfl⟩
 have s5:((u.code.length:Int) != (u.regs.length:Int))=false:=by simp;omega
 repeat' first|refine vb rfl rfl rfl rfl ?_|refine vs T rfl fun K hK=>?_;(try simp (disch:=omega) only[go_sem,Nat.reduceBEq,s0,s1,s2,s3,s4,s5,z'k,z'Q]);(refine hK _ _ ?_;clear hK K)|refine st rfl ?_|refine sc rfl ?_|refine nl ?_|refine gs rfl rfl ?_
 have hH:w'H u=y'W u.init u.md:=by
  have h1:decide (2≤u.md)=true:=by simp;omega
  have h2:decide (u.md≤16)=true:=by simp;omega
  have h3:decide (u.init.length≤6)=true:=by simp;omega
  have h4:decide (1≤u.regs.length)=true:=by simp;omega
  have h5:decide (u.regs.length≤4)=true:=by simp;omega
  simp only[w'H,h1,h2,h3,h4,h5,decide_eq_true q5,z'W,w'E]
 refine VC.loop {k:Nat//k≤u.init.length∧ ∀(i:Nat) (y:Int),i<k→u.init[i]?=some y→inB y u.md=true} (fun p=>⟨z'J [(1,.pt (unC u)),(43,z'C u.init),(44,iD (u.init.length:Nat)),(45,iD (p.1:Nat))],[]⟩) (fun p=>u.init.length-p.1) ⟨0,by omega,fun i y hi=>by omega⟩ ?_ ?_
 ·refine Weak.sub ?_
  simp[sub,upd]
 rintro⟨k,hk,hs⟩
 dsimp only
 rcases z'g k u.init.length with hlt|hge
 case inl=>
  have hd:decide ((k:Int)<(u.init.length:Int))=true:=by simp;omega
  have hw:IntKind.i64.wrap ((k:Int)+1)=((k+1:Nat):Int):=by rw[w64 (by omega)];omega
  obtain⟨n,hn⟩: ∃n,u.init[k]?=some n:=⟨_,z'b hlt⟩
  have rn:(iRs u.init)[k]?=some [iD n]:=by rw[y'Q,hn];rfl
  have bad:inB n u.md=false→y't u=false:=fun h=>by
   have:y'W u.init u.md=false:=v'r (p:=fun n=>inB n u.md) hn h
   simp[y't,hH,this]
  by_cases p0:n<0
  ·have d0:decide (n<0)=true:=by simpa using p0
   rw[bad (by simp[inB];omega)]
   repeat' first|refine vs T rfl fun K hK=>?_;(try simp (disch:=omega) only[go_sem,Nat.reduceBEq,hd,rn,d0,z'k]);(first|refine hK _ _ ?_;clear hK K|refine⟨?_,hK _ _ ?_⟩<;>clear hK K;focus(try omega))|refine st rfl ?_|refine sc rfl ?_|refine nl ?_|refine gs rfl rfl ?_|exact z'n T (z'a _) ⟨rfl,rfl⟩
  have d0:decide (n<0)=false:=by simpa using p0
  by_cases p1:n≥u.md
  ·have d1:decide (n≥u.md)=true:=by simpa using p1
   rw[bad (by simp[inB];omega)]
   repeat' first|refine vs T rfl fun K hK=>?_;(try simp (disch:=omega) only[go_sem,Nat.reduceBEq,hd,rn,d0,d1,z'k]);(first|refine hK _ _ ?_;clear hK K|refine⟨?_,hK _ _ ?_⟩<;>clear hK K;focus(try omega))|refine st rfl ?_|refine sc rfl ?_|refine nl ?_|refine gs rfl rfl ?_|exact z'n T (z'a _) ⟨rfl,rfl⟩
  have d1:decide (n≥u.md)=false:=by simpa using p1
  repeat' first|refine vs T rfl fun K hK=>?_;(try simp (disch:=omega) only[go_sem,Nat.reduceBEq,hd,hw,rn,d0,d1,z'k]);(first|refine hK _ _ ?_;clear hK K|refine⟨?_,hK _ _ ?_⟩<;>clear hK K;focus(try omega))|refine st rfl ?_|refine sc rfl ?_|refine nl ?_|refine gs rfl rfl ?_
  refine⟨⟨k+1,by omega,Zak hs hn (by simp[inB];omega)⟩,Weak.sub ?_,by simp only[];omega⟩
  simp[sub,upd]
 have hd:decide ((k:Int)<(u.init.length:Int))=false:=by simp;omega
 have hA:y'W u.init u.md=true:=ZaT fun i x hi hx=>hs i x (by omega) hx
 have hU:y't u=(List.range u.regs.length).all fun t=>v'D (u.regs.getD t 0) u.init.length (u.code.getD t []):=by
  unfold y't
  rw[hH,hA,z'W]
 repeat' first|refine vs T rfl fun K hK=>?_;(try simp (disch:=omega) only[go_sem,Nat.reduceBEq,hd,z'k]);(refine hK _ _ ?_;clear hK K)|refine st rfl ?_|refine sc rfl ?_|refine nl ?_
 refine VC.loop {t:Nat//t≤u.regs.length∧ ∀j,j<t→v'D (u.regs.getD j 0) u.init.length (u.code.getD j [])=true} (fun p=>⟨z'J [(1,.pt (unC u)),(59,z'C u.regs),(60,iD (u.regs.length:Nat)),(61,iD (p.1:Nat))],[]⟩) (fun p=>u.regs.length-p.1) ⟨0,by omega,fun j hj=>by omega⟩ ?_ ?_
 ·refine Weak.sub ?_
  simp[sub,upd]
 rintro⟨t,ht,hs⟩
 dsimp only
 rcases z'g t u.regs.length with hlt|hge
 case inr=>
  have hd:decide ((t:Int)<(u.regs.length:Int))=false:=by simp;omega
  rw[show y't u=true by rw[hU];exact ZcN fun i hi=>hs i (by omega)]
  repeat' first|refine vs T rfl fun K hK=>?_;(try simp (disch:=omega) only[go_sem,Nat.reduceBEq,hd]);(refine hK _ _ ?_;clear hK K)|refine st rfl ?_|refine sc rfl ?_|refine nl ?_|exact z'n T (z'a _) ⟨rfl,rfl⟩
 have hd:decide ((t:Int)<(u.regs.length:Int))=true:=by simp;omega
 have hw:IntKind.i64.wrap ((t:Int)+1)=((t+1:Nat):Int):=by rw[w64 (by omega)];omega
 obtain⟨n,hn⟩: ∃n,u.regs[t]?=some n:=⟨_,z'b hlt⟩
 obtain⟨r,hr⟩: ∃r,u.code[t]?=some r:=⟨_,z'b (by omega)⟩
 have rn:(iRs u.regs)[t]?=some [iD n]:=by rw[y'Q,hn];rfl
 have rr:(x'9 u.code)[t]?=some [.sl false 7 (y'P r)]:=by rw[x'O,hr];rfl
 have hrm:=z'h hr
 have hgn:u.regs.getD t 0=n:=by rw[z'e,hn];rfl
 have hgr:u.code.getD t []=r:=by rw[z'e,hr];rfl
 have bad:v'D n u.init.length r=false→y't u=false:=fun h=>by rw[hU];exact ZcO hlt (by rw[hgn,hgr];exact h)
 have htc:t<u.code.length:=by omega
 have cr:=ZoC r (hu.row r hrm) (hu.ins r hrm) n u.init.length
 by_cases p0:n<0
 ·have d0:decide (n<0)=true:=by simpa using p0
  rw[bad (by rw[ZfT];simp;omega)]
  repeat' first|refine dr (id:=14) T 16 (by kernel_rfl) ?_|refine gn ?_|(apply VCg.step T rfl rfl);focus((try simp (disch:=omega) only[go_sem,Nat.reduceBEq,d0]);(exact rfl))|refine VCg.gstep T rfl rfl rfl rfl ?_;try simp only[GB]|refine vs T rfl fun K hK=>?_;(try simp (disch:=omega) only[go_sem,Nat.reduceBEq,hd,rn,z'k]);(first|refine hK _ _ ?_;clear hK K|refine⟨?_,hK _ _ ?_⟩<;>clear hK K;focus(try omega))|refine st rfl ?_|refine sc rfl ?_|refine nl ?_|refine gs rfl rfl ?_|exact z'n T (z'a _) ⟨rfl,rfl⟩
 have d0:decide (n<0)=false:=by simpa using p0
 by_cases p1:n>6
 ·have d1:decide (n>6)=true:=by simpa using p1
  rw[bad (by rw[ZfT];simp;omega)]
  repeat' first|refine dr (id:=14) T 16 (by kernel_rfl) ?_|refine gn ?_|(first|apply VCg.step T rfl rfl|apply exF);focus((try simp (disch:=omega) only[go_sem,Nat.reduceBEq,d0,d1]);(exact rfl))|refine VCg.gstep T rfl rfl rfl rfl ?_;try simp only[GB]|refine vs T rfl fun K hK=>?_;(try simp (disch:=omega) only[go_sem,Nat.reduceBEq,hd,rn,z'k]);(first|refine hK _ _ ?_;clear hK K|refine⟨?_,hK _ _ ?_⟩<;>clear hK K;focus(try omega))|refine st rfl ?_|refine sc rfl ?_|refine nl ?_|refine gs rfl rfl ?_|exact z'n T (z'a _) ⟨rfl,rfl⟩
 have d1:decide (n>6)=false:=by simpa using p1
 cases hQ:Zbs n u.init.length r with
 |false=>
  rw[hQ]at cr
  rw[bad (by rw[ZfT,hQ];simp)]
  repeat' first|refine dr (id:=14) T 16 (by kernel_rfl) ?_|refine gn ?_|(first|apply VCg.step T rfl rfl|apply exF);focus((try simp (disch:=omega) only[go_sem,Nat.reduceBEq,rr,d0,d1,z'k,z'Q]);(first|exact rfl|refine⟨?_,rfl⟩;try omega))|refine VCg.gstep T rfl rfl rfl rfl ?_;try simp only[GB]|refine vs T rfl fun K hK=>?_;(try simp (disch:=omega) only[go_sem,Nat.reduceBEq,hd,rn,z'r,z'k]);(first|refine hK _ _ ?_;clear hK K|refine⟨?_,hK _ _ ?_⟩<;>clear hK K;focus(try omega)|refine Op1.callp rfl rfl (cr) rfl ?_;refine hK _ _ ?_;clear hK K)|refine st rfl ?_|refine sc rfl ?_|refine nl ?_|refine gs rfl rfl ?_|exact z'n T (z'a _) ⟨rfl,rfl⟩
 |true=>
  rw[hQ]at cr
  repeat' first|refine dr (id:=14) T 16 (by kernel_rfl) ?_|refine gn ?_|(first|apply VCg.step T rfl rfl|apply exF);focus((try simp (disch:=omega) only[go_sem,Nat.reduceBEq,rr,d0,d1,z'k,z'Q]);(first|exact rfl|refine⟨?_,rfl⟩;try omega))|refine VCg.gstep T rfl rfl rfl rfl ?_;try simp only[GB]|refine vs T rfl fun K hK=>?_;(try simp (disch:=omega) only[go_sem,Nat.reduceBEq,hd,hw,rn,z'l,z'k]);(first|refine hK _ _ ?_;clear hK K|refine⟨?_,hK _ _ ?_⟩<;>clear hK K;focus(try omega)|refine Op1.callp rfl rfl (cr) rfl ?_;refine hK _ _ ?_;clear hK K)|refine st rfl ?_|refine sc rfl ?_|refine nl ?_|refine gs rfl rfl ?_
  refine⟨⟨t+1,by omega,fun j hj=>?_⟩,Weak.sub ?_,by simp only[];omega⟩
  ·rcases z'g j t with h'|h'
   ·exact hs j h'
   ·obtain rfl:j=t:=by omega
    rw[hgn,hgr,ZfT,hQ];simp;omega
  ·simp[sub,upd]
end Go.Proofs.YtfneeacgkdhldaaGreat
