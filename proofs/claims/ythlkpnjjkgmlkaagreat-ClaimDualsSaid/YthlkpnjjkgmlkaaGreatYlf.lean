/- Contracts: whether an instruction can be. No condition. -/
import Derived.Test.YthlkpnjjkgmlkaaGreatYle
import Derived.Test.YthlkpnjjkgmlkaaGreatXa
import Derived.Test.YthlkpnjjkgmlkaaGreatXf
namespace Go.Proofs.YthlkpnjjkgmlkaaGreat
set_option maxHeartbeats 16000000
set_option linter.unusedSimpArgs false
set_option linter.unusedVariables false
set_option maxRecDepth 20000
open Go Go.Proofs Go.Vc
attribute [local irreducible] x'v VCg VCw VCx
theorem ZsV (reg loc:Int) (e f:List Opc) (ne:Bool) (to:Int) (he:e.length≤1000) (hf:f.length≤1000) (regs locs many:Int):Pure Tryz.prog 204 [.agg [iD 4,iD reg,iD loc,z'S e,z'S f,bD ne,iD to],iD regs,iD locs,iD many] (bD (w'a ⟨4,reg,loc,e,f,ne,to⟩ regs locs many)):=by
 have cp:Pure Tryz.prog 251 [iD 4] (.tup [sD ⟨#[108,101]⟩,bD true]):=w'T 4
 have ci1:=x'm reg regs
 have ci2:=x'm loc locs
 have ci3:=x'm to many
 have ce:Pure Tryz.prog 37 [z'S e,.gs none 0,iD regs,iD 0] (bD (y'G e [] regs 0)):=Fun.argsW (y'7 e he [] (by simp) regs 0) (x'o z'1)
 have cf:Pure Tryz.prog 37 [z'S f,.gs none 0,iD regs,iD 0] (bD (y'G f [] regs 0)):=Fun.argsW (y'7 f hf [] (by simp) regs 0) (x'o z'1)
 have qr:Pure Tryz.prog 252 [sD ⟨#[108,101]⟩,.is (.int .u8 114)] (bD false):=z'0 ⟨#[108,101]⟩ (by decide) 114
 have ql:Pure Tryz.prog 252 [sD ⟨#[108,101]⟩,.is (.int .u8 108)] (bD true):=z'0 ⟨#[108,101]⟩ (by decide) 108
 have qe:Pure Tryz.prog 252 [sD ⟨#[108,101]⟩,.is (.int .u8 101)] (bD true):=z'0 ⟨#[108,101]⟩ (by decide) 101
 have qf:Pure Tryz.prog 252 [sD ⟨#[108,101]⟩,.is (.int .u8 102)] (bD false):=z'0 ⟨#[108,101]⟩ (by decide) 102
 have qn:Pure Tryz.prog 252 [sD ⟨#[108,101]⟩,.is (.int .u8 110)] (bD false):=z'0 ⟨#[108,101]⟩ (by decide) 110
 have qt:Pure Tryz.prog 252 [sD ⟨#[108,101]⟩,.is (.int .u8 116)] (bD false):=z'0 ⟨#[108,101]⟩ (by decide) 116
 have hO:w'a ⟨4,reg,loc,e,f,ne,to⟩ regs locs many=((reg == 0)&&inB loc locs&&(to == 0)&&y'G e [] regs 0&&decide (f.length=0)&&(false|| !ne)):=rfl
 rw[hO]
 refine Fun.of T [.tmp 8] Tryz.func204 rfl Tryz.ntmps204 Tryz.results204 rfl (by kernel_rfl) ?_
 repeat' first|refine vb rfl rfl rfl rfl ?_|refine mq2 @z'C (v'1 cp ci2 ce qr ql qe qf qn qt) ?_|refine gu rfl rfl ?_|refine z'p T (z'a _) ?_;(try simp only[upd,Nat.reduceBEq,cond_true,cond_false,and_true])|with_reducible refine z'n (fun hc=>?_) (fun hc=>?_)<;>(try simp only[decide_eq_true_eq,decide_eq_false_iff_not,bne_iff_ne,bne_eq_false_iff_eq,ne_eq,z'x,z'B,gt_iff_lt,z'w]at hc)|fail
 all_goals clear cp ci1 ci2 ci3 ce cf qr ql qe qf qn qt hO
 all_goals first|(simp_all[-List.length_eq_zero_iff];done)|(cases ne<;>simp_all[-List.length_eq_zero_iff];done)|(simp_all[-List.length_eq_zero_iff];omega)|(cases ne<;>simp_all[-List.length_eq_zero_iff]<;>omega)
theorem ZsW (reg loc:Int) (e f:List Opc) (ne:Bool) (to:Int) (he:e.length≤1000) (hf:f.length≤1000) (regs locs many:Int):Pure Tryz.prog 204 [.agg [iD 5,iD reg,iD loc,z'S e,z'S f,bD ne,iD to],iD regs,iD locs,iD many] (bD (w'a ⟨5,reg,loc,e,f,ne,to⟩ regs locs many)):=by
 have cp:Pure Tryz.prog 251 [iD 5] (.tup [sD ⟨#[114,108,101,102]⟩,bD true]):=w'T 5
 have ci1:=x'm reg regs
 have ci2:=x'm loc locs
 have ci3:=x'm to many
 have ce:Pure Tryz.prog 37 [z'S e,.gs none 0,iD regs,iD 0] (bD (y'G e [] regs 0)):=Fun.argsW (y'7 e he [] (by simp) regs 0) (x'o z'1)
 have cf:Pure Tryz.prog 37 [z'S f,.gs none 0,iD regs,iD 0] (bD (y'G f [] regs 0)):=Fun.argsW (y'7 f hf [] (by simp) regs 0) (x'o z'1)
 have qr:Pure Tryz.prog 252 [sD ⟨#[114,108,101,102]⟩,.is (.int .u8 114)] (bD true):=z'0 ⟨#[114,108,101,102]⟩ (by decide) 114
 have ql:Pure Tryz.prog 252 [sD ⟨#[114,108,101,102]⟩,.is (.int .u8 108)] (bD true):=z'0 ⟨#[114,108,101,102]⟩ (by decide) 108
 have qe:Pure Tryz.prog 252 [sD ⟨#[114,108,101,102]⟩,.is (.int .u8 101)] (bD true):=z'0 ⟨#[114,108,101,102]⟩ (by decide) 101
 have qf:Pure Tryz.prog 252 [sD ⟨#[114,108,101,102]⟩,.is (.int .u8 102)] (bD true):=z'0 ⟨#[114,108,101,102]⟩ (by decide) 102
 have qn:Pure Tryz.prog 252 [sD ⟨#[114,108,101,102]⟩,.is (.int .u8 110)] (bD false):=z'0 ⟨#[114,108,101,102]⟩ (by decide) 110
 have qt:Pure Tryz.prog 252 [sD ⟨#[114,108,101,102]⟩,.is (.int .u8 116)] (bD false):=z'0 ⟨#[114,108,101,102]⟩ (by decide) 116
 have hO:w'a ⟨5,reg,loc,e,f,ne,to⟩ regs locs many=(inB reg regs&&inB loc locs&&(to == 0)&&y'G e [] regs 0&&y'G f [] regs 0&&(false|| !ne)):=rfl
 rw[hO]
 refine Fun.of T [.tmp 8] Tryz.func204 rfl Tryz.ntmps204 Tryz.results204 rfl (by kernel_rfl) ?_
 repeat' first|refine vb rfl rfl rfl rfl ?_|refine mq3 (Zdc cp ci1 ci2 ce cf qr ql qe qf qn qt) ?_|refine gu rfl rfl ?_|refine z'p T (z'a _) ?_;(try simp only[upd,Nat.reduceBEq,cond_true,cond_false,and_true])|with_reducible refine z'n (fun hc=>?_) (fun hc=>?_)<;>(try simp only[bne_iff_ne,bne_eq_false_iff_eq,ne_eq,z'x,z'B]at hc)|fail
 all_goals clear cp ci1 ci2 ci3 ce cf qr ql qe qf qn qt hO
 all_goals first|(simp_all[-List.length_eq_zero_iff];done)|(cases ne<;>simp_all[-List.length_eq_zero_iff];done)|(simp_all[-List.length_eq_zero_iff];omega)|(cases ne<;>simp_all[-List.length_eq_zero_iff]<;>omega)
theorem Zrc (reg loc:Int) (e f:List Opc) (ne:Bool) (to:Int) (he:e.length≤1000) (hf:f.length≤1000) (regs locs many:Int):Pure Tryz.prog 204 [.agg [iD 20,iD reg,iD loc,z'S e,z'S f,bD ne,iD to],iD regs,iD locs,iD many] (bD (w'a ⟨20,reg,loc,e,f,ne,to⟩ regs locs many)):=by
 have cp:Pure Tryz.prog 251 [iD 20] (.tup [sD ⟨#[116]⟩,bD true]):=w'T 20
 have ci1:=x'm reg regs
 have ci2:=x'm loc locs
 have ci3:=x'm to many
 have ce:Pure Tryz.prog 37 [z'S e,.gs none 0,iD regs,iD 0] (bD (y'G e [] regs 0)):=Fun.argsW (y'7 e he [] (by simp) regs 0) (x'o z'1)
 have cf:Pure Tryz.prog 37 [z'S f,.gs none 0,iD regs,iD 0] (bD (y'G f [] regs 0)):=Fun.argsW (y'7 f hf [] (by simp) regs 0) (x'o z'1)
 have qr:Pure Tryz.prog 252 [sD ⟨#[116]⟩,.is (.int .u8 114)] (bD false):=z'0 ⟨#[116]⟩ (by decide) 114
 have ql:Pure Tryz.prog 252 [sD ⟨#[116]⟩,.is (.int .u8 108)] (bD false):=z'0 ⟨#[116]⟩ (by decide) 108
 have qe:Pure Tryz.prog 252 [sD ⟨#[116]⟩,.is (.int .u8 101)] (bD false):=z'0 ⟨#[116]⟩ (by decide) 101
 have qf:Pure Tryz.prog 252 [sD ⟨#[116]⟩,.is (.int .u8 102)] (bD false):=z'0 ⟨#[116]⟩ (by decide) 102
 have qn:Pure Tryz.prog 252 [sD ⟨#[116]⟩,.is (.int .u8 110)] (bD false):=z'0 ⟨#[116]⟩ (by decide) 110
 have qt:Pure Tryz.prog 252 [sD ⟨#[116]⟩,.is (.int .u8 116)] (bD true):=z'0 ⟨#[116]⟩ (by decide) 116
 have hO:w'a ⟨20,reg,loc,e,f,ne,to⟩ regs locs many=((reg == 0)&&(loc == 0)&&inB to many&&decide (e.length=0)&&decide (f.length=0)&&(false|| !ne)):=rfl
 rw[hO]
 refine Fun.of T [.tmp 8] Tryz.func204 rfl Tryz.ntmps204 Tryz.results204 rfl (by kernel_rfl) ?_
 repeat' first|refine vb rfl rfl rfl rfl ?_|refine mq2 @z'C (Za1 cp ci3 qr ql qe qf qn qt) ?_|refine gu rfl rfl ?_|refine z'p T (z'a _) ?_;(try simp only[upd,Nat.reduceBEq,cond_true,cond_false,and_true])|with_reducible refine z'n (fun hc=>?_) (fun hc=>?_)<;>(try simp only[decide_eq_true_eq,decide_eq_false_iff_not,bne_iff_ne,bne_eq_false_iff_eq,ne_eq,z'x,z'B,gt_iff_lt,z'w]at hc)|fail
 all_goals clear cp ci1 ci2 ci3 ce cf qr ql qe qf qn qt hO
 all_goals first|(simp_all[-List.length_eq_zero_iff];done)|(cases ne<;>simp_all[-List.length_eq_zero_iff];done)|(simp_all[-List.length_eq_zero_iff];omega)|(cases ne<;>simp_all[-List.length_eq_zero_iff]<;>omega)
theorem Zrd (reg loc:Int) (e f:List Opc) (ne:Bool) (to:Int) (he:e.length≤1000) (hf:f.length≤1000) (regs locs many:Int):Pure Tryz.prog 204 [.agg [iD 21,iD reg,iD loc,z'S e,z'S f,bD ne,iD to],iD regs,iD locs,iD many] (bD (w'a ⟨21,reg,loc,e,f,ne,to⟩ regs locs many)):=by
 have cp:Pure Tryz.prog 251 [iD 21] (.tup [sD ⟨#[101,116]⟩,bD true]):=w'T 21
 have ci1:=x'm reg regs
 have ci2:=x'm loc locs
 have ci3:=x'm to many
 have ce:Pure Tryz.prog 37 [z'S e,.gs none 0,iD regs,iD 0] (bD (y'G e [] regs 0)):=Fun.argsW (y'7 e he [] (by simp) regs 0) (x'o z'1)
 have cf:Pure Tryz.prog 37 [z'S f,.gs none 0,iD regs,iD 0] (bD (y'G f [] regs 0)):=Fun.argsW (y'7 f hf [] (by simp) regs 0) (x'o z'1)
 have qr:Pure Tryz.prog 252 [sD ⟨#[101,116]⟩,.is (.int .u8 114)] (bD false):=z'0 ⟨#[101,116]⟩ (by decide) 114
 have ql:Pure Tryz.prog 252 [sD ⟨#[101,116]⟩,.is (.int .u8 108)] (bD false):=z'0 ⟨#[101,116]⟩ (by decide) 108
 have qe:Pure Tryz.prog 252 [sD ⟨#[101,116]⟩,.is (.int .u8 101)] (bD true):=z'0 ⟨#[101,116]⟩ (by decide) 101
 have qf:Pure Tryz.prog 252 [sD ⟨#[101,116]⟩,.is (.int .u8 102)] (bD false):=z'0 ⟨#[101,116]⟩ (by decide) 102
 have qn:Pure Tryz.prog 252 [sD ⟨#[101,116]⟩,.is (.int .u8 110)] (bD false):=z'0 ⟨#[101,116]⟩ (by decide) 110
 have qt:Pure Tryz.prog 252 [sD ⟨#[101,116]⟩,.is (.int .u8 116)] (bD true):=z'0 ⟨#[101,116]⟩ (by decide) 116
 have hO:w'a ⟨21,reg,loc,e,f,ne,to⟩ regs locs many=((reg == 0)&&(loc == 0)&&inB to many&&y'G e [] regs 0&&decide (f.length=0)&&(false|| !ne)):=rfl
 rw[hO]
 refine Fun.of T [.tmp 8] Tryz.func204 rfl Tryz.ntmps204 Tryz.results204 rfl (by kernel_rfl) ?_
 repeat' first|refine vb rfl rfl rfl rfl ?_|refine mq2 @z'C (v'1 cp ci3 ce qr ql qe qf qn qt) ?_|refine gu rfl rfl ?_|refine z'p T (z'a _) ?_;(try simp only[upd,Nat.reduceBEq,cond_true,cond_false,and_true])|with_reducible refine z'n (fun hc=>?_) (fun hc=>?_)<;>(try simp only[decide_eq_true_eq,decide_eq_false_iff_not,bne_iff_ne,bne_eq_false_iff_eq,ne_eq,z'x,z'B,gt_iff_lt,z'w]at hc)|fail
 all_goals clear cp ci1 ci2 ci3 ce cf qr ql qe qf qn qt hO
 all_goals first|(simp_all[-List.length_eq_zero_iff];done)|(cases ne<;>simp_all[-List.length_eq_zero_iff];done)|(simp_all[-List.length_eq_zero_iff];omega)|(cases ne<;>simp_all[-List.length_eq_zero_iff]<;>omega)
theorem Zre (x:Ins) (he:x.e.length≤1000) (hf:x.f.length≤1000) (regs locs many:Int):Pure Tryz.prog 204 [.agg (insR x),iD regs,iD locs,iD many] (bD (w'a x regs locs many)):=by
 obtain⟨op,reg,loc,e,f,ne,to⟩:=x
 by_cases h2:op=2
 ·subst h2;exact ZsT reg loc e f ne to he hf regs locs many
 by_cases h3:op=3
 ·subst h3;exact ZsU reg loc e f ne to he hf regs locs many
 by_cases h4:op=4
 ·subst h4;exact ZsV reg loc e f ne to he hf regs locs many
 by_cases h5:op=5
 ·subst h5;exact ZsW reg loc e f ne to he hf regs locs many
 by_cases h6:op=6
 ·subst h6;exact ZsX reg loc e f ne to he hf regs locs many
 by_cases h7:op=7
 ·subst h7;exact ZsY reg loc e f ne to he hf regs locs many
 by_cases h8:op=8
 ·subst h8;exact ZsZ reg loc e f ne to he hf regs locs many
 by_cases h9:op=9
 ·subst h9;exact Zs0 reg loc e f ne to he hf regs locs many
 by_cases h20:op=20
 ·subst h20;exact Zrc reg loc e f ne to he hf regs locs many
 by_cases h21:op=21
 ·subst h21;exact Zrd reg loc e f ne to he hf regs locs many
 have hn:Zgh op=none:=by simp only[Zgh,h2,h3,h4,h5,h6,h7,h8,h9,h20,h21,if_false]
 have cp:Pure Tryz.prog 251 [iD op] (.tup [sD ⟨#[]⟩,bD false]):=by have:=w'T op;rw[hn]at this;exact this
 have hO:w'a ⟨op,reg,loc,e,f,ne,to⟩ regs locs many=false:=by simp[w'a,ndF,h2,h3,h4,h5,h6,h7,h8,h9,h20,h21]
 rw[hO]
 refine Fun.of T [.tmp 8] Tryz.func204 rfl Tryz.ntmps204 Tryz.results204 rfl (by kernel_rfl) ?_
 repeat' first|refine vb rfl rfl rfl rfl ?_|refine mq2 @insR.eq_1 cp ?_|exact z'p T (z'a _) ⟨rfl,rfl⟩|fail
structure OkU (u:Un):Prop where
 ini:u.init.length≤1000
 reg:u.regs.length≤1000
 cod:u.code.length≤1000
 row: ∀r,r∈u.code→r.length≤100000
 ins: ∀r,r∈u.code→ ∀x,x∈r→x.e.length≤1000∧x.f.length≤1000
instance:Inhabited Ins:=⟨⟨0,0,0,[],[],false,0⟩⟩
def Za3 (regs locs:Int) (r:List Ins):Bool:=
 (decide (0≤regs)&&decide (regs≤6)&&decide (1≤r.length)&&decide (r.length≤1000)&&v'M (r.getD (r.length-1) default))&&((List.range (r.length-1)).all fun i=>w'a (r.getD i default) regs locs r.length)
def v'8 (u:Un):Bool:=decide (2≤u.md)&&decide (u.md≤16)&&y'O u.init u.md&&decide (u.init.length≤6)&&decide (1≤u.regs.length)&&decide (u.regs.length≤4)&&decide (u.code.length=u.regs.length)
def x'd (u:Un):Bool:=v'8 u&&((List.range u.regs.length).all fun t=>Za3 (u.regs.getD t 0) u.init.length (u.code.getD t []))
theorem ZjX {n:Nat} {p:Nat→Bool} (h: ∀i,i<n→p i=true):(List.range n).all p=true:=by
 rw[z'q]
 intro x hx
 exact h x (z'U.1 hx)
theorem ZjY {n i:Nat} {p:Nat→Bool} (hi:i<n) (h:p i=false):(List.range n).all p=false:=by
 rw[v'i]
 exact⟨i,z'U.2 hi,by simp[h]⟩
theorem ZfD (u:Un) (hu:OkU u):Pure Tryz.prog 135 [.agg (unC u)] (bD (x'd u)):=by
 have k1:=hu.ini
 have k2:=hu.reg
 have k3:=hu.cod
 have ca:=ZeW u.init (by omega) u.md
 have no:v'8 u=false→x'd u=false:=fun h=>by unfold x'd;rw[h];rfl
 refine Fun.of T [.tmp 2] Tryz.func135 rfl Tryz.ntmps135 Tryz.results135 rfl (by kernel_rfl) ?_
 by_cases g0:u.md<2
 ·have d0:decide (u.md<2)=true:=by simpa using g0
  rw[no (by simp[v'8];omega)]
  repeat' first|refine vb rfl rfl rfl rfl ?_|refine mq1 @d0 ?_|exact z'p T (z'a _) ⟨rfl,rfl⟩|fail
 have d0:decide (u.md<2)=false:=by simpa using g0
 by_cases g1:u.md>16
 ·have d1:decide (u.md>16)=true:=by simpa using g1
  rw[no (by simp[v'8];omega)]
  repeat' first|refine vb rfl rfl rfl rfl ?_|refine mq1 (z'X @d0 @d1) ?_|exact z'p T (z'a _) ⟨rfl,rfl⟩|fail
 have d1:decide (u.md>16)=false:=by simpa using g1
 cases hal:y'O u.init u.md with
 |false=>
  rw[no (by simp[v'8,hal])]
  repeat' first|refine vb rfl rfl rfl rfl ?_|refine mq2 (x'i @d0 @d1 @hal) ca ?_|exact z'p T (z'a _) ⟨rfl,rfl⟩|fail
 |true=>
 by_cases g3:(u.init.length:Int)>6
 ·have d3:decide ((u.init.length:Int)>6)=true:=by simpa using g3
  rw[no (by simp[v'8];omega)]
  repeat' first|refine vb rfl rfl rfl rfl ?_|refine mq2 (y'Z @d0 @d1 @hal @d3 @z'o) ca ?_|exact z'p T (z'a _) ⟨rfl,rfl⟩|fail
 have d3:decide ((u.init.length:Int)>6)=false:=by simpa using g3
 by_cases g4:(u.regs.length:Int)<1
 ·have d4:decide ((u.regs.length:Int)<1)=true:=by simpa using g4
  rw[no (by simp[v'8];omega)]
  repeat' first|refine vb rfl rfl rfl rfl ?_|refine mq2 (x'V @d0 @d1 @hal @d3 @d4 @z'o) ca ?_|exact z'p T (z'a _) ⟨rfl,rfl⟩|fail
 have d4:decide ((u.regs.length:Int)<1)=false:=by simpa using g4
 by_cases g5:(u.regs.length:Int)>4
 ·have d5:decide ((u.regs.length:Int)>4)=true:=by simpa using g5
  rw[no (by simp[v'8];omega)]
  repeat' first|refine vb rfl rfl rfl rfl ?_|refine mq2 (v'p @d0 @d1 @hal @d3 @d4 @d5 @z'o) ca ?_|exact z'p T (z'a _) ⟨rfl,rfl⟩|fail
 have d5:decide ((u.regs.length:Int)>4)=false:=by simpa using g5
 by_cases g6:(u.code.length:Int)≠(u.regs.length:Int)
 ·have d6:((u.code.length:Int) != (u.regs.length:Int))=true:=by simpa using g6
  rw[no (by simp[v'8];omega)]
  repeat' first|refine vb rfl rfl rfl rfl ?_|refine mq2 (v'1 @d0 @d1 @hal @d3 @d4 @d5 @d6 @z'o @z'V) ca ?_|exact z'p T (z'a _) ⟨rfl,rfl⟩|fail
 have d6:((u.code.length:Int) != (u.regs.length:Int))=false:=by simpa using g6
 have hH:v'8 u=true:=by simp[v'8,hal];omega
 have hU:x'd u=(List.range u.regs.length).all fun t=>Za3 (u.regs.getD t 0) u.init.length (u.code.getD t []):=by unfold x'd;rw[hH];rfl
 have hcl:u.code.length=u.regs.length:=by omega
 repeat' first|refine vb rfl rfl rfl rfl ?_|refine mq2 (v'1 @d0 @d1 @hal @d3 @d4 @d5 @d6 @z'o @z'V) ca ?_|fail
 refine VC.loop {t:Nat//t≤u.regs.length∧ ∀j,j<t→Za3 (u.regs.getD j 0) u.init.length (u.code.getD j [])=true} (fun p=>⟨z'T [(1,.pt (unC u)),(3,iD (p.1:Nat))],[]⟩) (fun p=>u.regs.length-p.1) ⟨0,by omega,fun j hj=>by omega⟩ ?_ ?_
 ·refine Weak.sub ?_
  simp[sub,upd]
 rintro⟨t,ht,hs⟩
 dsimp only
 rcases z'i t u.regs.length with hlt|hge
 case inr=>
  have hd:decide ((t:Int)<(u.regs.length:Int))=false:=by simp;omega
  have hr:x'd u=true:=by rw[hU];exact ZjX fun i hi=>hs i (by omega)
  rw[hr]
  repeat' first|refine mq1 (z'X @hd @z'o) ?_|exact z'p T (z'a _) ⟨rfl,rfl⟩|fail
 have hd:decide ((t:Int)<(u.regs.length:Int))=true:=by simp;omega
 have hw:IntKind.i64.wrap ((t:Int)+1)=((t+1:Nat):Int):=by rw[w64 (by omega)];omega
 obtain⟨n,hn⟩: ∃n,u.regs[t]?=some n:=⟨_,z'c hlt⟩
 obtain⟨r,hr⟩: ∃r,u.code[t]?=some r:=⟨_,z'c (by omega)⟩
 have rn:(iRs u.regs)[t]?=some [iD n]:=by rw[x'q,hn];rfl
 have rr:(w'A u.code)[t]?=some [.sl false 7 (y'I r)]:=by rw[x'6,hr];rfl
 have hrm:=z'l hr
 have hrl:=hu.row r hrm
 have hins:=hu.ins r hrm
 have hgn:u.regs.getD t 0=n:=by rw[z'g,hn];rfl
 have hgr:u.code.getD t []=r:=by rw[z'g,hr];rfl
 have bad:Za3 n u.init.length r=false→x'd u=false:=fun h=>by rw[hU];exact ZjY hlt (by rw[hgn,hgr];exact h)
 have htc:t<u.code.length:=by omega
 have F:True:=trivial
 by_cases q0:n<0
 ·have s0:decide (n<0)=true:=by simpa using q0
  rw[bad (by simp[Za3];omega)]
  repeat' first|refine mq1 (x'V @hd @rn @rr @s0 @z'o @z'V) ?_|refine .wk ?_ ?_;focus(try omega)|exact z'p T (z'a _) ⟨rfl,rfl⟩|fail
 have s0:decide (n<0)=false:=by simpa using q0
 by_cases q1:n>6
 ·have s1:decide (n>6)=true:=by simpa using q1
  rw[bad (by simp[Za3];omega)]
  repeat' first|refine mq1 (v'p @hd @rn @rr @s0 @s1 @z'o @z'V) ?_|refine .wk ?_ ?_;focus(try omega)|exact z'p T (z'a _) ⟨rfl,rfl⟩|fail
 have s1:decide (n>6)=false:=by simpa using q1
 by_cases q2:(r.length:Int)<1
 ·have s2:decide ((r.length:Int)<1)=true:=by simpa using q2
  rw[bad (by simp[Za3];omega)]
  repeat' first|refine mq1 (v'1 @hd @rn @rr @s0 @s1 @s2 @z'o @z'V @z'4) ?_|refine .wk ?_ ?_;focus(try omega)|exact z'p T (z'a _) ⟨rfl,rfl⟩|fail
 have s2:decide ((r.length:Int)<1)=false:=by simpa using q2
 by_cases q3:(r.length:Int)>1000
 ·have s3:decide ((r.length:Int)>1000)=true:=by simpa using q3
  rw[bad (by simp[Za3];omega)]
  repeat' first|refine mq1 (Zaa @hd @rn @rr @s0 @s1 @s2 @s3 @z'o @z'V @z'4) ?_|refine .wk ?_ ?_;focus(try omega)|exact z'p T (z'a _) ⟨rfl,rfl⟩|fail
 have s3:decide ((r.length:Int)>1000)=false:=by simpa using q3
 have hwl:IntKind.i64.wrap ((r.length:Int)-1)=((r.length-1:Nat):Int):=by rw[w64 (by omega)];omega
 obtain⟨xl,hxl⟩: ∃x,r[r.length-1]?=some x:=⟨_,z'c (by omega)⟩
 have rx:(y'I r)[r.length-1]?=some [iD xl.op,iD xl.reg,iD xl.loc,z'S xl.e,z'S xl.f,bD xl.ne,iD xl.to]:=by rw[w'e,hxl];rfl
 have hgl:r.getD (r.length-1) default=xl:=by rw[z'g,hxl];rfl
 have cd:=ZoZ xl
 cases hdn:v'M xl with
 |false=>
  rw[bad (by simp only[Za3,hgl,hdn,w'G,v'V])]
  rw[hdn]at cd
  repeat' first|refine mq2 (Zfw @hd @rn @rr @s0 @s1 @s2 @s3 @hwl @rx @z'o @z'V @z'4) cd ?_|refine .wk ?_ ?_;focus(try omega)|exact z'p T (z'a _) ⟨rfl,rfl⟩|fail
 |true=>
 rw[hdn]at cd
 have hRow:Za3 n u.init.length r=(List.range (r.length-1)).all fun i=>w'a (r.getD i default) n u.init.length r.length:=by
  unfold Za3
  rw[hgl,hdn]
  have:(decide (0≤n)&&decide (n≤6)&&decide (1≤r.length)&&decide (r.length≤1000)&&true)=true:=by simp;omega
  rw[this];rfl
 repeat' first|refine mq2 (Zfw @hd @rn @rr @s0 @s1 @s2 @s3 @hwl @rx @z'o @z'V @z'4) cd ?_|refine .wk ?_ ?_;focus(try omega)|fail
 refine VC.loop {i:Nat//i≤r.length-1∧ ∀j,j<i→w'a (r.getD j default) n u.init.length r.length=true} (fun p=>⟨z'T [(1,.pt (unC u)),(3,iD (t:Nat)),(4,.sl false 7 (y'I r)),(5,iD (p.1:Nat))],[]⟩) (fun p=>r.length-p.1) ⟨0,by omega,fun j hj=>by omega⟩ ?_ ?_
 ·refine Weak.sub ?_
  simp[sub,upd]
 rintro⟨i,hi,hsi⟩
 dsimp only
 have hwi:IntKind.i64.wrap ((i:Int)+1)=((i+1:Nat):Int):=by rw[w64 (by omega)];omega
 rcases z'i i (r.length-1)with hlt2|hge2
 case inr=>
  have hd2:decide (((i+1:Nat):Int)<(r.length:Int))=false:=by simp;omega
  have hro:Za3 n u.init.length r=true:=by rw[hRow];exact ZjX fun j hj=>hsi j (by omega)
  repeat' first|refine mq1 (x'f @hd2 @hwi @hw @z'4) ?_|fail
  refine⟨⟨t+1,by omega,fun j hj=>?_⟩,Weak.sub ?_,by simp only[];omega⟩
  ·rcases z'i j t with h'|h'
   ·exact hs j h'
   ·obtain rfl:j=t:=by omega
    rw[hgn,hgr];exact hro
  ·simp[sub,upd]
 have hd2:decide (((i+1:Nat):Int)<(r.length:Int))=true:=by simp;omega
 obtain⟨x,hx⟩: ∃x,r[i]?=some x:=⟨_,z'c (by omega)⟩
 have rx2:(y'I r)[i]?=some [iD x.op,iD x.reg,iD x.loc,z'S x.e,z'S x.f,bD x.ne,iD x.to]:=by rw[w'e,hx];rfl
 have hgx:r.getD i default=x:=by rw[z'g,hx];rfl
 have hef:=hins x (z'l hx)
 have co:=Zre x hef.1 hef.2 n u.init.length r.length
 have hil:i<r.length:=by omega
 cases hO:w'a x n u.init.length r.length with
 |false=>
  rw[hO]at co
  rw[bad (by rw[hRow];exact ZjY hlt2 (by rw[hgx];exact hO))]
  repeat' first|refine dr (id:=12) T 14 (by kernel_rfl) ?_|(apply VCg.step T rfl rfl);focus((try simp (disch:=omega) only[go_sem,Nat.reduceBEq,Nat.reduceAdd,Nat.reduceLeDiff,rn,rx2,z'o,z'4]);(first|exact rfl|refine⟨?_,rfl⟩;try omega))|refine mq2 (x'i @hd2 @hwi @z'4) co ?_|exact z'p T (z'a _) ⟨rfl,rfl⟩|fail
 |true=>
  rw[hO]at co
  repeat' first|refine dr (id:=12) T 14 (by kernel_rfl) ?_|(first|apply VCg.step T rfl rfl|apply exF);focus((try simp (disch:=omega) only[go_sem,Nat.reduceBEq,Nat.reduceAdd,Nat.reduceLeDiff,rn,rx2,z'o,z'4]);(first|exact rfl|refine⟨?_,rfl⟩;try omega))|refine mq2 (x'i @hd2 @hwi @z'4) co ?_|fail
  refine⟨⟨i+1,by omega,fun j hj=>?_⟩,Weak.sub ?_,by simp only[];omega⟩
  ·rcases z'i j i with h'|h'
   ·exact hsi j h'
   ·obtain rfl:j=i:=by omega
    rw[hgx];exact hO
  ·simp[sub,upd]
end Go.Proofs.YthlkpnjjkgmlkaaGreat
