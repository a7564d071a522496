/- What an instruction has. No condition. -/
import Derived.Test.YthlkpnjjkgmlkaaGreatXh
import Derived.Test.YthlkpnjjkgmlkaaGreatXk
namespace Go.Proofs.YthlkpnjjkgmlkaaGreat
set_option maxHeartbeats 16000000
set_option linter.unusedSimpArgs false
set_option linter.unusedVariables false
set_option maxRecDepth 20000
open Go Go.Proofs Go.Vc
structure Nd where
 r:Bool
 l:Bool
 e:Bool
 f:Bool
 n:Bool
 t:Bool
def ndF (op:Int):Option Nd:=
 if op=2 then some ⟨true,false,true,false,false,false⟩else
 if op=3 then some ⟨true,true,false,false,false,false⟩else
 if op=4 then some ⟨false,true,true,false,false,false⟩else
 if op=5 then some ⟨true,true,true,true,false,false⟩else
 if op=6 then some ⟨true,true,true,false,false,false⟩else
 if op=7 then some ⟨true,true,true,false,false,false⟩else
 if op=8 then some ⟨false,false,false,false,false,false⟩else
 if op=9 then some ⟨false,true,true,false,true,false⟩else
 if op=20 then some ⟨false,false,false,false,false,true⟩else
 if op=21 then some ⟨false,false,true,false,false,true⟩else
 none
def v'w (has:Bool) (n m:Int):Bool:=match has with|true=>inB n m|false=>n == 0
def ZrZ (has:Bool) (l:List Opc) (regs:Int):Bool:=match has with|true=>y'G l [] regs 0|false=>decide (l.length=0)
def w'a (x:Ins) (regs locs many:Int):Bool:=match ndF x.op with
 |none=>false
 |some d=>v'w d.r x.reg regs&&v'w d.l x.loc locs&&v'w d.t x.to many&&ZrZ d.e x.e regs&&ZrZ d.f x.f regs&&(d.n|| !x.ne)
attribute [local irreducible] x'v VCg VCw VCx
theorem ZsT (reg loc:Int) (e f:List Opc) (ne:Bool) (to:Int) (he:e.length≤1000) (hf:f.length≤1000) (regs locs many:Int):Pure Tryz.prog 204 [.agg [iD 2,iD reg,iD loc,z'S e,z'S f,bD ne,iD to],iD regs,iD locs,iD many] (bD (w'a ⟨2,reg,loc,e,f,ne,to⟩ regs locs many)):=by
 have cp:Pure Tryz.prog 251 [iD 2] (.tup [sD ⟨#[114,101]⟩,bD true]):=w'T 2
 have ci1:=x'm reg regs
 have ci2:=x'm loc locs
 have ci3:=x'm to many
 have ce:Pure Tryz.prog 37 [z'S e,.gs none 0,iD regs,iD 0] (bD (y'G e [] regs 0)):=Fun.argsW (y'7 e he [] (by simp) regs 0) (x'o z'1)
 have cf:Pure Tryz.prog 37 [z'S f,.gs none 0,iD regs,iD 0] (bD (y'G f [] regs 0)):=Fun.argsW (y'7 f hf [] (by simp) regs 0) (x'o z'1)
 have qr:Pure Tryz.prog 252 [sD ⟨#[114,101]⟩,.is (.int .u8 114)] (bD true):=z'0 ⟨#[114,101]⟩ (by decide) 114
 have ql:Pure Tryz.prog 252 [sD ⟨#[114,101]⟩,.is (.int .u8 108)] (bD false):=z'0 ⟨#[114,101]⟩ (by decide) 108
 have qe:Pure Tryz.prog 252 [sD ⟨#[114,101]⟩,.is (.int .u8 101)] (bD true):=z'0 ⟨#[114,101]⟩ (by decide) 101
 have qf:Pure Tryz.prog 252 [sD ⟨#[114,101]⟩,.is (.int .u8 102)] (bD false):=z'0 ⟨#[114,101]⟩ (by decide) 102
 have qn:Pure Tryz.prog 252 [sD ⟨#[114,101]⟩,.is (.int .u8 110)] (bD false):=z'0 ⟨#[114,101]⟩ (by decide) 110
 have qt:Pure Tryz.prog 252 [sD ⟨#[114,101]⟩,.is (.int .u8 116)] (bD false):=z'0 ⟨#[114,101]⟩ (by decide) 116
 have hO:w'a ⟨2,reg,loc,e,f,ne,to⟩ regs locs many=(inB reg regs&&(loc == 0)&&(to == 0)&&y'G e [] regs 0&&decide (f.length=0)&&(false|| !ne)):=rfl
 rw[hO]
 refine Fun.of T [.tmp 8] Tryz.func204 rfl Tryz.ntmps204 Tryz.results204 rfl (by kernel_rfl) ?_
 repeat' first|refine vb rfl rfl rfl rfl ?_|refine mq2 @z'C (v'1 cp ci1 ce qr ql qe qf qn qt) ?_|refine gu rfl rfl ?_|refine z'p T (z'a _) ?_;(try simp only[upd,Nat.reduceBEq,cond_true,cond_false,and_true])|with_reducible refine z'n (fun hc=>?_) (fun hc=>?_)<;>(try simp only[decide_eq_true_eq,decide_eq_false_iff_not,bne_iff_ne,bne_eq_false_iff_eq,ne_eq,z'x,z'B,gt_iff_lt,z'w]at hc)|fail
 all_goals clear cp ci1 ci2 ci3 ce cf qr ql qe qf qn qt hO
 all_goals first|(simp_all[-List.length_eq_zero_iff];done)|(cases ne<;>simp_all[-List.length_eq_zero_iff];done)|(simp_all[-List.length_eq_zero_iff];omega)|(cases ne<;>simp_all[-List.length_eq_zero_iff]<;>omega)
theorem ZsU (reg loc:Int) (e f:List Opc) (ne:Bool) (to:Int) (he:e.length≤1000) (hf:f.length≤1000) (regs locs many:Int):Pure Tryz.prog 204 [.agg [iD 3,iD reg,iD loc,z'S e,z'S f,bD ne,iD to],iD regs,iD locs,iD many] (bD (w'a ⟨3,reg,loc,e,f,ne,to⟩ regs locs many)):=by
 have cp:Pure Tryz.prog 251 [iD 3] (.tup [sD ⟨#[114,108]⟩,bD true]):=w'T 3
 have ci1:=x'm reg regs
 have ci2:=x'm loc locs
 have ci3:=x'm to many
 have ce:Pure Tryz.prog 37 [z'S e,.gs none 0,iD regs,iD 0] (bD (y'G e [] regs 0)):=Fun.argsW (y'7 e he [] (by simp) regs 0) (x'o z'1)
 have cf:Pure Tryz.prog 37 [z'S f,.gs none 0,iD regs,iD 0] (bD (y'G f [] regs 0)):=Fun.argsW (y'7 f hf [] (by simp) regs 0) (x'o z'1)
 have qr:Pure Tryz.prog 252 [sD ⟨#[114,108]⟩,.is (.int .u8 114)] (bD true):=z'0 ⟨#[114,108]⟩ (by decide) 114
 have ql:Pure Tryz.prog 252 [sD ⟨#[114,108]⟩,.is (.int .u8 108)] (bD true):=z'0 ⟨#[114,108]⟩ (by decide) 108
 have qe:Pure Tryz.prog 252 [sD ⟨#[114,108]⟩,.is (.int .u8 101)] (bD false):=z'0 ⟨#[114,108]⟩ (by decide) 101
 have qf:Pure Tryz.prog 252 [sD ⟨#[114,108]⟩,.is (.int .u8 102)] (bD false):=z'0 ⟨#[114,108]⟩ (by decide) 102
 have qn:Pure Tryz.prog 252 [sD ⟨#[114,108]⟩,.is (.int .u8 110)] (bD false):=z'0 ⟨#[114,108]⟩ (by decide) 110
 have qt:Pure Tryz.prog 252 [sD ⟨#[114,108]⟩,.is (.int .u8 116)] (bD false):=z'0 ⟨#[114,108]⟩ (by decide) 116
 have hO:w'a ⟨3,reg,loc,e,f,ne,to⟩ regs locs many=(inB reg regs&&inB loc locs&&(to == 0)&&decide (e.length=0)&&decide (f.length=0)&&(false|| !ne)):=rfl
 rw[hO]
 refine Fun.of T [.tmp 8] Tryz.func204 rfl Tryz.ntmps204 Tryz.results204 rfl (by kernel_rfl) ?_
 repeat' first|refine vb rfl rfl rfl rfl ?_|refine mq2 @z'C (v'1 cp ci1 ci2 qr ql qe qf qn qt) ?_|refine gu rfl rfl ?_|refine z'p T (z'a _) ?_;(try simp only[upd,Nat.reduceBEq,cond_true,cond_false,and_true])|with_reducible refine z'n (fun hc=>?_) (fun hc=>?_)<;>(try simp only[decide_eq_true_eq,decide_eq_false_iff_not,bne_iff_ne,bne_eq_false_iff_eq,ne_eq,z'x,z'B,gt_iff_lt,z'w]at hc)|fail
 all_goals clear cp ci1 ci2 ci3 ce cf qr ql qe qf qn qt hO
 all_goals first|(simp_all[-List.length_eq_zero_iff];done)|(cases ne<;>simp_all[-List.length_eq_zero_iff];done)|(simp_all[-List.length_eq_zero_iff];omega)|(cases ne<;>simp_all[-List.length_eq_zero_iff]<;>omega)
theorem ZsX (reg loc:Int) (e f:List Opc) (ne:Bool) (to:Int) (he:e.length≤1000) (hf:f.length≤1000) (regs locs many:Int):Pure Tryz.prog 204 [.agg [iD 6,iD reg,iD loc,z'S e,z'S f,bD ne,iD to],iD regs,iD locs,iD many] (bD (w'a ⟨6,reg,loc,e,f,ne,to⟩ regs locs many)):=by
 have cp:Pure Tryz.prog 251 [iD 6] (.tup [sD ⟨#[114,108,101]⟩,bD true]):=w'T 6
 have ci1:=x'm reg regs
 have ci2:=x'm loc locs
 have ci3:=x'm to many
 have ce:Pure Tryz.prog 37 [z'S e,.gs none 0,iD regs,iD 0] (bD (y'G e [] regs 0)):=Fun.argsW (y'7 e he [] (by simp) regs 0) (x'o z'1)
 have cf:Pure Tryz.prog 37 [z'S f,.gs none 0,iD regs,iD 0] (bD (y'G f [] regs 0)):=Fun.argsW (y'7 f hf [] (by simp) regs 0) (x'o z'1)
 have qr:Pure Tryz.prog 252 [sD ⟨#[114,108,101]⟩,.is (.int .u8 114)] (bD true):=z'0 ⟨#[114,108,101]⟩ (by decide) 114
 have ql:Pure Tryz.prog 252 [sD ⟨#[114,108,101]⟩,.is (.int .u8 108)] (bD true):=z'0 ⟨#[114,108,101]⟩ (by decide) 108
 have qe:Pure Tryz.prog 252 [sD ⟨#[114,108,101]⟩,.is (.int .u8 101)] (bD true):=z'0 ⟨#[114,108,101]⟩ (by decide) 101
 have qf:Pure Tryz.prog 252 [sD ⟨#[114,108,101]⟩,.is (.int .u8 102)] (bD false):=z'0 ⟨#[114,108,101]⟩ (by decide) 102
 have qn:Pure Tryz.prog 252 [sD ⟨#[114,108,101]⟩,.is (.int .u8 110)] (bD false):=z'0 ⟨#[114,108,101]⟩ (by decide) 110
 have qt:Pure Tryz.prog 252 [sD ⟨#[114,108,101]⟩,.is (.int .u8 116)] (bD false):=z'0 ⟨#[114,108,101]⟩ (by decide) 116
 have hO:w'a ⟨6,reg,loc,e,f,ne,to⟩ regs locs many=(inB reg regs&&inB loc locs&&(to == 0)&&y'G e [] regs 0&&decide (f.length=0)&&(false|| !ne)):=rfl
 rw[hO]
 refine Fun.of T [.tmp 8] Tryz.func204 rfl Tryz.ntmps204 Tryz.results204 rfl (by kernel_rfl) ?_
 repeat' first|refine vb rfl rfl rfl rfl ?_|refine mq2 @z'C (Zaa cp ci1 ci2 ce qr ql qe qf qn qt) ?_|refine gu rfl rfl ?_|refine z'p T (z'a _) ?_;(try simp only[upd,Nat.reduceBEq,cond_true,cond_false,and_true])|with_reducible refine z'n (fun hc=>?_) (fun hc=>?_)<;>(try simp only[decide_eq_true_eq,decide_eq_false_iff_not,bne_iff_ne,bne_eq_false_iff_eq,ne_eq,z'x,z'B,gt_iff_lt,z'w]at hc)|fail
 all_goals clear cp ci1 ci2 ci3 ce cf qr ql qe qf qn qt hO
 all_goals first|(simp_all[-List.length_eq_zero_iff];done)|(cases ne<;>simp_all[-List.length_eq_zero_iff];done)|(simp_all[-List.length_eq_zero_iff];omega)|(cases ne<;>simp_all[-List.length_eq_zero_iff]<;>omega)
theorem ZsY (reg loc:Int) (e f:List Opc) (ne:Bool) (to:Int) (he:e.length≤1000) (hf:f.length≤1000) (regs locs many:Int):Pure Tryz.prog 204 [.agg [iD 7,iD reg,iD loc,z'S e,z'S f,bD ne,iD to],iD regs,iD locs,iD many] (bD (w'a ⟨7,reg,loc,e,f,ne,to⟩ regs locs many)):=by
 have cp:Pure Tryz.prog 251 [iD 7] (.tup [sD ⟨#[114,108,101]⟩,bD true]):=w'T 7
 have ci1:=x'm reg regs
 have ci2:=x'm loc locs
 have ci3:=x'm to many
 have ce:Pure Tryz.prog 37 [z'S e,.gs none 0,iD regs,iD 0] (bD (y'G e [] regs 0)):=Fun.argsW (y'7 e he [] (by simp) regs 0) (x'o z'1)
 have cf:Pure Tryz.prog 37 [z'S f,.gs none 0,iD regs,iD 0] (bD (y'G f [] regs 0)):=Fun.argsW (y'7 f hf [] (by simp) regs 0) (x'o z'1)
 have qr:Pure Tryz.prog 252 [sD ⟨#[114,108,101]⟩,.is (.int .u8 114)] (bD true):=z'0 ⟨#[114,108,101]⟩ (by decide) 114
 have ql:Pure Tryz.prog 252 [sD ⟨#[114,108,101]⟩,.is (.int .u8 108)] (bD true):=z'0 ⟨#[114,108,101]⟩ (by decide) 108
 have qe:Pure Tryz.prog 252 [sD ⟨#[114,108,101]⟩,.is (.int .u8 101)] (bD true):=z'0 ⟨#[114,108,101]⟩ (by decide) 101
 have qf:Pure Tryz.prog 252 [sD ⟨#[114,108,101]⟩,.is (.int .u8 102)] (bD false):=z'0 ⟨#[114,108,101]⟩ (by decide) 102
 have qn:Pure Tryz.prog 252 [sD ⟨#[114,108,101]⟩,.is (.int .u8 110)] (bD false):=z'0 ⟨#[114,108,101]⟩ (by decide) 110
 have qt:Pure Tryz.prog 252 [sD ⟨#[114,108,101]⟩,.is (.int .u8 116)] (bD false):=z'0 ⟨#[114,108,101]⟩ (by decide) 116
 have hO:w'a ⟨7,reg,loc,e,f,ne,to⟩ regs locs many=(inB reg regs&&inB loc locs&&(to == 0)&&y'G e [] regs 0&&decide (f.length=0)&&(false|| !ne)):=rfl
 rw[hO]
 refine Fun.of T [.tmp 8] Tryz.func204 rfl Tryz.ntmps204 Tryz.results204 rfl (by kernel_rfl) ?_
 repeat' first|refine vb rfl rfl rfl rfl ?_|refine mq2 @z'C (Zaa cp ci1 ci2 ce qr ql qe qf qn qt) ?_|refine gu rfl rfl ?_|refine z'p T (z'a _) ?_;(try simp only[upd,Nat.reduceBEq,cond_true,cond_false,and_true])|with_reducible refine z'n (fun hc=>?_) (fun hc=>?_)<;>(try simp only[decide_eq_true_eq,decide_eq_false_iff_not,bne_iff_ne,bne_eq_false_iff_eq,ne_eq,z'x,z'B,gt_iff_lt,z'w]at hc)|fail
 all_goals clear cp ci1 ci2 ci3 ce cf qr ql qe qf qn qt hO
 all_goals first|(simp_all[-List.length_eq_zero_iff];done)|(cases ne<;>simp_all[-List.length_eq_zero_iff];done)|(simp_all[-List.length_eq_zero_iff];omega)|(cases ne<;>simp_all[-List.length_eq_zero_iff]<;>omega)
theorem ZsZ (reg loc:Int) (e f:List Opc) (ne:Bool) (to:Int) (he:e.length≤1000) (hf:f.length≤1000) (regs locs many:Int):Pure Tryz.prog 204 [.agg [iD 8,iD reg,iD loc,z'S e,z'S f,bD ne,iD to],iD regs,iD locs,iD many] (bD (w'a ⟨8,reg,loc,e,f,ne,to⟩ regs locs many)):=by
 have cp:Pure Tryz.prog 251 [iD 8] (.tup [sD ⟨#[]⟩,bD true]):=w'T 8
 have ci1:=x'm reg regs
 have ci2:=x'm loc locs
 have ci3:=x'm to many
 have ce:Pure Tryz.prog 37 [z'S e,.gs none 0,iD regs,iD 0] (bD (y'G e [] regs 0)):=Fun.argsW (y'7 e he [] (by simp) regs 0) (x'o z'1)
 have cf:Pure Tryz.prog 37 [z'S f,.gs none 0,iD regs,iD 0] (bD (y'G f [] regs 0)):=Fun.argsW (y'7 f hf [] (by simp) regs 0) (x'o z'1)
 have qr:Pure Tryz.prog 252 [sD ⟨#[]⟩,.is (.int .u8 114)] (bD false):=z'0 ⟨#[]⟩ (by decide) 114
 have ql:Pure Tryz.prog 252 [sD ⟨#[]⟩,.is (.int .u8 108)] (bD false):=z'0 ⟨#[]⟩ (by decide) 108
 have qe:Pure Tryz.prog 252 [sD ⟨#[]⟩,.is (.int .u8 101)] (bD false):=z'0 ⟨#[]⟩ (by decide) 101
 have qf:Pure Tryz.prog 252 [sD ⟨#[]⟩,.is (.int .u8 102)] (bD false):=z'0 ⟨#[]⟩ (by decide) 102
 have qn:Pure Tryz.prog 252 [sD ⟨#[]⟩,.is (.int .u8 110)] (bD false):=z'0 ⟨#[]⟩ (by decide) 110
 have qt:Pure Tryz.prog 252 [sD ⟨#[]⟩,.is (.int .u8 116)] (bD false):=z'0 ⟨#[]⟩ (by decide) 116
 have hO:w'a ⟨8,reg,loc,e,f,ne,to⟩ regs locs many=((reg == 0)&&(loc == 0)&&(to == 0)&&decide (e.length=0)&&decide (f.length=0)&&(false|| !ne)):=rfl
 rw[hO]
 refine Fun.of T [.tmp 8] Tryz.func204 rfl Tryz.ntmps204 Tryz.results204 rfl (by kernel_rfl) ?_
 repeat' first|refine vb rfl rfl rfl rfl ?_|refine mq2 @z'C (v'p cp qr ql qe qf qn qt) ?_|refine gu rfl rfl ?_|refine z'p T (z'a _) ?_;(try simp only[upd,Nat.reduceBEq,cond_true,cond_false,and_true])|with_reducible refine z'n (fun hc=>?_) (fun hc=>?_)<;>(try simp only[decide_eq_true_eq,decide_eq_false_iff_not,bne_iff_ne,bne_eq_false_iff_eq,ne_eq,gt_iff_lt,z'w]at hc)|fail
 all_goals clear cp ci1 ci2 ci3 ce cf qr ql qe qf qn qt hO
 all_goals first|(simp_all[-List.length_eq_zero_iff];done)|(cases ne<;>simp_all[-List.length_eq_zero_iff];done)|(simp_all[-List.length_eq_zero_iff];omega)|(cases ne<;>simp_all[-List.length_eq_zero_iff]<;>omega)
theorem Zs0 (reg loc:Int) (e f:List Opc) (ne:Bool) (to:Int) (he:e.length≤1000) (hf:f.length≤1000) (regs locs many:Int):Pure Tryz.prog 204 [.agg [iD 9,iD reg,iD loc,z'S e,z'S f,bD ne,iD to],iD regs,iD locs,iD many] (bD (w'a ⟨9,reg,loc,e,f,ne,to⟩ regs locs many)):=by
 have cp:Pure Tryz.prog 251 [iD 9] (.tup [sD ⟨#[108,101,110]⟩,bD true]):=w'T 9
 have ci1:=x'm reg regs
 have ci2:=x'm loc locs
 have ci3:=x'm to many
 have ce:Pure Tryz.prog 37 [z'S e,.gs none 0,iD regs,iD 0] (bD (y'G e [] regs 0)):=Fun.argsW (y'7 e he [] (by simp) regs 0) (x'o z'1)
 have cf:Pure Tryz.prog 37 [z'S f,.gs none 0,iD regs,iD 0] (bD (y'G f [] regs 0)):=Fun.argsW (y'7 f hf [] (by simp) regs 0) (x'o z'1)
 have qr:Pure Tryz.prog 252 [sD ⟨#[108,101,110]⟩,.is (.int .u8 114)] (bD false):=z'0 ⟨#[108,101,110]⟩ (by decide) 114
 have ql:Pure Tryz.prog 252 [sD ⟨#[108,101,110]⟩,.is (.int .u8 108)] (bD true):=z'0 ⟨#[108,101,110]⟩ (by decide) 108
 have qe:Pure Tryz.prog 252 [sD ⟨#[108,101,110]⟩,.is (.int .u8 101)] (bD true):=z'0 ⟨#[108,101,110]⟩ (by decide) 101
 have qf:Pure Tryz.prog 252 [sD ⟨#[108,101,110]⟩,.is (.int .u8 102)] (bD false):=z'0 ⟨#[108,101,110]⟩ (by decide) 102
 have qn:Pure Tryz.prog 252 [sD ⟨#[108,101,110]⟩,.is (.int .u8 110)] (bD true):=z'0 ⟨#[108,101,110]⟩ (by decide) 110
 have qt:Pure Tryz.prog 252 [sD ⟨#[108,101,110]⟩,.is (.int .u8 116)] (bD false):=z'0 ⟨#[108,101,110]⟩ (by decide) 116
 have hO:w'a ⟨9,reg,loc,e,f,ne,to⟩ regs locs many=((reg == 0)&&inB loc locs&&(to == 0)&&y'G e [] regs 0&&decide (f.length=0)&&(true|| !ne)):=rfl
 rw[hO]
 refine Fun.of T [.tmp 8] Tryz.func204 rfl Tryz.ntmps204 Tryz.results204 rfl (by kernel_rfl) ?_
 repeat' first|refine vb rfl rfl rfl rfl ?_|refine mq2 @z'C (v'1 cp ci2 ce qr ql qe qf qn qt) ?_|refine gu rfl rfl ?_|refine z'p T (z'a _) ?_;(try simp only[upd,Nat.reduceBEq,cond_true,cond_false,and_true])|with_reducible refine z'n (fun hc=>?_) (fun hc=>?_)<;>(try simp only[decide_eq_true_eq,decide_eq_false_iff_not,bne_iff_ne,bne_eq_false_iff_eq,ne_eq,z'x,z'B,gt_iff_lt,z'w]at hc)|fail
 all_goals clear cp ci1 ci2 ci3 ce cf qr ql qe qf qn qt hO
 all_goals first|(simp_all[-List.length_eq_zero_iff];done)|(cases ne<;>simp_all[-List.length_eq_zero_iff];done)|(simp_all[-List.length_eq_zero_iff];omega)|(cases ne<;>simp_all[-List.length_eq_zero_iff]<;>omega)
end Go.Proofs.YthlkpnjjkgmlkaaGreat
