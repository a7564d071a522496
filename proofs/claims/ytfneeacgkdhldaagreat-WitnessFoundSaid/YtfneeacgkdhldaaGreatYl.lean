/- What an instruction has. No condition. -/
import Derived.Test.YtfneeacgkdhldaaGreatXg
import Derived.Test.YtfneeacgkdhldaaGreatXk
namespace Go.Proofs.YtfneeacgkdhldaaGreat
set_option maxHeartbeats 16000000
set_option linter.unusedSimpArgs false
set_option linter.unusedVariables false
set_option maxRecDepth 20000
open Go Go.Proofs Go.Vc
structure Nd where
 r:Bool
 l:Bool
 e:Bool
 f:Bool
 n:Bool
 t:Bool
def ndF (op:Int):Option Nd:=
 if op=2 then some ⟨true,false,true,false,false,false⟩else
 if op=3 then some ⟨true,true,false,false,false,false⟩else
 if op=4 then some ⟨false,true,true,false,false,false⟩else
 if op=5 then some ⟨true,true,true,true,false,false⟩else
 if op=6 then some ⟨true,true,true,false,false,false⟩else
 if op=7 then some ⟨true,true,true,false,false,false⟩else
 if op=8 then some ⟨false,false,false,false,false,false⟩else
 if op=9 then some ⟨false,true,true,false,true,false⟩else
 if op=20 then some ⟨false,false,false,false,false,true⟩else
 if op=21 then some ⟨false,false,true,false,false,true⟩else
 none
def x'C (has:Bool) (n m:Int):Bool:=match has with|true=>inB n m|false=>n == 0
def ZbI (has:Bool) (l:List Opc) (regs:Int):Bool:=match has with|true=>y'1 l [] regs 0|false=>decide (l.length=0)
def x'V (x:Ins) (regs locs many:Int):Bool:=match ndF x.op with
 |none=>false
 |some d=>x'C d.r x.reg regs&&x'C d.l x.loc locs&&x'C d.t x.to many&&ZbI d.e x.e regs&&ZbI d.f x.f regs&&(d.n|| !x.ne)
attribute [local irreducible] y'5 VCg VCw VCx
theorem Zn5 (reg loc:Int) (e f:List Opc) (ne:Bool) (to:Int) (he:e.length≤1000) (hf:f.length≤1000) (regs locs many:Int):Pure Tryz.prog 46 [.agg [iD 2,iD reg,iD loc,z'S e,z'S f,bD ne,iD to],iD regs,iD locs,iD many] (bD (x'V ⟨2,reg,loc,e,f,ne,to⟩ regs locs many)):=by
 have cp:Pure Tryz.prog 76 [iD 2] (.tup [sD ⟨#[114,101]⟩,bD true]):=w'K 2
 have ci1:=x's reg regs
 have ci2:=x's loc locs
 have ci3:=x's to many
 have ce:Pure Tryz.prog 79 [z'S e,.gs none 0,iD regs,iD 0] (bD (y'1 e [] regs 0)):=Fun.argsW (x'o e he [] (by simp) regs 0) (x't y'q)
 have cf:Pure Tryz.prog 79 [z'S f,.gs none 0,iD regs,iD 0] (bD (y'1 f [] regs 0)):=Fun.argsW (x'o f hf [] (by simp) regs 0) (x't y'q)
 have qr:Pure Tryz.prog 77 [sD ⟨#[114,101]⟩,.is (.int .u8 114)] (bD true):=z'Y ⟨#[114,101]⟩ (by decide) 114
 have ql:Pure Tryz.prog 77 [sD ⟨#[114,101]⟩,.is (.int .u8 108)] (bD false):=z'Y ⟨#[114,101]⟩ (by decide) 108
 have qe:Pure Tryz.prog 77 [sD ⟨#[114,101]⟩,.is (.int .u8 101)] (bD true):=z'Y ⟨#[114,101]⟩ (by decide) 101
 have qf:Pure Tryz.prog 77 [sD ⟨#[114,101]⟩,.is (.int .u8 102)] (bD false):=z'Y ⟨#[114,101]⟩ (by decide) 102
 have qn:Pure Tryz.prog 77 [sD ⟨#[114,101]⟩,.is (.int .u8 110)] (bD false):=z'Y ⟨#[114,101]⟩ (by decide) 110
 have qt:Pure Tryz.prog 77 [sD ⟨#[114,101]⟩,.is (.int .u8 116)] (bD false):=z'Y ⟨#[114,101]⟩ (by decide) 116
 have hO:x'V ⟨2,reg,loc,e,f,ne,to⟩ regs locs many=(inB reg regs&&(loc == 0)&&(to == 0)&&y'1 e [] regs 0&&decide (f.length=0)&&(false|| !ne)):=rfl
 rw[hO]
 refine Fun.of T [.tmp 8] Tryz.func46 rfl Tryz.ntmps46 Tryz.results46 rfl (by kernel_rfl) ?_
 repeat' first|refine vb rfl rfl rfl rfl ?_|refine vs T rfl fun K hK=>?_;(try simp (disch:=omega) only[go_sem,Nat.reduceBEq,Nat.reduceAdd,z'K,z'l,z'r]);(first|refine hK _ _ ?_;clear hK K|refine Op1.callp rfl rfl (cp) rfl ?_;refine hK _ _ ?_;clear hK K|refine Op1.callp rfl rfl (ci1) rfl ?_;refine hK _ _ ?_;clear hK K|refine Op1.callp rfl rfl (ce) rfl ?_;refine hK _ _ ?_;clear hK K|refine Op1.callp rfl rfl (qr) rfl ?_;refine hK _ _ ?_;clear hK K|refine Op1.callp rfl rfl (ql) rfl ?_;refine hK _ _ ?_;clear hK K|refine Op1.callp rfl rfl (qe) rfl ?_;refine hK _ _ ?_;clear hK K|refine Op1.callp rfl rfl (qf) rfl ?_;refine hK _ _ ?_;clear hK K|refine Op1.callp rfl rfl (qn) rfl ?_;refine hK _ _ ?_;clear hK K|refine Op1.callp rfl rfl (qt) rfl ?_;refine hK _ _ ?_;clear hK K)|refine st rfl ?_|refine sc rfl ?_|refine nl ?_|refine gs rfl rfl ?_|refine gu rfl rfl ?_|refine z'n T (z'a _) ?_;(try simp only[upd,Nat.reduceBEq,cond_true,cond_false,and_true])|with_reducible refine z'j (fun hc=>?_) (fun hc=>?_)<;>(try simp only[decide_eq_true_eq,decide_eq_false_iff_not,bne_iff_ne,bne_eq_false_iff_eq,ne_eq,z'N,z'R,gt_iff_lt,z'm]at hc)
 all_goals clear cp ci1 ci2 ci3 ce cf qr ql qe qf qn qt hO
 all_goals first|(simp_all[-List.length_eq_zero_iff];done)|(cases ne<;>simp_all[-List.length_eq_zero_iff];done)|(simp_all[-List.length_eq_zero_iff];omega)|(cases ne<;>simp_all[-List.length_eq_zero_iff]<;>omega)
theorem Zn6 (reg loc:Int) (e f:List Opc) (ne:Bool) (to:Int) (he:e.length≤1000) (hf:f.length≤1000) (regs locs many:Int):Pure Tryz.prog 46 [.agg [iD 3,iD reg,iD loc,z'S e,z'S f,bD ne,iD to],iD regs,iD locs,iD many] (bD (x'V ⟨3,reg,loc,e,f,ne,to⟩ regs locs many)):=by
 have cp:Pure Tryz.prog 76 [iD 3] (.tup [sD ⟨#[114,108]⟩,bD true]):=w'K 3
 have ci1:=x's reg regs
 have ci2:=x's loc locs
 have ci3:=x's to many
 have ce:Pure Tryz.prog 79 [z'S e,.gs none 0,iD regs,iD 0] (bD (y'1 e [] regs 0)):=Fun.argsW (x'o e he [] (by simp) regs 0) (x't y'q)
 have cf:Pure Tryz.prog 79 [z'S f,.gs none 0,iD regs,iD 0] (bD (y'1 f [] regs 0)):=Fun.argsW (x'o f hf [] (by simp) regs 0) (x't y'q)
 have qr:Pure Tryz.prog 77 [sD ⟨#[114,108]⟩,.is (.int .u8 114)] (bD true):=z'Y ⟨#[114,108]⟩ (by decide) 114
 have ql:Pure Tryz.prog 77 [sD ⟨#[114,108]⟩,.is (.int .u8 108)] (bD true):=z'Y ⟨#[114,108]⟩ (by decide) 108
 have qe:Pure Tryz.prog 77 [sD ⟨#[114,108]⟩,.is (.int .u8 101)] (bD false):=z'Y ⟨#[114,108]⟩ (by decide) 101
 have qf:Pure Tryz.prog 77 [sD ⟨#[114,108]⟩,.is (.int .u8 102)] (bD false):=z'Y ⟨#[114,108]⟩ (by decide) 102
 have qn:Pure Tryz.prog 77 [sD ⟨#[114,108]⟩,.is (.int .u8 110)] (bD false):=z'Y ⟨#[114,108]⟩ (by decide) 110
 have qt:Pure Tryz.prog 77 [sD ⟨#[114,108]⟩,.is (.int .u8 116)] (bD false):=z'Y ⟨#[114,108]⟩ (by decide) 116
 have hO:x'V ⟨3,reg,loc,e,f,ne,to⟩ regs locs many=(inB reg regs&&inB loc locs&&(to == 0)&&decide (e.length=0)&&decide (f.length=0)&&(false|| !ne)):=rfl
 rw[hO]
 refine Fun.of T [.tmp 8] Tryz.func46 rfl Tryz.ntmps46 Tryz.results46 rfl (by kernel_rfl) ?_
 repeat' first|refine vb rfl rfl rfl rfl ?_|refine vs T rfl fun K hK=>?_;(try simp (disch:=omega) only[go_sem,Nat.reduceBEq,Nat.reduceAdd,z'K,z'l,z'r]);(first|refine hK _ _ ?_;clear hK K|refine Op1.callp rfl rfl (cp) rfl ?_;refine hK _ _ ?_;clear hK K|refine Op1.callp rfl rfl (ci1) rfl ?_;refine hK _ _ ?_;clear hK K|refine Op1.callp rfl rfl (ci2) rfl ?_;refine hK _ _ ?_;clear hK K|refine Op1.callp rfl rfl (qr) rfl ?_;refine hK _ _ ?_;clear hK K|refine Op1.callp rfl rfl (ql) rfl ?_;refine hK _ _ ?_;clear hK K|refine Op1.callp rfl rfl (qe) rfl ?_;refine hK _ _ ?_;clear hK K|refine Op1.callp rfl rfl (qf) rfl ?_;refine hK _ _ ?_;clear hK K|refine Op1.callp rfl rfl (qn) rfl ?_;refine hK _ _ ?_;clear hK K|refine Op1.callp rfl rfl (qt) rfl ?_;refine hK _ _ ?_;clear hK K)|refine st rfl ?_|refine sc rfl ?_|refine nl ?_|refine gs rfl rfl ?_|refine gu rfl rfl ?_|refine z'n T (z'a _) ?_;(try simp only[upd,Nat.reduceBEq,cond_true,cond_false,and_true])|with_reducible refine z'j (fun hc=>?_) (fun hc=>?_)<;>(try simp only[decide_eq_true_eq,decide_eq_false_iff_not,bne_iff_ne,bne_eq_false_iff_eq,ne_eq,z'N,z'R,gt_iff_lt,z'm]at hc)
 all_goals clear cp ci1 ci2 ci3 ce cf qr ql qe qf qn qt hO
 all_goals first|(simp_all[-List.length_eq_zero_iff];done)|(cases ne<;>simp_all[-List.length_eq_zero_iff];done)|(simp_all[-List.length_eq_zero_iff];omega)|(cases ne<;>simp_all[-List.length_eq_zero_iff]<;>omega)
theorem Zn7 (reg loc:Int) (e f:List Opc) (ne:Bool) (to:Int) (he:e.length≤1000) (hf:f.length≤1000) (regs locs many:Int):Pure Tryz.prog 46 [.agg [iD 4,iD reg,iD loc,z'S e,z'S f,bD ne,iD to],iD regs,iD locs,iD many] (bD (x'V ⟨4,reg,loc,e,f,ne,to⟩ regs locs many)):=by
 have cp:Pure Tryz.prog 76 [iD 4] (.tup [sD ⟨#[108,101]⟩,bD true]):=w'K 4
 have ci1:=x's reg regs
 have ci2:=x's loc locs
 have ci3:=x's to many
 have ce:Pure Tryz.prog 79 [z'S e,.gs none 0,iD regs,iD 0] (bD (y'1 e [] regs 0)):=Fun.argsW (x'o e he [] (by simp) regs 0) (x't y'q)
 have cf:Pure Tryz.prog 79 [z'S f,.gs none 0,iD regs,iD 0] (bD (y'1 f [] regs 0)):=Fun.argsW (x'o f hf [] (by simp) regs 0) (x't y'q)
 have qr:Pure Tryz.prog 77 [sD ⟨#[108,101]⟩,.is (.int .u8 114)] (bD false):=z'Y ⟨#[108,101]⟩ (by decide) 114
 have ql:Pure Tryz.prog 77 [sD ⟨#[108,101]⟩,.is (.int .u8 108)] (bD true):=z'Y ⟨#[108,101]⟩ (by decide) 108
 have qe:Pure Tryz.prog 77 [sD ⟨#[108,101]⟩,.is (.int .u8 101)] (bD true):=z'Y ⟨#[108,101]⟩ (by decide) 101
 have qf:Pure Tryz.prog 77 [sD ⟨#[108,101]⟩,.is (.int .u8 102)] (bD false):=z'Y ⟨#[108,101]⟩ (by decide) 102
 have qn:Pure Tryz.prog 77 [sD ⟨#[108,101]⟩,.is (.int .u8 110)] (bD false):=z'Y ⟨#[108,101]⟩ (by decide) 110
 have qt:Pure Tryz.prog 77 [sD ⟨#[108,101]⟩,.is (.int .u8 116)] (bD false):=z'Y ⟨#[108,101]⟩ (by decide) 116
 have hO:x'V ⟨4,reg,loc,e,f,ne,to⟩ regs locs many=((reg == 0)&&inB loc locs&&(to == 0)&&y'1 e [] regs 0&&decide (f.length=0)&&(false|| !ne)):=rfl
 rw[hO]
 refine Fun.of T [.tmp 8] Tryz.func46 rfl Tryz.ntmps46 Tryz.results46 rfl (by kernel_rfl) ?_
 repeat' first|refine vb rfl rfl rfl rfl ?_|refine vs T rfl fun K hK=>?_;(try simp (disch:=omega) only[go_sem,Nat.reduceBEq,Nat.reduceAdd,z'K,z'l,z'r]);(first|refine hK _ _ ?_;clear hK K|refine Op1.callp rfl rfl (cp) rfl ?_;refine hK _ _ ?_;clear hK K|refine Op1.callp rfl rfl (ci2) rfl ?_;refine hK _ _ ?_;clear hK K|refine Op1.callp rfl rfl (ce) rfl ?_;refine hK _ _ ?_;clear hK K|refine Op1.callp rfl rfl (qr) rfl ?_;refine hK _ _ ?_;clear hK K|refine Op1.callp rfl rfl (ql) rfl ?_;refine hK _ _ ?_;clear hK K|refine Op1.callp rfl rfl (qe) rfl ?_;refine hK _ _ ?_;clear hK K|refine Op1.callp rfl rfl (qf) rfl ?_;refine hK _ _ ?_;clear hK K|refine Op1.callp rfl rfl (qn) rfl ?_;refine hK _ _ ?_;clear hK K|refine Op1.callp rfl rfl (qt) rfl ?_;refine hK _ _ ?_;clear hK K)|refine st rfl ?_|refine sc rfl ?_|refine nl ?_|refine gs rfl rfl ?_|refine gu rfl rfl ?_|refine z'n T (z'a _) ?_;(try simp only[upd,Nat.reduceBEq,cond_true,cond_false,and_true])|with_reducible refine z'j (fun hc=>?_) (fun hc=>?_)<;>(try simp only[decide_eq_true_eq,decide_eq_false_iff_not,bne_iff_ne,bne_eq_false_iff_eq,ne_eq,z'N,z'R,gt_iff_lt,z'm]at hc)
 all_goals clear cp ci1 ci2 ci3 ce cf qr ql qe qf qn qt hO
 all_goals first|(simp_all[-List.length_eq_zero_iff];done)|(cases ne<;>simp_all[-List.length_eq_zero_iff];done)|(simp_all[-List.length_eq_zero_iff];omega)|(cases ne<;>simp_all[-List.length_eq_zero_iff]<;>omega)
theorem Zn8 (reg loc:Int) (e f:List Opc) (ne:Bool) (to:Int) (he:e.length≤1000) (hf:f.length≤1000) (regs locs many:Int):Pure Tryz.prog 46 [.agg [iD 5,iD reg,iD loc,z'S e,z'S f,bD ne,iD to],iD regs,iD locs,iD many] (bD (x'V ⟨5,reg,loc,e,f,ne,to⟩ regs locs many)):=by
 have cp:Pure Tryz.prog 76 [iD 5] (.tup [sD ⟨#[114,108,101,102]⟩,bD true]):=w'K 5
 have ci1:=x's reg regs
 have ci2:=x's loc locs
 have ci3:=x's to many
 have ce:Pure Tryz.prog 79 [z'S e,.gs none 0,iD regs,iD 0] (bD (y'1 e [] regs 0)):=Fun.argsW (x'o e he [] (by simp) regs 0) (x't y'q)
 have cf:Pure Tryz.prog 79 [z'S f,.gs none 0,iD regs,iD 0] (bD (y'1 f [] regs 0)):=Fun.argsW (x'o f hf [] (by simp) regs 0) (x't y'q)
 have qr:Pure Tryz.prog 77 [sD ⟨#[114,108,101,102]⟩,.is (.int .u8 114)] (bD true):=z'Y ⟨#[114,108,101,102]⟩ (by decide) 114
 have ql:Pure Tryz.prog 77 [sD ⟨#[114,108,101,102]⟩,.is (.int .u8 108)] (bD true):=z'Y ⟨#[114,108,101,102]⟩ (by decide) 108
 have qe:Pure Tryz.prog 77 [sD ⟨#[114,108,101,102]⟩,.is (.int .u8 101)] (bD true):=z'Y ⟨#[114,108,101,102]⟩ (by decide) 101
 have qf:Pure Tryz.prog 77 [sD ⟨#[114,108,101,102]⟩,.is (.int .u8 102)] (bD true):=z'Y ⟨#[114,108,101,102]⟩ (by decide) 102
 have qn:Pure Tryz.prog 77 [sD ⟨#[114,108,101,102]⟩,.is (.int .u8 110)] (bD false):=z'Y ⟨#[114,108,101,102]⟩ (by decide) 110
 have qt:Pure Tryz.prog 77 [sD ⟨#[114,108,101,102]⟩,.is (.int .u8 116)] (bD false):=z'Y ⟨#[114,108,101,102]⟩ (by decide) 116
 have hO:x'V ⟨5,reg,loc,e,f,ne,to⟩ regs locs many=(inB reg regs&&inB loc locs&&(to == 0)&&y'1 e [] regs 0&&y'1 f [] regs 0&&(false|| !ne)):=rfl
 rw[hO]
 refine Fun.of T [.tmp 8] Tryz.func46 rfl Tryz.ntmps46 Tryz.results46 rfl (by kernel_rfl) ?_
 repeat' first|refine vb rfl rfl rfl rfl ?_|refine vs T rfl fun K hK=>?_;(try simp (disch:=omega) only[go_sem,Nat.reduceBEq,Nat.reduceAdd,z'l,z'r]);(first|refine hK _ _ ?_;clear hK K|refine Op1.callp rfl rfl (cp) rfl ?_;refine hK _ _ ?_;clear hK K|refine Op1.callp rfl rfl (ci1) rfl ?_;refine hK _ _ ?_;clear hK K|refine Op1.callp rfl rfl (ci2) rfl ?_;refine hK _ _ ?_;clear hK K|refine Op1.callp rfl rfl (ce) rfl ?_;refine hK _ _ ?_;clear hK K|refine Op1.callp rfl rfl (cf) rfl ?_;refine hK _ _ ?_;clear hK K|refine Op1.callp rfl rfl (qr) rfl ?_;refine hK _ _ ?_;clear hK K|refine Op1.callp rfl rfl (ql) rfl ?_;refine hK _ _ ?_;clear hK K|refine Op1.callp rfl rfl (qe) rfl ?_;refine hK _ _ ?_;clear hK K|refine Op1.callp rfl rfl (qf) rfl ?_;refine hK _ _ ?_;clear hK K|refine Op1.callp rfl rfl (qn) rfl ?_;refine hK _ _ ?_;clear hK K|refine Op1.callp rfl rfl (qt) rfl ?_;refine hK _ _ ?_;clear hK K)|refine st rfl ?_|refine sc rfl ?_|refine nl ?_|refine gs rfl rfl ?_|refine gu rfl rfl ?_|refine z'n T (z'a _) ?_;(try simp only[upd,Nat.reduceBEq,cond_true,cond_false,and_true])|with_reducible refine z'j (fun hc=>?_) (fun hc=>?_)<;>(try simp only[bne_iff_ne,bne_eq_false_iff_eq,ne_eq,z'N,z'R]at hc)
 all_goals clear cp ci1 ci2 ci3 ce cf qr ql qe qf qn qt hO
 all_goals first|(simp_all[-List.length_eq_zero_iff];done)|(cases ne<;>simp_all[-List.length_eq_zero_iff];done)|(simp_all[-List.length_eq_zero_iff];omega)|(cases ne<;>simp_all[-List.length_eq_zero_iff]<;>omega)
theorem Zn9 (reg loc:Int) (e f:List Opc) (ne:Bool) (to:Int) (he:e.length≤1000) (hf:f.length≤1000) (regs locs many:Int):Pure Tryz.prog 46 [.agg [iD 6,iD reg,iD loc,z'S e,z'S f,bD ne,iD to],iD regs,iD locs,iD many] (bD (x'V ⟨6,reg,loc,e,f,ne,to⟩ regs locs many)):=by
 have cp:Pure Tryz.prog 76 [iD 6] (.tup [sD ⟨#[114,108,101]⟩,bD true]):=w'K 6
 have ci1:=x's reg regs
 have ci2:=x's loc locs
 have ci3:=x's to many
 have ce:Pure Tryz.prog 79 [z'S e,.gs none 0,iD regs,iD 0] (bD (y'1 e [] regs 0)):=Fun.argsW (x'o e he [] (by simp) regs 0) (x't y'q)
 have cf:Pure Tryz.prog 79 [z'S f,.gs none 0,iD regs,iD 0] (bD (y'1 f [] regs 0)):=Fun.argsW (x'o f hf [] (by simp) regs 0) (x't y'q)
 have qr:Pure Tryz.prog 77 [sD ⟨#[114,108,101]⟩,.is (.int .u8 114)] (bD true):=z'Y ⟨#[114,108,101]⟩ (by decide) 114
 have ql:Pure Tryz.prog 77 [sD ⟨#[114,108,101]⟩,.is (.int .u8 108)] (bD true):=z'Y ⟨#[114,108,101]⟩ (by decide) 108
 have qe:Pure Tryz.prog 77 [sD ⟨#[114,108,101]⟩,.is (.int .u8 101)] (bD true):=z'Y ⟨#[114,108,101]⟩ (by decide) 101
 have qf:Pure Tryz.prog 77 [sD ⟨#[114,108,101]⟩,.is (.int .u8 102)] (bD false):=z'Y ⟨#[114,108,101]⟩ (by decide) 102
 have qn:Pure Tryz.prog 77 [sD ⟨#[114,108,101]⟩,.is (.int .u8 110)] (bD false):=z'Y ⟨#[114,108,101]⟩ (by decide) 110
 have qt:Pure Tryz.prog 77 [sD ⟨#[114,108,101]⟩,.is (.int .u8 116)] (bD false):=z'Y ⟨#[114,108,101]⟩ (by decide) 116
 have hO:x'V ⟨6,reg,loc,e,f,ne,to⟩ regs locs many=(inB reg regs&&inB loc locs&&(to == 0)&&y'1 e [] regs 0&&decide (f.length=0)&&(false|| !ne)):=rfl
 rw[hO]
 refine Fun.of T [.tmp 8] Tryz.func46 rfl Tryz.ntmps46 Tryz.results46 rfl (by kernel_rfl) ?_
 repeat' first|refine vb rfl rfl rfl rfl ?_|refine vs T rfl fun K hK=>?_;(try simp (disch:=omega) only[go_sem,Nat.reduceBEq,Nat.reduceAdd,z'K,z'l,z'r]);(first|refine hK _ _ ?_;clear hK K|refine Op1.callp rfl rfl (cp) rfl ?_;refine hK _ _ ?_;clear hK K|refine Op1.callp rfl rfl (ci1) rfl ?_;refine hK _ _ ?_;clear hK K|refine Op1.callp rfl rfl (ci2) rfl ?_;refine hK _ _ ?_;clear hK K|refine Op1.callp rfl rfl (ce) rfl ?_;refine hK _ _ ?_;clear hK K|refine Op1.callp rfl rfl (qr) rfl ?_;refine hK _ _ ?_;clear hK K|refine Op1.callp rfl rfl (ql) rfl ?_;refine hK _ _ ?_;clear hK K|refine Op1.callp rfl rfl (qe) rfl ?_;refine hK _ _ ?_;clear hK K|refine Op1.callp rfl rfl (qf) rfl ?_;refine hK _ _ ?_;clear hK K|refine Op1.callp rfl rfl (qn) rfl ?_;refine hK _ _ ?_;clear hK K|refine Op1.callp rfl rfl (qt) rfl ?_;refine hK _ _ ?_;clear hK K)|refine st rfl ?_|refine sc rfl ?_|refine nl ?_|refine gs rfl rfl ?_|refine gu rfl rfl ?_|refine z'n T (z'a _) ?_;(try simp only[upd,Nat.reduceBEq,cond_true,cond_false,and_true])|with_reducible refine z'j (fun hc=>?_) (fun hc=>?_)<;>(try simp only[decide_eq_true_eq,decide_eq_false_iff_not,bne_iff_ne,bne_eq_false_iff_eq,ne_eq,z'N,z'R,gt_iff_lt,z'm]at hc)
 all_goals clear cp ci1 ci2 ci3 ce cf qr ql qe qf qn qt hO
 all_goals first|(simp_all[-List.length_eq_zero_iff];done)|(cases ne<;>simp_all[-List.length_eq_zero_iff];done)|(simp_all[-List.length_eq_zero_iff];omega)|(cases ne<;>simp_all[-List.length_eq_zero_iff]<;>omega)
theorem Zoa (reg loc:Int) (e f:List Opc) (ne:Bool) (to:Int) (he:e.length≤1000) (hf:f.length≤1000) (regs locs many:Int):Pure Tryz.prog 46 [.agg [iD 7,iD reg,iD loc,z'S e,z'S f,bD ne,iD to],iD regs,iD locs,iD many] (bD (x'V ⟨7,reg,loc,e,f,ne,to⟩ regs locs many)):=by
 have cp:Pure Tryz.prog 76 [iD 7] (.tup [sD ⟨#[114,108,101]⟩,bD true]):=w'K 7
 have ci1:=x's reg regs
 have ci2:=x's loc locs
 have ci3:=x's to many
 have ce:Pure Tryz.prog 79 [z'S e,.gs none 0,iD regs,iD 0] (bD (y'1 e [] regs 0)):=Fun.argsW (x'o e he [] (by simp) regs 0) (x't y'q)
 have cf:Pure Tryz.prog 79 [z'S f,.gs none 0,iD regs,iD 0] (bD (y'1 f [] regs 0)):=Fun.argsW (x'o f hf [] (by simp) regs 0) (x't y'q)
 have qr:Pure Tryz.prog 77 [sD ⟨#[114,108,101]⟩,.is (.int .u8 114)] (bD true):=z'Y ⟨#[114,108,101]⟩ (by decide) 114
 have ql:Pure Tryz.prog 77 [sD ⟨#[114,108,101]⟩,.is (.int .u8 108)] (bD true):=z'Y ⟨#[114,108,101]⟩ (by decide) 108
 have qe:Pure Tryz.prog 77 [sD ⟨#[114,108,101]⟩,.is (.int .u8 101)] (bD true):=z'Y ⟨#[114,108,101]⟩ (by decide) 101
 have qf:Pure Tryz.prog 77 [sD ⟨#[114,108,101]⟩,.is (.int .u8 102)] (bD false):=z'Y ⟨#[114,108,101]⟩ (by decide) 102
 have qn:Pure Tryz.prog 77 [sD ⟨#[114,108,101]⟩,.is (.int .u8 110)] (bD false):=z'Y ⟨#[114,108,101]⟩ (by decide) 110
 have qt:Pure Tryz.prog 77 [sD ⟨#[114,108,101]⟩,.is (.int .u8 116)] (bD false):=z'Y ⟨#[114,108,101]⟩ (by decide) 116
 have hO:x'V ⟨7,reg,loc,e,f,ne,to⟩ regs locs many=(inB reg regs&&inB loc locs&&(to == 0)&&y'1 e [] regs 0&&decide (f.length=0)&&(false|| !ne)):=rfl
 rw[hO]
 refine Fun.of T [.tmp 8] Tryz.func46 rfl Tryz.ntmps46 Tryz.results46 rfl (by kernel_rfl) ?_
 repeat' first|refine vb rfl rfl rfl rfl ?_|refine vs T rfl fun K hK=>?_;(try simp (disch:=omega) only[go_sem,Nat.reduceBEq,Nat.reduceAdd,z'K,z'l,z'r]);(first|refine hK _ _ ?_;clear hK K|refine Op1.callp rfl rfl (cp) rfl ?_;refine hK _ _ ?_;clear hK K|refine Op1.callp rfl rfl (ci1) rfl ?_;refine hK _ _ ?_;clear hK K|refine Op1.callp rfl rfl (ci2) rfl ?_;refine hK _ _ ?_;clear hK K|refine Op1.callp rfl rfl (ce) rfl ?_;refine hK _ _ ?_;clear hK K|refine Op1.callp rfl rfl (qr) rfl ?_;refine hK _ _ ?_;clear hK K|refine Op1.callp rfl rfl (ql) rfl ?_;refine hK _ _ ?_;clear hK K|refine Op1.callp rfl rfl (qe) rfl ?_;refine hK _ _ ?_;clear hK K|refine Op1.callp rfl rfl (qf) rfl ?_;refine hK _ _ ?_;clear hK K|refine Op1.callp rfl rfl (qn) rfl ?_;refine hK _ _ ?_;clear hK K|refine Op1.callp rfl rfl (qt) rfl ?_;refine hK _ _ ?_;clear hK K)|refine st rfl ?_|refine sc rfl ?_|refine nl ?_|refine gs rfl rfl ?_|refine gu rfl rfl ?_|refine z'n T (z'a _) ?_;(try simp only[upd,Nat.reduceBEq,cond_true,cond_false,and_true])|with_reducible refine z'j (fun hc=>?_) (fun hc=>?_)<;>(try simp only[decide_eq_true_eq,decide_eq_false_iff_not,bne_iff_ne,bne_eq_false_iff_eq,ne_eq,z'N,z'R,gt_iff_lt,z'm]at hc)
 all_goals clear cp ci1 ci2 ci3 ce cf qr ql qe qf qn qt hO
 all_goals first|(simp_all[-List.length_eq_zero_iff];done)|(cases ne<;>simp_all[-List.length_eq_zero_iff];done)|(simp_all[-List.length_eq_zero_iff];omega)|(cases ne<;>simp_all[-List.length_eq_zero_iff]<;>omega)
theorem Zob (reg loc:Int) (e f:List Opc) (ne:Bool) (to:Int) (he:e.length≤1000) (hf:f.length≤1000) (regs locs many:Int):Pure Tryz.prog 46 [.agg [iD 8,iD reg,iD loc,z'S e,z'S f,bD ne,iD to],iD regs,iD locs,iD many] (bD (x'V ⟨8,reg,loc,e,f,ne,to⟩ regs locs many)):=by
 have cp:Pure Tryz.prog 76 [iD 8] (.tup [sD ⟨#[]⟩,bD true]):=w'K 8
 have ci1:=x's reg regs
 have ci2:=x's loc locs
 have ci3:=x's to many
 have ce:Pure Tryz.prog 79 [z'S e,.gs none 0,iD regs,iD 0] (bD (y'1 e [] regs 0)):=Fun.argsW (x'o e he [] (by simp) regs 0) (x't y'q)
 have cf:Pure Tryz.prog 79 [z'S f,.gs none 0,iD regs,iD 0] (bD (y'1 f [] regs 0)):=Fun.argsW (x'o f hf [] (by simp) regs 0) (x't y'q)
 have qr:Pure Tryz.prog 77 [sD ⟨#[]⟩,.is (.int .u8 114)] (bD false):=z'Y ⟨#[]⟩ (by decide) 114
 have ql:Pure Tryz.prog 77 [sD ⟨#[]⟩,.is (.int .u8 108)] (bD false):=z'Y ⟨#[]⟩ (by decide) 108
 have qe:Pure Tryz.prog 77 [sD ⟨#[]⟩,.is (.int .u8 101)] (bD false):=z'Y ⟨#[]⟩ (by decide) 101
 have qf:Pure Tryz.prog 77 [sD ⟨#[]⟩,.is (.int .u8 102)] (bD false):=z'Y ⟨#[]⟩ (by decide) 102
 have qn:Pure Tryz.prog 77 [sD ⟨#[]⟩,.is (.int .u8 110)] (bD false):=z'Y ⟨#[]⟩ (by decide) 110
 have qt:Pure Tryz.prog 77 [sD ⟨#[]⟩,.is (.int .u8 116)] (bD false):=z'Y ⟨#[]⟩ (by decide) 116
 have hO:x'V ⟨8,reg,loc,e,f,ne,to⟩ regs locs many=((reg == 0)&&(loc == 0)&&(to == 0)&&decide (e.length=0)&&decide (f.length=0)&&(false|| !ne)):=rfl
 rw[hO]
 refine Fun.of T [.tmp 8] Tryz.func46 rfl Tryz.ntmps46 Tryz.results46 rfl (by kernel_rfl) ?_
 repeat' first|refine vb rfl rfl rfl rfl ?_|refine vs T rfl fun K hK=>?_;(try simp (disch:=omega) only[go_sem,Nat.reduceBEq,Nat.reduceAdd,z'K,z'l,z'r]);(first|refine hK _ _ ?_;clear hK K|refine Op1.callp rfl rfl (cp) rfl ?_;refine hK _ _ ?_;clear hK K|refine Op1.callp rfl rfl (qr) rfl ?_;refine hK _ _ ?_;clear hK K|refine Op1.callp rfl rfl (ql) rfl ?_;refine hK _ _ ?_;clear hK K|refine Op1.callp rfl rfl (qe) rfl ?_;refine hK _ _ ?_;clear hK K|refine Op1.callp rfl rfl (qf) rfl ?_;refine hK _ _ ?_;clear hK K|refine Op1.callp rfl rfl (qn) rfl ?_;refine hK _ _ ?_;clear hK K|refine Op1.callp rfl rfl (qt) rfl ?_;refine hK _ _ ?_;clear hK K)|refine st rfl ?_|refine sc rfl ?_|refine nl ?_|refine gs rfl rfl ?_|refine gu rfl rfl ?_|refine z'n T (z'a _) ?_;(try simp only[upd,Nat.reduceBEq,cond_true,cond_false,and_true])|with_reducible refine z'j (fun hc=>?_) (fun hc=>?_)<;>(try simp only[decide_eq_true_eq,decide_eq_false_iff_not,bne_iff_ne,bne_eq_false_iff_eq,ne_eq,gt_iff_lt,z'm]at hc)
 all_goals clear cp ci1 ci2 ci3 ce cf qr ql qe qf qn qt hO
 all_goals first|(simp_all[-List.length_eq_zero_iff];done)|(cases ne<;>simp_all[-List.length_eq_zero_iff];done)|(simp_all[-List.length_eq_zero_iff];omega)|(cases ne<;>simp_all[-List.length_eq_zero_iff]<;>omega)
theorem Zoc (reg loc:Int) (e f:List Opc) (ne:Bool) (to:Int) (he:e.length≤1000) (hf:f.length≤1000) (regs locs many:Int):Pure Tryz.prog 46 [.agg [iD 9,iD reg,iD loc,z'S e,z'S f,bD ne,iD to],iD regs,iD locs,iD many] (bD (x'V ⟨9,reg,loc,e,f,ne,to⟩ regs locs many)):=by
 have cp:Pure Tryz.prog 76 [iD 9] (.tup [sD ⟨#[108,101,110]⟩,bD true]):=w'K 9
 have ci1:=x's reg regs
 have ci2:=x's loc locs
 have ci3:=x's to many
 have ce:Pure Tryz.prog 79 [z'S e,.gs none 0,iD regs,iD 0] (bD (y'1 e [] regs 0)):=Fun.argsW (x'o e he [] (by simp) regs 0) (x't y'q)
 have cf:Pure Tryz.prog 79 [z'S f,.gs none 0,iD regs,iD 0] (bD (y'1 f [] regs 0)):=Fun.argsW (x'o f hf [] (by simp) regs 0) (x't y'q)
 have qr:Pure Tryz.prog 77 [sD ⟨#[108,101,110]⟩,.is (.int .u8 114)] (bD false):=z'Y ⟨#[108,101,110]⟩ (by decide) 114
 have ql:Pure Tryz.prog 77 [sD ⟨#[108,101,110]⟩,.is (.int .u8 108)] (bD true):=z'Y ⟨#[108,101,110]⟩ (by decide) 108
 have qe:Pure Tryz.prog 77 [sD ⟨#[108,101,110]⟩,.is (.int .u8 101)] (bD true):=z'Y ⟨#[108,101,110]⟩ (by decide) 101
 have qf:Pure Tryz.prog 77 [sD ⟨#[108,101,110]⟩,.is (.int .u8 102)] (bD false):=z'Y ⟨#[108,101,110]⟩ (by decide) 102
 have qn:Pure Tryz.prog 77 [sD ⟨#[108,101,110]⟩,.is (.int .u8 110)] (bD true):=z'Y ⟨#[108,101,110]⟩ (by decide) 110
 have qt:Pure Tryz.prog 77 [sD ⟨#[108,101,110]⟩,.is (.int .u8 116)] (bD false):=z'Y ⟨#[108,101,110]⟩ (by decide) 116
 have hO:x'V ⟨9,reg,loc,e,f,ne,to⟩ regs locs many=((reg == 0)&&inB loc locs&&(to == 0)&&y'1 e [] regs 0&&decide (f.length=0)&&(true|| !ne)):=rfl
 rw[hO]
 refine Fun.of T [.tmp 8] Tryz.func46 rfl Tryz.ntmps46 Tryz.results46 rfl (by kernel_rfl) ?_
 repeat' first|refine vb rfl rfl rfl rfl ?_|refine vs T rfl fun K hK=>?_;(try simp (disch:=omega) only[go_sem,Nat.reduceBEq,Nat.reduceAdd,z'K,z'l,z'r]);(first|refine hK _ _ ?_;clear hK K|refine Op1.callp rfl rfl (cp) rfl ?_;refine hK _ _ ?_;clear hK K|refine Op1.callp rfl rfl (ci2) rfl ?_;refine hK _ _ ?_;clear hK K|refine Op1.callp rfl rfl (ce) rfl ?_;refine hK _ _ ?_;clear hK K|refine Op1.callp rfl rfl (qr) rfl ?_;refine hK _ _ ?_;clear hK K|refine Op1.callp rfl rfl (ql) rfl ?_;refine hK _ _ ?_;clear hK K|refine Op1.callp rfl rfl (qe) rfl ?_;refine hK _ _ ?_;clear hK K|refine Op1.callp rfl rfl (qf) rfl ?_;refine hK _ _ ?_;clear hK K|refine Op1.callp rfl rfl (qn) rfl ?_;refine hK _ _ ?_;clear hK K|refine Op1.callp rfl rfl (qt) rfl ?_;refine hK _ _ ?_;clear hK K)|refine st rfl ?_|refine sc rfl ?_|refine nl ?_|refine gs rfl rfl ?_|refine gu rfl rfl ?_|refine z'n T (z'a _) ?_;(try simp only[upd,Nat.reduceBEq,cond_true,cond_false,and_true])|with_reducible refine z'j (fun hc=>?_) (fun hc=>?_)<;>(try simp only[decide_eq_true_eq,decide_eq_false_iff_not,bne_iff_ne,bne_eq_false_iff_eq,ne_eq,z'N,z'R,gt_iff_lt,z'm]at hc)
 all_goals clear cp ci1 ci2 ci3 ce cf qr ql qe qf qn qt hO
 all_goals first|(simp_all[-List.length_eq_zero_iff];done)|(cases ne<;>simp_all[-List.length_eq_zero_iff];done)|(simp_all[-List.length_eq_zero_iff];omega)|(cases ne<;>simp_all[-List.length_eq_zero_iff]<;>omega)
theorem Zmo (reg loc:Int) (e f:List Opc) (ne:Bool) (to:Int) (he:e.length≤1000) (hf:f.length≤1000) (regs locs many:Int):Pure Tryz.prog 46 [.agg [iD 20,iD reg,iD loc,z'S e,z'S f,bD ne,iD to],iD regs,iD locs,iD many] (bD (x'V ⟨20,reg,loc,e,f,ne,to⟩ regs locs many)):=by
 have cp:Pure Tryz.prog 76 [iD 20] (.tup [sD ⟨#[116]⟩,bD true]):=w'K 20
 have ci1:=x's reg regs
 have ci2:=x's loc locs
 have ci3:=x's to many
 have ce:Pure Tryz.prog 79 [z'S e,.gs none 0,iD regs,iD 0] (bD (y'1 e [] regs 0)):=Fun.argsW (x'o e he [] (by simp) regs 0) (x't y'q)
 have cf:Pure Tryz.prog 79 [z'S f,.gs none 0,iD regs,iD 0] (bD (y'1 f [] regs 0)):=Fun.argsW (x'o f hf [] (by simp) regs 0) (x't y'q)
 have qr:Pure Tryz.prog 77 [sD ⟨#[116]⟩,.is (.int .u8 114)] (bD false):=z'Y ⟨#[116]⟩ (by decide) 114
 have ql:Pure Tryz.prog 77 [sD ⟨#[116]⟩,.is (.int .u8 108)] (bD false):=z'Y ⟨#[116]⟩ (by decide) 108
 have qe:Pure Tryz.prog 77 [sD ⟨#[116]⟩,.is (.int .u8 101)] (bD false):=z'Y ⟨#[116]⟩ (by decide) 101
 have qf:Pure Tryz.prog 77 [sD ⟨#[116]⟩,.is (.int .u8 102)] (bD false):=z'Y ⟨#[116]⟩ (by decide) 102
 have qn:Pure Tryz.prog 77 [sD ⟨#[116]⟩,.is (.int .u8 110)] (bD false):=z'Y ⟨#[116]⟩ (by decide) 110
 have qt:Pure Tryz.prog 77 [sD ⟨#[116]⟩,.is (.int .u8 116)] (bD true):=z'Y ⟨#[116]⟩ (by decide) 116
 have hO:x'V ⟨20,reg,loc,e,f,ne,to⟩ regs locs many=((reg == 0)&&(loc == 0)&&inB to many&&decide (e.length=0)&&decide (f.length=0)&&(false|| !ne)):=rfl
 rw[hO]
 refine Fun.of T [.tmp 8] Tryz.func46 rfl Tryz.ntmps46 Tryz.results46 rfl (by kernel_rfl) ?_
 repeat' first|refine vb rfl rfl rfl rfl ?_|refine vs T rfl fun K hK=>?_;(try simp (disch:=omega) only[go_sem,Nat.reduceBEq,Nat.reduceAdd,z'K,z'l,z'r]);(first|refine hK _ _ ?_;clear hK K|refine Op1.callp rfl rfl (cp) rfl ?_;refine hK _ _ ?_;clear hK K|refine Op1.callp rfl rfl (ci3) rfl ?_;refine hK _ _ ?_;clear hK K|refine Op1.callp rfl rfl (qr) rfl ?_;refine hK _ _ ?_;clear hK K|refine Op1.callp rfl rfl (ql) rfl ?_;refine hK _ _ ?_;clear hK K|refine Op1.callp rfl rfl (qe) rfl ?_;refine hK _ _ ?_;clear hK K|refine Op1.callp rfl rfl (qf) rfl ?_;refine hK _ _ ?_;clear hK K|refine Op1.callp rfl rfl (qn) rfl ?_;refine hK _ _ ?_;clear hK K|refine Op1.callp rfl rfl (qt) rfl ?_;refine hK _ _ ?_;clear hK K)|refine st rfl ?_|refine sc rfl ?_|refine nl ?_|refine gs rfl rfl ?_|refine gu rfl rfl ?_|refine z'n T (z'a _) ?_;(try simp only[upd,Nat.reduceBEq,cond_true,cond_false,and_true])|with_reducible refine z'j (fun hc=>?_) (fun hc=>?_)<;>(try simp only[decide_eq_true_eq,decide_eq_false_iff_not,bne_iff_ne,bne_eq_false_iff_eq,ne_eq,z'N,z'R,gt_iff_lt,z'm]at hc)
 all_goals clear cp ci1 ci2 ci3 ce cf qr ql qe qf qn qt hO
 all_goals first|(simp_all[-List.length_eq_zero_iff];done)|(cases ne<;>simp_all[-List.length_eq_zero_iff];done)|(simp_all[-List.length_eq_zero_iff];omega)|(cases ne<;>simp_all[-List.length_eq_zero_iff]<;>omega)
theorem Zmp (reg loc:Int) (e f:List Opc) (ne:Bool) (to:Int) (he:e.length≤1000) (hf:f.length≤1000) (regs locs many:Int):Pure Tryz.prog 46 [.agg [iD 21,iD reg,iD loc,z'S e,z'S f,bD ne,iD to],iD regs,iD locs,iD many] (bD (x'V ⟨21,reg,loc,e,f,ne,to⟩ regs locs many)):=by
 have cp:Pure Tryz.prog 76 [iD 21] (.tup [sD ⟨#[101,116]⟩,bD true]):=w'K 21
 have ci1:=x's reg regs
 have ci2:=x's loc locs
 have ci3:=x's to many
 have ce:Pure Tryz.prog 79 [z'S e,.gs none 0,iD regs,iD 0] (bD (y'1 e [] regs 0)):=Fun.argsW (x'o e he [] (by simp) regs 0) (x't y'q)
 have cf:Pure Tryz.prog 79 [z'S f,.gs none 0,iD regs,iD 0] (bD (y'1 f [] regs 0)):=Fun.argsW (x'o f hf [] (by simp) regs 0) (x't y'q)
 have qr:Pure Tryz.prog 77 [sD ⟨#[101,116]⟩,.is (.int .u8 114)] (bD false):=z'Y ⟨#[101,116]⟩ (by decide) 114
 have ql:Pure Tryz.prog 77 [sD ⟨#[101,116]⟩,.is (.int .u8 108)] (bD false):=z'Y ⟨#[101,116]⟩ (by decide) 108
 have qe:Pure Tryz.prog 77 [sD ⟨#[101,116]⟩,.is (.int .u8 101)] (bD true):=z'Y ⟨#[101,116]⟩ (by decide) 101
 have qf:Pure Tryz.prog 77 [sD ⟨#[101,116]⟩,.is (.int .u8 102)] (bD false):=z'Y ⟨#[101,116]⟩ (by decide) 102
 have qn:Pure Tryz.prog 77 [sD ⟨#[101,116]⟩,.is (.int .u8 110)] (bD false):=z'Y ⟨#[101,116]⟩ (by decide) 110
 have qt:Pure Tryz.prog 77 [sD ⟨#[101,116]⟩,.is (.int .u8 116)] (bD true):=z'Y ⟨#[101,116]⟩ (by decide) 116
 have hO:x'V ⟨21,reg,loc,e,f,ne,to⟩ regs locs many=((reg == 0)&&(loc == 0)&&inB to many&&y'1 e [] regs 0&&decide (f.length=0)&&(false|| !ne)):=rfl
 rw[hO]
 refine Fun.of T [.tmp 8] Tryz.func46 rfl Tryz.ntmps46 Tryz.results46 rfl (by kernel_rfl) ?_
 repeat' first|refine vb rfl rfl rfl rfl ?_|refine vs T rfl fun K hK=>?_;(try simp (disch:=omega) only[go_sem,Nat.reduceBEq,Nat.reduceAdd,z'K,z'l,z'r]);(first|refine hK _ _ ?_;clear hK K|refine Op1.callp rfl rfl (cp) rfl ?_;refine hK _ _ ?_;clear hK K|refine Op1.callp rfl rfl (ci3) rfl ?_;refine hK _ _ ?_;clear hK K|refine Op1.callp rfl rfl (ce) rfl ?_;refine hK _ _ ?_;clear hK K|refine Op1.callp rfl rfl (qr) rfl ?_;refine hK _ _ ?_;clear hK K|refine Op1.callp rfl rfl (ql) rfl ?_;refine hK _ _ ?_;clear hK K|refine Op1.callp rfl rfl (qe) rfl ?_;refine hK _ _ ?_;clear hK K|refine Op1.callp rfl rfl (qf) rfl ?_;refine hK _ _ ?_;clear hK K|refine Op1.callp rfl rfl (qn) rfl ?_;refine hK _ _ ?_;clear hK K|refine Op1.callp rfl rfl (qt) rfl ?_;refine hK _ _ ?_;clear hK K)|refine st rfl ?_|refine sc rfl ?_|refine nl ?_|refine gs rfl rfl ?_|refine gu rfl rfl ?_|refine z'n T (z'a _) ?_;(try simp only[upd,Nat.reduceBEq,cond_true,cond_false,and_true])|with_reducible refine z'j (fun hc=>?_) (fun hc=>?_)<;>(try simp only[decide_eq_true_eq,decide_eq_false_iff_not,bne_iff_ne,bne_eq_false_iff_eq,ne_eq,z'N,z'R,gt_iff_lt,z'm]at hc)
 all_goals clear cp ci1 ci2 ci3 ce cf qr ql qe qf qn qt hO
 all_goals first|(simp_all[-List.length_eq_zero_iff];done)|(cases ne<;>simp_all[-List.length_eq_zero_iff];done)|(simp_all[-List.length_eq_zero_iff];omega)|(cases ne<;>simp_all[-List.length_eq_zero_iff]<;>omega)
theorem Zmq (x:Ins) (he:x.e.length≤1000) (hf:x.f.length≤1000) (regs locs many:Int):Pure Tryz.prog 46 [.agg (v'e x),iD regs,iD locs,iD many] (bD (x'V x regs locs many)):=by
 obtain⟨op,reg,loc,e,f,ne,to⟩:=x
 by_cases h2:op=2
 ·subst h2;exact Zn5 reg loc e f ne to he hf regs locs many
 by_cases h3:op=3
 ·subst h3;exact Zn6 reg loc e f ne to he hf regs locs many
 by_cases h4:op=4
 ·subst h4;exact Zn7 reg loc e f ne to he hf regs locs many
 by_cases h5:op=5
 ·subst h5;exact Zn8 reg loc e f ne to he hf regs locs many
 by_cases h6:op=6
 ·subst h6;exact Zn9 reg loc e f ne to he hf regs locs many
 by_cases h7:op=7
 ·subst h7;exact Zoa reg loc e f ne to he hf regs locs many
 by_cases h8:op=8
 ·subst h8;exact Zob reg loc e f ne to he hf regs locs many
 by_cases h9:op=9
 ·subst h9;exact Zoc reg loc e f ne to he hf regs locs many
 by_cases h20:op=20
 ·subst h20;exact Zmo reg loc e f ne to he hf regs locs many
 by_cases h21:op=21
 ·subst h21;exact Zmp reg loc e f ne to he hf regs locs many
 have hn:Zee op=none:=by simp only[Zee,h2,h3,h4,h5,h6,h7,h8,h9,h20,h21,if_false]
 have cp:Pure Tryz.prog 76 [iD op] (.tup [sD ⟨#[]⟩,bD false]):=by have:=w'K op;rw[hn]at this;exact this
 have hO:x'V ⟨op,reg,loc,e,f,ne,to⟩ regs locs many=false:=by simp[x'V,ndF,h2,h3,h4,h5,h6,h7,h8,h9,h20,h21]
 rw[hO]
 refine Fun.of T [.tmp 8] Tryz.func46 rfl Tryz.ntmps46 Tryz.results46 rfl (by kernel_rfl) ?_
 repeat' first|refine vb rfl rfl rfl rfl ?_|refine vs T rfl fun K hK=>?_;(try simp (disch:=omega) only[go_sem,Nat.reduceBEq,Nat.reduceAdd,v'e,z'r]);(first|refine hK _ _ ?_;clear hK K|refine Op1.callp rfl rfl (cp) rfl ?_;refine hK _ _ ?_;clear hK K)|refine st rfl ?_|refine sc rfl ?_|refine nl ?_|exact z'n T (z'a _) ⟨rfl,rfl⟩
end Go.Proofs.YtfneeacgkdhldaaGreat
