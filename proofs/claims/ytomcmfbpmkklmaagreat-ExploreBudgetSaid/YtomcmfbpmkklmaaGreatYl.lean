/- What an instruction has. No condition. -/
import Derived.Test.YtomcmfbpmkklmaaGreatXg
import Derived.Test.YtomcmfbpmkklmaaGreatXk
namespace Go.Proofs.YtomcmfbpmkklmaaGreat
set_option maxHeartbeats 16000000
set_option linter.unusedSimpArgs false
set_option linter.unusedVariables false
set_option maxRecDepth 20000
open Go Go.Proofs Go.Vc
structure Nd where
 r:Bool
 l:Bool
 e:Bool
 f:Bool
 n:Bool
 t:Bool
def ndF (op:Int):Option Nd:=
 if op=2 then some ⟨true,false,true,false,false,false⟩else
 if op=3 then some ⟨true,true,false,false,false,false⟩else
 if op=4 then some ⟨false,true,true,false,false,false⟩else
 if op=5 then some ⟨true,true,true,true,false,false⟩else
 if op=6 then some ⟨true,true,true,false,false,false⟩else
 if op=7 then some ⟨true,true,true,false,false,false⟩else
 if op=8 then some ⟨false,false,false,false,false,false⟩else
 if op=9 then some ⟨false,true,true,false,true,false⟩else
 if op=20 then some ⟨false,false,false,false,false,true⟩else
 if op=21 then some ⟨false,false,true,false,false,true⟩else
 none
def x'F (has:Bool) (n m:Int):Bool:=match has with|true=>inB n m|false=>n == 0
def Zcd (has:Bool) (l:List Opc) (regs:Int):Bool:=match has with|true=>y'X l [] regs 0|false=>decide (l.length=0)
def x'Y (x:Ins) (regs locs many:Int):Bool:=match ndF x.op with
 |none=>false
 |some d=>x'F d.r x.reg regs&&x'F d.l x.loc locs&&x'F d.t x.to many&&Zcd d.e x.e regs&&Zcd d.f x.f regs&&(d.n|| !x.ne)
attribute [local irreducible] y'0 VCg VCw VCx
theorem Zoz (reg loc:Int) (e f:List Opc) (ne:Bool) (to:Int) (he:e.length≤1000) (hf:f.length≤1000) (regs locs many:Int):Pure Tryz.prog 135 [.agg [iD 2,iD reg,iD loc,z'R e,z'R f,bD ne,iD to],iD regs,iD locs,iD many] (bD (x'Y ⟨2,reg,loc,e,f,ne,to⟩ regs locs many)):=by
 have cp:Pure Tryz.prog 160 [iD 2] (.tup [sD ⟨#[114,101]⟩,bD true]):=w'3 2
 have ci1:=x't reg regs
 have ci2:=x't loc locs
 have ci3:=x't to many
 have ce:Pure Tryz.prog 163 [z'R e,.gs none 0,iD regs,iD 0] (bD (y'X e [] regs 0)):=Fun.argsW (x'q e he [] (by simp) regs 0) (x'u y'v)
 have cf:Pure Tryz.prog 163 [z'R f,.gs none 0,iD regs,iD 0] (bD (y'X f [] regs 0)):=Fun.argsW (x'q f hf [] (by simp) regs 0) (x'u y'v)
 have qr:Pure Tryz.prog 161 [sD ⟨#[114,101]⟩,.is (.int .u8 114)] (bD true):=z'0 ⟨#[114,101]⟩ (by decide) 114
 have ql:Pure Tryz.prog 161 [sD ⟨#[114,101]⟩,.is (.int .u8 108)] (bD false):=z'0 ⟨#[114,101]⟩ (by decide) 108
 have qe:Pure Tryz.prog 161 [sD ⟨#[114,101]⟩,.is (.int .u8 101)] (bD true):=z'0 ⟨#[114,101]⟩ (by decide) 101
 have qf:Pure Tryz.prog 161 [sD ⟨#[114,101]⟩,.is (.int .u8 102)] (bD false):=z'0 ⟨#[114,101]⟩ (by decide) 102
 have qn:Pure Tryz.prog 161 [sD ⟨#[114,101]⟩,.is (.int .u8 110)] (bD false):=z'0 ⟨#[114,101]⟩ (by decide) 110
 have qt:Pure Tryz.prog 161 [sD ⟨#[114,101]⟩,.is (.int .u8 116)] (bD false):=z'0 ⟨#[114,101]⟩ (by decide) 116
 have hO:x'Y ⟨2,reg,loc,e,f,ne,to⟩ regs locs many=(inB reg regs&&(loc == 0)&&(to == 0)&&y'X e [] regs 0&&decide (f.length=0)&&(false|| !ne)):=rfl
 rw[hO]
 refine Fun.of T [.tmp 8] Tryz.func135 rfl Tryz.ntmps135 Tryz.results135 rfl (by kernel_rfl) ?_
 repeat' first|refine vb rfl rfl rfl rfl ?_|refine vs T rfl fun K hK=>?_;(try simp (disch:=omega) only[go_sem,Nat.reduceBEq,Nat.reduceAdd,z'O,z'i,z'q]);(first|refine hK _ _ ?_;clear hK K|refine Op1.callp rfl rfl (cp) rfl ?_;refine hK _ _ ?_;clear hK K|refine Op1.callp rfl rfl (ci1) rfl ?_;refine hK _ _ ?_;clear hK K|refine Op1.callp rfl rfl (ce) rfl ?_;refine hK _ _ ?_;clear hK K|refine Op1.callp rfl rfl (qr) rfl ?_;refine hK _ _ ?_;clear hK K|refine Op1.callp rfl rfl (ql) rfl ?_;refine hK _ _ ?_;clear hK K|refine Op1.callp rfl rfl (qe) rfl ?_;refine hK _ _ ?_;clear hK K|refine Op1.callp rfl rfl (qf) rfl ?_;refine hK _ _ ?_;clear hK K|refine Op1.callp rfl rfl (qn) rfl ?_;refine hK _ _ ?_;clear hK K|refine Op1.callp rfl rfl (qt) rfl ?_;refine hK _ _ ?_;clear hK K)|refine st rfl ?_|refine sc rfl ?_|refine nl ?_|refine gs rfl rfl ?_|refine gu rfl rfl ?_|refine z'j T (z'a _) ?_;(try simp only[upd,Nat.reduceBEq,cond_true,cond_false,and_true])|with_reducible refine z's (fun hc=>?_) (fun hc=>?_)<;>(try simp only[decide_eq_true_eq,decide_eq_false_iff_not,bne_iff_ne,bne_eq_false_iff_eq,ne_eq,y'C,y'3,gt_iff_lt,z'u]at hc)
 all_goals clear cp ci1 ci2 ci3 ce cf qr ql qe qf qn qt hO
 all_goals first|(simp_all[-List.length_eq_zero_iff];done)|(cases ne<;>simp_all[-List.length_eq_zero_iff];done)|(simp_all[-List.length_eq_zero_iff];omega)|(cases ne<;>simp_all[-List.length_eq_zero_iff]<;>omega)
theorem Znq (reg loc:Int) (e f:List Opc) (ne:Bool) (to:Int) (he:e.length≤1000) (hf:f.length≤1000) (regs locs many:Int):Pure Tryz.prog 135 [.agg [iD 3,iD reg,iD loc,z'R e,z'R f,bD ne,iD to],iD regs,iD locs,iD many] (bD (x'Y ⟨3,reg,loc,e,f,ne,to⟩ regs locs many)):=by
 have cp:Pure Tryz.prog 160 [iD 3] (.tup [sD ⟨#[114,108]⟩,bD true]):=w'3 3
 have ci1:=x't reg regs
 have ci2:=x't loc locs
 have ci3:=x't to many
 have ce:Pure Tryz.prog 163 [z'R e,.gs none 0,iD regs,iD 0] (bD (y'X e [] regs 0)):=Fun.argsW (x'q e he [] (by simp) regs 0) (x'u y'v)
 have cf:Pure Tryz.prog 163 [z'R f,.gs none 0,iD regs,iD 0] (bD (y'X f [] regs 0)):=Fun.argsW (x'q f hf [] (by simp) regs 0) (x'u y'v)
 have qr:Pure Tryz.prog 161 [sD ⟨#[114,108]⟩,.is (.int .u8 114)] (bD true):=z'0 ⟨#[114,108]⟩ (by decide) 114
 have ql:Pure Tryz.prog 161 [sD ⟨#[114,108]⟩,.is (.int .u8 108)] (bD true):=z'0 ⟨#[114,108]⟩ (by decide) 108
 have qe:Pure Tryz.prog 161 [sD ⟨#[114,108]⟩,.is (.int .u8 101)] (bD false):=z'0 ⟨#[114,108]⟩ (by decide) 101
 have qf:Pure Tryz.prog 161 [sD ⟨#[114,108]⟩,.is (.int .u8 102)] (bD false):=z'0 ⟨#[114,108]⟩ (by decide) 102
 have qn:Pure Tryz.prog 161 [sD ⟨#[114,108]⟩,.is (.int .u8 110)] (bD false):=z'0 ⟨#[114,108]⟩ (by decide) 110
 have qt:Pure Tryz.prog 161 [sD ⟨#[114,108]⟩,.is (.int .u8 116)] (bD false):=z'0 ⟨#[114,108]⟩ (by decide) 116
 have hO:x'Y ⟨3,reg,loc,e,f,ne,to⟩ regs locs many=(inB reg regs&&inB loc locs&&(to == 0)&&decide (e.length=0)&&decide (f.length=0)&&(false|| !ne)):=rfl
 rw[hO]
 refine Fun.of T [.tmp 8] Tryz.func135 rfl Tryz.ntmps135 Tryz.results135 rfl (by kernel_rfl) ?_
 repeat' first|refine vb rfl rfl rfl rfl ?_|refine vs T rfl fun K hK=>?_;(try simp (disch:=omega) only[go_sem,Nat.reduceBEq,Nat.reduceAdd,z'O,z'i,z'q]);(first|refine hK _ _ ?_;clear hK K|refine Op1.callp rfl rfl (cp) rfl ?_;refine hK _ _ ?_;clear hK K|refine Op1.callp rfl rfl (ci1) rfl ?_;refine hK _ _ ?_;clear hK K|refine Op1.callp rfl rfl (ci2) rfl ?_;refine hK _ _ ?_;clear hK K|refine Op1.callp rfl rfl (qr) rfl ?_;refine hK _ _ ?_;clear hK K|refine Op1.callp rfl rfl (ql) rfl ?_;refine hK _ _ ?_;clear hK K|refine Op1.callp rfl rfl (qe) rfl ?_;refine hK _ _ ?_;clear hK K|refine Op1.callp rfl rfl (qf) rfl ?_;refine hK _ _ ?_;clear hK K|refine Op1.callp rfl rfl (qn) rfl ?_;refine hK _ _ ?_;clear hK K|refine Op1.callp rfl rfl (qt) rfl ?_;refine hK _ _ ?_;clear hK K)|refine st rfl ?_|refine sc rfl ?_|refine nl ?_|refine gs rfl rfl ?_|refine gu rfl rfl ?_|refine z'j T (z'a _) ?_;(try simp only[upd,Nat.reduceBEq,cond_true,cond_false,and_true])|with_reducible refine z's (fun hc=>?_) (fun hc=>?_)<;>(try simp only[decide_eq_true_eq,decide_eq_false_iff_not,bne_iff_ne,bne_eq_false_iff_eq,ne_eq,y'C,y'3,gt_iff_lt,z'u]at hc)
 all_goals clear cp ci1 ci2 ci3 ce cf qr ql qe qf qn qt hO
 all_goals first|(simp_all[-List.length_eq_zero_iff];done)|(cases ne<;>simp_all[-List.length_eq_zero_iff];done)|(simp_all[-List.length_eq_zero_iff];omega)|(cases ne<;>simp_all[-List.length_eq_zero_iff]<;>omega)
theorem ZoQ (reg loc:Int) (e f:List Opc) (ne:Bool) (to:Int) (he:e.length≤1000) (hf:f.length≤1000) (regs locs many:Int):Pure Tryz.prog 135 [.agg [iD 4,iD reg,iD loc,z'R e,z'R f,bD ne,iD to],iD regs,iD locs,iD many] (bD (x'Y ⟨4,reg,loc,e,f,ne,to⟩ regs locs many)):=by
 have cp:Pure Tryz.prog 160 [iD 4] (.tup [sD ⟨#[108,101]⟩,bD true]):=w'3 4
 have ci1:=x't reg regs
 have ci2:=x't loc locs
 have ci3:=x't to many
 have ce:Pure Tryz.prog 163 [z'R e,.gs none 0,iD regs,iD 0] (bD (y'X e [] regs 0)):=Fun.argsW (x'q e he [] (by simp) regs 0) (x'u y'v)
 have cf:Pure Tryz.prog 163 [z'R f,.gs none 0,iD regs,iD 0] (bD (y'X f [] regs 0)):=Fun.argsW (x'q f hf [] (by simp) regs 0) (x'u y'v)
 have qr:Pure Tryz.prog 161 [sD ⟨#[108,101]⟩,.is (.int .u8 114)] (bD false):=z'0 ⟨#[108,101]⟩ (by decide) 114
 have ql:Pure Tryz.prog 161 [sD ⟨#[108,101]⟩,.is (.int .u8 108)] (bD true):=z'0 ⟨#[108,101]⟩ (by decide) 108
 have qe:Pure Tryz.prog 161 [sD ⟨#[108,101]⟩,.is (.int .u8 101)] (bD true):=z'0 ⟨#[108,101]⟩ (by decide) 101
 have qf:Pure Tryz.prog 161 [sD ⟨#[108,101]⟩,.is (.int .u8 102)] (bD false):=z'0 ⟨#[108,101]⟩ (by decide) 102
 have qn:Pure Tryz.prog 161 [sD ⟨#[108,101]⟩,.is (.int .u8 110)] (bD false):=z'0 ⟨#[108,101]⟩ (by decide) 110
 have qt:Pure Tryz.prog 161 [sD ⟨#[108,101]⟩,.is (.int .u8 116)] (bD false):=z'0 ⟨#[108,101]⟩ (by decide) 116
 have hO:x'Y ⟨4,reg,loc,e,f,ne,to⟩ regs locs many=((reg == 0)&&inB loc locs&&(to == 0)&&y'X e [] regs 0&&decide (f.length=0)&&(false|| !ne)):=rfl
 rw[hO]
 refine Fun.of T [.tmp 8] Tryz.func135 rfl Tryz.ntmps135 Tryz.results135 rfl (by kernel_rfl) ?_
 repeat' first|refine vb rfl rfl rfl rfl ?_|refine vs T rfl fun K hK=>?_;(try simp (disch:=omega) only[go_sem,Nat.reduceBEq,Nat.reduceAdd,z'O,z'i,z'q]);(first|refine hK _ _ ?_;clear hK K|refine Op1.callp rfl rfl (cp) rfl ?_;refine hK _ _ ?_;clear hK K|refine Op1.callp rfl rfl (ci2) rfl ?_;refine hK _ _ ?_;clear hK K|refine Op1.callp rfl rfl (ce) rfl ?_;refine hK _ _ ?_;clear hK K|refine Op1.callp rfl rfl (qr) rfl ?_;refine hK _ _ ?_;clear hK K|refine Op1.callp rfl rfl (ql) rfl ?_;refine hK _ _ ?_;clear hK K|refine Op1.callp rfl rfl (qe) rfl ?_;refine hK _ _ ?_;clear hK K|refine Op1.callp rfl rfl (qf) rfl ?_;refine hK _ _ ?_;clear hK K|refine Op1.callp rfl rfl (qn) rfl ?_;refine hK _ _ ?_;clear hK K|refine Op1.callp rfl rfl (qt) rfl ?_;refine hK _ _ ?_;clear hK K)|refine st rfl ?_|refine sc rfl ?_|refine nl ?_|refine gs rfl rfl ?_|refine gu rfl rfl ?_|refine z'j T (z'a _) ?_;(try simp only[upd,Nat.reduceBEq,cond_true,cond_false,and_true])|with_reducible refine z's (fun hc=>?_) (fun hc=>?_)<;>(try simp only[decide_eq_true_eq,decide_eq_false_iff_not,bne_iff_ne,bne_eq_false_iff_eq,ne_eq,y'C,y'3,gt_iff_lt,z'u]at hc)
 all_goals clear cp ci1 ci2 ci3 ce cf qr ql qe qf qn qt hO
 all_goals first|(simp_all[-List.length_eq_zero_iff];done)|(cases ne<;>simp_all[-List.length_eq_zero_iff];done)|(simp_all[-List.length_eq_zero_iff];omega)|(cases ne<;>simp_all[-List.length_eq_zero_iff]<;>omega)
theorem ZoW (reg loc:Int) (e f:List Opc) (ne:Bool) (to:Int) (he:e.length≤1000) (hf:f.length≤1000) (regs locs many:Int):Pure Tryz.prog 135 [.agg [iD 5,iD reg,iD loc,z'R e,z'R f,bD ne,iD to],iD regs,iD locs,iD many] (bD (x'Y ⟨5,reg,loc,e,f,ne,to⟩ regs locs many)):=by
 have cp:Pure Tryz.prog 160 [iD 5] (.tup [sD ⟨#[114,108,101,102]⟩,bD true]):=w'3 5
 have ci1:=x't reg regs
 have ci2:=x't loc locs
 have ci3:=x't to many
 have ce:Pure Tryz.prog 163 [z'R e,.gs none 0,iD regs,iD 0] (bD (y'X e [] regs 0)):=Fun.argsW (x'q e he [] (by simp) regs 0) (x'u y'v)
 have cf:Pure Tryz.prog 163 [z'R f,.gs none 0,iD regs,iD 0] (bD (y'X f [] regs 0)):=Fun.argsW (x'q f hf [] (by simp) regs 0) (x'u y'v)
 have qr:Pure Tryz.prog 161 [sD ⟨#[114,108,101,102]⟩,.is (.int .u8 114)] (bD true):=z'0 ⟨#[114,108,101,102]⟩ (by decide) 114
 have ql:Pure Tryz.prog 161 [sD ⟨#[114,108,101,102]⟩,.is (.int .u8 108)] (bD true):=z'0 ⟨#[114,108,101,102]⟩ (by decide) 108
 have qe:Pure Tryz.prog 161 [sD ⟨#[114,108,101,102]⟩,.is (.int .u8 101)] (bD true):=z'0 ⟨#[114,108,101,102]⟩ (by decide) 101
 have qf:Pure Tryz.prog 161 [sD ⟨#[114,108,101,102]⟩,.is (.int .u8 102)] (bD true):=z'0 ⟨#[114,108,101,102]⟩ (by decide) 102
 have qn:Pure Tryz.prog 161 [sD ⟨#[114,108,101,102]⟩,.is (.int .u8 110)] (bD false):=z'0 ⟨#[114,108,101,102]⟩ (by decide) 110
 have qt:Pure Tryz.prog 161 [sD ⟨#[114,108,101,102]⟩,.is (.int .u8 116)] (bD false):=z'0 ⟨#[114,108,101,102]⟩ (by decide) 116
 have hO:x'Y ⟨5,reg,loc,e,f,ne,to⟩ regs locs many=(inB reg regs&&inB loc locs&&(to == 0)&&y'X e [] regs 0&&y'X f [] regs 0&&(false|| !ne)):=rfl
 rw[hO]
 refine Fun.of T [.tmp 8] Tryz.func135 rfl Tryz.ntmps135 Tryz.results135 rfl (by kernel_rfl) ?_
 repeat' first|refine vb rfl rfl rfl rfl ?_|refine vs T rfl fun K hK=>?_;(try simp (disch:=omega) only[go_sem,Nat.reduceBEq,Nat.reduceAdd,z'i,z'q]);(first|refine hK _ _ ?_;clear hK K|refine Op1.callp rfl rfl (cp) rfl ?_;refine hK _ _ ?_;clear hK K|refine Op1.callp rfl rfl (ci1) rfl ?_;refine hK _ _ ?_;clear hK K|refine Op1.callp rfl rfl (ci2) rfl ?_;refine hK _ _ ?_;clear hK K|refine Op1.callp rfl rfl (ce) rfl ?_;refine hK _ _ ?_;clear hK K|refine Op1.callp rfl rfl (cf) rfl ?_;refine hK _ _ ?_;clear hK K|refine Op1.callp rfl rfl (qr) rfl ?_;refine hK _ _ ?_;clear hK K|refine Op1.callp rfl rfl (ql) rfl ?_;refine hK _ _ ?_;clear hK K|refine Op1.callp rfl rfl (qe) rfl ?_;refine hK _ _ ?_;clear hK K|refine Op1.callp rfl rfl (qf) rfl ?_;refine hK _ _ ?_;clear hK K|refine Op1.callp rfl rfl (qn) rfl ?_;refine hK _ _ ?_;clear hK K|refine Op1.callp rfl rfl (qt) rfl ?_;refine hK _ _ ?_;clear hK K)|refine st rfl ?_|refine sc rfl ?_|refine nl ?_|refine gs rfl rfl ?_|refine gu rfl rfl ?_|refine z'j T (z'a _) ?_;(try simp only[upd,Nat.reduceBEq,cond_true,cond_false,and_true])|with_reducible refine z's (fun hc=>?_) (fun hc=>?_)<;>(try simp only[bne_iff_ne,bne_eq_false_iff_eq,ne_eq,y'C,y'3]at hc)
 all_goals clear cp ci1 ci2 ci3 ce cf qr ql qe qf qn qt hO
 all_goals first|(simp_all[-List.length_eq_zero_iff];done)|(cases ne<;>simp_all[-List.length_eq_zero_iff];done)|(simp_all[-List.length_eq_zero_iff];omega)|(cases ne<;>simp_all[-List.length_eq_zero_iff]<;>omega)
theorem Zns (reg loc:Int) (e f:List Opc) (ne:Bool) (to:Int) (he:e.length≤1000) (hf:f.length≤1000) (regs locs many:Int):Pure Tryz.prog 135 [.agg [iD 6,iD reg,iD loc,z'R e,z'R f,bD ne,iD to],iD regs,iD locs,iD many] (bD (x'Y ⟨6,reg,loc,e,f,ne,to⟩ regs locs many)):=by
 have cp:Pure Tryz.prog 160 [iD 6] (.tup [sD ⟨#[114,108,101]⟩,bD true]):=w'3 6
 have ci1:=x't reg regs
 have ci2:=x't loc locs
 have ci3:=x't to many
 have ce:Pure Tryz.prog 163 [z'R e,.gs none 0,iD regs,iD 0] (bD (y'X e [] regs 0)):=Fun.argsW (x'q e he [] (by simp) regs 0) (x'u y'v)
 have cf:Pure Tryz.prog 163 [z'R f,.gs none 0,iD regs,iD 0] (bD (y'X f [] regs 0)):=Fun.argsW (x'q f hf [] (by simp) regs 0) (x'u y'v)
 have qr:Pure Tryz.prog 161 [sD ⟨#[114,108,101]⟩,.is (.int .u8 114)] (bD true):=z'0 ⟨#[114,108,101]⟩ (by decide) 114
 have ql:Pure Tryz.prog 161 [sD ⟨#[114,108,101]⟩,.is (.int .u8 108)] (bD true):=z'0 ⟨#[114,108,101]⟩ (by decide) 108
 have qe:Pure Tryz.prog 161 [sD ⟨#[114,108,101]⟩,.is (.int .u8 101)] (bD true):=z'0 ⟨#[114,108,101]⟩ (by decide) 101
 have qf:Pure Tryz.prog 161 [sD ⟨#[114,108,101]⟩,.is (.int .u8 102)] (bD false):=z'0 ⟨#[114,108,101]⟩ (by decide) 102
 have qn:Pure Tryz.prog 161 [sD ⟨#[114,108,101]⟩,.is (.int .u8 110)] (bD false):=z'0 ⟨#[114,108,101]⟩ (by decide) 110
 have qt:Pure Tryz.prog 161 [sD ⟨#[114,108,101]⟩,.is (.int .u8 116)] (bD false):=z'0 ⟨#[114,108,101]⟩ (by decide) 116
 have hO:x'Y ⟨6,reg,loc,e,f,ne,to⟩ regs locs many=(inB reg regs&&inB loc locs&&(to == 0)&&y'X e [] regs 0&&decide (f.length=0)&&(false|| !ne)):=rfl
 rw[hO]
 refine Fun.of T [.tmp 8] Tryz.func135 rfl Tryz.ntmps135 Tryz.results135 rfl (by kernel_rfl) ?_
 repeat' first|refine vb rfl rfl rfl rfl ?_|refine vs T rfl fun K hK=>?_;(try simp (disch:=omega) only[go_sem,Nat.reduceBEq,Nat.reduceAdd,z'O,z'i,z'q]);(first|refine hK _ _ ?_;clear hK K|refine Op1.callp rfl rfl (cp) rfl ?_;refine hK _ _ ?_;clear hK K|refine Op1.callp rfl rfl (ci1) rfl ?_;refine hK _ _ ?_;clear hK K|refine Op1.callp rfl rfl (ci2) rfl ?_;refine hK _ _ ?_;clear hK K|refine Op1.callp rfl rfl (ce) rfl ?_;refine hK _ _ ?_;clear hK K|refine Op1.callp rfl rfl (qr) rfl ?_;refine hK _ _ ?_;clear hK K|refine Op1.callp rfl rfl (ql) rfl ?_;refine hK _ _ ?_;clear hK K|refine Op1.callp rfl rfl (qe) rfl ?_;refine hK _ _ ?_;clear hK K|refine Op1.callp rfl rfl (qf) rfl ?_;refine hK _ _ ?_;clear hK K|refine Op1.callp rfl rfl (qn) rfl ?_;refine hK _ _ ?_;clear hK K|refine Op1.callp rfl rfl (qt) rfl ?_;refine hK _ _ ?_;clear hK K)|refine st rfl ?_|refine sc rfl ?_|refine nl ?_|refine gs rfl rfl ?_|refine gu rfl rfl ?_|refine z'j T (z'a _) ?_;(try simp only[upd,Nat.reduceBEq,cond_true,cond_false,and_true])|with_reducible refine z's (fun hc=>?_) (fun hc=>?_)<;>(try simp only[decide_eq_true_eq,decide_eq_false_iff_not,bne_iff_ne,bne_eq_false_iff_eq,ne_eq,y'C,y'3,gt_iff_lt,z'u]at hc)
 all_goals clear cp ci1 ci2 ci3 ce cf qr ql qe qf qn qt hO
 all_goals first|(simp_all[-List.length_eq_zero_iff];done)|(cases ne<;>simp_all[-List.length_eq_zero_iff];done)|(simp_all[-List.length_eq_zero_iff];omega)|(cases ne<;>simp_all[-List.length_eq_zero_iff]<;>omega)
theorem ZoB (reg loc:Int) (e f:List Opc) (ne:Bool) (to:Int) (he:e.length≤1000) (hf:f.length≤1000) (regs locs many:Int):Pure Tryz.prog 135 [.agg [iD 7,iD reg,iD loc,z'R e,z'R f,bD ne,iD to],iD regs,iD locs,iD many] (bD (x'Y ⟨7,reg,loc,e,f,ne,to⟩ regs locs many)):=by
 have cp:Pure Tryz.prog 160 [iD 7] (.tup [sD ⟨#[114,108,101]⟩,bD true]):=w'3 7
 have ci1:=x't reg regs
 have ci2:=x't loc locs
 have ci3:=x't to many
 have ce:Pure Tryz.prog 163 [z'R e,.gs none 0,iD regs,iD 0] (bD (y'X e [] regs 0)):=Fun.argsW (x'q e he [] (by simp) regs 0) (x'u y'v)
 have cf:Pure Tryz.prog 163 [z'R f,.gs none 0,iD regs,iD 0] (bD (y'X f [] regs 0)):=Fun.argsW (x'q f hf [] (by simp) regs 0) (x'u y'v)
 have qr:Pure Tryz.prog 161 [sD ⟨#[114,108,101]⟩,.is (.int .u8 114)] (bD true):=z'0 ⟨#[114,108,101]⟩ (by decide) 114
 have ql:Pure Tryz.prog 161 [sD ⟨#[114,108,101]⟩,.is (.int .u8 108)] (bD true):=z'0 ⟨#[114,108,101]⟩ (by decide) 108
 have qe:Pure Tryz.prog 161 [sD ⟨#[114,108,101]⟩,.is (.int .u8 101)] (bD true):=z'0 ⟨#[114,108,101]⟩ (by decide) 101
 have qf:Pure Tryz.prog 161 [sD ⟨#[114,108,101]⟩,.is (.int .u8 102)] (bD false):=z'0 ⟨#[114,108,101]⟩ (by decide) 102
 have qn:Pure Tryz.prog 161 [sD ⟨#[114,108,101]⟩,.is (.int .u8 110)] (bD false):=z'0 ⟨#[114,108,101]⟩ (by decide) 110
 have qt:Pure Tryz.prog 161 [sD ⟨#[114,108,101]⟩,.is (.int .u8 116)] (bD false):=z'0 ⟨#[114,108,101]⟩ (by decide) 116
 have hO:x'Y ⟨7,reg,loc,e,f,ne,to⟩ regs locs many=(inB reg regs&&inB loc locs&&(to == 0)&&y'X e [] regs 0&&decide (f.length=0)&&(false|| !ne)):=rfl
 rw[hO]
 refine Fun.of T [.tmp 8] Tryz.func135 rfl Tryz.ntmps135 Tryz.results135 rfl (by kernel_rfl) ?_
 repeat' first|refine vb rfl rfl rfl rfl ?_|refine vs T rfl fun K hK=>?_;(try simp (disch:=omega) only[go_sem,Nat.reduceBEq,Nat.reduceAdd,z'O,z'i,z'q]);(first|refine hK _ _ ?_;clear hK K|refine Op1.callp rfl rfl (cp) rfl ?_;refine hK _ _ ?_;clear hK K|refine Op1.callp rfl rfl (ci1) rfl ?_;refine hK _ _ ?_;clear hK K|refine Op1.callp rfl rfl (ci2) rfl ?_;refine hK _ _ ?_;clear hK K|refine Op1.callp rfl rfl (ce) rfl ?_;refine hK _ _ ?_;clear hK K|refine Op1.callp rfl rfl (qr) rfl ?_;refine hK _ _ ?_;clear hK K|refine Op1.callp rfl rfl (ql) rfl ?_;refine hK _ _ ?_;clear hK K|refine Op1.callp rfl rfl (qe) rfl ?_;refine hK _ _ ?_;clear hK K|refine Op1.callp rfl rfl (qf) rfl ?_;refine hK _ _ ?_;clear hK K|refine Op1.callp rfl rfl (qn) rfl ?_;refine hK _ _ ?_;clear hK K|refine Op1.callp rfl rfl (qt) rfl ?_;refine hK _ _ ?_;clear hK K)|refine st rfl ?_|refine sc rfl ?_|refine nl ?_|refine gs rfl rfl ?_|refine gu rfl rfl ?_|refine z'j T (z'a _) ?_;(try simp only[upd,Nat.reduceBEq,cond_true,cond_false,and_true])|with_reducible refine z's (fun hc=>?_) (fun hc=>?_)<;>(try simp only[decide_eq_true_eq,decide_eq_false_iff_not,bne_iff_ne,bne_eq_false_iff_eq,ne_eq,y'C,y'3,gt_iff_lt,z'u]at hc)
 all_goals clear cp ci1 ci2 ci3 ce cf qr ql qe qf qn qt hO
 all_goals first|(simp_all[-List.length_eq_zero_iff];done)|(cases ne<;>simp_all[-List.length_eq_zero_iff];done)|(simp_all[-List.length_eq_zero_iff];omega)|(cases ne<;>simp_all[-List.length_eq_zero_iff]<;>omega)
theorem ZnA (reg loc:Int) (e f:List Opc) (ne:Bool) (to:Int) (he:e.length≤1000) (hf:f.length≤1000) (regs locs many:Int):Pure Tryz.prog 135 [.agg [iD 8,iD reg,iD loc,z'R e,z'R f,bD ne,iD to],iD regs,iD locs,iD many] (bD (x'Y ⟨8,reg,loc,e,f,ne,to⟩ regs locs many)):=by
 have cp:Pure Tryz.prog 160 [iD 8] (.tup [sD ⟨#[]⟩,bD true]):=w'3 8
 have ci1:=x't reg regs
 have ci2:=x't loc locs
 have ci3:=x't to many
 have ce:Pure Tryz.prog 163 [z'R e,.gs none 0,iD regs,iD 0] (bD (y'X e [] regs 0)):=Fun.argsW (x'q e he [] (by simp) regs 0) (x'u y'v)
 have cf:Pure Tryz.prog 163 [z'R f,.gs none 0,iD regs,iD 0] (bD (y'X f [] regs 0)):=Fun.argsW (x'q f hf [] (by simp) regs 0) (x'u y'v)
 have qr:Pure Tryz.prog 161 [sD ⟨#[]⟩,.is (.int .u8 114)] (bD false):=z'0 ⟨#[]⟩ (by decide) 114
 have ql:Pure Tryz.prog 161 [sD ⟨#[]⟩,.is (.int .u8 108)] (bD false):=z'0 ⟨#[]⟩ (by decide) 108
 have qe:Pure Tryz.prog 161 [sD ⟨#[]⟩,.is (.int .u8 101)] (bD false):=z'0 ⟨#[]⟩ (by decide) 101
 have qf:Pure Tryz.prog 161 [sD ⟨#[]⟩,.is (.int .u8 102)] (bD false):=z'0 ⟨#[]⟩ (by decide) 102
 have qn:Pure Tryz.prog 161 [sD ⟨#[]⟩,.is (.int .u8 110)] (bD false):=z'0 ⟨#[]⟩ (by decide) 110
 have qt:Pure Tryz.prog 161 [sD ⟨#[]⟩,.is (.int .u8 116)] (bD false):=z'0 ⟨#[]⟩ (by decide) 116
 have hO:x'Y ⟨8,reg,loc,e,f,ne,to⟩ regs locs many=((reg == 0)&&(loc == 0)&&(to == 0)&&decide (e.length=0)&&decide (f.length=0)&&(false|| !ne)):=rfl
 rw[hO]
 refine Fun.of T [.tmp 8] Tryz.func135 rfl Tryz.ntmps135 Tryz.results135 rfl (by kernel_rfl) ?_
 repeat' first|refine vb rfl rfl rfl rfl ?_|refine vs T rfl fun K hK=>?_;(try simp (disch:=omega) only[go_sem,Nat.reduceBEq,Nat.reduceAdd,z'O,z'i,z'q]);(first|refine hK _ _ ?_;clear hK K|refine Op1.callp rfl rfl (cp) rfl ?_;refine hK _ _ ?_;clear hK K|refine Op1.callp rfl rfl (qr) rfl ?_;refine hK _ _ ?_;clear hK K|refine Op1.callp rfl rfl (ql) rfl ?_;refine hK _ _ ?_;clear hK K|refine Op1.callp rfl rfl (qe) rfl ?_;refine hK _ _ ?_;clear hK K|refine Op1.callp rfl rfl (qf) rfl ?_;refine hK _ _ ?_;clear hK K|refine Op1.callp rfl rfl (qn) rfl ?_;refine hK _ _ ?_;clear hK K|refine Op1.callp rfl rfl (qt) rfl ?_;refine hK _ _ ?_;clear hK K)|refine st rfl ?_|refine sc rfl ?_|refine nl ?_|refine gs rfl rfl ?_|refine gu rfl rfl ?_|refine z'j T (z'a _) ?_;(try simp only[upd,Nat.reduceBEq,cond_true,cond_false,and_true])|with_reducible refine z's (fun hc=>?_) (fun hc=>?_)<;>(try simp only[decide_eq_true_eq,decide_eq_false_iff_not,bne_iff_ne,bne_eq_false_iff_eq,ne_eq,gt_iff_lt,z'u]at hc)
 all_goals clear cp ci1 ci2 ci3 ce cf qr ql qe qf qn qt hO
 all_goals first|(simp_all[-List.length_eq_zero_iff];done)|(cases ne<;>simp_all[-List.length_eq_zero_iff];done)|(simp_all[-List.length_eq_zero_iff];omega)|(cases ne<;>simp_all[-List.length_eq_zero_iff]<;>omega)
theorem ZoC (reg loc:Int) (e f:List Opc) (ne:Bool) (to:Int) (he:e.length≤1000) (hf:f.length≤1000) (regs locs many:Int):Pure Tryz.prog 135 [.agg [iD 9,iD reg,iD loc,z'R e,z'R f,bD ne,iD to],iD regs,iD locs,iD many] (bD (x'Y ⟨9,reg,loc,e,f,ne,to⟩ regs locs many)):=by
 have cp:Pure Tryz.prog 160 [iD 9] (.tup [sD ⟨#[108,101,110]⟩,bD true]):=w'3 9
 have ci1:=x't reg regs
 have ci2:=x't loc locs
 have ci3:=x't to many
 have ce:Pure Tryz.prog 163 [z'R e,.gs none 0,iD regs,iD 0] (bD (y'X e [] regs 0)):=Fun.argsW (x'q e he [] (by simp) regs 0) (x'u y'v)
 have cf:Pure Tryz.prog 163 [z'R f,.gs none 0,iD regs,iD 0] (bD (y'X f [] regs 0)):=Fun.argsW (x'q f hf [] (by simp) regs 0) (x'u y'v)
 have qr:Pure Tryz.prog 161 [sD ⟨#[108,101,110]⟩,.is (.int .u8 114)] (bD false):=z'0 ⟨#[108,101,110]⟩ (by decide) 114
 have ql:Pure Tryz.prog 161 [sD ⟨#[108,101,110]⟩,.is (.int .u8 108)] (bD true):=z'0 ⟨#[108,101,110]⟩ (by decide) 108
 have qe:Pure Tryz.prog 161 [sD ⟨#[108,101,110]⟩,.is (.int .u8 101)] (bD true):=z'0 ⟨#[108,101,110]⟩ (by decide) 101
 have qf:Pure Tryz.prog 161 [sD ⟨#[108,101,110]⟩,.is (.int .u8 102)] (bD false):=z'0 ⟨#[108,101,110]⟩ (by decide) 102
 have qn:Pure Tryz.prog 161 [sD ⟨#[108,101,110]⟩,.is (.int .u8 110)] (bD true):=z'0 ⟨#[108,101,110]⟩ (by decide) 110
 have qt:Pure Tryz.prog 161 [sD ⟨#[108,101,110]⟩,.is (.int .u8 116)] (bD false):=z'0 ⟨#[108,101,110]⟩ (by decide) 116
 have hO:x'Y ⟨9,reg,loc,e,f,ne,to⟩ regs locs many=((reg == 0)&&inB loc locs&&(to == 0)&&y'X e [] regs 0&&decide (f.length=0)&&(true|| !ne)):=rfl
 rw[hO]
 refine Fun.of T [.tmp 8] Tryz.func135 rfl Tryz.ntmps135 Tryz.results135 rfl (by kernel_rfl) ?_
 repeat' first|refine vb rfl rfl rfl rfl ?_|refine vs T rfl fun K hK=>?_;(try simp (disch:=omega) only[go_sem,Nat.reduceBEq,Nat.reduceAdd,z'O,z'i,z'q]);(first|refine hK _ _ ?_;clear hK K|refine Op1.callp rfl rfl (cp) rfl ?_;refine hK _ _ ?_;clear hK K|refine Op1.callp rfl rfl (ci2) rfl ?_;refine hK _ _ ?_;clear hK K|refine Op1.callp rfl rfl (ce) rfl ?_;refine hK _ _ ?_;clear hK K|refine Op1.callp rfl rfl (qr) rfl ?_;refine hK _ _ ?_;clear hK K|refine Op1.callp rfl rfl (ql) rfl ?_;refine hK _ _ ?_;clear hK K|refine Op1.callp rfl rfl (qe) rfl ?_;refine hK _ _ ?_;clear hK K|refine Op1.callp rfl rfl (qf) rfl ?_;refine hK _ _ ?_;clear hK K|refine Op1.callp rfl rfl (qn) rfl ?_;refine hK _ _ ?_;clear hK K|refine Op1.callp rfl rfl (qt) rfl ?_;refine hK _ _ ?_;clear hK K)|refine st rfl ?_|refine sc rfl ?_|refine nl ?_|refine gs rfl rfl ?_|refine gu rfl rfl ?_|refine z'j T (z'a _) ?_;(try simp only[upd,Nat.reduceBEq,cond_true,cond_false,and_true])|with_reducible refine z's (fun hc=>?_) (fun hc=>?_)<;>(try simp only[decide_eq_true_eq,decide_eq_false_iff_not,bne_iff_ne,bne_eq_false_iff_eq,ne_eq,y'C,y'3,gt_iff_lt,z'u]at hc)
 all_goals clear cp ci1 ci2 ci3 ce cf qr ql qe qf qn qt hO
 all_goals first|(simp_all[-List.length_eq_zero_iff];done)|(cases ne<;>simp_all[-List.length_eq_zero_iff];done)|(simp_all[-List.length_eq_zero_iff];omega)|(cases ne<;>simp_all[-List.length_eq_zero_iff]<;>omega)
theorem ZmE (reg loc:Int) (e f:List Opc) (ne:Bool) (to:Int) (he:e.length≤1000) (hf:f.length≤1000) (regs locs many:Int):Pure Tryz.prog 135 [.agg [iD 20,iD reg,iD loc,z'R e,z'R f,bD ne,iD to],iD regs,iD locs,iD many] (bD (x'Y ⟨20,reg,loc,e,f,ne,to⟩ regs locs many)):=by
 have cp:Pure Tryz.prog 160 [iD 20] (.tup [sD ⟨#[116]⟩,bD true]):=w'3 20
 have ci1:=x't reg regs
 have ci2:=x't loc locs
 have ci3:=x't to many
 have ce:Pure Tryz.prog 163 [z'R e,.gs none 0,iD regs,iD 0] (bD (y'X e [] regs 0)):=Fun.argsW (x'q e he [] (by simp) regs 0) (x'u y'v)
 have cf:Pure Tryz.prog 163 [z'R f,.gs none 0,iD regs,iD 0] (bD (y'X f [] regs 0)):=Fun.argsW (x'q f hf [] (by simp) regs 0) (x'u y'v)
 have qr:Pure Tryz.prog 161 [sD ⟨#[116]⟩,.is (.int .u8 114)] (bD false):=z'0 ⟨#[116]⟩ (by decide) 114
 have ql:Pure Tryz.prog 161 [sD ⟨#[116]⟩,.is (.int .u8 108)] (bD false):=z'0 ⟨#[116]⟩ (by decide) 108
 have qe:Pure Tryz.prog 161 [sD ⟨#[116]⟩,.is (.int .u8 101)] (bD false):=z'0 ⟨#[116]⟩ (by decide) 101
 have qf:Pure Tryz.prog 161 [sD ⟨#[116]⟩,.is (.int .u8 102)] (bD false):=z'0 ⟨#[116]⟩ (by decide) 102
 have qn:Pure Tryz.prog 161 [sD ⟨#[116]⟩,.is (.int .u8 110)] (bD false):=z'0 ⟨#[116]⟩ (by decide) 110
 have qt:Pure Tryz.prog 161 [sD ⟨#[116]⟩,.is (.int .u8 116)] (bD true):=z'0 ⟨#[116]⟩ (by decide) 116
 have hO:x'Y ⟨20,reg,loc,e,f,ne,to⟩ regs locs many=((reg == 0)&&(loc == 0)&&inB to many&&decide (e.length=0)&&decide (f.length=0)&&(false|| !ne)):=rfl
 rw[hO]
 refine Fun.of T [.tmp 8] Tryz.func135 rfl Tryz.ntmps135 Tryz.results135 rfl (by kernel_rfl) ?_
 repeat' first|refine vb rfl rfl rfl rfl ?_|refine vs T rfl fun K hK=>?_;(try simp (disch:=omega) only[go_sem,Nat.reduceBEq,Nat.reduceAdd,z'O,z'i,z'q]);(first|refine hK _ _ ?_;clear hK K|refine Op1.callp rfl rfl (cp) rfl ?_;refine hK _ _ ?_;clear hK K|refine Op1.callp rfl rfl (ci3) rfl ?_;refine hK _ _ ?_;clear hK K|refine Op1.callp rfl rfl (qr) rfl ?_;refine hK _ _ ?_;clear hK K|refine Op1.callp rfl rfl (ql) rfl ?_;refine hK _ _ ?_;clear hK K|refine Op1.callp rfl rfl (qe) rfl ?_;refine hK _ _ ?_;clear hK K|refine Op1.callp rfl rfl (qf) rfl ?_;refine hK _ _ ?_;clear hK K|refine Op1.callp rfl rfl (qn) rfl ?_;refine hK _ _ ?_;clear hK K|refine Op1.callp rfl rfl (qt) rfl ?_;refine hK _ _ ?_;clear hK K)|refine st rfl ?_|refine sc rfl ?_|refine nl ?_|refine gs rfl rfl ?_|refine gu rfl rfl ?_|refine z'j T (z'a _) ?_;(try simp only[upd,Nat.reduceBEq,cond_true,cond_false,and_true])|with_reducible refine z's (fun hc=>?_) (fun hc=>?_)<;>(try simp only[decide_eq_true_eq,decide_eq_false_iff_not,bne_iff_ne,bne_eq_false_iff_eq,ne_eq,y'C,y'3,gt_iff_lt,z'u]at hc)
 all_goals clear cp ci1 ci2 ci3 ce cf qr ql qe qf qn qt hO
 all_goals first|(simp_all[-List.length_eq_zero_iff];done)|(cases ne<;>simp_all[-List.length_eq_zero_iff];done)|(simp_all[-List.length_eq_zero_iff];omega)|(cases ne<;>simp_all[-List.length_eq_zero_iff]<;>omega)
theorem ZmU (reg loc:Int) (e f:List Opc) (ne:Bool) (to:Int) (he:e.length≤1000) (hf:f.length≤1000) (regs locs many:Int):Pure Tryz.prog 135 [.agg [iD 21,iD reg,iD loc,z'R e,z'R f,bD ne,iD to],iD regs,iD locs,iD many] (bD (x'Y ⟨21,reg,loc,e,f,ne,to⟩ regs locs many)):=by
 have cp:Pure Tryz.prog 160 [iD 21] (.tup [sD ⟨#[101,116]⟩,bD true]):=w'3 21
 have ci1:=x't reg regs
 have ci2:=x't loc locs
 have ci3:=x't to many
 have ce:Pure Tryz.prog 163 [z'R e,.gs none 0,iD regs,iD 0] (bD (y'X e [] regs 0)):=Fun.argsW (x'q e he [] (by simp) regs 0) (x'u y'v)
 have cf:Pure Tryz.prog 163 [z'R f,.gs none 0,iD regs,iD 0] (bD (y'X f [] regs 0)):=Fun.argsW (x'q f hf [] (by simp) regs 0) (x'u y'v)
 have qr:Pure Tryz.prog 161 [sD ⟨#[101,116]⟩,.is (.int .u8 114)] (bD false):=z'0 ⟨#[101,116]⟩ (by decide) 114
 have ql:Pure Tryz.prog 161 [sD ⟨#[101,116]⟩,.is (.int .u8 108)] (bD false):=z'0 ⟨#[101,116]⟩ (by decide) 108
 have qe:Pure Tryz.prog 161 [sD ⟨#[101,116]⟩,.is (.int .u8 101)] (bD true):=z'0 ⟨#[101,116]⟩ (by decide) 101
 have qf:Pure Tryz.prog 161 [sD ⟨#[101,116]⟩,.is (.int .u8 102)] (bD false):=z'0 ⟨#[101,116]⟩ (by decide) 102
 have qn:Pure Tryz.prog 161 [sD ⟨#[101,116]⟩,.is (.int .u8 110)] (bD false):=z'0 ⟨#[101,116]⟩ (by decide) 110
 have qt:Pure Tryz.prog 161 [sD ⟨#[101,116]⟩,.is (.int .u8 116)] (bD true):=z'0 ⟨#[101,116]⟩ (by decide) 116
 have hO:x'Y ⟨21,reg,loc,e,f,ne,to⟩ regs locs many=((reg == 0)&&(loc == 0)&&inB to many&&y'X e [] regs 0&&decide (f.length=0)&&(false|| !ne)):=rfl
 rw[hO]
 refine Fun.of T [.tmp 8] Tryz.func135 rfl Tryz.ntmps135 Tryz.results135 rfl (by kernel_rfl) ?_
 repeat' first|refine vb rfl rfl rfl rfl ?_|refine vs T rfl fun K hK=>?_;(try simp (disch:=omega) only[go_sem,Nat.reduceBEq,Nat.reduceAdd,z'O,z'i,z'q]);(first|refine hK _ _ ?_;clear hK K|refine Op1.callp rfl rfl (cp) rfl ?_;refine hK _ _ ?_;clear hK K|refine Op1.callp rfl rfl (ci3) rfl ?_;refine hK _ _ ?_;clear hK K|refine Op1.callp rfl rfl (ce) rfl ?_;refine hK _ _ ?_;clear hK K|refine Op1.callp rfl rfl (qr) rfl ?_;refine hK _ _ ?_;clear hK K|refine Op1.callp rfl rfl (ql) rfl ?_;refine hK _ _ ?_;clear hK K|refine Op1.callp rfl rfl (qe) rfl ?_;refine hK _ _ ?_;clear hK K|refine Op1.callp rfl rfl (qf) rfl ?_;refine hK _ _ ?_;clear hK K|refine Op1.callp rfl rfl (qn) rfl ?_;refine hK _ _ ?_;clear hK K|refine Op1.callp rfl rfl (qt) rfl ?_;refine hK _ _ ?_;clear hK K)|refine st rfl ?_|refine sc rfl ?_|refine nl ?_|refine gs rfl rfl ?_|refine gu rfl rfl ?_|refine z'j T (z'a _) ?_;(try simp only[upd,Nat.reduceBEq,cond_true,cond_false,and_true])|with_reducible refine z's (fun hc=>?_) (fun hc=>?_)<;>(try simp only[decide_eq_true_eq,decide_eq_false_iff_not,bne_iff_ne,bne_eq_false_iff_eq,ne_eq,y'C,y'3,gt_iff_lt,z'u]at hc)
 all_goals clear cp ci1 ci2 ci3 ce cf qr ql qe qf qn qt hO
 all_goals first|(simp_all[-List.length_eq_zero_iff];done)|(cases ne<;>simp_all[-List.length_eq_zero_iff];done)|(simp_all[-List.length_eq_zero_iff];omega)|(cases ne<;>simp_all[-List.length_eq_zero_iff]<;>omega)
theorem Zl2 (x:Ins) (he:x.e.length≤1000) (hf:x.f.length≤1000) (regs locs many:Int):Pure Tryz.prog 135 [.agg (v'B x),iD regs,iD locs,iD many] (bD (x'Y x regs locs many)):=by
 obtain⟨op,reg,loc,e,f,ne,to⟩:=x
 by_cases h2:op=2
 ·subst h2;exact Zoz reg loc e f ne to he hf regs locs many
 by_cases h3:op=3
 ·subst h3;exact Znq reg loc e f ne to he hf regs locs many
 by_cases h4:op=4
 ·subst h4;exact ZoQ reg loc e f ne to he hf regs locs many
 by_cases h5:op=5
 ·subst h5;exact ZoW reg loc e f ne to he hf regs locs many
 by_cases h6:op=6
 ·subst h6;exact Zns reg loc e f ne to he hf regs locs many
 by_cases h7:op=7
 ·subst h7;exact ZoB reg loc e f ne to he hf regs locs many
 by_cases h8:op=8
 ·subst h8;exact ZnA reg loc e f ne to he hf regs locs many
 by_cases h9:op=9
 ·subst h9;exact ZoC reg loc e f ne to he hf regs locs many
 by_cases h20:op=20
 ·subst h20;exact ZmE reg loc e f ne to he hf regs locs many
 by_cases h21:op=21
 ·subst h21;exact ZmU reg loc e f ne to he hf regs locs many
 have hn:ZeT op=none:=by simp only[ZeT,h2,h3,h4,h5,h6,h7,h8,h9,h20,h21,if_false]
 have cp:Pure Tryz.prog 160 [iD op] (.tup [sD ⟨#[]⟩,bD false]):=by have:=w'3 op;rw[hn]at this;exact this
 have hO:x'Y ⟨op,reg,loc,e,f,ne,to⟩ regs locs many=false:=by simp[x'Y,ndF,h2,h3,h4,h5,h6,h7,h8,h9,h20,h21]
 rw[hO]
 refine Fun.of T [.tmp 8] Tryz.func135 rfl Tryz.ntmps135 Tryz.results135 rfl (by kernel_rfl) ?_
 repeat' first|refine vb rfl rfl rfl rfl ?_|refine vs T rfl fun K hK=>?_;(try simp (disch:=omega) only[go_sem,Nat.reduceBEq,Nat.reduceAdd,v'B,z'q]);(first|refine hK _ _ ?_;clear hK K|refine Op1.callp rfl rfl (cp) rfl ?_;refine hK _ _ ?_;clear hK K)|refine st rfl ?_|refine sc rfl ?_|refine nl ?_|exact z'j T (z'a _) ⟨rfl,rfl⟩
end Go.Proofs.YtomcmfbpmkklmaaGreat
