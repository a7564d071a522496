/- What a thread does. No condition. -/
import Derived.Test.YthlkpnjjkgmlkaaGreatYj
import Derived.Test.YthlkpnjjkgmlkaaGreatK2
namespace Go.Proofs.YthlkpnjjkgmlkaaGreat
set_option maxHeartbeats 16000000
set_option linter.unusedSimpArgs false
set_option linter.unusedVariables false
set_option maxRecDepth 20000
open Go Go.Proofs Go.Vc
attribute [local irreducible] x'c VCg VCw VCx
theorem VCd.weak {P:Program} {n j:Nat} {ops:Array Oper} {s s':St} {Q:Exit→St→Prop} (h:Weak s s') (hv:VCd P n ops j s' Q):VCd P n ops j s Q:=fun x a w listed hn hs=>hv x a w listed hn (h x a w hs)
theorem VCd.nodup {P:Program} {n j:Nat} {ops:Array Oper} {s:St} {Q:Exit→St→Prop} (h:s.heap.blocks.Nodup→VCd P n ops j s Q):VCd P n ops j s Q:=fun x a w listed hn hs=>h hs.inv.nodup x a w listed hn hs
theorem VCo.nodup {P:Program} {n:Nat} {ops:Array Oper} {l:List Oper} {s:St} {Q:Exit→St→Prop} (h:s.heap.blocks.Nodup→VCo P n ops l s Q):VCo P n ops l s Q:=fun x a w hn hs=>h hs.inv.nodup x a w hn hs
theorem Ztb (u:Un) (q:OC) (c:Cf) (hq:q.ok c) (m r:Int) (i:Nat) (x:Ins) (hx:AtX u c i x):Fun Tryz.prog 320 [.agg (unC u),.agg (q.cs c),iD m,iD r,iD (i:Nat)] (q.h c []) false
  (fun d H'=> ∃bd:Nat,True∧d= .tup [pD bd,bD true]∧H'=dW bd u q c m r (i:Nat) x):=by
 obtain⟨rw,p,h1,h2,h3,h4⟩:=hx.pc
 obtain⟨k,rfl⟩: ∃k:Nat,p=(k:Int):=⟨p.toNat,by omega⟩
 rw[z'q]at h4
 have l1:=(z'g.1 h1).1
 have l2:=(z'g.1 h2).1
 have l4:=(z'g.1 h4).1
 have r2:(Zax u.code)[i]?=some [.sl false 7 (w'o rw)]:=by rw[Zb3,h2];rfl
 have r4:(w'o rw)[k]?=some [iD x.op,iD x.reg,iD x.loc,y'8 x.e,y'8 x.f,bD x.ne,iD x.to]:=by rw[ZcV,h4];rfl
 have e1:decide ((i:Int)<0)=false:=by simp
 have e2:decide ((i:Int)≥(c.pc.length:Int))=false:=by simp;omega
 obtain⟨gp,gr,gm,gb,rs⟩:=q
 rcases gp with _|⟨b,cap⟩
 ·have h0:c.pc.length=0:=hq.pc
  omega
 refine Fun.of T [.tmp 10,.tmp 11] Tryz.func320 rfl Tryz.ntmps320 Tryz.results320 rfl (by kernel_rfl) ?_
 show VC _ _ _ ⟨ZcL [.agg (unC u),.agg [.gs (some (b,cap)) c.pc.length,.gs gr c.regs.length,.gs gm c.mem.length,.gs gb c.bufs.length],iD m,iD r,iD (i:Nat)] 0,(b,.cells 3 (cap*1) (c.pc.map iD))::shp gr 29 1 (rgC rs) (shp gm 3 1 (c.mem.map iD) (shp gb 119 1 (c.bufs.map buf) (rgH rs [])))⟩ _
 repeat' first|refine vb (t:=32) rfl rfl rfl rfl ?_|refine vb (t:=69) rfl rfl rfl rfl ?_|refine dr (id:=3) T 17 (by kernel_rfl) ?_|refine gn ?_|(apply VCg.step T rfl rfl);focus((try simp (disch:=omega) only[go_sem,Nat.reduceBEq,Nat.reduceAdd,Nat.reduceLeDiff,z'K,h1,r2,r4,x'r,x'W]);(first|exact rfl|refine⟨?_,rfl⟩;try omega))|refine vs T rfl fun K hK=>?_;(try simp (disch:=omega) only[go_sem,Nat.reduceBEq,Nat.reduceAdd,e1,e2,z'K]);(first|refine hK _ _ ?_;clear hK K|intro bq hbq;(try simp only[HB]at hbq);refine hK _ _ ?_;clear hK K)|refine st rfl ?_|refine sc rfl ?_|refine nl ?_|refine gs rfl rfl ?_
 first|exact w'd T (z'w _) ⟨bq,trivial,rfl,by simp[dW,OC.h,x'j]⟩|exact w'd T (z'w _) ⟨bq,rfl,by simp[dW,OC.h,x'j]⟩
def fnX (op:Int):Option Nat:=if op=2 then some 322 else if op=3 then some 323 else if op=4 then some 324 else if op=20 then some 325
 else if op=21 then some 326 else if op=5 then some 327 else if op=6 then some 328 else if op=7 then some 329 else none
abbrev fV (f:Nat):Value:= .func (.func f) #[] #[]
def ZdJ:List (Int×Value):=[(2,fV 322),(3,fV 323),(4,fV 324),(20,fV 325),(21,fV 326),(5,fV 327),(6,fV 328),(7,fV 329)]
theorem Zjq (op:Int):Zaj op ZdJ=(fnX op).map fV:=by
 unfold ZdJ fnX
 by_cases h2:op=2
 ·subst h2;rfl
 by_cases h3:op=3
 ·subst h3;rfl
 by_cases h4:op=4
 ·subst h4;rfl
 by_cases h20:op=20
 ·subst h20;rfl
 by_cases h21:op=21
 ·subst h21;rfl
 by_cases h5:op=5
 ·subst h5;rfl
 by_cases h6:op=6
 ·subst h6;rfl
 by_cases h7:op=7
 ·subst h7;rfl
 simp only[Zaj,h2,h3,h4,h20,h21,h5,h6,h7,if_false,beq_eq_false_iff_ne.2 h2,beq_eq_false_iff_ne.2 h3,beq_eq_false_iff_ne.2 h4,beq_eq_false_iff_ne.2 h20,beq_eq_false_iff_ne.2 h21,beq_eq_false_iff_ne.2 h5,beq_eq_false_iff_ne.2 h6,beq_eq_false_iff_ne.2 h7,cond_false]
 rfl
theorem ZrU {f:Nat} {bd:Nat} {u:Un} {q:OC} {c:Cf} (hq:q.ok c) {m r:Int} {i:Nat} {x:Ins} {row:List Int} {b:List En} (h:Fit u c i x row b) (hf:fnX x.op=some f):Za9 f bd u q c m r i x (w'4 u c m i x row b):=by
 unfold fnX at hf
 unfold w'4
 by_cases h2:x.op=2
 ·rw[if_pos h2]at hf;cases hf
  simp only[h2,show ¬((2:Int)=20) by decide,show ¬((2:Int)=21) by decide,if_false,if_true]
  exact Znk bd u q c hq m r i x row b h h2
 rw[if_neg h2]at hf
 by_cases h3:x.op=3
 ·rw[if_pos h3]at hf;cases hf
  simp only[h3,show ¬((3:Int)=20) by decide,show ¬((3:Int)=21) by decide,show ¬((3:Int)=2) by decide,if_false,if_true]
  exact Zsj bd u q c hq m r i x row b h h3
 rw[if_neg h3]at hf
 by_cases h4:x.op=4
 ·rw[if_pos h4]at hf;cases hf
  simp only[h4,show ¬((4:Int)=20) by decide,show ¬((4:Int)=21) by decide,show ¬((4:Int)=2) by decide,show ¬((4:Int)=3) by decide,if_false,if_true]
  by_cases hm:m=1
  ·rw[if_pos hm]
   exact Zrm bd u q c hq m r i x row b h h4 (by simpa using hm)
  ·rw[if_neg hm]
   exact Zs2 bd u q c h.okc hq m r (by simpa using hm) i x h.e row h.reg b h.buf
 rw[if_neg h4]at hf
 by_cases h20:x.op=20
 ·rw[if_pos h20]at hf;cases hf
  rw[if_pos h20]
  exact Zsg bd u q c hq m r i x row b h
 rw[if_neg h20]at hf
 by_cases h21:x.op=21
 ·rw[if_pos h21]at hf;cases hf
  rw[if_neg h20,if_pos h21]
  exact Zol bd u q c hq m r i x row b h
 rw[if_neg h21]at hf
 by_cases h5:x.op=5
 ·rw[if_pos h5]at hf;cases hf
  simp only[h5,show ¬((5:Int)=20) by decide,show ¬((5:Int)=21) by decide,show ¬((5:Int)=2) by decide,show ¬((5:Int)=3) by decide,show ¬((5:Int)=4) by decide,if_false,if_true]
  exact ZsS bd u q c hq m r i x row b h h5
 rw[if_neg h5]at hf
 by_cases h6:x.op=6
 ·rw[if_pos h6]at hf;cases hf
  simp only[h6,show ¬((6:Int)=20) by decide,show ¬((6:Int)=21) by decide,show ¬((6:Int)=2) by decide,show ¬((6:Int)=3) by decide,show ¬((6:Int)=4) by decide,show ¬((6:Int)=5) by decide,if_false,if_true]
  exact Zta bd u q c hq m r i x row b h h6
 rw[if_neg h6]at hf
 by_cases h7:x.op=7
 ·rw[if_pos h7]at hf;cases hf
  simp only[h7,show ¬((7:Int)=20) by decide,show ¬((7:Int)=21) by decide,show ¬((7:Int)=2) by decide,show ¬((7:Int)=3) by decide,show ¬((7:Int)=4) by decide,show ¬((7:Int)=5) by decide,show ¬((7:Int)=6) by decide,if_false,if_true]
  exact ZlU bd u q c hq m r i x row b h h7
 rw[if_neg h7]at hf
 cases hf
theorem ZpN {u:Un} {c:Cf} {m:Int} {i:Nat} {x:Ins} {row:List Int} {b:List En} (hf:fnX x.op=none):w'4 u c m i x row b=c:=by
 unfold fnX at hf
 unfold w'4
 repeat' split at hf
 all_goals first|cases hf|skip
 simp_all
theorem umX:Tryz.prog.underlying 347=some (.map 3 346):=by kernel_rfl
theorem zX:(Tryz.prog.info? 346).bind (·.zero)=some .nilFunc:=by kernel_rfl
theorem Zs9 (u:Un) (c:Cf) (hc:OkC c) (m r:Int) (i:Nat) (x:Ins) (row:List Int) (b0:List En) (h:Thr u c i x row b0) (p:Nat) (hp:c.pc[i]?=some (p:Int)) (hpl:p≤100000) (hF:Fit u (setP c i ((p+1:Nat):Int)) i x row b0):
  Fun Tryz.prog 318 [.agg (unC u),.agg (cfC c),iD m,iD r,iD (i:Nat)] [] false
  (fun d H'=> ∃q:OC,q.ok (match enT u c m r (i:Nat)with|true=>w'4 u (setP c i ((p+1:Nat):Int)) m i x row b0|false=>c)∧
   d= .tup [.agg (q.cs (match enT u c m r (i:Nat)with|true=>w'4 u (setP c i ((p+1:Nat):Int)) m i x row b0|false=>c)),bD (enT u c m r (i:Nat))]∧
   H'=q.h (match enT u c m r (i:Nat)with|true=>w'4 u (setP c i ((p+1:Nat):Int)) m i x row b0|false=>c) []):=by
 have hil:=(z'g.1 hp).1
 have cc:=ZdP c hc
 have hw:IntKind.i64.wrap ((p:Int)+1)=((p+1:Nat):Int):=by rw[w64 (by omega)];omega
 have ce:=Zhj u c hc m r i x h.e row h.reg b0 h.buf
 rw[←Zj4 h]at ce
 refine Fun.of T [.cell 10 69,.tmp 11] Tryz.func318 rfl Tryz.ntmps318 Tryz.results318 rfl (by kernel_rfl) ?_
 repeat' first|refine vb (t:=32) rfl rfl rfl rfl ?_|refine vb (t:=69) rfl rfl rfl rfl ?_|refine VC.drawS (id:=1) (by kernel_rfl) ?_|refine VCd.group T (s:=0) 6 11 rfl rfl (by kernel_rfl) (by kernel_rfl) (by kernel_rfl) ?_;(try simp only[y'a,Nat.reduceSub])|refine VCg.nil T ?_;simp only[ZaL,WB]|apply VCg.step T rfl rfl;focus((try simp (disch:=omega) only[go_sem,Nat.reduceBEq,Nat.reduceAdd,Nat.reduceLeDiff]);(exact rfl))|refine VCg.ownx T rfl rfl rfl rfl (cc) rfl ?_|refine vs T rfl fun K hK=>?_;(try simp (disch:=omega) only[go_sem,Nat.reduceAdd]);(first|refine hK _ _ ?_;clear hK K|intro bq hbq;(try simp only[HB]at hbq);refine hK _ _ ?_;clear hK K)|refine st rfl ?_|refine nl ?_
 rintro _ _ ⟨q,hq,rfl,rfl⟩ hap
 obtain⟨gp,gr,gm,gb,rs⟩:=q
 rcases gp with _|⟨b,cap⟩
 ·have h0:c.pc.length=0:=hq.pc
  omega
 refine VCd.one rfl (by decide) (by kernel_rfl) rfl rfl (fun K hK=>?_)
 refine Op1.cally (Hr:=[(bq,.cells 69 4 [.gs none 0,.gs none 0,.gs none 0,.gs none 0])]) rfl rfl (Ztb u _ c hq m r i x h.at_) rfl (z'9 _) (fun bd _=>?_)
 refine hK _ _ ?_
 clear hK K
 show VCd _ _ _ _ ⟨upd _ 24 (.tup [pD bd,bD true]),_⟩ _
 refine VCd.weak (Weak.perm (H':=(bq,.cells 69 4 [.gs none 0,.gs none 0,.gs none 0,.gs none 0])::dW bd u ⟨some (b,cap),gr,gm,gb,rs⟩ c m r (i:Nat) x) (y'6 fun a=>by simp only[y'I,y'N,y'V];omega)) ?_
 refine VCd.nodup fun hn=>?_
 have n1: ¬bq=bd:=fun h=>by subst h;simp[Heap.blocks,dW]at hn
 have n2: ¬bq=b:=fun h=>by subst h;simp[Heap.blocks,dW,OC.h,x'j]at hn
 have n3: ¬bd=b:=fun h=>by subst h;simp[Heap.blocks,dW,OC.h,x'j]at hn
 have hfz:=FzL.sub (H':=(bq,.cells 69 4 [.gs none 0,.gs none 0,.gs none 0,.gs none 0])::dW bd u ⟨some (b,cap),gr,gm,gb,rs⟩ c m r (i:Nat) x) (fun y hy=>z'k _ hy) (Zhg (bd:=bd) (u:=u) (m:=m) (r:=r) (t:=(i:Nat)) (x:=x) hq)
 cases hen:enT u c m r (i:Nat)with
 |false=>
  rw[hen]at ce
  repeat' first|refine VCd.tail (f:=11) (by kernel_rfl) ?_;(try simp only[y'j,y'a])|refine VCd.group T (s:=7) 11 11 rfl rfl (by kernel_rfl) (by kernel_rfl) (by kernel_rfl) ?_;(try simp only[y'j,y'a,Nat.reduceSub])|refine gn ?_|apply VCg.step T rfl rfl;focus((try simp (disch:=omega) only[go_sem,Nat.reduceBEq,dW]);(exact rfl))|refine vs T rfl fun K hK=>?_;(try simp (disch:=omega) only[go_sem,Nat.reduceBEq,Nat.reduceAdd,Nat.reduceLeDiff,dW,z'E,z'O]);(first|refine hK _ _ ?_;clear hK K|refine Op1.lend rfl rfl (ce) (hfz) (.inr rfl) ?_;refine hK _ _ ?_;clear hK K)|refine st rfl ?_|refine sc rfl ?_|refine nl ?_|refine ov ?_
  exact w'N T rfl (by(try simp (disch:=omega) only[hget_ne,hget_eq]);rfl) rfl rfl rfl ((z'0 _ _).trans (z'0 _ _)) ⟨⟨some (b,cap),gr,gm,gb,rs⟩,hq,rfl,rfl⟩
 |true=>
  rw[hen]at ce
  show VCd _ _ _ _ ⟨_,(bq,_)::(bd,.cells _ 18 (doO u ⟨some (b,cap),gr,gm,gb,rs⟩ c m r (i:Nat) x))::(b,.cells 3 (cap*1) (c.pc.map iD))::shp gr 29 1 (rgC rs) (shp gm 3 1 (c.mem.map iD) (shp gb 119 1 (c.bufs.map buf) (rgH rs [])))⟩ _
  have hp1:c.pc[i*1]?=some (p:Int):=by rw[z'K];exact hp
  repeat' first|refine vt rfl fun K hK=>?_;refine Zci rfl umX (fun x hx=>(by cases hx)) (fun bq hbq=>?_);(try simp only[HB]at hbq);refine hK _ _ ?_;clear hK K;(try simp only[updO])|refine vt rfl fun K hK=>?_;refine Zlg (by exact .inr rfl) umX Tryz.underlying3 rfl rfl rfl (by(try simp (disch:=omega) only[hget_eq]);rfl) (by rfl) ?_;refine hK _ _ ?_;clear hK K;(try simp (disch:=omega) only[updO,hset_eq,z'H,z'N])|refine VCd.tail (f:=11) (by kernel_rfl) ?_;(try simp only[y'j,y'a])|refine VCd.group T (s:=7) 11 11 rfl rfl (by kernel_rfl) (by kernel_rfl) (by kernel_rfl) ?_;(try simp only[y'j,y'a,Nat.reduceSub])|refine gn ?_|apply VCg.step T rfl rfl;focus((try simp (disch:=omega) only[go_sem,Nat.reduceBEq]);(exact rfl))|refine vs T rfl fun K hK=>?_;(try simp (disch:=omega) only[go_sem,Nat.reduceBEq,hp1,hw,z'E]);(first|refine hK _ _ ?_;clear hK K|refine⟨?_,hK _ _ ?_⟩<;>clear hK K;focus(try omega)|refine Op1.lend rfl rfl (ce) (hfz) (.inr rfl) ?_;refine hK _ _ ?_;clear hK K|skip)|refine st rfl ?_|refine sc rfl ?_|refine nl ?_|refine ov ?_
  rename_i bc hbc hx0
  refine Op1.cally (Hr:=[(bq,.obj (w'k ZdJ)),(bc,.cells 69 4 [.gs none 0,.gs none 0,.gs none 0,.gs none 0])]) rfl rfl (Ziq bd u _ c hq m r i hil x ((p+1:Nat):Int)) rfl (y'6 fun a=>by simp only[ZdJ,fV,dW,doO,OC.h,x'j,x'q,w'i,y'I,y'N,y'V];omega) (fun q1 hq1=>?_)
  refine hK _ _ ?_
  clear hK K
  try simp only[updO]
  refine vo ?_
  refine VCo.weak (Weak.perm (H':=(bq,.obj (w'k ZdJ))::(bc,.cells 69 4 [.gs none 0,.gs none 0,.gs none 0,.gs none 0])::dW bd u q1 (setP c i ((p+1:Nat):Int)) m r (i:Nat) x) (y'6 fun a=>by simp only[ZdJ,fV,dW,doO,OC.h,x'j,x'q,w'i,y'I,y'N,y'V];omega)) ?_
  refine VCo.nodup fun hn2=>?_
  have n4: ¬bq=bd:=fun h=>by subst h;simp[Heap.blocks,dW]at hn2
  have n5: ¬bc=bd:=fun h=>by subst h;simp[Heap.blocks,dW]at hn2
  have n6: ¬bq=bc:=fun h=>by subst h;simp[Heap.blocks,dW]at hn2
  repeat' first|refine vs T rfl fun K hK=>?_;(try simp (disch:=omega) only[go_sem,Nat.reduceBEq,dW]);(first|refine hK _ _ ?_;clear hK K|skip)|refine st rfl ?_|refine nl ?_|refine ov ?_
  cases hf:fnX x.op with
  |none=>
   refine ZiD rfl umX Tryz.underlying3 zX rfl rfl hget_eq (r:=(.nilFunc,false)) (by rw[Zjq,hf];rfl) (fun cs h=>by cases h) ?_
   refine hK _ _ ?_
   clear hK K
   try simp only[updO]
   rw[ZpN hf]
   repeat' first|refine vs T rfl fun K hK=>?_;(try simp (disch:=omega) only[go_sem,Nat.reduceBEq,Nat.reduceAdd,Nat.reduceLeDiff,ZaY]);(refine hK _ _ ?_;clear hK K)|refine st rfl ?_|refine sc rfl ?_|refine nl ?_
   exact w'N T rfl (by(try simp (disch:=omega) only[hget_ne,hget_eq]);rfl) rfl rfl rfl ((z'0 _ _).trans ((z'0 _ _).trans (z'0 _ _))) ⟨q1,hq1,rfl,rfl⟩
  |some f=>
   refine ZiD rfl umX Tryz.underlying3 zX rfl rfl hget_eq (r:=(fV f,true)) (by rw[Zjq,hf];rfl) (fun cs h=>by cases h) ?_
   refine hK _ _ ?_
   clear hK K
   try simp only[updO]
   repeat' first|refine vs T rfl fun K hK=>?_;(try simp (disch:=omega) only[go_sem,Nat.reduceBEq,ZaY]);(first|refine hK _ _ ?_;clear hK K|skip)|refine st rfl ?_|refine sc rfl ?_|refine nl ?_
   refine Op1.cally (Hr:=[(bq,.obj (w'k ZdJ)),(bc,.cells 69 4 [.gs none 0,.gs none 0,.gs none 0,.gs none 0])]) rfl rfl (ZrU (m:=m) (r:=r) hq1 hF hf) rfl (y'6 fun a=>by simp only[ZdJ,fV,dW,doO,OC.h,x'j,x'q,w'i,y'I,y'N,y'V];omega) (fun q2 hq2=>?_)
   refine hK _ _ ?_
   clear hK K
   try simp only[updO]
   refine vo ?_
   refine VCo.weak (Weak.perm (H':=(bq,.obj (w'k ZdJ))::(bc,.cells 69 4 [.gs none 0,.gs none 0,.gs none 0,.gs none 0])::dW bd u q2 (w'4 u (setP c i ((p+1:Nat):Int)) m i x row b0) m r (i:Nat) x) (y'6 fun a=>by simp only[ZdJ,fV,dW,doO,OC.h,x'j,x'q,w'i,y'I,y'N,y'V];omega)) ?_
   repeat' first|refine vs T rfl fun K hK=>?_;(try simp (disch:=omega) only[go_sem,Nat.reduceBEq,Nat.reduceAdd,Nat.reduceLeDiff,dW]);(refine hK _ _ ?_;clear hK K)|refine st rfl ?_|refine nl ?_|refine ov ?_
   exact w'N T rfl (by(try simp (disch:=omega) only[hget_ne,hget_eq]);rfl) rfl rfl rfl ((z'0 _ _).trans ((z'0 _ _).trans (z'0 _ _))) ⟨q2,hq2,rfl,rfl⟩
end Go.Proofs.YthlkpnjjkgmlkaaGreat
