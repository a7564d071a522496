/- Contracts: whether a program can be. No condition. -/
import Derived.Test.YthlkpnjjkgmlkaaGreatNq
import Derived.Test.YthlkpnjjkgmlkaaGreatNf
import Derived.Test.YthlkpnjjkgmlkaaGreatXe
namespace Go.Proofs.YthlkpnjjkgmlkaaGreat
set_option maxHeartbeats 16000000
set_option linter.unusedSimpArgs false
set_option linter.unusedVariables false
set_option maxRecDepth 20000
open Go Go.Proofs Go.Vc
attribute [local irreducible] x'r VCg VCw VCx
theorem ZfO {f:FuncId} {caps:Array Value} {H:Heap} {q:Nat→Bool} (n:Nat) (hn:n≤1000000) (hcl: ∀i:Nat,i<n→Fun Tryz.prog f ([iD (i:Nat)]++caps.toList.map D.is) H false (fun d H'=>d=bD (q i)∧H'=H)):
  Fun Tryz.prog 153 [iD (n:Nat),.is (.func (.func f) #[] caps)] H false (fun d H'=>d=bD ((List.range n).all q)∧H'=H):=by
 refine Fun.of T [.tmp 4] Tryz.func153 rfl Tryz.ntmps153 Tryz.results153 rfl (by kernel_rfl) ?_
 repeat' first|refine mq0 ?_|fail
 refine VC.loop {k:Nat//k≤n∧ ∀i,i<k→q i=true} (fun p=>⟨z'0 [(1,.is (.func (.func f) #[] caps)),(6,iD (n:Nat)),(7,iD (p.1:Nat))],H⟩) (fun p=>n-p.1) ⟨0,z'm _,fun i hi=>by omega⟩ ?_ ?_
 ·refine z'O rfl ?_
  simp[sub,upd]
 rintro⟨k,hk,hs⟩
 dsimp only at hk hs⊢
 rcases z'g k n with hlt|hge
 case inr=>
  have e1:decide ((k:Int)<(n:Int))=false:=decide_eq_false (by omega)
  rw[show(List.range n).all q=true by rw[z'l];exact fun i hi=>hs i (by have:=z'Q.1 hi;omega)]
  repeat' first|refine mq1 @e1 ?_|fail
  exact z'r T (z'n _) ⟨rfl,rfl⟩
 have e1:decide ((k:Int)<(n:Int))=true:=decide_eq_true (by omega)
 have c1:=hcl k hlt
 cases hq:q k with
 |false=>
  rw[hq]at c1
  rw[show(List.range n).all q=false by rw[w'A];exact⟨k,z'Q.2 hlt,by simp[hq]⟩]
  repeat' first|refine mq1 @e1 ?_|refine vs T rfl fun K hK=>?_;(try simp (disch:=omega) only[go_sem,Nat.reduceBEq,e1,z'P]);(first|refine Op1.callC rfl rfl (c1) rfl ?_;refine hK _ _ ?_;clear hK K)|fail
  exact z'r T (z'n _) ⟨rfl,rfl⟩
 |true=>
  rw[hq]at c1
  repeat' first|refine mq1 (mqt2 @e1 @w64) ?_|refine vs T rfl fun K hK=>?_;(try simp (disch:=omega) only[go_sem,Nat.reduceBEq,e1,z'H,w64]);(first|refine Op1.callC rfl rfl (c1) rfl ?_;refine hK _ _ ?_;clear hK K)|fail
  refine⟨⟨k+1,by omega,y'r hs hq⟩,z'O rfl ?_,by dsimp only;omega⟩
  simp[sub,upd]
theorem Zc3 {α:Type} (p:α→Bool) (d:α) (l:List α):(List.range l.length).all (fun i=>p (l.getD i d))=l.all p:=by
 rw[z'9,ZhM d,z'l]
 exact⟨fun h i hi=>h i (z'Q.2 hi),fun h i hi=>h i (z'Q.1 hi)⟩
theorem ZlZ (n:Int):Pure Tryz.prog 156 [iD n] (bD (in4 n)):=by
 refine Fun.of T [.tmp 2] Tryz.func156 rfl Tryz.ntmps156 Tryz.results156 rfl (by kernel_rfl) ?_
 repeat' first|refine mq0 ?_|refine z'r T (z'a _) ?_;(try simp only[upd,Nat.reduceBEq,cond_true,cond_false,and_true])|with_reducible refine z'j (fun hc=>?_) (fun hc=>?_)<;>(try simp only[decide_eq_true_eq,decide_eq_false_iff_not,ge_iff_le,y'j]at hc)|fail
 all_goals(congr 2;rw[z'9];simp only[in4,z'd,decide_eq_true_eq,y'x,true_iff,false_iff];omega)
abbrev pgH (b:Nat) (p:Pg):Heap:=[(b,.cells 26 4 (pgC p))]
theorem ZrJ (b:Nat) (p:Pg) (hp:v'm p) (i:Nat) (hi:i<p.locs.length):Fun Tryz.prog 154 [iD (i:Nat),ptB b] (pgH b p) false (fun d H'=>d=bD (lvB (p.locs.getD i lv0))∧H'=pgH b p):=by
 have c1:=ZbK (p.locs.getD i lv0).nm
 have c2:=ZlZ (p.locs.getD i lv0).n
 have e1:decide ((p.locs.getD i lv0).pl≥0)=decide (0≤(p.locs.getD i lv0).pl):=rfl
 have hB:lvB (p.locs.getD i lv0)=(nmB (p.locs.getD i lv0).nm&&(in4 (p.locs.getD i lv0).n&&decide (0≤(p.locs.getD i lv0).pl))):=rfl
 rw[hB]
 clear hB
 generalize hb1:nmB (p.locs.getD i lv0).nm=b1 at*
 generalize hb2:in4 (p.locs.getD i lv0).n=b2 at*
 refine Fun.of T [.tmp 3] Tryz.func154 rfl Tryz.ntmps154 Tryz.results154 rfl (by kernel_rfl) ?_
 cases b1<;>cases b2
 all_goals
  repeat' first|refine mq2 (mqt4 @w'U @lvR.eq_1 @z'b @e1) (mqt2 c1 c2) ?_|refine mqn fun bq hbq=>?_|refine .wk ?_ ?_;focus(try omega)|fail
  exact z'r T (z'I _ _) ⟨rfl,rfl⟩
abbrev tdH (b:Nat) (t:Td):Heap:=[(b,.cells 45 4 (tdR t))]
theorem ZrL (b:Nat) (t:Td) (hl:t.regs.length≤1000) (i:Nat) (hi:i<t.regs.length):Fun Tryz.prog 228 [iD (i:Nat),ptB b] (tdH b t) false (fun d H'=>d=bD (nmB (t.regs.getD i e0))∧H'=tdH b t):=by
 have c1:=ZbK (t.regs.getD i e0)
 refine Fun.of T [.tmp 3] Tryz.func228 rfl Tryz.ntmps228 Tryz.results228 rfl (by kernel_rfl) ?_
 repeat' first|refine mq2 (mqt3 @w'4 @tdR.eq_1 @z'b) c1 ?_|refine .wk ?_ ?_;focus(try omega)|fail
 exact z'r T (z'n _) ⟨rfl,rfl⟩
theorem Zm2 (t:Td) (hr:t.regs.length≤1000) (hO:OkS t.body):Pure Tryz.prog 158 [.agg (tdR t)] (bD (tdB t)):=by
 have c1:=ZbK t.nm
 have c2:=Znc t.body hO
 have c3:=fun b=>ZfO (f:=228) (caps:= #[.pointer (some ⟨b,0,none⟩)]) (H:=tdH b t) (q:=fun i=>nmB (t.regs.getD i e0)) t.regs.length (by omega) (fun i hi=>ZrL b t hr i hi)
 have hA:=Zc3 nmB e0 t.regs
 simp only[hA]at c3
 have hB:tdB t=(nmB t.nm&&(smB t.body&&(decide (0≤t.pl)&&t.regs.all nmB))):=rfl
 have e1:decide (t.pl≥0)=decide (0≤t.pl):=rfl
 refine Fun.of T [.tmp 2] Tryz.func158 rfl Tryz.ntmps158 Tryz.results158 rfl (by kernel_rfl) ?_
 repeat' first|refine vt rfl fun K hK=>?_;refine w'h (cs:=[.tmp 1]) (us:=[.pointer (some ⟨bq,0,none⟩)]) rfl rfl ?_;refine hK _ _ ?_;clear hK K;(try simp only[updO])|refine mq2 (mqt3 @tdR.eq_1 @x'h @e1) (mqt2 c1 c2) ?_|refine mqn fun bq hbq=>?_|refine vs T rfl fun K hK=>?_;(try simp (disch:=omega) only[go_sem,Nat.reduceBEq,Nat.reduceAdd,tdR,x'h,e1]);(first|refine Op1.callC rfl rfl (c3 _) rfl ?_;refine hK _ _ ?_;clear hK K)|refine z'r T (z'a _) ?_;(try simp only[upd,Nat.reduceBEq,cond_true,cond_false,and_true])|with_reducible refine z'j (fun hc=>?_) (fun hc=>?_)<;>(try simp only[decide_eq_true_eq,decide_eq_false_iff_not,y'j]at hc)|fail
 all_goals
  clear c1 c2 c3
  rw[hB]
  first|(simp_all;done)|(simp_all;omega)
theorem Zp6 (k:Int):Pure Tryz.prog 230 [iD k] (sD (if k=1 then⟨#[102,111,114,97,108,108]⟩else if k=2 then⟨#[101,120,105,115,116,115]⟩else if k=3 then⟨#[97,108,119,97,121,115]⟩else e0)):=by
 refine Fun.of T [.tmp 2] Tryz.func230 rfl Tryz.ntmps230 Tryz.results230 rfl (by kernel_rfl) ?_
 by_cases h1:k=1
 ·subst h1
  repeat' first|refine mq0 ?_|exact z'r T (z'a _) ⟨rfl,rfl⟩|fail
 have e1:(k == 1)=false:=by simpa using h1
 rw[if_neg h1]
 by_cases h2:k=2
 ·subst h2
  repeat' first|refine mq0 ?_|exact z'r T (z'a _) ⟨rfl,rfl⟩|fail
 have e2:(k == 2)=false:=by simpa using h2
 rw[if_neg h2]
 by_cases h3:k=3
 ·subst h3
  repeat' first|refine mq0 ?_|exact z'r T (z'a _) ⟨rfl,rfl⟩|fail
 have e3:(k == 3)=false:=by simpa using h3
 rw[if_neg h3]
 repeat' first|refine mq1 (mqt3 @e1 @e2 @e3) ?_|exact z'r T (z'a _) ⟨rfl,rfl⟩|fail
theorem Zoo (c:Cm) (hE:OkE c.e):Pure Tryz.prog 160 [.agg (cmR c)] (bD (cmB c)):=by
 have hL:(y'R c.e).length≤c.e.length:=List.length_filter_le _ _
 have hEl:c.e.length≤1000:=hE
 have c1:=ZiY c.e (by omega)
 have c2:=ZkP c.e hE
 have c3:=Zp6 c.kind
 have hB:cmB c=(decide (1≤c.kind)&&(decide (c.kind≤3)&&(Za7 c.e&&decide (0≤c.pl)))):=rfl
 have e1:decide (c.pl≥0)=decide (0≤c.pl):=rfl
 have hw:decide ((if c.kind=1 then⟨#[102,111,114,97,108,108]⟩else if c.kind=2 then⟨#[101,120,105,115,116,115]⟩else if c.kind=3 then⟨#[97,108,119,97,121,115]⟩else e0:ByteArray)=e0)= !(decide (1≤c.kind)&&decide (c.kind≤3)):=by
  by_cases h1:c.kind=1
  ·rw[h1];decide
  by_cases h2:c.kind=2
  ·rw[h2];decide
  by_cases h3:c.kind=3
  ·rw[h3];decide
  rw[if_neg h1,if_neg h2,if_neg h3,decide_eq_true rfl]
  symm
  rw[z'y,v'i,decide_eq_false_iff_not,decide_eq_false_iff_not]
  omega
 generalize (if c.kind=1 then⟨#[102,111,114,97,108,108]⟩else if c.kind=2 then⟨#[101,120,105,115,116,115]⟩else if c.kind=3 then⟨#[97,108,119,97,121,115]⟩else e0:ByteArray)=w at*
 refine Fun.of T [.tmp 2] Tryz.func160 rfl Tryz.ntmps160 Tryz.results160 rfl (by kernel_rfl) ?_
 repeat' first|refine vb rfl rfl rfl rfl ?_|refine mq2 (mqt2 @cmR.eq_1 @z'Z) c1 ?_|fail
 refine VC.loop {k:Nat//k≤(y'R c.e).length∧ ∀i,i<k→(!decide (((y'R c.e).getD i z'J).op=2))=true} (fun p=>⟨z'0 [(1,.pt (cmR c)),(7,y'4 (y'R c.e)),(8,iD ((y'R c.e).length:Nat)),(9,iD (p.1:Nat))],[]⟩) (fun p=>(y'R c.e).length-p.1) ⟨0,z'm _,fun i hi=>by omega⟩ ?_ ?_
 ·refine Weak.sub ?_
  simp[sub,upd,z'Z,cmR]
 rintro⟨k,hk,hs⟩
 dsimp only at hk hs⊢
 rcases z'g k (y'R c.e).length with hlt|hge
 case inr=>
  have e4:decide ((k:Int)<((y'R c.e).length:Int))=false:=decide_eq_false (by omega)
  have hN:Za7 c.e=exB c.e:=by unfold Za7;rw[x'X (p:=fun x:Nod=> !decide (x.op=2)) (d:=z'J) (k:=k) (by omega) hs];rfl
  rw[hB,hN]
  repeat' first|refine mq2 (mqt4 @cmR.eq_1 @e4 @e1 @hw) (mqt2 c2 c3) ?_|refine z'r T (z'a _) ?_;(try simp only[upd,Nat.reduceBEq,cond_true,cond_false,and_true])|with_reducible refine z'j (fun hc=>?_) (fun hc=>?_)<;>(try simp only[z'y,z'G]at hc)|fail
  all_goals
   clear c1 c2 c3 hw hB hN hs
   rw[←Bool.and_assoc]
   first|(simp_all;done)|(simp_all;intros;omega)
 have e4:decide ((k:Int)<((y'R c.e).length:Int))=true:=decide_eq_true (by omega)
 by_cases h2:((y'R c.e).getD k z'J).op=2
 ·have e5:(((y'R c.e).getD k z'J).op == 2)=true:=by simp only[h2,beq_self_eq_true]
  have hN:Za7 c.e=false:=by unfold Za7;rw[w'd (p:=fun x:Nod=> !decide (x.op=2)) (d:=z'J) (i:=k) (by omega) (by rw[decide_eq_true h2];rfl)];rfl
  rw[hB,hN,x'e,w'm,w'm]
  repeat' first|refine mq1 (mqt5 @y's @nodR.eq_1 @z'b @e4 @e5) ?_|refine mqn fun bq hbq=>?_|refine .wk ?_ ?_;focus(try omega)|exact z'r T (z'a _) ⟨rfl,rfl⟩|fail
 ·have e5:(((y'R c.e).getD k z'J).op == 2)=false:=beq_eq_false_iff_ne.2 h2
  repeat' first|refine mq1 (mqt6 @y's @nodR.eq_1 @w64 @z'b @e4 @e5) ?_|refine mqn fun bq hbq=>?_|refine .wk ?_ ?_;focus(try omega)|fail
  refine⟨⟨k+1,by omega,y'r hs (by rw[decide_eq_false h2];rfl)⟩,y'J rfl ?_,by dsimp only;omega⟩
  simp[sub,upd]
theorem ZsW (b:Nat) (p:Pg) (hp:v'm p) (i:Nat) (hi:i<p.ths.length):Fun Tryz.prog 157 [iD (i:Nat),ptB b] (pgH b p) false (fun d H'=>d=bD (tdB (p.ths.getD i td0))∧H'=pgH b p):=by
 have hTd:=hp.td _ (z'8 (d:=td0) hi)
 have c1:=Zm2 (p.ths.getD i td0) hTd.1 hTd.2
 refine Fun.of T [.tmp 3] Tryz.func157 rfl Tryz.ntmps157 Tryz.results157 rfl (by kernel_rfl) ?_
 repeat' first|refine mq2 (mqt3 @w'V @tdR.eq_1 @z'b) c1 ?_|refine .wk ?_ ?_;focus(try omega)|fail
 exact z'r T (z'n _) ⟨rfl,rfl⟩
theorem ZsT (b:Nat) (p:Pg) (hp:v'm p) (i:Nat) (hi:i<p.cms.length):Fun Tryz.prog 159 [iD (i:Nat),ptB b] (pgH b p) false (fun d H'=>d=bD (cmB (p.cms.getD i cm0))∧H'=pgH b p):=by
 have c1:=Zoo (p.cms.getD i cm0) (hp.cm _ (z'8 (d:=cm0) hi))
 refine Fun.of T [.tmp 3] Tryz.func159 rfl Tryz.ntmps159 Tryz.results159 rfl (by kernel_rfl) ?_
 repeat' first|refine mq2 (mqt3 @ZdO @cmR.eq_1 @z'b) c1 ?_|refine .wk ?_ ?_;focus(try omega)|fail
 exact z'r T (z'n _) ⟨rfl,rfl⟩
theorem Zor (p:Pg) (hp:v'm p):Pure Tryz.prog 102 [.agg (pgC p)] (bD (pgB p)):=by
 have hl1:=hp.locs
 have hl2:=hp.ths
 have hl3:=hp.cms
 have c1:=fun b=>ZfO (f:=154) (caps:= #[.pointer (some ⟨b,0,none⟩)]) (H:=pgH b p) (q:=fun i=>lvB (p.locs.getD i lv0)) p.locs.length (by omega) (fun i hi=>ZrJ b p hp i hi)
 have c2:=fun b=>ZfO (f:=157) (caps:= #[.pointer (some ⟨b,0,none⟩)]) (H:=pgH b p) (q:=fun i=>tdB (p.ths.getD i td0)) p.ths.length (by omega) (fun i hi=>ZsW b p hp i hi)
 have c3:=fun b=>ZfO (f:=159) (caps:= #[.pointer (some ⟨b,0,none⟩)]) (H:=pgH b p) (q:=fun i=>cmB (p.cms.getD i cm0)) p.cms.length (by omega) (fun i hi=>ZsT b p hp i hi)
 simp only[Zc3 lvB lv0 p.locs]at c1
 simp only[Zc3 tdB td0 p.ths]at c2
 simp only[Zc3 cmB cm0 p.cms]at c3
 have c4:=ZlZ p.md
 have hB:pgB p=(in4 p.md&&(p.locs.all lvB&&(p.ths.all tdB&&p.cms.all cmB))):=rfl
 rw[hB]
 refine Fun.of T [.tmp 2] Tryz.func102 rfl Tryz.ntmps102 Tryz.results102 rfl (by kernel_rfl) ?_
 repeat' first|refine vt rfl fun K hK=>?_;refine w'h (cs:=[.tmp 1]) (us:=[.pointer (some ⟨bq,0,none⟩)]) rfl rfl ?_;refine hK _ _ ?_;clear hK K;(try simp only[updO])|refine mq2 (mqt3 @x'B @y'X @v'b) c4 ?_|refine mqn fun bq hbq=>?_|refine vs T rfl fun K hK=>?_;(try simp (disch:=omega) only[go_sem,Nat.reduceBEq,Nat.reduceAdd,x'B,y'X,v'b]);(first|refine Op1.callC rfl rfl (c1 _) rfl ?_;refine hK _ _ ?_;clear hK K|refine Op1.callC rfl rfl (c2 _) rfl ?_;refine hK _ _ ?_;clear hK K|refine Op1.callC rfl rfl (c3 _) rfl ?_;refine hK _ _ ?_;clear hK K)|refine z'r T (z'a _) ?_;(try simp only[upd,Nat.reduceBEq,cond_true,cond_false,and_true])|with_reducible refine z'j (fun hc=>?_) (fun hc=>?_)|fail
 all_goals
  clear c1 c2 c3 c4 hB
  generalize p.locs.all lvB=b1 at*
  generalize p.ths.all tdB=b2 at*
  generalize p.cms.all cmB=b3 at*
  simp_all
theorem OpS.callF {P:Program} {o:Oper} {E:Operand→D} {f:FuncId} {xf:Operand} {az:Array Operand} {tys:Array TypeId} {caps:Array Value} {args:List D} {H Hp Hr:Heap} {fr:Bool} {d0:D}
  (ho:o.op= .call ⟨.value xf,az,tys⟩) (hE:E xf= .is (.func (.func f) #[] caps)) (h:Fun P f args Hp fr (fun d H'=>d=d0∧H'=Hp)) (ha:az.toList.map E++caps.toList.map D.is=args) (hp:H.Perm (Hp++Hr)):OpS P o E H (fun d H'=>d=d0∧H'=H):=by
 refine OpS.permR (Φ:=fun d H'=>d=d0∧H'=Hp++Hr) (Op1.toS ?_) fun d H' h=>?_
 ·refine Op1.callG (caps:=caps) (Hp:=Hp) (Hr:=Hr) ho hE ha h hp fun d H' h=>?_
  obtain⟨rfl,rfl⟩:=h;exact⟨rfl,rfl⟩
 ·obtain⟨rfl,rfl⟩:=h
  exact⟨H,hp.symm,rfl,rfl⟩
theorem Op1.callD {P:Program} {o:Oper} {E:Operand→D} {f:FuncId} {xf:Operand} {az:Array Operand} {tys:Array TypeId} {caps:Array Value} {args:List D} {H Hp Hr:Heap} {fr:Bool} {d0:D} {K:D→Heap→Prop}
  (ho:o.op= .call ⟨.value xf,az,tys⟩) (hE:E xf= .is (.func (.func f) #[] caps)) (h:Fun P f args Hp fr (fun d H'=>d=d0∧H'=Hp)) (ha:az.toList.map E++caps.toList.map D.is=args) (hp:H.Perm (Hp++Hr)) (hk:K d0 H):Op1 P o E H K:=
 ⟨_,OpS.callF ho hE h ha hp,fun d H' ⟨h1,h2⟩=>by subst h1;subst h2;exact hk⟩
def lfP (regs:List ByteArray) (x:Nod):Opc×Bool:=if x.op=1 then((1,x.n,0),true)else((2,ixF regs x.nm,0),decide (x.op=2)&&decide (ixF regs x.nm≠ -1))
abbrev rgX (b:Nat) (regs:List ByteArray):Heap:=[(b,.cells 37 1 [x't regs])]
theorem Zqq (b:Nat) (regs:List ByteArray) (hr:regs.length≤1000) (x:Nod):Fun Tryz.prog 271 [.agg (nodR x),ptB b] (rgX b regs) false (fun d H'=>d= .tup [.agg (opR (lfP regs x).1),bD (lfP regs x).2]∧H'=rgX b regs):=by
 have c1:=Zgx regs (by omega) x.nm
 refine Fun.of T [.cell 3 90,.tmp 4] Tryz.func271 rfl Tryz.ntmps271 Tryz.results271 rfl (by kernel_rfl) ?_
 by_cases h1:x.op=1
 ·have e1:(x.op == 1)=true:=by simp only[h1,beq_self_eq_true]
  rw[show lfP regs x=((1,x.n,0),true) by unfold lfP;rw[if_pos h1]]
  repeat' first|refine vb rfl rfl rfl rfl ?_|refine mq1 (mqt2 @nodR.eq_1 @e1) ?_|refine mqn fun bq hbq=>?_|fail
  refine ZbV T rfl (by first|rfl|((simp (disch:=omega) only[hget_ne,hget_eq])<;>rfl)) rfl rfl rfl (z'I _ _) ⟨rfl,rfl⟩
 ·have e1:(x.op == 1)=false:=beq_eq_false_iff_ne.2 h1
  rw[show lfP regs x=((2,ixF regs x.nm,0),decide (x.op=2)&&decide (ixF regs x.nm≠ -1)) by unfold lfP;rw[if_neg h1]]
  by_cases h2:x.op=2
  ·have e2:(x.op == 2)=true:=by simp only[h2,beq_self_eq_true]
   rw[decide_eq_true h2,y'g]
   have e3:(ixF regs x.nm != -1)=decide (ixF regs x.nm≠ -1):=by rw[z'9,bne_iff_ne,decide_eq_true_eq]
   repeat' first|refine vb rfl rfl rfl rfl ?_|refine mq2 (mqt4 @nodR.eq_1 @e1 @e2 @e3) c1 ?_|refine mqn fun bq hbq=>?_|fail
   refine ZbV T rfl (by first|rfl|((simp (disch:=omega) only[hget_ne,hget_eq])<;>rfl)) rfl rfl rfl (z'I _ _) ⟨rfl,rfl⟩
  ·have e2:(x.op == 2)=false:=beq_eq_false_iff_ne.2 h2
   rw[decide_eq_false h2,x'e]
   repeat' first|refine vb rfl rfl rfl rfl ?_|refine mq2 (mqt3 @nodR.eq_1 @e1 @e2) c1 ?_|refine mqn fun bq hbq=>?_|fail
   refine ZbV T rfl (by first|rfl|((simp (disch:=omega) only[hget_ne,hget_eq])<;>rfl)) rfl rfl rfl (z'I _ _) ⟨rfl,rfl⟩
abbrev tfD (b:Nat):D:= .is (.func (.func 271) #[] #[.pointer (some ⟨b,0,none⟩)])
abbrev mkH (b bx:Nat) (l:List Nod) (regs:List ByteArray) (g:G) (r:List Opc) (q:Bool):Heap:=
 (b,.cells 237 4 [y'4 l,tfD bx,.gs g r.length,bD q])::shp g 90 3 (x'J r).flatten (rgX bx regs)
theorem Zie {a1 a2 a3:Nat×HC} {g:G} {e n:Nat} {L:List D} {X:Heap}:(a1::a2::a3::shp g e n L X).Perm (X++(a1::a2::a3::shp g e n L [])):=
 y'n fun a=>by simp only[y'y,y'c,y'i,y'k];omega
def lkB (regs:List ByteArray) (x:Nod):Bool:=decide (5≤x.op)||(lfP regs x).2
def okR (regs:List ByteArray) (l:List Nod) (i k:Nat):Bool:=((l.drop i).take k).all (lkB regs)
theorem ZlV {regs:List ByteArray} {l:List Nod} {i k:Nat} (h:i<l.length):okR regs l i (1+k)=(lkB regs (l.getD i z'J)&&okR regs l (i+1) k):=by
 unfold okR
 rw[ZaR z'J h,Nat.add_comm,List.take_succ_cons,y'L]
theorem Zrx {regs:List ByteArray} {l:List Nod} {i a b:Nat}:okR regs l i (a+b)=(okR regs l i a&&okR regs l (i+a) b):=by
 unfold okR
 rw[List.take_add,List.all_append,y'6]
def lvP (regs:List ByteArray) (l:List Nod):List Opc:=l.map fun x=>(lfP regs x).1
def CnP (l:List Nod) (regs:List ByteArray) (b bx f:Nat):Prop:= ∀(i k:Nat) (g:G) (r:List Opc) (q:Bool),l.length-i≤f→y'5 (l.drop i) 1=some k→gOk g r.length→r.length+k≤100000→
  Fun Tryz.prog 190 [ptB b,iD (i:Nat)] (mkH b bx l regs g r q) false
   (fun d H'=> ∃g':G,gOk g' (r++mdF l (lvP regs l) f i).length∧d=iD (i+k:Nat)∧H'=mkH b bx l regs g' (r++mdF l (lvP regs l) f i) (q&&okR regs l i k))
theorem ZrG (r:List Opc):(x'J r).flatten.length=r.length*3:=w'e (f:=opR) (n:=3) (fun _=>rfl) r
theorem Zks {b bx:Nat} {l:List Nod} {regs:List ByteArray} {g:G} {r:List Opc} {x:Opc} {q:Bool}:(b,HC.cells 237 4 [y'4 l,tfD bx,.gs g (r.length+1),bD q])::shp g 90 3 ((x'J r).flatten++opR x) (rgX bx regs)=mkH b bx l regs g (r++[x]) q:=by
 simp only[mkH,z'e,List.length_singleton,x'J,w'u]
theorem Zo1 (l:List Nod) (hl:l.length≤1000) (regs:List ByteArray) (hr:regs.length≤1000) (b bx f i:Nat) (g:G) (r:List Opc) (q:Bool) (hi:i<l.length) (q0:1≤(l.getD i z'J).op∧(l.getD i z'J).op≤4) (hg:gOk g r.length) (hrk:r.length+1≤100000):
  Fun Tryz.prog 190 [ptB b,iD (i:Nat)] (mkH b bx l regs g r q) false
   (fun d H'=> ∃g':G,gOk g' (r++mdF l (lvP regs l) (f+1) i).length∧d=iD (i+1:Nat)∧H'=mkH b bx l regs g' (r++mdF l (lvP regs l) (f+1) i) (q&&okR regs l i 1)):=by
 have c1:=Zm0 (l.getD i z'J).op
 rw[show ofD (l.getD i z'J).op= .tup [.agg [iD 0,.is .nilFunc],bD false] by unfold ofD;rw[if_neg (by omega),if_neg (by omega)]]at c1
 have hm:mdF l (lvP regs l) (f+1) i=[(lfP regs (l.getD i z'J)).1]:=by
  rw[mdF,if_pos (by omega),lvP,z'f,z'K,z'k hi,z'f,z'k hi];rfl
 have hok:okR regs l i 1=(lfP regs (l.getD i z'J)).2:=by
  rw[show(1:Nat)=1+0 from rfl,ZlV hi]
  simp only[okR,lkB,w'E,List.all_nil,x'8]
  rw[decide_eq_false (by omega),Bool.false_or]
 rw[hm,hok]
 clear hm hok
 have c2:=Zqq bx regs hr (l.getD i z'J)
 generalize lfP regs (l.getD i z'J)=lf at*
 obtain⟨⟨o1,o2,o3⟩,lb⟩:=lf
 simp only[opR]at c2⊢
 refine Fun.of T [.tmp 4] Tryz.func190 rfl Tryz.ntmps190 Tryz.results190 rfl (by kernel_rfl) ?_
 apply VC.nodup
 intro hnd
 have hl3:(x'J r).flatten.length=r.length*3:=w'e (f:=opR) (n:=3) (fun _=>rfl) r
 cases q
 all_goals
  repeat' first|apply VC.drawM (id:=4) T 11 9 10 (s:=8) (ty:=90) rfl rfl rfl (by kernel_rfl) (by kernel_rfl) (by kernel_rfl) (by kernel_rfl)|refine VCm.nil T ?_;simp only[x'2,WB,Nat.reduceAdd];try(refine fun(bq:Nat) hbq=>?_;(try simp only[HB]at hbq))|apply VCm.step T (by rfl) (by rfl) rfl rfl;focus((try simp (disch:=omega) only[go_sem,Nat.reduceBEq,Nat.reduceAdd,Nat.reduceLeDiff]);(first|exact rfl|refine Op1.callD rfl rfl (c2) rfl (Zie) ?_;exact⟨rfl,rfl⟩))|apply VCm.alloc T;(case h1=>rfl);(case hg=>rfl);(case hop=>rfl);(case hd=>rfl);(case hk=>rfl);(case hz=>rfl)|apply VCm.store T;(case h1=>rfl);(case h2=>rfl);(case hg=>rfl);(case hd=>rfl);(case hc=>(intro b hb;(try simp (disch:=omega) only[go_sem,Nat.reduceBEq,Nat.reduceAdd,Nat.reduceLeDiff]);exact rfl));(case hz=>(rfl))|refine VC.drawS (id:=6) (by kernel_rfl) ?_|refine mq2 (mqt3 @y's @nodR.eq_1 @z'b) c1 ?_|refine mqn fun bq hbq=>?_|refine .wk ?_ ?_;focus(try omega)|refine ov ?_|fail
  refine VCd.take rfl rfl rfl rfl rfl rfl (by kernel_rfl) (by kernel_rfl) (fun c s' h=>by simp only[w'j]at h;unfold x'r at h;exact h) ?_
  repeat' first|refine VCd.group T (s:=1) 7 8 rfl rfl (by kernel_rfl) (by kernel_rfl) (by kernel_rfl) ?_;(try simp only[y'p,y'e,Nat.reduceSub])|refine gn ?_|(apply VCg.step T rfl rfl);focus((try simp (disch:=omega) only[go_sem,Nat.reduceBEq,Nat.reduceAdd,Nat.reduceMul,Nat.reduceLeDiff]);(exact rfl))
  refine VCd.oneL T rfl (by kernel_rfl) (by kernel_rfl) rfl rfl fun K hK=>?_
  simp (disch:=omega) only[go_sem,Nat.reduceBEq,Nat.reduceAdd,Nat.reduceMul,Nat.reduceSub,Nat.reduceLeDiff,Int.reduceToNat]
  refine⟨_,_,_,_,(by repeat (first|exact Sp.here|exact Sp.nil|apply Sp.cons|apply Sp.over)),?_,(by first|exact⟨rfl,rfl⟩|exact⟨rfl,rfl,rfl⟩),?_,fun g' hg'=>hK _ _ ?_⟩<;>clear hK K
  ·exact hl3
  ·omega
  repeat' first|refine VCd.tail (f:=8) (by kernel_rfl) ?_;(try simp only[y'p,y'e])|refine mq1 @w64 ?_|refine ov ?_|fail
  exact z'r T (((z'I _ _).trans (z'I _ _)).trans (z'I _ _)) ⟨g',by rw[z'e];exact hg',rfl,Zks (x:=(o1,o2,o3))⟩
end Go.Proofs.YthlkpnjjkgmlkaaGreat
