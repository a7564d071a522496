/- Contracts: what is wrong of a program. No condition. -/
import Derived.Test.YthlkpnjjkgmlkaaGreatQf
import Derived.Test.YthlkpnjjkgmlkaaGreatNr
namespace Go.Proofs.YthlkpnjjkgmlkaaGreat
set_option maxHeartbeats 16000000
set_option linter.unusedSimpArgs false
set_option linter.unusedVariables false
set_option maxRecDepth 20000
open Go Go.Proofs Go.Vc Go.ChangeMaps
theorem Op1.callR {P:Program} {o:Oper} {E:Operand→D} {f:FuncId} {xf:Operand} {aa:Array Operand} {tys:Array TypeId} {args:List D} {H Hp Hr:Heap} {fr:Bool} {d0:D} {α:Type} {S:α→Prop} {hF:α→Heap} {K:D→Heap→Prop}
  (ho:o.op= .call ⟨.value xf,aa,tys⟩) (hE:E xf= .is (.func (.func f) #[] #[])) (h:Fun P f args Hp fr (fun d H'=> ∃q,S q∧d=d0∧ ∃Y,H'=Y∧(Y++Hr).Perm (hF q))) (ha:aa.toList.map E=args) (hp:H.Perm (Hp++Hr)) (hk: ∀q,S q→K d0 (hF q)):Op1 P o E H K:=by
 refine⟨_,OpS.permR (Op1.toS (Op1.callG (caps:= #[]) (Hp:=Hp) (Hr:=Hr) (K:=fun d H'=>d=d0∧ ∃q,S q∧H'.Perm (hF q)) ho hE (by simp only[Array.toList_empty,y'a,z'u];exact ha) h hp fun d H' ⟨q,q1,q2,Y,q3,q4⟩=>⟨q2,q,q1,by rw[q3];exact q4⟩))
  (Ψ:=fun d H'=>d=d0∧ ∃q,S q∧H'=hF q) fun d H' ⟨q1,q,q2,q3⟩=>⟨_,q3,q1,q,q2,rfl⟩,fun d H' ⟨q1,q,q2,q3⟩=>by rw[q1,q3];exact hk q q2⟩
def cmY (p:Pg) (c:Cm) (i:Nat):Int×Int:=z'D (mE (decide (i<8)) 12 c.pl) (ZaJ p.md (knC p) c.e)
abbrev c3H (b3 b:Nat):Nat×HC:=(b3,.cells 156 1 [ptB b])
theorem Zny (p:Pg) (c:Cm) (hc:OkE c.e) (i:Nat) (b bl bt:Nat) (ml:Km×Nat) (cl:CnOk ml.1 ml.2 (lcN p)) (R:Rg) (hR:TmOk p p.ths.length R) (e:Int×Int) (he:Nrm e):
  Fun Tryz.prog 106 [ptB b,iD (i:Nat),.agg (cmR c)] (ckH p b bl bt e::tmH bt R::knH bl ml::rgs R) false (fun d H'=>d= .tup []∧H'=ckH p b bl bt (z'D e (cmY p c i))::tmH bt R::knH bl ml::rgs R):=by
 refine Fun.of T [] Tryz.func106 rfl Tryz.ntmps106 Tryz.results106 rfl (by kernel_rfl) ?_
 apply VC.nodup
 intro hnd
 have hk8:decide ((i:Int)<8)=decide (i<8):=by rw[decide_eq_decide];omega
 repeat' first|refine vb (t:=80) rfl rfl rfl rfl ?_|refine vt rfl fun K hK=>?_;refine w'h (cs:=[.tmp 3]) (us:=[.pointer (some ⟨bq,0,none⟩)]) rfl rfl ?_;refine hK _ _ ?_;clear hK K;(try simp only[updO])|refine vs T rfl fun K hK=>?_;(try simp (disch:=omega) only[go_sem,Nat.reduceBEq,Nat.reduceAdd,cmR,hk8]);(first|refine hK _ _ ?_;clear hK K|intro bq hbq;(try simp only[HB]at hbq);refine hK _ _ ?_;clear hK K|refine Op1.call2 rfl rfl (x'1 p b bl bt e he _ 12 _ (by decide)) rfl ?_;refine hK _ _ ?_;clear hK K|skip)|refine st rfl ?_|refine nl ?_
 obtain⟨b3,rfl⟩: ∃b3,b3=bq:=⟨_,rfl⟩
 have hY:=hnd
 simp only[Heap.blocks,z'p,y'O,z'v,not_or]at hnd
 obtain⟨⟨q1,q2,q3⟩,⟨q4,q5⟩,q6,q7⟩:=hnd
 obtain⟨r1,r2,r3,r4⟩:=hbq
 have hkn: ∀(y:Nod) (E:Int×Int),Fun Tryz.prog 163 [.agg (nodR y),ptB b3] (ckH p b bl bt E::c3H b3 b::tmH bt R::knH bl ml::rgs R) false (fun d H'=>d=bD (knC p y)∧H'=ckH p b bl bt E::c3H b3 b::tmH bt R::knH bl ml::rgs R):=fun y E=>by
  have hn:(Heap.blocks (ckH p b bl bt E::c3H b3 b::tmH bt R::knH bl ml::rgs R)).Nodup:=by
   simp only[Heap.blocks,z'p,y'O,z'v,not_or]
   exact⟨⟨fun h=>r1 h.symm,q1,q2,q3⟩,⟨r2,r3,r4⟩,⟨q4,q5⟩,q6,q7⟩
  refine ZnB p _ b3 b bl bt E ml cl R hR (ZbF hn ?_) hget_eq (ZbF hn ?_) (ZbF hn ?_) (fun x hx=>ZbF hn ?_) y
  ·exact z'o _ z't
  ·exact z'o _ (z'o _ (z'o _ z't))
  ·exact z'o _ (z'o _ z't)
  ·exact z'o _ (z'o _ (z'o _ (z'o _ (z'w.2 ⟨x,hx,rfl⟩))))
 have n1:Nrm (z'D e (mE (decide (i<8)) 12 c.pl)):= .th he (.m (by decide))
 refine Op1.callS rfl rfl (ZeO p c.e hc b bl bt (c3H b3 b::tmH bt R::knH bl ml::rgs R) _ _ (knC p) hkn _ n1) rfl ?_
 refine hK _ _ ?_
 clear hK K
 repeat' refine nl ?_
 refine ZcN T rfl (z'I _ _) ?_
 exact⟨rfl,by rw[cmY,y'v]⟩
theorem Ztp (p:Pg) (i:Nat):cmX p i=cmY p (p.cms.getD i cm0) i:=rfl
theorem Zqs (p:Pg) (hp:p.locs.length≤1000) (b bl bt:Nat) (e:Int×Int) (he:Nrm e) (u:Nat×HC):Fun Tryz.prog 104 [ptB b] [ckH p b bl bt e,knH bl ([],0)] false
  (fun d H'=> ∃m:Km×Nat,CnOk m.1 m.2 (lcN p)∧d= .tup []∧ ∃Y,H'=Y∧(Y++[u]).Perm [ckH p b bl bt (z'D e (y'A p.locs.length (lcX p))),u,knH bl m]):=
 (Zr7 p hp b bl bt e he).mono fun d H' ⟨m,h1,h2,h3⟩=>⟨m,h1,h2,H',rfl,by rw[h3];exact y'n fun q=>by simp only[y'c,y'i,y'k];omega⟩
theorem Zng (p:Pg) (k:Nat) (hk:k<p.ths.length) (hr:(p.ths.getD k td0).regs.length≤1000) (hO:OkS (p.ths.getD k td0).body) (hB:smB (p.ths.getD k td0).body=true) (b bl bt:Nat) (ml:Km×Nat) (cl:CnOk ml.1 ml.2 (lcN p)) (R:Rg) (hR:TmOk p k R) (e:Int×Int) (he:Nrm e) (u:Nat×HC):
  Fun Tryz.prog 105 [ptB b,iD (k:Nat),.agg (tdR (p.ths.getD k td0))] (ckH p b bl bt e::tmH bt R::knH bl ml::rgs R) false
  (fun d H'=> ∃R':Rg,TmOk p (k+1) R'∧d= .tup []∧ ∃Y,H'=Y∧(Y++[u]).Perm (u::ckH p b bl bt (z'D e (tdX p k))::tmH bt R'::knH bl ml::rgs R')):=
 (Zk9 p _ hr hO hB k b bl bt ml cl R e he).mono fun d H' ⟨x,h1,h2,h3⟩=>⟨rgN R (p.ths.getD k td0).nm x.1 x.2,hR.snoc hk h1,h2,H',rfl,by
  rw[hR.had]at h3
  exact(List.Perm.append_right [u] h3).trans (y'n fun q=>by simp only[y'c,y'i,y'k];omega)⟩
theorem ZnC (p:Pg) (k:Nat) (hc:OkE (p.cms.getD k cm0).e) (b bl bt:Nat) (ml:Km×Nat) (cl:CnOk ml.1 ml.2 (lcN p)) (R:Rg) (hR:TmOk p p.ths.length R) (e:Int×Int) (he:Nrm e) (u:Nat×HC):
  Fun Tryz.prog 106 [ptB b,iD (k:Nat),.agg (cmR (p.cms.getD k cm0))] (ckH p b bl bt e::tmH bt R::knH bl ml::rgs R) false
  (fun d H'=> ∃q:Unit,True∧d= .tup []∧ ∃Y,H'=Y∧(Y++[u]).Perm (u::ckH p b bl bt (z'D e (cmX p k))::tmH bt R::knH bl ml::rgs R)):=
 (Zny p _ hc k b bl bt ml cl R hR e he).mono fun d H' ⟨h1,h2⟩=>⟨(),trivial,h1,H',rfl,by rw[h2,Ztp];exact y'n fun q=>by simp only[y'c,y'i,y'k];omega⟩
theorem ZsU {x u y:Nat×HC}:([x,u,y]:Heap).Perm ([x,y]++[u]):=y'n fun q=>by simp only[y'c,y'i,y'k];omega
theorem ZoZ (p:Pg) (hO:v'm p):Pure Tryz.prog 55 [.agg (pgC p)] (.tup [iD (y'3 p).1,iD (y'3 p).2]):=by
 have c1:=Zor p hO
 refine Fun.of T [.tmp 2,.tmp 3] Tryz.func55 rfl Tryz.ntmps55 Tryz.results55 rfl (by kernel_rfl) ?_
 cases hp:pgB p with
 |false=>
  rw[hp]at c1
  rw[show y'3 p=(8,0) by unfold y'3;rw[if_pos hp]]
  repeat' first|refine vb (t:=26) rfl rfl rfl rfl ?_|refine mq2 @pgC.eq_1 c1 ?_|fail
  simp only[stp,w'j]
  refine x'n T (z'a _) ?_
  exact⟨rfl,rfl⟩
 |true=>
 rw[hp]at c1
 have hP:=hp
 simp only[pgB,z'd,z'l]at hP
 rw[←ZqX hp]
 have hk3:decide ((p.ths.length:Int)>0)=decide (0<p.ths.length):=by rw[decide_eq_decide];omega
 unfold Zo0
 rw[show decide (2≤p.md)=decide (p.md≥2) from rfl]
 generalize hso:decide (p.md≤16)=c2
 generalize hs2:decide (p.md≥2)=c0
 generalize hs3:(c0&&c2)=so
 have n0:Nrm (mE so 11 0):= .m (by decide)
 repeat' first|refine vb (t:=26) rfl rfl rfl rfl ?_|refine Zqj (id:=4) (fun(_:Unit)=>⟨z'0 [(1,.pt (pgC p)),(4,ptB bq)],[ckH p bq bl bt (mE so 11 0),tmH bt [],knH bl ([],0)]⟩) ?_ ?_|refine vt rfl fun K hK=>?_;refine Zb9 rfl uML (fun x hx=>(by cases hx))<|fun bl hbl=>?_;refine hK _ _ ?_;clear hK K;(try simp only[updO])|refine vt rfl fun K hK=>?_;refine Zb9 rfl uTL (fun x hx=>(by cases hx))<|fun bt hbt=>?_;refine hK _ _ ?_;clear hK K;(try simp only[updO])|refine mq2 @pgC.eq_1 c1 ?_|refine mqn fun bq hbq=>?_|fail
 ·refine⟨?_⟩
  cases c0
  all_goals
   simp only[x'e,y'g]at hs3
   try subst hs3
   repeat' first|refine mq1 (mqt2 @hs2 @hso) ?_|refine vs T rfl fun K hK=>?_;(try simp (disch:=omega) only[go_sem,Nat.reduceBEq,hs2,hso]);(first|refine Op1.callH rfl rfl (x'1 p bq bl bt (0,0) .z _ 11 0 (by decide)) rfl ?_;refine hK _ _ ?_;clear hK K)|fail
   refine⟨(),z'O rfl ?_⟩
   simp[sub,upd,pgC]
 ·rintro-
  obtain⟨b,rfl⟩: ∃b,b=bq:=⟨_,rfl⟩
  generalize mE so 11 0=M0 at*
  clear hs2 hs3 hso hp
  have hvars:=fun u=>Zqs p hO.locs b bl bt M0 n0 u
  repeat' first|refine vs T rfl fun K hK=>?_;(try simp (disch:=omega) only[go_sem,Nat.reduceBEq,pgC]);(first|refine hK _ _ ?_;clear hK K|skip)|refine st rfl ?_
  refine Op1.callR (Hr:=[tmH bt []]) rfl rfl (hvars (tmH bt [])) rfl ZsU (fun ml cl=>?_)
  refine hK _ _ ?_
  clear hK K
  have n1:Nrm (z'D M0 (y'A p.locs.length (lcX p))):= .th n0 .fst
  generalize z'D M0 (y'A p.locs.length (lcX p))=E1 at*
  repeat' first|refine mq1 (mqt2 @hk3 @y'X) ?_|refine vs T rfl fun K hK=>?_;(try simp (disch:=omega) only[go_sem,Nat.reduceBEq,hk3,y'X]);(first|refine Op1.callH rfl rfl (x'1 p b bl bt E1 n1 _ 12 0 (by decide)) rfl ?_;refine hK _ _ ?_;clear hK K)|fail
  have n2:Nrm (z'D E1 (mE (decide (0<p.ths.length)) 12 0)):= .th n1 (.m (by decide))
  generalize z'D E1 (mE (decide (0<p.ths.length)) 12 0)=E2 at*
  refine VC.loop {x:Nat×Rg//x.1≤p.ths.length∧TmOk p x.1 x.2} (fun x=>⟨z'0 [(1,.pt (pgC p)),(4,ptB b),(36,ZkW p.ths),(37,iD (p.ths.length:Nat)),(38,iD (x.1.1:Nat))],ckH p b bl bt (z'D E2 (y'A x.1.1 (tdX p)))::tmH bt x.1.2::knH bl ml::rgs x.1.2⟩) (fun x=>p.ths.length-x.1.1) ⟨(0,[]),z'm _,TmOk.nil p⟩ ?_ ?_
  ·refine z'O (by rw[Zaf n2];rfl) ?_
   simp[sub,upd,pgC]
  rintro⟨⟨k,R⟩,hk,hR⟩
  dsimp only at hk hR⊢
  have n3:Nrm (z'D E2 (y'A k (tdX p))):= .th n2 .fst
  have hs:z'D (z'D E2 (y'A k (tdX p))) (tdX p k)=z'D E2 (y'A (k+1) (tdX p)):=Za2 (ZtJ p k)
  rcases z'g k p.ths.length with hlt|hge
  ·have e1:decide ((k:Int)<(p.ths.length:Nat))=true:=decide_eq_true (by omega)
   have hOt:=hO.td _ (z'8 (d:=td0) hlt)
   have hPt:=hP.2.2.1 _ (z'8 (d:=td0) hlt)
   simp only[tdB,z'd]at hPt
   have hcall:=fun u=>Zng p k hlt hOt.1 hOt.2 hPt.2.1 b bl bt ml cl R hR _ n3 u
   have hw2:IntKind.i64.wrap ((k:Int)+1)=(k:Int)+1:=w64 (by have:=hO.ths;omega)
   generalize z'D E2 (y'A k (tdX p))=E3 at*
   generalize hx:p.ths.getD k td0=t at*
   repeat' first|refine vs T rfl fun K hK=>?_;(try simp (disch:=omega) only[go_sem,Nat.reduceBEq,Nat.reduceAdd,Nat.reduceLeDiff,w'V,tdR,e1,hx,z'b]);(first|refine hK _ _ ?_;clear hK K|intro bq hbq;(try simp only[HB]at hbq);refine hK _ _ ?_;clear hK K|refine⟨?_,hK _ _ ?_⟩<;>clear hK K;focus(try omega)|skip)|refine st rfl ?_|refine sc rfl ?_|refine nl ?_
   refine Op1.callR (Hp:=ckH p b bl bt E3::tmH bt R::knH bl ml::rgs R) (Hr:=[_]) rfl rfl (hcall _) rfl Zfi (fun R' hR'=>?_)
   refine hK _ _ ?_
   clear hK K
   repeat' first|refine mq1 @hw2 ?_|fail
   refine⟨⟨(k+1,R'),hlt,hR'⟩,y'J (by rw[hs]) ?_,by dsimp only;omega⟩
   simp[sub,upd]
  obtain rfl:k=p.ths.length:=by omega
  clear hs
  generalize z'D E2 (y'A p.ths.length (tdX p))=E3 at*
  repeat' first|refine mq1 (mqt2 @pgC.eq_1 @v'b) ?_|with_reducible refine z'j (fun hc=>?_) (fun hc=>?_)<;>(try simp only[decide_eq_true_eq,decide_eq_false_iff_not,z'x]at hc)<;>(try(exfalso;omega))|fail
  refine VC.loop {k:Nat//k≤p.cms.length} (fun x=>⟨z'0 [(4,ptB b),(49,Zmq p.cms),(50,iD (p.cms.length:Nat)),(51,iD (x.1:Nat))],ckH p b bl bt (z'D E3 (y'A x.1 (cmX p)))::tmH bt R::knH bl ml::rgs R⟩) (fun x=>p.cms.length-x.1) ⟨0,z'm _⟩ ?_ ?_
  ·refine z'O (by rw[Zaf n3]) ?_
   simp[sub,upd]
  rintro⟨k,hk⟩
  dsimp only at hk⊢
  have n4:Nrm (z'D E3 (y'A k (cmX p))):= .th n3 .fst
  have hs:z'D (z'D E3 (y'A k (cmX p))) (cmX p k)=z'D E3 (y'A (k+1) (cmX p)):=Za2 (Ztq p k)
  rcases z'g k p.cms.length with hlt|hge
  ·have e1:decide ((k:Int)<(p.cms.length:Nat))=true:=decide_eq_true (by omega)
   have hOt:=hO.cm _ (z'8 (d:=cm0) hlt)
   have hcall:=fun u=>ZnC p k hOt b bl bt ml cl R hR _ n4 u
   have hw2:IntKind.i64.wrap ((k:Int)+1)=(k:Int)+1:=w64 (by have:=hO.cms;omega)
   generalize z'D E3 (y'A k (cmX p))=E4 at*
   generalize hx:p.cms.getD k cm0=c at*
   repeat' first|refine vs T rfl fun K hK=>?_;(try simp (disch:=omega) only[go_sem,Nat.reduceBEq,Nat.reduceAdd,Nat.reduceLeDiff,ZdO,cmR,e1,hx,z'b]);(first|refine hK _ _ ?_;clear hK K|intro bq hbq;(try simp only[HB]at hbq);refine hK _ _ ?_;clear hK K|refine⟨?_,hK _ _ ?_⟩<;>clear hK K;focus(try omega)|skip)|refine st rfl ?_|refine sc rfl ?_|refine nl ?_
   refine Op1.callR (Hp:=ckH p b bl bt E4::tmH bt R::knH bl ml::rgs R) (Hr:=[_]) rfl rfl (hcall _) rfl Zfi (fun _ _=>?_)
   refine hK _ _ ?_
   clear hK K
   repeat' first|refine mq1 @hw2 ?_|fail
   refine⟨⟨k+1,hlt⟩,y'J (by rw[hs]) ?_,by dsimp only;omega⟩
   simp[sub,upd]
  obtain rfl:k=p.cms.length:=by omega
  clear hs
  generalize z'D E3 (y'A p.cms.length (cmX p))=E4 at*
  repeat' first|refine dr (id:=17) T 9 (by kernel_rfl) ?_|(apply VCg.step T rfl rfl);focus((try simp (disch:=omega) only[go_sem,Nat.reduceBEq]);(exact rfl))|refine mq0 ?_|with_reducible refine z'j (fun hc=>?_) (fun hc=>?_)<;>(try simp only[decide_eq_true_eq,decide_eq_false_iff_not,z'x]at hc)<;>(try(exfalso;omega))|fail
  try simp only[stp,w'j]
  refine x'n T (z'a _) ?_
  exact⟨rfl,rfl⟩
end Go.Proofs.YthlkpnjjkgmlkaaGreat
