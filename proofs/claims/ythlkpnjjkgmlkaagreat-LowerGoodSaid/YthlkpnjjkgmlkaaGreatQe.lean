/- Contracts: the checker: a thread's statements. No condition. -/
import Derived.Test.YthlkpnjjkgmlkaaGreatQc
namespace Go.Proofs.YthlkpnjjkgmlkaaGreat
set_option maxHeartbeats 16000000
set_option linter.unusedSimpArgs false
set_option linter.unusedVariables false
set_option maxRecDepth 20000
open Go Go.Proofs Go.Vc Go.ChangeMaps
structure Lat (p:Prop):Prop where
 out:p
theorem stJ {P:Program} {n:Nat} {Q:Exit→St→Prop} {E:Nat→D} {H:Heap} {id:Nat} {a b:Code} {ι:Type} (S:ι→St) (h1:Lat (VC P n (.block id a) ⟨E,H⟩ (w'j (fun s=> ∃i,Weak s (S i)) Q))) (h2: ∀i,VC P n b (S i) Q):stp P n Q E H (.seq (.block id a) b):=by
 show VC P n (.block id a) ⟨E,H⟩ (w'j (fun s=>VC P n b s Q) Q)
 refine VC.mono h1.out fun e s h=>?_
 cases e with
 |normal=>obtain⟨i,hi⟩:=h;exact VC.weak hi (h2 i)
 |_=>exact h
theorem Zqj {P:Program} {n:Nat} {Q:Exit→St→Prop} {E:Nat→D} {H:Heap} {id:Nat} {ops:Array Oper} {dr:Bool} {b:Code} {ι:Type} (S:ι→St) (h1:Lat (VC P n (.region id ops dr) ⟨E,H⟩ (w'j (fun s=> ∃i,Weak s (S i)) Q))) (h2: ∀i,VC P n b (S i) Q):stp P n Q E H (.seq (.region id ops dr) b):=by
 show VC P n (.region id ops dr) ⟨E,H⟩ (w'j (fun s=>VC P n b s Q) Q)
 refine VC.mono h1.out fun e s h=>?_
 cases e with
 |normal=>obtain⟨i,hi⟩:=h;exact VC.weak hi (h2 i)
 |_=>exact h
theorem Op1.callN {P:Program} {o:Oper} {E:Operand→D} {f:FuncId} {xf:Operand} {aa:Array Operand} {tys:Array TypeId} {args:List D} {x y s a:Nat×HC} {Y:Heap} {fr:Bool} {d0:D} {K:D→Heap→Prop}
  (ho:o.op= .call ⟨.value xf,aa,tys⟩) (hE:E xf= .is (.func (.func f) #[] #[])) (h:Fun P f args (x::a::Y) fr (fun d H'=>d=d0∧H'=y::a::Y)) (ha:aa.toList.map E=args) (hk:K d0 (s::a::y::Y)):Op1 P o E (s::a::x::Y) K:=by
 have hp: ∀z:Nat×HC,(s::a::z::Y).Perm ((z::a::Y)++[s]):=fun z=>y'n fun q=>by simp only[y'c,y'i,y'k];omega
 refine⟨_,OpS.permR (Op1.toS (Op1.callG (caps:= #[]) (Hp:=x::a::Y) (Hr:=[s]) (K:=fun d H'=>d=d0∧H'=(y::a::Y)++[s]) ho hE (by simp only[Array.toList_empty,y'a,z'u];exact ha) h (hp x) fun d H' ⟨q1,q2⟩=>⟨q1,by rw[q2]⟩)) (Ψ:=fun d H'=>d=d0∧H'=s::a::y::Y) fun d H' ⟨q1,q2⟩=>⟨_,by rw[q2];exact(hp y).symm,q1,rfl⟩,fun d H' ⟨q1,q2⟩=>by rw[q1,q2];exact hk⟩
theorem ZeN {m:Km} {c:Nat} {l:List ByteArray} (h:CnOk m c l) (s:ByteArray):decide (kmV m s>0)=decide (0<cnF l s):=by
 rw[h.val,decide_eq_decide];omega
theorem Znv (H:Heap) (b5 br:Nat) (m:Km×Nat) (h5:y'V H b5=some (.cells 143 1 [mqD br])) (hr:y'V H br=some (.obj (.map (kmE m.1) m.2))) (x:Nod) (r:Bool) (hx:decide (kmV m.1 x.nm>0)=r):
  Fun Tryz.prog 231 [.agg (nodR x),ptB b5] H false (fun d H'=>d=bD r∧H'=H):=by
 refine Fun.of T [.tmp 3] Tryz.func231 rfl Tryz.ntmps231 Tryz.results231 rfl (by kernel_rfl) ?_
 repeat' first|refine vb rfl rfl rfl rfl ?_|refine vt rfl fun K hK=>?_;refine v'2 (l:=m.1) (c:=m.2) rfl uML uSL zIL rfl rfl hr ?_;refine hK _ _ ?_;clear hK K;(try simp only[updO])|refine mq1 (mqt3 @nodR.eq_1 @h5 @hx) ?_|fail
 unfold stp
 refine z'r T (z'n _) ?_
 exact⟨rfl,rfl⟩
abbrev Zmo (b5:Nat):D:=fnD 231 #[.pointer (some ⟨b5,0,none⟩)]
abbrev c5H (b5 br:Nat):Nat×HC:=(b5,HC.cells 143 1 [mqD br])
abbrev ZgL (b:Nat) (x:Sm):Nat×HC:=(b,.cells 50 9 (smR x))
def kdX (t:Td) (k:Nat):Int×Int:=if (t.body.getD k sm0).kind=13 then mE (decide ((k:Int)<unt t.body k)) 13 (t.body.getD k sm0).pl else(0,0)
theorem ZoY (p:Pg) (t:Td) (hO:OkS t.body) (hB:smB t.body=true) (b bl bt br:Nat) (X:Heap) (ml mr:Km×Nat) (hl:y'V X bl=some (.obj (.map (kmE ml.1) ml.2))) (hr:y'V X br=some (.obj (.map (kmE mr.1) mr.2)))
  (cl:CnOk ml.1 ml.2 (lcN p)) (cr:CnOk mr.1 mr.2 t.regs) (e:Int×Int) (he:Nrm e):Fun Tryz.prog 161 [ptB b,.agg (tdR t),mqD br] (ckH p b bl bt e::X) false
   (fun d H'=>d= .tup []∧H'=ckH p b bl bt (z'D e (bdX p t))::X):=by
 have hB':=hB
 simp only[smB,z'd,decide_eq_true_eq]at hB'
 have hw:=hB'.2.1
 refine Fun.of T [] Tryz.func161 rfl Tryz.ntmps161 Tryz.results161 rfl (by kernel_rfl) ?_
 apply VC.nodup
 intro hnd
 have hnb:b∉X.blocks:=(y'O.1 hnd).1
 have hbl:bl∈X.blocks:=z'w.2 ⟨_,x'o hl,rfl⟩
 have hbr:br∈X.blocks:=z'w.2 ⟨_,x'o hr,rfl⟩
 repeat' first|refine vb (t:=45) rfl rfl rfl rfl ?_|refine vt rfl fun K hK=>?_;refine w'h (cs:=[.tmp 5]) (us:=[.pointer (some ⟨bq,0,none⟩)]) rfl rfl ?_;refine hK _ _ ?_;clear hK K;(try simp only[updO])|refine mq1 (mqt2 @tdR.eq_1 @x'C) ?_|refine mqn fun bq hbq=>?_|fail
 obtain⟨b5,rfl⟩: ∃b5,b5=bq:=⟨_,rfl⟩
 obtain⟨h5b,h5X⟩:=hbq
 refine VC.loop {k:Nat//k≤t.body.length} (fun x=>⟨z'0 [(0,ptB b),(5,ptB b5),(6,iD (unt t.body x.1)),(7,Zmo b5),(12,x'E t.body),(13,iD (t.body.length:Nat)),(14,iD (x.1:Nat))],c5H b5 br::ckH p b bl bt (z'D e (y'A x.1 (smX p t)))::X⟩) (fun x=>t.body.length-x.1) ⟨0,z'm _⟩ ?_ ?_
 ·refine z'O (by rw[Zaf he]) ?_
  simp[sub,upd,unt]
 rintro⟨k,hk⟩
 dsimp only at hk⊢
 have n0:Nrm (z'D e (y'A k (smX p t))):= .th he .fst
 have hs:z'D (z'D e (y'A k (smX p t))) (smX p t k)=z'D e (y'A (k+1) (smX p t)):=Za2 (ZtI p t k)
 rcases z'g k t.body.length with hlt|hge
 ·have e1:decide ((k:Int)<(t.body.length:Nat))=true:=decide_eq_true (by omega)
  have hwi:=Zcd (z'c _) hw (z'm k) hlt
  have hu:=ZoR t.body k
  have hu2:=ZoP hw k hk
  have hu3:=Zjj t.body k
  have hsm:smX p t k=z'D (z'D (z'D (z'D (kdX t k) (mE (isE (t.body.getD k sm0).reg||decide (0<cnF t.regs (t.body.getD k sm0).reg)) 9 (t.body.getD k sm0).pl)) (mE (isE (t.body.getD k sm0).loc||decide (0<cnF (lcN p) (t.body.getD k sm0).loc)) 9 (t.body.getD k sm0).pl)) (ZaJ p.md (knR t.regs) (t.body.getD k sm0).e)) (ZaJ p.md (knR t.regs) (t.body.getD k sm0).f):=rfl
  rw[hsm, ←y'v, ←y'v, ←y'v, ←y'v]at hs
  clear hsm
  have hOx:=hO.2 _ (z'8 (d:=sm0) hlt)
  have hkd:kdX t k=if (t.body.getD k sm0).kind=13 then mE (decide ((k:Int)<unt t.body k)) 13 (t.body.getD k sm0).pl else(0,0):=rfl
  have nk:Nrm (kdX t k):=by
   rw[hkd]
   split
   ·exact .m (by decide)
   ·exact .z
  generalize z'D e (y'A k (smX p t))=E0 at*
  generalize hx:t.body.getD k sm0=x at*
  have hw1:IntKind.i64.wrap ((k:Int)+1)=(k:Int)+1:=w64 (by omega)
  have hw2:IntKind.i64.wrap ((k:Int)+1+x.body)=(k:Int)+1+x.body:=w64 (by omega)
  repeat' first|refine stJ (id:=2) (fun(_:Unit)=>⟨z'0 [(0,ptB b),(5,ptB b5),(6,iD (unt t.body (k+1))),(7,Zmo b5),(8,iD (k:Nat)),(9,ptB bq),(12,x'E t.body),(13,iD (t.body.length:Nat)),(14,iD (k:Nat))],ZgL bq x::c5H b5 br::ckH p b bl bt (z'D E0 (kdX t k))::X⟩) ?_ ?_|refine mq1 (mqt5 @y'M @smR.eq_1 @e1 @z'b @hx) ?_|refine mqn fun bq hbq=>?_|refine .wk ?_ ?_;focus(try omega)|fail
  ·refine⟨?_⟩
   have z:x.kind≠13→kdX t k=(0,0):=fun h=>by rw[hkd,if_neg h]
   by_cases k11:x.kind=11
   ·have q1:(x.kind == 11)=true:=by simp only[k11,beq_self_eq_true]
    rw[if_pos (.inl k11)]at hu3
    repeat' first|refine mq1 (mqt3 @hw1 @hw2 @q1) ?_|refine vs T rfl fun K hK=>?_;(try simp (disch:=omega) only[go_sem,Nat.reduceBEq,hw1,hw2,q1]);(first|refine Zdi rfl rfl rfl ?_;refine hK _ _ ?_;clear hK K)|fail
    refine⟨(),z'O (by rw[z (by omega),Zd0 n0];rfl) ?_⟩
    rw[hu3]
    simp[sub,upd]
   have q1:(x.kind == 11)=false:=beq_eq_false_iff_ne.2 k11
   by_cases k12:x.kind=12
   ·have q2:(x.kind == 12)=true:=by simp only[k12,beq_self_eq_true]
    rw[if_pos (.inr k12)]at hu3
    repeat' first|refine mq1 (mqt4 @hw1 @hw2 @q1 @q2) ?_|refine vs T rfl fun K hK=>?_;(try simp (disch:=omega) only[go_sem,Nat.reduceBEq,hw1,hw2,q1,q2]);(first|refine Zdi rfl rfl rfl ?_;refine hK _ _ ?_;clear hK K)|fail
    refine⟨(),z'O (by rw[z (by omega),Zd0 n0];rfl) ?_⟩
    rw[hu3]
    simp[sub,upd]
   have q2:(x.kind == 12)=false:=beq_eq_false_iff_ne.2 k12
   rw[if_neg (by omega)]at hu3
   by_cases k13:x.kind=13
   ·have q3:(x.kind == 13)=true:=by simp only[k13,beq_self_eq_true]
    repeat' first|refine mq1 (mqt3 @q1 @q2 @q3) ?_|refine vs T rfl fun K hK=>?_;(try simp (disch:=omega) only[go_sem,Nat.reduceBEq,q1,q2,q3]);(first|refine Op1.call3 rfl rfl (x'1 p b bl bt E0 n0 _ 13 _ (by decide)) rfl ?_;refine hK _ _ ?_;clear hK K)|fail
    refine⟨(),z'O (by rw[hkd,if_pos k13];rfl) ?_⟩
    rw[hu3]
    simp[sub,upd]
   ·have q3:(x.kind == 13)=false:=beq_eq_false_iff_ne.2 k13
    repeat' first|refine mq1 (mqt3 @q1 @q2 @q3) ?_|fail
    refine⟨(),z'O (by rw[z k13,Zd0 n0];rfl) ?_⟩
    rw[hu3]
    simp[sub,upd]
  ·rintro-
   have nA:Nrm (z'D E0 (kdX t k)):= .th n0 nk
   generalize z'D E0 (kdX t k)=EA at*
   obtain⟨q1,q2,q3,q4⟩:bq≠b5∧bq≠b∧bq≠bl∧bq≠br:=⟨hbq.1,hbq.2.1,fun h=>hbq.2.2 (h▸hbl),fun h=>hbq.2.2 (h▸hbr)⟩
   obtain⟨q5,q6,q7⟩:b5≠bl∧b5≠br∧b≠bl:=⟨fun h=>h5X (h▸hbl),fun h=>h5X (h▸hbr),fun h=>hnb (h▸hbl)⟩
   have q8:b≠br:=fun h=>hnb (h▸hbr)
   have q9:b≠b5:=fun h=>h5b h.symm
   have gr: ∀E,y'V (ZgL bq x::c5H b5 br::ckH p b bl bt E::X) br=some (.obj (.map (kmE mr.1) mr.2)):=fun E=>(hget_ne q4).trans ((hget_ne q6).trans ((hget_ne q8).trans hr))
   have gl: ∀E,y'V (ZgL bq x::c5H b5 br::ckH p b bl bt E::X) bl=some (.obj (.map (kmE ml.1) ml.2)):=fun E=>(hget_ne q3).trans ((hget_ne q5).trans ((hget_ne q7).trans hl))
   have hkn: ∀(y:Nod) (E:Int×Int),Fun Tryz.prog 231 [.agg (nodR y),ptB b5] (ckH p b bl bt E::c5H b5 br::X) false (fun d H'=>d=bD (knR t.regs y)∧H'=ckH p b bl bt E::c5H b5 br::X):=fun y E=>
    Znv _ b5 br mr ((hget_ne q9).trans hget_eq) ((hget_ne q8).trans ((hget_ne q6).trans hr)) y _ (ZeN cr _)
   have hrp:=ZeN cr x.reg
   have hlp:=ZeN cl x.loc
   have g5: ∀(c:HC) (H:Heap),y'V (ZgL bq x::(b5,c)::H) b5=some c:=fun c H=>(hget_ne q1).trans hget_eq
   have gb: ∀(c c':HC) (H:Heap),y'V (ZgL bq x::(b5,c')::(b,c)::H) b=some c:=fun c c' H=>(hget_ne q2).trans ((hget_ne h5b).trans hget_eq)
   clear q1 q2 q3 q4 q5 q6 q7 q8 q9 hbq h5b h5X hbl hbr hnb hnd hB' hwi hu hu2 hu3 hl hr hw hw2 hkd
   generalize decide (0<cnF t.regs x.reg)=c1 at*
   generalize decide (0<cnF (lcN p) x.loc)=c2 at*
   have er0:decide (x.reg=⟨#[]⟩)=isE x.reg:=rfl
   have el0:decide (x.loc=⟨#[]⟩)=isE x.loc:=rfl
   generalize isE x.reg=r1 at*
   generalize isE x.loc=r2 at*
   have nB:Nrm (z'D EA (mE (r1||c1) 9 x.pl)):= .th nA (.m (by decide))
   have nC:Nrm (z'D (z'D EA (mE (r1||c1) 9 x.pl)) (mE (r2||c2) 9 x.pl)):= .th nB (.m (by decide))
   have nD:Nrm (z'D (z'D (z'D EA (mE (r1||c1) 9 x.pl)) (mE (r2||c2) 9 x.pl)) (ZaJ p.md (knR t.regs) x.e)):= .th nC (.nds _ _ _)
   repeat' first|refine Zqj (id:=12) (fun(_:Unit)=>⟨z'0 [(0,ptB b),(5,ptB b5),(6,iD (unt t.body (k+1))),(7,Zmo b5),(9,ptB bq),(12,x'E t.body),(13,iD (t.body.length:Nat)),(14,iD (k:Nat))],ZgL bq x::c5H b5 br::ckH p b bl bt (z'D EA (mE (r1||c1) 9 x.pl))::X⟩) ?_ ?_|refine st rfl ?_
   ·refine⟨?_⟩
    cases r1
    all_goals
     repeat' first|refine vt rfl fun K hK=>?_;refine v'2 (l:=mr.1) (c:=mr.2) rfl uML uSL zIL rfl rfl (gr _) ?_;refine hK _ _ ?_;clear hK K;(try simp only[updO])|refine mq1 (mqt4 @smR.eq_1 @er0 @hrp @g5) ?_|refine vs T rfl fun K hK=>?_;(try simp (disch:=omega) only[go_sem,Nat.reduceBEq,smR,er0,hrp,g5]);(first|refine Op1.call3 rfl rfl (x'1 p b bl bt EA nA _ 9 _ (by decide)) rfl ?_;refine hK _ _ ?_;clear hK K)|fail
     refine⟨(),z'O rfl ?_⟩
     simp[sub,upd]
   rintro-
   generalize z'D EA (mE (r1||c1) 9 x.pl)=EB at*
   repeat' first|refine Zqj (id:=13) (fun(_:Unit)=>⟨z'0 [(0,ptB b),(5,ptB b5),(6,iD (unt t.body (k+1))),(7,Zmo b5),(9,ptB bq),(12,x'E t.body),(13,iD (t.body.length:Nat)),(14,iD (k:Nat))],ZgL bq x::c5H b5 br::ckH p b bl bt (z'D EB (mE (r2||c2) 9 x.pl))::X⟩) ?_ ?_|refine st rfl ?_
   ·refine⟨?_⟩
    cases r2
    all_goals
     repeat' first|refine VCg.stepSG T rfl rfl rfl rfl (Zb8 (l:=ml.1) (c:=ml.2) rfl uML uSL zIL rfl rfl (gl _)) ?_|refine dr (id:=13) T 16 (by kernel_rfl) ?_|(first|apply VCg.step T rfl rfl|apply exF);focus((try simp (disch:=omega) only[go_sem,Nat.reduceBEq,smR,el0,hlp,gb]);(exact rfl))|refine VCg.gstep T rfl rfl rfl rfl ?_;try simp only[GB]|refine mq0 ?_|refine vs T rfl fun K hK=>?_;(try simp (disch:=omega) only[go_sem]);(first|refine Op1.call3 rfl rfl (x'1 p b bl bt EB nB _ 9 _ (by decide)) rfl ?_;refine hK _ _ ?_;clear hK K)|fail
     refine⟨(),z'O rfl ?_⟩
     simp[sub,upd]
   rintro-
   generalize z'D EB (mE (r2||c2) 9 x.pl)=EC at*
   have d1:=ZeO p x.e hOx.1 b bl bt (c5H b5 br::X) 231 #[.pointer (some ⟨b5,0,none⟩)] (knR t.regs) hkn EC nC
   have d2:=ZeO p x.f hOx.2 b bl bt (c5H b5 br::X) 231 #[.pointer (some ⟨b5,0,none⟩)] (knR t.regs) hkn _ nD
   repeat' first|refine mq1 (mqt2 @smR.eq_1 @hw1) ?_|refine vs T rfl fun K hK=>?_;(try simp (disch:=omega) only[go_sem,Nat.reduceBEq,smR,hw1]);(first|refine Op1.callN rfl rfl d1 rfl ?_;refine hK _ _ ?_;clear hK K|refine Op1.callN rfl rfl d2 rfl ?_;refine hK _ _ ?_;clear hK K)|fail
   refine⟨⟨k+1,hlt⟩,y'J (by rw[←hs]) ?_,by dsimp only;omega⟩
   simp[sub,upd]
 ·obtain rfl:k=t.body.length:=by omega
  repeat' first|refine mq0 ?_|with_reducible refine z'j (fun hc=>?_) (fun hc=>?_)<;>(try simp only[decide_eq_true_eq,decide_eq_false_iff_not,z'x]at hc)<;>(try(exfalso;omega))|fail
  simp only[stp,w'j,v'T,beq_self_eq_true,cond_true]
  refine ZcN T rfl (z'I _ _) ?_
  exact⟨rfl,rfl⟩
end Go.Proofs.YthlkpnjjkgmlkaaGreat
