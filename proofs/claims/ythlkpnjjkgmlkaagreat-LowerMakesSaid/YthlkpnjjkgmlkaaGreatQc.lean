/- Contracts: the checker of a program: one test; the locations. No condition. -/
import Derived.Test.YthlkpnjjkgmlkaaGreatNy
import Derived.Test.YthlkpnjjkgmlkaaGreatNf
import Derived.Test.YthlkpnjjkgmlkaaGreatNr
namespace Go.Proofs.YthlkpnjjkgmlkaaGreat
set_option maxHeartbeats 16000000
set_option linter.unusedSimpArgs false
set_option linter.unusedVariables false
set_option maxRecDepth 20000
open Go Go.Proofs Go.Vc Go.ChangeMaps
theorem uML:Tryz.prog.underlying 143=some (.map 9 3):=by kernel_rfl
theorem uSL:Tryz.prog.underlying 9=some .string:=by kernel_rfl
theorem zIL:(Tryz.prog.info? 3).bind (·.zero)=some (.int .i64 0):=by kernel_rfl
abbrev mqD (b:Nat):D:= .is (.map (some b))
abbrev knH (b:Nat) (m:Km×Nat):Nat×HC:=(b,.obj (.map (kmE m.1) m.2))
theorem Zb8 {P:Program} {o:Oper} {E:Operand→D} {H:Heap} {t kt et:TypeId} {m x:Operand} {b c:Nat} {l:Km} {s:ByteArray}
  (ho:o.op= .lookup t m x false) (hu:P.underlying t=some (.map kt et)) (hkt:P.underlying kt=some .string) (hz:(P.info? et).bind (·.zero)=some (.int .i64 0)) (hm:E m= .is (.map (some b))) (hx0:E x= .is (.string s))
  (hg:y'V H b=some (.obj (.map (kmE l) c))):OpS P o E H (fun d H'=>d= .is (.int .i64 (kmV l s))∧H'=H):=Op1.toS (v'2 ho hu hkt hz hm hx0 hg ⟨rfl,rfl⟩)
theorem VCg.stepSG {P:Program} (T:Tab P) {ops:Array Oper} {H:Heap} {K:(Nat→D)→List (Tmp×NewI)→Prop} {m:Nat} {E:Nat→D} {news:List (Tmp×NewI)} {o:Oper} {l:List Oper} {j g:Nat} {want:Bool} {d:D} {t:Tmp}
  (hg:o.guard=some (j,want)) (hj:(ops[j]?).bind (·.dst)=some g) (ht:E g= .is (.bool want)) (hs:o.dst=some t) (h1:OpS P o (evD E) H (fun d' H'=>d'=d∧H'=H)) (h2:VCg T ops H K m l (upd E t d) news):VCg T ops H K (m+1) (o::l) E news:=by
 unfold VCg;exact⟨.det d,⟨.inr ⟨j,want,g,hg,hj,ht⟩,h1⟩,by rw[w'g,z'u,hs];exact h2⟩
theorem Op1.callBq {P:Program} {o:Oper} {E:Operand→D} {f:FuncId} {xf:Operand} {aa:Array Operand} {tys:Array TypeId} {args:List D} {Hp Hp' H1 Hr:Heap} {fr:Bool} {d0:D} {K:D→Heap→Prop}
  (ho:o.op= .call ⟨.value xf,aa,tys⟩) (hE:E xf= .is (.func (.func f) #[] #[])) (h:Fun P f args Hp fr (fun d H'=>d=d0∧H'=Hp')) (ha:aa.toList.map E=args) (hk:K d0 (H1++(Hp'++Hr))):Op1 P o E (H1++(Hp++Hr)) K:=by
 have hp: ∀Y:Heap,(H1++(Y++Hr)).Perm (Y++(H1++Hr)):=fun Y=>List.perm_append_comm_assoc ..
 refine⟨_,OpS.permR (Op1.toS (Op1.callG (caps:= #[]) (Hp:=Hp) (Hr:=H1++Hr) (K:=fun d H'=>d=d0∧H'=Hp'++(H1++Hr)) ho hE (by simp only[Array.toList_empty,y'a,z'u];exact ha) h (hp Hp) fun d H' ⟨q1,q2⟩=>⟨q1,by rw[q2]⟩)) (Ψ:=fun d H'=>d=d0∧H'=H1++(Hp'++Hr)) fun d H' ⟨q1,q2⟩=>⟨_,by rw[q2];exact(hp Hp').symm,q1,rfl⟩,fun d H' ⟨q1,q2⟩=>by rw[q1,q2];exact hk⟩
theorem Op1.call2 {P:Program} {o:Oper} {E:Operand→D} {f:FuncId} {xf:Operand} {aa:Array Operand} {tys:Array TypeId} {args:List D} {x y z:Nat×HC} {Hr:Heap} {fr:Bool} {d0:D} {K:D→Heap→Prop}
  (ho:o.op= .call ⟨.value xf,aa,tys⟩) (hE:E xf= .is (.func (.func f) #[] #[])) (h:Fun P f args [x] fr (fun d H'=>d=d0∧H'=[y])) (ha:aa.toList.map E=args) (hk:K d0 (z::y::Hr)):Op1 P o E (z::x::Hr) K:=
 Op1.callBq (H1:=[z]) (Hp:=[x]) (Hr:=Hr) ho hE h ha hk
theorem Op1.call3 {P:Program} {o:Oper} {E:Operand→D} {f:FuncId} {xf:Operand} {aa:Array Operand} {tys:Array TypeId} {args:List D} {x y z u:Nat×HC} {Hr:Heap} {fr:Bool} {d0:D} {K:D→Heap→Prop}
  (ho:o.op= .call ⟨.value xf,aa,tys⟩) (hE:E xf= .is (.func (.func f) #[] #[])) (h:Fun P f args [x] fr (fun d H'=>d=d0∧H'=[y])) (ha:aa.toList.map E=args) (hk:K d0 (z::u::y::Hr)):Op1 P o E (z::u::x::Hr) K:=
 Op1.callBq (H1:=[z,u]) (Hp:=[x]) (Hr:=Hr) ho hE h ha hk
abbrev ckC (p:Pg) (bl bt:Nat) (e:Int×Int):List D:=[iD p.md,Zic p.locs,ZkW p.ths,Zmq p.cms,mqD bl,mqD bt,iD e.1,iD e.2]
abbrev ckH (p:Pg) (b bl bt:Nat) (e:Int×Int):Nat×HC:=(b,.cells 159 8 (ckC p bl bt e))
theorem x'1 (p:Pg) (b bl bt:Nat) (e:Int×Int) (he:Nrm e) (so:Bool) (c a:Int) (hc:c≠0):Fun Tryz.prog 103 [ptB b,bD so,iD c,iD a] [ckH p b bl bt e] false
  (fun d H'=>d=bD (decide ((z'D e (mE so c a)).1=0))∧H'=[ckH p b bl bt (z'D e (mE so c a))]):=by
 refine Fun.of T [.tmp 8] Tryz.func103 rfl Tryz.ntmps103 Tryz.results103 rfl (by kernel_rfl) ?_
 obtain⟨e1,e2⟩:=e
 by_cases h:e1=0
 ·have:=he h
  cases this
  have t1:((0:Int) == 0)=true:=rfl
  cases so with
  |true=>
   rw[Zch rfl,w'Q]
   repeat' first|refine mq1 @t1 ?_|fail
   unfold stp
   refine z'r T (H':=[ckH p b bl bt _]) (z'n _) ?_
   exact⟨rfl,rfl⟩
  |false=>
   rw[Zcg rfl,w'Q,decide_eq_false hc]
   have t2:(c == 0)=false:=beq_eq_false_iff_ne.2 hc
   repeat' first|refine mq1 (mqt2 @t1 @t2) ?_|fail
   unfold stp
   refine z'r T (H':=[ckH p b bl bt (c,a)]) (z'n _) ?_
   exact⟨rfl,rfl⟩
 ·rw[ZgM (show(e1,e2).1≠0 from h),decide_eq_false (show ¬(e1,e2).1=0 from h)]
  have t1:(e1 == 0)=false:=beq_eq_false_iff_ne.2 h
  cases so<;>
  ·repeat' first|refine mq1 @t1 ?_|fail
   unfold stp
   refine z'r T (H':=[ckH p b bl bt _]) (z'n _) ?_
   exact⟨rfl,rfl⟩
theorem ZdY {l:List ByteArray} {k:Nat} (h:k<l.length):l.take (k+1)=l.take k++[l.getD k e0]:=by
 rw[List.take_add_one,v'M (d:=e0) h,Option.toList_some]
theorem cnV {m:Km} {c:Nat} {l:List ByteArray} (h:CnOk m c l) (s:ByteArray):0≤kmV m s∧kmV m s≤l.length:=by
 rw[h.val]
 have:=Zsl l s
 omega
theorem ZtB (p:Pg) (i:Nat):Nrm (lcX p i):= .th (.th (.m (by decide)) (.m (by decide))) (.m (by decide))
theorem Zr7 (p:Pg) (hp:p.locs.length≤1000) (b bl bt:Nat) (e:Int×Int) (he:Nrm e):Fun Tryz.prog 104 [ptB b] [ckH p b bl bt e,knH bl ([],0)] false
  (fun d H'=> ∃m:Km×Nat,CnOk m.1 m.2 (lcN p)∧d= .tup []∧H'=[ckH p b bl bt (z'D e (y'A p.locs.length (lcX p))),knH bl m]):=by
 have hlc:(lcN p).length=p.locs.length:=z'i ..
 refine Fun.of T [] Tryz.func104 rfl Tryz.ntmps104 Tryz.results104 rfl (by kernel_rfl) ?_
 apply VC.nodup
 intro hnd
 simp only[Heap.blocks,z'p,y'a,y'O,z'v,y'P,or_false]at hnd
 have hb:b≠bl:=hnd.1
 clear hnd
 repeat' first|refine mq1 @x'B ?_|fail
 refine VC.loop {x:Nat×Km×Nat//x.1≤p.locs.length∧CnOk x.2.1 x.2.2 ((lcN p).take x.1)} (fun x=>⟨z'0 [(0,ptB b),(8,Zic p.locs),(9,iD (p.locs.length:Nat)),(10,iD (x.1.1:Nat))],[ckH p b bl bt (z'D e (y'A x.1.1 (lcX p))),knH bl x.1.2]⟩) (fun x=>p.locs.length-x.1.1) ⟨(0,[],0),z'm _,CnOk.nil⟩ ?_ ?_
 ·refine z'O (by rw[Zaf he]) ?_
  simp[sub,upd]
 rintro⟨⟨k,m,c⟩,hk,hm⟩
 dsimp only at hk hm⊢
 have n0:Nrm (z'D e (y'A k (lcX p))):= .th he .fst
 have hs:z'D (z'D e (y'A k (lcX p))) (lcX p k)=z'D e (y'A (k+1) (lcX p)):=Za2 (ZtB p k)
 rw[show lcX p k=z'D (z'D (mE (decide (k<6)) 12 (p.locs.getD k lv0).pl) (mE (decide (cnF ((lcN p).take k) (p.locs.getD k lv0).nm=0)) 10 (p.locs.getD k lv0).pl)) (mE (decide ((p.locs.getD k lv0).n<p.md)) 11 (p.locs.getD k lv0).pl) from rfl, ←y'v, ←y'v]at hs
 rcases z'g k p.locs.length with hlt|hge
 ·have e1:decide ((k:Int)<(p.locs.length:Nat))=true:=decide_eq_true (by omega)
  have hv:=cnV hm (p.locs.getD k lv0).nm
  have hvv:=hm.val (p.locs.getD k lv0).nm
  have hm':=hm.snoc (p.locs.getD k lv0).nm
  rw[←Zkm, ←ZdY (l:=lcN p) (by omega),Zkm]at hm'
  rw[z'T]at hv
  generalize z'D e (y'A k (lcX p))=E0 at*
  generalize hx:p.locs.getD k lv0=v at*
  have hk6:decide ((k:Int)<6)=decide (k<6):=by rw[decide_eq_decide];omega
  have hcz:(kmV m v.nm == 0)=decide (cnF ((lcN p).take k) v.nm=0):=by rw[hvv,z'9];simp
  have n1: ∀so a,Nrm (z'D E0 (mE so 12 a)):=fun so a=> .th n0 (.m (by decide))
  have n2: ∀so a so' a',Nrm (z'D (z'D E0 (mE so 12 a)) (mE so' 10 a')):=fun so a so' a'=> .th (n1 so a) (.m (by decide))
  repeat' first|refine vt rfl fun K hK=>?_;refine v'2 (l:=m) (c:=c) rfl uML uSL zIL rfl rfl (by simp (disch:=omega) only[hget_ne,hget_eq]) ?_;refine hK _ _ ?_;clear hK K;(try simp only[updO])|refine vt rfl fun K hK=>?_;refine Zl3 (l:=m) (c:=c) (s:=v.nm) rfl uML uSL rfl rfl rfl (by simp (disch:=omega) only[hget_ne,hget_eq]) ?_;refine hK _ _ ?_;clear hK K;(try simp only[updO])|refine VCg.stepS T rfl rfl (Zb8 (l:=m) (c:=c) rfl uML uSL zIL rfl rfl (by simp (disch:=omega) only[hget_ne,hget_eq])) ?_|refine dr (id:=4) T 11 (by kernel_rfl) ?_|refine dr (id:=5) T 11 (by kernel_rfl) ?_|refine dr (id:=6) T 6 (by kernel_rfl) ?_|apply VCg.step T rfl rfl;focus((try simp (disch:=omega) only[go_sem,Nat.reduceBEq,hcz]);(exact rfl))|refine mq1 (mqt7 @w'U @lvR.eq_1 @e1 @w64 @hx @hk6 @z'b) ?_|refine mqn fun bq hbq=>?_|refine .wk ?_ ?_;focus(try omega)|refine vs T rfl fun K hK=>?_;(try simp (disch:=omega) only[go_sem,Nat.reduceBEq,Nat.reduceAdd,Nat.reduceLeDiff,w'U,lvR,e1,w64,hx,hk6,z'b]);(first|refine Op1.call2 rfl rfl (x'1 p b bl bt E0 n0 _ 12 _ (by decide)) rfl ?_;refine hK _ _ ?_;clear hK K|refine Op1.call2 rfl rfl (x'1 p b bl bt _ (n1 _ _) _ 10 _ (by decide)) rfl ?_;refine hK _ _ ?_;clear hK K|refine Op1.call2 rfl rfl (x'1 p b bl bt _ (n2 _ _ _ _) _ 11 _ (by decide)) rfl ?_;refine hK _ _ ?_;clear hK K)|fail
  refine⟨⟨(k+1,w'a m c v.nm),hlt,hm'⟩,Weak.subH (by rw[←hs];exact z'I _ _) ?_,by dsimp only;omega⟩
  simp[sub,upd]
 ·obtain rfl:k=p.locs.length:=by omega
  repeat' first|refine mq0 ?_|with_reducible refine z'j (fun hc=>?_) (fun hc=>?_)<;>(try simp only[decide_eq_true_eq,decide_eq_false_iff_not,z'x]at hc)<;>(try(exfalso;omega))|fail
  rw[←hlc,y'w]at hm
  simp only[stp,w'j,v'T,beq_self_eq_true,cond_true]
  refine ZcN T rfl (z'n _) ?_
  exact⟨(m,c),hm,rfl,rfl⟩
theorem Zfi {a:Nat×HC} {X:Heap}:(a::X).Perm (X++[a]):=(List.perm_append_singleton a X).symm
abbrev fnD (f:FuncId) (caps:Array Value):D:= .is (.func (.func f) #[] caps)
theorem ZeO (p:Pg) (l:List Nod) (hl:l.length≤1000) (b bl bt:Nat) (X:Heap) (fk:FuncId) (caps:Array Value) (kn:Nod→Bool)
  (hkn: ∀(x:Nod) (e:Int×Int),Fun Tryz.prog fk (.agg (nodR x)::caps.toList.map D.is) (ckH p b bl bt e::X) false (fun d H'=>d=bD (kn x)∧H'=ckH p b bl bt e::X))
  (e:Int×Int) (he:Nrm e):Fun Tryz.prog 162 [ptB b,y'4 l,fnD fk caps] (ckH p b bl bt e::X) false
   (fun d H'=>d= .tup []∧H'=ckH p b bl bt (z'D e (ZaJ p.md kn l))::X):=by
 refine Fun.of T [] Tryz.func162 rfl Tryz.ntmps162 Tryz.results162 rfl (by kernel_rfl) ?_
 repeat' first|refine mq1 @z'Z ?_|fail
 refine VC.loop {k:Nat//k≤l.length} (fun x=>⟨z'0 [(0,ptB b),(2,fnD fk caps),(8,y'4 l),(9,iD (l.length:Nat)),(10,iD (x.1:Nat))],ckH p b bl bt (z'D e (y'A x.1 fun i=>ndX p.md kn (l.getD i z'J)))::X⟩) (fun x=>l.length-x.1) ⟨0,z'm _⟩ ?_ ?_
 ·refine z'O (by rw[Zaf he]) ?_
  simp[sub,upd]
 rintro⟨k,hk⟩
 dsimp only at hk⊢
 have n0:Nrm (z'D e (y'A k fun i=>ndX p.md kn (l.getD i z'J))):= .th he .fst
 have hs:=Za2 (e:=e) (n:=k) (g:=fun i=>ndX p.md kn (l.getD i z'J)) (ZtD p.md kn _)
 rcases z'g k l.length with hlt|hge
 ·have e1:decide ((k:Int)<(l.length:Nat))=true:=decide_eq_true (by omega)
  generalize hE0:z'D e (y'A k fun i=>ndX p.md kn (l.getD i z'J))=E0 at*
  generalize hx:l.getD k z'J=x at*
  have hk':=fun e=>hkn x e
  have fin: ∀(E:Nat→D) (q:Nat×HC),Vc.sub E [(0,ptB b),(2,fnD fk caps),(8,y'4 l),(9,iD (l.length:Nat)),(10,iD (k+1:Nat))]→
    ∃k':{k:Nat//k≤l.length},Weak ⟨E,q::ckH p b bl bt (z'D E0 (ndX p.md kn x))::X⟩ ⟨z'0 [(0,ptB b),(2,fnD fk caps),(8,y'4 l),(9,iD (l.length:Nat)),(10,iD (k'.1:Nat))],ckH p b bl bt (z'D e (y'A k'.1 fun i=>ndX p.md kn (l.getD i z'J)))::X⟩∧l.length-k'.1<l.length-k:=fun E q h=>
   ⟨⟨k+1,hlt⟩,y'J (by rw[hs]) h,by dsimp only;omega⟩
  by_cases h1:x.op=1
  ·have q1:(x.op == 1)=true:=by simp only[h1,beq_self_eq_true]
   have hX:ndX p.md kn x=mE (decide (x.n<p.md)) 11 x.pl:=by rw[ndX,if_pos h1]
   rw[hX]at fin
   repeat' first|refine dr (id:=5) T 11 (by kernel_rfl) ?_|apply VCg.step T rfl rfl;focus((try simp (disch:=omega) only[go_sem,Nat.reduceBEq]);(exact rfl))|refine mq1 (mqt7 @y's @nodR.eq_1 @e1 @q1 @w64 @z'b @hx) ?_|refine mqn fun bq hbq=>?_|refine .wk ?_ ?_;focus(try omega)|refine vs T rfl fun K hK=>?_;(try simp (disch:=omega) only[go_sem,Nat.reduceBEq,Nat.reduceAdd,Nat.reduceLeDiff,y's,nodR,e1,q1,w64,z'b,hx]);(first|refine Op1.call2 rfl rfl (x'1 p b bl bt E0 n0 _ 11 _ (by decide)) rfl ?_;refine hK _ _ ?_;clear hK K)|fail
   refine fin _ _ ?_
   simp[sub,upd]
  have q1:(x.op == 1)=false:=beq_eq_false_iff_ne.2 h1
  by_cases h2:2≤x.op∧x.op≤4
  ·have hX:ndX p.md kn x=mE (kn x) 9 x.pl:=by rw[ndX,if_neg h1,if_pos h2]
   rw[hX]at fin
   have h3:x.op=2∨x.op=3∨x.op=4:=by omega
   rcases h3 with h3|h3|h3
   ·have q2:(x.op == 2)=true:=by simp only[h3,beq_self_eq_true]
    repeat' first|refine dr (id:=9) T 6 (by kernel_rfl) ?_|apply VCg.step T rfl rfl;focus((try simp (disch:=omega) only[go_sem,Nat.reduceBEq,Nat.reduceAdd,Nat.reduceLeDiff]);(first|exact rfl|refine Op1.callD rfl rfl (hkn x E0) rfl (Zfi) ?_;exact⟨rfl,rfl⟩))|refine mq1 (mqt8 @y's @nodR.eq_1 @e1 @q1 @q2 @w64 @z'b @hx) ?_|refine mqn fun bq hbq=>?_|refine .wk ?_ ?_;focus(try omega)|refine vs T rfl fun K hK=>?_;(try simp (disch:=omega) only[go_sem,Nat.reduceBEq,Nat.reduceAdd,Nat.reduceLeDiff,y's,nodR,e1,q1,q2,w64,z'b,hx]);(first|refine Op1.call2 rfl rfl (x'1 p b bl bt E0 n0 _ 9 _ (by decide)) rfl ?_;refine hK _ _ ?_;clear hK K)|fail
    refine fin _ _ ?_
    simp[sub,upd]
   ·have q2:(x.op == 2)=false:=beq_eq_false_iff_ne.2 (by omega)
    have q3:(x.op == 3)=true:=by simp only[h3,beq_self_eq_true]
    repeat' first|refine dr (id:=9) T 6 (by kernel_rfl) ?_|apply VCg.step T rfl rfl;focus((try simp (disch:=omega) only[go_sem,Nat.reduceBEq,Nat.reduceAdd,Nat.reduceLeDiff]);(first|exact rfl|refine Op1.callD rfl rfl (hkn x E0) rfl (Zfi) ?_;exact⟨rfl,rfl⟩))|refine mq1 (mqt9 @y's @nodR.eq_1 @e1 @q1 @q2 @q3 @w64 @z'b @hx) ?_|refine mqn fun bq hbq=>?_|refine .wk ?_ ?_;focus(try omega)|refine vs T rfl fun K hK=>?_;(try simp (disch:=omega) only[go_sem,Nat.reduceBEq,Nat.reduceAdd,Nat.reduceLeDiff,y's,nodR,e1,q1,q2,q3,w64,z'b,hx]);(first|refine Op1.call2 rfl rfl (x'1 p b bl bt E0 n0 _ 9 _ (by decide)) rfl ?_;refine hK _ _ ?_;clear hK K)|fail
    refine fin _ _ ?_
    simp[sub,upd]
   ·have q2:(x.op == 2)=false:=beq_eq_false_iff_ne.2 (by omega)
    have q3:(x.op == 3)=false:=beq_eq_false_iff_ne.2 (by omega)
    have q4:(x.op == 4)=true:=by simp only[h3,beq_self_eq_true]
    repeat' first|refine dr (id:=9) T 6 (by kernel_rfl) ?_|apply VCg.step T rfl rfl;focus((try simp (disch:=omega) only[go_sem,Nat.reduceBEq,Nat.reduceAdd,Nat.reduceLeDiff]);(first|exact rfl|refine Op1.callD rfl rfl (hkn x E0) rfl (Zfi) ?_;exact⟨rfl,rfl⟩))|refine mq1 (mqt10 @y's @nodR.eq_1 @e1 @q1 @q2 @q3 @q4 @w64 @z'b @hx) ?_|refine mqn fun bq hbq=>?_|refine .wk ?_ ?_;focus(try omega)|refine vs T rfl fun K hK=>?_;(try simp (disch:=omega) only[go_sem,Nat.reduceBEq,Nat.reduceAdd,Nat.reduceLeDiff,y's,nodR,e1,q1,q2,q3,q4,w64,z'b,hx]);(first|refine Op1.call2 rfl rfl (x'1 p b bl bt E0 n0 _ 9 _ (by decide)) rfl ?_;refine hK _ _ ?_;clear hK K)|fail
    refine fin _ _ ?_
    simp[sub,upd]
  ·have hX:ndX p.md kn x=(0,0):=by rw[ndX,if_neg h1,if_neg h2]
   rw[hX,Zd0 n0]at fin
   have q2:(x.op == 2)=false:=beq_eq_false_iff_ne.2 (by omega)
   have q3:(x.op == 3)=false:=beq_eq_false_iff_ne.2 (by omega)
   have q4:(x.op == 4)=false:=beq_eq_false_iff_ne.2 (by omega)
   repeat' first|refine mq1 (mqt10 @y's @nodR.eq_1 @e1 @q1 @q2 @q3 @q4 @w64 @z'b @hx) ?_|refine mqn fun bq hbq=>?_|refine .wk ?_ ?_;focus(try omega)|fail
   refine fin _ _ ?_
   simp[sub,upd]
 ·obtain rfl:k=l.length:=by omega
  repeat' first|refine mq0 ?_|with_reducible refine z'j (fun hc=>?_) (fun hc=>?_)<;>(try simp only[decide_eq_true_eq,decide_eq_false_iff_not,z'x]at hc)<;>(try(exfalso;omega))|fail
  simp only[stp,w'j,v'T,beq_self_eq_true,cond_true]
  refine ZcN T rfl (z'n _) ?_
  exact⟨rfl,rfl⟩
end Go.Proofs.YthlkpnjjkgmlkaaGreat
