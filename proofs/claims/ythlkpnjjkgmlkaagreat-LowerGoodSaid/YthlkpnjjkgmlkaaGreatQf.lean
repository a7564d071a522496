/- Contracts: the checker: a thread. No condition. -/
import Derived.Test.YthlkpnjjkgmlkaaGreatQe
namespace Go.Proofs.YthlkpnjjkgmlkaaGreat
set_option maxHeartbeats 16000000
set_option linter.unusedSimpArgs false
set_option linter.unusedVariables false
set_option maxRecDepth 20000
open Go Go.Proofs Go.Vc Go.ChangeMaps
abbrev Rg:=List (ByteArray×Nat×(Km×Nat))
def tmO (x:ByteArray×Nat×(Km×Nat)) (n:Nat):MapEntry:={key:= .string x.1,val:= .map (some x.2.1),born:=n}
def tmL:Rg→Nat→List MapEntry
 |[],_=>[]
 |x::r,n=>tmO x n::tmL r (n+1)
def tmE (R:Rg):Array MapEntry:=(tmL R 0).toArray
def x'w:Rg→ByteArray→Nat→Option (Nat×Nat)
 |[],_,_=>none
 |x::r,s,i=>if s=x.1 then some (i,x.2.1)else x'w r s (i+1)
def tmP:Option (Nat×Nat)→Option (Nat×Value):=Option.map fun p=>(p.1,.map (some p.2))
theorem Zdp (s:ByteArray): ∀(R:Rg) (n i:Nat),Instr.findNow .string (.string s) (tmL R n) i=some (tmP (x'w R s i))
 |[],_,i=>rfl
 |x::R,n,i=>by
  simp only[tmL,Instr.findNow,tmO,Instr.sameNow,x'w]
  by_cases h:s=x.1
  ·subst h;rw[(MapKept.bytes_beq x.1 x.1).2 rfl];simp[tmP]
  ·have hb:(s == x.1)=false:=by rw[←Bool.not_eq_true,MapKept.bytes_beq];exact h
   rw[hb,if_neg h]
   exact Zdp s R (n+1) (i+1)
theorem Zmh: ∀(R:Rg) (x:ByteArray×Nat×(Km×Nat)) (n:Nat),tmL (R++[x]) n=tmL R n++[tmO x (n+R.length)]
 |[],x,n=>rfl
 |y::R,x,n=>by
  rw[y'D,tmL,Zmh R x (n+1),tmL,y'D,z'q,show n+1+R.length=n+(R.length+1) by omega]
def tmD:Option (Nat×Nat)→D
 |some p=>mqD p.2
 |none=> .is (.map none)
abbrev tmH (bt:Nat) (R:Rg):Nat×HC:=(bt,.obj (.map (tmE R) R.length))
abbrev rgs (R:Rg):Heap:=R.map fun x=>knH x.2.1 x.2.2
theorem uTL:Tryz.prog.underlying 157=some (.map 9 143):=by kernel_rfl
theorem zTL:(Tryz.prog.info? 143).bind (·.zero)=some (.map none):=by kernel_rfl
section
variable {P : Program} {o : Oper} {E : Operand → D} {H : Heap} {t kt et : TypeId} {m x y : Operand} {b : Nat} {R : Rg} {s : ByteArray}
theorem Zon (ho:o.op= .lookup t m x true) (hu:P.underlying t=some (.map kt et)) (hkt:P.underlying kt=some .string) (hz:(P.info? et).bind (·.zero)=some (.map none)) (hm:E m=mqD b) (hx0:E x=sD s)
  (hg:y'V H b=some (.obj (.map (tmE R) R.length))):OpS P o E H (fun d H'=>d= .tup [tmD (x'w R s 0),bD (x'w R s 0).isSome]∧H'=H):=by
 refine Op1.toS (ZdR (kd:= .string) (k:= .string s) ho hu hkt rfl hz hm hx0 hg (Zdp s R 0 0) (fun cs h=>?_) ⟨?_,rfl⟩)
 ·cases hq:x'w R s 0<;>rw[hq]at h<;>cases h
 ·cases hq:x'w R s 0<;>rfl
theorem ZiL (ho:o.op= .lookup t m x false) (hu:P.underlying t=some (.map kt et)) (hkt:P.underlying kt=some .string) (hz:(P.info? et).bind (·.zero)=some (.map none)) (hm:E m=mqD b) (hx0:E x=sD s)
  (hg:y'V H b=some (.obj (.map (tmE R) R.length))):OpS P o E H (fun d H'=>d=tmD (x'w R s 0)∧H'=H):=by
 refine Op1.toS (ZdR (kd:= .string) (k:= .string s) ho hu hkt rfl hz hm hx0 hg (Zdp s R 0 0) (fun cs h=>?_) ⟨?_,rfl⟩)
 ·cases hq:x'w R s 0<;>rw[hq]at h<;>cases h
 ·cases hq:x'w R s 0<;>rfl
theorem ZrQ {K:D→Heap→Prop} {u v:Nat×HC} {Hr:Heap} {br:Nat} {mr:Km×Nat} (ho:o.op= .mapUpdate t m x y) (hu:P.underlying t=some (.map kt et)) (hkt:P.underlying kt=some .string) (hm:E m=mqD b) (hx0:E x=sD s) (hy:E y=mqD br)
  (h1:u.1≠b) (h2:v.1≠b) (hf:x'w R s 0=none) (hk:K (.is undef) (u::v::tmH b (R++[(s,br,mr)])::Hr)):Op1 P o E (u::v::tmH b R::Hr) K:=by
 refine Zhv (kd:= .string) (k:= .string s) (v:= .map (some br)) (es:=tmE R) (c:=R.length) (p:=none) (.inl ho) hu hkt rfl hm hx0 (by rw[hy];rfl) ((hget_ne h1).trans ((hget_ne h2).trans hget_eq)) (by have:=Zdp s R 0 0;rw[hf]at this;exact this) (fun q hq=>by cases hq) ?_
 rw[hset_ne h1,hset_ne h2,hset_eq]
 have:v'K (tmE R) R.length (.string s) (.map (some br)) none= .map (tmE (R++[(s,br,mr)])) (R++[(s,br,mr)]).length:=by
  show Obj.map ((tmE R).push _) (R.length+1)=_
  rw[z'e,List.length_singleton]
  congr 1
  rw[tmE,tmE,Zmh,z'5]
  simp[tmO]
 rw[this]
 exact hk
end
theorem ZkF {P:Program} {o:Oper} {E:Operand→D} {Hr:Heap} {K:D→Heap→Prop} {t kt et:TypeId} {m x y:Operand} {b c:Nat} {l:Km} {s:ByteArray}
  (ho:o.op= .mapUpdate t m x y) (hu:P.underlying t=some (.map kt et)) (hkt:P.underlying kt=some .string) (hm:E m= .is (.map (some b))) (hx0:E x= .is (.string s)) (hy:E y= .is (.int .i64 (kmV l s+1)))
  (hk:K (.is undef) (knH b (w'a l c s)::Hr)):Op1 P o E ((b,.obj (.map (kmE l) c))::Hr) K:=
 Zl3 ho hu hkt hm hx0 hy hget_eq (by rw[hset_eq];exact hk)
theorem Op1.callS {P:Program} {o:Oper} {E:Operand→D} {f:FuncId} {xf:Operand} {aa:Array Operand} {tys:Array TypeId} {args:List D} {x y a:Nat×HC} {Y:Heap} {fr:Bool} {d0:D} {K:D→Heap→Prop}
  (ho:o.op= .call ⟨.value xf,aa,tys⟩) (hE:E xf= .is (.func (.func f) #[] #[])) (h:Fun P f args (x::a::Y) fr (fun d H'=>d=d0∧H'=y::a::Y)) (ha:aa.toList.map E=args) (hk:K d0 (a::y::Y)):Op1 P o E (a::x::Y) K:=by
 have hp: ∀z:Nat×HC,(a::z::Y).Perm ((z::a::Y)++[]):=fun z=>y'n fun q=>by simp only[y'c,y'i,y'k];omega
 refine⟨_,OpS.permR (Op1.toS (Op1.callG (caps:= #[]) (Hp:=x::a::Y) (Hr:=[]) (K:=fun d H'=>d=d0∧H'=(y::a::Y)++[]) ho hE (by simp only[Array.toList_empty,y'a,z'u];exact ha) h (hp x) fun d H' ⟨q1,q2⟩=>⟨q1,by rw[q2]⟩)) (Ψ:=fun d H'=>d=d0∧H'=a::y::Y) fun d H' ⟨q1,q2⟩=>⟨_,by rw[q2];exact(hp y).symm,q1,rfl⟩,fun d H' ⟨q1,q2⟩=>by rw[q1,q2];exact hk⟩
theorem Op1.callH {P:Program} {o:Oper} {E:Operand→D} {f:FuncId} {xf:Operand} {aa:Array Operand} {tys:Array TypeId} {args:List D} {x y:Nat×HC} {Hr:Heap} {fr:Bool} {d0:D} {K:D→Heap→Prop}
  (ho:o.op= .call ⟨.value xf,aa,tys⟩) (hE:E xf= .is (.func (.func f) #[] #[])) (h:Fun P f args [x] fr (fun d H'=>d=d0∧H'=[y])) (ha:aa.toList.map E=args) (hk:K d0 (y::Hr)):Op1 P o E (x::Hr) K:=
 Op1.callG (caps:= #[]) (Hp:=[x]) (Hr:=Hr) ho hE (by simp only[Array.toList_empty,y'a,z'u];exact ha) h (y't _) (fun d H' ⟨h1,h2⟩=>by subst h1;subst h2;exact hk)
def tdY (p:Pg) (t:Td) (i:Nat) (had:Bool):Int×Int:=
 z'D (z'D (z'D (z'D (mE (decide (i<4)) 12 t.pl) (mE (!had) 10 t.pl)) (mE (decide (t.regs.length≤6)) 12 t.pl)) (y'A t.regs.length (rgE p t))) (bdX p t)
def rgN (R:Rg) (s:ByteArray) (br:Nat) (mr:Km×Nat):Rg:=match x'w R s 0 with
 |none=>R++[(s,br,mr)]
 |some _=>R
abbrev tdF (p:Pg) (t:Td) (i:Nat) (b bl bt:Nat) (ml:Km×Nat) (R:Rg) (e:Int×Int):D→Heap→Prop:=fun d H'=> ∃x:Nat×(Km×Nat),CnOk x.2.1 x.2.2 t.regs∧d= .tup []∧H'.Perm (ckH p b bl bt (z'D e (tdY p t i (x'w R t.nm 0).isSome))::tmH bt (rgN R t.nm x.1 x.2)::knH bl ml::rgs (rgN R t.nm x.1 x.2))
theorem Zk9 (p:Pg) (t:Td) (hr:t.regs.length≤1000) (hO:OkS t.body) (hB:smB t.body=true) (i:Nat) (b bl bt:Nat) (ml:Km×Nat) (cl:CnOk ml.1 ml.2 (lcN p)) (R:Rg) (e:Int×Int) (he:Nrm e):
  Fun Tryz.prog 105 [ptB b,iD (i:Nat),.agg (tdR t)] (ckH p b bl bt e::tmH bt R::knH bl ml::rgs R) false (tdF p t i b bl bt ml R e):=by
 refine Fun.of T [] Tryz.func105 rfl Tryz.ntmps105 Tryz.results105 rfl (by kernel_rfl) ?_
 apply VC.nodup
 intro hnd
 simp only[Heap.blocks,z'p,y'O,z'v,not_or]at hnd
 obtain⟨⟨q1,q2,q3⟩,⟨q4,q5⟩,q6,_⟩:=hnd
 have n1: ∀so a,Nrm (z'D e (mE so 12 a)):=fun so a=> .th he (.m (by decide))
 have n2: ∀so a so' a',Nrm (z'D (z'D e (mE so 12 a)) (mE so' 10 a')):=fun so a so' a'=> .th (n1 so a) (.m (by decide))
 have hk4:decide ((i:Int)<4)=decide (i<4):=by rw[decide_eq_decide];omega
 have hk6:decide ((t.regs.length:Int)≤6)=decide (t.regs.length≤6):=by rw[decide_eq_decide];omega
 generalize hf:x'w R t.nm 0=fo
 repeat' first|refine vb (t:=45) rfl rfl rfl rfl ?_|refine vt rfl fun K hK=>?_;refine Zb9 rfl uML (fun x hx=>(by cases hx))<|fun br hbr=>?_;refine hK _ _ ?_;clear hK K;(try simp only[updO])|refine VCg.stepS T rfl rfl (Zon (R:=R) rfl uTL uSL zTL rfl rfl ((hget_ne q1).trans hget_eq)) ?_|refine dr (id:=1) T 11 (by kernel_rfl) ?_|(apply VCg.step T rfl rfl);focus((try simp (disch:=omega) only[go_sem,Nat.reduceBEq,Nat.reduceAdd,tdR,hf]);(exact rfl))|refine mq1 (mqt5 @tdR.eq_1 @x'h @hk4 @hk6 @hf) ?_|refine vs T rfl fun K hK=>?_;(try simp (disch:=omega) only[go_sem,Nat.reduceBEq,Nat.reduceAdd,tdR,x'h,hk4,hk6,hf]);(first|refine Op1.callH rfl rfl (x'1 p b bl bt e he _ 12 _ (by decide)) rfl ?_;refine hK _ _ ?_;clear hK K|refine Op1.callH rfl rfl (x'1 p b bl bt _ (n1 _ _) _ 10 _ (by decide)) rfl ?_;refine hK _ _ ?_;clear hK K|refine Op1.callH rfl rfl (x'1 p b bl bt _ (n2 _ _ _ _) _ 12 _ (by decide)) rfl ?_;refine hK _ _ ?_;clear hK K)|fail
 obtain⟨r1,r2,r3,r4⟩:br≠b∧br≠bt∧br≠bl∧br∉(rgs R).blocks:=by
  simp only[HB]at hbr
  exact hbr
 have n3:Nrm (z'D (z'D (z'D e (mE (decide (i<4)) 12 t.pl)) (mE (!fo.isSome) 10 t.pl)) (mE (decide (t.regs.length≤6)) 12 t.pl)):= .th (n2 _ _ _ _) (.m (by decide))
 have hE3:z'D e (tdY p t i fo.isSome)=z'D (z'D (z'D (z'D (z'D e (mE (decide (i<4)) 12 t.pl)) (mE (!fo.isSome) 10 t.pl)) (mE (decide (t.regs.length≤6)) 12 t.pl)) (y'A t.regs.length (rgE p t))) (bdX p t):=by
  unfold tdY
  simp only[y'v]
 generalize z'D (z'D (z'D e (mE (decide (i<4)) 12 t.pl)) (mE (!fo.isSome) 10 t.pl)) (mE (decide (t.regs.length≤6)) 12 t.pl)=E3 at*
 clear hbr
 refine VC.loop {x:Nat×(Km×Nat)//x.1≤t.regs.length∧CnOk x.2.1 x.2.2 (t.regs.take x.1)} (fun x=>⟨z'0 [(0,ptB b),(5,.pt (tdR t)),(7,bD fo.isSome),(8,mqD br),(43,x't t.regs),(44,iD (t.regs.length:Nat)),(45,iD (x.1.1:Nat))],knH br x.1.2::ckH p b bl bt (z'D E3 (y'A x.1.1 (rgE p t)))::tmH bt R::knH bl ml::rgs R⟩) (fun x=>t.regs.length-x.1.1) ⟨(0,[],0),z'm _,CnOk.nil⟩ ?_ ?_
 ·refine z'O (by rw[Zaf n3];rfl) ?_
  simp[sub,upd,tdR]
 rintro⟨⟨k,m,c⟩,hk,hm⟩
 dsimp only at hk hm⊢
 have n0:Nrm (z'D E3 (y'A k (rgE p t))):= .th n3 .fst
 have hs:z'D (z'D E3 (y'A k (rgE p t))) (rgE p t k)=z'D E3 (y'A (k+1) (rgE p t)):=Za2 (.m (by decide))
 rcases z'g k t.regs.length with hlt|hge
 ·have e1:decide ((k:Int)<(t.regs.length:Nat))=true:=decide_eq_true (by omega)
  have hm':=hm.snoc (t.regs.getD k e0)
  rw[←ZdY hlt]at hm'
  have hv:=cnV hm (t.regs.getD k e0)
  rw[z'T]at hv
  have hc1:(kmV (w'a m c (t.regs.getD k e0)).1 (t.regs.getD k e0) == 1)=decide (cnF (t.regs.take (k+1)) (t.regs.getD k e0)=1):=by
   rw[hm'.val,z'9,beq_iff_eq,decide_eq_true_eq];omega
  have hc2:(kmV ml.1 (t.regs.getD k e0) == 0)=decide (cnF (lcN p) (t.regs.getD k e0)=0):=by
   rw[cl.val,z'9,beq_iff_eq,decide_eq_true_eq];omega
  have hg:rgE p t k=mE (decide (cnF (t.regs.take (k+1)) (t.regs.getD k e0)=1)&&decide (cnF (lcN p) (t.regs.getD k e0)=0)) 10 t.pl:=rfl
  rw[hg]at hs
  clear hg
  generalize z'D E3 (y'A k (rgE p t))=E0 at*
  generalize hx:t.regs.getD k e0=s at*
  generalize decide (cnF (t.regs.take (k+1)) s=1)=c1 at*
  generalize decide (cnF (lcN p) s=0)=c2 at*
  have hw1:IntKind.i64.wrap (kmV m s+1)=kmV m s+1:=w64 (by omega)
  have hw2:IntKind.i64.wrap ((k:Int)+1)=(k:Int)+1:=w64 (by omega)
  cases c1 with
  |true=>
   rw[y'g]at hs
   repeat' first|refine vt rfl fun K hK=>?_;refine v'2 (l:=m) (c:=c) rfl uML uSL zIL rfl rfl hget_eq ?_;refine hK _ _ ?_;clear hK K;(try simp only[updO])|refine vt rfl fun K hK=>?_;refine ZkF (l:=m) (c:=c) (s:=s) rfl uML uSL rfl rfl rfl ?_;refine hK _ _ ?_;clear hK K;(try simp only[updO])|refine VCg.stepS T rfl rfl (Zb8 (l:=(w'a m c s).1) (c:=(w'a m c s).2) rfl uML uSL zIL rfl rfl hget_eq) ?_|refine VCg.stepSG T rfl rfl rfl rfl (Zb8 (l:=ml.1) (c:=ml.2) rfl uML uSL zIL rfl rfl ((hget_ne r3).trans ((hget_ne q2).trans ((hget_ne q4).trans hget_eq)))) ?_|refine dr (id:=10) T 16 (by kernel_rfl) ?_|(first|apply VCg.step T rfl rfl|apply exF);focus((try simp (disch:=omega) only[go_sem,Nat.reduceBEq,tdR,hc1,hc2]);(exact rfl))|refine VCg.gstep T rfl rfl rfl rfl ?_;try simp only[GB]|refine mq1 (mqt7 @w'4 @tdR.eq_1 @e1 @hx @z'b @hw1 @hw2) ?_|refine .wk ?_ ?_;focus(try omega)|refine vs T rfl fun K hK=>?_;(try simp (disch:=omega) only[go_sem,Nat.reduceBEq,w'4,tdR,e1,hx,z'b,hw1,hw2]);(first|refine Op1.call2 rfl rfl (x'1 p b bl bt E0 n0 _ 10 _ (by decide)) rfl ?_;refine hK _ _ ?_;clear hK K)|fail
   refine⟨⟨(k+1,w'a m c s),hlt,hm'⟩,z'O (by rw[←hs]) ?_,by dsimp only;omega⟩
   simp[sub,upd,tdR]
  |false=>
   rw[x'e]at hs
   repeat' first|refine vt rfl fun K hK=>?_;refine v'2 (l:=m) (c:=c) rfl uML uSL zIL rfl rfl hget_eq ?_;refine hK _ _ ?_;clear hK K;(try simp only[updO])|refine vt rfl fun K hK=>?_;refine ZkF (l:=m) (c:=c) (s:=s) rfl uML uSL rfl rfl rfl ?_;refine hK _ _ ?_;clear hK K;(try simp only[updO])|refine VCg.stepS T rfl rfl (Zb8 (l:=(w'a m c s).1) (c:=(w'a m c s).2) rfl uML uSL zIL rfl rfl hget_eq) ?_|refine dr (id:=10) T 16 (by kernel_rfl) ?_|(first|apply VCg.step T rfl rfl|apply exF);focus((try simp (disch:=omega) only[go_sem,Nat.reduceBEq,tdR,hc1]);(exact rfl))|refine VCg.gstep T rfl rfl rfl rfl ?_;try simp only[GB]|refine mq1 (mqt7 @w'4 @tdR.eq_1 @e1 @hx @z'b @hw1 @hw2) ?_|refine .wk ?_ ?_;focus(try omega)|refine vs T rfl fun K hK=>?_;(try simp (disch:=omega) only[go_sem,Nat.reduceBEq,w'4,tdR,e1,hx,z'b,hw1,hw2]);(first|refine Op1.call2 rfl rfl (x'1 p b bl bt E0 n0 _ 10 _ (by decide)) rfl ?_;refine hK _ _ ?_;clear hK K)|fail
   refine⟨⟨(k+1,w'a m c s),hlt,hm'⟩,z'O (by rw[←hs]) ?_,by dsimp only;omega⟩
   simp[sub,upd,tdR]
 ·obtain rfl:k=t.regs.length:=by omega
  rw[y'w]at hm
  clear hs
  have n4:Nrm (z'D E3 (y'A t.regs.length (rgE p t))):= .th n3 .fst
  generalize z'D E3 (y'A t.regs.length (rgE p t))=E4 at*
  have hl': ∀R',y'V (knH br (m,c)::tmH bt R'::knH bl ml::rgs R) bl=some (.obj (.map (kmE ml.1) ml.2)):=fun R'=>(hget_ne r3).trans ((hget_ne q4).trans hget_eq)
  have hr': ∀R',y'V (knH br (m,c)::tmH bt R'::knH bl ml::rgs R) br=some (.obj (.map (kmE m) c)):=fun R'=>hget_eq
  have hb':=fun R'=>ZoY p t hO hB b bl bt br (knH br (m,c)::tmH bt R'::knH bl ml::rgs R) ml (m,c) (hl' R') (hr' R') cl hm E4 n4
  cases fo with
  |none=>
   repeat' first|refine vt rfl fun K hK=>?_;refine ZrQ (br:=br) (mr:=(m,c)) rfl uTL uSL rfl rfl rfl r2 q1 hf ?_;refine hK _ _ ?_;clear hK K;(try simp only[updO])|refine dr (id:=13) T 7 (by kernel_rfl) ?_|(apply VCg.step T rfl rfl);focus((try simp (disch:=omega) only[go_sem,Nat.reduceBEq]);(exact rfl))|refine vs T rfl fun K hK=>?_;(try simp (disch:=omega) only[go_sem,Nat.reduceBEq,Nat.reduceAdd,Nat.reduceLeDiff,tdR,Option.isSome_none,z'P]);(first|refine hK _ _ ?_;clear hK K|refine Op1.callS rfl rfl (hb' _) rfl ?_;refine hK _ _ ?_;clear hK K)|refine st rfl ?_|refine sc rfl ?_|refine nl ?_|with_reducible refine z'j (fun hc=>?_) (fun hc=>?_)<;>(try simp only[decide_eq_true_eq,decide_eq_false_iff_not,z'x]at hc)<;>(try(exfalso;omega))
   try simp only[stp,w'j,v'T,beq_self_eq_true,cond_true]
   refine ZcN T rfl (z'n _) ?_
   refine⟨(br,m,c),hm,rfl,?_⟩
   rw[hf,hE3,show rgN R t.nm br (m,c)=R++[(t.nm,br,(m,c))] by unfold rgN;rw[hf],show rgs (R++[(t.nm,br,(m,c))])=rgs R++[knH br (m,c)] from z'A]
   exact y'n fun q=>by simp only[y'c,y'i,y'k,z'p,y'a];omega
  |some fp=>
   repeat' first|refine vs T rfl fun K hK=>?_;(try simp (disch:=omega) only[go_sem,Nat.reduceBEq,Nat.reduceAdd,Nat.reduceLeDiff,tdR,Option.isSome_some,z'H]);(first|refine hK _ _ ?_;clear hK K|refine Op1.callS rfl rfl (hb' _) rfl ?_;refine hK _ _ ?_;clear hK K)|refine st rfl ?_|refine sc rfl ?_|refine nl ?_|with_reducible refine z'j (fun hc=>?_) (fun hc=>?_)<;>(try simp only[decide_eq_true_eq,decide_eq_false_iff_not,z'x]at hc)<;>(try(exfalso;omega))
   try simp only[stp,w'j,v'T,beq_self_eq_true,cond_true]
   refine ZcN T rfl (z'I _ _) ?_
   refine⟨(br,m,c),hm,rfl,?_⟩
   rw[hf,hE3,show rgN R t.nm br (m,c)=R by unfold rgN;rw[hf]]
structure TmOk (p:Pg) (k:Nat) (R:Rg):Prop where
 keys: ∀s,(x'w R s 0).isSome=decide (0<cnF ((thN p).take k) s)
 val: ∀x,x∈R→0≤ixF (thN p) x.1∧CnOk x.2.2.1 x.2.2.2 (p.ths.getD (ixF (thN p) x.1).toNat td0).regs
theorem ZhJ {s:ByteArray}: ∀{R:Rg} {i j br:Nat},x'w R s i=some (j,br)→ ∃mr,(s,br,mr)∈R
 |[],i,j,br,h=>by cases h
 |x::R,i,j,br,h=>by
  unfold x'w at h
  split at h
  ·rename_i hs
   cases h
   exact⟨x.2.2,by rw[hs];exact z't⟩
  ·obtain⟨mr,h1⟩:=ZhJ h
   exact⟨mr,z'o _ h1⟩
theorem Zgf {s t:ByteArray} {br:Nat} {mr:Km×Nat}: ∀(R:Rg) (i:Nat),(x'w (R++[(s,br,mr)]) t i).isSome=((x'w R t i).isSome||decide (s=t))
 |[],i=>by
  show(if t=s then some (i,br)else none).isSome=_
  by_cases h:t=s
  ·rw[if_pos h,decide_eq_true h.symm];rfl
  ·rw[if_neg h,decide_eq_false fun q=>h q.symm];rfl
 |x::R,i=>by
  rw[y'D,x'w,x'w]
  by_cases h:t=x.1
  ·rw[if_pos h,if_pos h];rfl
  ·rw[if_neg h,if_neg h];exact Zgf R (i+1)
theorem TmOk.nil (p:Pg):TmOk p 0 []:=⟨fun s=>rfl,fun x h=>by cases h⟩
theorem TmOk.snoc {p:Pg} {k:Nat} {R:Rg} (h:TmOk p k R) (hk:k<p.ths.length) {br:Nat} {mr:Km×Nat} (hm:CnOk mr.1 mr.2 (p.ths.getD k td0).regs):TmOk p (k+1) (rgN R (p.ths.getD k td0).nm br mr):=by
 have hl:k<(thN p).length:=by unfold thN;rw[z'i];exact hk
 have hn:(thN p).getD k e0=(p.ths.getD k td0).nm:=ZoK
 have hc:=Zd4 hl
 have hkey:=h.keys (p.ths.getD k td0).nm
 rw[hn]at hc
 unfold rgN
 cases hf:x'w R (p.ths.getD k td0).nm 0 with
 |some q=>
  rw[hf]at hkey
  refine⟨fun s=>?_,h.val⟩
  rw[h.keys,decide_eq_decide,ZdY hl,Zcx,hn]
  have h2:0<cnF ((thN p).take k) (p.ths.getD k td0).nm:=of_decide_eq_true hkey.symm
  constructor
  ·intro q;omega
  ·intro q
   split at q
   ·rename_i e;rw[←e];exact h2
   ·omega
 |none=>
  rw[hf]at hkey
  have h2: ¬0<cnF ((thN p).take k) (p.ths.getD k td0).nm:=of_decide_eq_false hkey.symm
  have h3:=hc.1 (by omega)
  have h4:0<cnF (thN p) (p.ths.getD k td0).nm:=Zlp.2 (hn▸z'8 hl)
  have h5:=ZaQ.1 h4
  have h6:ixF (thN p) (p.ths.getD k td0).nm≤k:=by
   have:0<cnF ((thN p).take (k+1)) (p.ths.getD k td0).nm:=by rw[ZdY hl,Zcx,hn,if_pos rfl];omega
   rcases w'7 (k:Int) (ixF (thN p) (p.ths.getD k td0).nm)with q|q
   ·exfalso
    unfold ixF at q
    cases hi:(thN p).findIdx? (fun x=>decide (x=(p.ths.getD k td0).nm))with
    |none=>rw[hi]at q;simp only at q;omega
    |some j=>
     rw[hi]at q
     obtain⟨r1,r2,r3⟩:=List.findIdx?_eq_some_iff_getElem.1 hi
     simp only at q
     have:=r3 k (by omega)
     have e:(thN p)[k]=(p.ths.getD k td0).nm:=by rw[←hn];exact(w'3 (z'k hl)).symm
     rw[e]at this
     simp at this
   ·exact q
  have h7:ixF (thN p) (p.ths.getD k td0).nm=k:=by omega
  refine⟨fun s=>?_,fun x hx=>?_⟩
  ·simp only
   rw[Zgf,h.keys,z'9,z'1,decide_eq_true_eq,decide_eq_true_eq,decide_eq_true_eq,ZdY hl,Zcx,hn]
   split
   ·rename_i e;exact⟨fun _=>by omega,fun _=> .inr e⟩
   ·rename_i e;exact⟨fun q=>q.elim id fun e'=>absurd e' e,.inl⟩
  ·rcases z'X.1 hx with h8|h8
   ·exact h.val x h8
   ·rw[z'R]at h8
    subst h8
    refine⟨by show 0≤ixF (thN p) (p.ths.getD k td0).nm;omega,?_⟩
    show CnOk mr.1 mr.2 (p.ths.getD (ixF (thN p) (p.ths.getD k td0).nm).toNat td0).regs
    rw[h7,z'b]
    exact hm
theorem TmOk.had {p:Pg} {k:Nat} {R:Rg} (h:TmOk p k R):tdY p (p.ths.getD k td0) k (x'w R (p.ths.getD k td0).nm 0).isSome=tdX p k:=by
 unfold tdY tdX
 rw[h.keys,show(!decide (0<cnF ((thN p).take k) (p.ths.getD k td0).nm))=decide (cnF ((thN p).take k) (p.ths.getD k td0).nm=0) by
  rw[z'9,z'y,decide_eq_false_iff_not,decide_eq_true_eq];omega]
theorem ZpD {p:Pg} {R:Rg} (h:TmOk p p.ths.length R) {y:Nod} (h3:y.op≠3) (hn:x'w R y.inn 0=none):knC p y=false:=by
 have:=h.keys y.inn
 rw[hn]at this
 have h2: ¬0<cnF ((thN p).take p.ths.length) y.inn:=of_decide_eq_false this.symm
 rw[show(thN p).take p.ths.length=thN p from x'p (by unfold thN;rw[z'i];exact z'c _),ZaQ]at h2
 unfold knC
 rw[if_neg h3,decide_eq_false (by omega)];rfl
theorem ZpE {p:Pg} {R:Rg} (h:TmOk p p.ths.length R) {y:Nod} (h3:y.op≠3) {j br:Nat} (hs:x'w R y.inn 0=some (j,br)): ∃mr,(y.inn,br,mr)∈R∧decide (kmV mr.1 y.nm>0)=knC p y:=by
 obtain⟨mr,hm⟩:=ZhJ hs
 have hv:=h.val _ hm
 refine⟨mr,hm,?_⟩
 unfold knC
 rw[if_neg h3,decide_eq_true hv.1,y'g]
 exact ZeN hv.2 y.nm
theorem Zom {P:Program} {o:Oper} {E:Operand→D} {H:Heap} {t kt et:TypeId} {m x:Operand} {b:Nat} {R:Rg} {s:ByteArray} {j br:Nat} (ho:o.op= .lookup t m x false) (hu:P.underlying t=some (.map kt et)) (hkt:P.underlying kt=some .string) (hz:(P.info? et).bind (·.zero)=some (.map none)) (hm:E m=mqD b) (hx0:E x=sD s)
  (hg:y'V H b=some (.obj (.map (tmE R) R.length))) (hf:x'w R s 0=some (j,br)):OpS P o E H (fun d H'=>d=mqD br∧H'=H):=by
 have:=ZiL ho hu hkt hz hm hx0 hg
 rwa [hf]at this
theorem Zol {P:Program} {o:Oper} {E:Operand→D} {H:Heap} {t kt et:TypeId} {m x:Operand} {b:Nat} {R:Rg} {s:ByteArray} (ho:o.op= .lookup t m x false) (hu:P.underlying t=some (.map kt et)) (hkt:P.underlying kt=some .string) (hz:(P.info? et).bind (·.zero)=some (.map none)) (hm:E m=mqD b) (hx0:E x=sD s)
  (hg:y'V H b=some (.obj (.map (tmE R) R.length))) (hf:x'w R s 0=none):OpS P o E H (fun d H'=>d= .is (.map none)∧H'=H):=by
 have:=ZiL ho hu hkt hz hm hx0 hg
 rwa [hf]at this
theorem ZrO {P:Program} {o:Oper} {E:Operand→D} {H:Heap} {K:D→Heap→Prop} {t kt et:TypeId} {m x:Operand} {s:ByteArray} (ho:o.op= .lookup t m x false) (hu:P.underlying t=some (.map kt et)) (hkt:P.underlying kt=some .string) (hz:(P.info? et).bind (·.zero)=some (.int .i64 0)) (hm:E m= .is (.map none)) (hx0:E x=sD s)
  (hk:K (.is (.int .i64 0)) H):Op1 P o E H K:=Zl5 (kd:= .string) (k:= .string s) ho hu hkt rfl hz hm hx0 (fun cs h=>by cases h) hk
theorem ZnB (p:Pg) (H:Heap) (b3 b bl bt:Nat) (e:Int×Int) (ml:Km×Nat) (cl:CnOk ml.1 ml.2 (lcN p)) (R:Rg) (hR:TmOk p p.ths.length R) (h3:y'V H b3=some (.cells 156 1 [ptB b])) (hb:y'V H b=some (.cells 159 8 (ckC p bl bt e)))
  (hl:y'V H bl=some (.obj (.map (kmE ml.1) ml.2))) (ht:y'V H bt=some (.obj (.map (tmE R) R.length))) (hr: ∀x,x∈R→y'V H x.2.1=some (.obj (.map (kmE x.2.2.1) x.2.2.2))) (y:Nod):
  Fun Tryz.prog 163 [.agg (nodR y),ptB b3] H false (fun d H'=>d=bD (knC p y)∧H'=H):=by
 refine Fun.of T [.tmp 3] Tryz.func163 rfl Tryz.ntmps163 Tryz.results163 rfl (by kernel_rfl) ?_
 by_cases q3:y.op=3
 ·have e3:(y.op == 3)=true:=by simp only[q3,beq_self_eq_true]
  have hk:decide (kmV ml.1 y.nm>0)=knC p y:=by rw[ZeN cl,knC,if_pos q3]
  repeat' first|refine vb rfl rfl rfl rfl ?_|refine vt rfl fun K hK=>?_;refine v'2 (l:=ml.1) (c:=ml.2) rfl uML uSL zIL rfl rfl hl ?_;refine hK _ _ ?_;clear hK K;(try simp only[updO])|refine dr (id:=2) T 6 (by kernel_rfl) ?_|apply VCg.step T rfl rfl;focus((try simp (disch:=omega) only[go_sem,Nat.reduceBEq,h3,hb]);(exact rfl))|refine mq1 (mqt3 @nodR.eq_1 @e3 @hk) ?_|fail
  simp only[stp,w'j]
  refine z'r T (z'n _) ?_
  exact⟨rfl,rfl⟩
 ·have e3:(y.op == 3)=false:=beq_eq_false_iff_ne.2 q3
  cases hf:x'w R y.inn 0 with
  |none=>
   have hk:=ZpD hR q3 hf
   rw[hk]
   have h0:decide ((0:Int)>0)=false:=by decide
   repeat' first|refine vb rfl rfl rfl rfl ?_|refine vt rfl fun K hK=>?_;refine ZrO rfl uML uSL zIL rfl rfl ?_;refine hK _ _ ?_;clear hK K;(try simp only[updO])|refine VCg.stepS T rfl rfl (Zol (R:=R) rfl uTL uSL zTL rfl rfl ht hf) ?_|refine dr (id:=3) T 9 (by kernel_rfl) ?_|apply VCg.step T rfl rfl;focus((try simp (disch:=omega) only[go_sem,Nat.reduceBEq,h3,hb]);(exact rfl))|refine mq1 (mqt3 @nodR.eq_1 @e3 @h0) ?_|fail
   try unfold stp
   refine z'r T (z'n _) ?_
   exact⟨rfl,rfl⟩
  |some q=>
   obtain⟨j,br⟩:=q
   obtain⟨mr,hm,hk⟩:=ZpE hR q3 hf
   have hg:=hr _ hm
   repeat' first|refine vb rfl rfl rfl rfl ?_|refine vt rfl fun K hK=>?_;refine v'2 (l:=mr.1) (c:=mr.2) rfl uML uSL zIL rfl rfl hg ?_;refine hK _ _ ?_;clear hK K;(try simp only[updO])|refine VCg.stepS T rfl rfl (Zom (R:=R) rfl uTL uSL zTL rfl rfl ht hf) ?_|refine dr (id:=3) T 9 (by kernel_rfl) ?_|apply VCg.step T rfl rfl;focus((try simp (disch:=omega) only[go_sem,Nat.reduceBEq,h3,hb]);(exact rfl))|refine mq1 (mqt3 @nodR.eq_1 @e3 @hk) ?_|fail
   try unfold stp
   refine z'r T (z'n _) ?_
   exact⟨rfl,rfl⟩
end Go.Proofs.YthlkpnjjkgmlkaaGreat
