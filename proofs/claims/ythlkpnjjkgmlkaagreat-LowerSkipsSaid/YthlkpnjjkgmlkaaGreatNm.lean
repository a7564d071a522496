/- Contracts: nodes. No condition. -/
import Derived.Test.YthlkpnjjkgmlkaaGreatNk
import Derived.Test.YthlkpnjjkgmlkaaGreatLf
import Derived.Test.YthlkpnjjkgmlkaaGreatLq
import Derived.Test.YthlkpnjjkgmlkaaGreatYd
namespace Go.Proofs.YthlkpnjjkgmlkaaGreat
set_option maxHeartbeats 16000000
set_option linter.unusedSimpArgs false
set_option linter.unusedVariables false
set_option maxRecDepth 20000
open Go Go.Proofs Go.Vc
attribute [local irreducible] x'r VCg VCw VCx
theorem ZkU (n:Int):Pure Tryz.prog 278 [iD n] (iD (x'T n)):=by
 have:x'T n=0∧(1≤n∧n≤4)∨x'T n=1∧n=5∨x'T n=2∧(6≤n∧n≤14)∨x'T n= -1∧(n<1∨14<n):=by
  unfold x'T w'K
  by_cases q1:1≤n∧n≤4
  ·rw[if_pos q1];exact .inl ⟨rfl,q1⟩
  rw[if_neg q1]
  by_cases q2:n=5
  ·rw[if_pos q2];exact .inr (.inl ⟨rfl,q2⟩)
  rw[if_neg q2]
  by_cases q3:6≤n∧n≤14
  ·rw[if_pos q3];exact .inr (.inr (.inl ⟨rfl,q3⟩))
  rw[if_neg q3]
  exact .inr (.inr (.inr ⟨rfl,by omega⟩))
 refine Fun.of T [.tmp 2] Tryz.func278 rfl Tryz.ntmps278 Tryz.results278 rfl (by kernel_rfl) ?_
 repeat' first|refine mq0 ?_|refine z'r T (z'a _) ?_;(try simp only[upd,Nat.reduceBEq,cond_true,cond_false,and_true])|with_reducible refine z'j (fun hc=>?_) (fun hc=>?_)<;>(try simp only[decide_eq_true_eq,decide_eq_false_iff_not,beq_iff_eq,beq_eq_false_iff_ne,ne_eq,ge_iff_le,y'j]at hc)<;>(try(exfalso;omega))|fail
 all_goals
  congr 2
  omega
theorem ZrW (l:List Nod) (hl:l.length≤1000000) (i:Int):Pure Tryz.prog 248 [y'4 l,iD i] (iD (v'U l i)):=by
 refine Fun.of T [.tmp 4] Tryz.func248 rfl Tryz.ntmps248 Tryz.results248 rfl (by kernel_rfl) ?_
 rcases w'7 i 0 with h0|h0
 ·have e1:decide (i<0)=true:=decide_eq_true h0
  rw[ZjD h0]
  repeat' first|refine mq1 @e1 ?_|exact z'r T (z'a _) ⟨rfl,rfl⟩|fail
 have e1:decide (i<0)=false:=decide_eq_false (by omega)
 obtain⟨i,rfl⟩: ∃n:Nat,i=(n:Int):=⟨i.toNat,by omega⟩
 rw[ZdG]
 repeat' first|refine mq1 @e1 ?_|fail
 refine VC.loop {p:Nat×Nat//i≤p.1∧1≤p.2∧p.2≤p.1+1∧v'y l i 1=v'y l p.1 p.2} (fun p=>⟨z'0 [(0,y'4 l),(1,iD (p.1.1:Nat)),(5,iD (p.1.2:Nat))],[]⟩) (fun p=>l.length-p.1.1) ⟨(i,1),z'c _,z'c _,by dsimp only;omega,rfl⟩ ?_ ?_
 ·refine Weak.sub ?_
  simp[sub,upd]
 rintro⟨⟨k,w⟩,hk,hw,hw2,he⟩
 dsimp only at hk hw hw2 he⊢
 rw[he]
 have hq:=ZfK (l.getD k z'J).op
 have c1:=ZkU (l.getD k z'J).op
 repeat' first|refine mq2 (mqt5 @y's @z'Z @nodR.eq_1 @w64 @z'b) c1 ?_|refine .wk ?_ ?_;focus(try omega)|refine z'r T (z'a _) ?_;(try simp only[upd,Nat.reduceBEq,cond_true,cond_false,and_true])|with_reducible refine z'j (fun hc=>?_) (fun hc=>?_)<;>(try simp only[decide_eq_true_eq,decide_eq_false_iff_not,beq_iff_eq,beq_eq_false_iff_ne,ne_eq,z'x]at hc)|fail
 ·rw[Zis (by omega) (ZiD.1 hc)]
 ·have hn:=Za0 (n:=(x'T (l.getD k z'J).op).toNat) (op:=(l.getD k z'J).op)
  rw[ZjC (by omega) (hn.2 (by omega)) (by omega)];rfl
 ·have hn:=Za0 (n:=(x'T (l.getD k z'J).op).toNat) (op:=(l.getD k z'J).op)
  refine⟨⟨(k+1,w-1+(x'T (l.getD k z'J).op).toNat),by dsimp only;omega,by dsimp only;omega,by dsimp only;omega,Zir (by omega) (hn.2 (by omega)) (by omega)⟩,Weak.sub ?_,by dsimp only;omega⟩
  simp[sub,upd, -List.getD_eq_getElem?_getD]
  omega
 ·rw[ZjB (by omega)]
theorem ZiY (l:List Nod) (hl:l.length≤1000000):Pure Tryz.prog 229 [y'4 l] (y'4 (y'R l)):=by
 refine Fun.freeze (w'S (f:=nodR) (fun _=>rfl) _) ?_
 refine Fun.of T [.tmp 2] Tryz.func229 rfl Tryz.ntmps229 Tryz.results229 rfl (by kernel_rfl) ?_
 repeat' first|refine mq0 ?_|fail
 refine VC.loop {p:Nat×Option (Nat×Nat)//p.1≤l.length∧gOk p.2 (y'R (l.take p.1)).length} (fun p=>⟨z'0 [(3,.gs p.1.2 (y'R (l.take p.1.1)).length),(6,y'4 l),(7,iD (l.length:Nat)),(8,iD (p.1.1:Nat))],shp p.1.2 127 5 (ZeE (y'R (l.take p.1.1))).flatten []⟩) (fun p=>l.length-p.1.1) ⟨(0,none),z'm _,rfl⟩ ?_ ?_
 ·refine z'O rfl ?_
  simp[sub,upd,y'R,z'Z]
 rintro⟨⟨k,g⟩,hk,hg⟩
 dsimp only at hk hg⊢
 have hL:(y'R (l.take k)).length≤k:=y'b (List.length_filter_le _ _) (by rw[z'T];omega)
 rcases z'g k l.length with hlt|hge
 case inr=>
  obtain rfl:k=l.length:=by omega
  rw[y'w]at hg⊢
  repeat' first|refine mq0 ?_|with_reducible refine z'j (fun hc=>?_) (fun hc=>?_)<;>(try simp only[decide_eq_true_eq,decide_eq_false_iff_not,z'x]at hc)<;>(try(exfalso;omega))|fail
  exact z'r T (z'n _) ⟨g,127,by rw[z'Z];rfl,rfl⟩
 have hT:=Zae z'J hlt
 have hy:Zbf (l.getD k z'J)=true→y'R (l.take (k+1))=y'R (l.take k)++[l.getD k z'J]:=fun hn=>by unfold y'R;rw[hT,z'7,x'z,hn];rfl
 have hz:Zbf (l.getD k z'J)=false→y'R (l.take (k+1))=y'R (l.take k):=fun hn=>by unfold y'R;rw[hT,z'7,x'z,hn];simp
 cases hN:Zbf (l.getD k z'J)with
 |true=>
  have hq:=hy hN
  simp only[Zbf,z'1,decide_eq_true_eq]at hN
  repeat' first|refine mq1 (mqt4 @y's @nodR.eq_1 @w64 @z'b) ?_|refine mqn fun bq hbq=>?_|refine .wk ?_ ?_;focus(try omega)|refine vs T rfl fun K hK=>?_;(try simp (disch:=omega) only[go_sem,Nat.reduceBEq,Nat.reduceAdd,Nat.reduceMul,Nat.reduceLeDiff,y's,nodR,w64,z'b]);(first|refine⟨_,_,_,_,(by repeat (first|exact Sp.here|apply Sp.cons)),?_,(by exact⟨rfl,rfl⟩),?_,fun g' hg'=>hK _ _ ?_⟩<;>clear hK K)|with_reducible refine z'j (fun hc=>?_) (fun hc=>?_)<;>(try simp only[decide_eq_true_eq,decide_eq_false_iff_not,beq_iff_eq,beq_eq_false_iff_ne,ne_eq,z'x]at hc)<;>(try(exfalso;omega))|fail
  any_goals exact w'e (f:=nodR) (fun _=>rfl) _
  any_goals omega
  all_goals
   refine⟨⟨(k+1,g'),by dsimp only;exact⟨by omega,by rw[hq,z'e];exact hg'⟩⟩,y'J (by dsimp only;rw[hq];unfold ZeE;rw[w'u];rfl) ?_,by dsimp only;omega⟩
   simp[sub,upd,hq]
 |false=>
  have hq:=hz hN
  simp only[Zbf,Bool.or_eq_false_iff,decide_eq_false_iff_not]at hN
  repeat' first|refine mq1 (mqt4 @y's @nodR.eq_1 @w64 @z'b) ?_|refine mqn fun bq hbq=>?_|refine .wk ?_ ?_;focus(try omega)|with_reducible refine z'j (fun hc=>?_) (fun hc=>?_)<;>(try simp only[decide_eq_true_eq,decide_eq_false_iff_not,beq_iff_eq,beq_eq_false_iff_ne,ne_eq,z'x]at hc)<;>(try(exfalso;omega))|fail
  refine⟨⟨(k+1,g),by dsimp only;exact⟨by omega,by rw[hq];exact hg⟩⟩,y'J (by dsimp only;rw[hq]) ?_,by dsimp only;omega⟩
  simp[sub,upd,hq]
abbrev ZsK (x:Nod):List Value:=[.int .i64 x.op,.int .i64 x.n,.string x.nm,.string x.inn,.int .i64 x.pl]
theorem Zmt (x y:Nod):EqS Tryz.prog 127 (ZsK x) (ZsK y) (decide (x.op=y.op)&&(decide (x.n=y.n)&&(decide (x.nm=y.nm)&&(decide (x.inn=y.inn)&&decide (x.pl=y.pl))))):=by
 refine⟨by kernel_rfl,fun w=>?_⟩
 obtain⟨a,b,c,d,e⟩:=x
 obtain⟨a',b',c',d',e'⟩:=y
 have u3:=Tryz.underlying3
 have a3:=Tryz.isAgg3
 have z3:=Tryz.sizeOf3
 have u9:=Tryz.underlying9
 have a9:=Tryz.isAgg9
 have z9:=Tryz.sizeOf9
 have hS:Tryz.prog.underlying 127=some (.struct (Tryz.prog.fieldsOf 127)):=by kernel_rfl
 have hp:Tryz.prog.stoodInHeld 127=false:=by kernel_rfl
 rw[show(10000:Nat)=9999+1 from rfl,run_equalIn_agg w 9999 127 _ _ hS hp]
 simp only[Program.fieldsOf,Tryz.underlying127]
 have ht: ∀a b:ByteArray,a.toList=b.toList↔a=b:=fun a b=>by have:=Zc4 a b;rw[z'9]at this;simpa using this
 go_simp
 by_cases h1:a=a'<;>by_cases h2:b=b'<;>by_cases h3:c=c'<;>by_cases h4:d=d'<;>by_cases h5:e=e'<;>simp[h1,h2,h3,h4,h5,ht]
theorem Zqf (x:Nod):Pure Tryz.prog 249 [.agg (nodR x)] (bD (ndB x)):=by
 have c1:=ZbK x.nm
 have c2:=ZbK x.inn
 refine Fun.of T [.tmp 2] Tryz.func249 rfl Tryz.ntmps249 Tryz.results249 rfl (by kernel_rfl) ?_
 have eq1:=Zmt x ⟨x.op,x.n,e0,e0,x.pl⟩
 have eq2:=Zmt x ⟨x.op,0,x.nm,e0,x.pl⟩
 have eq3:=Zmt x ⟨x.op,0,x.nm,x.inn,x.pl⟩
 have eq4:=Zmt x ⟨x.op,0,e0,e0,x.pl⟩
 repeat' first|refine mq2 @nodR.eq_1 (mqt2 c1 c2) ?_|refine mqn fun bq hbq=>?_|refine vs T rfl fun K hK=>?_;(try simp (disch:=omega) only[go_sem,Nat.reduceBEq,Nat.reduceAdd,Nat.reduceLeDiff,nodR]);(first|refine Op1.eqS rfl (eq1) rfl rfl rfl ?_;refine hK _ _ ?_;clear hK K|refine Op1.eqS rfl (eq2) rfl rfl rfl ?_;refine hK _ _ ?_;clear hK K|refine Op1.eqS rfl (eq3) rfl rfl rfl ?_;refine hK _ _ ?_;clear hK K|refine Op1.eqS rfl (eq4) rfl rfl rfl ?_;refine hK _ _ ?_;clear hK K)|refine z'r T (z'a _) ?_;(try simp only[upd,Nat.reduceBEq,cond_true,cond_false,and_true])|with_reducible refine z'j (fun hc=>?_) (fun hc=>?_)<;>(try simp only[decide_eq_true_eq,decide_eq_false_iff_not,beq_iff_eq,beq_eq_false_iff_ne,ne_eq,z'y,z'G,ge_iff_le,y'j,z'x]at hc)<;>(try(exfalso;omega))|fail
 all_goals
  clear c1 c2 eq1 eq2 eq3 eq4
  first|(simp_all[ndB,isE];done)|(simp_all[ndB,isE];omega)
def pdF:List Int→List Int
 |[]=>[]
 |n::o=>if 0<n-1 then(n-1)::o else pdF o
def dpF:List Nod→List Int→Nat→Nat
 |[],_,m=>m
 |x::r,o,m=>if 0<x'T x.op then dpF r (x'T x.op::o) (max m o.length)else dpF r (pdF o) (max m o.length)
theorem Zjx {l:List Nod} {k m:Nat} {o:List Int} (h:k<l.length):dpF (l.drop k) o m=if 0<x'T (l.getD k z'J).op then dpF (l.drop (k+1)) (x'T (l.getD k z'J).op::o) (max m o.length)else dpF (l.drop (k+1)) (pdF o) (max m o.length):=by
 rw[ZaR z'J h];rfl
theorem ZgT (l:List Nod): ∀(f i k:Nat) (o:List Int) (m:Nat),l.length-i≤f→y'5 (l.drop i) 1=some k→dpF (l.drop i) o m=dpF (l.drop (i+k)) (pdF o) (max m (o.length+x'G l f i))
 |0,i,k,o,m,h,h2=>by have:=w'P h2;omega
 |f+1,i,k,o,m,h,h2=>by
  obtain⟨n,hn,hn0,hn1,hik,hk1⟩:=ZaS h2
  have hi:=w'P h2
  have hkI:x'T (l.getD i z'J).op=n:=Za0.1 hn
  rw[Zjx hi,hkI]
  unfold x'G
  rw[hn,z'B]
  rcases Zab hn with⟨rfl,q⟩|⟨rfl,q⟩|⟨rfl,q⟩
  ·rw[if_neg (by omega),hn0 rfl];rfl
  ·have h3:=hn1 (z'c _)
   rw[if_pos (by omega),ZgT l f (i+1) _ _ _ (by omega) h3,show i+1+(k-1)=i+k by omega,show pdF ((1:Nat)::o)=pdF o from rfl]
   congr 1
   simp only[itN,w'v,z'q]
   omega
  ·have h3:=hn1 (by omega)
   obtain⟨k1,k2,q1,q2,q3⟩:=v'V (z'c 1) (z'c 1) h3
   rw[y'6]at q2
   have:=w'2 q1
   rw[if_pos (by omega),ZgT l f (i+1) _ _ _ (by omega) q1,show pdF (((2:Nat):Int)::o)=1::o from rfl,ZgT l f (i+1+k1) _ _ _ (by omega) q2,show i+1+k1+k2=i+k by omega,show pdF ((1:Int)::o)=pdF o from rfl]
   congr 1
   simp only[itN,w'v,z'q,q1,z'B]
   omega
theorem Zq2 {l:List Nod} (h:y'5 (l.drop 0) 1=some l.length):dpF l [] 0=x'G l l.length 0:=by
 have:=ZgT l l.length 0 _ [] 0 (by omega) h
 rw[z'5,List.drop_length]at this
 rw[show dpF l [] 0=dpF (l.drop 0) [] 0 from rfl,this]
 simp[dpF]
theorem ZoB (l:List Nod) (hl:l.length≤1000):Pure Tryz.prog 250 [y'4 l] (iD (dpF l [] 0:Nat)):=by
 refine Fun.of T [.tmp 2] Tryz.func250 rfl Tryz.ntmps250 Tryz.results250 rfl (by kernel_rfl) ?_
 repeat' first|refine mq0 ?_|fail
 refine VC.loop {p:Nat×List Int×Nat×Option (Nat×Nat)//(p.1≤l.length∧p.2.1.length≤p.1∧p.2.2.1≤p.1∧gOk p.2.2.2 p.2.1.length)∧(∀x,x∈p.2.1→1≤x∧x≤2)∧dpF (l.drop p.1) p.2.1 p.2.2.1=dpF l [] 0}
  (fun p=>⟨z'0 [(3,.gs p.1.2.2.2 p.1.2.1.length),(4,iD (p.1.2.2.1:Nat)),(9,y'4 l),(10,iD (l.length:Nat)),(11,iD (p.1.1:Nat))],shp p.1.2.2.2 3 1 (p.1.2.1.reverse.map iD) []⟩) (fun p=>l.length-p.1.1) ⟨(0,[],0,none),⟨z'm _,z'c _,z'c _,rfl⟩,fun x hx=>(by cases hx),rfl⟩ ?_ ?_
 ·refine z'O rfl ?_
  simp[sub,upd,z'Z]
 rintro⟨⟨k,o,m,g⟩,⟨hk,ho,hm,hg⟩,hx,hd⟩
 dsimp only at hk ho hm hg hx hd⊢
 rw[←hd]
 rcases z'g k l.length with hlt|hge
 case inr=>
  have e1:decide ((k:Int)<(l.length:Int))=false:=decide_eq_false (by omega)
  rw[x'Y hge]
  repeat' first|refine mq1 @e1 ?_|exact z'r T (z'a _) ⟨rfl,rfl⟩|fail
 have e1:decide ((k:Int)<(l.length:Int))=true:=decide_eq_true (by omega)
 have c1:=ZkU (l.getD k z'J).op
 have hq:=ZfK (l.getD k z'J).op
 have hmx:(if (m:Int)≤(o.length:Int)then(o.length:Int)else m)=((max m o.length:Nat):Int):=by split<;>omega
 rw[Zjx hlt]
 by_cases h0:0<x'T (l.getD k z'J).op
 ·have e2:decide (x'T (l.getD k z'J).op>0)=true:=decide_eq_true h0
  rw[if_pos h0]
  repeat' first|refine mq2 (mqt6 @y's @nodR.eq_1 @w64 @z'b @e1 @e2) c1 ?_|refine mqn fun bq hbq=>?_|refine .wk ?_ ?_;focus(try omega)|refine vs T rfl fun K hK=>?_;(try simp (disch:=omega) only[go_sem,Nat.reduceBEq,Nat.reduceAdd,Nat.reduceMul,Nat.reduceLeDiff,y's,nodR,w64,z'b,e1,e2]);(first|refine⟨_,_,_,_,(by repeat (first|exact Sp.here|apply Sp.cons)),?_,(by exact⟨rfl,rfl⟩),⟨by decide,?_⟩,fun g' hg'=>hK _ _ ?_⟩<;>clear hK K|refine Zdi rfl rfl rfl ?_;refine hK _ _ ?_;clear hK K)|fail
  ·rw[z'i,List.length_reverse];omega
  ·omega
  ·refine⟨⟨(k+1,x'T (l.getD k z'J).op::o,max m o.length,g'),⟨by dsimp only;omega,by dsimp only;rw[z'q];omega,by dsimp only;omega,hg'⟩,fun x hx'=>?_,rfl⟩,y'J ?_ ?_,by dsimp only;omega⟩
   ·rcases z'v.1 hx' with rfl|hx'
    ·omega
    ·exact hx x hx'
   ·dsimp only
    rw[List.reverse_cons,z'A];rfl
   ·simp[sub,upd, -List.getD_eq_getElem?_getD]
    omega
 ·have e2:decide (x'T (l.getD k z'J).op>0)=false:=decide_eq_false h0
  rw[if_neg h0]
  repeat' first|refine mq2 (mqt5 @y's @nodR.eq_1 @z'b @e1 @e2) c1 ?_|refine mqn fun bq hbq=>?_|refine .wk ?_ ?_;focus(try omega)|refine vs T rfl fun K hK=>?_;(try simp (disch:=omega) only[go_sem,Nat.reduceBEq,Nat.reduceAdd,Nat.reduceLeDiff,y's,nodR,z'b,e1,e2]);(first|refine Zdi rfl rfl rfl ?_;refine hK _ _ ?_;clear hK K)|fail
  refine VC.loop {q:List Int×Option (Nat×Nat)//q.1.length≤o.length∧gOk q.2 q.1.length∧(∀x,x∈q.1→1≤x∧x≤2)∧pdF q.1=pdF o}
   (fun q=>⟨z'0 [(3,.gs q.1.2 q.1.1.length),(4,iD (max m o.length:Nat)),(9,y'4 l),(10,iD (l.length:Nat)),(11,iD (k:Nat))],shp q.1.2 3 1 (q.1.1.reverse.map iD) []⟩) (fun q=>q.1.1.length) ⟨(o,g),z'c _,hg,hx,rfl⟩ ?_ ?_
  ·refine y'J rfl ?_
   simp[sub,upd, -List.getD_eq_getElem?_getD]
   omega
  rintro⟨⟨s,g1⟩,hs,hg1,hx1,hp⟩
  dsimp only at hs hg1 hx1 hp⊢
  rw[←hp]
  rcases s with _|⟨n,r⟩
  ·have e3:decide (((([]:List Int).length:Nat):Int)>0)=false:=rfl
   repeat' first|refine mq1 @w64 ?_|fail
   refine⟨⟨(k+1,[],max m o.length,g1),⟨by dsimp only;omega,z'm _,by dsimp only;omega,hg1⟩,fun x hx=>(by cases hx),rfl⟩,z'O rfl ?_,by dsimp only;omega⟩
   simp[sub,upd, -List.getD_eq_getElem?_getD]
  rcases g1 with _|⟨b,cap⟩
  ·exact absurd hg1 (by simp[gOk])
  have hgc:r.length+1≤cap:=hg1
  have hn:=hx1 n (z't ..)
  have hl2:(n::r).length=r.length+1:=rfl
  simp only[z'q]at hs
  have e3:decide (((r.length+1:Nat):Int)>0)=true:=decide_eq_true (by omega)
  have w1:IntKind.i64.wrap (((r.length+1:Nat):Int)-1)=((r.length:Nat):Int):=by rw[w64 (by omega)];omega
  have w2:IntKind.i64.wrap (n-1)=n-1:=w64 (by omega)
  have hr1:(n::r).reverse[r.length]?=some n:=by rw[List.reverse_cons,w'B (by simp)];simp
  have hr2:((n::r).reverse.map iD).set r.length (iD (n-1))=((n-1)::r).reverse.map iD:=by
   rw[List.reverse_cons,List.reverse_cons,z'A,List.set_append_right _ _ (by simp),z'A];simp
  have hr3:((n-1)::r).reverse[r.length]?=some (n-1):=by rw[List.reverse_cons,w'B (by simp)];simp
  simp only[shp]
  by_cases h1:0<n-1
  ·have e4:decide (n-1>0)=true:=decide_eq_true h1
   repeat' first|refine vs T rfl fun K hK=>?_;(try simp (disch:=omega) only[go_sem,Nat.reduceBEq,e3,e4,w1,w2,hr1,hr2,hr3,y'l,z'K,w'z,z'b]);(first|refine hK _ _ ?_;clear hK K|refine⟨?_,hK _ _ ?_⟩<;>clear hK K;focus(try omega))|refine st rfl ?_|refine sc rfl ?_|refine nl ?_
   ·simp
   refine⟨⟨(k+1,(n-1)::r,max m o.length,some (b,cap)),⟨by dsimp only;omega,by dsimp only;rw[z'q];omega,by dsimp only;omega,hgc⟩,fun x hx'=>?_,?_⟩,z'O ?_ ?_,by dsimp only;omega⟩
   ·rcases z'v.1 hx' with rfl|hx'
    ·omega
    ·exact hx1 x (z'o _ hx')
   ·dsimp only
    rw[pdF,if_pos h1]
   ·simp only[hr2,w'z]
   ·simp[sub,upd]
    exact w64 (by omega)
  ·have e4:decide (n-1>0)=false:=decide_eq_false h1
   repeat' first|refine vs T rfl fun K hK=>?_;(try simp (disch:=omega) only[go_sem,Nat.reduceBEq,e3,e4,w1,w2,hr1,hr2,hr3,y'l,z'K,w'z,z'b]);(first|refine hK _ _ ?_;clear hK K|refine⟨?_,hK _ _ ?_⟩<;>clear hK K;focus(try omega))|refine st rfl ?_|refine sc rfl ?_|refine nl ?_
   ·simp
   refine⟨⟨(r,some (b,cap)),⟨by dsimp only;omega,(show r.length≤cap by omega),fun x hx'=>hx1 x (z'o _ hx'),by dsimp only;rw[pdF,if_neg h1]⟩⟩,?_,by dsimp only;rw[z'q];omega⟩
   have hcut:r.reverse=((n-1)::r).reverse.take r.length:=by rw[List.reverse_cons,List.take_append_of_le_length (by simp),x'p (by simp)]
   dsimp only
   rw[hcut]
   refine Weak.trans (z'O (H':=[(b,.cells 3 (cap*1) (((n-1)::r).reverse.map iD))]) ?_ ?_) Weak.cutC
   ·simp only[hr2,w'z]
   ·simp[sub,upd]
theorem ZkP (l:List Nod) (hl:l.length≤1000):Pure Tryz.prog 189 [y'4 l] (bD (exB l)):=by
 have c1:=ZrW l (by omega) 0
 refine Fun.of T [.tmp 2] Tryz.func189 rfl Tryz.ntmps189 Tryz.results189 rfl (by kernel_rfl) ?_
 by_cases h1:l.length=0
 ·have e2:((l.length:Int) == 0)=true:=by simp[h1]
  have:exB l=false:=by simp[exB,h1]
  rw[this]
  repeat' first|refine mq1 (mqt2 @z'Z @e2) ?_|exact z'r T (z'a _) ⟨rfl,rfl⟩|fail
 have e2:((l.length:Int) == 0)=false:=beq_eq_false_iff_ne.2 (by omega)
 rcases z'g 200 l.length with h0|h0
 ·have e1:decide ((l.length:Int)>200)=true:=decide_eq_true (by omega)
  have:exB l=false:=by rw[exB,decide_eq_false (by omega)];rfl
  rw[this]
  repeat' first|refine mq1 (mqt3 @z'Z @e1 @e2) ?_|exact z'r T (z'a _) ⟨rfl,rfl⟩|fail
 have e1:decide ((l.length:Int)>200)=false:=decide_eq_false (by omega)
 by_cases h2:v'U l 0=l.length
 case neg=>
  have e3:(v'U l 0 != (l.length:Int))=true:=by simp[h2]
  have:exB l=false:=by simp[exB,h2]
  rw[this]
  repeat' first|refine mq2 (mqt4 @z'Z @e1 @e2 @e3) c1 ?_|exact z'r T (z'a _) ⟨rfl,rfl⟩|fail
 have e3:(v'U l 0 != (l.length:Int))=false:=by simp[h2]
 obtain⟨k,hk⟩: ∃k,y'5 (l.drop 0) 1=some k:=by
  rw[show(0:Int)=((0:Nat):Int) from rfl,ZdG,v'y]at h2
  cases hq:y'5 (l.drop 0) 1 with
  |none=>rw[hq]at h2;exact absurd h2 (by dsimp only;omega)
  |some k=>exact⟨k,rfl⟩
 have hkl:k=l.length:=by
  rw[show(0:Int)=((0:Nat):Int) from rfl,ZeP hk]at h2
  omega
 have c2:=ZoB l hl
 rw[Zq2 (hkl▸hk)]at c2
 repeat' first|refine mq2 (mqt4 @z'Z @e1 @e2 @e3) c1 ?_|fail
 refine VC.loop {k:Nat//k≤l.length∧ ∀i,i<k→ndB (l.getD i z'J)=true} (fun p=>⟨z'0 [(0,y'4 l),(20,y'4 l),(21,iD (l.length:Nat)),(22,iD (p.1:Nat))],[]⟩) (fun p=>l.length-p.1) ⟨0,z'm _,fun i hi=>by omega⟩ ?_ ?_
 ·refine Weak.sub ?_
  simp[sub,upd,z'Z]
 rintro⟨j,hj,hs⟩
 dsimp only at hj hs⊢
 rcases z'g j l.length with hlt|hge
 case inr=>
  have ha:=x'X (p:=ndB) (d:=z'J) hge hs
  have e4:decide ((j:Int)<(l.length:Int))=false:=decide_eq_false (by omega)
  have:exB l=decide (x'G l l.length 0≤30):=by simp only[exB,h2,ha,decide_eq_true h0,decide_true,y'g];simp[h1]
  rw[this]
  repeat' first|refine mq2 @e4 c2 ?_|refine z'r T (z'a _) ?_;(try simp only[upd,Nat.reduceBEq,cond_true,cond_false,and_true])|fail
  congr 2
  rw[z'9,decide_eq_true_eq,decide_eq_true_eq]
  omega
 have e4:decide ((j:Int)<(l.length:Int))=true:=decide_eq_true (by omega)
 have c3:=Zqf (l.getD j z'J)
 cases hN:ndB (l.getD j z'J)with
 |false=>
  rw[hN]at c3
  rw[show exB l=false by rw[exB,w'd hlt hN];simp]
  repeat' first|refine mq2 (mqt4 @y's @z'b @nodR.eq_1 @e4) c3 ?_|refine mqn fun bq hbq=>?_|refine .wk ?_ ?_;focus(try omega)|exact z'r T (z'a _) ⟨rfl,rfl⟩|fail
 |true=>
  rw[hN]at c3
  repeat' first|refine mq2 (mqt5 @y's @z'b @nodR.eq_1 @e4 @w64) c3 ?_|refine mqn fun bq hbq=>?_|refine .wk ?_ ?_;focus(try omega)|fail
  refine⟨⟨j+1,by omega,y'r hs hN⟩,y'J rfl ?_,by dsimp only;omega⟩
  simp[sub,upd]
end Go.Proofs.YthlkpnjjkgmlkaaGreat
