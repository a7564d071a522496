/- Contracts: the reference's names and expressions. No condition. -/
import Derived.Test.YthlkpnjjkgmlkaaGreatLc
import Derived.Test.YthlkpnjjkgmlkaaGreatXe
namespace Go.Proofs.YthlkpnjjkgmlkaaGreat
set_option maxHeartbeats 16000000
set_option linter.unusedSimpArgs false
set_option linter.unusedVariables false
set_option maxRecDepth 20000
open Go Go.Proofs Go.Vc
attribute [local irreducible] x'r VCg VCw VCx
def v'y (l:List Nod) (k w:Nat):Int:=match y'5 (l.drop k) w with|none=> -1|some e=>(k+e:Nat)
theorem ZjB {l:List Nod} {k w:Nat} (h:l.length≤k):v'y l k w= -1:=by unfold v'y;rw[x'Y h];rfl
theorem Zis {l:List Nod} {k w:Nat} (h:k<l.length) (hk:w'K (l.getD k z'J).op=none):v'y l k w= -1:=by unfold v'y;rw[ZaR z'J h,y'5,hk]
theorem ZjC {l:List Nod} {k w n:Nat} (h:k<l.length) (hk:w'K (l.getD k z'J).op=some n) (hw:w-1+n=0):v'y l k w=(k+1:Nat):=by
 unfold v'y;rw[ZaR z'J h,y'5,hk];simp only;rw[if_pos hw]
theorem Zir {l:List Nod} {k w n:Nat} (h:k<l.length) (hk:w'K (l.getD k z'J).op=some n) (hw:w-1+n≠0):v'y l k w=v'y l (k+1) (w-1+n):=by
 unfold v'y;rw[ZaR z'J h,y'5,hk];simp only;rw[if_neg hw]
 cases y'5 (l.drop (k+1)) (w-1+n)with
 |none=>rfl
 |some e=>simp only[y'l];omega
theorem ZdG {l:List Nod} {i:Nat}:v'U l i=v'y l i 1:=by
 unfold v'U v'y
 rw[if_neg (by omega),z'b]
 cases y'5 (l.drop i) 1<;>simp
theorem ZjD {l:List Nod} {i:Int} (h:i<0):v'U l i= -1:=by unfold v'U;rw[if_pos h]
theorem ZeP {l:List Nod} {i k:Nat} (h:y'5 (l.drop i) 1=some k):v'U l i=((i+k:Nat):Int):=by rw[ZdG,v'y,h]
theorem ZfK (op:Int): -1≤x'T op∧x'T op≤2:=by
 unfold x'T w'K
 split
 ·omega
 ·rename_i h
  split at h
  ·cases h;omega
  ·split at h
   ·cases h;omega
   ·split at h
    ·cases h;omega
    ·cases h
theorem ZiD {op:Int}:x'T op<0↔w'K op=none:=by
 unfold x'T
 cases w'K op with
 |none=>simp
 |some n=>simp
theorem Za0 {op:Int} {n:Nat}:w'K op=some n↔x'T op=n:=by
 unfold x'T
 cases w'K op with
 |none=>simp
 |some m=>simp only[z'L];omega
theorem w'e {α:Type} {f:α→List D} {n:Nat} (h: ∀x,(f x).length=n) (l:List α):(l.map f).flatten.length=l.length*n:=by
 induction l with
 |nil=>simp
 |cons x l ih=>rw[z'p,y'o,z'e,ih,h,z'q,x'i];omega
theorem w'u {α:Type} {f:α→List D} (l:List α) (x:α):((l++[x]).map f).flatten=(l.map f).flatten++f x:=by simp
theorem w'S {α:Type} {f:α→List D} {n:Nat} (h: ∀x,(f x).length=n) (l:List α): ∀r,r∈l.map f→r.length=n:=fun r hr=>by
 obtain⟨x,_,rfl⟩:=z'w.1 hr
 exact h x
theorem Zae {α:Type} {l:List α} {k:Nat} (d:α) (h:k<l.length):l.take (k+1)=l.take k++[l.getD k d]:=by
 rw[List.take_add_one,v'M (d:=d) h];rfl
theorem ZiF (n:Int):Pure Tryz.prog 232 [.is (.int .u8 n)] (bD (ltB n)):=by
 refine Fun.of T [.tmp 2] Tryz.func232 rfl Tryz.ntmps232 Tryz.results232 rfl (by kernel_rfl) ?_
 repeat' first|refine mq0 ?_|refine gu rfl rfl ?_|refine z'r T (z'a _) ?_;(try simp only[upd,Nat.reduceBEq,cond_true,cond_false,and_true])|with_reducible refine z'j (fun hc=>?_) (fun hc=>?_)<;>(try simp only[decide_eq_true_eq,decide_eq_false_iff_not,ge_iff_le,y'j]at hc)<;>(try(exfalso;omega))|fail
 all_goals(congr 2;rw[z'9];simp only[ltB,z'1,z'd,decide_eq_true_eq,beq_iff_eq,true_iff];omega)
theorem Zo8 (n:Int):Pure Tryz.prog 234 [.is (.int .u8 n)] (bD (dgB n)):=by
 refine Fun.of T [.tmp 2] Tryz.func234 rfl Tryz.ntmps234 Tryz.results234 rfl (by kernel_rfl) ?_
 repeat' first|refine mq0 ?_|refine z'r T (z'a _) ?_;(try simp only[upd,Nat.reduceBEq,cond_true,cond_false,and_true])|with_reducible refine z'j (fun hc=>?_) (fun hc=>?_)<;>(try simp only[decide_eq_true_eq,decide_eq_false_iff_not,ge_iff_le,y'j]at hc)|fail
 all_goals(congr 2;rw[z'9];simp only[dgB,z'd,decide_eq_true_eq,y'x,true_iff,false_iff];omega)
theorem Zqu:Pure Tryz.prog 265 [] (.sl true 1 (v'f kws)):=by
 refine Fun.of T [.tmp 0] Tryz.func265 rfl Tryz.ntmps265 Tryz.results265 rfl (by kernel_rfl) ?_
 repeat' first|refine mq0 ?_|exact z'r T (z'a _) ⟨rfl,rfl⟩|fail
theorem ZmV (s:ByteArray):Pure Tryz.prog 233 [sD s] (bD (kwB s)):=by
 refine Fun.of T [.tmp 2] Tryz.func233 rfl Tryz.ntmps233 Tryz.results233 rfl (by kernel_rfl) ?_
 repeat' first|refine mq3 Zqu ?_|fail
 refine VC.loop {k:Nat//k≤kws.length∧ ∀i,i<k→decide (kws.getD i e0=s)=false} (fun p=>⟨z'0 [(0,sD s),(3,.sl true 1 (v'f kws)),(4,iD (p.1:Nat))],[]⟩) (fun p=>kws.length-p.1) ⟨0,z'm _,fun i hi=>by omega⟩ ?_ ?_
 ·refine Weak.sub ?_
  simp[sub,upd]
 rintro⟨k,hk,hs⟩
 dsimp only at hk hs⊢
 have hl:kws.length=21:=rfl
 repeat' first|refine mq1 (mqt4 @w'4 @x'h @w64 @z'b) ?_|refine .wk ?_ ?_;focus(try omega)|refine z'r T (z'a _) ?_;(try simp only[upd,Nat.reduceBEq,cond_true,cond_false,and_true])|with_reducible refine z'j (fun hc=>?_) (fun hc=>?_)<;>(try simp only[decide_eq_true_eq,decide_eq_false_iff_not,z'x]at hc)|fail
 ·have:kwB s=true:=by unfold kwB;rw[List.any_eq_true];exact⟨_,z'8 (d:=e0) (show k<kws.length by omega),decide_eq_true hc⟩
  rw[this]
 ·refine⟨⟨k+1,by omega,y'r hs (decide_eq_false hc)⟩,Weak.sub ?_,by dsimp only;omega⟩
  simp[sub,upd]
 ·have:kwB s=false:=by
   unfold kwB
   rw[List.any_eq_false]
   intro x hx
   obtain⟨i,hi⟩:=y'u hx
   have h1:=hs i (by have:=(z'z.1 hi).1;omega)
   rw[w'3 hi]at h1
   simp[h1]
  rw[this]
theorem y'7 (s:ByteArray):Pure Tryz.prog 165 [sD s] (bD (nmB s)):=by
 have c1:=ZiF (byT s 0)
 have c2:=ZmV s
 refine Fun.of T [.tmp 2] Tryz.func165 rfl Tryz.ntmps165 Tryz.results165 rfl (by kernel_rfl) ?_
 rcases z'g s.size 1 with h0|h0
 ·have e1:decide ((s.size:Int)<1)=true:=decide_eq_true (by omega)
  have:nmB s=false:=by simp[nmB];omega
  rw[this]
  repeat' first|refine mq1 @e1 ?_|exact z'r T (z'a _) ⟨rfl,rfl⟩|fail
 have e1:decide ((s.size:Int)<1)=false:=decide_eq_false (by omega)
 rcases z'g 16 s.size with h1|h1
 ·have e2:decide ((s.size:Int)>16)=true:=decide_eq_true (by omega)
  have:nmB s=false:=by simp[nmB];omega
  rw[this]
  repeat' first|refine mq1 (mqt2 @e1 @e2) ?_|exact z'r T (z'a _) ⟨rfl,rfl⟩|fail
 have e2:decide ((s.size:Int)>16)=false:=decide_eq_false (by omega)
 cases e3:ltB (byT s 0)with
 |false=>
  have:nmB s=false:=by simp[nmB,e3]
  rw[this]
  rw[e3]at c1
  repeat' first|refine mq2 (mqt2 @e1 @e2) c1 ?_|refine .wk ?_ ?_;focus(try omega)|exact z'r T (z'a _) ⟨rfl,rfl⟩|fail
 |true=>
  rw[e3]at c1
  cases e4:kwB s with
  |true=>
   have:nmB s=false:=by simp[nmB,e4]
   rw[this]
   rw[e4]at c2
   repeat' first|refine mq2 (mqt2 @e1 @e2) (mqt2 c1 c2) ?_|refine .wk ?_ ?_;focus(try omega)|exact z'r T (z'a _) ⟨rfl,rfl⟩|fail
  |false=>
   rw[e4]at c2
   repeat' first|refine mq2 (mqt2 @e1 @e2) (mqt2 c1 c2) ?_|refine .wk ?_ ?_;focus(try omega)|fail
   refine VC.loop {k:Nat//k≤s.size∧ ∀i,i<k→(ltB (byT s i)||dgB (byT s i))=true} (fun p=>⟨z'0 [(0,sD s),(3,iD (p.1:Nat))],[]⟩) (fun p=>s.size-p.1) ⟨0,z'm _,fun i hi=>by omega⟩ ?_ ?_
   ·refine Weak.sub ?_
    simp[sub,upd]
   rintro⟨k,hk,hs2⟩
   dsimp only at hk hs2⊢
   have d1:=ZiF (byT s k)
   have d2:=Zo8 (byT s k)
   rcases z'g k s.size with hlt|hge
   case inr=>
    have hd:decide ((k:Int)<(s.size:Int))=false:=decide_eq_false (by omega)
    have:nmB s=true:=by
     simp only[nmB,e3,e4,z'P,y'g,z'd,decide_eq_true_eq,z'l,z'Q]
     exact⟨h0,h1,fun i hi=>hs2 i (by omega)⟩
    rw[this]
    repeat' first|refine mq1 @hd ?_|exact z'r T (z'a _) ⟨rfl,rfl⟩|fail
   have hd:decide ((k:Int)<(s.size:Int))=true:=decide_eq_true (by omega)
   have no:(ltB (byT s k)||dgB (byT s k))=false→nmB s=false:=fun h=>by
    have:((List.range s.size).all fun k=>ltB (byT s k)||dgB (byT s k))=false:=by
     rw[w'A]
     exact⟨k,z'Q.2 hlt,by simp[h]⟩
    simp[nmB,this]
   have nxt:(ltB (byT s k)||dgB (byT s k))=true→ ∀(E:Nat→D),Vc.sub E [(0,sD s),(3,iD ((k+1:Nat):Int))]→
     ∃k':{k:Nat//k≤s.size∧ ∀i,i<k→(ltB (byT s i)||dgB (byT s i))=true},Weak ⟨E,[]⟩ ⟨z'0 [(0,sD s),(3,iD (k'.1:Nat))],[]⟩∧s.size-k'.1<s.size-k:=
    fun h E hE=>⟨⟨k+1,by omega,y'r hs2 h⟩,Weak.sub hE,by dsimp only;omega⟩
   cases f1:ltB (byT s k)with
   |true=>
    rw[f1]at d1
    repeat' first|refine mq2 (mqt3 @hd @w64 @z'b) d1 ?_|refine .wk ?_ ?_;focus(try omega)|fail
    refine nxt (by rw[f1];rfl) _ ?_
    simp[sub,upd]
   |false=>
    rw[f1]at d1
    cases f2:dgB (byT s k)with
    |true=>
     rw[f2]at d2
     repeat' first|refine mq2 (mqt3 @hd @w64 @z'b) (mqt2 d1 d2) ?_|refine .wk ?_ ?_;focus(try omega)|fail
     refine nxt (by rw[f2,Bool.or_true]) _ ?_
     simp[sub,upd]
    |false=>
     rw[f2]at d2
     rw[no (by rw[f1,f2];rfl)]
     repeat' first|refine mq2 (mqt2 @hd @z'b) (mqt2 d1 d2) ?_|refine .wk ?_ ?_;focus(try omega)|exact z'r T (z'a _) ⟨rfl,rfl⟩|fail
theorem ZlN (n:Int):Pure Tryz.prog 211 [iD n] (iD (x'T n)):=by
 refine Fun.of T [.tmp 2] Tryz.func211 rfl Tryz.ntmps211 Tryz.results211 rfl (by kernel_rfl) ?_
 repeat' first|refine mq0 ?_|refine z'r T (z'a _) ?_;(try simp only[upd,Nat.reduceBEq,cond_true,cond_false,and_true])|with_reducible refine z'j (fun hc=>?_) (fun hc=>?_)<;>(try simp only[decide_eq_true_eq,decide_eq_false_iff_not,beq_iff_eq,beq_eq_false_iff_ne,ne_eq,ge_iff_le,y'j]at hc)<;>(try(exfalso;omega))|fail
 all_goals
  have:x'T n=0∧(1≤n∧n≤4)∨x'T n=1∧n=5∨x'T n=2∧(6≤n∧n≤14)∨x'T n= -1∧(n<1∨14<n):=by
   unfold x'T w'K
   by_cases q1:1≤n∧n≤4
   ·rw[if_pos q1];exact .inl ⟨rfl,q1⟩
   rw[if_neg q1]
   by_cases q2:n=5
   ·rw[if_pos q2];exact .inr (.inl ⟨rfl,q2⟩)
   rw[if_neg q2]
   by_cases q3:6≤n∧n≤14
   ·rw[if_pos q3];exact .inr (.inr (.inl ⟨rfl,q3⟩))
   rw[if_neg q3]
   exact .inr (.inr (.inr ⟨rfl,by omega⟩))
  congr 2
  omega
theorem ZjF (l:List Nod) (hl:l.length≤1000000) (i:Int):Pure Tryz.prog 139 [y'4 l,iD i] (iD (v'U l i)):=by
 refine Fun.of T [.tmp 4] Tryz.func139 rfl Tryz.ntmps139 Tryz.results139 rfl (by kernel_rfl) ?_
 rcases w'7 i 0 with h0|h0
 ·have e1:decide (i<0)=true:=decide_eq_true h0
  rw[ZjD h0]
  repeat' first|refine mq1 @e1 ?_|exact z'r T (z'a _) ⟨rfl,rfl⟩|fail
 have e1:decide (i<0)=false:=decide_eq_false (by omega)
 obtain⟨i,rfl⟩: ∃n:Nat,i=(n:Int):=⟨i.toNat,by omega⟩
 rw[ZdG]
 repeat' first|refine mq1 @e1 ?_|fail
 refine VC.loop {p:Nat×Nat//i≤p.1∧1≤p.2∧p.2≤p.1+1∧v'y l i 1=v'y l p.1 p.2} (fun p=>⟨z'0 [(0,y'4 l),(5,iD (p.1.2:Nat)),(6,iD (p.1.1:Nat))],[]⟩) (fun p=>l.length-p.1.1) ⟨(i,1),z'c _,z'c _,by dsimp only;omega,rfl⟩ ?_ ?_
 ·refine Weak.sub ?_
  simp[sub,upd]
 rintro⟨⟨k,w⟩,hk,hw,hw2,he⟩
 dsimp only at hk hw hw2 he⊢
 rw[he]
 have hq:=ZfK (l.getD k z'J).op
 have c1:=ZlN (l.getD k z'J).op
 repeat' first|refine mq2 (mqt5 @y's @z'Z @nodR.eq_1 @w64 @z'b) c1 ?_|refine .wk ?_ ?_;focus(try omega)|refine z'r T (z'a _) ?_;(try simp only[upd,Nat.reduceBEq,cond_true,cond_false,and_true])|with_reducible refine z'j (fun hc=>?_) (fun hc=>?_)<;>(try simp only[decide_eq_true_eq,decide_eq_false_iff_not,beq_iff_eq,beq_eq_false_iff_ne,ne_eq,z'x]at hc)|fail
 ·rw[Zis (by omega) (ZiD.1 hc)]
 ·have hn:=Za0 (n:=(x'T (l.getD k z'J).op).toNat) (op:=(l.getD k z'J).op)
  rw[ZjC (by omega) (hn.2 (by omega)) (by omega)];rfl
 ·have hn:=Za0 (n:=(x'T (l.getD k z'J).op).toNat) (op:=(l.getD k z'J).op)
  refine⟨⟨(k+1,w-1+(x'T (l.getD k z'J).op).toNat),by dsimp only;omega,by dsimp only;omega,by dsimp only;omega,Zir (by omega) (hn.2 (by omega)) (by omega)⟩,Weak.sub ?_,by dsimp only;omega⟩
  simp[sub,upd, -List.getD_eq_getElem?_getD]
  omega
 ·rw[ZjB (by omega)]
theorem ZpV (x:Nod):Pure Tryz.prog 140 [.agg (nodR x)] (bD (ndB x)):=by
 have c1:=y'7 x.nm
 have c2:=y'7 x.inn
 have d1:decide (x.nm=e0)=isE x.nm:=rfl
 have d2:decide (x.inn=e0)=isE x.inn:=rfl
 refine Fun.of T [.tmp 2] Tryz.func140 rfl Tryz.ntmps140 Tryz.results140 rfl (by kernel_rfl) ?_
 repeat' first|refine vb rfl rfl rfl rfl ?_|refine mq2 (mqt3 @nodR.eq_1 @d1 @d2) (mqt2 c1 c2) ?_|refine z'r T (z'a _) ?_;(try simp only[upd,Nat.reduceBEq,cond_true,cond_false,and_true])|with_reducible refine z'j (fun hc=>?_) (fun hc=>?_)<;>(try simp only[decide_eq_true_eq,decide_eq_false_iff_not,beq_iff_eq,beq_eq_false_iff_ne,ne_eq,ge_iff_le,y'j,z'x]at hc)<;>(try(exfalso;omega))|fail
 all_goals
  clear c1 c2 d1 d2
  first|(simp_all[ndB];done)|(simp_all[ndB];omega)
theorem Zq1 (l:List Nod) (hl:l.length≤1000): ∀(f i k:Nat),f≤1000→l.length-i≤f→y'5 (l.drop i) 1=some k→Pure Tryz.prog 141 [y'4 l,iD (i:Nat)] (iD (x'G l f i:Nat)):=by
 intro f
 induction f with
 |zero=>
  intro i k _ h1 h2
  have:=w'P h2
  omega
 |succ f ih=>
  intro i k hf h1 h2
  obtain⟨n,hn,hn0,hn1,hik,hk1⟩:=ZaS h2
  have hi:=w'P h2
  have hki:x'T (l.getD i z'J).op=n:=Za0.1 hn
  have hn2:n≤2:=by have:=ZfK (l.getD i z'J).op;omega
  have hat:=fun(h0:1≤n) j hj=>Zn7 (g:=x'G l f) (l:=l) (i:=i) (n:=n) (k:=k-1) (hn1 h0) j hj
  have hle:=fun j=>Zkh (g:=x'G l f) (l:=l) (m:=f) (Zgm l f) j (0,i+1) (z'm _)
  have hd:x'G l (f+1) i=(itN (w'v (x'G l f) l) n (0,i+1)).1:=by rw[x'G,hn];rfl
  rw[hd]
  have ck:=ZlN (l.getD i z'J).op
  rw[hki]at ck
  refine Fun.of T [.tmp 4] Tryz.func141 rfl Tryz.ntmps141 Tryz.results141 rfl (by kernel_rfl) ?_
  repeat' first|refine mq1 @w64 ?_|fail
  refine VC.loop {j:Nat//j≤n} (fun j=>⟨z'0 [(0,y'4 l),(1,iD (i:Nat)),(5,iD ((itN (w'v (x'G l f) l) j.1 (0,i+1)).1:Nat)),(6,iD ((itN (w'v (x'G l f) l) j.1 (0,i+1)).2:Nat)),(7,iD (j.1:Nat))],[]⟩) (fun j=>n-j.1) ⟨0,z'm _⟩ ?_ ?_
  ·refine Weak.sub ?_
   simp[sub,upd,itN]
  rintro⟨j,hj⟩
  dsimp only at hj⊢
  have hlj:=hle j
  rcases z'g j n with hlt|hge
  case inr=>
   obtain rfl:j=n:=by omega
   have e1:decide ((j:Int)<(j:Int))=false:=decide_eq_false (by omega)
   repeat' first|refine mq2 (mqt4 @y's @nodR.eq_1 @z'b @e1) ck ?_|refine .wk ?_ ?_;focus(try omega)|exact z'r T (z'a _) ⟨rfl,rfl⟩|fail
  have e1:decide ((j:Int)<(n:Int))=true:=decide_eq_true (by omega)
  obtain⟨r,hr1,hr2⟩:=(hat (by omega) j (by omega)).1 hlt
  obtain⟨r1,hr3⟩: ∃r1,y'5 (l.drop (itN (w'v (x'G l f) l) j (0,i+1)).2) 1=some r1:=by
   rcases z'g 1 (n-j)with h|h
   ·rw[show n-j=1+(n-j-1) by omega]at hr1
    obtain⟨k1,_,q,_⟩:=v'V (z'c _) (by omega) hr1
    exact⟨k1,q⟩
   ·rw[show n-j=1 by omega]at hr1
    exact⟨r,hr1⟩
  have hij:=(hat (by omega) j (by omega)).2.1
  have hs:itN (w'v (x'G l f) l) (j+1) (0,i+1)=(max (itN (w'v (x'G l f) l) j (0,i+1)).1 (1+x'G l f (itN (w'v (x'G l f) l) j (0,i+1)).2),(itN (w'v (x'G l f) l) j (0,i+1)).2+r1):=by
   have:itN (w'v (x'G l f) l) (j+1) (0,i+1)=w'v (x'G l f) l (itN (w'v (x'G l f) l) j (0,i+1)):=rfl
   rw[this,w'v,hr3];rfl
  have hb:=w'2 hr3
  rw[x'b]at hb
  generalize itN (w'v (x'G l f) l) j (0,i+1)=p at*
  obtain⟨m,a⟩:=p
  dsimp only at*
  have c1:=ih a r1 (by omega) (by omega) hr3
  have c2:=ZjF l (by omega) (a:Nat)
  rw[ZeP hr3]at c2
  have hda:=Zgm l f a
  have w1:IntKind.i64.wrap (1+((x'G l f a:Nat):Int))=((1+x'G l f a:Nat):Int):=by rw[w64 (by omega)];omega
  repeat' first|refine mq2 (mqt6 @y's @nodR.eq_1 @z'b @e1 @w1 @w64) (mqt3 ck c1 c2) ?_|refine .wk ?_ ?_;focus(try omega)|refine vs T rfl fun K hK=>?_;(try simp (disch:=omega) only[go_sem,Nat.reduceBEq,y's,nodR,z'b,e1,w1,w64]);(first|refine Zdi rfl rfl rfl ?_;refine hK _ _ ?_;clear hK K)|fail
  refine⟨⟨j+1,by omega⟩,Weak.sub ?_,by dsimp only;omega⟩
  have hmx:max (m:Int) ((1+x'G l f a:Nat):Int)=((max m (1+x'G l f a):Nat):Int):=by omega
  simp[sub,upd,hs, -List.getD_eq_getElem?_getD]
  omega
theorem Zmu (l:List Nod) (hl:l.length≤1000):Pure Tryz.prog 78 [y'4 l] (bD (exB l)):=by
 have c1:=ZjF l (by omega) 0
 refine Fun.of T [.tmp 2] Tryz.func78 rfl Tryz.ntmps78 Tryz.results78 rfl (by kernel_rfl) ?_
 rcases z'g 200 l.length with h0|h0
 ·have e1:decide ((l.length:Int)>200)=true:=decide_eq_true (by omega)
  have:exB l=false:=by rw[exB,decide_eq_false (by omega)];rfl
  rw[this]
  repeat' first|refine mq1 (mqt2 @z'Z @e1) ?_|exact z'r T (z'a _) ⟨rfl,rfl⟩|fail
 have e1:decide ((l.length:Int)>200)=false:=decide_eq_false (by omega)
 by_cases h1:l.length=0
 ·have e2:((l.length:Int) == 0)=true:=by simp[h1]
  have:exB l=false:=by simp[exB,h1]
  rw[this]
  repeat' first|refine mq1 (mqt3 @z'Z @e1 @e2) ?_|exact z'r T (z'a _) ⟨rfl,rfl⟩|fail
 have e2:((l.length:Int) == 0)=false:=beq_eq_false_iff_ne.2 (by omega)
 by_cases h2:v'U l 0=l.length
 case neg=>
  have e3:(v'U l 0 != (l.length:Int))=true:=by simp[h2]
  have:exB l=false:=by simp[exB,h2]
  rw[this]
  repeat' first|refine mq2 (mqt4 @z'Z @e1 @e2 @e3) c1 ?_|exact z'r T (z'a _) ⟨rfl,rfl⟩|fail
 have e3:(v'U l 0 != (l.length:Int))=false:=by simp[h2]
 obtain⟨k,hk⟩: ∃k,y'5 (l.drop 0) 1=some k:=by
  rw[show(0:Int)=((0:Nat):Int) from rfl,ZdG,v'y]at h2
  cases hq:y'5 (l.drop 0) 1 with
  |none=>rw[hq]at h2;exact absurd h2 (by dsimp only;omega)
  |some k=>exact⟨k,rfl⟩
 have c2:=Zq1 l hl l.length 0 k hl (Nat.sub_le _ _) hk
 repeat' first|refine mq2 (mqt4 @z'Z @e1 @e2 @e3) c1 ?_|fail
 refine VC.loop {k:Nat//k≤l.length∧ ∀i,i<k→ndB (l.getD i z'J)=true} (fun p=>⟨z'0 [(0,y'4 l),(3,iD (p.1:Nat))],[]⟩) (fun p=>l.length-p.1) ⟨0,z'm _,fun i hi=>by omega⟩ ?_ ?_
 ·refine Weak.sub ?_
  simp[sub,upd]
 rintro⟨j,hj,hs⟩
 dsimp only at hj hs⊢
 rcases z'g j l.length with hlt|hge
 case inr=>
  have ha:=x'X (p:=ndB) (d:=z'J) hge hs
  have e4:decide ((j:Int)<(l.length:Int))=false:=decide_eq_false (by omega)
  have:exB l=decide (x'G l l.length 0≤30):=by simp only[exB,h2,ha,decide_eq_true h0,decide_true,y'g];simp[h1]
  rw[this]
  repeat' first|refine mq2 (mqt2 @z'Z @e4) c2 ?_|refine z'r T (z'a _) ?_;(try simp only[upd,Nat.reduceBEq,cond_true,cond_false,and_true])|fail
  congr 2
  rw[z'9,decide_eq_true_eq,decide_eq_true_eq]
  omega
 have e4:decide ((j:Int)<(l.length:Int))=true:=decide_eq_true (by omega)
 have c3:=ZpV (l.getD j z'J)
 repeat' first|refine mq2 (mqt5 @y's @z'Z @z'b @e4 @w64) c3 ?_|refine .wk ?_ ?_;focus(try omega)|refine z'r T (z'a _) ?_;(try simp only[upd,Nat.reduceBEq,cond_true,cond_false,and_true])|with_reducible refine z'j (fun hc=>?_) (fun hc=>?_)<;>(try simp only[z'y,z'G]at hc)|fail
 ·exact z'c _
 ·rw[show exB l=false by rw[exB,w'd hlt hc];simp]
 ·refine⟨⟨j+1,by omega,y'r hs hc⟩,Weak.sub ?_,by dsimp only;omega⟩
  simp[sub,upd]
end Go.Proofs.YthlkpnjjkgmlkaaGreat
