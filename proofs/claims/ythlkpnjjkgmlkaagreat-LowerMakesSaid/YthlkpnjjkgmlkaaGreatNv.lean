/- Contracts: the code of an expression: each node. No condition. -/
import Derived.Test.YthlkpnjjkgmlkaaGreatNr
import Derived.Test.YthlkpnjjkgmlkaaGreatLc
namespace Go.Proofs.YthlkpnjjkgmlkaaGreat
set_option maxHeartbeats 16000000
set_option linter.unusedSimpArgs false
set_option linter.unusedVariables false
set_option maxRecDepth 20000
open Go Go.Proofs Go.Vc
attribute [local irreducible] x'r VCg VCw VCx
def mdN (l:List Nod) (lv:List Opc) (f:Nat):Nat→Nat→List Opc
 |0,_=>[]
 |n+1,i=>mdF l lv f i++mdN l lv f n (i+(y'5 (l.drop i) 1).getD 0)
theorem Zsz {l:List Nod} {lv:List Opc} {f i k n:Nat} (hn:w'K (l.getD i z'J).op=some n) (h1:1≤n) (h:y'5 (l.drop (i+1)) n=some k):mdF l lv (f+1) i=mdN l lv f n (i+1)++[((l.getD i z'J).op,0,0)]:=by
 rcases Zab hn with⟨rfl,q⟩|⟨rfl,q⟩|⟨rfl,q⟩
 ·omega
 ·rw[mdF,if_neg (by omega),if_pos q]
  simp[mdN]
 ·rw[mdF,if_neg (by omega),if_neg (by omega)]
  simp[mdN]
theorem Zit {l:List Nod} {i m rem:Nat} (h:y'5 (l.drop i) (m+1)=some rem): ∃k1 rem',y'5 (l.drop i) 1=some k1∧rem=k1+rem'∧(1≤m→y'5 (l.drop (i+k1)) m=some rem')∧(m=0→rem'=0):=by
 rcases x'P m with rfl|hm
 ·exact⟨rem,0,h,rfl,fun h=>by omega,fun _=>rfl⟩
 ·rw[show m+1=1+m by omega]at h
  obtain⟨k1,k2,q1,q2,q3⟩:=v'V (z'c 1) hm h
  rw[y'6]at q2
  exact⟨k1,k2,q1,q3,fun _=>q2,fun h=>by omega⟩
structure CnS where
 j:Nat
 at':Nat
 g:G
 r:List Opc
 q:Bool
 rem:Nat
theorem Zsm (l:List Nod) (hl:l.length≤1000) (regs:List ByteArray) (hr:regs.length≤1000) (b bx f:Nat) (ih:CnP l regs b bx f) (i k n:Nat) (g:G) (r:List Opc) (q:Bool) (hf:l.length-i≤f+1) (hi:i<l.length) (hn:w'K (l.getD i z'J).op=some n) (hn1:1≤n) (hk:y'5 (l.drop (i+1)) n=some k) (hik:i+1+k≤l.length) (hg:gOk g r.length) (hrk:r.length+(1+k)≤100000):
  Fun Tryz.prog 190 [ptB b,iD (i:Nat)] (mkH b bx l regs g r q) false
   (fun d H'=> ∃g':G,gOk g' (r++mdF l (lvP regs l) (f+1) i).length∧d=iD (i+(1+k):Nat)∧H'=mkH b bx l regs g' (r++mdF l (lvP regs l) (f+1) i) (q&&okR regs l i (1+k))):=by
 have hml: ∀(m i k:Nat),l.length-i≤f→(1≤m→y'5 (l.drop i) m=some k)→(m=0→k=0)→(mdN l (lvP regs l) f m i).length=k:=by
  intro m
  induction m with
  |zero=>intro i k _ _ h;rw[h rfl];rfl
  |succ m ihm=>
   intro i k h1 h2 _
   obtain⟨k1,k2,q1,rfl,q3,q4⟩:=Zit (h2 (by omega))
   have:=w'2 q1
   rw[mdN,z'e,Zac l (lvP regs l) f i k1 h1 q1,q1,z'B,ihm (i+k1) k2 (by omega) q3 q4]
 have hlen:=hml n (i+1) k (by omega) (fun _=>hk) (by omega)
 have hop:5≤(l.getD i z'J).op∧(l.getD i z'J).op≤14:=by rcases Zab hn with⟨rfl,q⟩|⟨rfl,q⟩|⟨rfl,q⟩<;>omega
 have hn2:n≤2:=by rcases Zab hn with⟨rfl,q⟩|⟨rfl,q⟩|⟨rfl,q⟩<;>omega
 have c1: ∃fd,Pure Tryz.prog 131 [iD (l.getD i z'J).op] (.tup [.agg [iD (n:Nat),fD fd],bD true]):=by
  have c0:=Zm0 (l.getD i z'J).op
  rcases Zab hn with⟨rfl,q⟩|⟨rfl,q⟩|⟨rfl,q⟩
  ·omega
  ·exact⟨_,by rw[show ofD (l.getD i z'J).op= .tup [.agg [iD 1,fD 192],bD true] by unfold ofD;rw[if_pos q]]at c0;exact c0⟩
  ·exact⟨_,by rw[ZlU q]at c0;exact c0⟩
 obtain⟨fd,c1⟩:=c1
 rw[Zsz hn hn1 hk,ZlV hi,show lkB regs (l.getD i z'J)=true by unfold lkB;rw[decide_eq_true hop.1];rfl,y'g]
 refine Fun.of T [.tmp 4] Tryz.func190 rfl Tryz.ntmps190 Tryz.results190 rfl (by kernel_rfl) ?_
 apply VC.nodup
 intro hnd
 repeat' first|refine mq2 (mqt4 @y's @nodR.eq_1 @w64 @z'b) c1 ?_|refine mqn fun bq hbq=>?_|refine .wk ?_ ?_;focus(try omega)|fail
 rename_i b5 hb5
 refine VC.loop {x:CnS//(x.j≤n∧i+1≤x.at'∧x.at'+x.rem=i+1+k∧gOk x.g x.r.length∧x.r.length+x.rem=r.length+k)∧(1≤n-x.j→y'5 (l.drop x.at') (n-x.j)=some x.rem)∧(n-x.j=0→x.rem=0)∧x.r++mdN l (lvP regs l) f (n-x.j) x.at'=r++mdN l (lvP regs l) f n (i+1)∧(x.q&&okR regs l x.at' x.rem)=(q&&okR regs l (i+1) k)}
  (fun x=>⟨z'0 [(0,ptB b),(5,ptB b5),(10,iD (x.1.at':Nat)),(60,iD (n:Nat)),(61,iD (x.1.j:Nat))],(bq,.cells 186 2 [iD (n:Nat),fD fd])::(b5,.cells 127 5 (nodR (l.getD i z'J)))::mkH b bx l regs x.1.g x.1.r x.1.q⟩) (fun x=>n-x.1.j) ⟨⟨0,i+1,g,r,q,k⟩,⟨z'm _,z'c _,rfl,hg,rfl⟩,fun _=>hk,fun h=>by dsimp only at h;omega,rfl,rfl⟩ ?_ ?_
 ·refine z'O rfl ?_
  simp[sub,upd]
 rintro⟨⟨j,a,g1,r1,q1,rem⟩,⟨hj,ha,har,hg1,hr1⟩,hE,hZ,hR,hQ⟩
 dsimp only at hj ha har hg1 hr1 hE hZ hR hQ⊢
 rcases z'g j n with hlt|hge
 ·have e1:decide ((j:Int)<(n:Int))=true:=decide_eq_true (by omega)
  obtain⟨k1,rem',s1,rfl,s3,s4⟩:=Zit (m:=n-j-1) (by rw[show n-j-1+1=n-j by omega];exact hE (by omega))
  have s1l:=w'2 s1
  have c2:=ih a k1 g1 r1 q1 (by omega) s1 hg1 (by omega)
  repeat' first|refine vs T rfl fun K hK=>?_;(try simp (disch:=omega) only[go_sem,Nat.reduceBEq,e1]);(first|refine hK _ _ ?_;clear hK K|skip)|refine st rfl ?_|refine sc rfl ?_|refine nl ?_
  refine Op1.cally (Hp:=mkH b bx l regs g1 r1 q1) (Hr:=[_,_]) rfl rfl c2 rfl (List.perm_append_comm (l₁:=[_,_]) (l₂:=mkH b bx l regs g1 r1 q1)) (fun g2 hg2=>?_)
  refine hK _ _ ?_
  clear hK K
  have hm1:=Zac l (lvP regs l) f a k1 (by omega) s1
  repeat' first|refine mq1 @w64 ?_|fail
  refine⟨⟨⟨j+1,a+k1,g2,r1++mdF l (lvP regs l) f a,q1&&okR regs l a k1,rem'⟩,⟨by dsimp only;omega,by dsimp only;omega,by dsimp only;omega,hg2,by dsimp only;rw[z'e,hm1];omega⟩,?_,?_,?_,?_⟩,Weak.trans (Weak.perm (H':=(bq,.cells 186 2 [iD (n:Nat),fD fd])::(b5,.cells 127 5 (nodR (l.getD i z'J)))::mkH b bx l regs g2 (r1++mdF l (lvP regs l) f a) (q1&&okR regs l a k1)) ?_) (z'O rfl ?_),by dsimp only;omega⟩
  ·dsimp only
   rw[show n-(j+1)=n-j-1 by omega]
   exact s3
  ·dsimp only
   rw[show n-(j+1)=n-j-1 by omega]
   exact s4
  ·dsimp only
   rw[←hR,show n-j=(n-(j+1))+1 by omega,mdN,s1,z'B,z'M]
  ·dsimp only
   rw[←hQ,Zrx,Bool.and_assoc]
  ·exact y'n fun a=>by simp only[y'y,y'c,y'i,y'k];omega
  ·simp[sub,upd]
   try exact w64 (by omega)
 ·obtain rfl:j=n:=by omega
  have e1:decide ((j:Int)<(j:Int))=false:=decide_eq_false (by omega)
  have hrem:=hZ (Nat.sub_self _)
  subst hrem
  rw[Nat.sub_self,mdN,z'u]at hR
  rw[show okR regs l a 0=true by unfold okR;rw[w'E];rfl,x'8]at hQ
  subst hR hQ
  have hl3:=ZrG (r++mdN l (lvP regs l) f j (i+1))
  have hl4:(r++mdN l (lvP regs l) f j (i+1)).length=r.length+k:=by rw[z'e,hlen]
  rw[←List.append_assoc]
  obtain rfl:a=i+1+k:=by omega
  generalize hR':r++mdN l (lvP regs l) f j (i+1)=R at*
  generalize hQ':(q&&okR regs l (i+1) k)=Q at*
  repeat' first|refine VC.drawS (id:=13) (by kernel_rfl) ?_|refine mq1 @e1 ?_|fail
  refine VCd.take rfl rfl rfl rfl rfl rfl (by kernel_rfl) (by kernel_rfl) (fun c s' h=>by simp only[w'j]at h;unfold x'r at h;exact h) ?_
  repeat' first|refine VCd.group T (s:=1) 9 10 rfl rfl (by kernel_rfl) (by kernel_rfl) (by kernel_rfl) ?_;(try simp only[y'p,y'e,Nat.reduceSub])|refine gn ?_|(apply VCg.step T rfl rfl);focus((try simp (disch:=omega) only[go_sem,Nat.reduceBEq,Nat.reduceAdd,Nat.reduceMul,Nat.reduceLeDiff,nodR]);(exact rfl))
  refine VCd.oneL T rfl (by kernel_rfl) (by kernel_rfl) rfl rfl fun K hK=>?_
  simp (disch:=omega) only[go_sem,Nat.reduceBEq,Nat.reduceAdd,Nat.reduceMul,Nat.reduceSub,Nat.reduceLeDiff,Int.reduceToNat]
  refine⟨_,_,_,_,(by repeat (first|exact Sp.here|exact Sp.nil|apply Sp.cons|apply Sp.over)),?_,(by first|exact⟨rfl,rfl⟩|exact⟨rfl,rfl,rfl⟩),?_,fun g' hg'=>hK _ _ ?_⟩<;>clear hK K
  ·exact hl3
  ·omega
  repeat' first|refine VCd.tail (f:=10) (by kernel_rfl) ?_;(try simp only[y'p,y'e])|refine mq0 ?_|refine ov ?_|fail
  exact z'r T ((z'I _ _).trans (z'I _ _)) ⟨g',by rw[z'e];exact hg',congrArg iD (by omega),Zks (x:=((l.getD i z'J).op,0,0))⟩
theorem Zjv (l:List Nod) (hl:l.length≤1000) (regs:List ByteArray) (hr:regs.length≤1000) (b bx:Nat): ∀f,CnP l regs b bx f
 |0,i,k,g,r,q,h1,h2,_,_=>by have:=w'P h2;omega
 |f+1,i,k,g,r,q,h1,h2,hg,hrk=>by
  obtain⟨n,hn,hn0,hn1,hik,hk1⟩:=ZaS h2
  have hi:=w'P h2
  rcases x'P n with rfl|hp
  ·have hk:=hn0 rfl
   subst hk
   refine Zo1 l hl regs hr b bx f i g r q hi ?_ hg hrk
   rcases Zab hn with⟨_,q⟩|⟨h,q⟩|⟨h,q⟩<;>omega
  ·have h3:=hn1 hp
   have:=Zsm l hl regs hr b bx f (Zjv l hl regs hr b bx f) i (k-1) n g r q h1 hi hn hp h3 (by omega) hg (by omega)
   rw[show 1+(k-1)=k by omega]at this
   exact this
def mkP (regs:List ByteArray) (l:List Nod):List Opc×Bool:=if exB l=true∧l.all (lkB regs)=true then(mdF l (lvP regs l) l.length 0,true)else([],false)
theorem Zkr {l:List Nod} {lv lv':List Opc} (h: ∀i,(l.getD i z'J).op≤4→lv.getD i (0,0,0)=lv'.getD i (0,0,0)): ∀f i,mdF l lv f i=mdF l lv' f i
 |0,_=>rfl
 |f+1,i=>by
  unfold mdF
  by_cases h1:(l.getD i z'J).op≤4
  ·rw[if_pos h1,if_pos h1,h i h1]
  ·rw[if_neg h1,if_neg h1,Zkr h f,Zkr h f]
theorem ZjE: ∀{l:List Nod} {w:Nat},y'5 l w=some l.length→ ∀x,x∈l→1≤x.op∧x.op≤14
 |[],_,_,x,hx=>by cases hx
 |y::r,w,h,x,hx=>by
  rw[Zc6]at h
  cases hk:w'K y.op with
  |none=>rw[hk]at h;cases h
  |some n=>
   have hy:1≤y.op∧y.op≤14:=by
    unfold w'K at hk
    split at hk
    ·omega
    split at hk
    ·omega
    split at hk
    ·omega
    ·cases hk
   rw[hk]at h
   simp only at h
   split at h
   ·have:r=[]:=z'3 (by simpa using h)
    subst this
    rw[z'R]at hx
    subst hx;exact hy
   ·obtain⟨j,hj,e⟩:=Option.map_eq_some_iff.1 h
    rw[z'q]at e
    obtain rfl:j=r.length:=by omega
    rcases z'v.1 hx with rfl|hx
    ·exact hy
    ·exact ZjE hj x hx
theorem Zlt {l:List Nod} (h:exB l=true): ∀x,x∈l→1≤x.op∧x.op≤14:=by
 simp only[exB,z'd,decide_eq_true_eq]at h
 have h1:=h.2.2.1
 unfold v'U at h1
 rw[if_neg (by decide)]at h1
 cases he:y'5 (l.drop (0:Int).toNat) 1 with
 |none=>rw[he]at h1;simp at h1
 |some k=>
  rw[he]at h1
  simp only[Int.toNat_zero,y'e]at he h1
  obtain rfl:k=l.length:=by omega
  exact ZjE he
theorem ZqH {regs:List ByteArray} {x:Nod} (h:1≤x.op∧x.op≤14):lkB regs x=(lfT regs x).isSome:=by
 have:=Zhh regs x.nm
 unfold lkB lfP lfT
 by_cases h1:x.op=1
 ·simp[h1]
 by_cases h2:x.op=2
 ·rw[if_neg h1,if_neg h1,if_pos h2]
  by_cases h3:ixF regs x.nm<0
  ·rw[if_pos h3]
   simp only[h2,Bool.or_eq_false_iff,Option.isSome_none]
   exact⟨by decide,by simp;omega⟩
  ·rw[if_neg h3]
   simp[h2];omega
 by_cases h3:x.op=3∨x.op=4
 ·rw[if_neg h1,if_neg h1,if_neg h2,if_pos h3]
  simp[h2];omega
 ·rw[if_neg h1,if_neg h1,if_neg h2,if_neg h3]
  simp[h2];omega
theorem ZsC (regs:List ByteArray) (l:List Nod):mkP regs l=mkE (lfT regs) l:=by
 unfold mkP mkE
 by_cases he:exB l=true
 ·have ho:=Zlt he
  have ha:l.all (lkB regs)=l.all (fun x=>(lfT regs x).isSome):=by
   rw[z'9,z'l,z'l]
   exact forall_congr' fun x=>⟨fun h hx=>by rw[←ZqH (ho x hx)];exact h hx,fun h hx=>by rw[ZqH (ho x hx)];exact h hx⟩
  rw[ha]
  by_cases hb:l.all (fun x=>(lfT regs x).isSome)=true
  ·rw[if_pos ⟨he,hb⟩,if_pos ⟨he,hb⟩]
   congr 1
   refine Zkr (fun i h4=>?_) _ _
   rw[z'f,z'f,lvP,z'K,z'K]
   cases hi:l[i]? with
   |none=>rfl
   |some x=>
    rw[w'3 hi]at h4
    have hx:=z'E hi
    have h5:=ho x hx
    have h6:=z'l.1 hb x hx
    show(lfP regs x).1=((lfT regs x)).getD (0,0,0)
    unfold lfP
    unfold lfT at h6⊢
    by_cases h1:x.op=1
    ·rw[if_pos h1,if_pos h1];rfl
    by_cases h2:x.op=2
    ·rw[if_neg h1,if_pos h2]at h6
     rw[if_neg h1,if_neg h1,if_pos h2]
     split at h6
     ·cases h6
     ·rename_i h7;rw[if_neg h7];rfl
    ·rw[if_neg h1,if_neg h2,if_pos (by omega)]at h6
     cases h6
  ·rw[if_neg fun h=>hb h.2,if_neg fun h=>hb h.2]
 ·rw[if_neg fun h=>he h.1,if_neg fun h=>he h.1]
theorem Zq9 {g:G} {r:List Opc} {H:Heap} {b:Bool} (hg:gOk g r.length) (hm: ∀c cap,g=some (c,cap)→(c,HC.cells 90 (cap*3) (x'J r).flatten)∈H):Fz H (.tup [y'0 r,bD b]) (.tup [.gs g r.length,bD b]):=
 ⟨_,rfl,y'f (ZgP (e:=90) (l:=(x'J r).flatten) (by rw[y'q]) hg hm (FzR.refl _ (x'J r) (w'S (f:=opR) (fun _=>rfl) _))) (FzL.refl _ _)⟩
theorem Zpq:gOk none 0:=by first|exact rfl|trivial|simp[gOk]
theorem ZnJ {l:List Nod} (h:exB l=true):y'5 (l.drop 0) 1=some l.length:=by
 simp only[exB,z'd,decide_eq_true_eq]at h
 have h1:=h.2.2.1
 unfold v'U at h1
 rw[if_neg (by decide)]at h1
 cases he:y'5 (l.drop (0:Int).toNat) 1 with
 |none=>rw[he]at h1;simp at h1
 |some k=>
  rw[he]at h1
  simp only[Int.toNat_zero]at he h1
  obtain rfl:k=l.length:=by omega
  exact he
theorem Zry (regs:List ByteArray) (l:List Nod):okR regs l 0 l.length=l.all (lkB regs):=by
 unfold okR;rw[y'e,y'w]
theorem Zo3 (l:List Nod) (hl:l.length≤1000) (regs:List ByteArray) (hr:regs.length≤1000) (bx:Nat):Fun Tryz.prog 126 [y'4 l,tfD bx] (rgX bx regs) false
  (fun d H'=> ∃g:G,gOk g (mkP regs l).1.length∧d= .tup [.gs g (mkP regs l).1.length,bD (mkP regs l).2]∧H'=shp g 90 3 (x'J (mkP regs l).1).flatten (rgX bx regs)):=by
 have c1:=ZkP l hl
 refine Fun.of T [.tmp 4,.tmp 5] Tryz.func126 rfl Tryz.ntmps126 Tryz.results126 rfl (by kernel_rfl) ?_
 cases he:exB l with
 |false=>
  rw[he]at c1
  rw[show mkP regs l=([],false) by unfold mkP;rw[if_neg fun q=>by rw[he]at q;exact Bool.false_ne_true q.1]]
  repeat' first|refine mq3 c1 ?_|fail
  simp only[stp,w'j]
  refine x'n T (z'n _) ?_
  exact⟨none,Zpq,rfl,rfl⟩
 |true=>
  rw[he]at c1
  have hE:=ZnJ he
  have c2:=fun b=>Zjv l hl regs hr b bx l.length 0 l.length none [] true (by omega) hE Zpq (by simp;omega)
  simp only[y'h,y'g,Zry]at c2
  cases ha:l.all (lkB regs)with
  |false=>
   rw[show mkP regs l=([],false) by unfold mkP;rw[if_neg fun q=>by rw[ha]at q;exact Bool.false_ne_true q.2]]
   rw[ha]at c2
   repeat' first|refine mq3 c1 ?_|refine mqn fun bq hbq=>?_|refine vs T rfl fun K hK=>?_;(try simp (disch:=omega) only[go_sem,Nat.reduceBEq,Nat.reduceAdd,z'H,z'P]);(first|refine Op1.cally (Hr:=[]) rfl rfl (c2 bq) rfl (by rw[z'u];exact y't _) (fun q hq=>?_);refine hK _ _ ?_;clear hK K)|fail
   simp only[stp,w'j]
   refine x'n T (H':=rgX bx regs) (List.Sublist.trans ?_ (z'I _ _)) ?_
   ·cases q with
    |none=>exact z'n _
    |some z=>exact z'I _ _
   ·exact⟨none,Zpq,rfl,rfl⟩
  |true=>
   rw[show mkP regs l=(mdF l (lvP regs l) l.length 0,true) by unfold mkP;rw[if_pos ⟨he,ha⟩]]
   rw[ha]at c2
   repeat' first|refine mq3 c1 ?_|refine mqn fun bq hbq=>?_|refine vs T rfl fun K hK=>?_;(try simp (disch:=omega) only[go_sem,Nat.reduceBEq,Nat.reduceAdd,z'H]);(first|refine Op1.cally (Hr:=[]) rfl rfl (c2 bq) rfl (by rw[z'u];exact y't _) (fun q hq=>?_);refine hK _ _ ?_;clear hK K)|fail
   try simp only[stp,w'j]
   refine x'n T (z'I _ _) ?_
   exact⟨q,hq,rfl,rfl⟩
theorem Zmr (l:List Nod) (hl:l.length≤1000) (regs:List ByteArray) (hr:regs.length≤1000):Pure Tryz.prog 242 [y'4 l,x't regs] (.tup [y'0 (mkP regs l).1,bD (mkP regs l).2]):=by
 refine Fun.fz ?_
 refine Fun.of T [.tmp 4,.tmp 5] Tryz.func242 rfl Tryz.ntmps242 Tryz.results242 rfl (by kernel_rfl) ?_
 have c2:=fun b=>Zo3 l hl regs hr b
 generalize mkP regs l=m at*
 repeat' first|refine vt rfl fun K hK=>?_;refine w'h (cs:=[.tmp 3]) (us:=[.pointer (some ⟨bq,0,none⟩)]) rfl rfl ?_;refine hK _ _ ?_;clear hK K;(try simp only[updO])|refine vs T rfl fun K hK=>?_;(try simp (disch:=omega) only[go_sem,Nat.reduceBEq]);(first|refine hK _ _ ?_;clear hK K|intro bq hbq;(try simp only[HB]at hbq);refine hK _ _ ?_;clear hK K|skip)|refine st rfl ?_|refine nl ?_
 refine Op1.cally (Hp:=rgX bq regs) (Hr:=[]) rfl rfl (c2 bq) rfl (by rw[z'u]) (fun q hq=>?_)
 refine hK _ _ ?_
 clear hK K
 repeat' first|refine mq0 ?_|fail
 try unfold stp
 refine x'n T (z'n _) ?_
 refine Zq9 hq fun c cap h=>?_
 subst h
 exact z't
theorem Zlq (regs:List ByteArray) (hr:regs.length≤1000):ZdD regs:=fun l hl=>⟨(mkP regs l).2,by
 have:=Zmr l hl regs hr
 rw[ZsC]at this⊢
 exact this⟩
end Go.Proofs.YthlkpnjjkgmlkaaGreat
