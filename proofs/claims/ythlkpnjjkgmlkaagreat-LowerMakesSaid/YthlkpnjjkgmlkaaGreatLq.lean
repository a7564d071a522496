/- Contracts: the reference's code of expressions; how many instructions. No condition. -/
import Derived.Test.YthlkpnjjkgmlkaaGreatLo
import Derived.Test.YthlkpnjjkgmlkaaGreatYi
namespace Go.Proofs.YthlkpnjjkgmlkaaGreat
set_option maxHeartbeats 16000000
set_option linter.unusedSimpArgs false
set_option linter.unusedVariables false
set_option maxRecDepth 20000
open Go Go.Proofs Go.Vc
attribute [local irreducible] x'r VCg VCw VCx
theorem Zab {op:Int} {n:Nat} (h:w'K op=some n):(n=0∧1≤op∧op≤4)∨(n=1∧op=5)∨(n=2∧6≤op∧op≤14):=by
 unfold w'K at h
 split at h
 ·cases h;omega
 ·split at h
  ·cases h;omega
  ·split at h
   ·cases h;omega
   ·cases h
theorem Zac (l:List Nod) (lv:List Opc): ∀(f i k:Nat),l.length-i≤f→y'5 (l.drop i) 1=some k→(mdF l lv f i).length=k
 |0,i,k,h,h2=>by have:=w'P h2;omega
 |f+1,i,k,h,h2=>by
  obtain⟨n,hn,hn0,hn1,hik,hk1⟩:=ZaS h2
  have hi:=w'P h2
  unfold mdF
  rcases Zab hn with⟨rfl,q⟩|⟨rfl,q⟩|⟨rfl,q⟩
  ·rw[if_pos (by omega),hn0 rfl];rfl
  ·have h3:=hn1 (z'c _)
   rw[if_neg (by omega),if_pos q,z'e,Zac l lv f (i+1) _ (by omega) h3]
   have:=w'2 h3
   simp;omega
  ·have h3:=hn1 (by omega)
   obtain⟨k1,k2,q1,q2,q3⟩:=v'V (z'c 1) (z'c 1) h3
   rw[y'6]at q2
   rw[if_neg (by omega),if_neg (by omega),z'e,z'e,Zac l lv f (i+1) _ (by omega) q1,q1,z'B,Zac l lv f (i+1+k1) k2 (by omega) q2]
   have:=w'2 q1
   simp;omega
theorem ZpM (l:List Nod) (hl:l.length≤1000) (lv:List Opc) (hlv:lv.length=l.length): ∀(f i k:Nat),l.length-i≤f→y'5 (l.drop i) 1=some k→Pure Tryz.prog 81 [y'4 l,y'0 lv,iD (i:Nat)] (y'0 (mdF l lv f i)):=by
 intro f
 induction f with
 |zero=>
  intro i k h1 h2
  have:=w'P h2
  omega
 |succ f ih=>
  intro i k h1 h2
  obtain⟨n,hn,hn0,hn1,hik,hk1⟩:=ZaS h2
  have hi:=w'P h2
  refine Fun.fz ?_
  refine Fun.of T [.tmp 6] Tryz.func81 rfl Tryz.ntmps81 Tryz.results81 rfl (by kernel_rfl) ?_
  rcases Zab hn with⟨rfl,q⟩|⟨rfl,q⟩|⟨rfl,q⟩
  ·have e1:decide ((l.getD i z'J).op≤4)=true:=decide_eq_true (by omega)
   rw[show mdF l lv (f+1) i=[lv.getD i (0,0,0)] by rw[mdF,if_pos (by omega)]]
   repeat' first|refine mq1 (mqt6 @y's @nodR.eq_1 @y'q @z'b @w64 @e1) ?_|refine mqn fun bq hbq=>?_|refine .wk ?_ ?_;focus(try omega)|fail
   refine z'r T (z'a _) ?_
   have hlt:i<lv.length:=by omega
   have hrow:List.drop i (List.take ((i:Int)+1).toNat (x'J lv))=x'J [lv.getD i (0,0,0)]:=by
    rw[Ztj,x'J,List.map_take.symm,List.map_drop.symm,Zae (0,0,0) hlt,List.drop_append_of_le_length (by rw[z'T];omega),x'Y (by rw[z'T];omega)]
    rfl
   show Fz [] (y'0 [lv.getD i (0,0,0)]) (.sl false 3 _)
   rw[hrow]
   exact Fz.refl _ _
  ·have h3:=hn1 (z'c _)
   have e1:decide ((l.getD i z'J).op≤4)=false:=decide_eq_false (by omega)
   have e2:((l.getD i z'J).op != 5)=false:=bne_eq_false_iff_eq.2 q
   have c1:=ih (i+1) _ (by omega) h3
   rw[show((i+1:Nat):Int)=(i:Int)+1 by omega]at c1
   rw[show mdF l lv (f+1) i=mdF l lv f (i+1)++[((l.getD i z'J).op,0,0)] by rw[mdF,if_neg (by omega),if_pos q]]
   have hm:=Zac l lv f (i+1) _ (by omega) h3
   repeat' first|refine mq2 (mqt7 @y's @nodR.eq_1 @y'q @z'b @w64 @e1 @e2) c1 ?_|refine mqn fun bq hbq=>?_|refine .wk ?_ ?_;focus(try omega)|refine vs T rfl fun K hK=>?_;(try simp (disch:=omega) only[go_sem,Nat.reduceBEq,Nat.reduceAdd,Nat.reduceMul,Nat.reduceLeDiff,y's,nodR,y'q,z'b,w64,e1,e2]);(first|refine⟨_,_,_,_,(by repeat (first|exact Sp.here|apply Sp.cons|exact Sp.nil)),?_,(by exact⟨rfl,rfl⟩),?_,fun g' hg'=>hK _ _ ?_⟩<;>clear hK K)|fail
   ·rfl
   ·omega
   ·rw[x'J,w'e (f:=opR) (n:=3) (fun _=>rfl)]
   ·omega
   ·refine z'r T (H':=shp g' 90 3 (x'J (mdF l lv f (i+1)++[((l.getD i z'J).op,0,0)])).flatten []) ?_ (Znr (n:=(mdF l lv f (i+1)).length+1) hg' (by rw[y'q,z'e];rfl) (w'S (f:=opR) (fun _=>rfl) _))
    rw[x'J,w'u]
    exact z'I _ _
  ·have h3:=hn1 (by omega)
   obtain⟨k1,k2,q1,q2,q3⟩:=v'V (z'c 1) (z'c 1) h3
   rw[y'6]at q2
   have e1:decide ((l.getD i z'J).op≤4)=false:=decide_eq_false (by omega)
   have e2:((l.getD i z'J).op != 5)=true:=bne_iff_ne.2 (by omega)
   have c1:=ih (i+1) _ (by omega) q1
   have c2:=ih (i+1+k1) _ (by omega) q2
   have c3:=ZjF l (by omega) ((i+1:Nat):Int)
   rw[ZeP q1]at c3
   rw[show((i+1:Nat):Int)=(i:Int)+1 by omega]at c1 c3
   rw[show mdF l lv (f+1) i=mdF l lv f (i+1)++(mdF l lv f (i+1+k1)++[((l.getD i z'J).op,0,0)]) by rw[mdF,if_neg (by omega),if_neg (by omega),q1];rfl]
   have hm:=Zac l lv f (i+1) _ (by omega) q1
   have hm2:=Zac l lv f (i+1+k1) _ (by omega) q2
   repeat' first|refine mq2 (mqt7 @y's @nodR.eq_1 @y'q @z'b @w64 @e1 @e2) (mqt3 c1 c2 c3) ?_|refine mqn fun bq hbq=>?_|refine .wk ?_ ?_;focus(try omega)|refine vs T rfl fun K hK=>?_;(try simp (disch:=omega) only[go_sem,Nat.reduceBEq,Nat.reduceAdd,Nat.reduceMul,Nat.reduceLeDiff,y's,nodR,y'q,z'b,w64,e1,e2]);(first|refine⟨_,_,_,_,(by repeat (first|exact Sp.here|apply Sp.cons|exact Sp.nil)),?_,(by exact⟨rfl,rfl⟩),?_,fun g' hg'=>hK _ _ ?_⟩<;>clear hK K)|fail
   ·rfl
   ·omega
   ·rw[x'J,w'e (f:=opR) (n:=3) (fun _=>rfl)]
   ·omega
   ·rw[z'e,x'J,x'J,w'e (f:=opR) (n:=3) (fun _=>rfl),w'e (f:=opR) (n:=3) (fun _=>rfl)];omega
   ·omega
   ·refine z'r T (H':=shp g' 90 3 (x'J (mdF l lv f (i+1)++(mdF l lv f (i+1+k1)++[((l.getD i z'J).op,0,0)]))).flatten []) ?_ (Znr (n:=(mdF l lv f (i+1)).length+(mdF l lv f (i+1+k1)).length+1) hg' (by rw[y'q,z'e,z'e];simp;omega) (w'S (f:=opR) (fun _=>rfl) _))
    rw[←List.append_assoc,x'J,w'u,z'A,List.flatten_append]
    exact z'I _ _
def lvK (lf:Nod→Option Opc) (l:List Nod) (k:Nat):List Opc:=(l.take k).map (fun x=>(lf x).getD (0,0,0))++List.replicate (l.length-k) (0,0,0)
theorem Zrs (lf:Nod→Option Opc) (l:List Nod) {k:Nat} (h:k≤l.length):(lvK lf l k).length=l.length:=by
 simp[lvK];omega
theorem Zrr (lf:Nod→Option Opc) (l:List Nod):lvK lf l l.length=l.map fun x=>(lf x).getD (0,0,0):=by simp[lvK]
theorem ZpJ (lf:Nod→Option Opc) {l:List Nod} {k:Nat} (h:k<l.length):lvK lf l (k+1)=(lvK lf l k).set k ((lf (l.getD k z'J)).getD (0,0,0)):=by
 unfold lvK
 have h1:((l.take k).map fun x=>(lf x).getD (0,0,0)).length=k:=by rw[z'i,z'T];omega
 rw[Zae z'J h,z'A,z'M,List.set_append_right _ _ (by omega),h1,Nat.sub_self,show l.length-k=(l.length-(k+1))+1 by omega,x's]
 rfl
theorem ZpK (lf:Nod→Option Opc) {l:List Nod} {k:Nat} (h:k<l.length):(lvK lf l k).set k (0,0,0)=lvK lf l k:=by
 unfold lvK
 have h1:((l.take k).map fun x=>(lf x).getD (0,0,0)).length=k:=by rw[z'i,z'T];omega
 rw[List.set_append_right _ _ (by omega),h1,Nat.sub_self,show l.length-k=(l.length-(k+1))+1 by omega,x's]
 rfl
theorem Zm7: ∀(o:List Opc) (k:Nat) (a b c:Int),k<o.length→((((x'J o).flatten.set (k*3) (iD a)).set (k*3+1) (iD b)).set (k*3+1+1) (iD c))=(x'J (o.set k (a,b,c))).flatten
 |[],k,_,_,_,h=>by simp at h
 |x::o,0,a,b,c,_=>rfl
 |x::o,k+1,a,b,c,h=>by
  have ih:=Zm7 o k a b c (by simpa using h)
  rw[show(k+1)*3=k*3+3 by omega]
  show iD x.1::iD x.2.1::iD x.2.2::((((x'J o).flatten.set (k*3) (iD a)).set (k*3+1) (iD b)).set (k*3+1+1) (iD c))=_
  rw[ih];rfl
theorem at3: ∀(o:List Opc) (k:Nat),k<o.length→(x'J o).flatten[k*3+1]?=some (iD (o.getD k (0,0,0)).2.1)
 |[],k,h=>by simp at h
 |x::o,0,_=>rfl
 |x::o,k+1,h=>by
  have ih:=at3 o k (by simpa using h)
  rw[show(k+1)*3+1=(k*3+1)+3 by omega]
  show(x'J o).flatten[k*3+1]?=_
  rw[ih];simp
theorem ZhI (l:List Nod) (hl:l.length≤1000) (regs:List ByteArray) (hr:regs.length≤1000):Pure Tryz.prog 169 [y'4 l,x't regs] (.tup [y'0 (mkE (lfT regs) l).1,bD (mkE (lfT regs) l).2]):=by
 have c1:=Zmu l hl
 refine Fun.fz ?_
 refine Fun.of T [.tmp 4,.tmp 5] Tryz.func169 rfl Tryz.ntmps169 Tryz.results169 rfl (by kernel_rfl) ?_
 cases hE:exB l with
 |false=>
  rw[hE]at c1
  rw[show mkE (lfT regs) l=([],false) by unfold mkE;rw[if_neg];rw[hE];simp]
  repeat' first|refine mq3 c1 ?_|fail
  exact x'n T (z'a _) ⟨_,rfl,y'f x'I (FzL.refl _ _)⟩
 |true=>
  rw[hE]at c1
  obtain⟨k0,hk0⟩: ∃k,y'5 (l.drop 0) 1=some k:=by
   simp only[exB,z'd,decide_eq_true_eq]at hE
   have h2:=hE.2.2.1
   rw[show(0:Int)=((0:Nat):Int) from rfl,ZdG,v'y]at h2
   cases hq:y'5 (l.drop 0) 1 with
   |none=>rw[hq]at h2;exact absurd h2 (by dsimp only;omega)
   |some k=>exact⟨k,rfl⟩
  repeat' first|refine mq2 (mqt2 @z'Z @z'b) c1 ?_|refine vs T rfl fun K hK=>?_;(try simp (disch:=omega) only[go_sem,Nat.reduceBEq,z'H,z'Z,z'b]);(first|refine⟨?_,fun bq hbq=>?_⟩;rotate_left;(try simp only[HB]at hbq);refine hK _ _ ?_;all_goals clear hK K)|fail
  rotate_left
  ·exact⟨by omega,by omega,by omega⟩
  have hz:Zbt l.length [Value.int IntKind.i64 0,Value.int IntKind.i64 0,Value.int IntKind.i64 0]=(x'J (lvK (lfT regs) l 0)).flatten:=by
   unfold lvK Zbt
   rw[w'E,y'a,y'h,Nat.sub_zero,x'J,List.map_replicate]
   rfl
  rw[hz]
  refine VC.loop {k:Nat//k≤l.length∧ ∀i,i<k→(lfT regs (l.getD i z'J)).isSome=true} (fun p=>⟨z'0 [(0,y'4 l),(1,x't regs),(6,.gs (some (bq,l.length)) l.length),(7,iD (p.1:Nat))],[(bq,.cells 90 (l.length*3) (x'J (lvK (lfT regs) l p.1)).flatten)]⟩) (fun p=>l.length-p.1) ⟨0,z'm _,fun i hi=>by omega⟩ ?_ ?_
  ·refine z'O rfl ?_
   simp[sub,upd]
  rintro⟨k,hk,hs⟩
  dsimp only at hk hs⊢
  rcases z'g k l.length with hlt|hge
  case inr=>
   obtain rfl:k=l.length:=by omega
   have e1:decide ((l.length:Int)<(l.length:Int))=false:=decide_eq_false (by omega)
   rw[Zrr]
   have hM:mkE (lfT regs) l=(mdF l (l.map fun x=>(lfT regs x).getD (0,0,0)) l.length 0,true):=by
    unfold mkE
    rw[if_pos ⟨hE,x'X (d:=z'J) hge hs⟩]
   have c2:=ZpM l hl (l.map fun x=>(lfT regs x).getD (0,0,0)) (z'i ..) l.length 0 k0 (Nat.sub_le _ _) hk0
   rw[hM]
   refine VC.weak (Weak.fzs (t:=6) (g:=some (bq,l.length)) (e:=90) (esz:=3) (rows:=x'J (l.map fun x=>(lfT regs x).getD (0,0,0))) (X:=[]) (y't _) (by rw[y'q,z'i];rfl) (w'S (f:=opR) (fun _=>rfl) _)) ?_
   repeat' first|refine mq2 (mqt2 @z'Z @e1) c2 ?_|fail
   exact x'n T (z'a _) (Fz.refl _ _)
  have e1:decide ((k:Int)<(l.length:Int))=true:=decide_eq_true (by omega)
  have c2:=x'7 regs (by omega) (l.getD k z'J).nm
  have hK:=Zrs (lfT regs) l hk
  have hks:k<(lvK (lfT regs) l k).length:=by omega
  have hld:((((x'J (lvK (lfT regs) l k)).flatten.set (k*3) (iD 2)).set (k*3+1) (iD (ixF regs (l.getD k z'J).nm))).set (k*3+1+1) (iD 0))[k*3+1]?=some (iD (ixF regs (l.getD k z'J).nm)):=by
   rw[Zm7 _ _ _ _ _ hks,at3 _ _ (by rw[x'6];exact hks)]
   rw[w'3 (x:=(2,ixF regs (l.getD k z'J).nm,0)) (by rw[List.getElem?_set_self hks])]
  have hno:(lfT regs (l.getD k z'J)).isSome=false→mkE (lfT regs) l=([],false):=fun h=>by
   unfold mkE
   rw[if_neg]
   rw[w'd (p:=fun x=>(lfT regs x).isSome) (d:=z'J) hlt h]
   simp
  have hst:=ZpJ (lfT regs) hlt
  have hzr:=ZpK (lfT regs) hlt
  have hfl:(x'J (lvK (lfT regs) l k)).flatten.length=l.length*3:=by rw[x'J,w'e (f:=opR) (n:=3) (fun _=>rfl),hK]
  repeat' first|refine mq2 (mqt7 @y's @z'Z @nodR.eq_1 @w64 @z'b @e1 @hld) c2 ?_|refine .wk ?_ ?_;focus(try omega)|with_reducible refine z'j (fun hc=>?_) (fun hc=>?_)<;>(try simp only[decide_eq_true_eq,decide_eq_false_iff_not,beq_iff_eq,beq_eq_false_iff_ne,ne_eq,z'x]at hc)<;>(try(exfalso;omega))|fail
  ·have hv:lfT regs (l.getD k z'J)=some (1,(l.getD k z'J).n,0):=by rw[lfT,if_pos hc]
   refine⟨⟨k+1,by omega,y'r hs (by rw[hv];rfl)⟩,z'O (by dsimp only;rw[hst,hv,z'B, ←Zm7 _ _ _ _ _ hks]) ?_,by dsimp only;omega⟩
   simp[sub,upd]
  ·rw[hno (by rw[lfT,if_neg (by omega),if_pos (by omega),if_pos hc];rfl)]
   exact x'n T (z'a _) ⟨_,rfl,y'f x'I (FzL.refl _ _)⟩
  ·have hv:lfT regs (l.getD k z'J)=some (2,ixF regs (l.getD k z'J).nm,0):=by rw[lfT,if_neg (by omega),if_pos (by omega),if_neg (by omega)]
   refine⟨⟨k+1,by omega,y'r hs (by rw[hv];rfl)⟩,z'O (by dsimp only;rw[hst,hv,z'B, ←Zm7 _ _ _ _ _ hks]) ?_,by dsimp only;omega⟩
   simp[sub,upd]
  ·rw[hno (by rw[lfT,if_neg (by omega),if_neg (by omega),if_pos (by omega)];rfl)]
   exact x'n T (z'a _) ⟨_,rfl,y'f x'I (FzL.refl _ _)⟩
  ·rw[hno (by rw[lfT,if_neg (by omega),if_neg (by omega),if_pos (by omega)];rfl)]
   exact x'n T (z'a _) ⟨_,rfl,y'f x'I (FzL.refl _ _)⟩
  ·have hv:lfT regs (l.getD k z'J)=some (0,0,0):=by rw[lfT,if_neg (by omega),if_neg (by omega),if_neg (by omega)]
   refine⟨⟨k+1,by omega,y'r hs (by rw[hv];rfl)⟩,z'O (by dsimp only;rw[hst,hv,z'B,hzr]) ?_,by dsimp only;omega⟩
   simp[sub,upd]
theorem x'L {l:List Sm} {a b:Nat} (h:b≤a):szF l a b=0:=by unfold szF;rw[show b-a=0 by omega];rfl
theorem x'5 {l:List Sm} {a k:Nat} (h:a≤k):szF l a (k+1)=szF l a k+sz1 (l.getD k sm0):=by
 unfold szF
 rw[show k+1-a=(k-a)+1 by omega,List.range'_concat,z'A,List.sum_append,Nat.one_mul,show a+(k-a)=k by omega]
 simp
theorem Ztg (x:Sm):sz1 x≤2:=by unfold sz1;split<;>(try split)<;>(try split)<;>omega
theorem ZdX (l:List Sm) (a:Nat): ∀n,szF l a (a+n)≤2*n
 |0=>by rw[x'L (by omega)];omega
 |n+1=>by
  have:=ZdX l a n
  have:=Ztg (l.getD (a+n) sm0)
  rw[←Nat.add_assoc,x'5 (by omega)];omega
theorem ZkT (l:List Sm) (hl:l.length≤1000) (a b:Nat) (hb:b≤l.length):Pure Tryz.prog 170 [x'E l,iD (a:Nat),iD (b:Nat)] (iD (szF l a b:Nat)):=by
 refine Fun.of T [.tmp 6] Tryz.func170 rfl Tryz.ntmps170 Tryz.results170 rfl (by kernel_rfl) ?_
 repeat' first|refine mq0 ?_|fail
 refine VC.loop {k:Nat//a≤k∧(k≤b∨k=a)} (fun p=>⟨z'0 [(0,x'E l),(2,iD (b:Nat)),(7,iD (szF l a p.1:Nat)),(8,iD (p.1:Nat))],[]⟩) (fun p=>b-p.1) ⟨a,z'c _,.inr rfl⟩ ?_ ?_
 ·refine Weak.sub ?_
  simp[sub,upd,x'L]
 rintro⟨k,hk,hkb⟩
 dsimp only at hk hkb⊢
 rcases z'g k b with hlt|hge
 case inr=>
  have e1:decide ((k:Int)<(b:Int))=false:=decide_eq_false (by omega)
  have:szF l a k=szF l a b:=by
   rcases hkb with h|rfl
   ·rw[show k=b by omega]
   ·rw[x'L (z'c _),x'L hge]
  rw[this]
  repeat' first|refine mq1 @e1 ?_|exact z'r T (z'a _) ⟨rfl,rfl⟩|fail
 have e1:decide ((k:Int)<(b:Int))=true:=decide_eq_true (by omega)
 have hS:=x'5 (l:=l) hk
 have hB:=ZdX l a (k-a)
 rw[show a+(k-a)=k by omega]at hB
 repeat' first|refine mq1 (mqt5 @y'M @smR.eq_1 @w64 @z'b @e1) ?_|refine .wk ?_ ?_;focus(try omega)|with_reducible refine z'j (fun hc=>?_) (fun hc=>?_)<;>(try simp only[decide_eq_true_eq,decide_eq_false_iff_not,beq_iff_eq,beq_eq_false_iff_ne,ne_eq,gt_iff_lt,z'x]at hc)|fail
 ·have hv:sz1 (l.getD k sm0)=0:=by rw[sz1,if_pos hc]
  rw[hv]at hS
  refine⟨⟨k+1,by omega,by omega⟩,Weak.sub ?_,by dsimp only;omega⟩
  simp[sub,upd,hS, -List.getD_eq_getElem?_getD]
 ·have hv:sz1 (l.getD k sm0)=2:=by rw[sz1,if_neg (by omega),if_pos (by omega),if_pos hc]
  rw[hv]at hS
  refine⟨⟨k+1,by omega,by omega⟩,Weak.sub ?_,by dsimp only;omega⟩
  simp[sub,upd,hS, -List.getD_eq_getElem?_getD]
  omega
 ·have hv:sz1 (l.getD k sm0)=1:=by rw[sz1,if_neg (by omega),if_pos (by omega),if_neg (by omega)]
  rw[hv]at hS
  refine⟨⟨k+1,by omega,by omega⟩,Weak.sub ?_,by dsimp only;omega⟩
  simp[sub,upd,hS, -List.getD_eq_getElem?_getD]
 ·have hv:sz1 (l.getD k sm0)=2:=by rw[sz1,if_neg (by omega),if_neg (by omega),if_pos hc]
  rw[hv]at hS
  refine⟨⟨k+1,by omega,by omega⟩,Weak.sub ?_,by dsimp only;omega⟩
  simp[sub,upd,hS, -List.getD_eq_getElem?_getD]
 ·have hv:sz1 (l.getD k sm0)=1:=by rw[sz1,if_neg (by omega),if_neg (by omega),if_neg (by omega)]
  rw[hv]at hS
  refine⟨⟨k+1,by omega,by omega⟩,Weak.sub ?_,by dsimp only;omega⟩
  simp[sub,upd,hS, -List.getD_eq_getElem?_getD]
theorem Zmg {l:List Sm} {a m:Nat} (h:a≤m): ∀n,szF l a (m+n)=szF l a m+szF l m (m+n)
 |0=>by rw[x'W,x'L (z'c m)];rfl
 |n+1=>by rw[←Nat.add_assoc,x'5 (by omega),x'5 (by omega),Zmg h n];omega
theorem x'v {l:List Sm} {a m b:Nat} (h:a≤m) (h2:m≤b):szF l a b=szF l a m+szF l m b:=by
 have:=Zmg (l:=l) h (b-m)
 rwa [show m+(b-m)=b by omega]at this
theorem ZiV {g g':Nat→Nat→Nat→Int→List Ins} {l:List Sm} {regs locs:List ByteArray} {a h:Nat} {out:Int} (h1: ∀h o,g (a+1) (mdS (l.getD a sm0) a) h o=g' (a+1) (mdS (l.getD a sm0) a) h o)
  (h2: ∀h o,g (mdS (l.getD a sm0) a) (eeS (l.getD a sm0) a) h o=g' (mdS (l.getD a sm0) a) (eeS (l.getD a sm0) a) h o):rw1 g l regs locs a h out=rw1 g' l regs locs a h out:=by
 unfold rw1
 simp only[h1,h2]
theorem ZbJ (l:List Sm) (regs locs:List ByteArray): ∀(f f' a b h:Nat) (out:Int),b-a≤f→b-a≤f'→wh l a b=true→rwF l regs locs f a b h out=rwF l regs locs f' a b h out
 |0,0,_,_,_,_,_,_,_=>rfl
 |0,f'+1,a,b,h,out,h1,_,_=>by simp[rwF,show b≤a by omega]
 |f+1,0,a,b,h,out,_,h2,_=>by simp[rwF,show b≤a by omega]
 |f+1,f'+1,a,b,h,out,h1,h2,hw=>by
  unfold rwF
  by_cases hb:b≤a
  ·rw[if_pos hb,if_pos hb]
  rw[if_neg hb,if_neg hb]
  obtain⟨q1,q2,q3,q4⟩:=v'l (show a<b by omega) hw
  have e1:mdS (l.getD a sm0) a=a+1+(l.getD a sm0).body.toNat:=rfl
  have e2:eeS (l.getD a sm0) a=a+1+(l.getD a sm0).body.toNat+(l.getD a sm0).els.toNat:=rfl
  have hc: ∀h,rw1 (rwF l regs locs f) l regs locs a h out=rw1 (rwF l regs locs f') l regs locs a h out:=fun h=>
   ZiV (fun h o=>ZbJ l regs locs f f' _ _ h o (by omega) (by omega) q2) (fun h o=>ZbJ l regs locs f f' _ _ h o (by omega) (by omega) q3)
  rw[hc,ZbJ l regs locs f f' (eeS (l.getD a sm0) a) b _ out (by omega) (by omega) q4]
def rwA (l:List Sm) (regs locs:List ByteArray) (a b h:Nat) (out:Int):List Ins:=rwF l regs locs (b-a) a b h out
theorem v'N {l:List Sm} {regs locs:List ByteArray} {a b h:Nat} {out:Int} (hb:b≤a):rwA l regs locs a b h out=[]:=by
 unfold rwA;rw[show b-a=0 by omega];rfl
theorem ZbI {l:List Sm} {regs locs:List ByteArray} {a b h:Nat} {out:Int} (hb:a<b) (hw:wh l a b=true):
  rwA l regs locs a b h out=rw1 (rwA l regs locs) l regs locs a h out++rwA l regs locs (eeS (l.getD a sm0) a) b (h+(rw1 (rwA l regs locs) l regs locs a h out).length) out:=by
 obtain⟨q1,q2,q3,q4⟩:=v'l hb hw
 have e1:mdS (l.getD a sm0) a=a+1+(l.getD a sm0).body.toNat:=rfl
 have e2:eeS (l.getD a sm0) a=a+1+(l.getD a sm0).body.toNat+(l.getD a sm0).els.toNat:=rfl
 have hc:rw1 (rwF l regs locs (b-a-1)) l regs locs a h out=rw1 (rwA l regs locs) l regs locs a h out:=
  ZiV (fun h o=>ZbJ l regs locs _ _ _ _ h o (by omega) (z'c _) q2) (fun h o=>ZbJ l regs locs _ _ _ _ h o (by omega) (z'c _) q3)
 have:rwA l regs locs a b h out=rwF l regs locs ((b-a-1)+1) a b h out:=by unfold rwA;rw[show b-a-1+1=b-a by omega]
 rw[this,rwF,if_neg (by omega),hc,ZbJ l regs locs (b-a-1) (b-eeS (l.getD a sm0) a) _ b _ out (by omega) (z'c _) q4]
 rfl
theorem ZdW {g:Nat→Nat→Nat→Int→List Ins} {l:List Sm} {regs locs:List ByteArray} {a h:Nat} {out:Int} (h0:Zah (l.getD a sm0).kind=false→(l.getD a sm0).body=0∧(l.getD a sm0).els=0) (h00:(l.getD a sm0).kind≠10→(l.getD a sm0).els=0) (hb:0≤(l.getD a sm0).els)
  (h1: ∀h o,(g (a+1) (mdS (l.getD a sm0) a) h o).length=szF l (a+1) (mdS (l.getD a sm0) a))
  (h2: ∀h o,(g (mdS (l.getD a sm0) a) (eeS (l.getD a sm0) a) h o).length=szF l (mdS (l.getD a sm0) a) (eeS (l.getD a sm0) a)):(rw1 g l regs locs a h out).length=szF l a (eeS (l.getD a sm0) a):=by
 have e1:mdS (l.getD a sm0) a=a+1+(l.getD a sm0).body.toNat:=rfl
 have e2:eeS (l.getD a sm0) a=a+1+(l.getD a sm0).body.toNat+(l.getD a sm0).els.toNat:=rfl
 have hs:szF l a (eeS (l.getD a sm0) a)=sz1 (l.getD a sm0)+(szF l (a+1) (mdS (l.getD a sm0) a)+szF l (mdS (l.getD a sm0) a) (eeS (l.getD a sm0) a)):=by
  rw[x'v (m:=a+1) (by omega) (by omega),x'v (a:=a+1) (m:=mdS (l.getD a sm0) a) (by omega) (by omega),x'5 (z'c a),x'L (z'c a),z'5]
 have hn:=fun(q:(l.getD a sm0).els=0)=>show szF l (mdS (l.getD a sm0) a) (eeS (l.getD a sm0) a)=0 from x'L (by omega)
 have hm:=fun(q:(l.getD a sm0).body=0)=>show szF l (a+1) (mdS (l.getD a sm0) a)=0 from x'L (by omega)
 rw[hs]
 unfold rw1 sz1
 by_cases k1:(l.getD a sm0).kind=1
 ·have:=h0 (by rw[Zah,decide_eq_false (by omega),decide_eq_false (by omega),decide_eq_false (by omega)];rfl)
  rw[if_pos k1,if_pos k1,hn this.2,hm this.1];rfl
 rw[if_neg k1,if_neg k1]
 by_cases k13:(l.getD a sm0).kind=13
 ·have:=h0 (by rw[Zah,decide_eq_false (by omega),decide_eq_false (by omega),decide_eq_false (by omega)];rfl)
  rw[if_pos k13,if_neg (by omega),if_neg (by omega),hn this.2,hm this.1];rfl
 rw[if_neg k13]
 by_cases k10:(l.getD a sm0).kind=10
 ·rw[if_pos k10,if_pos k10]
  by_cases hz:(l.getD a sm0).els=0
  ·rw[if_pos hz,if_neg (by omega),hn hz,z'q,h1];omega
  ·rw[if_neg hz,if_pos (by omega),z'e,z'q,z'q,h1,h2];omega
 rw[if_neg k10,if_neg k10]
 have hz:=h00 k10
 by_cases k11:(l.getD a sm0).kind=11
 ·rw[if_pos k11,if_pos k11,hn hz,z'q,z'e,h1];simp;omega
 rw[if_neg k11,if_neg k11]
 by_cases k12:(l.getD a sm0).kind=12
 ·rw[if_pos k12,hn hz,z'e,h1];simp;omega
 ·have:=h0 (by rw[Zah,decide_eq_false k10,decide_eq_false k11,decide_eq_false k12];rfl)
  rw[if_neg k12,hn hz,hm this.1];rfl
def NoB (l:List Sm):Prop:= ∀x,x∈l→(Zah x.kind=false→x.body=0∧x.els=0)∧(x.kind≠10→x.els=0)
theorem x'q (l:List Sm) (regs locs:List ByteArray) (hN:NoB l): ∀(n a b h:Nat) (out:Int),b-a≤n→b≤l.length→wh l a b=true→(rwA l regs locs a b h out).length=szF l a b
 |0,a,b,h,out,h1,_,_=>by rw[v'N (by omega),x'L (by omega)];rfl
 |n+1,a,b,h,out,h1,hl,hw=>by
  rcases z'g a b with hb|hb
  case inr=>rw[v'N hb,x'L hb];rfl
  obtain⟨q1,q2,q3,q4⟩:=v'l hb hw
  have e1:mdS (l.getD a sm0) a=a+1+(l.getD a sm0).body.toNat:=rfl
  have e2:eeS (l.getD a sm0) a=a+1+(l.getD a sm0).body.toNat+(l.getD a sm0).els.toNat:=rfl
  have hx:=hN _ (z'8 (d:=sm0) (show a<l.length by omega))
  rw[ZbI hb hw,z'e,ZdW hx.1 hx.2 q1.2.1 (fun h o=>x'q l regs locs hN n _ _ h o (by omega) (by omega) q2) (fun h o=>x'q l regs locs hN n _ _ h o (by omega) (by omega) q3),
   x'q l regs locs hN n _ _ _ out (by omega) hl q4,x'v (a:=a) (m:=eeS (l.getD a sm0) a) (b:=b) (by omega) (by omega)]
theorem Zhq {l:List Sm} (h:l.all x'0=true):NoB l:=fun x hx=>by
 have h1:=z'l.1 h x hx
 unfold x'0 at h1
 split at h1
 ·cases h1
 ·rename_i p hp
  simp only[z'd,z'1,decide_eq_true_eq]at h1
  have hB:=h1.2.2.2.2.2.2.2.2.1
  have hX:=h1.2.2.2.2.2.2.2.2.2
  have key: ∀k:Int,w'q k=some p→(z'S p 98=true→Zah k=true)∧(z'S p 120=true→k=10):=by
   intro k hk
   unfold w'q at hk
   by_cases k10:k=10
   ·subst k10;exact⟨fun _=>rfl,fun _=>rfl⟩
   by_cases k11:k=11
   ·subst k11
    refine⟨fun _=>rfl,?_⟩
    simp at hk;subst hk;decide
   by_cases k12:k=12
   ·subst k12
    refine⟨fun _=>rfl,?_⟩
    simp at hk;subst hk;decide
   have:z'S p 98=false∧z'S p 120=false:=by
    rw[if_neg k10,if_neg k11,if_neg k12]at hk
    by_cases j1:k=1
    ·rw[if_pos j1]at hk;cases hk;decide
    rw[if_neg j1]at hk
    by_cases j2:k=2
    ·rw[if_pos j2]at hk;cases hk;decide
    rw[if_neg j2]at hk
    by_cases j3:k=3
    ·rw[if_pos j3]at hk;cases hk;decide
    rw[if_neg j3]at hk
    by_cases j4:k=4
    ·rw[if_pos j4]at hk;cases hk;decide
    rw[if_neg j4]at hk
    by_cases j5:k=5
    ·rw[if_pos j5]at hk;cases hk;decide
    rw[if_neg j5]at hk
    by_cases j6:k=6
    ·rw[if_pos j6]at hk;cases hk;decide
    rw[if_neg j6]at hk
    by_cases j7:k=7
    ·rw[if_pos j7]at hk;cases hk;decide
    rw[if_neg j7]at hk
    by_cases j8:k=8
    ·rw[if_pos j8]at hk;cases hk;decide
    rw[if_neg j8]at hk
    by_cases j9:k=9
    ·rw[if_pos j9]at hk;cases hk;decide
    rw[if_neg j9]at hk
    by_cases j13:k=13
    ·rw[if_pos j13]at hk;cases hk;decide
    rw[if_neg j13]at hk
    cases hk
   rw[this.1,this.2]
   exact⟨fun h=>(by cases h),fun h=>(by cases h)⟩
  obtain⟨k1,k2⟩:=key _ hp
  refine⟨fun q=>⟨?_,?_⟩,fun q=>?_⟩
  ·rcases hB with h|h
   ·rw[k1 h]at q;cases q
   ·exact h
  ·rcases hX with h|h
   ·rw[k2 h]at q;cases q
   ·exact h
  ·rcases hX with h|h
   ·exact absurd (k2 h) q
   ·exact h
def NoR (l:List Sm):Prop:= ∀x,x∈l→(x.kind=1∨x.kind=10∨x.kind=11∨x.kind=12∨x.kind=13)→isE x.reg=true∧isE x.loc=true
theorem ZsI {l:List Sm} (h:l.all x'0=true):NoR l:=fun x hx hk=>by
 have h1:=z'l.1 h x hx
 unfold x'0 at h1
 split at h1
 ·cases h1
 ·rename_i p hp
  simp only[z'd,z'1]at h1
  have hR:=h1.2.2.1
  have hL:=h1.2.2.2.2.1
  have:z'S p 114=false∧z'S p 108=false:=by
   rcases hk with h|h|h|h|h<;>(rw[h]at hp;simp[w'q]at hp;subst hp;decide)
  rw[this.1]at hR
  rw[this.2]at hL
  exact⟨hR.resolve_left Bool.false_ne_true,hL.resolve_left Bool.false_ne_true⟩
theorem Zlj {H:Heap}: ∀(r l m:List D),FzC H r l→FzC H r (l++m)
 |[],_,_,_=>trivial
 |d::ds,l,m,h=>by
  obtain⟨e,es,rfl,h1,h2⟩:=h
  exact⟨e,es++m,rfl,h1,Zlj ds es m h2⟩
theorem Zlk {H:Heap} {esz:Nat}: ∀(a b:List (List D)) (A B:List D),FzR H esz a A→A.length=a.length*esz→FzR H esz b B→FzR H esz (a++b) (A++B)
 |[],b,A,B,_,hl,hb=>by
  have:A=[]:=z'3 (by simpa using hl)
  subst this;exact hb
 |r::a,b,A,B,ha,hl,hb=>by
  obtain⟨h1,h2,h3⟩:=ha
  rw[z'q,x'i,Nat.one_mul]at hl
  refine⟨h1,Zlj r A B h2,?_⟩
  rw[List.drop_append_of_le_length (by omega)]
  exact Zlk a b _ B h3 (by rw[x'b];omega) hb
theorem Zn6 (l:List Ins): ∀r,r∈y'Y l→r.length=7:=w'S (f:=insR) (fun _=>rfl) l
def InsR (r:List Ins) (R:List D):Prop:=FzR [] 7 (y'Y r) R∧R.length=r.length*7
theorem InsR.nil:InsR [] []:=⟨trivial,rfl⟩
theorem InsR.app {a b:List Ins} {A B:List D} (ha:InsR a A) (hb:InsR b B):InsR (a++b) (A++B):=
 ⟨by rw[y'Y,z'A];exact Zlk _ _ _ _ ha.1 (by rw[ha.2,z'i]) hb.1,by rw[z'e,z'e,ha.2,hb.2,x'i]⟩
theorem InsR.all (l:List Ins):InsR l (y'Y l).flatten:=⟨FzR.refl [] (y'Y l) (Zn6 l),by rw[y'Y,w'e (f:=insR) (n:=7) (fun _=>rfl)]⟩
theorem InsR.one {x:Ins} {c:List D} (h:FzC [] (insR x) c) (hl:c.length=7):InsR [x] c:=⟨⟨rfl,h,trivial⟩,by rw[hl];rfl⟩
theorem InsR.jp (n:Int):InsR [jpI n] [iD 20,iD 0,iD 0,.gs none 0,.gs none 0,bD false,iD n]:=
 InsR.one ⟨_,_,rfl,Fz.refl _ _,_,_,rfl,Fz.refl _ _,_,_,rfl,Fz.refl _ _,_,_,rfl,x'I,_,_,rfl,x'I,_,_,rfl,Fz.refl _ _,_,_,rfl,Fz.refl _ _,trivial⟩ rfl
theorem InsR.br (e:List Opc) (n:Int):InsR [brI e n] [iD 21,iD 0,iD 0,y'0 e,.gs none 0,bD false,iD n]:=
 InsR.one ⟨_,_,rfl,Fz.refl _ _,_,_,rfl,Fz.refl _ _,_,_,rfl,Fz.refl _ _,_,_,rfl,Fz.refl _ _,_,_,rfl,x'I,_,_,rfl,Fz.refl _ _,_,_,rfl,Fz.refl _ _,trivial⟩ rfl
theorem InsR.dn:InsR [⟨22,0,0,[],[],false,0⟩] [iD 22,iD 0,iD 0,.gs none 0,.gs none 0,bD false,iD 0]:=
 InsR.one ⟨_,_,rfl,Fz.refl _ _,_,_,rfl,Fz.refl _ _,_,_,rfl,Fz.refl _ _,_,_,rfl,x'I,_,_,rfl,x'I,_,_,rfl,Fz.refl _ _,_,_,rfl,Fz.refl _ _,trivial⟩ rfl
theorem InsR.pl (x:Ins):InsR [x] (insR x):=InsR.one (FzC.refl [] (insR x) []) rfl
end Go.Proofs.YthlkpnjjkgmlkaaGreat
