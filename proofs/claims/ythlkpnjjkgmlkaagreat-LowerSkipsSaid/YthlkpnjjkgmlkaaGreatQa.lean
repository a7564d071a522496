/- Plain law: what is made of a well-formed program is right. No condition. -/
import Derived.Test.YthlkpnjjkgmlkaaGreatLq
import Derived.Test.YthlkpnjjkgmlkaaGreatLc
import Derived.Test.YthlkpnjjkgmlkaaGreatYi
import Derived.Test.YthlkpnjjkgmlkaaGreatNv
import Derived.Test.YthlkpnjjkgmlkaaGreatNy
namespace Go.Proofs.YthlkpnjjkgmlkaaGreat
set_option linter.unusedSimpArgs false
set_option linter.unusedVariables false
set_option maxRecDepth 20000
open Go Go.Proofs Go.Vc
theorem ZsH {k:Int} (h1:2≤k) (h2:k≤9): ∃d s,ndF k=some d∧w'q k=some s∧d.r=z'S s 114∧d.l=z'S s 108∧d.e=z'S s 101∧d.f=z'S s 102∧d.n=z'S s 110∧d.t=false:=by
 have:k=2∨k=3∨k=4∨k=5∨k=6∨k=7∨k=8∨k=9:=by omega
 rcases this with rfl|rfl|rfl|rfl|rfl|rfl|rfl|rfl<;>exact⟨_,_,rfl,rfl,by decide⟩
theorem ZrM {k:Int} {s:ByteArray} (h:w'q k=some s):1≤k∧k≤13:=by
 refine z'C fun q=>?_
 unfold w'q at h
 iterate 13 rw[if_neg (by omega)]at h
 cases h
theorem ZfL {l:List Nod} {lv:List Opc} (hv: ∀i,1≤(l.getD i z'J).op→(l.getD i z'J).op≤4→1≤(lv.getD i (0,0,0)).1∧(lv.getD i (0,0,0)).1≤4): ∀(f i k:Nat),l.length-i≤f→y'5 (l.drop i) 1=some k→ ∀(n m:Int) (r:List Opc),0≤n→ ∃m',v'k (mdF l lv f i++r) n m=v'k r (n+1) m'
 |0,i,k,h,h2,_,_,_,_=>by have:=w'P h2;omega
 |f+1,i,k,h,h2,n,m,r,hn=>by
  obtain⟨c,hc,hc0,hc1,hik,hk1⟩:=ZaS h2
  have hi:=w'P h2
  unfold mdF
  rcases Zab hc with⟨rfl,q⟩|⟨rfl,q⟩|⟨rfl,q⟩
  ·rw[if_pos (by omega)]
   have:=hv i q.1 q.2
   refine⟨max m (n+1),?_⟩
   rw[List.singleton_append,Zbh,x'c,if_pos this]
  ·have h3:=hc1 (z'c _)
   rw[if_neg (by omega),if_pos q,z'M]
   obtain⟨m1,e1⟩:=ZfL hv f (i+1) _ (by omega) h3 n m ([((l.getD i z'J).op,0,0)]++r) hn
   refine⟨max m1 (n+1),?_⟩
   rw[e1,List.singleton_append,Zbh,x'c,if_neg (by omega),if_pos ⟨q,by omega⟩]
  ·have h3:=hc1 (by omega)
   obtain⟨k1,k2,q1,q2,q3⟩:=v'V (z'c 1) (z'c 1) h3
   rw[y'6]at q2
   have:=w'2 q1
   rw[if_neg (by omega),if_neg (by omega),q1,z'B,z'M,z'M]
   obtain⟨m1,e1⟩:=ZfL hv f (i+1) _ (by omega) q1 n m (mdF l lv f (i+1+k1)++([((l.getD i z'J).op,0,0)]++r)) hn
   obtain⟨m2,e2⟩:=ZfL hv f (i+1+k1) _ (by omega) q2 (n+1) m1 ([((l.getD i z'J).op,0,0)]++r) (by omega)
   refine⟨max m2 (n+1),?_⟩
   rw[e1,e2,List.singleton_append,Zbh,x'c,if_neg (by omega),if_neg (by omega),if_pos ⟨q,by omega⟩,show n+1+1-1=n+1 by omega]
theorem Zhp {l:List Nod} {lv:List Opc} {p:Opc→Bool} (hv: ∀i,p (lv.getD i (0,0,0))=true) (ho: ∀o:Int,5≤o→p (o,0,0)=true): ∀f i, ∀x,x∈mdF l lv f i→p x=true
 |0,_,x,hx=>by cases hx
 |f+1,i,x,hx=>by
  unfold mdF at hx
  split at hx
  ·rw[z'R]at hx;subst hx;exact hv i
  split at hx
  ·rcases z'X.1 hx with h|h
   ·exact Zhp hv ho f _ x h
   ·rw[z'R]at h;subst h;exact ho _ (by omega)
  ·rcases z'X.1 hx with h|h
   ·exact Zhp hv ho f _ x h
   rcases z'X.1 h with h|h
   ·exact Zhp hv ho f _ x h
   ·rw[z'R]at h;subst h;exact ho _ (by omega)
theorem Zgj {p:Pg} {regs:List ByteArray} {l:List Nod} (h:plB l=true) (hz:(v'D p regs l).1=0):v'j (cdT l regs) [] regs.length 0=true:=by
 have h0:=h
 simp only[plB,z'd]at h0
 have he:=h0.2
 have ho:=Zlt he
 have hnm:=Zoq h
 have hE:=he
 simp only[exB,z'd,decide_eq_true_eq,z'l]at hE
 have hlf: ∀x,x∈l→ ∃o,lfT regs x=some o∧x'x [] regs.length 0 o=true∧(x.op≤4→1≤o.1∧o.1≤4):=fun x hx=>by
  have h1:=ho x hx
  have h2:=hE.2.2.2.1 x hx
  obtain⟨i,hi,rfl⟩:=List.mem_iff_getElem.1 hx
  have h3:=ZaV hz i hi
  rw[w'3 (z'k hi)]at h3
  have h4:=hnm _ hx
  generalize l[i]=x at*
  unfold lfT
  have hlt:=Zhh regs x.nm
  by_cases q1:x.op=1
  ·rw[if_pos q1]
   refine⟨_,rfl,?_,fun _=>(by decide:(1:Int)≤1∧(1:Int)≤4)⟩
   simp only[ndB,q1,z'd,decide_eq_true_eq]at h2
   simp only[x'x,inB,if_pos,z'd,decide_eq_true_eq]
   have:=h2.2
   simp only[if_true,z'd,decide_eq_true_eq]at this
   omega
  rw[if_neg q1]
  by_cases q2:x.op=2
  ·rw[if_pos q2]
   by_cases q3:ixF regs x.nm<0
   ·unfold ndE at h3
    rw[if_pos ⟨q2,q3⟩]at h3
    cases h3
   ·rw[if_neg q3]
    refine⟨_,rfl,?_,fun _=>(by decide:(1:Int)≤2∧(2:Int)≤4)⟩
    rw[x'x,if_neg (show ¬(2:Int)=1 by decide),if_pos rfl,inB,z'd,decide_eq_true_eq,decide_eq_true_eq]
    simp only
    omega
  rw[if_neg q2]
  by_cases q3:x.op=3∨x.op=4
  ·exfalso
   have:=h4 (by omega) (by omega)
   omega
  ·rw[if_neg q3]
   exact⟨_,rfl,rfl,fun h=>by omega⟩
 have hall:l.all (fun x=>(lfT regs x).isSome)=true:=z'l.2 fun x hx=>by
  obtain⟨o,e,_⟩:=hlf x hx
  rw[e];rfl
 have y'V: ∀i,((l.map fun x=>(lfT regs x).getD (0,0,0)).getD i (0,0,0))=match l[i]? with|some x=>(lfT regs x).getD (0,0,0)|none=>(0,0,0):=fun i=>by
  rw[z'f,z'K]
  cases l[i]?<;>rfl
 rw[cdT,mkE,if_pos ⟨he,hall⟩]
 unfold v'j
 rw[z'd]
 constructor
 ·refine z'l.2 (Zhp (fun i=>?_) (fun o h5=>?_) _ _)
  ·rw[y'V]
   cases hi:l[i]? with
   |none=>rfl
   |some x=>
    obtain⟨o,e,e2,_⟩:=hlf x (z'E hi)
    simp only[e,z'B];exact e2
  ·rw[x'x,if_neg (by simp only;omega),if_neg (by simp only;omega),if_neg (by simp only;omega),if_neg (by simp only;omega)]
 ·have h1:=hE.2.2.1
  unfold v'U at h1
  rw[if_neg (by decide)]at h1
  cases hw:y'5 (l.drop (0:Int).toNat) 1 with
  |none=>rw[hw]at h1;simp at h1
  |some k=>
   rw[Int.toNat_zero]at hw
   obtain⟨m',e⟩:=ZfL (l:=l) (lv:=l.map fun x=>(lfT regs x).getD (0,0,0)) (fun i q1 q2=>by
    rw[y'V]
    cases hi:l[i]? with
    |none=>
     exfalso
     rw[z'f,hi]at q1
     exact absurd q1 (by decide)
    |some x=>
     rw[w'3 hi]at q2
     obtain⟨o,e,_,e3⟩:=hlf x (z'E hi)
     simp only[e,z'B];exact e3 q2) l.length 0 k (by omega) hw 0 0 [] (by omega)
   rw[z'u]at e
   rw[e];rfl
theorem ZqJ {s:ByteArray} (h:nmB s=true):isE s=false:=by
 simp only[nmB,z'd,decide_eq_true_eq]at h
 unfold isE
 refine decide_eq_false fun q=>?_
 subst q
 exact absurd h.1 (by decide)
theorem Znz {l:List Nod} {regs:List ByteArray} (h:l.length=0):cdT l regs=[]:=by
 have:l=[]:=z'3 h
 subst this
 rfl
theorem ZqF {l:List ByteArray} {s:ByteArray} (h: ¬ixF l s<0):inB (ixF l s) l.length=true:=by
 have:=Zhh l s
 rw[inB,z'd,decide_eq_true_eq,decide_eq_true_eq]
 omega
theorem ZsV {p:Pg} {t:Td} {i:Nat} {N:Int} (h:x'0 (t.body.getD i sm0)=true) (hz:(smE p t i).1=0) (k1:(t.body.getD i sm0).kind≠1) (k13:(t.body.getD i sm0).kind≠13) (k10:(t.body.getD i sm0).kind≠10) (k11:(t.body.getD i sm0).kind≠11) (k12:(t.body.getD i sm0).kind≠12):
  w'w (w'1 t.regs (lcN p) (t.body.getD i sm0)) t.regs.length (lcN p).length N=true:=by
 unfold smE at hz
 generalize t.body.getD i sm0=x at*
 unfold x'0 at h
 split at h
 ·cases h
 rename_i s hs
 have hr:=ZrM hs
 obtain⟨d,s',e1,e2,er,el,ee,ef,en,et⟩:=ZsH (k:=x.kind) (by omega) (by omega)
 rw[hs]at e2
 cases e2
 rw[if_neg fun q=>k13 q.1]at hz
 simp only[z'd,beq_iff_eq,z'1,decide_eq_true_eq, ←er, ←el, ←ee, ←ef, ←en]at h
 obtain⟨_,h1,h2,h3,h4,h5,h6,h7,_⟩:=h
 split at hz
 ·cases hz
 rename_i hnn
 have hE:(v'D p t.regs x.e).1=0:=by
  unfold z'D at hz
  split at hz
  ·assumption
  ·exact hz
 have hF:(v'D p t.regs x.f).1=0:=by
  unfold z'D at hz
  rwa [if_pos hE]at hz
 unfold w'w w'1
 simp only[e1,et,z'd]
 refine⟨⟨⟨⟨⟨?_,?_⟩,by rfl⟩,?_⟩,?_⟩,?_⟩
 ·cases hd:d.r with
  |true=>
   have:=ZqJ (by rw[←h1];exact hd)
   rw[this,if_neg Bool.false_ne_true]
   exact ZqF fun q=>hnn (.inl ⟨this,q⟩)
  |false=>
   have:isE x.reg=true:=h2.resolve_left (by rw[hd];exact Bool.false_ne_true)
   rw[this];rfl
 ·cases hd:d.l with
  |true=>
   have:=ZqJ (by rw[←h3];exact hd)
   rw[this,if_neg Bool.false_ne_true]
   exact ZqF fun q=>hnn (.inr ⟨this,q⟩)
  |false=>
   have:isE x.loc=true:=h4.resolve_left (by rw[hd];exact Bool.false_ne_true)
   rw[this];rfl
 ·cases hd:d.e with
  |true=>rw[hd]at h5;exact Zgj h5 hE
  |false=>rw[hd]at h5;simp only[Zas,decide_eq_true_eq];rw[Znz (of_decide_eq_true h5)];rfl
 ·cases hd:d.f with
  |true=>rw[hd]at h6;exact Zgj h6 hF
  |false=>rw[hd]at h6;simp only[Zas,decide_eq_true_eq];rw[Znz (of_decide_eq_true h6)];rfl
 ·simp only[z'1];exact h7
theorem Zhj {n R L N:Int} (h:0≤n∧n<N):w'w (jpI n) R L N=true:=by
 have:inB n N=true:=by rw[inB,z'd,decide_eq_true_eq,decide_eq_true_eq];exact h
 show(((((true&&true)&&inB n N)&&true)&&true)&&true)=true
 rw[this];rfl
theorem Zjr {e:List Opc} {n R L N:Int} (h:0≤n∧n<N) (he:v'j e [] R 0=true):w'w (brI e n) R L N=true:=by
 have:inB n N=true:=by rw[inB,z'd,decide_eq_true_eq,decide_eq_true_eq];exact h
 show(((((true&&true)&&inB n N)&&v'j e [] R 0)&&true)&&true)=true
 rw[this,he];rfl
theorem Zqw {p:Pg} {t:Td} {i:Nat} (h:x'0 (t.body.getD i sm0)=true) (hz:(smE p t i).1=0) (hk:(t.body.getD i sm0).kind=10∨(t.body.getD i sm0).kind=11):v'j (cdT (t.body.getD i sm0).e t.regs) [] t.regs.length 0=true:=by
 unfold smE at hz
 generalize t.body.getD i sm0=x at*
 rw[if_neg fun q=>by omega]at hz
 split at hz
 ·cases hz
 have hE:(v'D p t.regs x.e).1=0:=by
  unfold z'D at hz
  split at hz
  ·assumption
  ·exact hz
 refine Zgj ?_ hE
 unfold x'0 at h
 rcases hk with hk|hk<;>rw[hk]at h<;>
 ·rw[show w'q _=some _ from rfl]at h
  simp only[z'd]at h
  exact h.2.2.2.2.2.1
theorem Zhz {p:Pg} {t:Td} (hS:t.body.all x'0=true) (hz: ∀i,i<t.body.length→(smE p t i).1=0) {N:Int}: ∀(n a b h:Nat) (out:Int),b-a≤n→b≤t.body.length→wh t.body a b=true→0≤out→out<N→((h+szF t.body a b:Nat):Int)<N→
  ∀x,x∈rwA t.body t.regs (lcN p) a b h out→w'w x t.regs.length (lcN p).length N=true
 |0,a,b,h,out,hn,_,_,_,_,_,x,hx=>by
  rw[v'N (by omega)]at hx;cases hx
 |n+1,a,b,h,out,hn,hb,hw,h1,h2,h3,x,hx=>by
  rcases z'g a b with hab|hab
  case inr=>rw[v'N hab]at hx;cases hx
  have hN:=Zhq hS
  obtain⟨q1,q2,q3,q4⟩:=v'l hab hw
  have e1:mdS (t.body.getD a sm0) a=a+1+(t.body.getD a sm0).body.toNat:=rfl
  have e2:eeS (t.body.getD a sm0) a=a+1+(t.body.getD a sm0).body.toNat+(t.body.getD a sm0).els.toNat:=rfl
  have hs1:=z'l.1 hS _ (z'8 (d:=sm0) (show a<t.body.length by omega))
  have hz1:=hz a (by omega)
  have hNa:=hN _ (z'8 (d:=sm0) (show a<t.body.length by omega))
  have hsz:szF t.body a b=(sz1 (t.body.getD a sm0)+(szF t.body (a+1) (mdS (t.body.getD a sm0) a)+szF t.body (mdS (t.body.getD a sm0) a) (eeS (t.body.getD a sm0) a)))+szF t.body (eeS (t.body.getD a sm0) a) b:=by
   rw[x'v (m:=eeS (t.body.getD a sm0) a) (by omega) (by omega),x'v (m:=a+1) (b:=eeS (t.body.getD a sm0) a) (by omega) (by omega),x'v (a:=a+1) (m:=mdS (t.body.getD a sm0) a) (by omega) (by omega),x'5 (z'c a),x'L (z'c a),z'5]
  have hlen:(rw1 (rwA t.body t.regs (lcN p)) t.body t.regs (lcN p) a h out).length=sz1 (t.body.getD a sm0)+(szF t.body (a+1) (mdS (t.body.getD a sm0) a)+szF t.body (mdS (t.body.getD a sm0) a) (eeS (t.body.getD a sm0) a)):=by
   rw[ZdW hNa.1 hNa.2 (by omega) (fun h o=>x'q _ _ _ hN _ _ _ h o (z'c _) (by omega) q2) (fun h o=>x'q _ _ _ hN _ _ _ h o (z'c _) (by omega) q3)]
   rw[x'v (m:=a+1) (b:=eeS (t.body.getD a sm0) a) (by omega) (by omega),x'v (a:=a+1) (m:=mdS (t.body.getD a sm0) a) (by omega) (by omega),x'5 (z'c a),x'L (z'c a),z'5]
  rw[ZbI hab hw,hlen]at hx
  rcases z'X.1 hx with hx|hx
  case inr=>exact Zhz hS hz n _ _ _ out (by omega) hb q4 h1 h2 (by omega) x hx
  have r1:=fun h' (o:Int) (ho:0≤o) (ho2:o<N) (hh:((h'+szF t.body (a+1) (mdS (t.body.getD a sm0) a):Nat):Int)<N)=>Zhz hS hz n (a+1) (mdS (t.body.getD a sm0) a) h' o (by omega) (by omega) q2 ho ho2 hh x
  have r2:=fun h' (o:Int) (ho:0≤o) (ho2:o<N) (hh:((h'+szF t.body (mdS (t.body.getD a sm0) a) (eeS (t.body.getD a sm0) a):Nat):Int)<N)=>Zhz hS hz n (mdS (t.body.getD a sm0) a) (eeS (t.body.getD a sm0) a) h' o (by omega) (by omega) q3 ho ho2 hh x
  rw[hsz]at h3
  unfold rw1 at hx
  by_cases k1:(t.body.getD a sm0).kind=1
  ·rw[if_pos k1]at hx;cases hx
  rw[if_neg k1]at hx
  by_cases k13:(t.body.getD a sm0).kind=13
  ·rw[if_pos k13,z'R]at hx;subst hx;exact Zhj ⟨h1,h2⟩
  rw[if_neg k13]at hx
  by_cases k10:(t.body.getD a sm0).kind=10
  ·have hcd:=Zqw hs1 hz1 (.inl k10)
   rw[if_pos k10]at hx
   by_cases hel:(t.body.getD a sm0).els=0
   ·rw[if_pos hel]at hx
    have hz1:sz1 (t.body.getD a sm0)=1:=by rw[sz1,if_neg k1,if_pos k10,if_neg (by omega)]
    rcases z'v.1 hx with rfl|hx
    ·exact Zjr (by omega) hcd
    ·exact r1 _ _ h1 h2 (by omega) hx
   ·rw[if_neg hel]at hx
    have hz1:sz1 (t.body.getD a sm0)=2:=by rw[sz1,if_neg k1,if_pos k10,if_pos (by omega)]
    rcases z'X.1 hx with hx|hx
    ·rcases z'v.1 hx with rfl|hx
     ·exact Zjr (by omega) hcd
     ·exact r1 _ _ h1 h2 (by omega) hx
    ·rcases z'v.1 hx with rfl|hx
     ·exact Zhj (by omega)
     ·exact r2 _ _ h1 h2 (by omega) hx
  rw[if_neg k10]at hx
  by_cases k11:(t.body.getD a sm0).kind=11
  ·have hcd:=Zqw hs1 hz1 (.inr k11)
   have hz1:sz1 (t.body.getD a sm0)=2:=by rw[sz1,if_neg k1,if_neg k10,if_pos k11]
   rw[if_pos k11]at hx
   rcases z'v.1 hx with rfl|hx
   ·exact Zjr (by omega) hcd
   rcases z'X.1 hx with hx|hx
   ·exact r1 _ _ (by omega) (by omega) (by omega) hx
   ·rw[z'R]at hx;subst hx;exact Zhj (by omega)
  rw[if_neg k11]at hx
  by_cases k12:(t.body.getD a sm0).kind=12
  ·have hz1:sz1 (t.body.getD a sm0)=1:=by rw[sz1,if_neg k1,if_neg k10,if_neg k11]
   rw[if_pos k12]at hx
   rcases z'X.1 hx with hx|hx
   ·exact r1 _ _ (by omega) (by omega) (by omega) hx
   ·rw[z'R]at hx;subst hx;exact Zhj (by omega)
  rw[if_neg k12,z'R]at hx
  subst hx
  exact ZsV hs1 hz1 k1 k13 k10 k11 k12
theorem ZoL {p:Pg} {t:Td} (hB:smB t.body=true):(thI t.body t.regs (lcN p)).length=szF t.body 0 t.body.length+1:=by
 simp only[smB,z'd]at hB
 unfold thI
 rw[z'e]
 have:=x'q t.body t.regs (lcN p) (Zhq hB.2.2.1) _ 0 t.body.length 0 0 (z'c _) (z'c _) hB.2.1
 unfold rwA at this
 rw[Nat.sub_zero]at this
 rw[this];rfl
theorem Zr1 {p:Pg} {t:Td} (hB:smB t.body=true):(thI t.body t.regs (lcN p)).length≤2*t.body.length+1:=by
 rw[ZoL hB]
 have:=ZdX t.body 0 t.body.length
 rw[z'5]at this
 omega
theorem Zqd {p:Pg} {t:Td} (hB:smB t.body=true) (hz: ∀i,i<t.body.length→(smE p t i).1=0) (hr:t.regs.length≤6):ZcO t.regs.length (lcN p).length (thI t.body t.regs (lcN p))=true:=by
 have hl:=ZoL (p:=p) hB
 have hs:=Zr1 (p:=p) hB
 have hB':=hB
 simp only[smB,z'd,decide_eq_true_eq]at hB'
 have hR:=x'q t.body t.regs (lcN p) (Zhq hB'.2.2.1) _ 0 t.body.length 0 0 (z'c _) (z'c _) hB'.2.1
 have hT:thI t.body t.regs (lcN p)=rwA t.body t.regs (lcN p) 0 t.body.length 0 0++[⟨22,0,0,[],[],false,0⟩]:=rfl
 unfold ZcO
 simp only[z'd,decide_eq_true_eq]
 refine⟨⟨⟨⟨⟨by omega,by omega⟩,by omega⟩,by omega⟩,?_⟩,?_⟩
 ·rw[hl,Nat.add_sub_cancel,hT,z'f,w'B (by omega),hR,Nat.sub_self]
  rfl
 ·refine Zfl fun i hi=>?_
  rw[hl,Nat.add_sub_cancel]at hi
  rw[hl]
  refine Zhz hB'.2.2.1 hz _ 0 t.body.length 0 0 (z'c _) (z'c _) hB'.2.1 (Int.le_refl _) (by omega) (by omega) _ ?_
  rw[hT,z'f,y'8 (by omega), ←List.getD_eq_getElem?_getD]
  exact z'8 (by omega)
theorem ZoM {a b:Int×Int} (h:(z'D a b).1=0):a.1=0∧b.1=0:=by
 unfold z'D at h
 split at h
 ·exact⟨by assumption,h⟩
 ·exact absurd h (by assumption)
theorem ZpO {p:Pg} (h:(y'3 p).1=0):x'Q (mkU p)=true:=by
 unfold mkU
 rw[if_pos h]
 unfold y'3 at h
 split at h
 ·cases h
 rename_i hp
 split at h
 ·cases h
 rename_i hm
 obtain⟨h1,h2⟩:=ZoM h
 obtain⟨h2,h3⟩:=ZoM h2
 have hP:pgB p=true:=by simpa using hp
 simp only[pgB,z'd,z'l]at hP
 obtain⟨_,hL,hT,_⟩:=hP
 unfold ZgF at h1
 have g1:=ZaV h1
 unfold Zbs at h2
 split at h2
 ·cases h2
 rename_i h0
 have g2:=ZaV h2
 have hn6:p.locs.length≤6:=by
  rcases z'g 6 p.locs.length with q|q
  ·have:=g1 6 q
   unfold lcE at this
   rw[if_pos (z'c 6)]at this
   cases this
  ·exact q
 have hn4:p.ths.length≤4:=by
  rcases z'g 4 p.ths.length with q|q
  ·have:=g2 4 q
   unfold tdE at this
   rw[if_pos (z'c 4)]at this
   cases this
  ·exact q
 unfold x'Q Zau
 simp only[z'd,decide_eq_true_eq,z'i,x'A,z'l]
 refine⟨⟨⟨⟨⟨⟨⟨by omega,by omega⟩,?_⟩,hn6⟩,by omega⟩,hn4⟩,trivial⟩,?_⟩
 ·intro x hx
  obtain⟨v,hv,rfl⟩:=z'w.1 hx
  obtain⟨i,hi,rfl⟩:=List.mem_iff_getElem.1 hv
  have q1:=g1 i hi
  have q2:=hL _ hv
  unfold lcE at q1
  rw[w'3 (z'k hi)]at q1
  simp only[lvB,in4,z'd,decide_eq_true_eq]at q2
  split at q1
  ·cases q1
  split at q1
  ·cases q1
  split at q1
  ·cases q1
  rw[inB,z'd,decide_eq_true_eq,decide_eq_true_eq]
  omega
 ·intro i hi
  rw[z'Q]at hi
  have q1:=g2 i hi
  have q2:=hT _ (z'8 (d:=td0) hi)
  have e1:(p.ths.map fun t=>(t.regs.length:Int)).getD i 0=((p.ths.getD i td0).regs.length:Nat):=by
   rw[z'f,z'K,v'M hi (d:=td0)];rfl
  have e2:(p.ths.map fun t=>thI t.body t.regs (lcN p)).getD i []=thI (p.ths.getD i td0).body (p.ths.getD i td0).regs (lcN p):=by
   rw[z'f,z'K,v'M hi (d:=td0)];rfl
  rw[e1,e2]
  unfold tdE at q1
  generalize p.ths.getD i td0=t at*
  simp only[tdB,z'd]at q2
  split at q1
  ·cases q1
  split at q1
  ·cases q1
  split at q1
  ·cases q1
  split at q1
  ·cases q1
  have:(p.locs.length:Int)=((lcN p).length:Nat):=by unfold lcN;rw[z'i]
  rw[this]
  exact Zqd q2.2.1 (ZaV q1) (by omega)
open Go Go.Proofs Go.Vc Go.ChangeShapes Go.WideShapes Go.ChangeAt Go.RowKit Go.Joins
abbrev ZmZ:List Ty:=[.int .i64,.int .i64,.str,.str,.int .i64]
abbrev Ztd:List Ty:=[.int .i64,.str,.str,.sl ZmZ,.sl ZmZ,.bool,.int .i64,.int .i64,.int .i64]
abbrev Zti:List Ty:=[.str,.sl [.str],.sl Ztd,.int .i64]
abbrev Zsy:List Ty:=[.str,.int .i64,.int .i64]
abbrev Zsj:List Ty:=[.int .i64,.sl ZmZ,.int .i64]
theorem ZkQ {d:D} (h:Sh (.sl ZmZ) d): ∃l:List Nod,d=y'4 l:=by
 obtain⟨rows,rfl,_,h⟩:=h
 obtain⟨l,rfl⟩:=ZaK nodR _ (fun r h=>by
  obtain⟨_,_,rfl,⟨n1,rfl,_⟩,_,_,rfl,⟨n2,rfl,_⟩,_,_,rfl,⟨s1,rfl,_⟩,_,_,rfl,⟨s2,rfl,_⟩,_,_,rfl,⟨n3,rfl,_⟩,h⟩:=h
  rw[ShL]at h;subst h
  exact⟨⟨n1,n2,s1,s2,n3⟩,rfl⟩) rows h
 exact⟨l,rfl⟩
theorem ZrY {d:D} (h:Sh (.sl [.str]) d): ∃l:List ByteArray,d=x't l:=by
 obtain⟨rows,rfl,_,h⟩:=h
 obtain⟨l,rfl⟩:=ZaK (fun s:ByteArray=>[sD s]) _ (fun r h=>by
  obtain⟨_,_,rfl,⟨s,rfl,_⟩,h⟩:=h
  rw[ShL]at h;subst h
  exact⟨s,rfl⟩) rows h
 exact⟨l,rfl⟩
theorem Zs9 {d:D} (h:Sh (.sl Ztd) d): ∃l:List Sm,d=x'E l:=by
 obtain⟨rows,rfl,_,h⟩:=h
 obtain⟨l,rfl⟩:=ZaK smR _ (fun r h=>by
  obtain⟨_,_,rfl,⟨n1,rfl,_⟩,_,_,rfl,⟨s1,rfl,_⟩,_,_,rfl,⟨s2,rfl,_⟩,_,_,rfl,h1,_,_,rfl,h2,_,_,rfl,⟨b,rfl⟩,_,_,rfl,⟨n2,rfl,_⟩,_,_,rfl,⟨n3,rfl,_⟩,_,_,rfl,⟨n4,rfl,_⟩,h⟩:=h
  rw[ShL]at h;subst h
  obtain⟨e,rfl⟩:=ZkQ h1
  obtain⟨f,rfl⟩:=ZkQ h2
  exact⟨⟨n1,s1,s2,e,f,b,n2,n3,n4⟩,rfl⟩) rows h
 exact⟨l,rfl⟩
theorem Zta {d:D} (h:Sh (.sl Zti) d): ∃l:List Td,d=ZkW l:=by
 obtain⟨rows,rfl,_,h⟩:=h
 obtain⟨l,rfl⟩:=ZaK tdR _ (fun r h=>by
  obtain⟨_,_,rfl,⟨s1,rfl,_⟩,_,_,rfl,h1,_,_,rfl,h2,_,_,rfl,⟨n1,rfl,_⟩,h⟩:=h
  rw[ShL]at h;subst h
  obtain⟨e,rfl⟩:=ZrY h1
  obtain⟨f,rfl⟩:=Zs9 h2
  exact⟨⟨s1,e,f,n1⟩,rfl⟩) rows h
 exact⟨l,rfl⟩
theorem Zs8 {d:D} (h:Sh (.sl Zsy) d): ∃l:List Lv,d=Zic l:=by
 obtain⟨rows,rfl,_,h⟩:=h
 obtain⟨l,rfl⟩:=ZaK lvR _ (fun r h=>by
  obtain⟨_,_,rfl,⟨s1,rfl,_⟩,_,_,rfl,⟨n1,rfl,_⟩,_,_,rfl,⟨n2,rfl,_⟩,h⟩:=h
  rw[ShL]at h;subst h
  exact⟨⟨s1,n1,n2⟩,rfl⟩) rows h
 exact⟨l,rfl⟩
theorem Zs7 {d:D} (h:Sh (.sl Zsj) d): ∃l:List Cm,d=Zmq l:=by
 obtain⟨rows,rfl,_,h⟩:=h
 obtain⟨l,rfl⟩:=ZaK cmR _ (fun r h=>by
  obtain⟨_,_,rfl,⟨n1,rfl,_⟩,_,_,rfl,h1,_,_,rfl,⟨n2,rfl,_⟩,h⟩:=h
  rw[ShL]at h;subst h
  obtain⟨e,rfl⟩:=ZkQ h1
  exact⟨⟨n1,e,n2⟩,rfl⟩) rows h
 exact⟨l,rfl⟩
abbrev ZdQ:List Ty:=[.int .i64,.sl Zsy,.sl Zti,.sl Zsj]
theorem Zhs {l:List D} (h:ShL ZdQ l): ∃p,l=pgC p:=by
 obtain⟨_,_,rfl,⟨md,rfl,_⟩,_,_,rfl,h1,_,_,rfl,h2,_,_,rfl,h3,h⟩:=h
 rw[ShL]at h;subst h
 obtain⟨ls,rfl⟩:=Zs8 h1
 obtain⟨ts,rfl⟩:=Zta h2
 obtain⟨cs,rfl⟩:=Zs7 h3
 exact⟨⟨md,ls,ts,cs⟩,rfl⟩
end Go.Proofs.YthlkpnjjkgmlkaaGreat
