/- Plain law: no Break stands outside of all loops; what is wrong of a program, in the program's order; counts. No condition. -/
import Derived.Test.YthlkpnjjkgmlkaaGreatNe
import Derived.Test.YthlkpnjjkgmlkaaGreatLc
import Derived.Test.YthlkpnjjkgmlkaaGreatZh
namespace Go.Proofs.YthlkpnjjkgmlkaaGreat
set_option linter.unusedSimpArgs false
set_option linter.unusedVariables false
set_option maxRecDepth 20000
open Go Go.Proofs Go.Vc Go.ChangeMaps
theorem Zcd {l:List Sm}: ∀{n a b i:Nat},b-a≤n→wh l a b=true→a≤i→i<b→0≤(l.getD i sm0).body∧(i:Int)+(l.getD i sm0).body<b
 |0,a,b,i,hn,_,h1,h2=>by omega
 |n+1,a,b,i,hn,hw,h1,h2=>by
  obtain⟨q1,q2,q3,q4⟩:=v'l (show a<b by omega) hw
  have e1:mdS (l.getD a sm0) a=a+1+(l.getD a sm0).body.toNat:=rfl
  have e2:eeS (l.getD a sm0) a=a+1+(l.getD a sm0).body.toNat+(l.getD a sm0).els.toNat:=rfl
  rcases z'g a i with h3|h3
  ·rcases z'g i (mdS (l.getD a sm0) a)with h4|h4
   ·have:=Zcd (n:=n) (by omega) q2 h3 h4
    omega
   rcases z'g i (eeS (l.getD a sm0) a)with h5|h5
   ·have:=Zcd (n:=n) (by omega) q3 h4 h5
    omega
   ·exact Zcd (n:=n) (by omega) q4 h5 h2
  ·obtain rfl:i=a:=by omega
   omega
theorem Zfu {l:List Sm} (hl: ∀k,k<l.length→(l.getD k sm0).kind=13→lpB l k=true): ∀(n a b h:Nat),b-a≤n→b≤l.length→wh l a b=true→
  (∀i,i<a→((l.getD i sm0).kind=11∨(l.getD i sm0).kind=12)→(i:Int)+(l.getD i sm0).body<a)→bkA l a b h=[]
 |0,a,b,h,hn,_,_,_=>v'9 (by omega)
 |n+1,a,b,h,hn,hb,hw,hi=>by
  rcases z'g a b with hab|hab
  ·obtain⟨q1,q2,q3,q4⟩:=v'l hab hw
   have e1:mdS (l.getD a sm0) a=a+1+(l.getD a sm0).body.toNat:=rfl
   have e2:eeS (l.getD a sm0) a=a+1+(l.getD a sm0).body.toNat+(l.getD a sm0).els.toNat:=rfl
   rw[Zbv hab hw]
   have t1:bkA l (eeS (l.getD a sm0) a) b (h+szF l a (eeS (l.getD a sm0) a))=[]:=by
    refine Zfu hl n _ _ _ (by omega) hb q4 fun i h1 h2=>?_
    rcases z'g i a with h3|h3
    ·have:=hi i h3 h2;omega
    rcases y'K h3 with rfl|h3
    ·omega
    rcases z'g i (mdS (l.getD a sm0) a)with h4|h4
    ·have:=Zcd (z'c _) q2 h3 h4;omega
    ·have:=Zcd (z'c _) q3 h4 h1;omega
   rw[t1,z'u]
   unfold bk1
   by_cases k1:(l.getD a sm0).kind=1
   ·rw[if_pos k1]
   rw[if_neg k1]
   by_cases k13:(l.getD a sm0).kind=13
   ·exfalso
    have:=hl a (by omega) k13
    simp only[lpB,List.any_eq_true,z'Q,z'd,z'1,decide_eq_true_eq]at this
    obtain⟨i,h1,h2,h3⟩:=this
    have:=hi i h1 h2
    omega
   rw[if_neg k13]
   by_cases k10:(l.getD a sm0).kind=10
   ·rw[if_pos k10]
    have hs: ∀i,i<a+1→((l.getD i sm0).kind=11∨(l.getD i sm0).kind=12)→(i:Int)+(l.getD i sm0).body<(a+1:Nat):=fun i h1 h2=>by
     rcases z'g i a with h3|h3
     ·have:=hi i h3 h2;omega
     ·obtain rfl:i=a:=by omega
      omega
    have t2: ∀h,bkA l (a+1) (mdS (l.getD a sm0) a) h=[]:=fun h=>Zfu hl n _ _ _ (by omega) (by omega) q2 hs
    have t3: ∀h,bkA l (mdS (l.getD a sm0) a) (eeS (l.getD a sm0) a) h=[]:=fun h=>by
     refine Zfu hl n _ _ _ (by omega) (by omega) q3 fun i h1 h2=>?_
     rcases z'g i (a+1)with h3|h3
     ·have:=hs i h3 h2;omega
     ·have:=Zcd (z'c _) q2 h3 h1;omega
    simp only[t2,t3]
    split<;>rfl
   ·rw[if_neg k10]
  ·exact v'9 hab
theorem ZqU {l:List Sm} (hl: ∀k,k<l.length→(l.getD k sm0).kind=13→lpB l k=true) (hw:wh l 0 l.length=true):bkA l 0 l.length 0=[]:=
 Zfu hl _ _ _ _ (z'c _) (z'c _) hw fun i h=>by omega
def mE (so:Bool) (c a:Int):Int×Int:=if so=true then(0,0)else(c,a)
theorem Zch {so:Bool} {c a:Int} (h:so=true):mE so c a=(0,0):=if_pos h
theorem Zcg {so:Bool} {c a:Int} (h:so=false):mE so c a=(c,a):=if_neg (by rw[h];exact Bool.false_ne_true)
theorem y'v (a b c:Int×Int):z'D (z'D a b) c=z'D a (z'D b c):=by
 unfold z'D
 by_cases h:a.1=0
 ·simp only[h,if_true]
 ·simp only[h,if_false]
theorem w'Q (b:Int×Int):z'D (0,0) b=b:=rfl
theorem ZgM {a b:Int×Int} (h:a.1≠0):z'D a b=a:=if_neg h
theorem w'R {c a:Int} {b:Int×Int} (h:c≠0):z'D (c,a) b=(c,a):=ZgM h
def Nrm (e:Int×Int):Prop:=e.1=0→e=(0,0)
theorem Nrm.z:Nrm (0,0):=fun _=>rfl
theorem Nrm.m {so:Bool} {c a:Int} (h:c≠0):Nrm (mE so c a):=by
 unfold mE
 split
 ·exact .z
 ·exact fun q=>absurd q h
theorem Nrm.th {a b:Int×Int} (ha:Nrm a) (hb:Nrm b):Nrm (z'D a b):=by
 unfold z'D
 split
 ·exact hb
 ·exact ha
theorem Zd0 {a:Int×Int} (h:Nrm a):z'D a (0,0)=a:=by
 unfold z'D
 split
 ·rename_i q;exact(h q).symm
 ·rfl
theorem ZjK {n:Nat} {g:Nat→Int×Int} (h:Nrm (g n)):z'D (y'A n g) (g n)=y'A (n+1) g:=by
 unfold y'A
 rw[y'I,z'A,List.find?_append]
 cases hf:((List.range n).map g).find? (fun e=> !decide (e.1=0))with
 |some x=>
  have hx:=List.find?_some hf
  simp only[z'y,decide_eq_false_iff_not]at hx
  simp only[Option.some_or,z'B]
  exact ZgM hx
 |none=>
  simp only[Option.none_or,Option.getD_none,z'p,y'a]
  show g n=_
  by_cases hg:(g n).1=0
  ·rw[h hg];rfl
  ·simp[hg]
theorem Nrm.fst {n:Nat} {g:Nat→Int×Int}:Nrm (y'A n g):=fun h=>ZaU (ZaV h)
theorem ZaW {n:Nat} {g g':Nat→Int×Int} (h: ∀i,i<n→g i=g' i):y'A n g=y'A n g':=by
 unfold y'A
 rw[y'N (f:=g) (g:=g') fun i hi=>h i (z'Q.1 hi)]
theorem Za2 {e:Int×Int} {n:Nat} {g:Nat→Int×Int} (h:Nrm (g n)):z'D (z'D e (y'A n g)) (g n)=z'D e (y'A (n+1) g):=by rw[y'v,ZjK h]
theorem Zaf {e:Int×Int} {g:Nat→Int×Int} (h:Nrm e):z'D e (y'A 0 g)=e:=Zd0 h
def cnF (l:List ByteArray) (s:ByteArray):Nat:=l.countP fun x=>decide (x=s)
theorem Zqx {l:List ByteArray} {s:ByteArray}:cnF l s=0↔s∉l:=by
 unfold cnF
 rw[List.countP_eq_zero]
 exact⟨fun h hs=>h s hs (decide_eq_true rfl),fun h a ha q=>h (of_decide_eq_true q▸ha)⟩
theorem Zlp {l:List ByteArray} {s:ByteArray}:0<cnF l s↔s∈l:=by
 rw[Nat.pos_iff_ne_zero,ne_eq,Zqx,Classical.not_not]
theorem Zcx (l:List ByteArray) (x s:ByteArray):cnF (l++[x]) s=cnF l s+if x=s then 1 else 0:=by
 unfold cnF
 rw[List.countP_append]
 by_cases h:x=s<;>simp[h]
theorem Zd4 {l:List ByteArray} {k:Nat} (hk:k<l.length):cnF (l.take k) (l.getD k e0)=0↔ ¬ixF l (l.getD k e0)<k:=by
 rw[Zqx]
 constructor
 ·intro h hlt
  have h0:0≤ixF l (l.getD k e0):=by
   rcases w'7 (ixF l (l.getD k e0)) 0 with hn|hn
   ·exfalso
    unfold ixF at hn
    split at hn
    ·rename_i hf
     rw[List.findIdx?_eq_none_iff]at hf
     have:=hf _ (z'8 (d:=e0) hk)
     simp at this
    ·omega
   ·exact hn
  unfold ixF at hlt h0
  cases hf:l.findIdx? (fun x=>decide (x=l.getD k e0))with
  |none=>rw[hf]at h0;exact absurd h0 (by decide)
  |some i=>
   rw[hf]at hlt
   obtain⟨q1,q2,_⟩:=List.findIdx?_eq_some_iff_getElem.1 hf
   refine h (x'3.2 ⟨i,?_⟩)
   rw[y'1,if_pos (by simp only at hlt;omega),z'k q1]
   exact congrArg some (of_decide_eq_true q2)
 ·intro h hm
  obtain⟨i,hi⟩:=x'3.1 hm
  rw[y'1]at hi
  split at hi
  ·rename_i hik
   refine h ?_
   unfold ixF
   cases hf:l.findIdx? (fun x=>decide (x=l.getD k e0))with
   |none=>
    rw[List.findIdx?_eq_none_iff]at hf
    have:=hf _ (z'8 (d:=e0) hk)
    simp at this
   |some j=>
    obtain⟨q1,q2,q3⟩:=List.findIdx?_eq_some_iff_getElem.1 hf
    simp only
    rcases z'g i j with hij|hij
    ·have:=q3 i hij
     rw[z'z]at hi
     obtain⟨r1,r2⟩:=hi
     rw[r2]at this
     simp at this
    ·omega
  ·cases hi
theorem ZaQ {l:List ByteArray} {s:ByteArray}:0<cnF l s↔ ¬ixF l s<0:=by
 rw[Zlp]
 unfold ixF
 cases hf:l.findIdx? (fun x=>decide (x=s))with
 |none=>
  rw[List.findIdx?_eq_none_iff]at hf
  refine⟨fun h=>?_,fun h=>absurd (by decide) h⟩
  have:=hf _ h
  simp at this
 |some j=>
  obtain⟨q1,q2,_⟩:=List.findIdx?_eq_some_iff_getElem.1 hf
  refine⟨fun _=>by simp only;omega,fun _=>?_⟩
  rw[←of_decide_eq_true q2]
  exact List.getElem_mem q1
def lcX (p:Pg) (i:Nat):Int×Int:=z'D (z'D (mE (decide (i<6)) 12 (p.locs.getD i lv0).pl) (mE (decide (cnF ((lcN p).take i) (p.locs.getD i lv0).nm=0)) 10 (p.locs.getD i lv0).pl)) (mE (decide ((p.locs.getD i lv0).n<p.md)) 11 (p.locs.getD i lv0).pl)
theorem Zsw {p:Pg} {i:Nat} (hi:i<p.locs.length):lcX p i=lcE p i:=by
 have hl:i<(lcN p).length:=by unfold lcN;rw[z'i];exact hi
 have h:=Zd4 hl
 rw[Zkm]at h
 unfold lcX lcE
 generalize p.locs.getD i lv0=v at*
 by_cases h1:6≤i
 ·rw[if_pos h1,Zcg (decide_eq_false (by omega)),y'v]
  exact w'R (by decide)
 rw[if_neg h1,Zch (decide_eq_true (by omega)),w'Q]
 by_cases h2:ixF (lcN p) v.nm<i
 ·rw[if_pos h2,Zcg (decide_eq_false fun q=>(h.1 q) h2)]
  exact w'R (by decide)
 rw[if_neg h2,Zch (decide_eq_true (h.2 h2)),w'Q]
 unfold mE
 by_cases h3:v.n<p.md
 ·rw[if_pos (decide_eq_true h3),if_neg (by omega)]
 ·rw[if_neg (by rw[decide_eq_true_eq];exact h3),if_pos (by omega)]
def ndX (md:Int) (kn:Nod→Bool) (x:Nod):Int×Int:=if x.op=1 then mE (decide (x.n<md)) 11 x.pl else if 2≤x.op∧x.op≤4 then mE (kn x) 9 x.pl else(0,0)
theorem ZtD (md:Int) (kn:Nod→Bool) (x:Nod):Nrm (ndX md kn x):=by
 unfold ndX
 split
 ·exact .m (by decide)
 split
 ·exact .m (by decide)
 ·exact .z
def ZaJ (md:Int) (kn:Nod→Bool) (l:List Nod):Int×Int:=y'A l.length fun i=>ndX md kn (l.getD i z'J)
def knR (regs:List ByteArray) (x:Nod):Bool:=decide (0<cnF regs x.nm)
theorem Zoq {l:List Nod} (h:plB l=true): ∀x,x∈l→2≤x.op→x.op≤4→x.op=2:=by
 intro x hx h1 h2
 simp only[plB,z'd,y'R,z'l,x'H,decide_eq_true_eq]at h
 exact h.1 x ⟨hx,by simp only[Zbf,z'1,decide_eq_true_eq];omega⟩
theorem Zsi {l:List Nod} (h:Za7 l=true): ∀x,x∈l→x.op≠2:=by
 intro x hx h1
 simp only[Za7,z'd,y'R,z'l,x'H,decide_eq_true_eq,z'y,decide_eq_false_iff_not]at h
 exact h.1 x ⟨hx,by simp only[Zbf,z'1,decide_eq_true_eq];omega⟩ h1
theorem ZlR {p:Pg} {regs:List ByteArray} {l:List Nod} (h:plB l=true):ZaJ p.md (knR regs) l=v'D p regs l:=by
 unfold ZaJ v'D
 refine ZaW fun i hi=>?_
 have hm:=Zoq h _ (z'8 (d:=z'J) hi)
 generalize l.getD i z'J=x at hm
 have hc:=ZaQ (l:=regs) (s:=x.nm)
 unfold ndX ndE mE knR
 by_cases h1:x.op=1
 ·simp only[h1,if_true]
  by_cases h2:x.n<p.md
  ·simp[h2,y'j.2 h2]
  ·simp[h2,z'x.1 h2]
 by_cases h2:2≤x.op∧x.op≤4
 ·have h3:=hm h2.1 h2.2
  rw[if_neg h1,if_pos h2]
  by_cases h4:ixF regs x.nm<0
  ·rw[if_pos (show x.op=2∧ixF regs x.nm<0 from⟨h3,h4⟩),decide_eq_false (fun q=>hc.1 q h4)];rfl
  ·rw[if_neg (show ¬(x.op=2∧ixF regs x.nm<0) from fun q=>h4 q.2),decide_eq_true (hc.2 h4),if_neg (show ¬(x.op=1∧x.n≥p.md) from fun q=>h1 q.1)];rfl
 ·rw[if_neg h1,if_neg h2,if_neg (show ¬(x.op=2∧ixF regs x.nm<0) from fun q=>h2 (by omega)),if_neg (show ¬(x.op=1∧x.n≥p.md) from fun q=>h1 q.1)]
theorem Zq8 {n:Nat} {g:Nat→Int×Int} {b:Nat→Bool} {c a:Int} (hc:c≠0) (h: ∀i,i<n→g i=mE (!b i) c a):y'A n g=if (List.range n).any b=true then(c,a)else(0,0):=by
 induction n with
 |zero=>rfl
 |succ n ih=>
  rw[←ZjK (by rw[h n (Nat.lt_succ_self n)];exact .m hc),ih fun i hi=>h i (by omega),h n (Nat.lt_succ_self n),y'I,List.any_append]
  unfold z'D mE
  by_cases h1:(List.range n).any b=true
  ·simp[h1,hc]
  ·by_cases h2:b n=true
   ·simp[h1,h2]
   ·simp[h1,h2]
def unt (l:List Sm) (k:Nat):Int:=(List.range k).foldl (fun u i=>if (l.getD i sm0).kind=11∨(l.getD i sm0).kind=12 then max u (i+1+(l.getD i sm0).body)else u) 0
theorem Zjj (l:List Sm) (k:Nat):unt l (k+1)=if (l.getD k sm0).kind=11∨(l.getD k sm0).kind=12 then max (unt l k) (k+1+(l.getD k sm0).body)else unt l k:=by
 unfold unt
 rw[y'I,List.foldl_append]
 rfl
theorem ZoQ (l:List Sm) (n:Int) (hn:0≤n): ∀k,n<unt l k↔ ∃i,i<k∧((l.getD i sm0).kind=11∨(l.getD i sm0).kind=12)∧n≤i+(l.getD i sm0).body
 |0=>⟨fun h=>by simp[unt]at h;omega,fun⟨i,h,_⟩=>by omega⟩
 |k+1=>by
  have ih:=ZoQ l n hn k
  rw[Zjj]
  constructor
  ·intro h
   split at h
   ·rename_i hk
    rcases w'7 n (unt l k)with h1|h1
    ·obtain⟨i,q1,q2⟩:=ih.1 h1
     exact⟨i,by omega,q2⟩
    ·exact⟨k,by omega,hk,by omega⟩
   ·obtain⟨i,q1,q2⟩:=ih.1 h
    exact⟨i,by omega,q2⟩
  ·rintro⟨i,q1,q2,q3⟩
   rcases z'g i k with h1|h1
   ·have:=ih.2 ⟨i,h1,q2,q3⟩
    split<;>omega
   ·obtain rfl:i=k:=by omega
    rw[if_pos q2];omega
theorem Ztk (l:List Sm) (k:Nat):decide ((k:Int)<unt l k)=lpB l k:=by
 rw[z'9,decide_eq_true_eq,ZoQ l k (by omega)]
 simp only[lpB,List.any_eq_true,z'Q,z'd,z'1,decide_eq_true_eq]
theorem ZoR (l:List Sm): ∀k,0≤unt l k
 |0=>Int.le_refl _
 |k+1=>by
  have:=ZoR l k
  rw[Zjj]
  split<;>omega
theorem ZoP {l:List Sm} (hw:wh l 0 l.length=true): ∀k,k≤l.length→unt l k≤l.length
 |0,_=>by simp[unt]
 |k+1,hk=>by
  have:=ZoP hw k (by omega)
  have:=Zcd (z'c _) hw (z'm k) (show k<l.length by omega)
  rw[Zjj]
  split<;>omega
def smX (p:Pg) (t:Td) (i:Nat):Int×Int:=
 z'D (z'D (z'D (z'D (if (t.body.getD i sm0).kind=13 then mE (decide ((i:Int)<unt t.body i)) 13 (t.body.getD i sm0).pl else(0,0))
  (mE (isE (t.body.getD i sm0).reg||decide (0<cnF t.regs (t.body.getD i sm0).reg)) 9 (t.body.getD i sm0).pl))
  (mE (isE (t.body.getD i sm0).loc||decide (0<cnF (lcN p) (t.body.getD i sm0).loc)) 9 (t.body.getD i sm0).pl))
  (ZaJ p.md (knR t.regs) (t.body.getD i sm0).e)) (ZaJ p.md (knR t.regs) (t.body.getD i sm0).f)
theorem Nrm.nds (md:Int) (kn:Nod→Bool) (l:List Nod):Nrm (ZaJ md kn l):=Nrm.fst
theorem ZtI (p:Pg) (t:Td) (i:Nat):Nrm (smX p t i):=by
 unfold smX
 refine .th (.th (.th (.th ?_ (.m (by decide))) (.m (by decide))) (.nds _ _ _)) (.nds _ _ _)
 split
 ·exact .m (by decide)
 ·exact .z
theorem ZlQ {p:Pg} {regs:List ByteArray} {l:List Nod} (h:l.length=0):ZaJ p.md (knR regs) l=v'D p regs l:=by
 unfold ZaJ v'D;rw[h];rfl
theorem ZsQ {x:Sm} (h:x'0 x=true):(plB x.e=true∨x.e.length=0)∧(plB x.f=true∨x.f.length=0):=by
 unfold x'0 at h
 split at h
 ·cases h
 ·rename_i q hp
  simp only[z'd,beq_iff_eq,z'1,decide_eq_true_eq]at h
  obtain⟨_,_,_,_,_,he,hf,_⟩:=h
  refine⟨?_,?_⟩
  ·split at he
   ·exact .inl he
   ·exact .inr (of_decide_eq_true he)
  ·split at hf
   ·exact .inl hf
   ·exact .inr (of_decide_eq_true hf)
theorem Ztc {p:Pg} {t:Td} {i:Nat} (h:x'0 (t.body.getD i sm0)=true):smX p t i=smE p t i:=by
 obtain⟨h1,h2⟩:=ZsQ h
 unfold smX smE
 rw[Ztk]
 have e1:ZaJ p.md (knR t.regs) (t.body.getD i sm0).e=v'D p t.regs (t.body.getD i sm0).e:=h1.elim ZlR ZlQ
 have e2:ZaJ p.md (knR t.regs) (t.body.getD i sm0).f=v'D p t.regs (t.body.getD i sm0).f:=h2.elim ZlR ZlQ
 have c1:=ZaQ (l:=t.regs) (s:=(t.body.getD i sm0).reg)
 have c2:=ZaQ (l:=lcN p) (s:=(t.body.getD i sm0).loc)
 rw[e1,e2]
 generalize t.body.getD i sm0=x at*
 by_cases hb:x.kind=13∧lpB t.body i=false
 ·rw[if_pos hb,if_pos hb.1,Zcg hb.2,y'v,y'v,y'v]
  exact w'R (by decide)
 rw[if_neg hb]
 have:(if x.kind=13 then mE (lpB t.body i) 13 x.pl else(0,0))=(0,0):=by
  split
  ·rename_i hk
   exact Zch (Bool.not_eq_false _▸fun q=>hb ⟨hk,q⟩)
  ·rfl
 rw[this,w'Q]
 by_cases h3:isE x.reg=false∧ixF t.regs x.reg<0
 ·rw[if_pos (.inl h3),Zcg (by rw[h3.1,Bool.false_or];exact decide_eq_false fun q=>c1.1 q h3.2),y'v,y'v]
  exact w'R (by decide)
 rw[Zch (by
  cases hr:isE x.reg with
  |true=>rfl
  |false=>rw[Bool.false_or];exact decide_eq_true (c1.2 fun q=>h3 ⟨hr,q⟩)),w'Q]
 by_cases h4:isE x.loc=false∧ixF (lcN p) x.loc<0
 ·rw[if_pos (.inr h4),Zcg (by rw[h4.1,Bool.false_or];exact decide_eq_false fun q=>c2.1 q h4.2),y'v]
  exact w'R (by decide)
 rw[if_neg (by rintro(q|q);exact h3 q;exact h4 q),Zch (by
  cases hr:isE x.loc with
  |true=>rfl
  |false=>rw[Bool.false_or];exact decide_eq_true (c2.2 fun q=>h4 ⟨hr,q⟩)),w'Q]
def bdX (p:Pg) (t:Td):Int×Int:=y'A t.body.length (smX p t)
theorem Zse {p:Pg} {t:Td} (h:t.body.all x'0=true):bdX p t=bdE p t:=
 ZaW fun i hi=>Ztc (z'l.1 h _ (z'8 hi))
def rgE (p:Pg) (t:Td) (k:Nat):Int×Int:=mE (decide (cnF (t.regs.take (k+1)) (t.regs.getD k e0)=1)&&decide (cnF (lcN p) (t.regs.getD k e0)=0)) 10 t.pl
theorem Zs4 {p:Pg} {t:Td} {k:Nat} (hk:k<t.regs.length):rgE p t k=mE (!rgB p t k) 10 t.pl:=by
 unfold rgE
 congr 1
 have h1:=Zd4 hk
 have h2:=ZaQ (l:=lcN p) (s:=t.regs.getD k e0)
 have h3:cnF (t.regs.take (k+1)) (t.regs.getD k e0)=cnF (t.regs.take k) (t.regs.getD k e0)+1:=by
  rw[List.take_add_one,v'M hk (d:=e0),Option.toList_some,Zcx,if_pos rfl]
 rw[h3,z'9,rgB]
 simp only[z'd,decide_eq_true_eq,z'y,Bool.or_eq_false_iff,decide_eq_false_iff_not]
 omega
def tdX (p:Pg) (i:Nat):Int×Int:=
 z'D (z'D (z'D (z'D (mE (decide (i<4)) 12 (p.ths.getD i td0).pl) (mE (decide (cnF ((thN p).take i) (p.ths.getD i td0).nm=0)) 10 (p.ths.getD i td0).pl)) (mE (decide ((p.ths.getD i td0).regs.length≤6)) 12 (p.ths.getD i td0).pl))
  (y'A (p.ths.getD i td0).regs.length (rgE p (p.ths.getD i td0)))) (bdX p (p.ths.getD i td0))
theorem ZtJ (p:Pg) (i:Nat):Nrm (tdX p i):= .th (.th (.th (.th (.m (by decide)) (.m (by decide))) (.m (by decide))) .fst) .fst
theorem Zth {p:Pg} {i:Nat} (hi:i<p.ths.length) (h:(p.ths.getD i td0).body.all x'0=true):tdX p i=tdE p i:=by
 have hl:i<(thN p).length:=by unfold thN;rw[z'i];exact hi
 have hc:=Zd4 hl
 rw[ZoK]at hc
 unfold tdX tdE
 rw[Zse h,Zq8 (b:=rgB p (p.ths.getD i td0)) (c:=10) (a:=(p.ths.getD i td0).pl) (by decide) fun k hk=>Zs4 hk]
 generalize p.ths.getD i td0=t at*
 by_cases h1:4≤i
 ·rw[if_pos h1,Zcg (decide_eq_false (by omega)),y'v,y'v,y'v]
  exact w'R (by decide)
 rw[if_neg h1,Zch (decide_eq_true (by omega)),w'Q]
 by_cases h2:ixF (thN p) t.nm<i
 ·rw[if_pos h2,Zcg (decide_eq_false fun q=>hc.1 q h2),y'v,y'v]
  exact w'R (by decide)
 rw[if_neg h2,Zch (decide_eq_true (hc.2 h2)),w'Q]
 by_cases h3:6<t.regs.length
 ·rw[if_pos h3,Zcg (decide_eq_false (by omega)),y'v]
  exact w'R (by decide)
 rw[if_neg h3,Zch (decide_eq_true (by omega)),w'Q]
 split
 ·exact w'R (by decide)
 ·rfl
def knC (p:Pg) (y:Nod):Bool:=if y.op=3 then decide (0<cnF (lcN p) y.nm)else decide (0≤ixF (thN p) y.inn)&&decide (0<cnF (p.ths.getD (ixF (thN p) y.inn).toNat td0).regs y.nm)
def cmX (p:Pg) (i:Nat):Int×Int:=z'D (mE (decide (i<8)) 12 (p.cms.getD i cm0).pl) (ZaJ p.md (knC p) (p.cms.getD i cm0).e)
theorem Ztq (p:Pg) (i:Nat):Nrm (cmX p i):= .th (.m (by decide)) .fst
theorem Zsk {p:Pg} {i:Nat} (h:Za7 (p.cms.getD i cm0).e=true):cmX p i=cmE p i:=by
 unfold cmX cmE
 by_cases h1:8≤i
 ·rw[if_pos h1,Zcg (decide_eq_false (by omega))]
  exact w'R (by decide)
 rw[if_neg h1,Zch (decide_eq_true (by omega)),w'Q]
 refine ZaW fun k hk=>?_
 have hm:=Zsi h _ (z'8 (d:=z'J) hk)
 generalize (p.cms.getD i cm0).e.getD k z'J=x at hm
 have c1:=ZaQ (l:=lcN p) (s:=x.nm)
 have c2:=ZaQ (l:=(p.ths.getD (ixF (thN p) x.inn).toNat td0).regs) (s:=x.nm)
 unfold ndX cnE mE knC
 by_cases q1:x.op=1
 ·simp only[q1]
  by_cases h2:x.n<p.md
  ·simp[h2,y'j.2 h2]
  ·simp[h2,z'x.1 h2]
 rw[if_neg q1]
 by_cases q3:x.op=3
 ·rw[if_pos (by omega),if_pos q3]
  by_cases q4:ixF (lcN p) x.nm<0
  ·rw[if_neg (by rw[decide_eq_true_eq,c1];exact fun q=>q q4),if_pos ⟨q3,q4⟩]
  ·rw[if_pos (by rw[decide_eq_true_eq,c1];exact q4),if_neg fun q=>q4 q.2,if_neg fun q=>by omega,if_neg fun q=>by omega]
 rw[if_neg q3,if_neg (fun q:x.op=3∧_=>q3 q.1)]
 by_cases q4:x.op=4
 ·rw[if_pos (by omega)]
  by_cases q5:ixF (thN p) x.inn<0
  ·rw[decide_eq_false (by omega),x'e,if_neg Bool.false_ne_true,if_pos ⟨q4,.inl q5⟩]
  ·rw[decide_eq_true (by omega),y'g]
   by_cases q6:ixF (p.ths.getD (ixF (thN p) x.inn).toNat td0).regs x.nm<0
   ·rw[if_neg (by rw[decide_eq_true_eq,c2];exact fun q=>q q6),if_pos ⟨q4,.inr q6⟩]
   ·rw[if_pos (by rw[decide_eq_true_eq,c2];exact q6),if_neg fun q=>q.2.elim q5 q6,if_neg fun q=>by omega]
 ·rw[if_neg (by omega),if_neg fun q=>q4 q.1,if_neg fun q=>q1 q.1]
def Zo0 (p:Pg):Int×Int:=
 z'D (z'D (z'D (z'D (mE (decide (2≤p.md)&&decide (p.md≤16)) 11 0) (y'A p.locs.length (lcX p))) (mE (decide (0<p.ths.length)) 12 0)) (y'A p.ths.length (tdX p))) (y'A p.cms.length (cmX p))
theorem ZqX {p:Pg} (h:pgB p=true):Zo0 p=y'3 p:=by
 have hs:=h
 simp only[pgB,z'd,z'l]at hs
 unfold Zo0 y'3
 rw[if_neg (by rw[h];exact Bool.noConfusion)]
 by_cases h1:p.md<2∨p.md>16
 ·rw[if_pos h1,Zcg (by rw[v'i,decide_eq_false_iff_not,decide_eq_false_iff_not];omega),y'v,y'v,y'v]
  exact w'R (by decide)
 rw[if_neg h1,Zch (by rw[z'd,decide_eq_true_eq,decide_eq_true_eq];omega),w'Q,y'v,y'v,show y'A p.locs.length (lcX p)=ZgF p from ZaW fun i hi=>Zsw hi]
 congr 1
 unfold Zbs Zgl
 rw[ZaW (g:=cmX p) (g':=cmE p) fun i hi=>Zsk (by have:=hs.2.2.2 _ (z'8 (d:=cm0) hi);simp only[cmB,z'd]at this;exact this.2.2.1)]
 rw[ZaW (g:=tdX p) (g':=tdE p) fun i hi=>Zth hi (by have:=hs.2.2.1 _ (z'8 (d:=td0) hi);simp only[tdB,smB,z'd]at this;exact this.2.1.2.2.1)]
 by_cases h2:p.ths.length=0
 ·rw[if_pos h2,Zcg (decide_eq_false (by omega))]
  exact(w'R (by decide)).trans (w'R (by decide)).symm
 ·rw[if_neg h2,Zch (decide_eq_true (by omega)),w'Q]
theorem Zhl {l:Km} (hk:(kmK l).Nodup) {s:ByteArray} {v:Int} {b:Nat} (h:(s,v,b)∈l):kmV l s=v:=by
 unfold kmV
 split
 ·rename_i p hp
  obtain⟨k,b',_,h2⟩:=w'N (j:=p.1) (v:=p.2) hp
  obtain⟨i,hi⟩:=x'3.1 h
  have e1:(kmK l)[k]?=some s:=by unfold kmK;rw[z'K,h2];rfl
  have e2:(kmK l)[i]?=some s:=by unfold kmK;rw[z'K,hi];rfl
  obtain⟨q1,q2⟩:=z'z.1 e1
  obtain⟨q3,q4⟩:=z'z.1 e2
  obtain rfl:=(List.getElem_inj hk).1 (q2.trans q4.symm)
  rw[h2]at hi
  cases hi;rfl
 ·rename_i hn
  exact absurd (z'w.2 ⟨_,h,rfl⟩) (ZbS hn)
theorem Zsv {l:Km} {s:ByteArray} (h:s∈kmK l): ∃v b,(s,v,b)∈l:=by
 obtain⟨x,h1,rfl⟩:=z'w.1 h
 exact⟨_,_,h1⟩
theorem Zrn {l:Km} {c n:Nat} {s:ByteArray} (hk:KmOk l c n) (t:ByteArray):kmV (w'a l c s).1 t=kmV l t+if s=t then 1 else 0:=by
 have hN:=(Zkk (s:=s) hk).keys
 have hK:=fun t=>ZmW (l:=l) (c:=c) (s:=s) t
 by_cases hs:s=t
 ·subst hs
  rw[if_pos rfl]
  unfold w'a at hN⊢
  split at hN
  ·rename_i p hp
   obtain⟨k,b,h1,h2⟩:=w'N (j:=p.1) (v:=p.2) hp
   have h3:kmV l s=p.2:=by unfold kmV;rw[hp]
   rw[h3]
   refine Zhl hN (b:=b) (x'3.2 ⟨k,?_⟩)
   simp only[List.getElem?_modify,h2,show p.1=k by omega,if_true,Option.map_eq_map,y'l]
  ·rename_i hn
   rw[Zkl (ZbS hn)]
   exact Zhl hN (b:=c) (z'X.2 (.inr (z'R.2 rfl)))
 ·rw[if_neg hs,Int.add_zero]
  by_cases ht:t∈kmK l
  ·obtain⟨v,b,h1⟩:=Zsv ht
   rw[Zhl hk.keys h1]
   refine Zhl hN (b:=b) ?_
   unfold w'a
   split
   ·rename_i p hp
    obtain⟨k,b',h2,h3⟩:=w'N (j:=p.1) (v:=p.2) hp
    obtain⟨i,hi⟩:=x'3.1 h1
    refine x'3.2 ⟨i,?_⟩
    have hne: ¬p.1=i:=fun e=>by
     rw[show i=k by omega,h3]at hi
     cases hi
     exact hs rfl
    simp only[List.getElem?_modify,hi,hne,if_false,Option.map_eq_map,y'l]
   ·exact z'X.2 (.inl h1)
  ·rw[Zkl ht,Zkl fun q=>((hK t).1 q).elim ht fun e=>hs e.symm]
structure CnOk (m:Km) (c:Nat) (l:List ByteArray):Prop where
 ok:KmOk m c l.length
 val: ∀s,kmV m s=cnF l s
theorem CnOk.nil:CnOk [] 0 []:=⟨KmOk.nil,fun _=>rfl⟩
theorem CnOk.snoc {m:Km} {c:Nat} {l:List ByteArray} (h:CnOk m c l) (s:ByteArray):CnOk (w'a m c s).1 (w'a m c s).2 (l++[s]):=by
 refine⟨by rw[z'e];exact Zkk h.ok,fun t=>?_⟩
 rw[Zrn h.ok,h.val,Zcx]
 split<;>simp
theorem Zsl (l:List ByteArray) (s:ByteArray):cnF l s≤l.length:=List.countP_le_length
end Go.Proofs.YthlkpnjjkgmlkaaGreat
