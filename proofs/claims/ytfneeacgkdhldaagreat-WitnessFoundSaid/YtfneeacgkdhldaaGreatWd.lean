/- Contracts: store, more. No condition. -/
import Derived.Test.YtfneeacgkdhldaaGreatWb
namespace Go.Proofs.YtfneeacgkdhldaaGreat
set_option linter.unusedSimpArgs false
set_option linter.unusedVariables false
set_option maxRecDepth 20000
open Go Go.Proofs Go.Vc
attribute [local irreducible] y'5 VCg VCw VCx
def w'u (k:Nat) (b:List En):List En:=b.take k++b.drop (k+1)
theorem Zo2 (b:List En) (hb:b.length≤1000000) (k:Nat) (hk:k<b.length):Pure Tryz.prog 185 [buf b,iD (k:Nat)] (buf (w'u k b)):=by
 refine Fun.fz ?_
 have hw2:IntKind.i64.wrap ((k:Int)+1)=((k+1:Nat):Int):=by rw[w64 (by omega)];omega
 have hl:(b.take k).length=k:=by rw[z'F];omega
 have hl2:(b.drop (k+1)).length=b.length-(k+1):=x'2
 refine Fun.of T [.tmp 4] Tryz.func185 rfl Tryz.ntmps185 Tryz.results185 rfl (by kernel_rfl) ?_
 have hkb:Nat.beq k k=true:=Nat.beq_refl k
 repeat' first|refine dr (id:=1) T 8 (by kernel_rfl) ?_|refine gn ?_|apply VCg.step T rfl rfl;focus((try simp (disch:=omega) only[go_sem,Nat.reduceBEq,z'A,hw2,ZkD,Zhv,hkb]);(first|exact rfl|refine⟨?_,rfl⟩;try omega))|refine vs T rfl fun K hK=>?_;(try simp (disch:=omega) only[go_sem,Nat.reduceBEq,z'A]);(first|refine hK _ _ ?_;clear hK K|skip)|refine st rfl ?_|refine nl ?_
 refine⟨_,_,⟨rfl,rfl⟩,by rw[hl,hl2];omega,fun h0=>hK _ _ ?_,fun h0 b' cap' hb' hcap=>hK _ _ ?_⟩<;>clear hK K
 ·repeat' first|refine vs T rfl fun K hK=>?_;(try simp (disch:=omega) only[go_sem,Nat.reduceBEq]);(refine hK _ _ ?_;clear hK K)|refine st rfl ?_|refine nl ?_
  refine z'n T (z'p _) (.inr ⟨rfl,.inl ⟨true,?_⟩⟩)
  have:b.drop (k+1)=[]:=z'2 h0
  rw[w'u,this,z'x]
  rfl
 ·repeat' first|refine vs T rfl fun K hK=>?_;(try simp (disch:=omega) only[go_sem,Nat.reduceBEq]);(refine hK _ _ ?_;clear hK K)|refine st rfl ?_|refine nl ?_
  have hrows:(eRs (b.take k)).flatten++(eRs (b.drop (k+1))).flatten=(eRs (w'u k b)).flatten:=by rw[w'u,w'b,y'J]
  rw[hrows]
  refine z'n T (z'p _) (.inr ⟨rfl,.inr (.inr ⟨b',0,_,cap',.inl ⟨rfl,rfl⟩,?_,_,_,_,z'D ..,FzR.refl _ _ (w'6 _)⟩)⟩)
  rw[z'A,w'u,z'o]
def ZaK (m loc:Int) (b:List En):Int:=x'n (z'U m loc b)
theorem Zn2 (b:List En) (hb:b.length≤1000000) (m loc:Int):Pure Tryz.prog 184 [buf b,iD m,iD loc] (iD (ZaK m loc b)):=by
 refine Fun.of T [.tmp 6] Tryz.func184 rfl Tryz.ntmps184 Tryz.results184 rfl (by kernel_rfl) ?_
 by_cases h3:m=3
 ·subst h3
  have hp:ZaK 3 loc b=x'n (w'T loc b):=rfl
  rw[hp]
  repeat' first|refine vs T rfl fun K hK=>?_;(try simp (disch:=omega) only[go_sem,Nat.reduceBEq,Nat.reduceAdd,beq_self_eq_true]);(first|refine hK _ _ ?_;clear hK K|refine Op1.callp rfl rfl (Zl8 b hb _) rfl ?_;refine hK _ _ ?_;clear hK K)|refine st rfl ?_|refine sc rfl ?_|refine nl ?_|exact z'n T (z'a _) ⟨rfl,rfl⟩
 ·have e3:(m == 3)=false:=by simpa using h3
  by_cases h2:m=2
  ·subst h2
   rcases y'3 b.length with hz|hpos
   ·have hb0:b=[]:=z'2 hz
    have hp:ZaK 2 loc b= -1:=by subst hb0;simp[ZaK,z'U,x'n]
    have hd:decide ((b.length:Int)>0)=false:=by rw[hz];rfl
    rw[hp]
    repeat' first|refine vs T rfl fun K hK=>?_;(try simp (disch:=omega) only[go_sem,Nat.reduceBEq,Nat.reduceAdd,e3,beq_self_eq_true,hd,z'A]);(refine hK _ _ ?_;clear hK K)|refine st rfl ?_|refine sc rfl ?_|refine nl ?_|refine gs rfl rfl ?_|refine gu rfl rfl ?_|exact z'n T (z'a _) ⟨rfl,rfl⟩
   ·obtain⟨x,hx0⟩: ∃x,b[0]?=some x:=⟨_,z'b hpos⟩
    have hne:b≠[]:=fun h=>by rw[h]at hpos;simp at hpos
    have hh:b.head?=some x:=by rw[List.head?_eq_getElem?];exact hx0
    have hd:decide ((b.length:Int)>0)=true:=by simp;omega
    have hrow:(eRs b)[0]?=some [iD x.1,iD x.2]:=by rw[w'o,hx0];rfl
    by_cases h0:loc<0
    ·have h0':decide (loc<0)=true:=by simpa using h0
     have hp:ZaK 2 loc b=0:=by simp[ZaK,z'U,h0,x'n,hne]
     rw[hp]
     repeat' first|refine vs T rfl fun K hK=>?_;(try simp (disch:=omega) only[go_sem,Nat.reduceBEq,Nat.reduceAdd,e3,beq_self_eq_true,hd,h0',z'A]);(refine hK _ _ ?_;clear hK K)|refine st rfl ?_|refine sc rfl ?_|refine nl ?_|refine gs rfl rfl ?_|exact z'n T (z'a _) ⟨rfl,rfl⟩
    ·have h0':decide (loc<0)=false:=by simpa using h0
     by_cases hx:x.1=loc
     ·have hx':(x.1 == loc)=true:=by simpa using hx
      have hp:ZaK 2 loc b=0:=by simp[ZaK,z'U,hh,hx,x'n,hne]
      rw[hp]
      repeat' first|refine vs T rfl fun K hK=>?_;(try simp (disch:=omega) only[go_sem,Nat.reduceBEq,Nat.reduceAdd,Int.reduceToNat,e3,beq_self_eq_true,hd,h0',hx',hrow,z'A]);(first|refine hK _ _ ?_;clear hK K|refine⟨?_,hK _ _ ?_⟩<;>clear hK K;focus(try omega))|refine st rfl ?_|refine sc rfl ?_|refine nl ?_|refine gs rfl rfl ?_|exact z'n T (z'a _) ⟨rfl,rfl⟩
     ·have hx':(x.1 == loc)=false:=by simpa using hx
      have hp:ZaK 2 loc b= -1:=by simp[ZaK,z'U,h0,hh,hx,x'n]
      rw[hp]
      repeat' first|refine vs T rfl fun K hK=>?_;(try simp (disch:=omega) only[go_sem,Nat.reduceBEq,Nat.reduceAdd,Int.reduceToNat,e3,beq_self_eq_true,hd,h0',hx',hrow,z'A]);(first|refine hK _ _ ?_;clear hK K|refine⟨?_,hK _ _ ?_⟩<;>clear hK K;focus(try omega))|refine st rfl ?_|refine sc rfl ?_|refine nl ?_|refine gs rfl rfl ?_|exact z'n T (z'a _) ⟨rfl,rfl⟩
  ·have e2:(m == 2)=false:=by simpa using h2
   have hp:ZaK m loc b= -1:=by simp[ZaK,z'U,h2,h3,x'n]
   rw[hp]
   repeat' first|refine vs T rfl fun K hK=>?_;(try simp (disch:=omega) only[go_sem,Nat.reduceBEq,Nat.reduceAdd,e3,e2]);(refine hK _ _ ?_;clear hK K)|refine st rfl ?_|refine sc rfl ?_|refine nl ?_|refine gs rfl rfl ?_|refine gu rfl rfl ?_|exact z'n T (z'a _) ⟨rfl,rfl⟩
theorem ZbC {m loc:Int} {b:List En} {k:Nat} (h:z'U m loc b=some k):k<b.length:=by
 unfold z'U at h
 split at h
 ·exact Zgc h
 ·split at h
  ·rename_i hc
   obtain rfl:=y'k h
   have:=hc.2.1
   rcases b with _|⟨x,r⟩
   ·exact absurd rfl this
   ·simp
  ·cases h
def y'T (m loc:Int) (b:List En):List En×En×Bool:=match z'U m loc b with
 |none=>(b,(0,0),false)
 |some k=>(w'u k b,(b[k]?).getD (0,0),true)
def Zpw (p:List En×En×Bool):D:= .tup [buf p.1,.agg [iD p.2.1.1,iD p.2.1.2],bD p.2.2]
theorem Zaj {P:Program} (T:Tab P) {E:Nat→D} {H:Heap} {u a v:Tmp} {ty:TypeId} {Φ:D→Heap→Prop} {H':Heap} {b n:Nat} {ty':TypeId} {l:List D} (ha:E a= .is (.pointer (some ⟨b,0,none⟩))) (hb:w'U H b=some (.cells ty' n l))
  (hk:(T.get ty).known=true) (hz:(T.get ty).size=l.length) (hag:(T.get ty).agg=true) (hs:H'.Sublist H) (h:Φ (.tup [E u,.agg l,E v]) H'):y'5 T [.tmp u,.cell a ty,.tmp v] Φ .ret ⟨E,H⟩:=
 by unfold y'5;exact⟨[E u,.agg l,E v],H',⟨_,rfl,b,ty',n,l,_,ha,w'I hb,hk,hz,by rw[hag],_,rfl,rfl⟩,hs,h⟩
theorem Zk9 (b:List En) (hb:b.length≤1000000) (m loc:Int):Pure Tryz.prog 183 [buf b,iD m,iD loc] (Zpw (y'T m loc b)):=by
 have c0:=Zn2 b hb m loc
 unfold ZaK at c0
 refine Fun.of T [.tmp 6,.cell 7 114,.tmp 8] Tryz.func183 rfl Tryz.ntmps183 Tryz.results183 rfl (by kernel_rfl) ?_
 cases hn:z'U m loc b with
 |none=>
  have hp:y'T m loc b=(b,(0,0),false):=by simp[y'T,hn]
  rw[hn]at c0
  rw[hp]
  repeat' first|refine vs T rfl fun K hK=>?_;(try simp (disch:=omega) only[go_sem,Nat.reduceBEq,Nat.reduceAdd,Nat.reduceLeDiff,x'n,beq_self_eq_true]);(first|refine hK _ _ ?_;clear hK K|intro bq hbq;(try simp only[HB]at hbq);refine hK _ _ ?_;clear hK K|refine Op1.callp rfl rfl (c0) rfl ?_;refine hK _ _ ?_;clear hK K|refine Op1.callp rfl rfl (Zh1 b hb) rfl ?_;refine hK _ _ ?_;clear hK K)|refine st rfl ?_|refine sc rfl ?_|refine nl ?_
  exact Zaj T rfl (hget_eq) rfl rfl rfl (z'a _) ⟨rfl,rfl⟩
 |some k=>
  have hk:=ZbC hn
  obtain⟨x,hx⟩: ∃x,b[k]?=some x:=⟨_,z'b hk⟩
  have hp:y'T m loc b=(w'u k b,x,true):=by simp[y'T,hn,hx]
  have hrow:(eRs b)[k]?=some [iD x.1,iD x.2]:=by rw[w'o,hx];rfl
  have hne:((k:Int) == -1)=false:=by rw[beq_eq_false_iff_ne];omega
  rw[hn]at c0
  rw[hp]
  repeat' first|refine dr (id:=4) T 9 (by kernel_rfl) ?_|refine gn ?_|apply VCg.step T rfl rfl;focus((try simp (disch:=omega) only[go_sem,Nat.reduceBEq,Nat.reduceAdd,Nat.reduceLeDiff,hrow,z'A]);(first|exact rfl|refine⟨?_,rfl⟩;try omega|refine Op1.callp rfl rfl (Zh1 b hb) rfl ?_;exact⟨rfl,rfl⟩|refine Op1.callp rfl rfl (Zo2 b hb k hk) rfl ?_;exact⟨rfl,rfl⟩))|refine vs T rfl fun K hK=>?_;(try simp (disch:=omega) only[go_sem,Nat.reduceBEq,Nat.reduceAdd,Nat.reduceLeDiff,x'n,hne]);(first|refine hK _ _ ?_;clear hK K|intro bq hbq;(try simp only[HB]at hbq);refine hK _ _ ?_;clear hK K|refine Op1.callp rfl rfl (c0) rfl ?_;refine hK _ _ ?_;clear hK K)|refine st rfl ?_|refine sc rfl ?_|refine nl ?_
  exact Zaj T rfl (hget_eq) rfl rfl rfl (z'a _) ⟨rfl,rfl⟩
theorem lastF_at {loc:Int}: ∀{b:List En} {k:Nat} {x:En},b[k]?=some x→x.1=loc→(∀(i:Nat) (y:En),k<i→b[i]?=some y→y.1≠loc)→w'9 loc b=some x.2
 |x0::r,0,x,h,hx,hno=>by
  obtain rfl:x0=x:=by simpa using h
  have:w'9 loc r=none:=lastF_no fun i y hy=>hno (i+1) y (by omega) (by simpa using hy)
  simp[w'9,this,hx]
 |x0::r,k+1,x,h,hx,hno=>by
  have:=lastF_at (b:=r) (k:=k) (by simpa using h) hx fun i y hi hy=>hno (i+1) y (by omega) (by simpa using hy)
  simp[w'9,this]
where
 lastF_no {loc:Int}: ∀{b:List En},(∀(i:Nat) (y:En),b[i]?=some y→y.1≠loc)→w'9 loc b=none
 |[],_=>rfl
 |x0::r,hno=>by
  have h0:x0.1≠loc:=hno 0 x0 rfl
  have:=lastF_no (b:=r) fun i y hy=>hno (i+1) y (by simpa using hy)
  simp[w'9,h0,this]
def Znf (o:Option Int):D:= .tup [iD (o.getD 0),bD o.isSome]
theorem ZnV (b:List En) (hb:b.length≤1000000) (loc:Int):Pure Tryz.prog 173 [buf b,iD loc] (Znf (w'9 loc b)):=by
 have hw0:IntKind.i64.wrap ((b.length:Int)-1)=(b.length:Int)-1:=by rw[w64 (by omega)]
 refine Fun.of T [.tmp 4,.tmp 5] Tryz.func173 rfl Tryz.ntmps173 Tryz.results173 rfl (by kernel_rfl) ?_
 repeat' first|refine vs T rfl fun K hK=>?_;(try simp (disch:=omega) only[go_sem,Nat.reduceBEq,z'A,hw0]);(refine hK _ _ ?_;clear hK K)|refine st rfl ?_|refine nl ?_
 refine VC.loop {k:Nat//k≤b.length∧ ∀(i:Nat) (y:En),k≤i→b[i]?=some y→y.1≠loc} (fun p=>⟨z'J [(0,buf b),(1,iD loc),(6,iD ((p.1:Nat)-1:Int))],[]⟩) (fun p=>p.1) ⟨b.length,by omega,fun i y hi hy=>by have:=(z'c.1 hy).1;omega⟩ ?_ ?_
 ·refine Weak.sub ?_
  simp[sub,upd]
 ·rintro⟨k,hk,hno⟩
  dsimp only
  rcases k with _|k
  ·have hd:decide (((0:Nat):Int)-1≥0)=false:=by decide
   have hf:w'9 loc b=none:=lastF_at.lastF_no fun i y hy=>hno i y (by omega) hy
   rw[hf]
   repeat' first|refine vs T rfl fun K hK=>?_;(try simp (disch:=omega) only[go_sem,Nat.reduceBEq,hd]);(refine hK _ _ ?_;clear hK K)|refine st rfl ?_|refine sc rfl ?_|refine nl ?_|exact y'9 T (z'a _) ⟨rfl,rfl⟩
  ·have hd:decide (((k+1:Nat):Int)-1≥0)=true:=by rw[decide_eq_true_eq];omega
   have hi:((k+1:Nat):Int)-1=(k:Int):=by omega
   have hw:IntKind.i64.wrap ((k:Int)-1)=(k:Int)-1:=by rw[w64 (by omega)]
   obtain⟨x,hx⟩: ∃x,b[k]?=some x:=⟨_,z'b (by omega)⟩
   have hrow:(eRs b)[k]?=some [iD x.1,iD x.2]:=by rw[w'o,hx];rfl
   rw[hi]at hd⊢
   by_cases he:x.1=loc
   ·have he':(x.1 == loc)=true:=by simpa using he
    have hf:=lastF_at hx he fun i y h1 h2=>hno i y (by omega) h2
    rw[hf]
    repeat' first|refine vs T rfl fun K hK=>?_;(try simp (disch:=omega) only[go_sem,Nat.reduceBEq,hd,hrow,he',z'A]);(first|refine hK _ _ ?_;clear hK K|refine⟨?_,hK _ _ ?_⟩<;>clear hK K;focus(try omega))|refine st rfl ?_|refine sc rfl ?_|refine nl ?_|exact y'9 T (z'a _) ⟨rfl,rfl⟩
   ·have he':(x.1 == loc)=false:=by simpa using he
    repeat' first|refine vs T rfl fun K hK=>?_;(try simp (disch:=omega) only[go_sem,Nat.reduceBEq,hd,hw,hrow,he',z'A]);(first|refine hK _ _ ?_;clear hK K|refine⟨?_,hK _ _ ?_⟩<;>clear hK K;focus(try omega))|refine st rfl ?_|refine sc rfl ?_|refine nl ?_
    refine⟨⟨k,by omega,fun i y h1 h2=>?_⟩,Weak.sub ?_,by simp only[];omega⟩
    ·rcases x'd h1 with rfl|h'
     ·rw[hx]at h2;cases h2;exact he
     ·exact hno i y (by omega) h2
    ·simp[sub,upd]
theorem ZoF (a b:List En) (ha:a.length≤1000000) (hb:b.length≤1000000):Pure Tryz.prog 73 [buf a,buf b] (bD (decide (a=b))):=by
 refine Fun.of T [.tmp 4] Tryz.func73 rfl Tryz.ntmps73 Tryz.results73 rfl (by kernel_rfl) ?_
 by_cases hl:a.length=b.length
 ·have hl':((a.length:Int) != (b.length:Int))=false:=by simp[hl]
  repeat' first|refine vs T rfl fun K hK=>?_;(try simp (disch:=omega) only[go_sem,Nat.reduceBEq,z'A,hl']);(refine hK _ _ ?_;clear hK K)|refine st rfl ?_|refine sc rfl ?_|refine nl ?_
  refine VC.loop {k:Nat//k≤a.length∧ ∀i,i<k→a[i]?=b[i]?} (fun p=>⟨z'J [(0,buf a),(1,buf b),(5,iD (p.1:Nat))],[]⟩) (fun p=>a.length-p.1) ⟨0,by omega,fun i hi=>by omega⟩ ?_ ?_
  ·refine Weak.sub ?_
   simp[sub,upd]
  ·rintro⟨k,hk,hs⟩
   dsimp only
   rcases z'g k a.length with hlt|hge
   ·have hd:decide ((k:Int)<(a.length:Int))=true:=by simp;omega
    have hw:IntKind.i64.wrap ((k:Int)+1)=((k+1:Nat):Int):=by rw[w64 (by omega)];omega
    have hkb:k<b.length:=by omega
    obtain⟨x,hx⟩: ∃x,a[k]?=some x:=⟨_,z'b hlt⟩
    obtain⟨y,hy⟩: ∃y,b[k]?=some y:=⟨_,z'b hkb⟩
    have hrx:(eRs a)[k]?=some [iD x.1,iD x.2]:=by rw[w'o,hx];rfl
    have hry:(eRs b)[k]?=some [iD y.1,iD y.2]:=by rw[w'o,hy];rfl
    by_cases he:x=y
    ·subst he
     repeat' first|refine dr (id:=6) T 8 (by kernel_rfl) ?_|refine gn ?_|apply VCg.step T rfl rfl;focus((try simp (disch:=omega) only[go_sem,Nat.reduceBEq,Nat.reduceAdd,Nat.reduceLeDiff,hrx,hry,z'A,beq_self_eq_true]);(first|exact rfl|refine⟨?_,rfl⟩;try omega))|refine vs T rfl fun K hK=>?_;(try simp (disch:=omega) only[go_sem,Nat.reduceBEq,hd,hw,z'A,beq_self_eq_true,z'l]);(first|refine hK _ _ ?_;clear hK K|refine Op1.eqS rfl (ZjP _ _ _ _) rfl rfl rfl ?_;refine hK _ _ ?_;clear hK K)|refine st rfl ?_|refine sc rfl ?_|refine nl ?_|with_reducible refine gf ?_ ?_;focus(simp (disch:=omega) only[go_sem,beq_self_eq_true,z'l];done)
     refine⟨⟨k+1,by omega,fun i hi=>?_⟩,Weak.sub ?_,by simp only[];omega⟩
     ·rcases z'g i k with h'|h'
      ·exact hs i h'
      ·obtain rfl:i=k:=by omega
       rw[hx,hy]
     ·simp[sub,upd]
    ·have hne:(x.1 == y.1&&x.2 == y.2)=false:=by
      rw[Bool.eq_false_iff]
      simp only[z'i,beq_iff_eq,ne_eq]
      exact fun h=>he (Prod.ext h.1 h.2)
     have hab:decide (a=b)=false:=by
      rw[decide_eq_false_iff_not]
      intro h
      rw[h,hy]at hx
      exact he (y'k hx).symm
     rw[hab]
     repeat' first|refine dr (id:=6) T 8 (by kernel_rfl) ?_|refine gn ?_|apply VCg.step T rfl rfl;focus((try simp (disch:=omega) only[go_sem,Nat.reduceBEq,Nat.reduceAdd,Nat.reduceLeDiff,hrx,hry,z'A]);(first|exact rfl|refine⟨?_,rfl⟩;try omega))|refine vs T rfl fun K hK=>?_;(try simp (disch:=omega) only[go_sem,Nat.reduceBEq,hd,hne,z'A,z'r]);(first|refine hK _ _ ?_;clear hK K|refine Op1.eqS rfl (ZjP _ _ _ _) rfl rfl rfl ?_;refine hK _ _ ?_;clear hK K)|refine st rfl ?_|refine sc rfl ?_|refine nl ?_|exact z'n T (z'a _) ⟨rfl,rfl⟩|with_reducible refine gt ?_ ?_;focus(simp (disch:=omega) only[go_sem,hne,z'r];done)
   ·have hd:decide ((k:Int)<(a.length:Int))=false:=by simp;omega
    have hab:decide (a=b)=true:=by
     rw[decide_eq_true_eq]
     apply w'k
     intro i
     rcases z'g i a.length with h'|h'
     ·exact hs i (by omega)
     ·rw[z'z h',z'z (by omega)]
    rw[hab]
    repeat' first|refine vs T rfl fun K hK=>?_;(try simp (disch:=omega) only[go_sem,Nat.reduceBEq,hd,z'A]);(refine hK _ _ ?_;clear hK K)|refine st rfl ?_|refine sc rfl ?_|refine nl ?_|exact z'n T (z'a _) ⟨rfl,rfl⟩
 ·have hl':((a.length:Int) != (b.length:Int))=true:=bne_iff_ne.2 (by omega)
  have hab:decide (a=b)=false:=by
   rw[decide_eq_false_iff_not]
   intro h
   exact hl (by rw[h])
  rw[hab]
  repeat' first|refine vs T rfl fun K hK=>?_;(try simp (disch:=omega) only[go_sem,Nat.reduceBEq,z'A,hl']);(refine hK _ _ ?_;clear hK K)|refine st rfl ?_|refine sc rfl ?_|refine nl ?_|exact z'n T (z'a _) ⟨rfl,rfl⟩
theorem z'k (l:List Int):(iRs l).length=l.length:=z's ..
theorem y'Q (l:List Int) (i:Nat):(iRs l)[i]?=(l[i]?).map fun n=>[iD n]:=y'c ..
theorem Zb9 (l:List Int): ∀r,r∈iRs l→r.length=1:=by
 intro r h
 obtain⟨x,_,rfl⟩:=z'y.1 h
 rfl
theorem Zac (l:List Int):(iRs l).flatten=l.map iD:=by
 induction l with
 |nil=>rfl
 |cons n l ih=>rw[iRs,z'B,z'0];rw[iRs]at ih;rw[ih];rfl
theorem Zgh (a b:List Int) (ha:a.length≤1000000) (hb:b.length≤1000000):Pure Tryz.prog 72 [z'C a,z'C b] (bD (decide (a=b))):=by
 refine Fun.of T [.tmp 4] Tryz.func72 rfl Tryz.ntmps72 Tryz.results72 rfl (by kernel_rfl) ?_
 by_cases hl:a.length=b.length
 ·have hl':((a.length:Int) != (b.length:Int))=false:=by simp[hl]
  repeat' first|refine vs T rfl fun K hK=>?_;(try simp (disch:=omega) only[go_sem,Nat.reduceBEq,z'k,hl']);(refine hK _ _ ?_;clear hK K)|refine st rfl ?_|refine sc rfl ?_|refine nl ?_
  refine VC.loop {k:Nat//k≤a.length∧ ∀i,i<k→a[i]?=b[i]?} (fun p=>⟨z'J [(0,z'C a),(1,z'C b),(5,iD (p.1:Nat))],[]⟩) (fun p=>a.length-p.1) ⟨0,by omega,fun i hi=>by omega⟩ ?_ ?_
  ·refine Weak.sub ?_
   simp[sub,upd]
  ·rintro⟨k,hk,hs⟩
   dsimp only
   rcases z'g k a.length with hlt|hge
   ·have hd:decide ((k:Int)<(a.length:Int))=true:=by simp;omega
    have hw:IntKind.i64.wrap ((k:Int)+1)=((k+1:Nat):Int):=by rw[w64 (by omega)];omega
    have hkb:k<b.length:=by omega
    obtain⟨x,hx⟩: ∃x,a[k]?=some x:=⟨_,z'b hlt⟩
    obtain⟨y,hy⟩: ∃y,b[k]?=some y:=⟨_,z'b hkb⟩
    have hrx:(iRs a)[k]?=some [iD x]:=by rw[y'Q,hx];rfl
    have hry:(iRs b)[k]?=some [iD y]:=by rw[y'Q,hy];rfl
    by_cases he:x=y
    ·have he':(x != y)=false:=by simp[he]
     repeat' first|refine dr (id:=6) T 8 (by kernel_rfl) ?_|refine gn ?_|apply VCg.step T rfl rfl;focus((try simp (disch:=omega) only[go_sem,Nat.reduceBEq,hrx,hry,z'k]);(first|exact rfl|refine⟨?_,rfl⟩;try omega))|refine vs T rfl fun K hK=>?_;(try simp (disch:=omega) only[go_sem,Nat.reduceBEq,hd,hw,he',z'k]);(refine hK _ _ ?_;clear hK K)|refine st rfl ?_|refine sc rfl ?_|refine nl ?_
     refine⟨⟨k+1,by omega,fun i hi=>?_⟩,Weak.sub ?_,by simp only[];omega⟩
     ·rcases z'g i k with h'|h'
      ·exact hs i h'
      ·obtain rfl:i=k:=by omega
       rw[hx,hy,he]
     ·simp[sub,upd]
    ·have he':(x != y)=true:=by simpa using he
     have hab:decide (a=b)=false:=by
      rw[decide_eq_false_iff_not]
      intro h
      rw[h,hy]at hx
      exact he (y'k hx).symm
     rw[hab]
     repeat' first|refine dr (id:=6) T 8 (by kernel_rfl) ?_|refine gn ?_|apply VCg.step T rfl rfl;focus((try simp (disch:=omega) only[go_sem,Nat.reduceBEq,hrx,hry,z'k]);(first|exact rfl|refine⟨?_,rfl⟩;try omega))|refine vs T rfl fun K hK=>?_;(try simp (disch:=omega) only[go_sem,Nat.reduceBEq,hd,he',z'k]);(refine hK _ _ ?_;clear hK K)|refine st rfl ?_|refine sc rfl ?_|refine nl ?_|exact z'n T (z'a _) ⟨rfl,rfl⟩
   ·have hd:decide ((k:Int)<(a.length:Int))=false:=by simp;omega
    have hab:decide (a=b)=true:=by
     rw[decide_eq_true_eq]
     apply w'k
     intro i
     rcases z'g i a.length with h'|h'
     ·exact hs i (by omega)
     ·rw[z'z h',z'z (by omega)]
    rw[hab]
    repeat' first|refine vs T rfl fun K hK=>?_;(try simp (disch:=omega) only[go_sem,Nat.reduceBEq,hd,z'k]);(refine hK _ _ ?_;clear hK K)|refine st rfl ?_|refine sc rfl ?_|refine nl ?_|exact z'n T (z'a _) ⟨rfl,rfl⟩
 ·have hl':((a.length:Int) != (b.length:Int))=true:=bne_iff_ne.2 (by omega)
  have hab:decide (a=b)=false:=by
   rw[decide_eq_false_iff_not]
   intro h
   exact hl (by rw[h])
  rw[hab]
  repeat' first|refine vs T rfl fun K hK=>?_;(try simp (disch:=omega) only[go_sem,Nat.reduceBEq,z'k,hl']);(refine hK _ _ ?_;clear hK K)|refine st rfl ?_|refine sc rfl ?_|refine nl ?_|exact z'n T (z'a _) ⟨rfl,rfl⟩
theorem ZfI (o:Option Nat) (k:Nat):(x'n o == (k:Int))=decide (o=some k):=by
 cases o with
 |none=>
  have:(x'n none == (k:Int))=false:=by rw[beq_eq_false_iff_ne];simp only[x'n];omega
  simp[this]
 |some j=>simp only[x'n,y'v];rw[x'Y];simp;omega
def ZjG (md lc:Int) (x:En):Bool:=decide (x.1<0)||decide (x.1≥lc)||decide (x.2<0)||decide (x.2≥md)
def Zhp (m r:Int) (b:List En) (i:Nat) (x:En):Bool:=decide (m=3)&&((decide (i>0)&&decide (((b[i-1]?).getD (0,0)).1>x.1))||decide (((x'W x.1 b:Nat):Int)>r))
def Zft (m r md lc:Int) (b:List En) (i:Nat):Bool:=ZjG md lc ((b[i]?).getD (0,0))||Zhp m r b i ((b[i]?).getD (0,0))
theorem x'T {H:Heap}:FzL H [] []:=rfl
theorem z't {H:Heap} {d' d:D} {ds' ds:List D} (h:Fz H d' d) (hs:FzL H ds' ds):FzL H (d'::ds') (d::ds):=⟨d,ds,rfl,h,hs⟩
theorem ZaJ {H:Heap} {f:Bool} {esz:Nat} {rows:List (List D)}:Fz H (.sl false esz rows) (.sl f esz rows):= .inr ⟨rfl,.inl ⟨f,rfl⟩⟩
theorem y'q {H:Heap} {esz:Nat}:Fz H (.sl false esz []) (.gs none 0):= .inr ⟨rfl,.inr (.inl ⟨rfl,rfl⟩)⟩
theorem Zmb {H:Heap} {d' d:D} {ds:List D} (h:Fz H d' d):FzL H (d'::ds) (d::ds):=z't h (FzL.refl _ _)
theorem x't {H:Heap} {d0 d' d:D} {ds:List D} (h:Fz H d' d):FzL H (d0::d'::ds) (d0::d::ds):=z't (Fz.refl _ _) (Zmb h)
theorem HInv.none {w:World} {L0:Nat→Prop} (h:HInv w L0 []):ZeZ w L0 [] [] (live [] L0):=⟨h,fun b c hm=>(by cases hm),fun b _ hl=>hl⟩
theorem Fun.argsW {P:Program} {f:FuncId} {args args':List D} {d:D} (h:Pure P f args' d) (hf:FzL [] args' args):Pure P f args d:=
 ⟨h.1,fun w L0 vs hi hr=>h.2 w L0 vs hi (RelL.fz (HInv.none hi) _ _ _ hf hr)⟩
theorem VCg.stepS {P:Program} (T:Tab P) {ops:Array Oper} {H:Heap} {K:(Nat→D)→List (Tmp×NewI)→Prop} {m:Nat} {E:Nat→D} {news:List (Tmp×NewI)} {o:Oper} {l:List Oper} {d:D} {t:Tmp}
  (hg:o.guard=none) (ht:o.dst=some t) (h1:OpS P o (evD E) H (fun d' H'=>d'=d∧H'=H)) (h2:VCg T ops H K m l (upd E t d) news):VCg T ops H K (m+1) (o::l) E news:=
 by unfold VCg;exact⟨.det d,⟨.inl hg,h1⟩,by rw[v'K,z'x,ht];exact h2⟩
def Zpt (x:En):Prop:=(0≤x.1∧x.1<4)∧(0≤x.2∧x.2<8)
def InvQ (m:Int) (is b:List En):Prop:=b.length=is.length∧(∀x,x∈b→Zpt x)∧(m=2∧b=is∨m=3∧Srt b∧SameQ is b)
theorem InvQ.zero {m:Int} (h:m=2∨m=3):InvQ m [] []:=⟨rfl,fun x h=>(by cases h),h.imp (fun h=>⟨h,rfl⟩) (fun h=>⟨h,trivial,fun _=>rfl⟩)⟩
theorem InvQ.push {m:Int} {is b:List En} {e:En} (h:InvQ m is b) (he:Zpt e):InvQ m (is++[e]) (w'c m e b):=by
 obtain⟨h1,h2,h3⟩:=h
 rcases h3 with⟨rfl,rfl⟩|⟨rfl,h4,h5⟩
 ·have hp:w'c 2 e b=b++[e]:=rfl
  rw[hp]
  refine⟨rfl,fun x hx=>?_,.inl ⟨rfl,rfl⟩⟩
  rcases y'g.1 hx with hx|hx
  ·exact h2 x hx
  ·rw[y'E]at hx;subst hx;exact he
 ·have hp:w'c 3 e b=w'h e b:=rfl
  rw[hp]
  refine⟨by rw[Zcm,z'o,h1];rfl,fun x hx=>?_,.inr ⟨rfl,Zfb e b h4,fun loc=>?_⟩⟩
  ·rcases(Zdy e b x).1 hx with rfl|hx
   ·exact he
   ·exact h2 x hx
  ·rw[Zfa e loc b h4,v'L,h5 loc]
theorem Srt.le {b:List En} (h:Srt b): ∀(i:Nat) (x y:En),b[i]?=some x→b[i+1]?=some y→x.1≤y.1:=by
 induction b with
 |nil=>intro i x y hx;simp at hx
 |cons a r ih=>
  intro i x y hx hy
  cases i with
  |zero=>
   obtain rfl:a=x:=by simpa using hx
   exact h.1 y (z'h (by simpa using hy))
  |succ i=>exact ih h.2 i x y (by simpa using hx) (by simpa using hy)
def Inv2 (m:Int) (is b:List En):Prop:=b.length=is.length∧(m=2∧b=is∨m=3∧SameQ is b)
theorem ZkX {m:Int} {b:List En} {l:Int} (h:l∈Zax m b): ∃i x,b[i]?=some x∧x.1=l∧Zej m b i=true:=by
 obtain⟨i,hi,hl⟩:=z'y.1 h
 obtain⟨h1,h2⟩:=y'x.1 hi
 obtain⟨x,hx⟩: ∃x,b[i]?=some x:=⟨_,z'b (z'G.1 h1)⟩
 exact⟨i,x,hx,by rw[←hl,hx];rfl,h2⟩
theorem Zd9 {x:En} {r:List En}:Zax 2 (x::r)=[x.1]:=by
 unfold Zax ZkW
 have: ∀n,(List.range (n+1)).filter (Zej 2 (x::r))=[0]:=by
  intro n
  induction n with
  |zero=>simp[Zej]
  |succ n ih=>
   rw[y'l,y'D,ih]
   simp[Zej]
 rw[z'H,this]
 rfl
theorem Inv2.step {m:Int} {is b:List En} (h:Inv2 m is b) (hne:is≠[]):
  ∃l j k x,(Zax m b)[(Zax m b).length-1]?=some l∧0<(Zax m b).length∧(m=2→(Zax m b)[0]?=(is[0]?).map (·.1))∧z'U m l b=some j∧w'T l is=some k∧b[j]?=some x∧is[k]?=some x∧Inv2 m (w'u k is) (w'u j b):=by
 obtain⟨h1,h2⟩:=h
 have lens: ∀(k j:Nat),k<is.length→j<b.length→(w'u j b).length=(w'u k is).length:=fun k j hk hj=>by simp[w'u];omega
 rcases h2 with⟨rfl,rfl⟩|⟨rfl,hq⟩
 ·rcases b with _|⟨x,r⟩
  ·exact absurd rfl hne
  ·have hn:z'U 2 x.1 (x::r)=some 0:=by simp[z'U]
   have hf:w'T x.1 (x::r)=some 0:=by simp[w'T]
   exact⟨x.1,0,0,x,by rw[Zd9];rfl,by rw[Zd9];exact Nat.one_pos,fun _=>by rw[Zd9];rfl,hn,hf,rfl,rfl,rfl,.inl ⟨rfl,rfl⟩⟩
 ·rcases b with _|⟨y,r⟩
  ·exact absurd (z'2 h1.symm) hne
  ·have h0:Zej 3 (y::r) 0=true:=by simp[Zej,w'T]
   have hmem:y.1∈Zax 3 (y::r):=z'y.2 ⟨0,y'x.2 ⟨z'G.2 (by simp),h0⟩,rfl⟩
   have hpos:0<(Zax 3 (y::r)).length:=List.length_pos_of_mem hmem
   obtain⟨l,hl⟩: ∃l,(Zax 3 (y::r))[(Zax 3 (y::r)).length-1]?=some l:=⟨_,z'b (by omega)⟩
   obtain⟨i,x,hx,hxl,hs⟩:=ZkX (z'h hl)
   have hfi:w'T l (y::r)=some i:=by
    simp only[Zej,hx,z'L,hxl]at hs
    simpa using hs
   have hk: ∃k,w'T l is=some k:=by
    cases hc:w'T l is with
    |some k=>exact⟨k,rfl⟩
    |none=>
     have:=hq l
     rw[ZgD hc]at this
     obtain⟨z,p,q,e,_,hz,_⟩:=ZbV hfi
     rw[e,v'L]at this
     have hzq:que l (z::q)=z::que l q:=by rw[que,w'R];simp[hz,que]
     rw[hzq]at this
     simp at this
   obtain⟨k,hk⟩:=hk
   obtain⟨e1,e2⟩:=SameQ.cut hq hk hfi
   exact⟨l,i,k,x,hl,hpos,fun h=>absurd h (by decide),by simp[z'U,hfi],hk,hx,by rw[e1,hx],lens _ _ (Zgc hk) (Zgc hfi),.inr ⟨rfl,e2⟩⟩
theorem Weak.trans {s s' s'':St} (h:Weak s s') (h':Weak s' s''):Weak s s'':=fun x a w hs=>h' x a w (h x a w hs)
theorem Zat {g:Option (Nat×Nat)} {e:TypeId} {esz n:Nat} {rows:List (List D)} (hg:gOk g n) (hn:rows.length=n) (hr: ∀r,r∈rows→r.length=esz):Fz (shp g e esz rows.flatten []) (.sl false esz rows) (.gs g n):=by
 subst hn
 cases g with
 |none=>
  have h0:rows=[]:=z'2 hg
  subst h0
  exact .inr ⟨rfl,.inr (.inl ⟨rfl,rfl⟩)⟩
 |some p=>
  obtain⟨b,cap⟩:=p
  exact .inr ⟨rfl,.inr (.inr ⟨b,0,rows.length,cap,.inl ⟨rfl,rfl⟩,rfl,e,_,_,z'D ..,FzR.refl _ _ hr⟩)⟩
end Go.Proofs.YtfneeacgkdhldaaGreat
