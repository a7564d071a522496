/- Contracts: store, more. No condition. -/
import Derived.Test.YthlkpnjjkgmlkaaGreatWc
import Derived.Test.YthlkpnjjkgmlkaaGreatWb
import Derived.Test.YthlkpnjjkgmlkaaGreatFq
namespace Go.Proofs.YthlkpnjjkgmlkaaGreat
set_option maxHeartbeats 16000000
set_option linter.unusedSimpArgs false
set_option linter.unusedVariables false
set_option maxRecDepth 20000
open Go Go.Proofs Go.Vc
attribute [local irreducible] x'c VCg VCw VCx
def ZaN (k:Nat) (b:List En):List En:=b.take k++b.drop (k+1)
theorem Zth (b:List En) (hb:b.length≤1000000) (k:Nat) (hk:k<b.length):Pure Tryz.prog 348 [buf b,iD (k:Nat)] (buf (ZaN k b)):=by
 refine Fun.fz ?_
 have hw2:IntKind.i64.wrap ((k:Int)+1)=((k+1:Nat):Int):=by rw[w64 (by omega)];omega
 have hl:(b.take k).length=k:=by rw[z'y];omega
 have hl2:(b.drop (k+1)).length=b.length-(k+1):=y'C
 refine Fun.of T [.tmp 4] Tryz.func348 rfl Tryz.ntmps348 Tryz.results348 rfl (by kernel_rfl) ?_
 have hkb:Nat.beq k k=true:=w'3 k
 repeat' first|refine dr (id:=1) T 8 (by kernel_rfl) ?_|refine gn ?_|apply VCg.step T rfl rfl;focus((try simp (disch:=omega) only[go_sem,Nat.reduceBEq,z'7,hw2,Zos,Zj1,hkb]);(first|exact rfl|refine⟨?_,rfl⟩;try omega))|refine vs T rfl fun K hK=>?_;(try simp (disch:=omega) only[go_sem,Nat.reduceBEq,z'7]);(first|refine hK _ _ ?_;clear hK K|skip)|refine st rfl ?_|refine nl ?_
 refine⟨_,_,⟨rfl,rfl⟩,by rw[hl,hl2];omega,fun h0=>hK _ _ ?_,fun h0 b' cap' hb' hcap=>hK _ _ ?_⟩<;>clear hK K
 ·repeat' first|refine vs T rfl fun K hK=>?_;(try simp (disch:=omega) only[go_sem,Nat.reduceBEq]);(refine hK _ _ ?_;clear hK K)|refine st rfl ?_|refine nl ?_
  refine z'A T (z'w _) (.inr ⟨rfl,.inl ⟨true,?_⟩⟩)
  have:b.drop (k+1)=[]:=z'C h0
  rw[ZaN,this,z's]
  rfl
 ·repeat' first|refine vs T rfl fun K hK=>?_;(try simp (disch:=omega) only[go_sem,Nat.reduceBEq]);(refine hK _ _ ?_;clear hK K)|refine st rfl ?_|refine nl ?_
  have hrows:(eRs (b.take k)).flatten++(eRs (b.drop (k+1))).flatten=(eRs (ZaN k b)).flatten:=by rw[ZaN,Zbb,w'O]
  rw[hrows]
  refine z'A T (z'w _) (.inr ⟨rfl,.inr (.inr ⟨b',0,_,cap',.inl ⟨rfl,rfl⟩,?_,_,_,_,z'n ..,FzR.refl _ _ (ZfM _)⟩)⟩)
  rw[z'7,ZaN,z'h]
def Zal (m loc:Int) (b:List En):Int:=Zcq (w'9 m loc b)
theorem Zsn (b:List En) (hb:b.length≤1000000) (m loc:Int):Pure Tryz.prog 347 [buf b,iD m,iD loc] (iD (Zal m loc b)):=by
 refine Fun.of T [.tmp 6] Tryz.func347 rfl Tryz.ntmps347 Tryz.results347 rfl (by kernel_rfl) ?_
 by_cases h3:m=3
 ·subst h3
  have hp:Zal 3 loc b=Zcq (w'u loc b):=rfl
  rw[hp]
  repeat' first|refine vs T rfl fun K hK=>?_;(try simp (disch:=omega) only[go_sem,Nat.reduceBEq,Nat.reduceAdd,beq_self_eq_true]);(first|refine hK _ _ ?_;clear hK K|refine Op1.callp rfl rfl (Zp5 b hb _) rfl ?_;refine hK _ _ ?_;clear hK K)|refine st rfl ?_|refine sc rfl ?_|refine nl ?_|exact z'A T (z'a _) ⟨rfl,rfl⟩
 ·have e3:(m == 3)=false:=by simpa using h3
  by_cases h2:m=2
  ·subst h2
   rcases x'D b.length with hz|hpos
   ·have hb0:b=[]:=z'C hz
    have hp:Zal 2 loc b= -1:=by subst hb0;simp[Zal,w'9,Zcq]
    have hd:decide ((b.length:Int)>0)=false:=by rw[hz];rfl
    rw[hp]
    repeat' first|refine vs T rfl fun K hK=>?_;(try simp (disch:=omega) only[go_sem,Nat.reduceBEq,Nat.reduceAdd,e3,beq_self_eq_true,hd,z'7]);(refine hK _ _ ?_;clear hK K)|refine st rfl ?_|refine sc rfl ?_|refine nl ?_|refine gs rfl rfl ?_|refine gu rfl rfl ?_|exact z'A T (z'a _) ⟨rfl,rfl⟩
   ·obtain⟨x,hx0⟩: ∃x,b[0]?=some x:=⟨_,z'b hpos⟩
    have hne:b≠[]:=fun h=>by rw[h]at hpos;simp at hpos
    have hh:b.head?=some x:=by rw[List.head?_eq_getElem?];exact hx0
    have hd:decide ((b.length:Int)>0)=true:=by simp;omega
    have hrow:(eRs b)[0]?=some [iD x.1,iD x.2]:=by rw[Zbc,hx0];rfl
    by_cases h0:loc<0
    ·have h0':decide (loc<0)=true:=by simpa using h0
     have hp:Zal 2 loc b=0:=by simp[Zal,w'9,h0,Zcq,hne]
     rw[hp]
     repeat' first|refine vs T rfl fun K hK=>?_;(try simp (disch:=omega) only[go_sem,Nat.reduceBEq,Nat.reduceAdd,e3,beq_self_eq_true,hd,h0',z'7]);(refine hK _ _ ?_;clear hK K)|refine st rfl ?_|refine sc rfl ?_|refine nl ?_|refine gs rfl rfl ?_|exact z'A T (z'a _) ⟨rfl,rfl⟩
    ·have h0':decide (loc<0)=false:=by simpa using h0
     by_cases hx:x.1=loc
     ·have hx':(x.1 == loc)=true:=by simpa using hx
      have hp:Zal 2 loc b=0:=by simp[Zal,w'9,hh,hx,Zcq,hne]
      rw[hp]
      repeat' first|refine vs T rfl fun K hK=>?_;(try simp (disch:=omega) only[go_sem,Nat.reduceBEq,Nat.reduceAdd,Int.reduceToNat,e3,beq_self_eq_true,hd,h0',hx',hrow,z'7]);(first|refine hK _ _ ?_;clear hK K|refine⟨?_,hK _ _ ?_⟩<;>clear hK K;focus(try omega))|refine st rfl ?_|refine sc rfl ?_|refine nl ?_|refine gs rfl rfl ?_|exact z'A T (z'a _) ⟨rfl,rfl⟩
     ·have hx':(x.1 == loc)=false:=by simpa using hx
      have hp:Zal 2 loc b= -1:=by simp[Zal,w'9,h0,hh,hx,Zcq]
      rw[hp]
      repeat' first|refine vs T rfl fun K hK=>?_;(try simp (disch:=omega) only[go_sem,Nat.reduceBEq,Nat.reduceAdd,Int.reduceToNat,e3,beq_self_eq_true,hd,h0',hx',hrow,z'7]);(first|refine hK _ _ ?_;clear hK K|refine⟨?_,hK _ _ ?_⟩<;>clear hK K;focus(try omega))|refine st rfl ?_|refine sc rfl ?_|refine nl ?_|refine gs rfl rfl ?_|exact z'A T (z'a _) ⟨rfl,rfl⟩
  ·have e2:(m == 2)=false:=by simpa using h2
   have hp:Zal m loc b= -1:=by simp[Zal,w'9,h2,h3,Zcq]
   rw[hp]
   repeat' first|refine vs T rfl fun K hK=>?_;(try simp (disch:=omega) only[go_sem,Nat.reduceBEq,Nat.reduceAdd,e3,e2]);(refine hK _ _ ?_;clear hK K)|refine st rfl ?_|refine sc rfl ?_|refine nl ?_|refine gs rfl rfl ?_|refine gu rfl rfl ?_|exact z'A T (z'a _) ⟨rfl,rfl⟩
theorem ZkY {m loc:Int} {b:List En} {k:Nat} (h:w'9 m loc b=some k):k<b.length:=by
 unfold w'9 at h
 split at h
 ·exact Zh9 h
 ·split at h
  ·rename_i hc
   obtain rfl:=y'n h
   have:=hc.2.1
   rcases b with _|⟨x,r⟩
   ·exact absurd rfl this
   ·simp
  ·cases h
def x'V (m loc:Int) (b:List En):List En×En×Bool:=match w'9 m loc b with
 |none=>(b,(0,0),false)
 |some k=>(ZaN k b,(b[k]?).getD (0,0),true)
def ZuH (p:List En×En×Bool):D:= .tup [buf p.1,.agg [iD p.2.1.1,iD p.2.1.2],bD p.2.2]
theorem ZmW {P:Program} (T:Tab P) {E:Nat→D} {H:Heap} {u a v:Tmp} {ty:TypeId} {Φ:D→Heap→Prop} {H':Heap} {b n:Nat} {ty':TypeId} {l:List D} (ha:E a= .is (.pointer (some ⟨b,0,none⟩))) (hb:y'0 H b=some (.cells ty' n l))
  (hk:(T.get ty).known=true) (hz:(T.get ty).size=l.length) (hag:(T.get ty).agg=true) (hs:H'.Sublist H) (h:Φ (.tup [E u,.agg l,E v]) H'):x'c T [.tmp u,.cell a ty,.tmp v] Φ .ret ⟨E,H⟩:=
 by unfold x'c;exact⟨[E u,.agg l,E v],H',⟨_,rfl,b,ty',n,l,_,ha,y'J hb,hk,hz,by rw[hag],_,rfl,rfl⟩,hs,h⟩
theorem Zpg (b:List En) (hb:b.length≤1000000) (m loc:Int):Pure Tryz.prog 346 [buf b,iD m,iD loc] (ZuH (x'V m loc b)):=by
 have c0:=Zsn b hb m loc
 unfold Zal at c0
 refine Fun.of T [.tmp 6,.cell 7 201,.tmp 8] Tryz.func346 rfl Tryz.ntmps346 Tryz.results346 rfl (by kernel_rfl) ?_
 cases hn:w'9 m loc b with
 |none=>
  have hp:x'V m loc b=(b,(0,0),false):=by simp[x'V,hn]
  rw[hn]at c0
  rw[hp]
  repeat' first|refine vs T rfl fun K hK=>?_;(try simp (disch:=omega) only[go_sem,Nat.reduceBEq,Nat.reduceAdd,Nat.reduceLeDiff,Zcq,beq_self_eq_true]);(first|refine hK _ _ ?_;clear hK K|intro bq hbq;(try simp only[HB]at hbq);refine hK _ _ ?_;clear hK K|refine Op1.callp rfl rfl (c0) rfl ?_;refine hK _ _ ?_;clear hK K|refine Op1.callp rfl rfl (Zla b hb) rfl ?_;refine hK _ _ ?_;clear hK K)|refine st rfl ?_|refine sc rfl ?_|refine nl ?_
  exact ZmW T rfl (hget_eq) rfl rfl rfl (z'a _) ⟨rfl,rfl⟩
 |some k=>
  have hk:=ZkY hn
  obtain⟨x,hx⟩: ∃x,b[k]?=some x:=⟨_,z'b hk⟩
  have hp:x'V m loc b=(ZaN k b,x,true):=by simp[x'V,hn,hx]
  have hrow:(eRs b)[k]?=some [iD x.1,iD x.2]:=by rw[Zbc,hx];rfl
  have hne:((k:Int) == -1)=false:=by rw[beq_eq_false_iff_ne];omega
  rw[hn]at c0
  rw[hp]
  repeat' first|refine dr (id:=4) T 9 (by kernel_rfl) ?_|refine gn ?_|apply VCg.step T rfl rfl;focus((try simp (disch:=omega) only[go_sem,Nat.reduceBEq,Nat.reduceAdd,Nat.reduceLeDiff,hrow,z'7]);(first|exact rfl|refine⟨?_,rfl⟩;try omega|refine Op1.callp rfl rfl (Zla b hb) rfl ?_;exact⟨rfl,rfl⟩|refine Op1.callp rfl rfl (Zth b hb k hk) rfl ?_;exact⟨rfl,rfl⟩))|refine vs T rfl fun K hK=>?_;(try simp (disch:=omega) only[go_sem,Nat.reduceBEq,Nat.reduceAdd,Nat.reduceLeDiff,Zcq,hne]);(first|refine hK _ _ ?_;clear hK K|intro bq hbq;(try simp only[HB]at hbq);refine hK _ _ ?_;clear hK K|refine Op1.callp rfl rfl (c0) rfl ?_;refine hK _ _ ?_;clear hK K)|refine st rfl ?_|refine sc rfl ?_|refine nl ?_
  exact ZmW T rfl (hget_eq) rfl rfl rfl (z'a _) ⟨rfl,rfl⟩
theorem lastF_at {loc:Int}: ∀{b:List En} {k:Nat} {x:En},b[k]?=some x→x.1=loc→(∀(i:Nat) (y:En),k<i→b[i]?=some y→y.1≠loc)→v'k loc b=some x.2
 |x0::r,0,x,h,hx,hno=>by
  obtain rfl:x0=x:=by simpa using h
  have:v'k loc r=none:=lastF_no fun i y hy=>hno (i+1) y (by omega) (by simpa using hy)
  simp[v'k,this,hx]
 |x0::r,k+1,x,h,hx,hno=>by
  have:=lastF_at (b:=r) (k:=k) (by simpa using h) hx fun i y hi hy=>hno (i+1) y (by omega) (by simpa using hy)
  simp[v'k,this]
where
 lastF_no {loc:Int}: ∀{b:List En},(∀(i:Nat) (y:En),b[i]?=some y→y.1≠loc)→v'k loc b=none
 |[],_=>rfl
 |x0::r,hno=>by
  have h0:x0.1≠loc:=hno 0 x0 rfl
  have:=lastF_no (b:=r) fun i y hy=>hno (i+1) y (by simpa using hy)
  simp[v'k,h0,this]
def Zud (o:Option Int):D:= .tup [iD (o.getD 0),bD o.isSome]
theorem Zsh (b:List En) (hb:b.length≤1000000) (loc:Int):Pure Tryz.prog 338 [buf b,iD loc] (Zud (v'k loc b)):=by
 have hw0:IntKind.i64.wrap ((b.length:Int)-1)=(b.length:Int)-1:=by rw[w64 (by omega)]
 refine Fun.of T [.tmp 4,.tmp 5] Tryz.func338 rfl Tryz.ntmps338 Tryz.results338 rfl (by kernel_rfl) ?_
 repeat' first|refine vs T rfl fun K hK=>?_;(try simp (disch:=omega) only[go_sem,Nat.reduceBEq,z'7,hw0]);(refine hK _ _ ?_;clear hK K)|refine st rfl ?_|refine nl ?_
 refine VC.loop {k:Nat//k≤b.length∧ ∀(i:Nat) (y:En),k≤i→b[i]?=some y→y.1≠loc} (fun p=>⟨y'd [(0,buf b),(1,iD loc),(6,iD ((p.1:Nat)-1:Int))],[]⟩) (fun p=>p.1) ⟨b.length,by omega,fun i y hi hy=>by have:=(z'g.1 hy).1;omega⟩ ?_ ?_
 ·refine Weak.sub ?_
  simp[sub,upd]
 ·rintro⟨k,hk,hno⟩
  dsimp only
  rcases k with _|k
  ·have hd:decide (((0:Nat):Int)-1≥0)=false:=by decide
   have hf:v'k loc b=none:=lastF_at.lastF_no fun i y hy=>hno i y (by omega) hy
   rw[hf]
   repeat' first|refine vs T rfl fun K hK=>?_;(try simp (disch:=omega) only[go_sem,Nat.reduceBEq,hd]);(refine hK _ _ ?_;clear hK K)|refine st rfl ?_|refine sc rfl ?_|refine nl ?_|exact w'd T (z'a _) ⟨rfl,rfl⟩
  ·have hd:decide (((k+1:Nat):Int)-1≥0)=true:=by rw[decide_eq_true_eq];omega
   have hi:((k+1:Nat):Int)-1=(k:Int):=by omega
   have hw:IntKind.i64.wrap ((k:Int)-1)=(k:Int)-1:=by rw[w64 (by omega)]
   obtain⟨x,hx⟩: ∃x,b[k]?=some x:=⟨_,z'b (by omega)⟩
   have hrow:(eRs b)[k]?=some [iD x.1,iD x.2]:=by rw[Zbc,hx];rfl
   rw[hi]at hd⊢
   by_cases he:x.1=loc
   ·have he':(x.1 == loc)=true:=by simpa using he
    have hf:=lastF_at hx he fun i y h1 h2=>hno i y (by omega) h2
    rw[hf]
    repeat' first|refine vs T rfl fun K hK=>?_;(try simp (disch:=omega) only[go_sem,Nat.reduceBEq,hd,hrow,he',z'7]);(first|refine hK _ _ ?_;clear hK K|refine⟨?_,hK _ _ ?_⟩<;>clear hK K;focus(try omega))|refine st rfl ?_|refine sc rfl ?_|refine nl ?_|exact w'd T (z'a _) ⟨rfl,rfl⟩
   ·have he':(x.1 == loc)=false:=by simpa using he
    repeat' first|refine vs T rfl fun K hK=>?_;(try simp (disch:=omega) only[go_sem,Nat.reduceBEq,hd,hw,hrow,he',z'7]);(first|refine hK _ _ ?_;clear hK K|refine⟨?_,hK _ _ ?_⟩<;>clear hK K;focus(try omega))|refine st rfl ?_|refine sc rfl ?_|refine nl ?_
    refine⟨⟨k,by omega,fun i y h1 h2=>?_⟩,Weak.sub ?_,by simp only[];omega⟩
    ·rcases y'A h1 with rfl|h'
     ·rw[hx]at h2;cases h2;exact he
     ·exact hno i y (by omega) h2
    ·simp[sub,upd]
theorem z'I (l:List Int):(iRs l).length=l.length:=z'i ..
theorem x'7 (l:List Int) (i:Nat):(iRs l)[i]?=(l[i]?).map fun n=>[iD n]:=z'J ..
theorem Zf0 (l:List Int): ∀r,r∈iRs l→r.length=1:=by
 intro r h
 obtain⟨x,_,rfl⟩:=z'p.1 h
 rfl
theorem ZkJ (l:List Int):(iRs l).flatten=l.map iD:=by
 induction l with
 |nil=>rfl
 |cons n l ih=>rw[iRs,z'm,z'R];rw[iRs]at ih;rw[ih];rfl
def Ze0 (md lc:Int) (x:En):Bool:=decide (x.1<0)||decide (x.1≥lc)||decide (x.2<0)||decide (x.2≥md)
def ZaM (m r:Int) (b:List En) (i:Nat) (x:En):Bool:=decide (m=3)&&((decide (i>0)&&decide (((b[i-1]?).getD (0,0)).1>x.1))||decide (((x'O x.1 b:Nat):Int)>r))
def w'e (m r md lc:Int) (b:List En) (i:Nat):Bool:=Ze0 md lc ((b[i]?).getD (0,0))||ZaM m r b i ((b[i]?).getD (0,0))
def Zbu (m r md lc:Int) (b:List En):Bool:=
 (decide (1≤r)&&decide (r≤4)&&decide (2≤md)&&decide (md≤16))&&((List.range b.length).all fun i=> !w'e m r md lc b i)&&(if m=1 then decide ((b.length:Int)=0)else if m=2 then decide ((b.length:Int)≤r)else decide (m=3))
theorem Zcy {m r md lc:Int} {b:List En} {i:Nat} (hi:i<b.length) (h:w'e m r md lc b i=true):Zbu m r md lc b=false:=by
 unfold Zbu
 have:((List.range b.length).all fun i=> !w'e m r md lc b i)=false:=by
  rw[v'c]
  exact⟨i,z'Q.2 hi,by simp[h]⟩
 rw[this]
 simp
theorem Zjp (b:List En) (hb:b.length≤1000000) (m r md lc:Int):Pure Tryz.prog 214 [buf b,iD m,iD r,iD md,iD lc] (bD (Zbu m r md lc b)):=by
 refine Fun.of T [.tmp 10] Tryz.func214 rfl Tryz.ntmps214 Tryz.results214 rfl (by kernel_rfl) ?_
 by_cases hg:1≤r∧r≤4∧2≤md∧md≤16
 ·have g1:decide (r<1)=false:=by simp;omega
  have g2:decide (r>4)=false:=by simp;omega
  have g3:decide (md<2)=false:=by simp;omega
  have g4:decide (md>16)=false:=by simp;omega
  repeat' first|refine vs T rfl fun K hK=>?_;(try simp (disch:=omega) only[go_sem,Nat.reduceBEq,Nat.reduceAdd,g1,g2,g3,g4,z'7]);(refine hK _ _ ?_;clear hK K)|refine st rfl ?_|refine sc rfl ?_|refine nl ?_|refine gs rfl rfl ?_
  refine VC.loop {k:Nat//k≤b.length∧ ∀i,i<k→w'e m r md lc b i=false} (fun p=>⟨y'd [(0,buf b),(1,iD m),(2,iD r),(3,iD md),(4,iD lc),(27,buf b),(28,iD (b.length:Nat)),(29,iD (p.1:Nat))],[]⟩) (fun p=>b.length-p.1) ⟨0,by omega,fun i hi=>by omega⟩ ?_ ?_
  ·refine Weak.sub ?_
   simp[sub,upd]
  ·rintro⟨k,hk,hno⟩
   dsimp only
   rcases z'j k b.length with hlt|hge
   ·have hd:decide ((k:Int)<(b.length:Int))=true:=by simp;omega
    have hw:IntKind.i64.wrap ((k:Int)+1)=((k+1:Nat):Int):=by rw[w64 (by omega)];omega
    obtain⟨x,hx⟩: ∃x,b[k]?=some x:=⟨_,z'b hlt⟩
    have hrow:(eRs b)[k]?=some [iD x.1,iD x.2]:=by rw[Zbc,hx];rfl
    have hbad:w'e m r md lc b k=(Ze0 md lc x||ZaM m r b k x):=by simp[w'e,hx]
    have fin:w'e m r md lc b k=false→ ∀i,i<k+1→w'e m r md lc b i=false:=fun h i hi=>by
     rcases z'j i k with h'|h'
     ·exact hno i h'
     ·obtain rfl:i=k:=by omega
      exact h
    cases hE:Ze0 md lc x with
    |true=>
     have hR:=Zcy hlt (by rw[hbad,hE];rfl:w'e m r md lc b k=true)
     rw[hR]
     repeat' first|refine dr (id:=8) T 22 (by kernel_rfl) ?_|refine gn ?_|(first|apply VCg.step T rfl rfl|apply exF);focus((try simp (disch:=omega) only[go_sem,Nat.reduceBEq,z'7]);(first|exact rfl|refine Op1.callp rfl rfl (ZbE b hb _) rfl ?_;exact⟨rfl,rfl⟩))|refine VCg.gstep T rfl rfl rfl rfl ?_;try simp only[GB]|refine VCg.gundef T rfl rfl rfl rfl ?_|refine vs T rfl fun K hK=>?_;(try simp (disch:=omega) only[go_sem,Nat.reduceBEq,Nat.reduceAdd,Nat.reduceLeDiff,hd,hw,hrow,z'7]);(first|refine hK _ _ ?_;clear hK K|intro bq hbq;(try simp only[HB]at hbq);refine hK _ _ ?_;clear hK K|refine⟨?_,hK _ _ ?_⟩<;>clear hK K;focus(try omega))|refine st rfl ?_|refine sc rfl ?_|refine nl ?_|refine gs rfl rfl ?_|refine gu rfl rfl ?_|exact z'A T (z'a _) ⟨rfl,rfl⟩|with_reducible refine z'B (fun hc=>?_) (fun hc=>?_)
     all_goals(refine absurd hE ?_;simp_all[Ze0])
    |false=>
     obtain⟨⟨⟨n1,n2⟩,n3⟩,n4⟩:((decide (x.1<0)=false∧decide (x.1≥lc)=false)∧decide (x.2<0)=false)∧decide (x.2≥md)=false:=by simpa[Ze0]using hE
     by_cases h3:m=3
     ·have e3:(m == 3)=true:=by simpa using h3
      rcases x'D k with h0|h0
      ·have hk0:decide ((k:Int)>0)=false:=by rw[h0];rfl
       by_cases hc:((x'O x.1 b:Nat):Int)>r
       ·have hc':decide (((x'O x.1 b:Nat):Int)>r)=true:=by simpa using hc
        have hP:ZaM m r b k x=true:=by simp[ZaM,h3,h0,hc]
        have hR:=Zcy hlt (by rw[hbad,hP,Bool.or_true]:w'e m r md lc b k=true)
        rw[hR]
        repeat' first|refine dr (id:=8) T 22 (by kernel_rfl) ?_|refine gn ?_|(first|apply VCg.step T rfl rfl|apply exF);focus((try simp (disch:=omega) only[go_sem,Nat.reduceBEq,e3,hk0]);(first|exact rfl|refine Op1.callp rfl rfl (ZbE b hb _) rfl ?_;exact⟨rfl,rfl⟩))|refine VCg.gstep T rfl rfl rfl rfl ?_;try simp only[GB]|refine vs T rfl fun K hK=>?_;(try simp (disch:=omega) only[go_sem,Nat.reduceBEq,Nat.reduceAdd,Nat.reduceLeDiff,hd,hrow,z'7,n1,n2,n3,n4,hc']);(first|refine hK _ _ ?_;clear hK K|intro bq hbq;(try simp only[HB]at hbq);refine hK _ _ ?_;clear hK K|refine⟨?_,hK _ _ ?_⟩<;>clear hK K;focus(try omega))|refine st rfl ?_|refine sc rfl ?_|refine nl ?_|refine gs rfl rfl ?_|exact z'A T (z'a _) ⟨rfl,rfl⟩
       ·have hc':decide (((x'O x.1 b:Nat):Int)>r)=false:=by simpa using hc
        have hP:w'e m r md lc b k=false:=by rw[hbad,hE];simp[ZaM,h3,h0,z'F.1 hc]
        repeat' first|refine dr (id:=8) T 22 (by kernel_rfl) ?_|refine gn ?_|(first|apply VCg.step T rfl rfl|apply exF);focus((try simp (disch:=omega) only[go_sem,Nat.reduceBEq,e3,hk0]);(first|exact rfl|refine Op1.callp rfl rfl (ZbE b hb _) rfl ?_;exact⟨rfl,rfl⟩))|refine VCg.gstep T rfl rfl rfl rfl ?_;try simp only[GB]|refine vs T rfl fun K hK=>?_;(try simp (disch:=omega) only[go_sem,Nat.reduceBEq,Nat.reduceAdd,Nat.reduceLeDiff,hd,hw,hrow,z'7,n1,n2,n3,n4,hc']);(first|refine hK _ _ ?_;clear hK K|intro bq hbq;(try simp only[HB]at hbq);refine hK _ _ ?_;clear hK K|refine⟨?_,hK _ _ ?_⟩<;>clear hK K;focus(try omega))|refine st rfl ?_|refine sc rfl ?_|refine nl ?_|refine gs rfl rfl ?_
        refine⟨⟨k+1,by omega,fin hP⟩,x'g rfl ?_,by simp only[];omega⟩
        simp[sub,upd]
      ·have hk0:decide ((k:Int)>0)=true:=by simp;omega
       have hwk:IntKind.i64.wrap ((k:Int)-1)=((k-1:Nat):Int):=by rw[w64 (by omega)];omega
       obtain⟨y,hy⟩: ∃y,b[k-1]?=some y:=⟨_,z'b (by omega)⟩
       have hrowy:(eRs b)[k-1]?=some [iD y.1,iD y.2]:=by rw[Zbc,hy];rfl
       by_cases hyx:y.1>x.1
       ·have hyx':decide (y.1>x.1)=true:=by simpa using hyx
        have hP:ZaM m r b k x=true:=by simp[ZaM,h3,h0,hy,hyx]
        have hR:=Zcy hlt (by rw[hbad,hP,Bool.or_true]:w'e m r md lc b k=true)
        rw[hR]
        repeat' first|refine dr (id:=8) T 22 (by kernel_rfl) ?_|refine gn ?_|(first|apply VCg.step T rfl rfl|apply exF);focus((try simp (disch:=omega) only[go_sem,Nat.reduceBEq,z'7,e3,hk0,hwk,hrowy,hyx']);(first|exact rfl|refine⟨?_,rfl⟩;try omega))|refine VCg.gstep T rfl rfl rfl rfl ?_;try simp only[GB]|refine vs T rfl fun K hK=>?_;(try simp (disch:=omega) only[go_sem,Nat.reduceBEq,Nat.reduceAdd,Nat.reduceLeDiff,hd,hrow,z'7,n1,n2,n3,n4]);(first|refine hK _ _ ?_;clear hK K|intro bq hbq;(try simp only[HB]at hbq);refine hK _ _ ?_;clear hK K|refine⟨?_,hK _ _ ?_⟩<;>clear hK K;focus(try omega))|refine st rfl ?_|refine sc rfl ?_|refine nl ?_|refine gs rfl rfl ?_|exact z'A T (z'a _) ⟨rfl,rfl⟩
       ·have hyx':decide (y.1>x.1)=false:=by simpa using hyx
        by_cases hc:((x'O x.1 b:Nat):Int)>r
        ·have hc':decide (((x'O x.1 b:Nat):Int)>r)=true:=by simpa using hc
         have hP:ZaM m r b k x=true:=by simp[ZaM,h3,h0,hy,z'F.1 hyx,hc]
         have hR:=Zcy hlt (by rw[hbad,hP,Bool.or_true]:w'e m r md lc b k=true)
         rw[hR]
         repeat' first|refine dr (id:=8) T 22 (by kernel_rfl) ?_|refine gn ?_|(first|apply VCg.step T rfl rfl|apply exF);focus((try simp (disch:=omega) only[go_sem,Nat.reduceBEq,z'7,e3,hk0,hwk,hrowy,hyx']);(first|exact rfl|refine⟨?_,rfl⟩;try omega|refine Op1.callp rfl rfl (ZbE b hb _) rfl ?_;exact⟨rfl,rfl⟩))|refine VCg.gstep T rfl rfl rfl rfl ?_;try simp only[GB]|refine vs T rfl fun K hK=>?_;(try simp (disch:=omega) only[go_sem,Nat.reduceBEq,Nat.reduceAdd,Nat.reduceLeDiff,hd,hrow,z'7,n1,n2,n3,n4,hc']);(first|refine hK _ _ ?_;clear hK K|intro bq hbq;(try simp only[HB]at hbq);refine hK _ _ ?_;clear hK K|refine⟨?_,hK _ _ ?_⟩<;>clear hK K;focus(try omega))|refine st rfl ?_|refine sc rfl ?_|refine nl ?_|refine gs rfl rfl ?_|exact z'A T (z'a _) ⟨rfl,rfl⟩
        ·have hc':decide (((x'O x.1 b:Nat):Int)>r)=false:=by simpa using hc
         have hP:w'e m r md lc b k=false:=by rw[hbad,hE];simp[ZaM,h3,h0,hy,z'F.1 hyx,z'F.1 hc]
         repeat' first|refine dr (id:=8) T 22 (by kernel_rfl) ?_|refine gn ?_|(first|apply VCg.step T rfl rfl|apply exF);focus((try simp (disch:=omega) only[go_sem,Nat.reduceBEq,z'7,e3,hk0,hwk,hrowy,hyx']);(first|exact rfl|refine⟨?_,rfl⟩;try omega|refine Op1.callp rfl rfl (ZbE b hb _) rfl ?_;exact⟨rfl,rfl⟩))|refine VCg.gstep T rfl rfl rfl rfl ?_;try simp only[GB]|refine vs T rfl fun K hK=>?_;(try simp (disch:=omega) only[go_sem,Nat.reduceBEq,Nat.reduceAdd,Nat.reduceLeDiff,hd,hw,hrow,z'7,n1,n2,n3,n4,hc']);(first|refine hK _ _ ?_;clear hK K|intro bq hbq;(try simp only[HB]at hbq);refine hK _ _ ?_;clear hK K|refine⟨?_,hK _ _ ?_⟩<;>clear hK K;focus(try omega))|refine st rfl ?_|refine sc rfl ?_|refine nl ?_|refine gs rfl rfl ?_
         refine⟨⟨k+1,by omega,fin hP⟩,x'g rfl ?_,by simp only[];omega⟩
         simp[sub,upd]
     ·have e3:(m == 3)=false:=by simpa using h3
      have hP:w'e m r md lc b k=false:=by rw[hbad,hE];simp[ZaM,h3]
      repeat' first|refine dr (id:=8) T 22 (by kernel_rfl) ?_|refine gn ?_|(first|apply VCg.step T rfl rfl|apply exF);focus((try simp (disch:=omega) only[go_sem,Nat.reduceBEq,e3]);(exact rfl))|refine VCg.gstep T rfl rfl rfl rfl ?_;try simp only[GB]|refine VCg.gundef T rfl rfl rfl rfl ?_|refine vs T rfl fun K hK=>?_;(try simp (disch:=omega) only[go_sem,Nat.reduceBEq,Nat.reduceAdd,Nat.reduceLeDiff,hd,hw,hrow,z'7,n1,n2,n3,n4]);(first|refine hK _ _ ?_;clear hK K|intro bq hbq;(try simp only[HB]at hbq);refine hK _ _ ?_;clear hK K|refine⟨?_,hK _ _ ?_⟩<;>clear hK K;focus(try omega))|refine st rfl ?_|refine sc rfl ?_|refine nl ?_|refine gs rfl rfl ?_|refine gu rfl rfl ?_
      refine⟨⟨k+1,by omega,fin hP⟩,x'g rfl ?_,by simp only[];omega⟩
      simp[sub,upd]
   ·have hd:decide ((k:Int)<(b.length:Int))=false:=by simp;omega
    have hall:((List.range b.length).all fun i=> !w'e m r md lc b i)=true:=by
     rw[z'o]
     intro i hi
     rw[hno i (by have:=z'Q.1 hi;omega)];rfl
    have hR:Zbu m r md lc b=(if m=1 then decide ((b.length:Int)=0)else if m=2 then decide ((b.length:Int)≤r)else decide (m=3)):=by
     unfold Zbu
     rw[hall]
     simp[hg]
    rw[hR]
    by_cases h1:m=1
    ·have e1:(m == 1)=true:=by simpa using h1
     rw[if_pos h1]
     repeat' first|refine vs T rfl fun K hK=>?_;(try simp (disch:=omega) only[go_sem,Nat.reduceBEq,hd,z'7,e1]);(refine hK _ _ ?_;clear hK K)|refine st rfl ?_|refine sc rfl ?_|refine nl ?_|exact z'A T (z'a _) ⟨rfl,rfl⟩
     all_goals first|rfl|simp_all
    ·have e1:(m == 1)=false:=by simpa using h1
     rw[if_neg h1]
     by_cases h2:m=2
     ·have e2:(m == 2)=true:=by simpa using h2
      rw[if_pos h2]
      repeat' first|refine vs T rfl fun K hK=>?_;(try simp (disch:=omega) only[go_sem,Nat.reduceBEq,hd,z'7,e1,e2]);(refine hK _ _ ?_;clear hK K)|refine st rfl ?_|refine sc rfl ?_|refine nl ?_|exact z'A T (z'a _) ⟨rfl,rfl⟩
     ·have e2:(m == 2)=false:=by simpa using h2
      rw[if_neg h2]
      repeat' first|refine vs T rfl fun K hK=>?_;(try simp (disch:=omega) only[go_sem,Nat.reduceBEq,hd,e1,e2]);(refine hK _ _ ?_;clear hK K)|refine st rfl ?_|refine sc rfl ?_|refine nl ?_|exact z'A T (z'a _) ⟨rfl,rfl⟩
      all_goals rfl
 ·have hR:Zbu m r md lc b=false:=by
   unfold Zbu
   have:(decide (1≤r)&&decide (r≤4)&&decide (2≤md)&&decide (md≤16))=false:=by
    rw[Bool.eq_false_iff]
    intro h
    simp only[z'c,decide_eq_true_eq]at h
    exact hg ⟨h.1.1.1,h.1.1.2,h.1.2,h.2⟩
   rw[this];rfl
  rw[hR]
  rcases Int.lt_or_le r 1 with h|h
  ·have g1:decide (r<1)=true:=by simpa using h
   repeat' first|refine vs T rfl fun K hK=>?_;(try simp (disch:=omega) only[go_sem,Nat.reduceBEq,Nat.reduceAdd,g1]);(refine hK _ _ ?_;clear hK K)|refine st rfl ?_|refine sc rfl ?_|refine nl ?_|refine gs rfl rfl ?_|exact z'A T (z'a _) ⟨rfl,rfl⟩
  have g1:decide (r<1)=false:=by simp;omega
  rcases Int.lt_or_le 4 r with h'|h'
  ·have g2:decide (r>4)=true:=by simpa using h'
   repeat' first|refine vs T rfl fun K hK=>?_;(try simp (disch:=omega) only[go_sem,Nat.reduceBEq,Nat.reduceAdd,g1,g2]);(refine hK _ _ ?_;clear hK K)|refine st rfl ?_|refine sc rfl ?_|refine nl ?_|refine gs rfl rfl ?_|exact z'A T (z'a _) ⟨rfl,rfl⟩
  have g2:decide (r>4)=false:=by simp;omega
  rcases Int.lt_or_le md 2 with h''|h''
  ·have g3:decide (md<2)=true:=by simpa using h''
   repeat' first|refine vs T rfl fun K hK=>?_;(try simp (disch:=omega) only[go_sem,Nat.reduceBEq,Nat.reduceAdd,g1,g2,g3]);(refine hK _ _ ?_;clear hK K)|refine st rfl ?_|refine sc rfl ?_|refine nl ?_|refine gs rfl rfl ?_|exact z'A T (z'a _) ⟨rfl,rfl⟩
  have g3:decide (md<2)=false:=by simp;omega
  have g4:decide (md>16)=true:=by simp;omega
  repeat' first|refine vs T rfl fun K hK=>?_;(try simp (disch:=omega) only[go_sem,Nat.reduceBEq,Nat.reduceAdd,g1,g2,g3,g4]);(refine hK _ _ ?_;clear hK K)|refine st rfl ?_|refine sc rfl ?_|refine nl ?_|refine gs rfl rfl ?_|exact z'A T (z'a _) ⟨rfl,rfl⟩
section
variable {P : Program} (T : Tab P) {ops : Array Oper} {st i m : Nat} {o : Oper} {l : List Oper} {H H1 : Heap} {Φ : D → Heap → Prop} {E : Nat → D} {r rA : Nat → D} {d d0 : D} {K : (Nat → D) → (Nat → D) → Prop}
theorem Zsv (h:opC T o (evD E) H Φ):OpS P o (evD E) H Φ:=by
 obtain⟨Ψ,h1,h2⟩:=w'P T h
 exact h1.mono h2
theorem NW.nil {R:Nat→Oper→(Nat→D)→D→Prop} (h:K E r):NW R K 0 i l E r:=h
theorem NW.stepA (hi:Nat.beq i st=false) (hg:o.guard=none) (h:opC T o (evD E) H (fun d' H'=>d'=d∧H'=H)) (k:NW (NRA P ops st H Φ) K m (i+1) l (updO E o.dst d) (fun k=>if k=i then d else r k)):NW (NRA P ops st H Φ) K (m+1) i (o::l) E r:=
 ⟨d,⟨hg,fun e=>absurd e (Nat.ne_of_beq_eq_false hi),fun _ _=>v'8 T h⟩,k⟩
end
end Go.Proofs.YthlkpnjjkgmlkaaGreat
