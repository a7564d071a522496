/- Contracts: store, more. No condition. -/
import Derived.Test.YtomcmfbpmkklmaaGreatWb
namespace Go.Proofs.YtomcmfbpmkklmaaGreat
set_option maxHeartbeats 16000000
set_option linter.unusedSimpArgs false
set_option linter.unusedVariables false
set_option maxRecDepth 20000
open Go Go.Proofs Go.Vc
attribute [local irreducible] y'0 VCg VCw VCx
def w'I (k:Nat) (b:List En):List En:=b.take k++b.drop (k+1)
theorem ZpB (b:List En) (hb:b.length≤1000000) (k:Nat) (hk:k<b.length):Pure Tryz.prog 243 [buf b,iD (k:Nat)] (buf (w'I k b)):=by
 refine Fun.fz ?_
 have hw2:IntKind.i64.wrap ((k:Int)+1)=((k+1:Nat):Int):=by rw[w64 (by omega)];omega
 have hl:(b.take k).length=k:=by rw[z'A];omega
 have hl2:(b.drop (k+1)).length=b.length-(k+1):=x'o
 refine Fun.of T [.tmp 4] Tryz.func243 rfl Tryz.ntmps243 Tryz.results243 rfl (by kernel_rfl) ?_
 have hkb:Nat.beq k k=true:=ZaD k
 repeat' first|refine dr (id:=1) T 8 (by kernel_rfl) ?_|refine gn ?_|apply VCg.step T rfl rfl;focus((try simp (disch:=omega) only[go_sem,Nat.reduceBEq,z't,hw2,ZlA,ZhT,hkb]);(first|exact rfl|refine⟨?_,rfl⟩;try omega))|refine vs T rfl fun K hK=>?_;(try simp (disch:=omega) only[go_sem,Nat.reduceBEq,z't]);(first|refine hK _ _ ?_;clear hK K|skip)|refine st rfl ?_|refine nl ?_
 refine⟨_,_,⟨rfl,rfl⟩,by rw[hl,hl2];omega,fun h0=>hK _ _ ?_,fun h0 b' cap' hb' hcap=>hK _ _ ?_⟩<;>clear hK K
 ·repeat' first|refine vs T rfl fun K hK=>?_;(try simp (disch:=omega) only[go_sem,Nat.reduceBEq]);(refine hK _ _ ?_;clear hK K)|refine st rfl ?_|refine nl ?_
  refine z'j T (z'm _) (.inr ⟨rfl,.inl ⟨true,?_⟩⟩)
  have:b.drop (k+1)=[]:=z'P h0
  rw[w'I,this,z'r]
  rfl
 ·repeat' first|refine vs T rfl fun K hK=>?_;(try simp (disch:=omega) only[go_sem,Nat.reduceBEq]);(refine hK _ _ ?_;clear hK K)|refine st rfl ?_|refine nl ?_
  have hrows:(eRs (b.take k)).flatten++(eRs (b.drop (k+1))).flatten=(eRs (w'I k b)).flatten:=by rw[w'I,w'a,y'F]
  rw[hrows]
  refine z'j T (z'm _) (.inr ⟨rfl,.inr (.inr ⟨b',0,_,cap',.inl ⟨rfl,rfl⟩,?_,_,_,_,z'C ..,FzR.refl _ _ (v'u _)⟩)⟩)
  rw[z't,w'I,z'k]
def Za7 (m loc:Int) (b:List En):Int:=x'r (z'Y m loc b)
theorem Zn4 (b:List En) (hb:b.length≤1000000) (m loc:Int):Pure Tryz.prog 242 [buf b,iD m,iD loc] (iD (Za7 m loc b)):=by
 refine Fun.of T [.tmp 6] Tryz.func242 rfl Tryz.ntmps242 Tryz.results242 rfl (by kernel_rfl) ?_
 by_cases h3:m=3
 ·subst h3
  have hp:Za7 3 loc b=x'r (w'0 loc b):=rfl
  rw[hp]
  repeat' first|refine vs T rfl fun K hK=>?_;(try simp (disch:=omega) only[go_sem,Nat.reduceBEq,Nat.reduceAdd,beq_self_eq_true]);(first|refine hK _ _ ?_;clear hK K|refine Op1.callp rfl rfl (ZmG b hb _) rfl ?_;refine hK _ _ ?_;clear hK K)|refine st rfl ?_|refine sc rfl ?_|refine nl ?_|exact z'j T (z'a _) ⟨rfl,rfl⟩
 ·have e3:(m == 3)=false:=by simpa using h3
  by_cases h2:m=2
  ·subst h2
   rcases x'S b.length with hz|hpos
   ·have hb0:b=[]:=z'P hz
    have hp:Za7 2 loc b= -1:=by subst hb0;simp[Za7,z'Y,x'r]
    have hd:decide ((b.length:Int)>0)=false:=by rw[hz];rfl
    rw[hp]
    repeat' first|refine vs T rfl fun K hK=>?_;(try simp (disch:=omega) only[go_sem,Nat.reduceBEq,Nat.reduceAdd,e3,beq_self_eq_true,hd,z't]);(refine hK _ _ ?_;clear hK K)|refine st rfl ?_|refine sc rfl ?_|refine nl ?_|refine gs rfl rfl ?_|refine gu rfl rfl ?_|exact z'j T (z'a _) ⟨rfl,rfl⟩
   ·obtain⟨x,hx0⟩: ∃x,b[0]?=some x:=⟨_,z'b hpos⟩
    have hne:b≠[]:=fun h=>by rw[h]at hpos;simp at hpos
    have hh:b.head?=some x:=by rw[List.head?_eq_getElem?];exact hx0
    have hd:decide ((b.length:Int)>0)=true:=by simp;omega
    have hrow:(eRs b)[0]?=some [iD x.1,iD x.2]:=by rw[x'5,hx0];rfl
    by_cases h0:loc<0
    ·have h0':decide (loc<0)=true:=by simpa using h0
     have hp:Za7 2 loc b=0:=by simp[Za7,z'Y,h0,x'r,hne]
     rw[hp]
     repeat' first|refine vs T rfl fun K hK=>?_;(try simp (disch:=omega) only[go_sem,Nat.reduceBEq,Nat.reduceAdd,e3,beq_self_eq_true,hd,h0',z't]);(refine hK _ _ ?_;clear hK K)|refine st rfl ?_|refine sc rfl ?_|refine nl ?_|refine gs rfl rfl ?_|exact z'j T (z'a _) ⟨rfl,rfl⟩
    ·have h0':decide (loc<0)=false:=by simpa using h0
     by_cases hx:x.1=loc
     ·have hx':(x.1 == loc)=true:=by simpa using hx
      have hp:Za7 2 loc b=0:=by simp[Za7,z'Y,hh,hx,x'r,hne]
      rw[hp]
      repeat' first|refine vs T rfl fun K hK=>?_;(try simp (disch:=omega) only[go_sem,Nat.reduceBEq,Nat.reduceAdd,Int.reduceToNat,e3,beq_self_eq_true,hd,h0',hx',hrow,z't]);(first|refine hK _ _ ?_;clear hK K|refine⟨?_,hK _ _ ?_⟩<;>clear hK K;focus(try omega))|refine st rfl ?_|refine sc rfl ?_|refine nl ?_|refine gs rfl rfl ?_|exact z'j T (z'a _) ⟨rfl,rfl⟩
     ·have hx':(x.1 == loc)=false:=by simpa using hx
      have hp:Za7 2 loc b= -1:=by simp[Za7,z'Y,h0,hh,hx,x'r]
      rw[hp]
      repeat' first|refine vs T rfl fun K hK=>?_;(try simp (disch:=omega) only[go_sem,Nat.reduceBEq,Nat.reduceAdd,Int.reduceToNat,e3,beq_self_eq_true,hd,h0',hx',hrow,z't]);(first|refine hK _ _ ?_;clear hK K|refine⟨?_,hK _ _ ?_⟩<;>clear hK K;focus(try omega))|refine st rfl ?_|refine sc rfl ?_|refine nl ?_|refine gs rfl rfl ?_|exact z'j T (z'a _) ⟨rfl,rfl⟩
  ·have e2:(m == 2)=false:=by simpa using h2
   have hp:Za7 m loc b= -1:=by simp[Za7,z'Y,h2,h3,x'r]
   rw[hp]
   repeat' first|refine vs T rfl fun K hK=>?_;(try simp (disch:=omega) only[go_sem,Nat.reduceBEq,Nat.reduceAdd,e3,e2]);(refine hK _ _ ?_;clear hK K)|refine st rfl ?_|refine sc rfl ?_|refine nl ?_|refine gs rfl rfl ?_|refine gu rfl rfl ?_|exact z'j T (z'a _) ⟨rfl,rfl⟩
theorem Zb3 {m loc:Int} {b:List En} {k:Nat} (h:z'Y m loc b=some k):k<b.length:=by
 unfold z'Y at h
 split at h
 ·exact ZgO h
 ·split at h
  ·rename_i hc
   obtain rfl:=y'n h
   have:=hc.2.1
   rcases b with _|⟨x,r⟩
   ·exact absurd rfl this
   ·simp
  ·cases h
def y'L (m loc:Int) (b:List En):List En×En×Bool:=match z'Y m loc b with
 |none=>(b,(0,0),false)
 |some k=>(w'I k b,(b[k]?).getD (0,0),true)
def Zpx (p:List En×En×Bool):D:= .tup [buf p.1,.agg [iD p.2.1.1,iD p.2.1.2],bD p.2.2]
theorem ZaJ {P:Program} (T:Tab P) {E:Nat→D} {H:Heap} {u a v:Tmp} {ty:TypeId} {Φ:D→Heap→Prop} {H':Heap} {b n:Nat} {ty':TypeId} {l:List D} (ha:E a= .is (.pointer (some ⟨b,0,none⟩))) (hb:v'd H b=some (.cells ty' n l))
  (hk:(T.get ty).known=true) (hz:(T.get ty).size=l.length) (hag:(T.get ty).agg=true) (hs:H'.Sublist H) (h:Φ (.tup [E u,.agg l,E v]) H'):y'0 T [.tmp u,.cell a ty,.tmp v] Φ .ret ⟨E,H⟩:=
 by unfold y'0;exact⟨[E u,.agg l,E v],H',⟨_,rfl,b,ty',n,l,_,ha,w'2 hb,hk,hz,by rw[hag],_,rfl,rfl⟩,hs,h⟩
theorem ZlM (b:List En) (hb:b.length≤1000000) (m loc:Int):Pure Tryz.prog 241 [buf b,iD m,iD loc] (Zpx (y'L m loc b)):=by
 have c0:=Zn4 b hb m loc
 unfold Za7 at c0
 refine Fun.of T [.tmp 6,.cell 7 127,.tmp 8] Tryz.func241 rfl Tryz.ntmps241 Tryz.results241 rfl (by kernel_rfl) ?_
 cases hn:z'Y m loc b with
 |none=>
  have hp:y'L m loc b=(b,(0,0),false):=by simp[y'L,hn]
  rw[hn]at c0
  rw[hp]
  repeat' first|refine vs T rfl fun K hK=>?_;(try simp (disch:=omega) only[go_sem,Nat.reduceBEq,Nat.reduceAdd,Nat.reduceLeDiff,x'r,beq_self_eq_true]);(first|refine hK _ _ ?_;clear hK K|intro bq hbq;(try simp only[HB]at hbq);refine hK _ _ ?_;clear hK K|refine Op1.callp rfl rfl (c0) rfl ?_;refine hK _ _ ?_;clear hK K|refine Op1.callp rfl rfl (ZhV b hb) rfl ?_;refine hK _ _ ?_;clear hK K)|refine st rfl ?_|refine sc rfl ?_|refine nl ?_
  exact ZaJ T rfl (hget_eq) rfl rfl rfl (z'a _) ⟨rfl,rfl⟩
 |some k=>
  have hk:=Zb3 hn
  obtain⟨x,hx⟩: ∃x,b[k]?=some x:=⟨_,z'b hk⟩
  have hp:y'L m loc b=(w'I k b,x,true):=by simp[y'L,hn,hx]
  have hrow:(eRs b)[k]?=some [iD x.1,iD x.2]:=by rw[x'5,hx];rfl
  have hne:((k:Int) == -1)=false:=by rw[beq_eq_false_iff_ne];omega
  rw[hn]at c0
  rw[hp]
  repeat' first|refine dr (id:=4) T 9 (by kernel_rfl) ?_|refine gn ?_|apply VCg.step T rfl rfl;focus((try simp (disch:=omega) only[go_sem,Nat.reduceBEq,Nat.reduceAdd,Nat.reduceLeDiff,hrow,z't]);(first|exact rfl|refine⟨?_,rfl⟩;try omega|refine Op1.callp rfl rfl (ZhV b hb) rfl ?_;exact⟨rfl,rfl⟩|refine Op1.callp rfl rfl (ZpB b hb k hk) rfl ?_;exact⟨rfl,rfl⟩))|refine vs T rfl fun K hK=>?_;(try simp (disch:=omega) only[go_sem,Nat.reduceBEq,Nat.reduceAdd,Nat.reduceLeDiff,x'r,hne]);(first|refine hK _ _ ?_;clear hK K|intro bq hbq;(try simp only[HB]at hbq);refine hK _ _ ?_;clear hK K|refine Op1.callp rfl rfl (c0) rfl ?_;refine hK _ _ ?_;clear hK K)|refine st rfl ?_|refine sc rfl ?_|refine nl ?_
  exact ZaJ T rfl (hget_eq) rfl rfl rfl (z'a _) ⟨rfl,rfl⟩
theorem lastF_at {loc:Int}: ∀{b:List En} {k:Nat} {x:En},b[k]?=some x→x.1=loc→(∀(i:Nat) (y:En),k<i→b[i]?=some y→y.1≠loc)→v't loc b=some x.2
 |x0::r,0,x,h,hx,hno=>by
  obtain rfl:x0=x:=by simpa using h
  have:v't loc r=none:=lastF_no fun i y hy=>hno (i+1) y (by omega) (by simpa using hy)
  simp[v't,this,hx]
 |x0::r,k+1,x,h,hx,hno=>by
  have:=lastF_at (b:=r) (k:=k) (by simpa using h) hx fun i y hi hy=>hno (i+1) y (by omega) (by simpa using hy)
  simp[v't,this]
where
 lastF_no {loc:Int}: ∀{b:List En},(∀(i:Nat) (y:En),b[i]?=some y→y.1≠loc)→v't loc b=none
 |[],_=>rfl
 |x0::r,hno=>by
  have h0:x0.1≠loc:=hno 0 x0 rfl
  have:=lastF_no (b:=r) fun i y hy=>hno (i+1) y (by simpa using hy)
  simp[v't,h0,this]
def Znl (o:Option Int):D:= .tup [iD (o.getD 0),bD o.isSome]
theorem ZoE (b:List En) (hb:b.length≤1000000) (loc:Int):Pure Tryz.prog 231 [buf b,iD loc] (Znl (v't loc b)):=by
 have hw0:IntKind.i64.wrap ((b.length:Int)-1)=(b.length:Int)-1:=by rw[w64 (by omega)]
 refine Fun.of T [.tmp 4,.tmp 5] Tryz.func231 rfl Tryz.ntmps231 Tryz.results231 rfl (by kernel_rfl) ?_
 repeat' first|refine vs T rfl fun K hK=>?_;(try simp (disch:=omega) only[go_sem,Nat.reduceBEq,z't,hw0]);(refine hK _ _ ?_;clear hK K)|refine st rfl ?_|refine nl ?_
 refine VC.loop {k:Nat//k≤b.length∧ ∀(i:Nat) (y:En),k≤i→b[i]?=some y→y.1≠loc} (fun p=>⟨z'M [(0,buf b),(1,iD loc),(6,iD ((p.1:Nat)-1:Int))],[]⟩) (fun p=>p.1) ⟨b.length,by omega,fun i y hi hy=>by have:=(z'c.1 hy).1;omega⟩ ?_ ?_
 ·refine Weak.sub ?_
  simp[sub,upd]
 ·rintro⟨k,hk,hno⟩
  dsimp only
  rcases k with _|k
  ·have hd:decide (((0:Nat):Int)-1≥0)=false:=by decide
   have hf:v't loc b=none:=lastF_at.lastF_no fun i y hy=>hno i y (by omega) hy
   rw[hf]
   repeat' first|refine vs T rfl fun K hK=>?_;(try simp (disch:=omega) only[go_sem,Nat.reduceBEq,hd]);(refine hK _ _ ?_;clear hK K)|refine st rfl ?_|refine sc rfl ?_|refine nl ?_|exact x'E T (z'a _) ⟨rfl,rfl⟩
  ·have hd:decide (((k+1:Nat):Int)-1≥0)=true:=by rw[decide_eq_true_eq];omega
   have hi:((k+1:Nat):Int)-1=(k:Int):=by omega
   have hw:IntKind.i64.wrap ((k:Int)-1)=(k:Int)-1:=by rw[w64 (by omega)]
   obtain⟨x,hx⟩: ∃x,b[k]?=some x:=⟨_,z'b (by omega)⟩
   have hrow:(eRs b)[k]?=some [iD x.1,iD x.2]:=by rw[x'5,hx];rfl
   rw[hi]at hd⊢
   by_cases he:x.1=loc
   ·have he':(x.1 == loc)=true:=by simpa using he
    have hf:=lastF_at hx he fun i y h1 h2=>hno i y (by omega) h2
    rw[hf]
    repeat' first|refine vs T rfl fun K hK=>?_;(try simp (disch:=omega) only[go_sem,Nat.reduceBEq,hd,hrow,he',z't]);(first|refine hK _ _ ?_;clear hK K|refine⟨?_,hK _ _ ?_⟩<;>clear hK K;focus(try omega))|refine st rfl ?_|refine sc rfl ?_|refine nl ?_|exact x'E T (z'a _) ⟨rfl,rfl⟩
   ·have he':(x.1 == loc)=false:=by simpa using he
    repeat' first|refine vs T rfl fun K hK=>?_;(try simp (disch:=omega) only[go_sem,Nat.reduceBEq,hd,hw,hrow,he',z't]);(first|refine hK _ _ ?_;clear hK K|refine⟨?_,hK _ _ ?_⟩<;>clear hK K;focus(try omega))|refine st rfl ?_|refine sc rfl ?_|refine nl ?_
    refine⟨⟨k,by omega,fun i y h1 h2=>?_⟩,Weak.sub ?_,by simp only[];omega⟩
    ·rcases y'2 h1 with rfl|h'
     ·rw[hx]at h2;cases h2;exact he
     ·exact hno i y (by omega) h2
    ·simp[sub,upd]
theorem Znr (a b:List En) (ha:a.length≤1000000) (hb:b.length≤1000000):Pure Tryz.prog 65 [buf a,buf b] (bD (decide (a=b))):=by
 refine Fun.of T [.tmp 4] Tryz.func65 rfl Tryz.ntmps65 Tryz.results65 rfl (by kernel_rfl) ?_
 by_cases hl:a.length=b.length
 ·have hl':((a.length:Int) != (b.length:Int))=false:=by simp[hl]
  repeat' first|refine vs T rfl fun K hK=>?_;(try simp (disch:=omega) only[go_sem,Nat.reduceBEq,z't,hl']);(refine hK _ _ ?_;clear hK K)|refine st rfl ?_|refine sc rfl ?_|refine nl ?_
  refine VC.loop {k:Nat//k≤a.length∧ ∀i,i<k→a[i]?=b[i]?} (fun p=>⟨z'M [(0,buf a),(1,buf b),(5,iD (p.1:Nat))],[]⟩) (fun p=>a.length-p.1) ⟨0,by omega,fun i hi=>by omega⟩ ?_ ?_
  ·refine Weak.sub ?_
   simp[sub,upd]
  ·rintro⟨k,hk,hs⟩
   dsimp only
   rcases z'g k a.length with hlt|hge
   ·have hd:decide ((k:Int)<(a.length:Int))=true:=by simp;omega
    have hw:IntKind.i64.wrap ((k:Int)+1)=((k+1:Nat):Int):=by rw[w64 (by omega)];omega
    have hkb:k<b.length:=by omega
    obtain⟨x,hx⟩: ∃x,a[k]?=some x:=⟨_,z'b hlt⟩
    obtain⟨y,hy⟩: ∃y,b[k]?=some y:=⟨_,z'b hkb⟩
    have hrx:(eRs a)[k]?=some [iD x.1,iD x.2]:=by rw[x'5,hx];rfl
    have hry:(eRs b)[k]?=some [iD y.1,iD y.2]:=by rw[x'5,hy];rfl
    by_cases he:x=y
    ·subst he
     repeat' first|refine dr (id:=6) T 8 (by kernel_rfl) ?_|refine gn ?_|apply VCg.step T rfl rfl;focus((try simp (disch:=omega) only[go_sem,Nat.reduceBEq,Nat.reduceAdd,Nat.reduceLeDiff,hrx,hry,z't,beq_self_eq_true]);(first|exact rfl|refine⟨?_,rfl⟩;try omega))|refine vs T rfl fun K hK=>?_;(try simp (disch:=omega) only[go_sem,Nat.reduceBEq,hd,hw,z't,beq_self_eq_true,z'i]);(first|refine hK _ _ ?_;clear hK K|refine Op1.eqS rfl (Zkb _ _ _ _) rfl rfl rfl ?_;refine hK _ _ ?_;clear hK K)|refine st rfl ?_|refine sc rfl ?_|refine nl ?_|with_reducible refine gf ?_ ?_;focus(simp (disch:=omega) only[go_sem,beq_self_eq_true,z'i];done)
     refine⟨⟨k+1,by omega,fun i hi=>?_⟩,Weak.sub ?_,by simp only[];omega⟩
     ·rcases z'g i k with h'|h'
      ·exact hs i h'
      ·obtain rfl:i=k:=by omega
       rw[hx,hy]
     ·simp[sub,upd]
    ·have hne:(x.1 == y.1&&x.2 == y.2)=false:=by
      rw[Bool.eq_false_iff]
      simp only[z'h,beq_iff_eq,ne_eq]
      exact fun h=>he (Prod.ext h.1 h.2)
     have hab:decide (a=b)=false:=by
      rw[decide_eq_false_iff_not]
      intro h
      rw[h,hy]at hx
      exact he (y'n hx).symm
     rw[hab]
     repeat' first|refine dr (id:=6) T 8 (by kernel_rfl) ?_|refine gn ?_|apply VCg.step T rfl rfl;focus((try simp (disch:=omega) only[go_sem,Nat.reduceBEq,Nat.reduceAdd,Nat.reduceLeDiff,hrx,hry,z't]);(first|exact rfl|refine⟨?_,rfl⟩;try omega))|refine vs T rfl fun K hK=>?_;(try simp (disch:=omega) only[go_sem,Nat.reduceBEq,hd,hne,z't,z'q]);(first|refine hK _ _ ?_;clear hK K|refine Op1.eqS rfl (Zkb _ _ _ _) rfl rfl rfl ?_;refine hK _ _ ?_;clear hK K)|refine st rfl ?_|refine sc rfl ?_|refine nl ?_|exact z'j T (z'a _) ⟨rfl,rfl⟩|with_reducible refine gt ?_ ?_;focus(simp (disch:=omega) only[go_sem,hne,z'q];done)
   ·have hd:decide ((k:Int)<(a.length:Int))=false:=by simp;omega
    have hab:decide (a=b)=true:=by
     rw[decide_eq_true_eq]
     apply x'w
     intro i
     rcases z'g i a.length with h'|h'
     ·exact hs i (by omega)
     ·rw[z'x h',z'x (by omega)]
    rw[hab]
    repeat' first|refine vs T rfl fun K hK=>?_;(try simp (disch:=omega) only[go_sem,Nat.reduceBEq,hd,z't]);(refine hK _ _ ?_;clear hK K)|refine st rfl ?_|refine sc rfl ?_|refine nl ?_|exact z'j T (z'a _) ⟨rfl,rfl⟩
 ·have hl':((a.length:Int) != (b.length:Int))=true:=bne_iff_ne.2 (by omega)
  have hab:decide (a=b)=false:=by
   rw[decide_eq_false_iff_not]
   intro h
   exact hl (by rw[h])
  rw[hab]
  repeat' first|refine vs T rfl fun K hK=>?_;(try simp (disch:=omega) only[go_sem,Nat.reduceBEq,z't,hl']);(refine hK _ _ ?_;clear hK K)|refine st rfl ?_|refine sc rfl ?_|refine nl ?_|exact z'j T (z'a _) ⟨rfl,rfl⟩
theorem z'l (l:List Int):(iRs l).length=l.length:=z'p ..
theorem y'y (l:List Int) (i:Nat):(iRs l)[i]?=(l[i]?).map fun n=>[iD n]:=z'4 ..
theorem ZdH (l:List Int): ∀r,r∈iRs l→r.length=1:=by
 intro r h
 obtain⟨x,_,rfl⟩:=z'y.1 h
 rfl
theorem Zf3 (l:List Int):(iRs l).flatten=l.map iD:=by
 induction l with
 |nil=>rfl
 |cons n l ih=>rw[iRs,z'z,z'X];rw[iRs]at ih;rw[ih];rfl
theorem Zbb (a b:List Int) (ha:a.length≤1000000) (hb:b.length≤1000000):Pure Tryz.prog 17 [z'S a,z'S b] (bD (decide (a=b))):=by
 refine Fun.of T [.tmp 4] Tryz.func17 rfl Tryz.ntmps17 Tryz.results17 rfl (by kernel_rfl) ?_
 by_cases hl:a.length=b.length
 ·have hl':((a.length:Int) != (b.length:Int))=false:=by simp[hl]
  repeat' first|refine vs T rfl fun K hK=>?_;(try simp (disch:=omega) only[go_sem,Nat.reduceBEq,z'l,hl']);(refine hK _ _ ?_;clear hK K)|refine st rfl ?_|refine sc rfl ?_|refine nl ?_
  refine VC.loop {k:Nat//k≤a.length∧ ∀i,i<k→a[i]?=b[i]?} (fun p=>⟨z'M [(0,z'S a),(1,z'S b),(5,iD (p.1:Nat))],[]⟩) (fun p=>a.length-p.1) ⟨0,by omega,fun i hi=>by omega⟩ ?_ ?_
  ·refine Weak.sub ?_
   simp[sub,upd]
  ·rintro⟨k,hk,hs⟩
   dsimp only
   rcases z'g k a.length with hlt|hge
   ·have hd:decide ((k:Int)<(a.length:Int))=true:=by simp;omega
    have hw:IntKind.i64.wrap ((k:Int)+1)=((k+1:Nat):Int):=by rw[w64 (by omega)];omega
    have hkb:k<b.length:=by omega
    obtain⟨x,hx⟩: ∃x,a[k]?=some x:=⟨_,z'b hlt⟩
    obtain⟨y,hy⟩: ∃y,b[k]?=some y:=⟨_,z'b hkb⟩
    have hrx:(iRs a)[k]?=some [iD x]:=by rw[y'y,hx];rfl
    have hry:(iRs b)[k]?=some [iD y]:=by rw[y'y,hy];rfl
    by_cases he:x=y
    ·have he':(x != y)=false:=by simp[he]
     repeat' first|refine dr (id:=6) T 8 (by kernel_rfl) ?_|refine gn ?_|apply VCg.step T rfl rfl;focus((try simp (disch:=omega) only[go_sem,Nat.reduceBEq,hrx,hry,z'l]);(first|exact rfl|refine⟨?_,rfl⟩;try omega))|refine vs T rfl fun K hK=>?_;(try simp (disch:=omega) only[go_sem,Nat.reduceBEq,hd,hw,he',z'l]);(refine hK _ _ ?_;clear hK K)|refine st rfl ?_|refine sc rfl ?_|refine nl ?_
     refine⟨⟨k+1,by omega,fun i hi=>?_⟩,Weak.sub ?_,by simp only[];omega⟩
     ·rcases z'g i k with h'|h'
      ·exact hs i h'
      ·obtain rfl:i=k:=by omega
       rw[hx,hy,he]
     ·simp[sub,upd]
    ·have he':(x != y)=true:=by simpa using he
     have hab:decide (a=b)=false:=by
      rw[decide_eq_false_iff_not]
      intro h
      rw[h,hy]at hx
      exact he (y'n hx).symm
     rw[hab]
     repeat' first|refine dr (id:=6) T 8 (by kernel_rfl) ?_|refine gn ?_|apply VCg.step T rfl rfl;focus((try simp (disch:=omega) only[go_sem,Nat.reduceBEq,hrx,hry,z'l]);(first|exact rfl|refine⟨?_,rfl⟩;try omega))|refine vs T rfl fun K hK=>?_;(try simp (disch:=omega) only[go_sem,Nat.reduceBEq,hd,he',z'l]);(refine hK _ _ ?_;clear hK K)|refine st rfl ?_|refine sc rfl ?_|refine nl ?_|exact z'j T (z'a _) ⟨rfl,rfl⟩
   ·have hd:decide ((k:Int)<(a.length:Int))=false:=by simp;omega
    have hab:decide (a=b)=true:=by
     rw[decide_eq_true_eq]
     apply x'w
     intro i
     rcases z'g i a.length with h'|h'
     ·exact hs i (by omega)
     ·rw[z'x h',z'x (by omega)]
    rw[hab]
    repeat' first|refine vs T rfl fun K hK=>?_;(try simp (disch:=omega) only[go_sem,Nat.reduceBEq,hd,z'l]);(refine hK _ _ ?_;clear hK K)|refine st rfl ?_|refine sc rfl ?_|refine nl ?_|exact z'j T (z'a _) ⟨rfl,rfl⟩
 ·have hl':((a.length:Int) != (b.length:Int))=true:=bne_iff_ne.2 (by omega)
  have hab:decide (a=b)=false:=by
   rw[decide_eq_false_iff_not]
   intro h
   exact hl (by rw[h])
  rw[hab]
  repeat' first|refine vs T rfl fun K hK=>?_;(try simp (disch:=omega) only[go_sem,Nat.reduceBEq,z'l,hl']);(refine hK _ _ ?_;clear hK K)|refine st rfl ?_|refine sc rfl ?_|refine nl ?_|exact z'j T (z'a _) ⟨rfl,rfl⟩
theorem Zf5 (o:Option Nat) (k:Nat):(x'r o == (k:Int))=decide (o=some k):=by
 cases o with
 |none=>
  have:(x'r none == (k:Int))=false:=by rw[beq_eq_false_iff_ne];simp only[x'r];omega
  simp[this]
 |some j=>simp only[x'r,y'i];rw[x'l];simp;omega
def Zcx (md lc:Int) (x:En):Bool:=decide (x.1<0)||decide (x.1≥lc)||decide (x.2<0)||decide (x.2≥md)
def v'A (m r:Int) (b:List En) (i:Nat) (x:En):Bool:=decide (m=3)&&((decide (i>0)&&decide (((b[i-1]?).getD (0,0)).1>x.1))||decide (((x'f x.1 b:Nat):Int)>r))
def x'1 (m r md lc:Int) (b:List En) (i:Nat):Bool:=Zcx md lc ((b[i]?).getD (0,0))||v'A m r b i ((b[i]?).getD (0,0))
def ZbH (m r md lc:Int) (b:List En):Bool:=
 (decide (1≤r)&&decide (r≤4)&&decide (2≤md)&&decide (md≤16))&&((List.range b.length).all fun i=> !x'1 m r md lc b i)&&(if m=1 then decide ((b.length:Int)=0)else if m=2 then decide ((b.length:Int)≤r)else decide (m=3))
theorem ZcB {m r md lc:Int} {b:List En} {i:Nat} (hi:i<b.length) (h:x'1 m r md lc b i=true):ZbH m r md lc b=false:=by
 unfold ZbH
 have:((List.range b.length).all fun i=> !x'1 m r md lc b i)=false:=by
  rw[w'T]
  exact⟨i,z'K.2 hi,by simp[h]⟩
 rw[this]
 simp
theorem Zer (b:List En) (hb:b.length≤1000000) (m r md lc:Int):Pure Tryz.prog 81 [buf b,iD m,iD r,iD md,iD lc] (bD (ZbH m r md lc b)):=by
 refine Fun.of T [.tmp 10] Tryz.func81 rfl Tryz.ntmps81 Tryz.results81 rfl (by kernel_rfl) ?_
 by_cases hg:1≤r∧r≤4∧2≤md∧md≤16
 ·have g1:decide (r<1)=false:=by simp;omega
  have g2:decide (r>4)=false:=by simp;omega
  have g3:decide (md<2)=false:=by simp;omega
  have g4:decide (md>16)=false:=by simp;omega
  repeat' first|refine vs T rfl fun K hK=>?_;(try simp (disch:=omega) only[go_sem,Nat.reduceBEq,Nat.reduceAdd,g1,g2,g3,g4,z't]);(refine hK _ _ ?_;clear hK K)|refine st rfl ?_|refine sc rfl ?_|refine nl ?_|refine gs rfl rfl ?_
  refine VC.loop {k:Nat//k≤b.length∧ ∀i,i<k→x'1 m r md lc b i=false} (fun p=>⟨z'M [(0,buf b),(1,iD m),(2,iD r),(3,iD md),(4,iD lc),(27,buf b),(28,iD (b.length:Nat)),(29,iD (p.1:Nat))],[]⟩) (fun p=>b.length-p.1) ⟨0,by omega,fun i hi=>by omega⟩ ?_ ?_
  ·refine Weak.sub ?_
   simp[sub,upd]
  ·rintro⟨k,hk,hno⟩
   dsimp only
   rcases z'g k b.length with hlt|hge
   ·have hd:decide ((k:Int)<(b.length:Int))=true:=by simp;omega
    have hw:IntKind.i64.wrap ((k:Int)+1)=((k+1:Nat):Int):=by rw[w64 (by omega)];omega
    obtain⟨x,hx⟩: ∃x,b[k]?=some x:=⟨_,z'b hlt⟩
    have hrow:(eRs b)[k]?=some [iD x.1,iD x.2]:=by rw[x'5,hx];rfl
    have hbad:x'1 m r md lc b k=(Zcx md lc x||v'A m r b k x):=by simp[x'1,hx]
    have fin:x'1 m r md lc b k=false→ ∀i,i<k+1→x'1 m r md lc b i=false:=fun h i hi=>by
     rcases z'g i k with h'|h'
     ·exact hno i h'
     ·obtain rfl:i=k:=by omega
      exact h
    cases hE:Zcx md lc x with
    |true=>
     have hR:=ZcB hlt (by rw[hbad,hE];rfl:x'1 m r md lc b k=true)
     rw[hR]
     repeat' first|refine dr (id:=8) T 22 (by kernel_rfl) ?_|refine gn ?_|(first|apply VCg.step T rfl rfl|apply exF);focus((try simp (disch:=omega) only[go_sem,Nat.reduceBEq,z't]);(first|exact rfl|refine Op1.callp rfl rfl (Zb4 b hb _) rfl ?_;exact⟨rfl,rfl⟩))|refine VCg.gstep T rfl rfl rfl rfl ?_;try simp only[GB]|refine VCg.gundef T rfl rfl rfl rfl ?_|refine vs T rfl fun K hK=>?_;(try simp (disch:=omega) only[go_sem,Nat.reduceBEq,Nat.reduceAdd,Nat.reduceLeDiff,hd,hw,hrow,z't]);(first|refine hK _ _ ?_;clear hK K|intro bq hbq;(try simp only[HB]at hbq);refine hK _ _ ?_;clear hK K|refine⟨?_,hK _ _ ?_⟩<;>clear hK K;focus(try omega))|refine st rfl ?_|refine sc rfl ?_|refine nl ?_|refine gs rfl rfl ?_|refine gu rfl rfl ?_|exact z'j T (z'a _) ⟨rfl,rfl⟩|with_reducible refine z's (fun hc=>?_) (fun hc=>?_)
     all_goals(refine absurd hE ?_;simp_all[Zcx])
    |false=>
     obtain⟨⟨⟨n1,n2⟩,n3⟩,n4⟩:((decide (x.1<0)=false∧decide (x.1≥lc)=false)∧decide (x.2<0)=false)∧decide (x.2≥md)=false:=by simpa[Zcx]using hE
     by_cases h3:m=3
     ·have e3:(m == 3)=true:=by simpa using h3
      rcases x'S k with h0|h0
      ·have hk0:decide ((k:Int)>0)=false:=by rw[h0];rfl
       by_cases hc:((x'f x.1 b:Nat):Int)>r
       ·have hc':decide (((x'f x.1 b:Nat):Int)>r)=true:=by simpa using hc
        have hP:v'A m r b k x=true:=by simp[v'A,h3,h0,hc]
        have hR:=ZcB hlt (by rw[hbad,hP,v'Y]:x'1 m r md lc b k=true)
        rw[hR]
        repeat' first|refine dr (id:=8) T 22 (by kernel_rfl) ?_|refine gn ?_|(first|apply VCg.step T rfl rfl|apply exF);focus((try simp (disch:=omega) only[go_sem,Nat.reduceBEq,e3,hk0]);(first|exact rfl|refine Op1.callp rfl rfl (Zb4 b hb _) rfl ?_;exact⟨rfl,rfl⟩))|refine VCg.gstep T rfl rfl rfl rfl ?_;try simp only[GB]|refine vs T rfl fun K hK=>?_;(try simp (disch:=omega) only[go_sem,Nat.reduceBEq,Nat.reduceAdd,Nat.reduceLeDiff,hd,hrow,z't,n1,n2,n3,n4,hc']);(first|refine hK _ _ ?_;clear hK K|intro bq hbq;(try simp only[HB]at hbq);refine hK _ _ ?_;clear hK K|refine⟨?_,hK _ _ ?_⟩<;>clear hK K;focus(try omega))|refine st rfl ?_|refine sc rfl ?_|refine nl ?_|refine gs rfl rfl ?_|exact z'j T (z'a _) ⟨rfl,rfl⟩
       ·have hc':decide (((x'f x.1 b:Nat):Int)>r)=false:=by simpa using hc
        have hP:x'1 m r md lc b k=false:=by rw[hbad,hE];simp[v'A,h3,h0,z'u.1 hc]
        repeat' first|refine dr (id:=8) T 22 (by kernel_rfl) ?_|refine gn ?_|(first|apply VCg.step T rfl rfl|apply exF);focus((try simp (disch:=omega) only[go_sem,Nat.reduceBEq,e3,hk0]);(first|exact rfl|refine Op1.callp rfl rfl (Zb4 b hb _) rfl ?_;exact⟨rfl,rfl⟩))|refine VCg.gstep T rfl rfl rfl rfl ?_;try simp only[GB]|refine vs T rfl fun K hK=>?_;(try simp (disch:=omega) only[go_sem,Nat.reduceBEq,Nat.reduceAdd,Nat.reduceLeDiff,hd,hw,hrow,z't,n1,n2,n3,n4,hc']);(first|refine hK _ _ ?_;clear hK K|intro bq hbq;(try simp only[HB]at hbq);refine hK _ _ ?_;clear hK K|refine⟨?_,hK _ _ ?_⟩<;>clear hK K;focus(try omega))|refine st rfl ?_|refine sc rfl ?_|refine nl ?_|refine gs rfl rfl ?_
        refine⟨⟨k+1,by omega,fin hP⟩,y'S rfl ?_,by simp only[];omega⟩
        simp[sub,upd]
      ·have hk0:decide ((k:Int)>0)=true:=by simp;omega
       have hwk:IntKind.i64.wrap ((k:Int)-1)=((k-1:Nat):Int):=by rw[w64 (by omega)];omega
       obtain⟨y,hy⟩: ∃y,b[k-1]?=some y:=⟨_,z'b (by omega)⟩
       have hrowy:(eRs b)[k-1]?=some [iD y.1,iD y.2]:=by rw[x'5,hy];rfl
       by_cases hyx:y.1>x.1
       ·have hyx':decide (y.1>x.1)=true:=by simpa using hyx
        have hP:v'A m r b k x=true:=by simp[v'A,h3,h0,hy,hyx]
        have hR:=ZcB hlt (by rw[hbad,hP,v'Y]:x'1 m r md lc b k=true)
        rw[hR]
        repeat' first|refine dr (id:=8) T 22 (by kernel_rfl) ?_|refine gn ?_|(first|apply VCg.step T rfl rfl|apply exF);focus((try simp (disch:=omega) only[go_sem,Nat.reduceBEq,z't,e3,hk0,hwk,hrowy,hyx']);(first|exact rfl|refine⟨?_,rfl⟩;try omega))|refine VCg.gstep T rfl rfl rfl rfl ?_;try simp only[GB]|refine vs T rfl fun K hK=>?_;(try simp (disch:=omega) only[go_sem,Nat.reduceBEq,Nat.reduceAdd,Nat.reduceLeDiff,hd,hrow,z't,n1,n2,n3,n4]);(first|refine hK _ _ ?_;clear hK K|intro bq hbq;(try simp only[HB]at hbq);refine hK _ _ ?_;clear hK K|refine⟨?_,hK _ _ ?_⟩<;>clear hK K;focus(try omega))|refine st rfl ?_|refine sc rfl ?_|refine nl ?_|refine gs rfl rfl ?_|exact z'j T (z'a _) ⟨rfl,rfl⟩
       ·have hyx':decide (y.1>x.1)=false:=by simpa using hyx
        by_cases hc:((x'f x.1 b:Nat):Int)>r
        ·have hc':decide (((x'f x.1 b:Nat):Int)>r)=true:=by simpa using hc
         have hP:v'A m r b k x=true:=by simp[v'A,h3,h0,hy,z'u.1 hyx,hc]
         have hR:=ZcB hlt (by rw[hbad,hP,v'Y]:x'1 m r md lc b k=true)
         rw[hR]
         repeat' first|refine dr (id:=8) T 22 (by kernel_rfl) ?_|refine gn ?_|(first|apply VCg.step T rfl rfl|apply exF);focus((try simp (disch:=omega) only[go_sem,Nat.reduceBEq,z't,e3,hk0,hwk,hrowy,hyx']);(first|exact rfl|refine⟨?_,rfl⟩;try omega|refine Op1.callp rfl rfl (Zb4 b hb _) rfl ?_;exact⟨rfl,rfl⟩))|refine VCg.gstep T rfl rfl rfl rfl ?_;try simp only[GB]|refine vs T rfl fun K hK=>?_;(try simp (disch:=omega) only[go_sem,Nat.reduceBEq,Nat.reduceAdd,Nat.reduceLeDiff,hd,hrow,z't,n1,n2,n3,n4,hc']);(first|refine hK _ _ ?_;clear hK K|intro bq hbq;(try simp only[HB]at hbq);refine hK _ _ ?_;clear hK K|refine⟨?_,hK _ _ ?_⟩<;>clear hK K;focus(try omega))|refine st rfl ?_|refine sc rfl ?_|refine nl ?_|refine gs rfl rfl ?_|exact z'j T (z'a _) ⟨rfl,rfl⟩
        ·have hc':decide (((x'f x.1 b:Nat):Int)>r)=false:=by simpa using hc
         have hP:x'1 m r md lc b k=false:=by rw[hbad,hE];simp[v'A,h3,h0,hy,z'u.1 hyx,z'u.1 hc]
         repeat' first|refine dr (id:=8) T 22 (by kernel_rfl) ?_|refine gn ?_|(first|apply VCg.step T rfl rfl|apply exF);focus((try simp (disch:=omega) only[go_sem,Nat.reduceBEq,z't,e3,hk0,hwk,hrowy,hyx']);(first|exact rfl|refine⟨?_,rfl⟩;try omega|refine Op1.callp rfl rfl (Zb4 b hb _) rfl ?_;exact⟨rfl,rfl⟩))|refine VCg.gstep T rfl rfl rfl rfl ?_;try simp only[GB]|refine vs T rfl fun K hK=>?_;(try simp (disch:=omega) only[go_sem,Nat.reduceBEq,Nat.reduceAdd,Nat.reduceLeDiff,hd,hw,hrow,z't,n1,n2,n3,n4,hc']);(first|refine hK _ _ ?_;clear hK K|intro bq hbq;(try simp only[HB]at hbq);refine hK _ _ ?_;clear hK K|refine⟨?_,hK _ _ ?_⟩<;>clear hK K;focus(try omega))|refine st rfl ?_|refine sc rfl ?_|refine nl ?_|refine gs rfl rfl ?_
         refine⟨⟨k+1,by omega,fin hP⟩,y'S rfl ?_,by simp only[];omega⟩
         simp[sub,upd]
     ·have e3:(m == 3)=false:=by simpa using h3
      have hP:x'1 m r md lc b k=false:=by rw[hbad,hE];simp[v'A,h3]
      repeat' first|refine dr (id:=8) T 22 (by kernel_rfl) ?_|refine gn ?_|(first|apply VCg.step T rfl rfl|apply exF);focus((try simp (disch:=omega) only[go_sem,Nat.reduceBEq,e3]);(exact rfl))|refine VCg.gstep T rfl rfl rfl rfl ?_;try simp only[GB]|refine VCg.gundef T rfl rfl rfl rfl ?_|refine vs T rfl fun K hK=>?_;(try simp (disch:=omega) only[go_sem,Nat.reduceBEq,Nat.reduceAdd,Nat.reduceLeDiff,hd,hw,hrow,z't,n1,n2,n3,n4]);(first|refine hK _ _ ?_;clear hK K|intro bq hbq;(try simp only[HB]at hbq);refine hK _ _ ?_;clear hK K|refine⟨?_,hK _ _ ?_⟩<;>clear hK K;focus(try omega))|refine st rfl ?_|refine sc rfl ?_|refine nl ?_|refine gs rfl rfl ?_|refine gu rfl rfl ?_
      refine⟨⟨k+1,by omega,fin hP⟩,y'S rfl ?_,by simp only[];omega⟩
      simp[sub,upd]
   ·have hd:decide ((k:Int)<(b.length:Int))=false:=by simp;omega
    have hall:((List.range b.length).all fun i=> !x'1 m r md lc b i)=true:=by
     rw[z'B]
     intro i hi
     rw[hno i (by have:=z'K.1 hi;omega)];rfl
    have hR:ZbH m r md lc b=(if m=1 then decide ((b.length:Int)=0)else if m=2 then decide ((b.length:Int)≤r)else decide (m=3)):=by
     unfold ZbH
     rw[hall]
     simp[hg]
    rw[hR]
    by_cases h1:m=1
    ·have e1:(m == 1)=true:=by simpa using h1
     rw[if_pos h1]
     repeat' first|refine vs T rfl fun K hK=>?_;(try simp (disch:=omega) only[go_sem,Nat.reduceBEq,hd,z't,e1]);(refine hK _ _ ?_;clear hK K)|refine st rfl ?_|refine sc rfl ?_|refine nl ?_|exact z'j T (z'a _) ⟨rfl,rfl⟩
     all_goals first|rfl|simp_all
    ·have e1:(m == 1)=false:=by simpa using h1
     rw[if_neg h1]
     by_cases h2:m=2
     ·have e2:(m == 2)=true:=by simpa using h2
      rw[if_pos h2]
      repeat' first|refine vs T rfl fun K hK=>?_;(try simp (disch:=omega) only[go_sem,Nat.reduceBEq,hd,z't,e1,e2]);(refine hK _ _ ?_;clear hK K)|refine st rfl ?_|refine sc rfl ?_|refine nl ?_|exact z'j T (z'a _) ⟨rfl,rfl⟩
     ·have e2:(m == 2)=false:=by simpa using h2
      rw[if_neg h2]
      repeat' first|refine vs T rfl fun K hK=>?_;(try simp (disch:=omega) only[go_sem,Nat.reduceBEq,hd,e1,e2]);(refine hK _ _ ?_;clear hK K)|refine st rfl ?_|refine sc rfl ?_|refine nl ?_|exact z'j T (z'a _) ⟨rfl,rfl⟩
      all_goals rfl
 ·have hR:ZbH m r md lc b=false:=by
   unfold ZbH
   have:(decide (1≤r)&&decide (r≤4)&&decide (2≤md)&&decide (md≤16))=false:=by
    rw[Bool.eq_false_iff]
    intro h
    simp only[z'h,decide_eq_true_eq]at h
    exact hg ⟨h.1.1.1,h.1.1.2,h.1.2,h.2⟩
   rw[this];rfl
  rw[hR]
  rcases ZaF r 1 with h|h
  ·have g1:decide (r<1)=true:=by simpa using h
   repeat' first|refine vs T rfl fun K hK=>?_;(try simp (disch:=omega) only[go_sem,Nat.reduceBEq,Nat.reduceAdd,g1]);(refine hK _ _ ?_;clear hK K)|refine st rfl ?_|refine sc rfl ?_|refine nl ?_|refine gs rfl rfl ?_|exact z'j T (z'a _) ⟨rfl,rfl⟩
  have g1:decide (r<1)=false:=by simp;omega
  rcases ZaF 4 r with h'|h'
  ·have g2:decide (r>4)=true:=by simpa using h'
   repeat' first|refine vs T rfl fun K hK=>?_;(try simp (disch:=omega) only[go_sem,Nat.reduceBEq,Nat.reduceAdd,g1,g2]);(refine hK _ _ ?_;clear hK K)|refine st rfl ?_|refine sc rfl ?_|refine nl ?_|refine gs rfl rfl ?_|exact z'j T (z'a _) ⟨rfl,rfl⟩
  have g2:decide (r>4)=false:=by simp;omega
  rcases ZaF md 2 with h''|h''
  ·have g3:decide (md<2)=true:=by simpa using h''
   repeat' first|refine vs T rfl fun K hK=>?_;(try simp (disch:=omega) only[go_sem,Nat.reduceBEq,Nat.reduceAdd,g1,g2,g3]);(refine hK _ _ ?_;clear hK K)|refine st rfl ?_|refine sc rfl ?_|refine nl ?_|refine gs rfl rfl ?_|exact z'j T (z'a _) ⟨rfl,rfl⟩
  have g3:decide (md<2)=false:=by simp;omega
  have g4:decide (md>16)=true:=by simp;omega
  repeat' first|refine vs T rfl fun K hK=>?_;(try simp (disch:=omega) only[go_sem,Nat.reduceBEq,Nat.reduceAdd,g1,g2,g3,g4]);(refine hK _ _ ?_;clear hK K)|refine st rfl ?_|refine sc rfl ?_|refine nl ?_|refine gs rfl rfl ?_|exact z'j T (z'a _) ⟨rfl,rfl⟩
theorem w't {H:Heap}:FzL H [] []:=rfl
theorem z'E {H:Heap} {d' d:D} {ds' ds:List D} (h:Fz H d' d) (hs:FzL H ds' ds):FzL H (d'::ds') (d::ds):=⟨d,ds,rfl,h,hs⟩
theorem ZhN {H:Heap} {f:Bool} {esz:Nat} {rows:List (List D)}:Fz H (.sl false esz rows) (.sl f esz rows):= .inr ⟨rfl,.inl ⟨f,rfl⟩⟩
theorem y'v {H:Heap} {esz:Nat}:Fz H (.sl false esz []) (.gs none 0):= .inr ⟨rfl,.inr (.inl ⟨rfl,rfl⟩)⟩
theorem Zh6 {H:Heap} {d' d:D} {ds:List D} (h:Fz H d' d):FzL H (d'::ds) (d::ds):=z'E h (FzL.refl _ _)
theorem x'u {H:Heap} {d0 d' d:D} {ds:List D} (h:Fz H d' d):FzL H (d0::d'::ds) (d0::d::ds):=z'E (Fz.refl _ _) (Zh6 h)
theorem HInv.none {w:World} {L0:Nat→Prop} (h:HInv w L0 []):ZeW w L0 [] [] (live [] L0):=⟨h,fun b c hm=>(by cases hm),fun b _ hl=>hl⟩
theorem Fun.argsW {P:Program} {f:FuncId} {args args':List D} {d:D} (h:Pure P f args' d) (hf:FzL [] args' args):Pure P f args d:=
 ⟨h.1,fun w L0 vs hi hr=>h.2 w L0 vs hi (RelL.fz (HInv.none hi) _ _ _ hf hr)⟩
def ZeX (k:IntKind) (x y:Int):Int:=k.wrap ((BitVec.ofInt k.bits x&&&BitVec.ofInt k.bits y).toNat:Nat)
theorem ZpD {P:Program} {o:Oper} {E:Operand→D} {H:Heap} {t u:TypeId} {x y:Operand} {k:IntKind} {a b:Int} (ho:o.op= .binOp .and t x y u) (ha:E x= .is (.int k a)) (hb:E y= .is (.int k b)):
  OpS P o E H (fun d' H'=>d'= .is (.int k (ZeX k a b))∧H'=H):=by
 refine OpS.value fun w L0 ε hi hx=>?_
 have h1:=hx x (by simp[ho,Op.operands])
 have h2:=hx y (by simp[ho,Op.operands])
 rw[ha]at h1;rw[hb]at h2
 have h1':ε x= .int k a:=h1
 have h2':ε y= .int k b:=h2
 have hg:(eqGuard .and t x y (.int k a) (.int k b)).run P w= .ok () w:=w'r trivial
 refine⟨.int k (ZeX k a b),?_,rfl⟩
 simp only[execOp,ho,h1',h2']
 rw[z'n (a:=Value.int k (ZeX k a b)) (w':=w) (by rw[z'n hg];simp only[binOp,ne_eq,not_true_eq_false,if_false,Op.intBits];rfl)]
 rfl
theorem VCg.stepS {P:Program} (T:Tab P) {ops:Array Oper} {H:Heap} {K:(Nat→D)→List (Tmp×NewI)→Prop} {m:Nat} {E:Nat→D} {news:List (Tmp×NewI)} {o:Oper} {l:List Oper} {d:D} {t:Tmp}
  (hg:o.guard=none) (ht:o.dst=some t) (h1:OpS P o (evD E) H (fun d' H'=>d'=d∧H'=H)) (h2:VCg T ops H K m l (upd E t d) news):VCg T ops H K (m+1) (o::l) E news:=
 by unfold VCg;exact⟨.det d,⟨.inl hg,h1⟩,by rw[v'2,z'r,ht];exact h2⟩
def ZpC (x:En):Prop:=(0≤x.1∧x.1<4)∧(0≤x.2∧x.2<8)
def InvQ (m:Int) (is b:List En):Prop:=b.length=is.length∧(∀x,x∈b→ZpC x)∧(m=2∧b=is∨m=3∧Srt b∧SameQ is b)
theorem InvQ.zero {m:Int} (h:m=2∨m=3):InvQ m [] []:=⟨rfl,fun x h=>(by cases h),h.imp (fun h=>⟨h,rfl⟩) (fun h=>⟨h,trivial,fun _=>rfl⟩)⟩
theorem InvQ.push {m:Int} {is b:List En} {e:En} (h:InvQ m is b) (he:ZpC e):InvQ m (is++[e]) (x'2 m e b):=by
 obtain⟨h1,h2,h3⟩:=h
 rcases h3 with⟨rfl,rfl⟩|⟨rfl,h4,h5⟩
 ·have hp:x'2 2 e b=b++[e]:=rfl
  rw[hp]
  refine⟨rfl,fun x hx=>?_,.inl ⟨rfl,rfl⟩⟩
  rcases y'x.1 hx with hx|hx
  ·exact h2 x hx
  ·rw[x'g]at hx;subst hx;exact he
 ·have hp:x'2 3 e b=w'k e b:=rfl
  rw[hp]
  refine⟨by rw[ZcV,z'k,h1];rfl,fun x hx=>?_,.inr ⟨rfl,Zf1 e b h4,fun loc=>?_⟩⟩
  ·rcases(ZdU e b x).1 hx with rfl|hx
   ·exact he
   ·exact h2 x hx
  ·rw[ZfT e loc b h4,v'0,h5 loc]
theorem Srt.le {b:List En} (h:Srt b): ∀(i:Nat) (x y:En),b[i]?=some x→b[i+1]?=some y→x.1≤y.1:=by
 induction b with
 |nil=>intro i x y hx;simp at hx
 |cons a r ih=>
  intro i x y hx hy
  cases i with
  |zero=>
   obtain rfl:a=x:=by simpa using hx
   exact h.1 y (z'f (by simpa using hy))
  |succ i=>exact ih h.2 i x y (by simpa using hx) (by simpa using hy)
def Inv2 (m:Int) (is b:List En):Prop:=b.length=is.length∧(m=2∧b=is∨m=3∧SameQ is b)
theorem ZkM {m:Int} {b:List En} {l:Int} (h:l∈Za0 m b): ∃i x,b[i]?=some x∧x.1=l∧Zem m b i=true:=by
 obtain⟨i,hi,hl⟩:=z'y.1 h
 obtain⟨h1,h2⟩:=x'B.1 hi
 obtain⟨x,hx⟩: ∃x,b[i]?=some x:=⟨_,z'b (z'K.1 h1)⟩
 exact⟨i,x,hx,by rw[←hl,hx];rfl,h2⟩
theorem ZeO {x:En} {r:List En}:Za0 2 (x::r)=[x.1]:=by
 unfold Za0 ZkO
 have: ∀n,(List.range (n+1)).filter (Zem 2 (x::r))=[0]:=by
  intro n
  induction n with
  |zero=>simp[Zem]
  |succ n ih=>
   rw[y'p,y'r,ih]
   simp[Zem]
 rw[z'D,this]
 rfl
theorem Inv2.step {m:Int} {is b:List En} (h:Inv2 m is b) (hne:is≠[]):
  ∃l j k x,(Za0 m b)[(Za0 m b).length-1]?=some l∧0<(Za0 m b).length∧(m=2→(Za0 m b)[0]?=(is[0]?).map (·.1))∧z'Y m l b=some j∧w'0 l is=some k∧b[j]?=some x∧is[k]?=some x∧Inv2 m (w'I k is) (w'I j b):=by
 obtain⟨h1,h2⟩:=h
 have lens: ∀(k j:Nat),k<is.length→j<b.length→(w'I j b).length=(w'I k is).length:=fun k j hk hj=>by simp[w'I];omega
 rcases h2 with⟨rfl,rfl⟩|⟨rfl,hq⟩
 ·rcases b with _|⟨x,r⟩
  ·exact absurd rfl hne
  ·have hn:z'Y 2 x.1 (x::r)=some 0:=by simp[z'Y]
   have hf:w'0 x.1 (x::r)=some 0:=by simp[w'0]
   exact⟨x.1,0,0,x,by rw[ZeO];rfl,by rw[ZeO];exact Nat.one_pos,fun _=>by rw[ZeO];rfl,hn,hf,rfl,rfl,rfl,.inl ⟨rfl,rfl⟩⟩
 ·rcases b with _|⟨y,r⟩
  ·exact absurd (z'P h1.symm) hne
  ·have h0:Zem 3 (y::r) 0=true:=by simp[Zem,w'0]
   have hmem:y.1∈Za0 3 (y::r):=z'y.2 ⟨0,x'B.2 ⟨z'K.2 (by simp),h0⟩,rfl⟩
   have hpos:0<(Za0 3 (y::r)).length:=List.length_pos_of_mem hmem
   obtain⟨l,hl⟩: ∃l,(Za0 3 (y::r))[(Za0 3 (y::r)).length-1]?=some l:=⟨_,z'b (by omega)⟩
   obtain⟨i,x,hx,hxl,hs⟩:=ZkM (z'f hl)
   have hfi:w'0 l (y::r)=some i:=by
    simp only[Zem,hx,z'I,hxl]at hs
    simpa using hs
   have hk: ∃k,w'0 l is=some k:=by
    cases hc:w'0 l is with
    |some k=>exact⟨k,rfl⟩
    |none=>
     have:=hq l
     rw[Zhp hc]at this
     obtain⟨z,p,q,e,_,hz,_⟩:=Zcm hfi
     rw[e,v'0]at this
     have hzq:que l (z::q)=z::que l q:=by rw[que,w'F];simp[hz,que]
     rw[hzq]at this
     simp at this
   obtain⟨k,hk⟩:=hk
   obtain⟨e1,e2⟩:=SameQ.cut hq hk hfi
   exact⟨l,i,k,x,hl,hpos,fun h=>absurd h (by decide),by simp[z'Y,hfi],hk,hx,by rw[e1,hx],lens _ _ (ZgO hk) (ZgO hfi),.inr ⟨rfl,e2⟩⟩
theorem Weak.trans {s s' s'':St} (h:Weak s s') (h':Weak s' s''):Weak s s'':=fun x a w hs=>h' x a w (h x a w hs)
theorem Za4 {g:Option (Nat×Nat)} {e:TypeId} {esz n:Nat} {rows:List (List D)} (hg:gOk g n) (hn:rows.length=n) (hr: ∀r,r∈rows→r.length=esz):Fz (shp g e esz rows.flatten []) (.sl false esz rows) (.gs g n):=by
 subst hn
 cases g with
 |none=>
  have h0:rows=[]:=z'P hg
  subst h0
  exact .inr ⟨rfl,.inr (.inl ⟨rfl,rfl⟩)⟩
 |some p=>
  obtain⟨b,cap⟩:=p
  exact .inr ⟨rfl,.inr (.inr ⟨b,0,rows.length,cap,.inl ⟨rfl,rfl⟩,rfl,e,_,_,z'C ..,FzR.refl _ _ hr⟩)⟩
end Go.Proofs.YtomcmfbpmkklmaaGreat
