/- Units and configurations as data; contracts of the reference's store. No condition. -/
import Derived.Test.YtomcmfbpmkklmaaGreatWd
namespace Go.Proofs.YtomcmfbpmkklmaaGreat
set_option maxHeartbeats 16000000
set_option linter.unusedSimpArgs false
set_option linter.unusedVariables false
set_option maxRecDepth 20000
open Go Go.Proofs Go.Vc
attribute [local irreducible] y'0 VCg VCw VCx
theorem Zcg {g:Option (Nat×Nat)} {e:TypeId} {esz:Nat} {l:List D} {X:Heap}:(shp g e esz l []).Sublist (shp g e esz l X):=by
 cases g with
 |none=>exact z'a _
 |some p=>
  obtain⟨k,cap⟩:=p
  exact(z'a _).cons_cons _
def inB (n m:Int):Bool:=decide (n≥0)&&decide (n<m)
theorem v'I (n m:Int):Pure Tryz.prog 136 [iD n,iD m] (bD (inB n m)):=by
 refine Fun.of T [.tmp 4] Tryz.func136 rfl Tryz.ntmps136 Tryz.results136 rfl (by kernel_rfl) ?_
 repeat' first|refine vs T rfl fun K hK=>?_;(try simp (disch:=omega) only[go_sem,Nat.reduceBEq]);(refine hK _ _ ?_;clear hK K)|refine st rfl ?_|refine nl ?_|refine gs rfl rfl ?_|refine z'j T (z'a _) ?_;(try simp only[upd,Nat.reduceBEq,cond_true,cond_false,and_true])|with_reducible refine z's (fun hc=>?_) (fun hc=>?_)
 all_goals first|(simp_all[inB];done)|(simp_all[inB];omega)
def y'z (l:List Int) (m:Int):Bool:=l.all fun n=>inB n m
theorem Zb2 (l:List Int) (hl:l.length≤1000000) (m:Int):Pure Tryz.prog 99 [z'S l,iD m] (bD (y'z l m)):=by
 refine Fun.of T [.tmp 4] Tryz.func99 rfl Tryz.ntmps99 Tryz.results99 rfl (by kernel_rfl) ?_
 repeat' first|refine vs T rfl fun K hK=>?_;(try simp (disch:=omega) only[go_sem]);(refine hK _ _ ?_;clear hK K)|refine st rfl ?_|refine nl ?_
 refine VC.loop {k:Nat//k≤l.length∧ ∀i n,i<k→l[i]?=some n→inB n m=true} (fun p=>⟨z'M [(0,z'S l),(1,iD m),(5,iD (p.1:Nat))],[]⟩) (fun p=>l.length-p.1) ⟨0,by omega,fun i n hi=>by omega⟩ ?_ ?_
 ·refine Weak.sub ?_
  simp[sub,upd]
 ·rintro⟨k,hk,hno⟩
  dsimp only
  rcases z'g k l.length with hlt|hge
  ·have hd:decide ((k:Int)<(l.length:Int))=true:=by simp;omega
   have hw:IntKind.i64.wrap ((k:Int)+1)=((k+1:Nat):Int):=by rw[w64 (by omega)];omega
   obtain⟨x,hx⟩: ∃x,l[k]?=some x:=⟨_,z'b hlt⟩
   have hrow:(iRs l)[k]?=some [iD x]:=by rw[y'y,hx];rfl
   cases he:inB x m with
   |true=>
    repeat' first|refine vs T rfl fun K hK=>?_;(try simp (disch:=omega) only[go_sem,Nat.reduceBEq,hd,hw,hrow,he,z'l,z'i]);(first|refine hK _ _ ?_;clear hK K|refine⟨?_,hK _ _ ?_⟩<;>clear hK K;focus(try omega)|refine Op1.callp rfl rfl (v'I _ _) rfl ?_;refine hK _ _ ?_;clear hK K)|refine st rfl ?_|refine sc rfl ?_|refine nl ?_
    refine⟨⟨k+1,by omega,fun i n hi hn=>?_⟩,Weak.sub ?_,by simp only[];omega⟩
    ·rcases z'g i k with h'|h'
     ·exact hno i n h' hn
     ·obtain rfl:i=k:=by omega
      rw[hx]at hn;cases hn;exact he
    ·simp[sub,upd]
   |false=>
    have hA:y'z l m=false:=by
     unfold y'z
     rw[w'T]
     exact⟨x,z'f hx,by simp[he]⟩
    rw[hA]
    repeat' first|refine vs T rfl fun K hK=>?_;(try simp (disch:=omega) only[go_sem,Nat.reduceBEq,hd,hrow,he,z'l,z'q]);(first|refine hK _ _ ?_;clear hK K|refine⟨?_,hK _ _ ?_⟩<;>clear hK K;focus(try omega)|refine Op1.callp rfl rfl (v'I _ _) rfl ?_;refine hK _ _ ?_;clear hK K)|refine st rfl ?_|refine sc rfl ?_|refine nl ?_|exact z'j T (z'a _) ⟨rfl,rfl⟩
  ·have hd:decide ((k:Int)<(l.length:Int))=false:=by simp;omega
   have hA:y'z l m=true:=by
    unfold y'z
    rw[z'B]
    intro n hn
    obtain⟨i,hi⟩:=x'y hn
    exact hno i n (by have:=(z'c.1 hi).1;omega) hi
   rw[hA]
   repeat' first|refine vs T rfl fun K hK=>?_;(try simp (disch:=omega) only[go_sem,Nat.reduceBEq,hd,z'l]);(refine hK _ _ ?_;clear hK K)|refine st rfl ?_|refine sc rfl ?_|refine nl ?_|exact z'j T (z'a _) ⟨rfl,rfl⟩
theorem Zcn (b:List En) (hb:b.length≤1000000) (loc:Int):Pure Tryz.prog 137 [buf b,iD loc] (iD (x'f loc b:Nat)):=by
 refine Fun.of T [.tmp 4] Tryz.func137 rfl Tryz.ntmps137 Tryz.results137 rfl (by kernel_rfl) ?_
 repeat' first|refine vs T rfl fun K hK=>?_;(try simp (disch:=omega) only[go_sem]);(refine hK _ _ ?_;clear hK K)|refine st rfl ?_|refine nl ?_
 refine VC.loop {k:Nat//k≤b.length} (fun p=>⟨z'M [(0,buf b),(1,iD loc),(5,iD (x'f loc (b.take p.1):Nat)),(6,iD (p.1:Nat))],[]⟩) (fun p=>b.length-p.1) ⟨0,by omega⟩ ?_ ?_
 ·refine Weak.sub ?_
  simp[sub,upd,x'f]
 ·rintro⟨k,hk⟩
  dsimp only
  have hc:x'f loc (b.take k)≤b.length:=y'H Zag (by rw[z'A];omega)
  rcases z'g k b.length with hlt|hge
  ·have hd:decide ((k:Int)<(b.length:Int))=true:=by simp;omega
   have hw:IntKind.i64.wrap ((k:Int)+1)=((k+1:Nat):Int):=by rw[w64 (by omega)];omega
   have hw2:IntKind.i64.wrap ((x'f loc (b.take k):Nat)+1:Int)=((x'f loc (b.take k)+1:Nat):Int):=by rw[w64 (by omega)];omega
   obtain⟨x,hx⟩: ∃x,b[k]?=some x:=⟨_,z'b hlt⟩
   have hrow:(eRs b)[k]?=some [iD x.1,iD x.2]:=by rw[x'5,hx];rfl
   have ht:b.take (k+1)=b.take k++[x]:=by rw[y'b,hx];rfl
   by_cases he:x.1=loc
   ·have he':(x.1 == loc)=true:=by simpa using he
    have hn:x'f loc (b.take (k+1))=x'f loc (b.take k)+1:=by rw[ht,x'f,v'f];simp[he,x'f]
    repeat' first|refine vs T rfl fun K hK=>?_;(try simp (disch:=omega) only[go_sem,Nat.reduceBEq,hd,hw,hw2,hrow,he',z't]);(first|refine hK _ _ ?_;clear hK K|refine⟨?_,hK _ _ ?_⟩<;>clear hK K;focus(try omega))|refine st rfl ?_|refine sc rfl ?_|refine nl ?_
    refine⟨⟨k+1,by omega⟩,Weak.sub ?_,by simp only[];omega⟩
    simp[sub,upd,hn]
   ·have he':(x.1 == loc)=false:=by simpa using he
    have hn:x'f loc (b.take (k+1))=x'f loc (b.take k):=by rw[ht,x'f,v'f];simp[he,x'f]
    repeat' first|refine vs T rfl fun K hK=>?_;(try simp (disch:=omega) only[go_sem,Nat.reduceBEq,hd,hw,hrow,he',z't]);(first|refine hK _ _ ?_;clear hK K|refine⟨?_,hK _ _ ?_⟩<;>clear hK K;focus(try omega))|refine st rfl ?_|refine sc rfl ?_|refine nl ?_
    refine⟨⟨k+1,by omega⟩,Weak.sub ?_,by simp only[];omega⟩
    simp[sub,upd,hn]
  ·have hd:decide ((k:Int)<(b.length:Int))=false:=by simp;omega
   have ht:b.take k=b:=z'V hge
   repeat' first|refine vs T rfl fun K hK=>?_;(try simp (disch:=omega) only[go_sem,Nat.reduceBEq,hd,ht,z't]);(refine hK _ _ ?_;clear hK K)|refine st rfl ?_|refine sc rfl ?_|refine nl ?_|exact z'j T (z'a _) ⟨rfl,rfl⟩
theorem ZmB (b:List En) (hb:b.length≤1000000) (m r loc:Int):Pure Tryz.prog 158 [buf b,iD m,iD r,iD loc] (bD (ZaR m r loc b)):=by
 refine Fun.of T [.tmp 8] Tryz.func158 rfl Tryz.ntmps158 Tryz.results158 rfl (by kernel_rfl) ?_
 by_cases h2:m=2
 ·subst h2
  repeat' first|refine vs T rfl fun K hK=>?_;(try simp (disch:=omega) only[go_sem,Nat.reduceBEq,Nat.reduceAdd,z't]);(refine hK _ _ ?_;clear hK K)|refine st rfl ?_|refine sc rfl ?_|refine nl ?_|exact z'j T (z'a _) ⟨rfl,rfl⟩
 ·have e2:(m == 2)=false:=by simpa using h2
  by_cases h3:m=3
  ·subst h3
   repeat' first|refine vs T rfl fun K hK=>?_;(try simp (disch:=omega) only[go_sem,Nat.reduceBEq,Nat.reduceAdd]);(first|refine hK _ _ ?_;clear hK K|refine Op1.callp rfl rfl (Zcn b hb _) rfl ?_;refine hK _ _ ?_;clear hK K)|refine st rfl ?_|refine sc rfl ?_|refine nl ?_|exact z'j T (z'a _) ⟨rfl,rfl⟩
  ·have e3:(m == 3)=false:=by simpa using h3
   repeat' first|refine vs T rfl fun K hK=>?_;(try simp (disch:=omega) only[go_sem,Nat.reduceBEq,Nat.reduceAdd,e2,e3]);(refine hK _ _ ?_;clear hK K)|refine st rfl ?_|refine sc rfl ?_|refine nl ?_|refine z'j T (z'a _) ?_;(try simp only[upd,Nat.reduceBEq,cond_true,cond_false,and_true])
   simp[ZaR,h2,h3]
theorem ZmN (b:List En) (hb:b.length≤1000000) (loc:Int):Pure Tryz.prog 165 [buf b,iD loc] (Znl (v't loc b)):=by
 have hw0:IntKind.i64.wrap ((b.length:Int)-1)=(b.length:Int)-1:=by rw[w64 (by omega)]
 refine Fun.of T [.tmp 4,.tmp 5] Tryz.func165 rfl Tryz.ntmps165 Tryz.results165 rfl (by kernel_rfl) ?_
 repeat' first|refine vs T rfl fun K hK=>?_;(try simp (disch:=omega) only[go_sem,Nat.reduceBEq,z't,hw0]);(refine hK _ _ ?_;clear hK K)|refine st rfl ?_|refine nl ?_
 refine VC.loop {k:Nat//k≤b.length∧ ∀(i:Nat) (y:En),k≤i→b[i]?=some y→y.1≠loc} (fun p=>⟨z'M [(0,buf b),(1,iD loc),(6,iD ((p.1:Nat)-1:Int))],[]⟩) (fun p=>p.1) ⟨b.length,by omega,fun i y hi hy=>by have:=(z'c.1 hy).1;omega⟩ ?_ ?_
 ·refine Weak.sub ?_
  simp[sub,upd]
 ·rintro⟨k,hk,hno⟩
  dsimp only
  rcases k with _|k
  ·have hd:decide (((0:Nat):Int)-1≥0)=false:=by decide
   have hf:v't loc b=none:=lastF_at.lastF_no fun i y hy=>hno i y (by omega) hy
   rw[hf]
   repeat' first|refine vs T rfl fun K hK=>?_;(try simp (disch:=omega) only[go_sem,Nat.reduceBEq,hd]);(refine hK _ _ ?_;clear hK K)|refine st rfl ?_|refine sc rfl ?_|refine nl ?_|exact x'E T (z'a _) ⟨rfl,rfl⟩
  ·have hd:decide (((k+1:Nat):Int)-1≥0)=true:=by rw[decide_eq_true_eq];omega
   have hi:((k+1:Nat):Int)-1=(k:Int):=by omega
   have hw:IntKind.i64.wrap ((k:Int)-1)=(k:Int)-1:=by rw[w64 (by omega)]
   obtain⟨x,hx⟩: ∃x,b[k]?=some x:=⟨_,z'b (by omega)⟩
   have hrow:(eRs b)[k]?=some [iD x.1,iD x.2]:=by rw[x'5,hx];rfl
   rw[hi]at hd⊢
   by_cases he:x.1=loc
   ·have he':(x.1 == loc)=true:=by simpa using he
    have hf:=lastF_at hx he fun i y h1 h2=>hno i y (by omega) h2
    rw[hf]
    repeat' first|refine vs T rfl fun K hK=>?_;(try simp (disch:=omega) only[go_sem,Nat.reduceBEq,hd,hrow,he',z't]);(first|refine hK _ _ ?_;clear hK K|refine⟨?_,hK _ _ ?_⟩<;>clear hK K;focus(try omega))|refine st rfl ?_|refine sc rfl ?_|refine nl ?_|exact x'E T (z'a _) ⟨rfl,rfl⟩
   ·have he':(x.1 == loc)=false:=by simpa using he
    repeat' first|refine vs T rfl fun K hK=>?_;(try simp (disch:=omega) only[go_sem,Nat.reduceBEq,hd,hw,hrow,he',z't]);(first|refine hK _ _ ?_;clear hK K|refine⟨?_,hK _ _ ?_⟩<;>clear hK K;focus(try omega))|refine st rfl ?_|refine sc rfl ?_|refine nl ?_
    refine⟨⟨k,by omega,fun i y h1 h2=>?_⟩,Weak.sub ?_,by simp only[];omega⟩
    ·rcases y'2 h1 with rfl|h'
     ·rw[hx]at h2;cases h2;exact he
     ·exact hno i y (by omega) h2
    ·simp[sub,upd]
theorem ZgS {e:En}: ∀{b:List En} {k:Nat},(∀(i:Nat) (y:En),i<k→b[i]?=some y→ ¬y.1>e.1)→k≤b.length→w'k e b=b.take k++w'k e (b.drop k)
 |b,0,_,_=>by simp
 |[],k+1,_,h=>by simp at h
 |x::r,k+1,hno,h=>by
  have h0: ¬x.1>e.1:=hno 0 x (by omega) rfl
  have:=ZgS (e:=e) (b:=r) (k:=k) (fun i y hi hy=>hno (i+1) y (by omega) (by simpa using hy)) (by simpa using h)
  have hu:w'k e (x::r)=x::w'k e r:=by simp[w'k,h0]
  rw[hu,this]
  simp
theorem ZiO {e:En}: ∀{p:List En} (q:List En),(∃(j:Nat) (x:En),p[j]?=some x∧x.1>e.1)→w'k e (p++q)=w'k e p++q
 |[],q,⟨j,x,h,_⟩=>by simp at h
 |y::r,q,⟨j,x,h,hx⟩=>by
  by_cases hy:y.1>e.1
  ·simp[w'k,hy]
  ·cases j with
   |zero=>
    obtain rfl:y=x:=by simpa using h
    exact absurd hx hy
   |succ j=>
    have:=ZiO (e:=e) (p:=r) q ⟨j,x,by simpa using h,hx⟩
    simp[w'k,hy,this]
def Zbe (e:En) (b:List En) (k:Nat) (p:Bool):List En:=match p with|true=>w'k e (b.take k)|false=>b.take k
theorem ZmX (b:List En) (hb:b.length≤100000) (m e1 e2:Int):Pure Tryz.prog 140 [buf b,iD m,.agg [iD e1,iD e2]] (buf (x'2 m (e1,e2) b)):=by
 refine Fun.freeze (v'u _) ?_
 have hfb:(eRs b).flatten.length=b.length*2:=w'N b
 by_cases h3:m=3
 ·have e3:(m != 3)=false:=by simp[h3]
  have hp:x'2 m (e1,e2) b=w'k (e1,e2) b:=by simp[x'2,h3]
  rw[hp]
  refine Fun.of T [.tmp 6] Tryz.func140 rfl Tryz.ntmps140 Tryz.results140 rfl (by kernel_rfl) ?_
  repeat' first|refine vb rfl rfl rfl rfl ?_|refine vs T rfl fun K hK=>?_;(try simp (disch:=omega) only[go_sem,Nat.reduceBEq,Nat.reduceAdd,e3]);(refine hK _ _ ?_;clear hK K)|refine st rfl ?_|refine sc rfl ?_|refine nl ?_
  refine VC.loop {q:Nat×Bool×Option (Nat×Nat)//q.1≤b.length∧(q.2.1=false→ ∀(i:Nat) (y:En),i<q.1→b[i]?=some y→ ¬y.1>e1)∧(q.2.1=true→ ∃j x,j<q.1∧b[j]?=some x∧x.1>e1∧ ∀(i:Nat) (y:En),i<j→b[i]?=some y→ ¬y.1>e1)}
   (fun q=>⟨z'M [(0,buf b),(5,.pt [iD e1,iD e2]),(7,.gs q.1.2.2 (q.1.1+q.1.2.1.toNat)),(8,bD q.1.2.1),(9,iD (q.1.1:Nat))],shp q.1.2.2 127 2 (eRs (Zbe (e1,e2) b q.1.1 q.1.2.1)).flatten []⟩) (fun q=>b.length-q.1.1) ⟨(0,false,none),by simp,fun _ i y hi=>by omega,fun h=>by cases h⟩ ?_ ?_
  ·refine Weak.sub ?_
   simp[sub,upd]
  ·rintro⟨⟨k,p,g⟩,hk,hno,hyes⟩
   dsimp only at hk hno hyes⊢
   have hmid:(eRs (Zbe (e1,e2) b k p)).flatten.length=(k+p.toNat)*2:=by
    rw[w'N]
    cases p<;>simp[Zbe,ZcV]<;>omega
   rcases z'g k b.length with hlt|hge
   ·have hd:decide ((k:Int)<(b.length:Int))=true:=by simp;omega
    have hw:IntKind.i64.wrap ((k:Int)+1)=((k+1:Nat):Int):=by rw[w64 (by omega)];omega
    obtain⟨x,hx⟩: ∃x,b[k]?=some x:=⟨_,z'b hlt⟩
    have hrow:(eRs b)[k]?=some [iD x.1,iD x.2]:=by rw[x'5,hx];rfl
    have htk:b.take (k+1)=b.take k++[x]:=by rw[y'b,hx];rfl
    cases p with
    |true=>
     obtain⟨j,z,hj,hz,hzl,hjn⟩:=hyes rfl
     have hn:Zbe (e1,e2) b (k+1) true=Zbe (e1,e2) b k true++[x]:=by
      simp only[Zbe]
      rw[htk,ZiO [x] ⟨j,z,by rw[x'h,if_pos hj];exact hz,hzl⟩]
     repeat' first|refine dr (id:=11) T 10 (by kernel_rfl) ?_|refine gn ?_|(first|apply VCg.step T rfl rfl|apply exF);focus((try simp (disch:=omega) only[go_sem,Nat.reduceBEq,z'i]);(exact rfl))|refine VCg.gstep T rfl rfl rfl rfl ?_;try simp only[GB]|refine vs T rfl fun K hK=>?_;(try simp (disch:=omega) only[go_sem,Nat.reduceBEq,Nat.reduceAdd,Nat.reduceMul,Nat.reduceLeDiff,hd,hw,hrow,z't,Bool.toNat_true]);(first|refine hK _ _ ?_;clear hK K|refine⟨_,_,_,_,(by repeat (exact Sp.here)),?_,(by exact⟨rfl,rfl⟩),?_,fun g' hg'=>hK _ _ ?_⟩<;>clear hK K|refine⟨?_,hK _ _ ?_⟩<;>clear hK K;focus(try omega))|refine st rfl ?_|refine sc rfl ?_|refine nl ?_|refine gs rfl rfl ?_
     ·exact hmid
     ·omega
     ·refine⟨⟨(k+1,true,g'),by simp only[];omega,fun h=>(by cases h),fun _=>⟨j,z,by simp only[];omega,hz,hzl,hjn⟩⟩,z'G ?_ ?_,by simp only[];omega⟩
      ·simp only[]
       rw[hn,w'a,y'F]
       rfl
      ·simp[sub,upd]
    |false=>
     by_cases hg:x.1>e1
     ·have hg':decide (x.1>e1)=true:=by simpa using hg
      have hn:Zbe (e1,e2) b (k+1) true=Zbe (e1,e2) b k false++[(e1,e2)]++[x]:=by
       simp only[Zbe]
       have h1:=ZgS (e:=(e1,e2)) (b:=b.take (k+1)) (k:=k) (fun i y hi hy=>hno rfl i y hi (by rw[x'h]at hy;split at hy;exact hy;cases hy)) (by rw[z'A];omega)
       have h2:(b.take (k+1)).take k=b.take k:=by rw[List.take_take];congr 1;omega
       have h3:(b.take (k+1)).drop k=[x]:=by rw[htk,Zav (by rw[z'A];omega)]
       rw[h1,h2,h3]
       simp[w'k,hg]
      have hm2:((eRs (Zbe (e1,e2) b k false)).flatten++[iD e1,iD e2]).length=(k+1)*2:=by rw[z'k,hmid];simp;omega
      repeat' first|refine dr (id:=11) T 10 (by kernel_rfl) ?_|refine gn ?_|(first|apply VCg.step T rfl rfl|apply exF);focus((try simp (disch:=omega) only[go_sem,Nat.reduceBEq,hrow,z't,z'q]);(first|exact rfl|refine⟨?_,rfl⟩;try omega))|refine VCg.gstep T rfl rfl rfl rfl ?_;try simp only[GB]|refine vs T rfl fun K hK=>?_;(try simp (disch:=omega) only[go_sem,Nat.reduceBEq,Nat.reduceAdd,Nat.reduceMul,Nat.reduceLeDiff,hd,hw,hrow,hg',z't,Bool.toNat_false]);(first|refine hK _ _ ?_;clear hK K|refine⟨_,_,_,_,(by repeat (exact Sp.here)),?_,(by exact⟨rfl,rfl⟩),?_,fun g' hg'=>hK _ _ ?_⟩<;>clear hK K|refine⟨?_,hK _ _ ?_⟩<;>clear hK K;focus(try omega))|refine st rfl ?_|refine sc rfl ?_|refine nl ?_|refine gs rfl rfl ?_
      ·exact hmid
      ·omega
      ·exact hm2
      ·omega
      ·refine⟨⟨(k+1,true,g'),by simp only[];omega,fun h=>(by cases h),fun _=>⟨k,x,by simp only[];omega,hx,hg,hno rfl⟩⟩,z'G ?_ ?_,by simp only[];omega⟩
       ·simp only[]
        rw[hn,w'a,w'a,y'F,y'F]
        rfl
       ·simp[sub,upd]
     ·have hg':decide (x.1>e1)=false:=by simpa using hg
      have hn:Zbe (e1,e2) b (k+1) false=Zbe (e1,e2) b k false++[x]:=htk
      repeat' first|refine dr (id:=11) T 10 (by kernel_rfl) ?_|refine gn ?_|(first|apply VCg.step T rfl rfl|apply exF);focus((try simp (disch:=omega) only[go_sem,Nat.reduceBEq,hrow,z't,z'q]);(first|exact rfl|refine⟨?_,rfl⟩;try omega))|refine VCg.gstep T rfl rfl rfl rfl ?_;try simp only[GB]|refine vs T rfl fun K hK=>?_;(try simp (disch:=omega) only[go_sem,Nat.reduceBEq,Nat.reduceAdd,Nat.reduceMul,Nat.reduceLeDiff,hd,hw,hrow,hg',z't,Bool.toNat_false]);(first|refine hK _ _ ?_;clear hK K|refine⟨_,_,_,_,(by repeat (exact Sp.here)),?_,(by exact⟨rfl,rfl⟩),?_,fun g' hg'=>hK _ _ ?_⟩<;>clear hK K|refine⟨?_,hK _ _ ?_⟩<;>clear hK K;focus(try omega))|refine st rfl ?_|refine sc rfl ?_|refine nl ?_|refine gs rfl rfl ?_
      ·exact hmid
      ·omega
      ·refine⟨⟨(k+1,false,g'),by simp only[];omega,fun _ i y hi hy=>?_,fun h=>(by cases h)⟩,z'G ?_ ?_,by simp only[];omega⟩
       ·simp only[]at hi
        rcases z'g i k with h'|h'
        ·exact hno rfl i y h' hy
        ·obtain rfl:i=k:=by omega
         rw[hx]at hy;cases hy;exact hg
       ·simp only[]
        rw[hn,w'a,y'F]
        rfl
       ·simp[sub,upd]
   ·have hd:decide ((k:Int)<(b.length:Int))=false:=by simp;omega
    have htk:b.take k=b:=z'V hge
    have hkl:k=b.length:=by omega
    cases p with
    |true=>
     repeat' first|refine vs T rfl fun K hK=>?_;(try simp (disch:=omega) only[go_sem,Nat.reduceBEq,hd,z't,z'i,Bool.toNat_true]);(refine hK _ _ ?_;clear hK K)|refine st rfl ?_|refine sc rfl ?_|refine nl ?_
     refine z'j T (H':=shp g 127 2 (eRs (Zbe (e1,e2) b k true)).flatten []) Zcg ⟨g,127,?_,?_⟩
     ·rw[z't,ZcV,hkl];rfl
     ·rw[Zbe,htk]
    |false=>
     have hfin:w'k (e1,e2) b=b++[(e1,e2)]:=by
      have:=ZgS (e:=(e1,e2)) (b:=b) (k:=b.length) (fun i y hi hy=>hno rfl i y (by omega) hy) (z'v _)
      rw[z'Q,List.drop_length]at this
      exact this
     repeat' first|refine vs T rfl fun K hK=>?_;(try simp (disch:=omega) only[go_sem,Nat.reduceBEq,Nat.reduceAdd,Nat.reduceMul,Nat.reduceLeDiff,hd,z't,z'q,Bool.toNat_false]);(first|refine hK _ _ ?_;clear hK K|refine⟨_,_,_,_,(by repeat (exact Sp.here)),?_,(by exact⟨rfl,rfl⟩),?_,fun g' hg'=>hK _ _ ?_⟩<;>clear hK K)|refine st rfl ?_|refine sc rfl ?_|refine nl ?_
     ·exact hmid
     ·omega
     ·refine z'j T (H':=shp g' 127 2 ((eRs (Zbe (e1,e2) b k false)).flatten++[iD e1,iD e2]) []) Zcg ⟨g',127,?_,?_⟩
      ·rw[z't,ZcV,hkl];rfl
      ·rw[hfin,Zbe,htk,w'a,y'F];rfl
 ·have e3:(m != 3)=true:=by simpa using h3
  by_cases h2:m=2
  ·have e2':(m == 2)=true:=by simpa using h2
   have hp:x'2 m (e1,e2) b=b++[(e1,e2)]:=by simp[x'2,h2]
   rw[hp]
   refine Fun.of T [.tmp 6] Tryz.func140 rfl Tryz.ntmps140 Tryz.results140 rfl (by kernel_rfl) ?_
   repeat' first|refine vb rfl rfl rfl rfl ?_|refine vs T rfl fun K hK=>?_;(try simp (disch:=omega) only[go_sem,Nat.reduceBEq,Nat.reduceAdd,Nat.reduceMul,Nat.reduceLeDiff,e3,e2',z't]);(first|refine hK _ _ ?_;clear hK K|refine⟨_,_,_,_,(by repeat (first|exact Sp.here|exact Sp.nil)),?_,(by exact⟨rfl,rfl⟩),?_,fun g' hg'=>hK _ _ ?_⟩<;>clear hK K)|refine st rfl ?_|refine sc rfl ?_|refine nl ?_
   ·rfl
   ·omega
   ·exact hfb
   ·omega
   ·refine z'j T (H':=shp g' 127 2 ((eRs b).flatten++[iD e1,iD e2]) []) Zcg ⟨g',127,?_,?_⟩
    ·rw[z't,z'k];rfl
    ·rw[w'a,y'F];rfl
  ·have e2':(m == 2)=false:=by simpa using h2
   have hp:x'2 m (e1,e2) b=b:=by simp[x'2,h2,h3]
   rw[hp]
   refine Fun.of T [.tmp 6] Tryz.func140 rfl Tryz.ntmps140 Tryz.results140 rfl (by kernel_rfl) ?_
   repeat' first|refine vb rfl rfl rfl rfl ?_|refine vs T rfl fun K hK=>?_;(try simp (disch:=omega) only[go_sem,Nat.reduceBEq,Nat.reduceAdd,e3,e2',z't]);(first|refine hK _ _ ?_;clear hK K|refine⟨_,_,_,_,(by repeat (exact Sp.nil)),?_,(by exact⟨rfl,rfl⟩),?_,fun g' hg'=>hK _ _ ?_⟩<;>clear hK K)|refine st rfl ?_|refine sc rfl ?_|refine nl ?_
   ·rfl
   ·omega
   ·refine z'j T (H':=shp g' 127 2 (eRs b).flatten []) Zcg ⟨g',127,?_,?_⟩
    ·rw[z't];rfl
    ·rfl
def Zai (m r md:Int):Bool:=decide (1≤m)&&decide (m≤3)&&(decide (1≤r)&&decide (r≤4)&&decide (2≤md)&&decide (md≤16))
def Za6 (m r:Int) (b:List En):Bool:=(decide (m≠1)&&(decide (m=3)||decide ((b.length:Int)≤r)))||decide ((b.length:Int)=0)
def y'Q (m r md lc:Int) (b:List En):Bool:=Zai m r md&&((List.range b.length).all fun i=> !x'1 m r md lc b i)&&Za6 m r b
theorem ZcG {m r md lc:Int} {b:List En} {i:Nat} (hi:i<b.length) (h:x'1 m r md lc b i=true):y'Q m r md lc b=false:=by
 unfold y'Q
 have:((List.range b.length).all fun i=> !x'1 m r md lc b i)=false:=by
  rw[w'T]
  exact⟨i,z'K.2 hi,by simp[h]⟩
 rw[this]
 simp
theorem Zjf (b:List En) (hb:b.length≤1000000) (m r md lc:Int) (hg:Zai m r md=true):Pure Tryz.prog 100 [buf b,iD m,iD r,iD md,iD lc] (bD (y'Q m r md lc b)):=by
 have hgg:((1≤m∧m≤3)∧(1≤r∧r≤4)∧(2≤md∧md≤16)):=by
  simp only[Zai,z'h,decide_eq_true_eq]at hg
  omega
 refine Fun.of T [.tmp 10] Tryz.func100 rfl Tryz.ntmps100 Tryz.results100 rfl (by kernel_rfl) ?_
 have a1:decide (m<1)=false:=by simp;omega
 have a2:decide (m>3)=false:=by simp;omega
 have g1:decide (r<1)=false:=by simp;omega
 have g2:decide (r>4)=false:=by simp;omega
 have g3:decide (md<2)=false:=by simp;omega
 have g4:decide (md>16)=false:=by simp;omega
 repeat' first|refine vs T rfl fun K hK=>?_;(try simp (disch:=omega) only[go_sem,Nat.reduceBEq,Nat.reduceAdd,a1,a2,g1,g2,g3,g4]);(refine hK _ _ ?_;clear hK K)|refine st rfl ?_|refine sc rfl ?_|refine nl ?_|refine gs rfl rfl ?_
 refine VC.loop {k:Nat//k≤b.length∧ ∀i,i<k→x'1 m r md lc b i=false} (fun p=>⟨z'M [(0,buf b),(1,iD m),(2,iD r),(3,iD md),(4,iD lc),(11,iD (p.1:Nat))],[]⟩) (fun p=>b.length-p.1) ⟨0,by omega,fun i hi=>by omega⟩ ?_ ?_
 ·refine Weak.sub ?_
  simp[sub,upd]
 ·rintro⟨k,hk,hno⟩
  dsimp only
  rcases z'g k b.length with hlt|hge
  ·have hd:decide ((k:Int)<(b.length:Int))=true:=by simp;omega
   have hw:IntKind.i64.wrap ((k:Int)+1)=((k+1:Nat):Int):=by rw[w64 (by omega)];omega
   obtain⟨x,hx⟩: ∃x,b[k]?=some x:=⟨_,z'b hlt⟩
   have hrow:(eRs b)[k]?=some [iD x.1,iD x.2]:=by rw[x'5,hx];rfl
   have hbad:x'1 m r md lc b k=(Zcx md lc x||v'A m r b k x):=by simp[x'1,hx]
   have fin:x'1 m r md lc b k=false→ ∀i,i<k+1→x'1 m r md lc b i=false:=fun h i hi=>by
    rcases z'g i k with h'|h'
    ·exact hno i h'
    ·obtain rfl:i=k:=by omega
     exact h
   cases hE:Zcx md lc x with
   |true=>
    have hR:=ZcG (m:=m) (r:=r) (md:=md) (lc:=lc) hlt (by rw[hbad,hE];rfl)
    rw[hR]
    by_cases n1:x.1<0
    ·have n1':decide (x.1<0)=true:=by simpa using n1
     repeat' first|refine dr (id:=6) T 61 (by kernel_rfl) ?_|refine gn ?_|(apply VCg.step T rfl rfl);focus((try simp (disch:=omega) only[go_sem,Nat.reduceBEq,hrow,z't,n1']);(first|exact rfl|refine⟨?_,rfl⟩;try omega))|refine VCg.gstep T rfl rfl rfl rfl ?_;try simp only[GB]|refine VCg.gundef T rfl rfl rfl rfl ?_|refine vs T rfl fun K hK=>?_;(try simp (disch:=omega) only[go_sem,Nat.reduceBEq,hd,z't]);(refine hK _ _ ?_;clear hK K)|refine st rfl ?_|refine sc rfl ?_|refine nl ?_|refine gs rfl rfl ?_|refine gu rfl rfl ?_|exact z'j T (z'a _) ⟨rfl,rfl⟩
    have n1':decide (x.1<0)=false:=by simpa using n1
    by_cases n2:x.1≥lc
    ·have n2':decide (x.1≥lc)=true:=by simpa using n2
     repeat' first|refine dr (id:=6) T 61 (by kernel_rfl) ?_|refine gn ?_|(first|apply VCg.step T rfl rfl|apply exF);focus((try simp (disch:=omega) only[go_sem,Nat.reduceBEq,hrow,z't,n1',n2']);(first|exact rfl|refine⟨?_,rfl⟩;try omega))|refine VCg.gstep T rfl rfl rfl rfl ?_;try simp only[GB]|refine VCg.gundef T rfl rfl rfl rfl ?_|refine vs T rfl fun K hK=>?_;(try simp (disch:=omega) only[go_sem,Nat.reduceBEq,hd,z't]);(refine hK _ _ ?_;clear hK K)|refine st rfl ?_|refine sc rfl ?_|refine nl ?_|refine gs rfl rfl ?_|refine gu rfl rfl ?_|exact z'j T (z'a _) ⟨rfl,rfl⟩
    have n2':decide (x.1≥lc)=false:=by simpa using n2
    by_cases n3:x.2<0
    ·have n3':decide (x.2<0)=true:=by simpa using n3
     repeat' first|refine dr (id:=6) T 61 (by kernel_rfl) ?_|refine gn ?_|(first|apply VCg.step T rfl rfl|apply exF);focus((try simp (disch:=omega) only[go_sem,Nat.reduceBEq,hrow,z't,n1',n2',n3']);(first|exact rfl|refine⟨?_,rfl⟩;try omega))|refine VCg.gstep T rfl rfl rfl rfl ?_;try simp only[GB]|refine VCg.gundef T rfl rfl rfl rfl ?_|refine vs T rfl fun K hK=>?_;(try simp (disch:=omega) only[go_sem,Nat.reduceBEq,hd,z't]);(refine hK _ _ ?_;clear hK K)|refine st rfl ?_|refine sc rfl ?_|refine nl ?_|refine gs rfl rfl ?_|refine gu rfl rfl ?_|exact z'j T (z'a _) ⟨rfl,rfl⟩
    have n3':decide (x.2<0)=false:=by simpa using n3
    have n4':decide (x.2≥md)=true:=by
     simp only[Zcx,n1',n2',n3',Bool.or_false,Bool.false_or]at hE
     exact hE
    repeat' first|refine dr (id:=6) T 61 (by kernel_rfl) ?_|refine gn ?_|(first|apply VCg.step T rfl rfl|apply exF);focus((try simp (disch:=omega) only[go_sem,Nat.reduceBEq,hrow,z't,n1',n2',n3',n4']);(first|exact rfl|refine⟨?_,rfl⟩;try omega))|refine VCg.gstep T rfl rfl rfl rfl ?_;try simp only[GB]|refine VCg.gundef T rfl rfl rfl rfl ?_|refine vs T rfl fun K hK=>?_;(try simp (disch:=omega) only[go_sem,Nat.reduceBEq,hd,z't]);(refine hK _ _ ?_;clear hK K)|refine st rfl ?_|refine sc rfl ?_|refine nl ?_|refine gs rfl rfl ?_|refine gu rfl rfl ?_|exact z'j T (z'a _) ⟨rfl,rfl⟩
   |false=>
    obtain⟨⟨⟨n1,n2⟩,n3⟩,n4⟩:((decide (x.1<0)=false∧decide (x.1≥lc)=false)∧decide (x.2<0)=false)∧decide (x.2≥md)=false:=by simpa[Zcx]using hE
    by_cases h3:m=3
    ·have e3:(m == 3)=true:=by simpa using h3
     rcases x'S k with h0|h0
     ·have hk0:decide ((k:Int)>0)=false:=by rw[h0];rfl
      by_cases hc:((x'f x.1 b:Nat):Int)>r
      ·have hc':decide (((x'f x.1 b:Nat):Int)>r)=true:=by simpa using hc
       have hP:v'A m r b k x=true:=by simp[v'A,h3,h0,hc]
       have hR:=ZcG (m:=m) (r:=r) (md:=md) (lc:=lc) hlt (by rw[hbad,hP,v'Y])
       rw[hR]
       repeat' first|refine dr (id:=6) T 61 (by kernel_rfl) ?_|refine gn ?_|(first|apply VCg.step T rfl rfl|apply exF);focus((try simp (disch:=omega) only[go_sem,Nat.reduceBEq,hrow,z't,n1,n2,n3,n4,e3,hk0]);(first|exact rfl|refine⟨?_,rfl⟩;try omega|refine Op1.callp rfl rfl (Zcn b hb _) rfl ?_;exact⟨rfl,rfl⟩))|refine VCg.gstep T rfl rfl rfl rfl ?_;try simp only[GB]|refine vs T rfl fun K hK=>?_;(try simp (disch:=omega) only[go_sem,Nat.reduceBEq,hd,z't,hc']);(refine hK _ _ ?_;clear hK K)|refine st rfl ?_|refine sc rfl ?_|refine nl ?_|refine gs rfl rfl ?_|exact z'j T (z'a _) ⟨rfl,rfl⟩
      ·have hc':decide (((x'f x.1 b:Nat):Int)>r)=false:=by simpa using hc
       have hP:x'1 m r md lc b k=false:=by rw[hbad,hE];simp[v'A,h3,h0,z'u.1 hc]
       repeat' first|refine dr (id:=6) T 61 (by kernel_rfl) ?_|refine gn ?_|(first|apply VCg.step T rfl rfl|apply exF);focus((try simp (disch:=omega) only[go_sem,Nat.reduceBEq,hrow,z't,n1,n2,n3,n4,e3,hk0]);(first|exact rfl|refine⟨?_,rfl⟩;try omega|refine Op1.callp rfl rfl (Zcn b hb _) rfl ?_;exact⟨rfl,rfl⟩))|refine VCg.gstep T rfl rfl rfl rfl ?_;try simp only[GB]|refine vs T rfl fun K hK=>?_;(try simp (disch:=omega) only[go_sem,Nat.reduceBEq,hd,hw,z't,hc']);(refine hK _ _ ?_;clear hK K)|refine st rfl ?_|refine sc rfl ?_|refine nl ?_|refine gs rfl rfl ?_
       refine⟨⟨k+1,by omega,fin hP⟩,Weak.sub ?_,by simp only[];omega⟩
       simp[sub,upd]
     ·have hk0:decide ((k:Int)>0)=true:=by simp;omega
      have hwk:IntKind.i64.wrap ((k:Int)-1)=((k-1:Nat):Int):=by rw[w64 (by omega)];omega
      obtain⟨y,hy⟩: ∃y,b[k-1]?=some y:=⟨_,z'b (by omega)⟩
      have hrowy:(eRs b)[k-1]?=some [iD y.1,iD y.2]:=by rw[x'5,hy];rfl
      by_cases hyx:y.1>x.1
      ·have hyx':decide (x.1<y.1)=true:=by simpa using hyx
       have hP:v'A m r b k x=true:=by simp[v'A,h3,h0,hy,hyx]
       have hR:=ZcG (m:=m) (r:=r) (md:=md) (lc:=lc) hlt (by rw[hbad,hP,v'Y])
       rw[hR]
       repeat' first|refine dr (id:=6) T 61 (by kernel_rfl) ?_|refine gn ?_|(first|apply VCg.step T rfl rfl|apply exF);focus((try simp (disch:=omega) only[go_sem,Nat.reduceBEq,hrow,z't,n1,n2,n3,n4,e3,hk0,hwk,hrowy,hyx']);(first|exact rfl|refine⟨?_,rfl⟩;try omega))|refine VCg.gstep T rfl rfl rfl rfl ?_;try simp only[GB]|refine vs T rfl fun K hK=>?_;(try simp (disch:=omega) only[go_sem,Nat.reduceBEq,hd,z't]);(refine hK _ _ ?_;clear hK K)|refine st rfl ?_|refine sc rfl ?_|refine nl ?_|refine gs rfl rfl ?_|exact z'j T (z'a _) ⟨rfl,rfl⟩
      ·have hyx':decide (x.1<y.1)=false:=by simpa using hyx
       by_cases hc:((x'f x.1 b:Nat):Int)>r
       ·have hc':decide (((x'f x.1 b:Nat):Int)>r)=true:=by simpa using hc
        have hP:v'A m r b k x=true:=by simp[v'A,h3,h0,hy,z'u.1 hyx,hc]
        have hR:=ZcG (m:=m) (r:=r) (md:=md) (lc:=lc) hlt (by rw[hbad,hP,v'Y])
        rw[hR]
        repeat' first|refine dr (id:=6) T 61 (by kernel_rfl) ?_|refine gn ?_|(first|apply VCg.step T rfl rfl|apply exF);focus((try simp (disch:=omega) only[go_sem,Nat.reduceBEq,hrow,z't,n1,n2,n3,n4,e3,hk0,hwk,hrowy,hyx']);(first|exact rfl|refine⟨?_,rfl⟩;try omega|refine Op1.callp rfl rfl (Zcn b hb _) rfl ?_;exact⟨rfl,rfl⟩))|refine VCg.gstep T rfl rfl rfl rfl ?_;try simp only[GB]|refine vs T rfl fun K hK=>?_;(try simp (disch:=omega) only[go_sem,Nat.reduceBEq,hd,z't,hc']);(refine hK _ _ ?_;clear hK K)|refine st rfl ?_|refine sc rfl ?_|refine nl ?_|refine gs rfl rfl ?_|exact z'j T (z'a _) ⟨rfl,rfl⟩
       ·have hc':decide (((x'f x.1 b:Nat):Int)>r)=false:=by simpa using hc
        have hP:x'1 m r md lc b k=false:=by rw[hbad,hE];simp[v'A,h3,h0,hy,z'u.1 hyx,z'u.1 hc]
        repeat' first|refine dr (id:=6) T 61 (by kernel_rfl) ?_|refine gn ?_|(first|apply VCg.step T rfl rfl|apply exF);focus((try simp (disch:=omega) only[go_sem,Nat.reduceBEq,hrow,z't,n1,n2,n3,n4,e3,hk0,hwk,hrowy,hyx']);(first|exact rfl|refine⟨?_,rfl⟩;try omega|refine Op1.callp rfl rfl (Zcn b hb _) rfl ?_;exact⟨rfl,rfl⟩))|refine VCg.gstep T rfl rfl rfl rfl ?_;try simp only[GB]|refine vs T rfl fun K hK=>?_;(try simp (disch:=omega) only[go_sem,Nat.reduceBEq,hd,hw,z't,hc']);(refine hK _ _ ?_;clear hK K)|refine st rfl ?_|refine sc rfl ?_|refine nl ?_|refine gs rfl rfl ?_
        refine⟨⟨k+1,by omega,fin hP⟩,Weak.sub ?_,by simp only[];omega⟩
        simp[sub,upd]
    ·have e3:(m == 3)=false:=by simpa using h3
     have hP:x'1 m r md lc b k=false:=by rw[hbad,hE];simp[v'A,h3]
     repeat' first|refine dr (id:=6) T 61 (by kernel_rfl) ?_|refine gn ?_|(first|apply VCg.step T rfl rfl|apply exF);focus((try simp (disch:=omega) only[go_sem,Nat.reduceBEq,hrow,z't,n1,n2,n3,n4,e3]);(first|exact rfl|refine⟨?_,rfl⟩;try omega))|refine VCg.gstep T rfl rfl rfl rfl ?_;try simp only[GB]|refine VCg.gundef T rfl rfl rfl rfl ?_|refine vs T rfl fun K hK=>?_;(try simp (disch:=omega) only[go_sem,Nat.reduceBEq,hd,hw,z't]);(refine hK _ _ ?_;clear hK K)|refine st rfl ?_|refine sc rfl ?_|refine nl ?_|refine gs rfl rfl ?_|refine gu rfl rfl ?_
     refine⟨⟨k+1,by omega,fin hP⟩,Weak.sub ?_,by simp only[];omega⟩
     simp[sub,upd]
  ·have hd:decide ((k:Int)<(b.length:Int))=false:=by simp;omega
   have hall:((List.range b.length).all fun i=> !x'1 m r md lc b i)=true:=by
    rw[z'B]
    intro i hi
    rw[hno i (by have:=z'K.1 hi;omega)];rfl
   have hR:y'Q m r md lc b=Za6 m r b:=by
    unfold y'Q
    rw[hall,hg]
    simp
   rw[hR]
   by_cases h1:m=1
   ·have e1:(m != 1)=false:=by simp[h1]
    repeat' first|refine vs T rfl fun K hK=>?_;(try simp (disch:=omega) only[go_sem,Nat.reduceBEq,hd,z't,e1]);(refine hK _ _ ?_;clear hK K)|refine st rfl ?_|refine sc rfl ?_|refine nl ?_|refine gs rfl rfl ?_|refine gu rfl rfl ?_|refine z'j T (z'a _) ?_;(try simp only[upd,Nat.reduceBEq,cond_true,cond_false,and_true])
    simp[Za6,h1]
    rcases b with _|⟨x0,r0⟩<;>simp
    omega
   ·have e1:(m != 1)=true:=by simpa using h1
    by_cases h3:m=3
    ·have e3:(m == 3)=true:=by simpa using h3
     repeat' first|refine vs T rfl fun K hK=>?_;(try simp (disch:=omega) only[go_sem,Nat.reduceBEq,hd,z't,e1,e3]);(refine hK _ _ ?_;clear hK K)|refine st rfl ?_|refine sc rfl ?_|refine nl ?_|refine gs rfl rfl ?_|refine z'j T (z'a _) ?_;(try simp only[upd,Nat.reduceBEq,cond_true,cond_false,and_true])
     simp[Za6,h3]
    ·have e3:(m == 3)=false:=by simpa using h3
     by_cases hl:(b.length:Int)≤r
     ·have hl':decide ((b.length:Int)≤r)=true:=by simpa using hl
      repeat' first|refine vs T rfl fun K hK=>?_;(try simp (disch:=omega) only[go_sem,Nat.reduceBEq,hd,z't,e1,e3,hl']);(refine hK _ _ ?_;clear hK K)|refine st rfl ?_|refine sc rfl ?_|refine nl ?_|refine gs rfl rfl ?_|refine z'j T (z'a _) ?_;(try simp only[upd,Nat.reduceBEq,cond_true,cond_false,and_true])
      simp[Za6,h1,hl]
     ·have hl':decide ((b.length:Int)≤r)=false:=by simpa using hl
      repeat' first|refine vs T rfl fun K hK=>?_;(try simp (disch:=omega) only[go_sem,Nat.reduceBEq,hd,z't,e1,e3,hl']);(refine hK _ _ ?_;clear hK K)|refine st rfl ?_|refine sc rfl ?_|refine nl ?_|refine gs rfl rfl ?_|refine z'j T (z'a _) ?_;(try simp only[upd,Nat.reduceBEq,cond_true,cond_false,and_true])
      simp[Za6,h3,hl]
      rcases b with _|⟨x0,r0⟩<;>simp
      omega
end Go.Proofs.YtomcmfbpmkklmaaGreat
