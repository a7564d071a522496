/- Units and configurations as data; contracts of the reference's store. No condition. -/
import Derived.Test.YtfneeacgkdhldaaGreatWd
namespace Go.Proofs.YtfneeacgkdhldaaGreat
set_option maxHeartbeats 16000000
set_option linter.unusedSimpArgs false
set_option linter.unusedVariables false
set_option maxRecDepth 20000
open Go Go.Proofs Go.Vc
attribute [local irreducible] y'5 VCg VCw VCx
theorem ZbO {g:Option (Nat×Nat)} {e:TypeId} {esz:Nat} {l:List D} {X:Heap}:(shp g e esz l []).Sublist (shp g e esz l X):=by
 cases g with
 |none=>exact z'a _
 |some p=>
  obtain⟨k,cap⟩:=p
  exact(z'a _).cons_cons _
def inB (n m:Int):Bool:=decide (n≥0)&&decide (n<m)
theorem v's (n m:Int):Pure Tryz.prog 75 [iD n,iD m] (bD (inB n m)):=by
 refine Fun.of T [.tmp 4] Tryz.func75 rfl Tryz.ntmps75 Tryz.results75 rfl (by kernel_rfl) ?_
 repeat' first|refine vs T rfl fun K hK=>?_;(try simp (disch:=omega) only[go_sem,Nat.reduceBEq]);(refine hK _ _ ?_;clear hK K)|refine st rfl ?_|refine nl ?_|refine gs rfl rfl ?_|refine z'n T (z'a _) ?_;(try simp only[upd,Nat.reduceBEq,cond_true,cond_false,and_true])|with_reducible refine z'j (fun hc=>?_) (fun hc=>?_)
 all_goals first|(simp_all[inB];done)|(simp_all[inB];omega)
def y'W (l:List Int) (m:Int):Bool:=l.all fun n=>inB n m
theorem Zdl (l:List Int) (hl:l.length≤1000000) (m:Int):Pure Tryz.prog 44 [z'C l,iD m] (bD (y'W l m)):=by
 refine Fun.of T [.tmp 4] Tryz.func44 rfl Tryz.ntmps44 Tryz.results44 rfl (by kernel_rfl) ?_
 repeat' first|refine vs T rfl fun K hK=>?_;(try simp (disch:=omega) only[go_sem]);(refine hK _ _ ?_;clear hK K)|refine st rfl ?_|refine nl ?_
 refine VC.loop {k:Nat//k≤l.length∧ ∀i n,i<k→l[i]?=some n→inB n m=true} (fun p=>⟨z'J [(0,z'C l),(1,iD m),(5,iD (p.1:Nat))],[]⟩) (fun p=>l.length-p.1) ⟨0,by omega,fun i n hi=>by omega⟩ ?_ ?_
 ·refine Weak.sub ?_
  simp[sub,upd]
 ·rintro⟨k,hk,hno⟩
  dsimp only
  rcases z'g k l.length with hlt|hge
  ·have hd:decide ((k:Int)<(l.length:Int))=true:=by simp;omega
   have hw:IntKind.i64.wrap ((k:Int)+1)=((k+1:Nat):Int):=by rw[w64 (by omega)];omega
   obtain⟨x,hx⟩: ∃x,l[k]?=some x:=⟨_,z'b hlt⟩
   have hrow:(iRs l)[k]?=some [iD x]:=by rw[y'Q,hx];rfl
   cases he:inB x m with
   |true=>
    repeat' first|refine vs T rfl fun K hK=>?_;(try simp (disch:=omega) only[go_sem,Nat.reduceBEq,hd,hw,hrow,he,z'k,z'l]);(first|refine hK _ _ ?_;clear hK K|refine⟨?_,hK _ _ ?_⟩<;>clear hK K;focus(try omega)|refine Op1.callp rfl rfl (v's _ _) rfl ?_;refine hK _ _ ?_;clear hK K)|refine st rfl ?_|refine sc rfl ?_|refine nl ?_
    refine⟨⟨k+1,by omega,fun i n hi hn=>?_⟩,Weak.sub ?_,by simp only[];omega⟩
    ·rcases z'g i k with h'|h'
     ·exact hno i n h' hn
     ·obtain rfl:i=k:=by omega
      rw[hx]at hn;cases hn;exact he
    ·simp[sub,upd]
   |false=>
    have hA:y'W l m=false:=by
     unfold y'W
     rw[List.all_eq_false]
     exact⟨x,z'h hx,by simp[he]⟩
    rw[hA]
    repeat' first|refine vs T rfl fun K hK=>?_;(try simp (disch:=omega) only[go_sem,Nat.reduceBEq,hd,hrow,he,z'k,z'r]);(first|refine hK _ _ ?_;clear hK K|refine⟨?_,hK _ _ ?_⟩<;>clear hK K;focus(try omega)|refine Op1.callp rfl rfl (v's _ _) rfl ?_;refine hK _ _ ?_;clear hK K)|refine st rfl ?_|refine sc rfl ?_|refine nl ?_|exact z'n T (z'a _) ⟨rfl,rfl⟩
  ·have hd:decide ((k:Int)<(l.length:Int))=false:=by simp;omega
   have hA:y'W l m=true:=by
    unfold y'W
    rw[z'I]
    intro n hn
    obtain⟨i,hi⟩:=y'S hn
    exact hno i n (by have:=(z'c.1 hi).1;omega) hi
   rw[hA]
   repeat' first|refine vs T rfl fun K hK=>?_;(try simp (disch:=omega) only[go_sem,Nat.reduceBEq,hd,z'k]);(refine hK _ _ ?_;clear hK K)|refine st rfl ?_|refine sc rfl ?_|refine nl ?_|exact z'n T (z'a _) ⟨rfl,rfl⟩
theorem Zlh (b:List En) (hb:b.length≤1000000) (loc:Int):Pure Tryz.prog 100 [buf b,iD loc] (iD (x'W loc b:Nat)):=by
 refine Fun.of T [.tmp 4] Tryz.func100 rfl Tryz.ntmps100 Tryz.results100 rfl (by kernel_rfl) ?_
 repeat' first|refine vs T rfl fun K hK=>?_;(try simp (disch:=omega) only[go_sem]);(refine hK _ _ ?_;clear hK K)|refine st rfl ?_|refine nl ?_
 refine VC.loop {k:Nat//k≤b.length} (fun p=>⟨z'J [(0,buf b),(1,iD loc),(5,iD (x'W loc (b.take p.1):Nat)),(6,iD (p.1:Nat))],[]⟩) (fun p=>b.length-p.1) ⟨0,by omega⟩ ?_ ?_
 ·refine Weak.sub ?_
  simp[sub,upd,x'W]
 ·rintro⟨k,hk⟩
  dsimp only
  have hc:x'W loc (b.take k)≤b.length:=y'z w'w (by rw[z'F];omega)
  rcases z'g k b.length with hlt|hge
  ·have hd:decide ((k:Int)<(b.length:Int))=true:=by simp;omega
   have hw:IntKind.i64.wrap ((k:Int)+1)=((k+1:Nat):Int):=by rw[w64 (by omega)];omega
   have hw2:IntKind.i64.wrap ((x'W loc (b.take k):Nat)+1:Int)=((x'W loc (b.take k)+1:Nat):Int):=by rw[w64 (by omega)];omega
   obtain⟨x,hx⟩: ∃x,b[k]?=some x:=⟨_,z'b hlt⟩
   have hrow:(eRs b)[k]?=some [iD x.1,iD x.2]:=by rw[w'o,hx];rfl
   have ht:b.take (k+1)=b.take k++[x]:=by rw[y'A,hx];rfl
   by_cases he:x.1=loc
   ·have he':(x.1 == loc)=true:=by simpa using he
    have hn:x'W loc (b.take (k+1))=x'W loc (b.take k)+1:=by rw[ht,x'W,w'W];simp[he,x'W]
    repeat' first|refine vs T rfl fun K hK=>?_;(try simp (disch:=omega) only[go_sem,Nat.reduceBEq,hd,hw,hw2,hrow,he',z'A]);(first|refine hK _ _ ?_;clear hK K|refine⟨?_,hK _ _ ?_⟩<;>clear hK K;focus(try omega))|refine st rfl ?_|refine sc rfl ?_|refine nl ?_
    refine⟨⟨k+1,by omega⟩,Weak.sub ?_,by simp only[];omega⟩
    simp[sub,upd,hn]
   ·have he':(x.1 == loc)=false:=by simpa using he
    have hn:x'W loc (b.take (k+1))=x'W loc (b.take k):=by rw[ht,x'W,w'W];simp[he,x'W]
    repeat' first|refine vs T rfl fun K hK=>?_;(try simp (disch:=omega) only[go_sem,Nat.reduceBEq,hd,hw,hrow,he',z'A]);(first|refine hK _ _ ?_;clear hK K|refine⟨?_,hK _ _ ?_⟩<;>clear hK K;focus(try omega))|refine st rfl ?_|refine sc rfl ?_|refine nl ?_
    refine⟨⟨k+1,by omega⟩,Weak.sub ?_,by simp only[];omega⟩
    simp[sub,upd,hn]
  ·have hd:decide ((k:Int)<(b.length:Int))=false:=by simp;omega
   have ht:b.take k=b:=y'L hge
   repeat' first|refine vs T rfl fun K hK=>?_;(try simp (disch:=omega) only[go_sem,Nat.reduceBEq,hd,ht,z'A]);(refine hK _ _ ?_;clear hK K)|refine st rfl ?_|refine sc rfl ?_|refine nl ?_|exact z'n T (z'a _) ⟨rfl,rfl⟩
theorem ZmU (b:List En) (hb:b.length≤1000000) (m r loc:Int):Pure Tryz.prog 74 [buf b,iD m,iD r,iD loc] (bD (ZaY m r loc b)):=by
 refine Fun.of T [.tmp 8] Tryz.func74 rfl Tryz.ntmps74 Tryz.results74 rfl (by kernel_rfl) ?_
 by_cases h2:m=2
 ·subst h2
  repeat' first|refine vs T rfl fun K hK=>?_;(try simp (disch:=omega) only[go_sem,Nat.reduceBEq,Nat.reduceAdd,z'A]);(refine hK _ _ ?_;clear hK K)|refine st rfl ?_|refine sc rfl ?_|refine nl ?_|exact z'n T (z'a _) ⟨rfl,rfl⟩
 ·have e2:(m == 2)=false:=by simpa using h2
  by_cases h3:m=3
  ·subst h3
   repeat' first|refine vs T rfl fun K hK=>?_;(try simp (disch:=omega) only[go_sem,Nat.reduceBEq,Nat.reduceAdd]);(first|refine hK _ _ ?_;clear hK K|refine Op1.callp rfl rfl (Zlh b hb _) rfl ?_;refine hK _ _ ?_;clear hK K)|refine st rfl ?_|refine sc rfl ?_|refine nl ?_|exact z'n T (z'a _) ⟨rfl,rfl⟩
  ·have e3:(m == 3)=false:=by simpa using h3
   repeat' first|refine vs T rfl fun K hK=>?_;(try simp (disch:=omega) only[go_sem,Nat.reduceBEq,Nat.reduceAdd,e2,e3]);(refine hK _ _ ?_;clear hK K)|refine st rfl ?_|refine sc rfl ?_|refine nl ?_|refine z'n T (z'a _) ?_;(try simp only[upd,Nat.reduceBEq,cond_true,cond_false,and_true])
   simp[ZaY,h2,h3]
theorem ZmR (b:List En) (hb:b.length≤1000000) (loc:Int):Pure Tryz.prog 99 [buf b,iD loc] (Znf (w'9 loc b)):=by
 have hw0:IntKind.i64.wrap ((b.length:Int)-1)=(b.length:Int)-1:=by rw[w64 (by omega)]
 refine Fun.of T [.tmp 4,.tmp 5] Tryz.func99 rfl Tryz.ntmps99 Tryz.results99 rfl (by kernel_rfl) ?_
 repeat' first|refine vs T rfl fun K hK=>?_;(try simp (disch:=omega) only[go_sem,Nat.reduceBEq,z'A,hw0]);(refine hK _ _ ?_;clear hK K)|refine st rfl ?_|refine nl ?_
 refine VC.loop {k:Nat//k≤b.length∧ ∀(i:Nat) (y:En),k≤i→b[i]?=some y→y.1≠loc} (fun p=>⟨z'J [(0,buf b),(1,iD loc),(6,iD ((p.1:Nat)-1:Int))],[]⟩) (fun p=>p.1) ⟨b.length,by omega,fun i y hi hy=>by have:=(z'c.1 hy).1;omega⟩ ?_ ?_
 ·refine Weak.sub ?_
  simp[sub,upd]
 ·rintro⟨k,hk,hno⟩
  dsimp only
  rcases k with _|k
  ·have hd:decide (((0:Nat):Int)-1≥0)=false:=by decide
   have hf:w'9 loc b=none:=lastF_at.lastF_no fun i y hy=>hno i y (by omega) hy
   rw[hf]
   repeat' first|refine vs T rfl fun K hK=>?_;(try simp (disch:=omega) only[go_sem,Nat.reduceBEq,hd]);(refine hK _ _ ?_;clear hK K)|refine st rfl ?_|refine sc rfl ?_|refine nl ?_|exact y'9 T (z'a _) ⟨rfl,rfl⟩
  ·have hd:decide (((k+1:Nat):Int)-1≥0)=true:=by rw[decide_eq_true_eq];omega
   have hi:((k+1:Nat):Int)-1=(k:Int):=by omega
   have hw:IntKind.i64.wrap ((k:Int)-1)=(k:Int)-1:=by rw[w64 (by omega)]
   obtain⟨x,hx⟩: ∃x,b[k]?=some x:=⟨_,z'b (by omega)⟩
   have hrow:(eRs b)[k]?=some [iD x.1,iD x.2]:=by rw[w'o,hx];rfl
   rw[hi]at hd⊢
   by_cases he:x.1=loc
   ·have he':(x.1 == loc)=true:=by simpa using he
    have hf:=lastF_at hx he fun i y h1 h2=>hno i y (by omega) h2
    rw[hf]
    repeat' first|refine vs T rfl fun K hK=>?_;(try simp (disch:=omega) only[go_sem,Nat.reduceBEq,hd,hrow,he',z'A]);(first|refine hK _ _ ?_;clear hK K|refine⟨?_,hK _ _ ?_⟩<;>clear hK K;focus(try omega))|refine st rfl ?_|refine sc rfl ?_|refine nl ?_|exact y'9 T (z'a _) ⟨rfl,rfl⟩
   ·have he':(x.1 == loc)=false:=by simpa using he
    repeat' first|refine vs T rfl fun K hK=>?_;(try simp (disch:=omega) only[go_sem,Nat.reduceBEq,hd,hw,hrow,he',z'A]);(first|refine hK _ _ ?_;clear hK K|refine⟨?_,hK _ _ ?_⟩<;>clear hK K;focus(try omega))|refine st rfl ?_|refine sc rfl ?_|refine nl ?_
    refine⟨⟨k,by omega,fun i y h1 h2=>?_⟩,Weak.sub ?_,by simp only[];omega⟩
    ·rcases x'd h1 with rfl|h'
     ·rw[hx]at h2;cases h2;exact he
     ·exact hno i y (by omega) h2
    ·simp[sub,upd]
theorem Zgf {e:En}: ∀{b:List En} {k:Nat},(∀(i:Nat) (y:En),i<k→b[i]?=some y→ ¬y.1>e.1)→k≤b.length→w'h e b=b.take k++w'h e (b.drop k)
 |b,0,_,_=>by simp
 |[],k+1,_,h=>by simp at h
 |x::r,k+1,hno,h=>by
  have h0: ¬x.1>e.1:=hno 0 x (by omega) rfl
  have:=Zgf (e:=e) (b:=r) (k:=k) (fun i y hi hy=>hno (i+1) y (by omega) (by simpa using hy)) (by simpa using h)
  have hu:w'h e (x::r)=x::w'h e r:=by simp[w'h,h0]
  rw[hu,this]
  simp
theorem ZhL {e:En}: ∀{p:List En} (q:List En),(∃(j:Nat) (x:En),p[j]?=some x∧x.1>e.1)→w'h e (p++q)=w'h e p++q
 |[],q,⟨j,x,h,_⟩=>by simp at h
 |y::r,q,⟨j,x,h,hx⟩=>by
  by_cases hy:y.1>e.1
  ·simp[w'h,hy]
  ·cases j with
   |zero=>
    obtain rfl:y=x:=by simpa using h
    exact absurd hx hy
   |succ j=>
    have:=ZhL (e:=e) (p:=r) q ⟨j,x,by simpa using h,hx⟩
    simp[w'h,hy,this]
def ZaO (e:En) (b:List En) (k:Nat) (p:Bool):List En:=match p with|true=>w'h e (b.take k)|false=>b.take k
theorem ZmT (b:List En) (hb:b.length≤100000) (m e1 e2:Int):Pure Tryz.prog 70 [buf b,iD m,.agg [iD e1,iD e2]] (buf (w'c m (e1,e2) b)):=by
 refine Fun.freeze (w'6 _) ?_
 have hfb:(eRs b).flatten.length=b.length*2:=w'x b
 by_cases h3:m=3
 ·have e3:(m != 3)=false:=by simp[h3]
  have hp:w'c m (e1,e2) b=w'h (e1,e2) b:=by simp[w'c,h3]
  rw[hp]
  refine Fun.of T [.tmp 6] Tryz.func70 rfl Tryz.ntmps70 Tryz.results70 rfl (by kernel_rfl) ?_
  repeat' first|refine vb rfl rfl rfl rfl ?_|refine vs T rfl fun K hK=>?_;(try simp (disch:=omega) only[go_sem,Nat.reduceBEq,Nat.reduceAdd,e3]);(refine hK _ _ ?_;clear hK K)|refine st rfl ?_|refine sc rfl ?_|refine nl ?_
  refine VC.loop {q:Nat×Bool×Option (Nat×Nat)//q.1≤b.length∧(q.2.1=false→ ∀(i:Nat) (y:En),i<q.1→b[i]?=some y→ ¬y.1>e1)∧(q.2.1=true→ ∃j x,j<q.1∧b[j]?=some x∧x.1>e1∧ ∀(i:Nat) (y:En),i<j→b[i]?=some y→ ¬y.1>e1)}
   (fun q=>⟨z'J [(0,buf b),(5,.pt [iD e1,iD e2]),(7,.gs q.1.2.2 (q.1.1+q.1.2.1.toNat)),(8,bD q.1.2.1),(9,iD (q.1.1:Nat))],shp q.1.2.2 114 2 (eRs (ZaO (e1,e2) b q.1.1 q.1.2.1)).flatten []⟩) (fun q=>b.length-q.1.1) ⟨(0,false,none),by simp,fun _ i y hi=>by omega,fun h=>by cases h⟩ ?_ ?_
  ·refine Weak.sub ?_
   simp[sub,upd]
  ·rintro⟨⟨k,p,g⟩,hk,hno,hyes⟩
   dsimp only at hk hno hyes⊢
   have hmid:(eRs (ZaO (e1,e2) b k p)).flatten.length=(k+p.toNat)*2:=by
    rw[w'x]
    cases p<;>simp[ZaO,Zcm]<;>omega
   rcases z'g k b.length with hlt|hge
   ·have hd:decide ((k:Int)<(b.length:Int))=true:=by simp;omega
    have hw:IntKind.i64.wrap ((k:Int)+1)=((k+1:Nat):Int):=by rw[w64 (by omega)];omega
    obtain⟨x,hx⟩: ∃x,b[k]?=some x:=⟨_,z'b hlt⟩
    have hrow:(eRs b)[k]?=some [iD x.1,iD x.2]:=by rw[w'o,hx];rfl
    have htk:b.take (k+1)=b.take k++[x]:=by rw[y'A,hx];rfl
    cases p with
    |true=>
     obtain⟨j,z,hj,hz,hzl,hjn⟩:=hyes rfl
     have hn:ZaO (e1,e2) b (k+1) true=ZaO (e1,e2) b k true++[x]:=by
      simp only[ZaO]
      rw[htk,ZhL [x] ⟨j,z,by rw[x'e,if_pos hj];exact hz,hzl⟩]
     repeat' first|refine dr (id:=11) T 10 (by kernel_rfl) ?_|refine gn ?_|(first|apply VCg.step T rfl rfl|apply exF);focus((try simp (disch:=omega) only[go_sem,Nat.reduceBEq,z'l]);(exact rfl))|refine VCg.gstep T rfl rfl rfl rfl ?_;try simp only[GB]|refine vs T rfl fun K hK=>?_;(try simp (disch:=omega) only[go_sem,Nat.reduceBEq,Nat.reduceAdd,Nat.reduceMul,Nat.reduceLeDiff,hd,hw,hrow,z'A,Bool.toNat_true]);(first|refine hK _ _ ?_;clear hK K|refine⟨_,_,_,_,(by repeat (exact Sp.here)),?_,(by exact⟨rfl,rfl⟩),?_,fun g' hg'=>hK _ _ ?_⟩<;>clear hK K|refine⟨?_,hK _ _ ?_⟩<;>clear hK K;focus(try omega))|refine st rfl ?_|refine sc rfl ?_|refine nl ?_|refine gs rfl rfl ?_
     ·exact hmid
     ·omega
     ·refine⟨⟨(k+1,true,g'),by simp only[];omega,fun h=>(by cases h),fun _=>⟨j,z,by simp only[];omega,hz,hzl,hjn⟩⟩,z'v ?_ ?_,by simp only[];omega⟩
      ·simp only[]
       rw[hn,w'b,y'J]
       rfl
      ·simp[sub,upd]
    |false=>
     by_cases hg:x.1>e1
     ·have hg':decide (x.1>e1)=true:=by simpa using hg
      have hn:ZaO (e1,e2) b (k+1) true=ZaO (e1,e2) b k false++[(e1,e2)]++[x]:=by
       simp only[ZaO]
       have h1:=Zgf (e:=(e1,e2)) (b:=b.take (k+1)) (k:=k) (fun i y hi hy=>hno rfl i y hi (by rw[x'e]at hy;split at hy;exact hy;cases hy)) (by rw[z'F];omega)
       have h2:(b.take (k+1)).take k=b.take k:=by rw[List.take_take];congr 1;omega
       have h3:(b.take (k+1)).drop k=[x]:=by rw[htk,Zaf (by rw[z'F];omega)]
       rw[h1,h2,h3]
       simp[w'h,hg]
      have hm2:((eRs (ZaO (e1,e2) b k false)).flatten++[iD e1,iD e2]).length=(k+1)*2:=by rw[z'o,hmid];simp;omega
      repeat' first|refine dr (id:=11) T 10 (by kernel_rfl) ?_|refine gn ?_|(first|apply VCg.step T rfl rfl|apply exF);focus((try simp (disch:=omega) only[go_sem,Nat.reduceBEq,hrow,z'A,z'r]);(first|exact rfl|refine⟨?_,rfl⟩;try omega))|refine VCg.gstep T rfl rfl rfl rfl ?_;try simp only[GB]|refine vs T rfl fun K hK=>?_;(try simp (disch:=omega) only[go_sem,Nat.reduceBEq,Nat.reduceAdd,Nat.reduceMul,Nat.reduceLeDiff,hd,hw,hrow,hg',z'A,Bool.toNat_false]);(first|refine hK _ _ ?_;clear hK K|refine⟨_,_,_,_,(by repeat (exact Sp.here)),?_,(by exact⟨rfl,rfl⟩),?_,fun g' hg'=>hK _ _ ?_⟩<;>clear hK K|refine⟨?_,hK _ _ ?_⟩<;>clear hK K;focus(try omega))|refine st rfl ?_|refine sc rfl ?_|refine nl ?_|refine gs rfl rfl ?_
      ·exact hmid
      ·omega
      ·exact hm2
      ·omega
      ·refine⟨⟨(k+1,true,g'),by simp only[];omega,fun h=>(by cases h),fun _=>⟨k,x,by simp only[];omega,hx,hg,hno rfl⟩⟩,z'v ?_ ?_,by simp only[];omega⟩
       ·simp only[]
        rw[hn,w'b,w'b,y'J,y'J]
        rfl
       ·simp[sub,upd]
     ·have hg':decide (x.1>e1)=false:=by simpa using hg
      have hn:ZaO (e1,e2) b (k+1) false=ZaO (e1,e2) b k false++[x]:=htk
      repeat' first|refine dr (id:=11) T 10 (by kernel_rfl) ?_|refine gn ?_|(first|apply VCg.step T rfl rfl|apply exF);focus((try simp (disch:=omega) only[go_sem,Nat.reduceBEq,hrow,z'A,z'r]);(first|exact rfl|refine⟨?_,rfl⟩;try omega))|refine VCg.gstep T rfl rfl rfl rfl ?_;try simp only[GB]|refine vs T rfl fun K hK=>?_;(try simp (disch:=omega) only[go_sem,Nat.reduceBEq,Nat.reduceAdd,Nat.reduceMul,Nat.reduceLeDiff,hd,hw,hrow,hg',z'A,Bool.toNat_false]);(first|refine hK _ _ ?_;clear hK K|refine⟨_,_,_,_,(by repeat (exact Sp.here)),?_,(by exact⟨rfl,rfl⟩),?_,fun g' hg'=>hK _ _ ?_⟩<;>clear hK K|refine⟨?_,hK _ _ ?_⟩<;>clear hK K;focus(try omega))|refine st rfl ?_|refine sc rfl ?_|refine nl ?_|refine gs rfl rfl ?_
      ·exact hmid
      ·omega
      ·refine⟨⟨(k+1,false,g'),by simp only[];omega,fun _ i y hi hy=>?_,fun h=>(by cases h)⟩,z'v ?_ ?_,by simp only[];omega⟩
       ·simp only[]at hi
        rcases z'g i k with h'|h'
        ·exact hno rfl i y h' hy
        ·obtain rfl:i=k:=by omega
         rw[hx]at hy;cases hy;exact hg
       ·simp only[]
        rw[hn,w'b,y'J]
        rfl
       ·simp[sub,upd]
   ·have hd:decide ((k:Int)<(b.length:Int))=false:=by simp;omega
    have htk:b.take k=b:=y'L hge
    have hkl:k=b.length:=by omega
    cases p with
    |true=>
     repeat' first|refine vs T rfl fun K hK=>?_;(try simp (disch:=omega) only[go_sem,Nat.reduceBEq,hd,z'A,z'l,Bool.toNat_true]);(refine hK _ _ ?_;clear hK K)|refine st rfl ?_|refine sc rfl ?_|refine nl ?_
     refine z'n T (H':=shp g 114 2 (eRs (ZaO (e1,e2) b k true)).flatten []) ZbO ⟨g,114,?_,?_⟩
     ·rw[z'A,Zcm,hkl];rfl
     ·rw[ZaO,htk]
    |false=>
     have hfin:w'h (e1,e2) b=b++[(e1,e2)]:=by
      have:=Zgf (e:=(e1,e2)) (b:=b) (k:=b.length) (fun i y hi hy=>hno rfl i y (by omega) hy) (z'w _)
      rw[z'X,List.drop_length]at this
      exact this
     repeat' first|refine vs T rfl fun K hK=>?_;(try simp (disch:=omega) only[go_sem,Nat.reduceBEq,Nat.reduceAdd,Nat.reduceMul,Nat.reduceLeDiff,hd,z'A,z'r,Bool.toNat_false]);(first|refine hK _ _ ?_;clear hK K|refine⟨_,_,_,_,(by repeat (exact Sp.here)),?_,(by exact⟨rfl,rfl⟩),?_,fun g' hg'=>hK _ _ ?_⟩<;>clear hK K)|refine st rfl ?_|refine sc rfl ?_|refine nl ?_
     ·exact hmid
     ·omega
     ·refine z'n T (H':=shp g' 114 2 ((eRs (ZaO (e1,e2) b k false)).flatten++[iD e1,iD e2]) []) ZbO ⟨g',114,?_,?_⟩
      ·rw[z'A,Zcm,hkl];rfl
      ·rw[hfin,ZaO,htk,w'b,y'J];rfl
 ·have e3:(m != 3)=true:=by simpa using h3
  by_cases h2:m=2
  ·have e2':(m == 2)=true:=by simpa using h2
   have hp:w'c m (e1,e2) b=b++[(e1,e2)]:=by simp[w'c,h2]
   rw[hp]
   refine Fun.of T [.tmp 6] Tryz.func70 rfl Tryz.ntmps70 Tryz.results70 rfl (by kernel_rfl) ?_
   repeat' first|refine vb rfl rfl rfl rfl ?_|refine vs T rfl fun K hK=>?_;(try simp (disch:=omega) only[go_sem,Nat.reduceBEq,Nat.reduceAdd,Nat.reduceMul,Nat.reduceLeDiff,e3,e2',z'A]);(first|refine hK _ _ ?_;clear hK K|refine⟨_,_,_,_,(by repeat (first|exact Sp.here|exact Sp.nil)),?_,(by exact⟨rfl,rfl⟩),?_,fun g' hg'=>hK _ _ ?_⟩<;>clear hK K)|refine st rfl ?_|refine sc rfl ?_|refine nl ?_
   ·rfl
   ·omega
   ·exact hfb
   ·omega
   ·refine z'n T (H':=shp g' 114 2 ((eRs b).flatten++[iD e1,iD e2]) []) ZbO ⟨g',114,?_,?_⟩
    ·rw[z'A,z'o];rfl
    ·rw[w'b,y'J];rfl
  ·have e2':(m == 2)=false:=by simpa using h2
   have hp:w'c m (e1,e2) b=b:=by simp[w'c,h2,h3]
   rw[hp]
   refine Fun.of T [.tmp 6] Tryz.func70 rfl Tryz.ntmps70 Tryz.results70 rfl (by kernel_rfl) ?_
   repeat' first|refine vb rfl rfl rfl rfl ?_|refine vs T rfl fun K hK=>?_;(try simp (disch:=omega) only[go_sem,Nat.reduceBEq,Nat.reduceAdd,e3,e2',z'A]);(first|refine hK _ _ ?_;clear hK K|refine⟨_,_,_,_,(by repeat (exact Sp.nil)),?_,(by exact⟨rfl,rfl⟩),?_,fun g' hg'=>hK _ _ ?_⟩<;>clear hK K)|refine st rfl ?_|refine sc rfl ?_|refine nl ?_
   ·rfl
   ·omega
   ·refine z'n T (H':=shp g' 114 2 (eRs b).flatten []) ZbO ⟨g',114,?_,?_⟩
    ·rw[z'A];rfl
    ·rfl
def ZcG (m r md:Int):Bool:=decide (1≤m)&&decide (m≤3)&&(decide (1≤r)&&decide (r≤4)&&decide (2≤md)&&decide (md≤16))
def ZeE (m r:Int) (b:List En):Bool:=(decide (m≠1)&&(decide (m=3)||decide ((b.length:Int)≤r)))||decide ((b.length:Int)=0)
def v'M (m r md lc:Int) (b:List En):Bool:=ZcG m r md&&((List.range b.length).all fun i=> !Zft m r md lc b i)&&ZeE m r b
end Go.Proofs.YtfneeacgkdhldaaGreat
