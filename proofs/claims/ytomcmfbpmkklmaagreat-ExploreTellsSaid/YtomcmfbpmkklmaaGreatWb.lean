/- Buffers, in plain Lean: what is pushed, popped, and what stands next. No condition. -/
import Derived.Test.YtomcmfbpmkklmaaGreatWa
import Derived.Test.YtomcmfbpmkklmaaGreatK2
import Derived.Laws.StructEq
namespace Go.Proofs.YtomcmfbpmkklmaaGreat
set_option linter.unusedSimpArgs false
set_option linter.unusedVariables false
open Go Go.Proofs Go.Vc
attribute [local irreducible] y'0 VCg VCw VCx
abbrev En:=Int×Int
def eR (x:En):List D:=[iD x.1,iD x.2]
def eRs (b:List En):List (List D):=b.map eR
abbrev buf (b:List En):D:= .sl false 2 (eRs b)
def iRs (l:List Int):List (List D):=l.map fun n=>[iD n]
abbrev z'S (l:List Int):D:= .sl false 1 (iRs l)
def w'0 (loc:Int):List En→Option Nat
 |[]=>none
 |x::r=>match decide (x.1=loc)with|true=>some 0|false=>(w'0 loc r).map (· +1)
def x'f (loc:Int) (b:List En):Nat:=b.countP fun x=>decide (x.1=loc)
def w'k (e:En):List En→List En
 |[]=>[e]
 |x::r=>match decide (x.1>e.1)with|true=>e::x::r|false=>x::w'k e r
def x'2 (m:Int) (e:En) (b:List En):List En:=if m=2 then b++[e]else if m=3 then w'k e b else b
def v't (loc:Int):List En→Option Int
 |[]=>none
 |x::r=>match v't loc r with
  |some n=>some n
  |none=>match decide (x.1=loc)with|true=>some x.2|false=>none
def Zem (m:Int) (b:List En) (i:Nat):Bool:=(decide (m=2)&&decide (i=0))||(decide (m=3)&&decide (w'0 ((b[i]?).getD (0,0)).1 b=some i))
def ZkO (m:Int) (b:List En) (k:Nat):List Int:=((List.range k).filter (Zem m b)).map fun i=>((b[i]?).getD (0,0)).1
def Za0 (m:Int) (b:List En):List Int:=ZkO m b b.length
def z'Y (m loc:Int) (b:List En):Option Nat:=if m=3 then w'0 loc b else if m=2∧b≠[]∧(loc<0∨(b.head?.map (·.1))=some loc)then some 0 else none
theorem v'u (b:List En): ∀r,r∈eRs b→r.length=2:=by
 intro r h
 obtain⟨x,_,rfl⟩:=z'y.1 h
 rfl
theorem z't (b:List En):(eRs b).length=b.length:=z'p ..
theorem x'5 (b:List En) (i:Nat):(eRs b)[i]?=(b[i]?).map eR:=z'4 ..
theorem w'N (b:List En):(eRs b).flatten.length=b.length*2:=by
 induction b with
 |nil=>rfl
 |cons x b ih=>simp only[eRs,z'z,z'X,z'k,z'D]at ih⊢;rw[ih];simp[eR];omega
def Srt:List En→Prop
 |[]=>True
 |x::r=>(∀y,y∈r→x.1≤y.1)∧Srt r
def que (loc:Int) (b:List En):List En:=b.filter fun x=>decide (x.1=loc)
theorem ZdU (e:En): ∀(b:List En) (y:En),y∈w'k e b↔y=e∨y∈b
 |[],y=>by simp[w'k]
 |x::r,y=>by
  unfold w'k
  split
  ·simp
  ·simp only[z'L,ZdU e r y]
   constructor
   ·rintro(h|h|h)
    ·exact .inr (.inl h)
    ·exact .inl h
    ·exact .inr (.inr h)
   ·rintro(h|h|h)
    ·exact .inr (.inl h)
    ·exact .inl h
    ·exact .inr (.inr h)
theorem ZcV (e:En): ∀b:List En,(w'k e b).length=b.length+1
 |[]=>rfl
 |x::r=>by
  unfold w'k
  split
  ·simp
  ·simp[ZcV e r]
theorem Zf1 (e:En): ∀b:List En,Srt b→Srt (w'k e b)
 |[],_=>⟨fun y h=>(by cases h),trivial⟩
 |x::r,⟨h1,h2⟩=>by
  unfold w'k
  split
  ·rename_i hx
   have hx':x.1>e.1:=of_decide_eq_true hx
   refine⟨fun y hy=>?_,h1,h2⟩
   rcases z'L.1 hy with rfl|hy
   ·omega
   ·have:=h1 y hy;omega
  ·rename_i hx
   have hx': ¬x.1>e.1:=of_decide_eq_false hx
   refine⟨fun y hy=>?_,Zf1 e r h2⟩
   rcases(ZdU e r y).1 hy with rfl|hy
   ·omega
   ·exact h1 y hy
theorem ZfT (e:En) (loc:Int): ∀b:List En,Srt b→que loc (w'k e b)=que loc b++que loc [e]
 |[],_=>by simp[w'k,que]
 |x::r,⟨h1,h2⟩=>by
  unfold w'k
  split
  ·rename_i hx
   have hx':x.1>e.1:=of_decide_eq_true hx
   have hno:e.1=loc→que loc (x::r)=[]:=fun he=>by
    rw[que,x'W]
    intro y hy
    have:x.1≤y.1:=by
     rcases z'L.1 hy with rfl|hy
     ·exact Int.le_refl _
     ·exact h1 y hy
    simp;omega
   by_cases he:e.1=loc
   ·rw[hno he,z'N]
    show que loc (e::x::r)=_
    have:que loc (e::x::r)=que loc [e]++que loc (x::r):=by rw[que,que,que, ←y'r];rfl
    rw[this,hno he,z'r]
   ·have e1:que loc [e]=[]:=by simp[que,he]
    have e2:que loc (e::x::r)=que loc (x::r):=by simp[que,he]
    rw[e1,e2,z'r]
  ·have:que loc (x::w'k e r)=que loc [x]++que loc (w'k e r):=by rw[que,que,que, ←y'r];rfl
   rw[this,ZfT e loc r h2, ←z'7]
   congr 1
   rw[que,que,que, ←y'r];rfl
def SameQ (a b:List En):Prop:= ∀loc,que loc a=que loc b
theorem SameQ.nil {b:List En} (h:SameQ [] b):b=[]:=by
 cases b with
 |nil=>rfl
 |cons x r=>
  have:=h x.1
  simp[que]at this
theorem v'0 (loc:Int) (a b:List En):que loc (a++b)=que loc a++que loc b:=y'r ..
theorem Zhp {loc:Int}: ∀{b:List En},w'0 loc b=none→que loc b=[]
 |[],_=>rfl
 |x::r,h=>by
  unfold w'0 at h
  split at h
  ·cases h
  ·rename_i hx
   have:=Zhp (Option.map_eq_none_iff.1 h)
   rw[que,w'F,hx]
   simpa[que]using this
theorem Zcm {loc:Int}: ∀{b:List En} {i:Nat},w'0 loc b=some i→ ∃x p q,b=p++x::q∧p.length=i∧x.1=loc∧que loc p=[]
 |[],i,h=>by simp[w'0]at h
 |x::r,i,h=>by
  unfold w'0 at h
  split at h
  ·rename_i hx
   obtain rfl:=y'n h
   exact⟨x,[],r,rfl,rfl,of_decide_eq_true hx,rfl⟩
  ·rename_i hx
   obtain⟨j,hj,rfl⟩:=Option.map_eq_some_iff.1 h
   obtain⟨y,p,q,rfl,h1,h2,h3⟩:=Zcm hj
   exact⟨y,x::p,q,rfl,by simp[h1],h2,by rw[que,w'F,hx];simpa[que]using h3⟩
theorem ZgO {loc:Int} {b:List En} {i:Nat} (h:w'0 loc b=some i):i<b.length:=by
 obtain⟨x,p,q,rfl,rfl,_⟩:=Zcm h
 simp
theorem SameQ.cut {a b:List En} {loc:Int} {i j:Nat} (h:SameQ a b) (hi:w'0 loc a=some i) (hj:w'0 loc b=some j):a[i]?=b[j]?∧SameQ (a.take i++a.drop (i+1)) (b.take j++b.drop (j+1)):=by
 obtain⟨x,p,q,rfl,rfl,h1,h2⟩:=Zcm hi
 obtain⟨y,p',q',rfl,rfl,h3,h4⟩:=Zcm hj
 have hx:que loc (x::q)=x::que loc q:=by rw[que,w'F];simp[h1,que]
 have hy:que loc (y::q')=y::que loc q':=by rw[que,w'F];simp[h3,que]
 have hq:=h loc
 rw[v'0,v'0,h2,h4,hx,hy,z'N,z'N,w'y]at hq
 obtain⟨rfl,hq⟩:=hq
 refine⟨by simp,fun l=>?_⟩
 have e1:(p++x::q).take p.length++(p++x::q).drop (p.length+1)=p++q:=by simp[List.drop_append]
 have e2:(p'++x::q').take p'.length++(p'++x::q').drop (p'.length+1)=p'++q':=by simp[List.drop_append]
 rw[e1,e2,v'0,v'0]
 by_cases hl:l=loc
 ·subst hl;rw[h2,h4,hq]
 ·have hh:=h l
  have hxl: ∀q:List En,que l (x::q)=que l q:=fun q=>by rw[que,w'F];simp[h1,Ne.symm hl,que]
  rwa [v'0,v'0,hxl,hxl]at hh
theorem z'G {env:Nat→D} {env':List (Nat×D)} {H H':Heap} (hh:H=H') (h:Vc.sub env env'):Weak ⟨env,H⟩ ⟨z'M env',H'⟩:=hh▸Weak.sub h
theorem y'S {env:Nat→D} {env':List (Nat×D)} {x:Nat×HC} {H H':Heap} (hh:H=H') (h:Vc.sub env env'):Weak ⟨env,x::H⟩ ⟨z'M env',H'⟩:=Weak.subH (hh▸z'9 _ _) h
theorem v'4 {P:Program} {n:Nat} {c:Code} {s:St} {Q:Exit→St→Prop} {t m:Nat} {g:Option (Nat×Nat)} (ht:s.env t= .gs g m) (h:gOk g m→VC P n c s Q):VC P n c s Q:=fun x a w hn hs=>
 h (by have:=hs.env t;rw[ht,Rel]at this;exact this.2) x a w hn hs
theorem Zkb (a b a' b':Int):EqS Tryz.prog 127 [.int .i64 a,.int .i64 b] [.int .i64 a',.int .i64 b'] (a == a'&&b == b'):=by
 refine⟨by kernel_rfl,fun w=>?_⟩
 have u3:=Tryz.underlying3
 have a3:=Tryz.isAgg3
 have z3:=Tryz.sizeOf3
 have hS:Tryz.prog.underlying 127=some (.struct (Tryz.prog.fieldsOf 127)):=by kernel_rfl
 have hp:Tryz.prog.stoodInHeld 127=false:=by kernel_rfl
 rw[show(10000:Nat)=9999+1 from rfl,run_equalIn_agg w 9999 127 _ _ hS hp]
 simp only[Program.fieldsOf,Tryz.underlying127]
 go_simp
 by_cases h1:a=a'<;>by_cases h2:b=b'<;>simp[h1,h2]
theorem Zjq {loc:Int}: ∀{b:List En} {k:Nat} {x:En},b[k]?=some x→x.1=loc→(∀i y,i<k→b[i]?=some y→y.1≠loc)→w'0 loc b=some k
 |x0::r,0,x,h,hx,_=>by
  obtain rfl:x0=x:=by simpa using h
  simp[w'0,hx]
 |x0::r,k+1,x,h,hx,hno=>by
  have h0:x0.1≠loc:=hno 0 x0 (by omega) rfl
  have:=Zjq (b:=r) (k:=k) (by simpa using h) hx fun i y hi hy=>hno (i+1) y (by omega) (by simpa using hy)
  simp[w'0,h0,this]
theorem Zj0 {loc:Int}: ∀{b:List En},(∀(i:Nat) (y:En),b[i]?=some y→y.1≠loc)→w'0 loc b=none
 |[],_=>rfl
 |x0::r,hno=>by
  have h0:x0.1≠loc:=hno 0 x0 rfl
  have:=Zj0 (b:=r) fun i y hy=>hno (i+1) y (by simpa using hy)
  simp[w'0,h0,this]
def x'r:Option Nat→Int
 |some k=>k
 |none=> -1
theorem ZmG (b:List En) (hb:b.length≤1000000) (loc:Int):Pure Tryz.prog 244 [buf b,iD loc] (iD (x'r (w'0 loc b))):=by
 refine Fun.of T [.tmp 4] Tryz.func244 rfl Tryz.ntmps244 Tryz.results244 rfl (by kernel_rfl) ?_
 repeat' first|refine vs T rfl fun K hK=>?_;(try simp (disch:=omega) only[go_sem,Nat.reduceBEq]);(refine hK _ _ ?_;clear hK K)|refine st rfl ?_|refine nl ?_
 refine VC.loop {k:Nat//k≤b.length∧ ∀i y,i<k→b[i]?=some y→y.1≠loc} (fun p=>⟨z'M [(1,iD loc),(7,buf b),(8,iD (b.length:Nat)),(9,iD (p.1:Nat))],[]⟩) (fun p=>b.length-p.1) ⟨0,by omega,fun i y hi=>by omega⟩ ?_ ?_
 ·refine Weak.sub ?_
  simp[sub,upd,eRs]
 ·rintro⟨k,hk,hno⟩
  dsimp only
  rcases z'g k b.length with hlt|hge
  ·have hd:decide ((k:Int)<(b.length:Int))=true:=by simp;omega
   have hw:IntKind.i64.wrap ((k:Int)+1)=((k+1:Nat):Int):=by rw[w64 (by omega)];omega
   obtain⟨x,hx⟩: ∃x,b[k]?=some x:=⟨_,z'b hlt⟩
   have hrow:(eRs b)[k]?=some [iD x.1,iD x.2]:=by rw[x'5,hx];rfl
   by_cases he:x.1=loc
   ·have he':(x.1 == loc)=true:=by simpa using he
    have hf:=Zjq hx he hno
    repeat' first|refine vs T rfl fun K hK=>?_;(try simp (disch:=omega) only[go_sem,Nat.reduceBEq,Nat.reduceAdd,Nat.reduceLeDiff,hd,hrow,he',z't]);(first|refine hK _ _ ?_;clear hK K|intro bq hbq;(try simp only[HB]at hbq);refine hK _ _ ?_;clear hK K|refine⟨?_,hK _ _ ?_⟩<;>clear hK K;focus(try omega))|refine st rfl ?_|refine sc rfl ?_|refine nl ?_|refine z'j T (z'a _) ?_;(try simp only[upd,Nat.reduceBEq,cond_true,cond_false,and_true,hf,x'r])
   ·have he':(x.1 == loc)=false:=by simpa using he
    repeat' first|refine vs T rfl fun K hK=>?_;(try simp (disch:=omega) only[go_sem,Nat.reduceBEq,Nat.reduceAdd,Nat.reduceLeDiff,hd,hw,hrow,he',z't]);(first|refine hK _ _ ?_;clear hK K|intro bq hbq;(try simp only[HB]at hbq);refine hK _ _ ?_;clear hK K|refine⟨?_,hK _ _ ?_⟩<;>clear hK K;focus(try omega))|refine st rfl ?_|refine sc rfl ?_|refine nl ?_
    refine⟨⟨k+1,by omega,fun i y hi hy=>?_⟩,y'S rfl ?_,by simp only[];omega⟩
    ·rcases z'g i k with h'|h'
     ·exact hno i y h' hy
     ·obtain rfl:i=k:=by omega
      rw[hx]at hy;cases hy;exact he
    ·simp[sub,upd]
  ·have hd:decide ((k:Int)<(b.length:Int))=false:=by simp;omega
   have hf:w'0 loc b=none:=Zj0 fun i y hy=>hno i y (by have:=(z'c.1 hy).1;omega) hy
   repeat' first|refine vs T rfl fun K hK=>?_;(try simp (disch:=omega) only[go_sem,Nat.reduceBEq,hd]);(refine hK _ _ ?_;clear hK K)|refine st rfl ?_|refine sc rfl ?_|refine nl ?_|refine z'j T (z'a _) ?_;(try simp only[upd,Nat.reduceBEq,cond_true,cond_false,and_true,hf,x'r])
theorem Zb4 (b:List En) (hb:b.length≤1000000) (loc:Int):Pure Tryz.prog 123 [buf b,iD loc] (iD (x'f loc b:Nat)):=by
 refine Fun.of T [.tmp 4] Tryz.func123 rfl Tryz.ntmps123 Tryz.results123 rfl (by kernel_rfl) ?_
 repeat' first|refine vs T rfl fun K hK=>?_;(try simp (disch:=omega) only[go_sem,Nat.reduceBEq]);(refine hK _ _ ?_;clear hK K)|refine st rfl ?_|refine nl ?_
 refine VC.loop {k:Nat//k≤b.length} (fun p=>⟨z'M [(1,iD loc),(5,iD (x'f loc (b.take p.1):Nat)),(8,buf b),(9,iD (b.length:Nat)),(10,iD (p.1:Nat))],[]⟩) (fun p=>b.length-p.1) ⟨0,by omega⟩ ?_ ?_
 ·refine Weak.sub ?_
  simp[sub,upd,eRs,x'f]
 ·rintro⟨k,hk⟩
  dsimp only
  have hc:x'f loc (b.take k)≤b.length:=y'H Zag (by rw[z'A];omega)
  rcases z'g k b.length with hlt|hge
  ·have hd:decide ((k:Int)<(b.length:Int))=true:=by simp;omega
   have hw:IntKind.i64.wrap ((k:Int)+1)=((k+1:Nat):Int):=by rw[w64 (by omega)];omega
   have hw2:IntKind.i64.wrap ((x'f loc (b.take k):Nat)+1:Int)=((x'f loc (b.take k)+1:Nat):Int):=by rw[w64 (by omega)];omega
   obtain⟨x,hx⟩: ∃x,b[k]?=some x:=⟨_,z'b hlt⟩
   have hrow:(eRs b)[k]?=some [iD x.1,iD x.2]:=by rw[x'5,hx];rfl
   have ht:b.take (k+1)=b.take k++[x]:=by rw[y'b,hx];rfl
   by_cases he:x.1=loc
   ·have he':(x.1 == loc)=true:=by simpa using he
    have hn:x'f loc (b.take (k+1))=x'f loc (b.take k)+1:=by rw[ht,x'f,v'f];simp[he,x'f]
    repeat' first|refine vs T rfl fun K hK=>?_;(try simp (disch:=omega) only[go_sem,Nat.reduceBEq,Nat.reduceAdd,Nat.reduceLeDiff,hd,hw,hw2,hrow,he',z't]);(first|refine hK _ _ ?_;clear hK K|intro bq hbq;(try simp only[HB]at hbq);refine hK _ _ ?_;clear hK K|refine⟨?_,hK _ _ ?_⟩<;>clear hK K;focus(try omega))|refine st rfl ?_|refine sc rfl ?_|refine nl ?_
    refine⟨⟨k+1,by omega⟩,y'S rfl ?_,by simp only[];omega⟩
    simp[sub,upd,hn]
   ·have he':(x.1 == loc)=false:=by simpa using he
    have hn:x'f loc (b.take (k+1))=x'f loc (b.take k):=by rw[ht,x'f,v'f];simp[he,x'f]
    repeat' first|refine vs T rfl fun K hK=>?_;(try simp (disch:=omega) only[go_sem,Nat.reduceBEq,Nat.reduceAdd,Nat.reduceLeDiff,hd,hw,hrow,he',z't]);(first|refine hK _ _ ?_;clear hK K|intro bq hbq;(try simp only[HB]at hbq);refine hK _ _ ?_;clear hK K|refine⟨?_,hK _ _ ?_⟩<;>clear hK K;focus(try omega))|refine st rfl ?_|refine sc rfl ?_|refine nl ?_
    refine⟨⟨k+1,by omega⟩,y'S rfl ?_,by simp only[];omega⟩
    simp[sub,upd,hn]
  ·have hd:decide ((k:Int)<(b.length:Int))=false:=by simp;omega
   have ht:b.take k=b:=z'V hge
   repeat' first|refine vs T rfl fun K hK=>?_;(try simp (disch:=omega) only[go_sem,Nat.reduceBEq,hd,ht]);(refine hK _ _ ?_;clear hK K)|refine st rfl ?_|refine sc rfl ?_|refine nl ?_|exact z'j T (z'a _) ⟨rfl,rfl⟩
def ZaR (m r loc:Int) (b:List En):Bool:=if m=2 then decide ((b.length:Int)<r)else if m=3 then decide (((x'f loc b:Nat):Int)<r)else false
theorem Znt (b:List En) (hb:b.length≤1000000) (m r loc:Int):Pure Tryz.prog 224 [buf b,iD m,iD r,iD loc] (bD (ZaR m r loc b)):=by
 refine Fun.of T [.tmp 8] Tryz.func224 rfl Tryz.ntmps224 Tryz.results224 rfl (by kernel_rfl) ?_
 by_cases h2:m=2
 ·subst h2
  repeat' first|refine vs T rfl fun K hK=>?_;(try simp (disch:=omega) only[go_sem,Nat.reduceBEq,Nat.reduceAdd,z't]);(refine hK _ _ ?_;clear hK K)|refine st rfl ?_|refine sc rfl ?_|refine nl ?_|exact z'j T (z'a _) ⟨rfl,rfl⟩
 ·have e2:(m == 2)=false:=by simpa using h2
  by_cases h3:m=3
  ·subst h3
   repeat' first|refine vs T rfl fun K hK=>?_;(try simp (disch:=omega) only[go_sem,Nat.reduceBEq,Nat.reduceAdd]);(first|refine hK _ _ ?_;clear hK K|refine Op1.callp rfl rfl (Zb4 b hb _) rfl ?_;refine hK _ _ ?_;clear hK K)|refine st rfl ?_|refine sc rfl ?_|refine nl ?_|exact z'j T (z'a _) ⟨rfl,rfl⟩
  ·have e3:(m == 3)=false:=by simpa using h3
   repeat' first|refine vs T rfl fun K hK=>?_;(try simp (disch:=omega) only[go_sem,Nat.reduceBEq,Nat.reduceAdd,e2,e3]);(refine hK _ _ ?_;clear hK K)|refine st rfl ?_|refine sc rfl ?_|refine nl ?_|refine z'j T (z'a _) ?_;(try simp only[upd,Nat.reduceBEq,cond_true,cond_false,and_true])
   simp[ZaR,h2,h3]
def zE (n:Nat):List En:=List.replicate n (0,0)
theorem Zcw (n:Nat):(zE n).length=n:=x'K
theorem Zk5 (n:Nat):Zaz n [.int .i64 0,.int .i64 0]=(eRs (zE n)).flatten:=by
 unfold Zaz eRs zE
 rw[v'e]
 rfl
theorem w'a (a b:List En):eRs (a++b)=eRs a++eRs b:=z'F ..
theorem Zmk (l:List D) (o:Nat):setL l o []=l:=by rw[setL]
theorem ZhS: ∀(p c q r:List D),q.length=c.length→setL (p++q++r) p.length c=p++c++r
 |p,[],q,r,h=>by
  have:q=[]:=z'P h
  subst this
  rw[Zmk]
 |p,x::c,[],r,h=>by simp at h
 |p,x::c,y::q,r,h=>by
  rw[setL]
  have e1:(p++y::q++r).set p.length x=(p++[x])++q++r:=by
   rw[z'7,List.set_append_right _ _ (z'v _),Nat.sub_self,z'T,List.set_cons_zero]
   simp
  rw[e1,show p.length+1=(p++[x]).length by simp,ZhS (p++[x]) c q r (by simpa using h)]
  simp
theorem Zd8 (b c:List En) (k:Nat) (h:k+c.length≤b.length):setL (eRs b).flatten (k*2) (eRs c).flatten=(eRs (b.take k++c++b.drop (k+c.length))).flatten:=by
 have e:b=b.take k++(b.drop k).take c.length++b.drop (k+c.length):=by
  rw[z'7, ←w'H,w'K,w'K]
 have hk:(eRs (b.take k)).flatten.length=k*2:=by rw[w'N,z'A];rw[w'O (by omega)]
 conv=>lhs;rw[e]
 rw[w'a,w'a,y'F,y'F, ←hk,ZhS _ _ _ _ (by rw[w'N,w'N,z'A,x'o];rw[w'O (by omega)])]
 rw[w'a,w'a,y'F,y'F]
theorem ZhV (b:List En) (hb:b.length≤1000000):Pure Tryz.prog 234 [buf b] (buf b):=by
 refine Fun.freeze (v'u b) ?_
 have h1:(eRs b).flatten.take (b.length*2)=(eRs b).flatten:=z'V (by rw[w'N];exact z'v _)
 refine Fun.of T [.tmp 2] Tryz.func234 rfl Tryz.ntmps234 Tryz.results234 rfl (by kernel_rfl) ?_
 repeat' first|refine vs T rfl fun K hK=>?_;(try simp (disch:=omega) only[go_sem,Nat.reduceBEq,z't,Zk5]);(first|refine hK _ _ ?_;clear hK K|refine⟨?_,fun bq hbq=>?_⟩;rotate_left;(try simp only[HB]at hbq);refine hK _ _ ?_;all_goals clear hK K|refine Zgn T rfl ?_;(simp (disch:=omega) only[go_sem,Nat.reduceBEq,z't,Nat.min_self,h1]);(refine⟨?_,hK _ _ ?_⟩<;>clear hK K))|refine st rfl ?_|refine nl ?_
 ·rw[w'N,Zcw];exact z'v _
 ·have h2:setL (eRs (zE b.length)).flatten 0 (eRs b).flatten=(eRs b).flatten:=by
   have:=Zd8 (zE b.length) b 0 (by rw[Zcw];omega)
   simpa[zE]using this
  rw[h2]
  exact z'j T (z'm _) ⟨some (bq,b.length),127,by rw[z't];rfl,rfl⟩
 ·omega
theorem ZlA (b:List En) (k:Nat):(eRs b).take k=eRs (b.take k):=by rw[eRs,eRs,List.map_take]
theorem ZhT (b:List En) (k:Nat):(eRs b).drop k=eRs (b.drop k):=by rw[eRs,eRs,List.map_drop]
theorem ZjA (b:List En) (n:Nat) (h:n=b.length):(eRs b).flatten.take (n*2)=(eRs b).flatten:=z'V (by rw[w'N,h];exact z'v _)
def Zb9 (k:Nat) (e:En) (b:List En):List En:=b.take k++e::b.drop k
theorem Zl0 (k:Nat) (e:En) (b:List En) (hk:k≤b.length):(Zb9 k e b).length=b.length+1:=by
 simp[Zb9];omega
theorem ZkR (b:List En) (hb:b.length≤1000000) (k:Nat) (hk:k≤b.length) (e1 e2:Int):Pure Tryz.prog 233 [buf b,iD (k:Nat),.agg [iD e1,iD e2]] (buf (Zb9 k (e1,e2) b)):=by
 refine Fun.freeze (v'u _) ?_
 have hw:IntKind.i64.wrap ((b.length:Int)+1)=((b.length+1:Nat):Int):=by rw[w64 (by omega)];omega
 have hw2:IntKind.i64.wrap ((k:Int)+1)=((k+1:Nat):Int):=by rw[w64 (by omega)];omega
 have hl:(b.take k).length=k:=by rw[z'A];omega
 have m1:Nat.min (b.take k).length (b.length+1)=k:=by rw[hl];exact w'O (by omega)
 have t1:=ZjA (b.take k) k hl.symm
 have hz: ∀n m,(zE n).drop m=zE (n-m):=fun n m=>List.drop_replicate ..
 have h1:setL (eRs (zE (b.length+1))).flatten 0 (eRs (b.take k)).flatten=(eRs (b.take k++zE (b.length+1-k))).flatten:=by
  have:=Zd8 (zE (b.length+1)) (b.take k) 0 (by rw[Zcw];omega)
  rw[v'c,y'q,w'G,z'N,hl,hz]at this
  exact this
 have h2:((eRs (b.take k++zE (b.length+1-k))).flatten.set (k*2) (iD e1)).set (k*2+1) (iD e2)=(eRs (b.take k++[(e1,e2)]++zE (b.length-k))).flatten:=by
  have:=Zd8 (b.take k++zE (b.length+1-k)) [(e1,e2)] k (by rw[z'k,hl,Zcw];simp;omega)
  have e1':(b.take k++zE (b.length+1-k)).take k=b.take k:=List.take_left' hl
  have e2':(b.take k++zE (b.length+1-k)).drop (k+[((e1,e2):En)].length)=zE (b.length-k):=by
   rw[←w'H,Zav hl,hz];congr 1;simp;omega
  rw[e1',e2']at this
  exact this
 have hl2:(b.drop k).length=b.length-k:=x'o
 have m2:Nat.min (b.drop k).length (b.length+1-(k+1))=b.length-k:=by rw[hl2,show b.length+1-(k+1)=b.length-k by omega];exact Nat.min_self _
 have t2:=ZjA (b.drop k) (b.length-k) hl2.symm
 have hl3:(b.take k++[((e1,e2):En)]).length=k+1:=by rw[z'k,hl];rfl
 have h3:setL (eRs (b.take k++[(e1,e2)]++zE (b.length-k))).flatten ((k+1)*2) (eRs (b.drop k)).flatten=(eRs (Zb9 k (e1,e2) b)).flatten:=by
  have:=Zd8 (b.take k++[(e1,e2)]++zE (b.length-k)) (b.drop k) (k+1) (by rw[z'k,hl3,Zcw,hl2];omega)
  rw[List.take_left' hl3,hl2, ←w'H,Zav hl3,hz,Nat.sub_self]at this
  rw[this]
  congr 2
  simp[Zb9,zE]
 refine Fun.of T [.tmp 6] Tryz.func233 rfl Tryz.ntmps233 Tryz.results233 rfl (by kernel_rfl) ?_
 repeat' first|refine dr (id:=4) T 7 (by kernel_rfl) ?_|refine gn ?_|apply VCg.step T rfl rfl;focus((try simp (disch:=omega) only[go_sem,Nat.reduceBEq,z't,hw2,ZhT]);(first|exact rfl|refine⟨?_,rfl⟩;try omega))|refine vs T rfl fun K hK=>?_;(try simp (disch:=omega) only[go_sem,Nat.reduceBEq,Nat.reduceAdd,Nat.reduceLeDiff,z't,hw,h2,Zk5,ZlA,ZhT]);(first|refine hK _ _ ?_;clear hK K|intro bq hbq;(try simp only[HB]at hbq);refine hK _ _ ?_;clear hK K|refine⟨?_,hK _ _ ?_⟩<;>clear hK K;focus(try omega)|refine⟨?_,fun bq hbq=>?_⟩;rotate_left;(try simp only[HB]at hbq);refine hK _ _ ?_;all_goals clear hK K|refine Zgn T rfl ?_;(simp (disch:=omega) only[go_sem,Nat.reduceBEq,z't,m1,t1,h1,m2,t2,h3]);(refine⟨?_,hK _ _ ?_⟩<;>clear hK K))|refine st rfl ?_|refine nl ?_
 ·rw[w'N,Zcw];omega
 ·rw[w'N,z'k,hl,Zcw];omega
 ·rw[w'N,z'k,hl3,Zcw];omega
 ·refine z'j T ((z'a _).cons_cons _) ⟨some (bq,b.length+1),127,?_,rfl⟩
  rw[z't,Zl0 k _ b hk]
  rfl
 ·omega
theorem ZjZ (e:En): ∀(b:List En) (k:Nat) (x:En),b[k]?=some x→x.1>e.1→(∀(i:Nat) (y:En),i<k→b[i]?=some y→ ¬y.1>e.1)→w'k e b=Zb9 k e b
 |x0::r,0,x,h,hx,_=>by
  obtain rfl:x0=x:=by simpa using h
  simp[w'k,Zb9,hx]
 |x0::r,k+1,x,h,hx,hno=>by
  have h0: ¬x0.1>e.1:=hno 0 x0 (by omega) rfl
  have:=ZjZ e r k x (by simpa using h) hx fun i y hi hy=>hno (i+1) y (by omega) (by simpa using hy)
  unfold w'k
  simp only[h0,decide_false,this,Zb9]
  simp
theorem Zh9 (e:En): ∀(b:List En),(∀(i:Nat) (y:En),b[i]?=some y→ ¬y.1>e.1)→w'k e b=Zb9 b.length e b
 |[],_=>rfl
 |x0::r,hno=>by
  have h0: ¬x0.1>e.1:=hno 0 x0 rfl
  have:=Zh9 e r fun i y hy=>hno (i+1) y (by simpa using hy)
  unfold w'k
  simp only[h0,decide_false,this,Zb9]
  simp
theorem Znx (e:En) (b:List En):Zb9 b.length e b=b++[e]:=by simp[Zb9]
theorem ZoO (b:List En) (hb:b.length≤1000000) (m e1 e2:Int):Pure Tryz.prog 229 [buf b,iD m,.agg [iD e1,iD e2]] (buf (x'2 m (e1,e2) b)):=by
 have cEnd:=ZkR b hb b.length (z'v _) e1 e2
 refine Fun.of T [.tmp 6] Tryz.func229 rfl Tryz.ntmps229 Tryz.results229 rfl (by kernel_rfl) ?_
 by_cases h2:m=2
 ·subst h2
  have hp:x'2 2 (e1,e2) b=Zb9 b.length (e1,e2) b:=by rw[Znx];rfl
  rw[hp]
  repeat' first|refine vs T rfl fun K hK=>?_;(try simp (disch:=omega) only[go_sem,Nat.reduceBEq,Nat.reduceAdd,Nat.reduceLeDiff,z't,beq_self_eq_true]);(first|refine hK _ _ ?_;clear hK K|intro bq hbq;(try simp only[HB]at hbq);refine hK _ _ ?_;clear hK K|refine Op1.callp rfl rfl (cEnd) rfl ?_;refine hK _ _ ?_;clear hK K)|refine st rfl ?_|refine sc rfl ?_|refine nl ?_|exact z'j T (z'a _) ⟨rfl,rfl⟩
 ·have e2':(m == 2)=false:=by simpa using h2
  by_cases h3:m=3
  ·subst h3
   have hp:x'2 3 (e1,e2) b=w'k (e1,e2) b:=rfl
   rw[hp]
   repeat' first|refine vs T rfl fun K hK=>?_;(try simp (disch:=omega) only[go_sem,Nat.reduceBEq,Nat.reduceAdd,z't,e2',beq_self_eq_true]);(first|refine hK _ _ ?_;clear hK K|intro bq hbq;(try simp only[HB]at hbq);refine hK _ _ ?_;clear hK K)|refine st rfl ?_|refine sc rfl ?_|refine nl ?_
   refine VC.loop {k:Nat//k≤b.length∧ ∀(i:Nat) (y:En),i<k→b[i]?=some y→ ¬y.1>e1} (fun p=>⟨z'M [(0,buf b),(5,.is (.pointer (some ⟨bq,0,none⟩))),(19,buf b),(20,iD (b.length:Nat)),(21,iD (p.1:Nat))],[(bq,.cells 127 2 [iD e1,iD e2])]⟩) (fun p=>b.length-p.1) ⟨0,by omega,fun i y hi=>by omega⟩ ?_ ?_
   ·refine Weak.sub ?_
    simp[sub,upd]
   ·rintro⟨k,hk,hno⟩
    dsimp only
    rcases z'g k b.length with hlt|hge
    ·have hd:decide ((k:Int)<(b.length:Int))=true:=by simp;omega
     have hw:IntKind.i64.wrap ((k:Int)+1)=((k+1:Nat):Int):=by rw[w64 (by omega)];omega
     obtain⟨x,hx⟩: ∃x,b[k]?=some x:=⟨_,z'b hlt⟩
     have hrow:(eRs b)[k]?=some [iD x.1,iD x.2]:=by rw[x'5,hx];rfl
     by_cases he:x.1>e1
     ·have he':decide (x.1>e1)=true:=by simpa using he
      have hf:=ZjZ (e1,e2) b k x hx he hno
      have cAt:=ZkR b hb k hk e1 e2
      rw[hf]
      repeat' first|refine vs T rfl fun K hK=>?_;(try simp (disch:=omega) only[go_sem,Nat.reduceBEq,Nat.reduceAdd,Nat.reduceLeDiff,hd,hrow,he',z't]);(first|refine hK _ _ ?_;clear hK K|intro bq hbq;(try simp only[HB]at hbq);refine hK _ _ ?_;clear hK K|refine⟨?_,hK _ _ ?_⟩<;>clear hK K;focus(try omega)|refine Op1.callp rfl rfl (cAt) rfl ?_;refine hK _ _ ?_;clear hK K)|refine st rfl ?_|refine sc rfl ?_|refine nl ?_|exact z'j T (z'a _) ⟨rfl,rfl⟩
     ·have he':decide (x.1>e1)=false:=by simpa using he
      repeat' first|refine vs T rfl fun K hK=>?_;(try simp (disch:=omega) only[go_sem,Nat.reduceBEq,Nat.reduceAdd,Nat.reduceLeDiff,hd,hw,hrow,he',z't]);(first|refine hK _ _ ?_;clear hK K|intro bq hbq;(try simp only[HB]at hbq);refine hK _ _ ?_;clear hK K|refine⟨?_,hK _ _ ?_⟩<;>clear hK K;focus(try omega))|refine st rfl ?_|refine sc rfl ?_|refine nl ?_
      refine⟨⟨k+1,by omega,fun i y hi hy=>?_⟩,y'S rfl ?_,by simp only[];omega⟩
      ·rcases z'g i k with h'|h'
       ·exact hno i y h' hy
       ·obtain rfl:i=k:=by omega
        rw[hx]at hy;cases hy;exact he
      ·simp[sub,upd]
    ·have hd:decide ((k:Int)<(b.length:Int))=false:=by simp;omega
     have hf:=Zh9 (e1,e2) b fun i y hy=>hno i y (by have:=(z'c.1 hy).1;omega) hy
     rw[hf]
     repeat' first|refine vs T rfl fun K hK=>?_;(try simp (disch:=omega) only[go_sem,Nat.reduceBEq,Nat.reduceAdd,Nat.reduceLeDiff,hd,z't]);(first|refine hK _ _ ?_;clear hK K|refine Op1.callp rfl rfl (cEnd) rfl ?_;refine hK _ _ ?_;clear hK K)|refine st rfl ?_|refine sc rfl ?_|refine nl ?_|exact z'j T (z'a _) ⟨rfl,rfl⟩
  ·have e3:(m == 3)=false:=by simpa using h3
   have hp:x'2 m (e1,e2) b=b:=by simp[x'2,h2,h3]
   rw[hp]
   repeat' first|refine vs T rfl fun K hK=>?_;(try simp (disch:=omega) only[go_sem,Nat.reduceBEq,Nat.reduceAdd,e2',e3]);(first|refine hK _ _ ?_;clear hK K|intro bq hbq;(try simp only[HB]at hbq);refine hK _ _ ?_;clear hK K|refine Op1.callp rfl rfl (ZhV b hb) rfl ?_;refine hK _ _ ?_;clear hK K)|refine st rfl ?_|refine sc rfl ?_|refine nl ?_|exact z'j T (z'a _) ⟨rfl,rfl⟩
end Go.Proofs.YtomcmfbpmkklmaaGreat
