/- Buffers, in plain Lean: what is pushed, popped, and what stands next. No condition. -/
import Derived.Test.YtfneeacgkdhldaaGreatWa
import Derived.Test.YtfneeacgkdhldaaGreatK2
import Derived.Laws.StructEq
namespace Go.Proofs.YtfneeacgkdhldaaGreat
set_option linter.unusedSimpArgs false
set_option linter.unusedVariables false
open Go Go.Proofs Go.Vc
attribute [local irreducible] y'5 VCg VCw VCx
abbrev En:=Int×Int
def eR (x:En):List D:=[iD x.1,iD x.2]
def eRs (b:List En):List (List D):=b.map eR
abbrev buf (b:List En):D:= .sl false 2 (eRs b)
def iRs (l:List Int):List (List D):=l.map fun n=>[iD n]
abbrev z'C (l:List Int):D:= .sl false 1 (iRs l)
def w'T (loc:Int):List En→Option Nat
 |[]=>none
 |x::r=>match decide (x.1=loc)with|true=>some 0|false=>(w'T loc r).map (· +1)
def x'W (loc:Int) (b:List En):Nat:=b.countP fun x=>decide (x.1=loc)
def w'h (e:En):List En→List En
 |[]=>[e]
 |x::r=>match decide (x.1>e.1)with|true=>e::x::r|false=>x::w'h e r
def w'c (m:Int) (e:En) (b:List En):List En:=if m=2 then b++[e]else if m=3 then w'h e b else b
def w'9 (loc:Int):List En→Option Int
 |[]=>none
 |x::r=>match w'9 loc r with
  |some n=>some n
  |none=>match decide (x.1=loc)with|true=>some x.2|false=>none
def Zej (m:Int) (b:List En) (i:Nat):Bool:=(decide (m=2)&&decide (i=0))||(decide (m=3)&&decide (w'T ((b[i]?).getD (0,0)).1 b=some i))
def ZkW (m:Int) (b:List En) (k:Nat):List Int:=((List.range k).filter (Zej m b)).map fun i=>((b[i]?).getD (0,0)).1
def Zax (m:Int) (b:List En):List Int:=ZkW m b b.length
def z'U (m loc:Int) (b:List En):Option Nat:=if m=3 then w'T loc b else if m=2∧b≠[]∧(loc<0∨(b.head?.map (·.1))=some loc)then some 0 else none
theorem w'6 (b:List En): ∀r,r∈eRs b→r.length=2:=by
 intro r h
 obtain⟨x,_,rfl⟩:=z'y.1 h
 rfl
theorem z'A (b:List En):(eRs b).length=b.length:=z's ..
theorem w'o (b:List En) (i:Nat):(eRs b)[i]?=(b[i]?).map eR:=y'c ..
theorem w'x (b:List En):(eRs b).flatten.length=b.length*2:=by
 induction b with
 |nil=>rfl
 |cons x b ih=>simp only[eRs,z'B,z'0,z'o,z'H]at ih⊢;rw[ih];simp[eR];omega
def Srt:List En→Prop
 |[]=>True
 |x::r=>(∀y,y∈r→x.1≤y.1)∧Srt r
def que (loc:Int) (b:List En):List En:=b.filter fun x=>decide (x.1=loc)
theorem Zdy (e:En): ∀(b:List En) (y:En),y∈w'h e b↔y=e∨y∈b
 |[],y=>by simp[w'h]
 |x::r,y=>by
  unfold w'h
  split
  ·simp
  ·simp only[z'P,Zdy e r y]
   constructor
   ·rintro(h|h|h)
    ·exact .inr (.inl h)
    ·exact .inl h
    ·exact .inr (.inr h)
   ·rintro(h|h|h)
    ·exact .inr (.inl h)
    ·exact .inl h
    ·exact .inr (.inr h)
theorem Zcm (e:En): ∀b:List En,(w'h e b).length=b.length+1
 |[]=>rfl
 |x::r=>by
  unfold w'h
  split
  ·simp
  ·simp[Zcm e r]
theorem Zfb (e:En): ∀b:List En,Srt b→Srt (w'h e b)
 |[],_=>⟨fun y h=>(by cases h),trivial⟩
 |x::r,⟨h1,h2⟩=>by
  unfold w'h
  split
  ·rename_i hx
   have hx':x.1>e.1:=of_decide_eq_true hx
   refine⟨fun y hy=>?_,h1,h2⟩
   rcases z'P.1 hy with rfl|hy
   ·omega
   ·have:=h1 y hy;omega
  ·rename_i hx
   have hx': ¬x.1>e.1:=of_decide_eq_false hx
   refine⟨fun y hy=>?_,Zfb e r h2⟩
   rcases(Zdy e r y).1 hy with rfl|hy
   ·omega
   ·exact h1 y hy
theorem Zfa (e:En) (loc:Int): ∀b:List En,Srt b→que loc (w'h e b)=que loc b++que loc [e]
 |[],_=>by simp[w'h,que]
 |x::r,⟨h1,h2⟩=>by
  unfold w'h
  split
  ·rename_i hx
   have hx':x.1>e.1:=of_decide_eq_true hx
   have hno:e.1=loc→que loc (x::r)=[]:=fun he=>by
    rw[que,x'B]
    intro y hy
    have:x.1≤y.1:=by
     rcases z'P.1 hy with rfl|hy
     ·exact Int.le_refl _
     ·exact h1 y hy
    simp;omega
   by_cases he:e.1=loc
   ·rw[hno he,z'T]
    show que loc (e::x::r)=_
    have:que loc (e::x::r)=que loc [e]++que loc (x::r):=by rw[que,que,que, ←y'D];rfl
    rw[this,hno he,z'x]
   ·have e1:que loc [e]=[]:=by simp[que,he]
    have e2:que loc (e::x::r)=que loc (x::r):=by simp[que,he]
    rw[e1,e2,z'x]
  ·have:que loc (x::w'h e r)=que loc [x]++que loc (w'h e r):=by rw[que,que,que, ←y'D];rfl
   rw[this,Zfa e loc r h2, ←y'u]
   congr 1
   rw[que,que,que, ←y'D];rfl
def SameQ (a b:List En):Prop:= ∀loc,que loc a=que loc b
theorem SameQ.nil {b:List En} (h:SameQ [] b):b=[]:=by
 cases b with
 |nil=>rfl
 |cons x r=>
  have:=h x.1
  simp[que]at this
theorem v'L (loc:Int) (a b:List En):que loc (a++b)=que loc a++que loc b:=y'D ..
theorem ZgD {loc:Int}: ∀{b:List En},w'T loc b=none→que loc b=[]
 |[],_=>rfl
 |x::r,h=>by
  unfold w'T at h
  split at h
  ·cases h
  ·rename_i hx
   have:=ZgD (Option.map_eq_none_iff.1 h)
   rw[que,w'R,hx]
   simpa[que]using this
theorem ZbV {loc:Int}: ∀{b:List En} {i:Nat},w'T loc b=some i→ ∃x p q,b=p++x::q∧p.length=i∧x.1=loc∧que loc p=[]
 |[],i,h=>by simp[w'T]at h
 |x::r,i,h=>by
  unfold w'T at h
  split at h
  ·rename_i hx
   obtain rfl:=y'k h
   exact⟨x,[],r,rfl,rfl,of_decide_eq_true hx,rfl⟩
  ·rename_i hx
   obtain⟨j,hj,rfl⟩:=Option.map_eq_some_iff.1 h
   obtain⟨y,p,q,rfl,h1,h2,h3⟩:=ZbV hj
   exact⟨y,x::p,q,rfl,by simp[h1],h2,by rw[que,w'R,hx];simpa[que]using h3⟩
theorem Zgc {loc:Int} {b:List En} {i:Nat} (h:w'T loc b=some i):i<b.length:=by
 obtain⟨x,p,q,rfl,rfl,_⟩:=ZbV h
 simp
theorem SameQ.cut {a b:List En} {loc:Int} {i j:Nat} (h:SameQ a b) (hi:w'T loc a=some i) (hj:w'T loc b=some j):a[i]?=b[j]?∧SameQ (a.take i++a.drop (i+1)) (b.take j++b.drop (j+1)):=by
 obtain⟨x,p,q,rfl,rfl,h1,h2⟩:=ZbV hi
 obtain⟨y,p',q',rfl,rfl,h3,h4⟩:=ZbV hj
 have hx:que loc (x::q)=x::que loc q:=by rw[que,w'R];simp[h1,que]
 have hy:que loc (y::q')=y::que loc q':=by rw[que,w'R];simp[h3,que]
 have hq:=h loc
 rw[v'L,v'L,h2,h4,hx,hy,z'T,z'T,Zae]at hq
 obtain⟨rfl,hq⟩:=hq
 refine⟨by simp,fun l=>?_⟩
 have e1:(p++x::q).take p.length++(p++x::q).drop (p.length+1)=p++q:=by simp[List.drop_append]
 have e2:(p'++x::q').take p'.length++(p'++x::q').drop (p'.length+1)=p'++q':=by simp[List.drop_append]
 rw[e1,e2,v'L,v'L]
 by_cases hl:l=loc
 ·subst hl;rw[h2,h4,hq]
 ·have hh:=h l
  have hxl: ∀q:List En,que l (x::q)=que l q:=fun q=>by rw[que,w'R];simp[h1,Ne.symm hl,que]
  rwa [v'L,v'L,hxl,hxl]at hh
theorem z'v {env:Nat→D} {env':List (Nat×D)} {H H':Heap} (hh:H=H') (h:Vc.sub env env'):Weak ⟨env,H⟩ ⟨z'J env',H'⟩:=hh▸Weak.sub h
theorem w'd {env:Nat→D} {env':List (Nat×D)} {x:Nat×HC} {H H':Heap} (hh:H=H') (h:Vc.sub env env'):Weak ⟨env,x::H⟩ ⟨z'J env',H'⟩:=Weak.subH (hh▸z'5 _ _) h
theorem v'H {P:Program} {n:Nat} {c:Code} {s:St} {Q:Exit→St→Prop} {t m:Nat} {g:Option (Nat×Nat)} (ht:s.env t= .gs g m) (h:gOk g m→VC P n c s Q):VC P n c s Q:=fun x a w hn hs=>
 h (by have:=hs.env t;rw[ht,Rel]at this;exact this.2) x a w hn hs
theorem ZjP (a b a' b':Int):EqS Tryz.prog 114 [.int .i64 a,.int .i64 b] [.int .i64 a',.int .i64 b'] (a == a'&&b == b'):=by
 refine⟨by kernel_rfl,fun w=>?_⟩
 have u3:=Tryz.underlying3
 have a3:=Tryz.isAgg3
 have z3:=Tryz.sizeOf3
 have hS:Tryz.prog.underlying 114=some (.struct (Tryz.prog.fieldsOf 114)):=by kernel_rfl
 have hp:Tryz.prog.stoodInHeld 114=false:=by kernel_rfl
 rw[show(10000:Nat)=9999+1 from rfl,run_equalIn_agg w 9999 114 _ _ hS hp]
 simp only[Program.fieldsOf,Tryz.underlying114]
 go_simp
 by_cases h1:a=a'<;>by_cases h2:b=b'<;>simp[h1,h2]
theorem ZiY {loc:Int}: ∀{b:List En} {k:Nat} {x:En},b[k]?=some x→x.1=loc→(∀i y,i<k→b[i]?=some y→y.1≠loc)→w'T loc b=some k
 |x0::r,0,x,h,hx,_=>by
  obtain rfl:x0=x:=by simpa using h
  simp[w'T,hx]
 |x0::r,k+1,x,h,hx,hno=>by
  have h0:x0.1≠loc:=hno 0 x0 (by omega) rfl
  have:=ZiY (b:=r) (k:=k) (by simpa using h) hx fun i y hi hy=>hno (i+1) y (by omega) (by simpa using hy)
  simp[w'T,h0,this]
theorem ZiZ {loc:Int}: ∀{b:List En},(∀(i:Nat) (y:En),b[i]?=some y→y.1≠loc)→w'T loc b=none
 |[],_=>rfl
 |x0::r,hno=>by
  have h0:x0.1≠loc:=hno 0 x0 rfl
  have:=ZiZ (b:=r) fun i y hy=>hno (i+1) y (by simpa using hy)
  simp[w'T,h0,this]
def x'n:Option Nat→Int
 |some k=>k
 |none=> -1
theorem Zl8 (b:List En) (hb:b.length≤1000000) (loc:Int):Pure Tryz.prog 186 [buf b,iD loc] (iD (x'n (w'T loc b))):=by
 refine Fun.of T [.tmp 4] Tryz.func186 rfl Tryz.ntmps186 Tryz.results186 rfl (by kernel_rfl) ?_
 repeat' first|refine vs T rfl fun K hK=>?_;(try simp (disch:=omega) only[go_sem,Nat.reduceBEq]);(refine hK _ _ ?_;clear hK K)|refine st rfl ?_|refine nl ?_
 refine VC.loop {k:Nat//k≤b.length∧ ∀i y,i<k→b[i]?=some y→y.1≠loc} (fun p=>⟨z'J [(1,iD loc),(7,buf b),(8,iD (b.length:Nat)),(9,iD (p.1:Nat))],[]⟩) (fun p=>b.length-p.1) ⟨0,by omega,fun i y hi=>by omega⟩ ?_ ?_
 ·refine Weak.sub ?_
  simp[sub,upd,eRs]
 ·rintro⟨k,hk,hno⟩
  dsimp only
  rcases z'g k b.length with hlt|hge
  ·have hd:decide ((k:Int)<(b.length:Int))=true:=by simp;omega
   have hw:IntKind.i64.wrap ((k:Int)+1)=((k+1:Nat):Int):=by rw[w64 (by omega)];omega
   obtain⟨x,hx⟩: ∃x,b[k]?=some x:=⟨_,z'b hlt⟩
   have hrow:(eRs b)[k]?=some [iD x.1,iD x.2]:=by rw[w'o,hx];rfl
   by_cases he:x.1=loc
   ·have he':(x.1 == loc)=true:=by simpa using he
    have hf:=ZiY hx he hno
    repeat' first|refine vs T rfl fun K hK=>?_;(try simp (disch:=omega) only[go_sem,Nat.reduceBEq,Nat.reduceAdd,Nat.reduceLeDiff,hd,hrow,he',z'A]);(first|refine hK _ _ ?_;clear hK K|intro bq hbq;(try simp only[HB]at hbq);refine hK _ _ ?_;clear hK K|refine⟨?_,hK _ _ ?_⟩<;>clear hK K;focus(try omega))|refine st rfl ?_|refine sc rfl ?_|refine nl ?_|refine z'n T (z'a _) ?_;(try simp only[upd,Nat.reduceBEq,cond_true,cond_false,and_true,hf,x'n])
   ·have he':(x.1 == loc)=false:=by simpa using he
    repeat' first|refine vs T rfl fun K hK=>?_;(try simp (disch:=omega) only[go_sem,Nat.reduceBEq,Nat.reduceAdd,Nat.reduceLeDiff,hd,hw,hrow,he',z'A]);(first|refine hK _ _ ?_;clear hK K|intro bq hbq;(try simp only[HB]at hbq);refine hK _ _ ?_;clear hK K|refine⟨?_,hK _ _ ?_⟩<;>clear hK K;focus(try omega))|refine st rfl ?_|refine sc rfl ?_|refine nl ?_
    refine⟨⟨k+1,by omega,fun i y hi hy=>?_⟩,w'd rfl ?_,by simp only[];omega⟩
    ·rcases z'g i k with h'|h'
     ·exact hno i y h' hy
     ·obtain rfl:i=k:=by omega
      rw[hx]at hy;cases hy;exact he
    ·simp[sub,upd]
  ·have hd:decide ((k:Int)<(b.length:Int))=false:=by simp;omega
   have hf:w'T loc b=none:=ZiZ fun i y hy=>hno i y (by have:=(z'c.1 hy).1;omega) hy
   repeat' first|refine vs T rfl fun K hK=>?_;(try simp (disch:=omega) only[go_sem,Nat.reduceBEq,hd]);(refine hK _ _ ?_;clear hK K)|refine st rfl ?_|refine sc rfl ?_|refine nl ?_|refine z'n T (z'a _) ?_;(try simp only[upd,Nat.reduceBEq,cond_true,cond_false,and_true,hf,x'n])
theorem Zl3 (b:List En) (hb:b.length≤1000000) (loc:Int):Pure Tryz.prog 172 [buf b,iD loc] (iD (x'W loc b:Nat)):=by
 refine Fun.of T [.tmp 4] Tryz.func172 rfl Tryz.ntmps172 Tryz.results172 rfl (by kernel_rfl) ?_
 repeat' first|refine vs T rfl fun K hK=>?_;(try simp (disch:=omega) only[go_sem,Nat.reduceBEq]);(refine hK _ _ ?_;clear hK K)|refine st rfl ?_|refine nl ?_
 refine VC.loop {k:Nat//k≤b.length} (fun p=>⟨z'J [(1,iD loc),(5,iD (x'W loc (b.take p.1):Nat)),(8,buf b),(9,iD (b.length:Nat)),(10,iD (p.1:Nat))],[]⟩) (fun p=>b.length-p.1) ⟨0,by omega⟩ ?_ ?_
 ·refine Weak.sub ?_
  simp[sub,upd,eRs,x'W]
 ·rintro⟨k,hk⟩
  dsimp only
  have hc:x'W loc (b.take k)≤b.length:=y'z w'w (by rw[z'F];omega)
  rcases z'g k b.length with hlt|hge
  ·have hd:decide ((k:Int)<(b.length:Int))=true:=by simp;omega
   have hw:IntKind.i64.wrap ((k:Int)+1)=((k+1:Nat):Int):=by rw[w64 (by omega)];omega
   have hw2:IntKind.i64.wrap ((x'W loc (b.take k):Nat)+1:Int)=((x'W loc (b.take k)+1:Nat):Int):=by rw[w64 (by omega)];omega
   obtain⟨x,hx⟩: ∃x,b[k]?=some x:=⟨_,z'b hlt⟩
   have hrow:(eRs b)[k]?=some [iD x.1,iD x.2]:=by rw[w'o,hx];rfl
   have ht:b.take (k+1)=b.take k++[x]:=by rw[y'A,hx];rfl
   by_cases he:x.1=loc
   ·have he':(x.1 == loc)=true:=by simpa using he
    have hn:x'W loc (b.take (k+1))=x'W loc (b.take k)+1:=by rw[ht,x'W,w'W];simp[he,x'W]
    repeat' first|refine vs T rfl fun K hK=>?_;(try simp (disch:=omega) only[go_sem,Nat.reduceBEq,Nat.reduceAdd,Nat.reduceLeDiff,hd,hw,hw2,hrow,he',z'A]);(first|refine hK _ _ ?_;clear hK K|intro bq hbq;(try simp only[HB]at hbq);refine hK _ _ ?_;clear hK K|refine⟨?_,hK _ _ ?_⟩<;>clear hK K;focus(try omega))|refine st rfl ?_|refine sc rfl ?_|refine nl ?_
    refine⟨⟨k+1,by omega⟩,w'd rfl ?_,by simp only[];omega⟩
    simp[sub,upd,hn]
   ·have he':(x.1 == loc)=false:=by simpa using he
    have hn:x'W loc (b.take (k+1))=x'W loc (b.take k):=by rw[ht,x'W,w'W];simp[he,x'W]
    repeat' first|refine vs T rfl fun K hK=>?_;(try simp (disch:=omega) only[go_sem,Nat.reduceBEq,Nat.reduceAdd,Nat.reduceLeDiff,hd,hw,hrow,he',z'A]);(first|refine hK _ _ ?_;clear hK K|intro bq hbq;(try simp only[HB]at hbq);refine hK _ _ ?_;clear hK K|refine⟨?_,hK _ _ ?_⟩<;>clear hK K;focus(try omega))|refine st rfl ?_|refine sc rfl ?_|refine nl ?_
    refine⟨⟨k+1,by omega⟩,w'd rfl ?_,by simp only[];omega⟩
    simp[sub,upd,hn]
  ·have hd:decide ((k:Int)<(b.length:Int))=false:=by simp;omega
   have ht:b.take k=b:=y'L hge
   repeat' first|refine vs T rfl fun K hK=>?_;(try simp (disch:=omega) only[go_sem,Nat.reduceBEq,hd,ht]);(refine hK _ _ ?_;clear hK K)|refine st rfl ?_|refine sc rfl ?_|refine nl ?_|exact z'n T (z'a _) ⟨rfl,rfl⟩
def ZaY (m r loc:Int) (b:List En):Bool:=if m=2 then decide ((b.length:Int)<r)else if m=3 then decide (((x'W loc b:Nat):Int)<r)else false
theorem ZoA (b:List En) (hb:b.length≤1000000) (m r loc:Int):Pure Tryz.prog 165 [buf b,iD m,iD r,iD loc] (bD (ZaY m r loc b)):=by
 refine Fun.of T [.tmp 8] Tryz.func165 rfl Tryz.ntmps165 Tryz.results165 rfl (by kernel_rfl) ?_
 by_cases h2:m=2
 ·subst h2
  repeat' first|refine vs T rfl fun K hK=>?_;(try simp (disch:=omega) only[go_sem,Nat.reduceBEq,Nat.reduceAdd,z'A]);(refine hK _ _ ?_;clear hK K)|refine st rfl ?_|refine sc rfl ?_|refine nl ?_|exact z'n T (z'a _) ⟨rfl,rfl⟩
 ·have e2:(m == 2)=false:=by simpa using h2
  by_cases h3:m=3
  ·subst h3
   repeat' first|refine vs T rfl fun K hK=>?_;(try simp (disch:=omega) only[go_sem,Nat.reduceBEq,Nat.reduceAdd]);(first|refine hK _ _ ?_;clear hK K|refine Op1.callp rfl rfl (Zl3 b hb _) rfl ?_;refine hK _ _ ?_;clear hK K)|refine st rfl ?_|refine sc rfl ?_|refine nl ?_|exact z'n T (z'a _) ⟨rfl,rfl⟩
  ·have e3:(m == 3)=false:=by simpa using h3
   repeat' first|refine vs T rfl fun K hK=>?_;(try simp (disch:=omega) only[go_sem,Nat.reduceBEq,Nat.reduceAdd,e2,e3]);(refine hK _ _ ?_;clear hK K)|refine st rfl ?_|refine sc rfl ?_|refine nl ?_|refine z'n T (z'a _) ?_;(try simp only[upd,Nat.reduceBEq,cond_true,cond_false,and_true])
   simp[ZaY,h2,h3]
def zE (n:Nat):List En:=List.replicate n (0,0)
theorem Zb1 (n:Nat):(zE n).length=n:=y'Z
theorem ZlM (n:Nat):ZaF n [.int .i64 0,.int .i64 0]=(eRs (zE n)).flatten:=by
 unfold ZaF eRs zE
 rw[v'z]
 rfl
theorem w'b (a b:List En):eRs (a++b)=eRs a++eRs b:=z'E ..
theorem ZmX (l:List D) (o:Nat):setL l o []=l:=by rw[setL]
theorem Zik: ∀(p c q r:List D),q.length=c.length→setL (p++q++r) p.length c=p++c++r
 |p,[],q,r,h=>by
  have:q=[]:=z'2 h
  subst this
  rw[ZmX]
 |p,x::c,[],r,h=>by simp at h
 |p,x::c,y::q,r,h=>by
  rw[setL]
  have e1:(p++y::q++r).set p.length x=(p++[x])++q++r:=by
   rw[y'u,List.set_append_right _ _ (z'w _),Nat.sub_self,y'i,List.set_cons_zero]
   simp
  rw[e1,show p.length+1=(p++[x]).length by simp,Zik (p++[x]) c q r (by simpa using h)]
  simp
theorem ZdK (b c:List En) (k:Nat) (h:k+c.length≤b.length):setL (eRs b).flatten (k*2) (eRs c).flatten=(eRs (b.take k++c++b.drop (k+c.length))).flatten:=by
 have e:b=b.take k++(b.drop k).take c.length++b.drop (k+c.length):=by
  rw[y'u, ←w't,v'X,v'X]
 have hk:(eRs (b.take k)).flatten.length=k*2:=by rw[w'x,z'F];rw[Nat.min_eq_left (by omega)]
 conv=>lhs;rw[e]
 rw[w'b,w'b,y'J,y'J, ←hk,Zik _ _ _ _ (by rw[w'x,w'x,z'F,x'2];rw[Nat.min_eq_left (by omega)])]
 rw[w'b,w'b,y'J,y'J]
theorem Zh1 (b:List En) (hb:b.length≤1000000):Pure Tryz.prog 176 [buf b] (buf b):=by
 refine Fun.freeze (w'6 b) ?_
 have h1:(eRs b).flatten.take (b.length*2)=(eRs b).flatten:=y'L (by rw[w'x];exact z'w _)
 refine Fun.of T [.tmp 2] Tryz.func176 rfl Tryz.ntmps176 Tryz.results176 rfl (by kernel_rfl) ?_
 repeat' first|refine vs T rfl fun K hK=>?_;(try simp (disch:=omega) only[go_sem,Nat.reduceBEq,z'A,ZlM]);(first|refine hK _ _ ?_;clear hK K|refine⟨?_,fun bq hbq=>?_⟩;rotate_left;(try simp only[HB]at hbq);refine hK _ _ ?_;all_goals clear hK K|refine Zlc T rfl ?_;(simp (disch:=omega) only[go_sem,Nat.reduceBEq,z'A,Nat.min_self,h1]);(refine⟨?_,hK _ _ ?_⟩<;>clear hK K))|refine st rfl ?_|refine nl ?_
 ·rw[w'x,Zb1];exact z'w _
 ·have h2:setL (eRs (zE b.length)).flatten 0 (eRs b).flatten=(eRs b).flatten:=by
   have:=ZdK (zE b.length) b 0 (by rw[Zb1];omega)
   simpa[zE]using this
  rw[h2]
  exact z'n T (z'p _) ⟨some (bq,b.length),114,by rw[z'A];rfl,rfl⟩
 ·omega
theorem ZkD (b:List En) (k:Nat):(eRs b).take k=eRs (b.take k):=by rw[eRs,eRs,List.map_take]
theorem Zhv (b:List En) (k:Nat):(eRs b).drop k=eRs (b.drop k):=by rw[eRs,eRs,List.map_drop]
theorem ZiV (b:List En) (n:Nat) (h:n=b.length):(eRs b).flatten.take (n*2)=(eRs b).flatten:=y'L (by rw[w'x,h];exact z'w _)
def ZbD (k:Nat) (e:En) (b:List En):List En:=b.take k++e::b.drop k
theorem ZmE (k:Nat) (e:En) (b:List En) (hk:k≤b.length):(ZbD k e b).length=b.length+1:=by
 simp[ZbD];omega
theorem Zla (b:List En) (hb:b.length≤1000000) (k:Nat) (hk:k≤b.length) (e1 e2:Int):Pure Tryz.prog 175 [buf b,iD (k:Nat),.agg [iD e1,iD e2]] (buf (ZbD k (e1,e2) b)):=by
 refine Fun.freeze (w'6 _) ?_
 have hw:IntKind.i64.wrap ((b.length:Int)+1)=((b.length+1:Nat):Int):=by rw[w64 (by omega)];omega
 have hw2:IntKind.i64.wrap ((k:Int)+1)=((k+1:Nat):Int):=by rw[w64 (by omega)];omega
 have hl:(b.take k).length=k:=by rw[z'F];omega
 have m1:Nat.min (b.take k).length (b.length+1)=k:=by rw[hl];exact Nat.min_eq_left (by omega)
 have t1:=ZiV (b.take k) k hl.symm
 have hz: ∀n m,(zE n).drop m=zE (n-m):=fun n m=>List.drop_replicate ..
 have h1:setL (eRs (zE (b.length+1))).flatten 0 (eRs (b.take k)).flatten=(eRs (b.take k++zE (b.length+1-k))).flatten:=by
  have:=ZdK (zE (b.length+1)) (b.take k) 0 (by rw[Zb1];omega)
  rw[v'h,y'y,Zas,z'T,hl,hz]at this
  exact this
 have h2:((eRs (b.take k++zE (b.length+1-k))).flatten.set (k*2) (iD e1)).set (k*2+1) (iD e2)=(eRs (b.take k++[(e1,e2)]++zE (b.length-k))).flatten:=by
  have:=ZdK (b.take k++zE (b.length+1-k)) [(e1,e2)] k (by rw[z'o,hl,Zb1];simp;omega)
  have e1':(b.take k++zE (b.length+1-k)).take k=b.take k:=List.take_left' hl
  have e2':(b.take k++zE (b.length+1-k)).drop (k+[((e1,e2):En)].length)=zE (b.length-k):=by
   rw[←w't,Zaf hl,hz];congr 1;simp;omega
  rw[e1',e2']at this
  exact this
 have hl2:(b.drop k).length=b.length-k:=x'2
 have m2:Nat.min (b.drop k).length (b.length+1-(k+1))=b.length-k:=by rw[hl2,show b.length+1-(k+1)=b.length-k by omega];exact Nat.min_self _
 have t2:=ZiV (b.drop k) (b.length-k) hl2.symm
 have hl3:(b.take k++[((e1,e2):En)]).length=k+1:=by rw[z'o,hl];rfl
 have h3:setL (eRs (b.take k++[(e1,e2)]++zE (b.length-k))).flatten ((k+1)*2) (eRs (b.drop k)).flatten=(eRs (ZbD k (e1,e2) b)).flatten:=by
  have:=ZdK (b.take k++[(e1,e2)]++zE (b.length-k)) (b.drop k) (k+1) (by rw[z'o,hl3,Zb1,hl2];omega)
  rw[List.take_left' hl3,hl2, ←w't,Zaf hl3,hz,Nat.sub_self]at this
  rw[this]
  congr 2
  simp[ZbD,zE]
 refine Fun.of T [.tmp 6] Tryz.func175 rfl Tryz.ntmps175 Tryz.results175 rfl (by kernel_rfl) ?_
 repeat' first|refine dr (id:=4) T 7 (by kernel_rfl) ?_|refine gn ?_|apply VCg.step T rfl rfl;focus((try simp (disch:=omega) only[go_sem,Nat.reduceBEq,z'A,hw2,Zhv]);(first|exact rfl|refine⟨?_,rfl⟩;try omega))|refine vs T rfl fun K hK=>?_;(try simp (disch:=omega) only[go_sem,Nat.reduceBEq,Nat.reduceAdd,Nat.reduceLeDiff,z'A,hw,h2,ZlM,ZkD,Zhv]);(first|refine hK _ _ ?_;clear hK K|intro bq hbq;(try simp only[HB]at hbq);refine hK _ _ ?_;clear hK K|refine⟨?_,hK _ _ ?_⟩<;>clear hK K;focus(try omega)|refine⟨?_,fun bq hbq=>?_⟩;rotate_left;(try simp only[HB]at hbq);refine hK _ _ ?_;all_goals clear hK K|refine Zlc T rfl ?_;(simp (disch:=omega) only[go_sem,Nat.reduceBEq,z'A,m1,t1,h1,m2,t2,h3]);(refine⟨?_,hK _ _ ?_⟩<;>clear hK K))|refine st rfl ?_|refine nl ?_
 ·rw[w'x,Zb1];omega
 ·rw[w'x,z'o,hl,Zb1];omega
 ·rw[w'x,z'o,hl3,Zb1];omega
 ·refine z'n T ((z'a _).cons_cons _) ⟨some (bq,b.length+1),114,?_,rfl⟩
  rw[z'A,ZmE k _ b hk]
  rfl
 ·omega
theorem Zi3 (e:En): ∀(b:List En) (k:Nat) (x:En),b[k]?=some x→x.1>e.1→(∀(i:Nat) (y:En),i<k→b[i]?=some y→ ¬y.1>e.1)→w'h e b=ZbD k e b
 |x0::r,0,x,h,hx,_=>by
  obtain rfl:x0=x:=by simpa using h
  simp[w'h,ZbD,hx]
 |x0::r,k+1,x,h,hx,hno=>by
  have h0: ¬x0.1>e.1:=hno 0 x0 (by omega) rfl
  have:=Zi3 e r k x (by simpa using h) hx fun i y hi hy=>hno (i+1) y (by omega) (by simpa using hy)
  unfold w'h
  simp only[h0,decide_false,this,ZbD]
  simp
theorem ZhK (e:En): ∀(b:List En),(∀(i:Nat) (y:En),b[i]?=some y→ ¬y.1>e.1)→w'h e b=ZbD b.length e b
 |[],_=>rfl
 |x0::r,hno=>by
  have h0: ¬x0.1>e.1:=hno 0 x0 rfl
  have:=ZhK e r fun i y hy=>hno (i+1) y (by simpa using hy)
  unfold w'h
  simp only[h0,decide_false,this,ZbD]
  simp
theorem Zoh (e:En) (b:List En):ZbD b.length e b=b++[e]:=by simp[ZbD]
theorem Zog (b:List En) (hb:b.length≤1000000) (m e1 e2:Int):Pure Tryz.prog 170 [buf b,iD m,.agg [iD e1,iD e2]] (buf (w'c m (e1,e2) b)):=by
 have cEnd:=Zla b hb b.length (z'w _) e1 e2
 refine Fun.of T [.tmp 6] Tryz.func170 rfl Tryz.ntmps170 Tryz.results170 rfl (by kernel_rfl) ?_
 by_cases h2:m=2
 ·subst h2
  have hp:w'c 2 (e1,e2) b=ZbD b.length (e1,e2) b:=by rw[Zoh];rfl
  rw[hp]
  repeat' first|refine vs T rfl fun K hK=>?_;(try simp (disch:=omega) only[go_sem,Nat.reduceBEq,Nat.reduceAdd,Nat.reduceLeDiff,z'A,beq_self_eq_true]);(first|refine hK _ _ ?_;clear hK K|intro bq hbq;(try simp only[HB]at hbq);refine hK _ _ ?_;clear hK K|refine Op1.callp rfl rfl (cEnd) rfl ?_;refine hK _ _ ?_;clear hK K)|refine st rfl ?_|refine sc rfl ?_|refine nl ?_|exact z'n T (z'a _) ⟨rfl,rfl⟩
 ·have e2':(m == 2)=false:=by simpa using h2
  by_cases h3:m=3
  ·subst h3
   have hp:w'c 3 (e1,e2) b=w'h (e1,e2) b:=rfl
   rw[hp]
   repeat' first|refine vs T rfl fun K hK=>?_;(try simp (disch:=omega) only[go_sem,Nat.reduceBEq,Nat.reduceAdd,z'A,e2',beq_self_eq_true]);(first|refine hK _ _ ?_;clear hK K|intro bq hbq;(try simp only[HB]at hbq);refine hK _ _ ?_;clear hK K)|refine st rfl ?_|refine sc rfl ?_|refine nl ?_
   refine VC.loop {k:Nat//k≤b.length∧ ∀(i:Nat) (y:En),i<k→b[i]?=some y→ ¬y.1>e1} (fun p=>⟨z'J [(0,buf b),(5,.is (.pointer (some ⟨bq,0,none⟩))),(19,buf b),(20,iD (b.length:Nat)),(21,iD (p.1:Nat))],[(bq,.cells 114 2 [iD e1,iD e2])]⟩) (fun p=>b.length-p.1) ⟨0,by omega,fun i y hi=>by omega⟩ ?_ ?_
   ·refine Weak.sub ?_
    simp[sub,upd]
   ·rintro⟨k,hk,hno⟩
    dsimp only
    rcases z'g k b.length with hlt|hge
    ·have hd:decide ((k:Int)<(b.length:Int))=true:=by simp;omega
     have hw:IntKind.i64.wrap ((k:Int)+1)=((k+1:Nat):Int):=by rw[w64 (by omega)];omega
     obtain⟨x,hx⟩: ∃x,b[k]?=some x:=⟨_,z'b hlt⟩
     have hrow:(eRs b)[k]?=some [iD x.1,iD x.2]:=by rw[w'o,hx];rfl
     by_cases he:x.1>e1
     ·have he':decide (x.1>e1)=true:=by simpa using he
      have hf:=Zi3 (e1,e2) b k x hx he hno
      have cAt:=Zla b hb k hk e1 e2
      rw[hf]
      repeat' first|refine vs T rfl fun K hK=>?_;(try simp (disch:=omega) only[go_sem,Nat.reduceBEq,Nat.reduceAdd,Nat.reduceLeDiff,hd,hrow,he',z'A]);(first|refine hK _ _ ?_;clear hK K|intro bq hbq;(try simp only[HB]at hbq);refine hK _ _ ?_;clear hK K|refine⟨?_,hK _ _ ?_⟩<;>clear hK K;focus(try omega)|refine Op1.callp rfl rfl (cAt) rfl ?_;refine hK _ _ ?_;clear hK K)|refine st rfl ?_|refine sc rfl ?_|refine nl ?_|exact z'n T (z'a _) ⟨rfl,rfl⟩
     ·have he':decide (x.1>e1)=false:=by simpa using he
      repeat' first|refine vs T rfl fun K hK=>?_;(try simp (disch:=omega) only[go_sem,Nat.reduceBEq,Nat.reduceAdd,Nat.reduceLeDiff,hd,hw,hrow,he',z'A]);(first|refine hK _ _ ?_;clear hK K|intro bq hbq;(try simp only[HB]at hbq);refine hK _ _ ?_;clear hK K|refine⟨?_,hK _ _ ?_⟩<;>clear hK K;focus(try omega))|refine st rfl ?_|refine sc rfl ?_|refine nl ?_
      refine⟨⟨k+1,by omega,fun i y hi hy=>?_⟩,w'd rfl ?_,by simp only[];omega⟩
      ·rcases z'g i k with h'|h'
       ·exact hno i y h' hy
       ·obtain rfl:i=k:=by omega
        rw[hx]at hy;cases hy;exact he
      ·simp[sub,upd]
    ·have hd:decide ((k:Int)<(b.length:Int))=false:=by simp;omega
     have hf:=ZhK (e1,e2) b fun i y hy=>hno i y (by have:=(z'c.1 hy).1;omega) hy
     rw[hf]
     repeat' first|refine vs T rfl fun K hK=>?_;(try simp (disch:=omega) only[go_sem,Nat.reduceBEq,Nat.reduceAdd,Nat.reduceLeDiff,hd,z'A]);(first|refine hK _ _ ?_;clear hK K|refine Op1.callp rfl rfl (cEnd) rfl ?_;refine hK _ _ ?_;clear hK K)|refine st rfl ?_|refine sc rfl ?_|refine nl ?_|exact z'n T (z'a _) ⟨rfl,rfl⟩
  ·have e3:(m == 3)=false:=by simpa using h3
   have hp:w'c m (e1,e2) b=b:=by simp[w'c,h2,h3]
   rw[hp]
   repeat' first|refine vs T rfl fun K hK=>?_;(try simp (disch:=omega) only[go_sem,Nat.reduceBEq,Nat.reduceAdd,e2',e3]);(first|refine hK _ _ ?_;clear hK K|intro bq hbq;(try simp only[HB]at hbq);refine hK _ _ ?_;clear hK K|refine Op1.callp rfl rfl (Zh1 b hb) rfl ?_;refine hK _ _ ?_;clear hK K)|refine st rfl ?_|refine sc rfl ?_|refine nl ?_|exact z'n T (z'a _) ⟨rfl,rfl⟩
end Go.Proofs.YtfneeacgkdhldaaGreat
