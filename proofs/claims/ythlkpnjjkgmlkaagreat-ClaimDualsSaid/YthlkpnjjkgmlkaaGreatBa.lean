/- Buffers, in plain Lean: what is pushed, popped, and what stands next. No condition. -/
import Derived.Test.YthlkpnjjkgmlkaaGreatWa
import Derived.Test.YthlkpnjjkgmlkaaGreatK2
import Derived.Laws.StructEq
namespace Go.Proofs.YthlkpnjjkgmlkaaGreat
set_option linter.unusedSimpArgs false
set_option linter.unusedVariables false
open Go Go.Proofs Go.Vc
attribute [local irreducible] x'v VCg VCw VCx
abbrev En:=Int×Int
def eR (x:En):List D:=[iD x.1,iD x.2]
def eRs (b:List En):List (List D):=b.map eR
abbrev buf (b:List En):D:= .sl false 2 (eRs b)
def iRs (l:List Int):List (List D):=l.map fun n=>[iD n]
abbrev y'r (l:List Int):D:= .sl false 1 (iRs l)
def Zad (loc:Int):List En→Option Nat
 |[]=>none
 |x::r=>match decide (x.1=loc)with|true=>some 0|false=>(Zad loc r).map (· +1)
def w'Q (loc:Int) (b:List En):Nat:=b.countP fun x=>decide (x.1=loc)
def w'O (e:En):List En→List En
 |[]=>[e]
 |x::r=>match decide (x.1>e.1)with|true=>e::x::r|false=>x::w'O e r
def v'a (m:Int) (e:En) (b:List En):List En:=if m=2 then b++[e]else if m=3 then w'O e b else b
def v'9 (loc:Int):List En→Option Int
 |[]=>none
 |x::r=>match v'9 loc r with
  |some n=>some n
  |none=>match decide (x.1=loc)with|true=>some x.2|false=>none
def Zgn (m:Int) (b:List En) (i:Nat):Bool:=(decide (m=2)&&decide (i=0))||(decide (m=3)&&decide (Zad ((b[i]?).getD (0,0)).1 b=some i))
def Zpo (m:Int) (b:List En) (k:Nat):List Int:=((List.range k).filter (Zgn m b)).map fun i=>((b[i]?).getD (0,0)).1
def ZaW (m:Int) (b:List En):List Int:=Zpo m b b.length
def z'2 (m loc:Int) (b:List En):Option Nat:=if m=3 then Zad loc b else if m=2∧b≠[]∧(loc<0∨(b.head?.map (·.1))=some loc)then some 0 else none
theorem ZaJ (b:List En): ∀r,r∈eRs b→r.length=2:=by
 intro r h
 obtain⟨x,_,rfl⟩:=z'D.1 h
 rfl
theorem z'R (b:List En):(eRs b).length=b.length:=z'm ..
theorem v'Q (b:List En) (i:Nat):(eRs b)[i]?=(b[i]?).map eR:=y'c ..
theorem Zck (b:List En):(eRs b).flatten.length=b.length*2:=by
 induction b with
 |nil=>rfl
 |cons x b ih=>simp only[eRs,z's,y'f,z'j,z'r]at ih⊢;rw[ih];simp[eR];omega
def Srt:List En→Prop
 |[]=>True
 |x::r=>(∀y,y∈r→x.1≤y.1)∧Srt r
def que (loc:Int) (b:List En):List En:=b.filter fun x=>decide (x.1=loc)
theorem Zft (e:En): ∀(b:List En) (y:En),y∈w'O e b↔y=e∨y∈b
 |[],y=>by simp[w'O]
 |x::r,y=>by
  unfold w'O
  split
  ·simp
  ·simp only[z'F,Zft e r y]
   constructor
   ·rintro(h|h|h)
    ·exact .inr (.inl h)
    ·exact .inl h
    ·exact .inr (.inr h)
   ·rintro(h|h|h)
    ·exact .inr (.inl h)
    ·exact .inl h
    ·exact .inr (.inr h)
theorem ZdE (e:En): ∀b:List En,(w'O e b).length=b.length+1
 |[]=>rfl
 |x::r=>by
  unfold w'O
  split
  ·simp
  ·simp[ZdE e r]
theorem ZhG (e:En): ∀b:List En,Srt b→Srt (w'O e b)
 |[],_=>⟨fun y h=>(by cases h),trivial⟩
 |x::r,⟨h1,h2⟩=>by
  unfold w'O
  split
  ·rename_i hx
   have hx':x.1>e.1:=of_decide_eq_true hx
   refine⟨fun y hy=>?_,h1,h2⟩
   rcases z'F.1 hy with rfl|hy
   ·omega
   ·have:=h1 y hy;omega
  ·rename_i hx
   have hx': ¬x.1>e.1:=of_decide_eq_false hx
   refine⟨fun y hy=>?_,ZhG e r h2⟩
   rcases(Zft e r y).1 hy with rfl|hy
   ·omega
   ·exact h1 y hy
theorem ZhF (e:En) (loc:Int): ∀b:List En,Srt b→que loc (w'O e b)=que loc b++que loc [e]
 |[],_=>by simp[w'O,que]
 |x::r,⟨h1,h2⟩=>by
  unfold w'O
  split
  ·rename_i hx
   have hx':x.1>e.1:=of_decide_eq_true hx
   have hno:e.1=loc→que loc (x::r)=[]:=fun he=>by
    rw[que,List.filter_eq_nil_iff]
    intro y hy
    have:x.1≤y.1:=by
     rcases z'F.1 hy with rfl|hy
     ·exact Int.le_refl _
     ·exact h1 y hy
    simp;omega
   by_cases he:e.1=loc
   ·rw[hno he,y'i]
    show que loc (e::x::r)=_
    have:que loc (e::x::r)=que loc [e]++que loc (x::r):=by rw[que,que,que, ←z'6];rfl
    rw[this,hno he,z'I]
   ·have e1:que loc [e]=[]:=by simp[que,he]
    have e2:que loc (e::x::r)=que loc (x::r):=by simp[que,he]
    rw[e1,e2,z'I]
  ·have:que loc (x::w'O e r)=que loc [x]++que loc (w'O e r):=by rw[que,que,que, ←z'6];rfl
   rw[this,ZhF e loc r h2, ←y'j]
   congr 1
   rw[que,que,que, ←z'6];rfl
def SameQ (a b:List En):Prop:= ∀loc,que loc a=que loc b
theorem SameQ.nil {b:List En} (h:SameQ [] b):b=[]:=by
 cases b with
 |nil=>rfl
 |cons x r=>
  have:=h x.1
  simp[que]at this
theorem v'S (loc:Int) (a b:List En):que loc (a++b)=que loc a++que loc b:=z'6 ..
theorem ZjB {loc:Int}: ∀{b:List En},Zad loc b=none→que loc b=[]
 |[],_=>rfl
 |x::r,h=>by
  unfold Zad at h
  split at h
  ·cases h
  ·rename_i hx
   have:=ZjB (Option.map_eq_none_iff.1 h)
   rw[que,x'1,hx]
   simpa[que]using this
theorem ZcQ {loc:Int}: ∀{b:List En} {i:Nat},Zad loc b=some i→ ∃x p q,b=p++x::q∧p.length=i∧x.1=loc∧que loc p=[]
 |[],i,h=>by simp[Zad]at h
 |x::r,i,h=>by
  unfold Zad at h
  split at h
  ·rename_i hx
   obtain rfl:=z'O h
   exact⟨x,[],r,rfl,rfl,of_decide_eq_true hx,rfl⟩
  ·rename_i hx
   obtain⟨j,hj,rfl⟩:=Option.map_eq_some_iff.1 h
   obtain⟨y,p,q,rfl,h1,h2,h3⟩:=ZcQ hj
   exact⟨y,x::p,q,rfl,by simp[h1],h2,by rw[que,x'1,hx];simpa[que]using h3⟩
theorem ZiQ {loc:Int} {b:List En} {i:Nat} (h:Zad loc b=some i):i<b.length:=by
 obtain⟨x,p,q,rfl,rfl,_⟩:=ZcQ h
 simp
theorem SameQ.cut {a b:List En} {loc:Int} {i j:Nat} (h:SameQ a b) (hi:Zad loc a=some i) (hj:Zad loc b=some j):a[i]?=b[j]?∧SameQ (a.take i++a.drop (i+1)) (b.take j++b.drop (j+1)):=by
 obtain⟨x,p,q,rfl,rfl,h1,h2⟩:=ZcQ hi
 obtain⟨y,p',q',rfl,rfl,h3,h4⟩:=ZcQ hj
 have hx:que loc (x::q)=x::que loc q:=by rw[que,x'1];simp[h1,que]
 have hy:que loc (y::q')=y::que loc q':=by rw[que,x'1];simp[h3,que]
 have hq:=h loc
 rw[v'S,v'S,h2,h4,hx,hy,y'i,y'i,v'L]at hq
 obtain⟨rfl,hq⟩:=hq
 refine⟨by simp,fun l=>?_⟩
 have e1:(p++x::q).take p.length++(p++x::q).drop (p.length+1)=p++q:=by simp[List.drop_append]
 have e2:(p'++x::q').take p'.length++(p'++x::q').drop (p'.length+1)=p'++q':=by simp[List.drop_append]
 rw[e1,e2,v'S,v'S]
 by_cases hl:l=loc
 ·subst hl;rw[h2,h4,hq]
 ·have hh:=h l
  have hxl: ∀q:List En,que l (x::q)=que l q:=fun q=>by rw[que,x'1];simp[h1,Ne.symm hl,que]
  rwa [v'S,v'S,hxl,hxl]at hh
set_option linter.unusedSectionVars false
section
variable {α : Type} [DecidableEq α]
structure Spc (α:Type) where
 cf:List α
 pa:List Int
 ag:List Int
 ed:List (Nat×Int×Nat)
def stepA (ac:α→Int→α) (b i:Nat) (c:α) (S:Spc α) (a:Int):Option (Spc α):=
 match S.cf.idxOf? (ac c a)with
 |some k=>some {S with ed:=S.ed++[(i,a,k)]}
 |none=>match decide (S.cf.length<b)with
  |true=>some ⟨S.cf++[ac c a],S.pa++[(i:Int)],S.ag++[a],S.ed++[(i,a,S.cf.length)]⟩
  |false=>none
def v'N (ac:α→Int→α) (b i:Nat) (c:α):List Int→Spc α→Option (Spc α)
 |[],S=>some S
 |a::l,S=>match stepA ac b i c S a with
  |some S'=>v'N ac b i c l S'
  |none=>none
def w'x (mv:α→List Int) (ac:α→Int→α) (b:Nat):Nat→Nat→Spc α→Option (Spc α)
 |0,_,S=>some S
 |n+1,i,S=>match S.cf[i]? with
  |none=>some S
  |some c=>match v'N ac b i c (mv c) S with
   |some S'=>w'x mv ac b n (i+1) S'
   |none=>none
theorem Zp4 {ac:α→Int→α} {b i:Nat} {c:α} {S S':Spc α} {a:Int} (h:stepA ac b i c S a=some S') (hb:S.cf.length≤b):S'.cf.length≤b∧S.cf.length≤S'.cf.length:=by
 unfold stepA at h
 split at h
 ·cases h;exact⟨hb,z'h _⟩
 ·split at h
  ·rename_i hd
   have:=of_decide_eq_true hd
   cases h
   simp;omega
  ·cases h
theorem Zl4 {ac:α→Int→α} {b i:Nat} {c:α}: ∀{l:List Int} {S S':Spc α},v'N ac b i c l S=some S'→S.cf.length≤b→S'.cf.length≤b∧S.cf.length≤S'.cf.length
 |[],S,S',h,hb=>by cases h;exact⟨hb,z'h _⟩
 |a::l,S,S',h,hb=>by
  unfold v'N at h
  split at h
  ·rename_i S1 h1
   have k1:=Zp4 h1 hb
   have k2:=Zl4 h k1.1
   exact⟨k2.1,by omega⟩
  ·cases h
theorem Zhc {l:List α} {x:α} {k:Nat} (h:l.idxOf? x=some k):l[k]?=some x:=by
 rw[List.idxOf?,List.findIdx?_eq_some_iff_getElem]at h
 obtain⟨hk,h1,_⟩:=h
 rw[z'c hk]
 simpa using h1
theorem Zmy {l:List α} {x:α} (h:l.idxOf? x=none):x∉l:=by
 rw[List.idxOf?,List.findIdx?_eq_none_iff]at h
 intro hm
 have:=h x hm
 simp at this
def ZhE (l:List α) (x:α):Option Nat:=l.idxOf? x
theorem Zpr {l:List α} {x:α} {k:Nat} (h:ZhE l x=some k):l[k]?=some x:=Zhc h
def Ext (S S':Spc α):Prop:= ∃c p q e,S'.cf=S.cf++c∧S'.pa=S.pa++p∧S'.ag=S.ag++q∧S'.ed=S.ed++e
theorem Ext.refl (S:Spc α):Ext S S:=⟨[],[],[],[],by simp⟩
theorem Ext.trans {S S' S'':Spc α} (h:Ext S S') (k:Ext S' S''):Ext S S'':=by
 obtain⟨c,p,q,e,h1,h2,h3,h4⟩:=h
 obtain⟨c',p',q',e',k1,k2,k3,k4⟩:=k
 exact⟨c++c',p++p',q++q',e++e',by rw[k1,h1,y'j],by rw[k2,h2,y'j],by rw[k3,h3,y'j],by rw[k4,h4,y'j]⟩
theorem Ext.len {S S':Spc α} (h:Ext S S'):S.cf.length≤S'.cf.length:=by
 obtain⟨c,p,q,e,h1,_⟩:=h
 rw[h1,z'j];omega
theorem Ext.at {S S':Spc α} (h:Ext S S') {i:Nat} {c:α} (hc:S.cf[i]?=some c):S'.cf[i]?=some c:=by
 obtain⟨d,p,q,e,h1,_⟩:=h
 rw[h1,y'o (z'b.1 hc).1];exact hc
theorem Zgp {ac:α→Int→α} {b i:Nat} {c:α} {S S':Spc α} {a:Int} (h:stepA ac b i c S a=some S'):Ext S S':=by
 unfold stepA at h
 split at h
 ·cases h;exact⟨[],[],[],_,by simp,by simp,by simp,rfl⟩
 ·split at h
  ·cases h;exact⟨[_],[_],[_],[_],rfl,rfl,rfl,rfl⟩
  ·cases h
theorem ZdN {ac:α→Int→α} {b i:Nat} {c:α}: ∀{l:List Int} {S S':Spc α},v'N ac b i c l S=some S'→Ext S S'
 |[],S,S',h=>by cases h;exact Ext.refl _
 |a::l,S,S',h=>by
  unfold v'N at h
  split at h
  ·rename_i S1 h1;exact(Zgp h1).trans (ZdN h)
  ·cases h
theorem ZcX {mv:α→List Int} {ac:α→Int→α} {b:Nat}: ∀{n i:Nat} {S S':Spc α},w'x mv ac b n i S=some S'→Ext S S'
 |0,i,S,S',h=>by cases h;exact Ext.refl _
 |n+1,i,S,S',h=>by
  unfold w'x at h
  split at h
  ·cases h;exact Ext.refl _
  ·split at h
   ·rename_i S1 h1;exact(ZdN h1).trans (ZcX h)
   ·cases h
theorem ZtA {ac:α→Int→α} {b b' i:Nat} {c:α} {S S':Spc α} {a:Int} (h:stepA ac b i c S a=some S') (hb:S'.cf.length≤b'):stepA ac b' i c S a=some S':=by
 unfold stepA at h⊢
 split at h
 ·exact h
 ·split at h
  ·cases h
   simp only[z'j,List.length_singleton]at hb
   rw[decide_eq_true (by omega)]
  ·cases h
theorem ZpS {ac:α→Int→α} {b b' i:Nat} {c:α}: ∀{l:List Int} {S S':Spc α},v'N ac b i c l S=some S'→S'.cf.length≤b'→v'N ac b' i c l S=some S'
 |[],S,S',h,_=>h
 |a::l,S,S',h,hb=>by
  unfold v'N at h⊢
  split at h
  ·rename_i S1 h1
   have:=(ZdN h).len
   rw[ZtA h1 (by omega)]
   exact ZpS h hb
  ·cases h
theorem Znv {mv:α→List Int} {ac:α→Int→α} {b b':Nat}: ∀{n n' i:Nat} {S S':Spc α},w'x mv ac b n i S=some S'→S'.cf.length≤b'→S'.cf.length<i+n→S'.cf.length<i+n'→w'x mv ac b' n' i S=some S'
 |0,n',i,S,S',h,hb,hn,hn'=>by
  cases h
  cases n' with
  |zero=>rfl
  |succ n'=>unfold w'x;rw[z'M (by omega)]
 |n+1,0,i,S,S',h,hb,hn,hn'=>by
  have:=(ZcX h).len
  unfold w'x at h⊢
  rw[z'M (by omega)]at h
  exact h
 |n+1,n'+1,i,S,S',h,hb,hn,hn'=>by
  unfold w'x at h⊢
  split at h
  ·exact h
  ·rename_i c hc
   split at h
   ·rename_i S1 h1
    have:=(ZcX h).len
    rw[show v'N ac b' i c (mv c) S=some S1 from ZpS h1 (by omega)]
    exact Znv h hb (by omega) (by omega)
   ·cases h
theorem ZoA {ac:α→Int→α} {b b' i:Nat} {c:α} {S S' T:Spc α} {a:Int} (h:stepA ac b i c S a=some S') (h':stepA ac b' i c S a=some T):T=S':=by
 unfold stepA at h h'
 split at h
 ·rename_i k hk;rw[hk]at h';simp only at h';cases h;cases h';rfl
 ·rename_i hk
  rw[hk]at h'
  simp only at h'
  split at h<;>split at h'<;>cases h<;>cases h'
  rfl
theorem Zj5 {ac:α→Int→α} {b b' i:Nat} {c:α}: ∀{l:List Int} {S S' T:Spc α},v'N ac b i c l S=some S'→v'N ac b' i c l S=some T→T=S'
 |[],S,S',T,h,h'=>by cases h;cases h';rfl
 |a::l,S,S',T,h,h'=>by
  unfold v'N at h h'
  split at h
  ·rename_i S1 h1
   split at h'
   ·rename_i T1 h1'
    obtain rfl:=ZoA h1 h1'
    exact Zj5 h h'
   ·cases h'
  ·cases h
theorem Zix {mv:α→List Int} {ac:α→Int→α} {b b':Nat}: ∀{n n' i:Nat} {S S' T:Spc α},w'x mv ac b n i S=some S'→w'x mv ac b' n' i S=some T→S'.cf.length<i+n→T.cf.length<i+n'→T=S'
 |0,n',i,S,S',T,h,h',hn,hn'=>by
  cases h
  cases n' with
  |zero=>cases h';rfl
  |succ n'=>unfold w'x at h';rw[z'M (by omega)]at h';cases h';rfl
 |n+1,0,i,S,S',T,h,h',hn,hn'=>by
  cases h'
  have:=(ZcX h).len
  unfold w'x at h
  rw[z'M (by omega)]at h
  cases h;rfl
 |n+1,n'+1,i,S,S',T,h,h',hn,hn'=>by
  unfold w'x at h h'
  split at h
  ·rename_i hc;rw[hc]at h';cases h;cases h';rfl
  ·rename_i c hc
   rw[hc]at h'
   simp only at h'
   split at h
   ·rename_i S1 h1
    split at h'
    ·rename_i T1 h1'
     obtain rfl:=Zj5 h1 h1'
     exact Zix h h' (by omega) (by omega)
    ·cases h'
   ·cases h
theorem Zgl {mv:α→List Int} {ac:α→Int→α} {b:Nat}: ∀{n i:Nat} {S S':Spc α},w'x mv ac b n i S=some S'→S.cf.length≤b→S'.cf.length≤b
 |0,i,S,S',h,hb=>by cases h;exact hb
 |n+1,i,S,S',h,hb=>by
  unfold w'x at h
  split at h
  ·cases h;exact hb
  ·split at h
   ·rename_i S1 h1;exact Zgl h (Zl4 h1 hb).1
   ·cases h
def Zhk (mv:α→List Int) (ac:α→Int→α) (b:Nat) (s:α):Option (Spc α):=w'x mv ac b (b+1) 0 ⟨[s],[-1],[-1],[]⟩
theorem Zg5 {mv:α→List Int} {ac:α→Int→α} {b:Nat} {s:α} {S:Spc α} (h:Zhk mv ac b s=some S) (hb:1≤b):1≤S.cf.length∧S.cf.length≤b∧
  (∀b',S.cf.length≤b'→Zhk mv ac b' s=some S)∧(∀b',b'<S.cf.length→1≤b'→Zhk mv ac b' s=none):=by
 unfold Zhk at h⊢
 have hl:=Zgl h (by simpa using hb)
 have h1:=(ZcX h).len
 refine⟨h1,hl,fun b' hb'=>Znv h hb' (by omega) (by omega),fun b' hb' h1'=>?_⟩
 cases hT:w'x mv ac b' (b'+1) 0 ⟨[s],[-1],[-1],[]⟩with
 |none=>rfl
 |some T=>
  have ht:=Zgl hT (by simpa using h1')
  have:=Zix h hT (by omega) (by omega)
  subst this
  omega
theorem Ext.idx {S S':Spc α} (h:Ext S S') {x:α} (hx:x∈S.cf):S'.cf.idxOf x=S.cf.idxOf x:=by
 obtain⟨d,p,q,e,h1,_⟩:=h
 rw[h1,List.idxOf_append,if_pos hx]
theorem Ext.mem {S S':Spc α} (h:Ext S S') {x:α} (hx:x∈S.cf):x∈S'.cf:=by
 obtain⟨d,p,q,e,h1,_⟩:=h
 rw[h1];exact y'J _ hx
def ByOk (mv:α→List Int) (ac:α→Int→α) (S:Spc α) (j:Nat):Prop:=
 ∃(p:Nat) (a:Int) (c:α),p<j∧S.pa[j]?=some (p:Int)∧S.ag[j]?=some a∧S.cf[p]?=some c∧a∈mv c∧S.cf[j]?=some (ac c a)
structure IA (mv:α→List Int) (ac:α→Int→α) (s:α) (S:Spc α):Prop where
 pal:S.pa.length=S.cf.length
 agl:S.ag.length=S.cf.length
 nd:S.cf.Nodup
 first:S.cf[0]?=some s∧S.pa[0]?=some (-1)∧S.ag[0]?=some (-1)
 by_: ∀j,0<j→j<S.cf.length→ByOk mv ac S j
theorem ByOk.ext {mv:α→List Int} {ac:α→Int→α} {S S':Spc α} (h:Ext S S') (hp:S.pa.length=S.cf.length) (hg:S.ag.length=S.cf.length) {j:Nat} (k:ByOk mv ac S j):ByOk mv ac S' j:=by
 obtain⟨p,a,c,h1,h2,h3,h4,h5,h6⟩:=k
 refine⟨p,a,c,h1,?_,?_,h.at h4,h5,h.at h6⟩
 ·obtain⟨d,p,q,e,_,e2,_⟩:=h
  rw[e2,y'o (z'b.1 h2).1];exact h2
 ·obtain⟨d,p,q,e,_,_,e3,_⟩:=h
  rw[e3,y'o (z'b.1 h3).1];exact h3
theorem Zp3 {mv:α→List Int} {ac:α→Int→α} {s c:α} {b i:Nat} {S S':Spc α} {a:Int} (I:IA mv ac s S) (hc:S.cf[i]?=some c) (ha:a∈mv c) (h:stepA ac b i c S a=some S'):
  IA mv ac s S'∧S'.ed=S.ed++[(i,a,S'.cf.idxOf (ac c a))]∧ac c a∈S'.cf:=by
 have hE:=Zgp h
 unfold stepA at h
 split at h
 ·rename_i k hk
  cases h
  have hm:=z'l (Zhc hk)
  refine⟨⟨I.pal,I.agl,I.nd,I.first,I.by_⟩,?_,hm⟩
  have:S.cf.idxOf (ac c a)=k:=by
   rw[List.idxOf?,List.findIdx?_eq_some_iff_findIdx_eq]at hk
   exact hk.2
  simp only[this]
 ·rename_i hk
  have hm:=Zmy hk
  split at h
  ·cases h
   have hlt:=(z'b.1 hc).1
   refine⟨⟨by simp[I.pal],by simp[I.agl],?_,?_,?_⟩,?_,by simp⟩
   ·exact y'4.2 ⟨I.nd,by simp,fun x hx y hy=>by simp at hy;rintro rfl;exact hm (hy▸hx)⟩
   ·obtain⟨f1,f2,f3⟩:=I.first
    refine⟨?_,?_,?_⟩
    ·rw[y'o (z'b.1 f1).1];exact f1
    ·rw[y'o (z'b.1 f2).1];exact f2
    ·rw[y'o (z'b.1 f3).1];exact f3
   ·intro j h0 hj
    simp only[z'j,List.length_singleton]at hj
    rcases z'i j S.cf.length with hlt'|hge
    ·exact(I.by_ j h0 hlt').ext hE I.pal I.agl
    ·obtain rfl:j=S.cf.length:=by omega
     refine⟨i,a,c,hlt,?_,?_,hE.at hc,ha,?_⟩
     ·show(S.pa++[(i:Int)])[S.cf.length]?=_
      rw[←I.pal];simp
     ·show(S.ag++[a])[S.cf.length]?=_
      rw[←I.agl];simp
     ·simp
   ·simp only
    rw[List.idxOf_append,if_neg hm]
    simp
  ·cases h
theorem Zl3 {mv:α→List Int} {ac:α→Int→α} {s c:α} {b i:Nat}: ∀{l:List Int} {S S':Spc α},IA mv ac s S→S.cf[i]?=some c→(∀a,a∈l→a∈mv c)→v'N ac b i c l S=some S'→
  IA mv ac s S'∧S'.ed=S.ed++l.map (fun a=>(i,a,S'.cf.idxOf (ac c a)))∧ ∀a,a∈l→ac c a∈S'.cf
 |[],S,S',I,hc,hl,h=>by cases h;exact⟨I,by simp,by simp⟩
 |a::l,S,S',I,hc,hl,h=>by
  unfold v'N at h
  split at h
  ·rename_i S1 h1
   obtain⟨I1,e1,m1⟩:=Zp3 I hc (hl a (by simp)) h1
   obtain⟨I2,e2,m2⟩:=Zl3 I1 ((Zgp h1).at hc) (fun x hx=>hl x (by simp[hx])) h
   have hE:=ZdN h
   refine⟨I2,?_,fun x hx=>?_⟩
   ·rw[e2,e1,z's,y'j,hE.idx m1];rfl
   ·rcases z'F.1 hx with rfl|hx
    ·exact hE.mem m1
    ·exact m2 x hx
  ·cases h
def ZcL (mv:α→List Int) (ac:α→Int→α) (cf:List α) (n:Nat):List (Nat×Int×Nat):=(List.range n).flatMap fun j=>match cf[j]? with
 |some c=>(mv c).map fun a=>(j,a,cf.idxOf (ac c a))
 |none=>[]
theorem Zej {mv:α→List Int} {ac:α→Int→α} {cf:List α} {n:Nat} {c:α} (h:cf[n]?=some c):ZcL mv ac cf (n+1)=ZcL mv ac cf n++(mv c).map fun a=>(n,a,cf.idxOf (ac c a)):=by
 unfold ZcL
 rw[y'p,List.flatMap_append]
 simp[h]
theorem ZhV {mv:α→List Int} {ac:α→Int→α} {S S':Spc α} (h:Ext S S'): ∀{n:Nat},(∀j,j<n→ ∃c,S.cf[j]?=some c∧ ∀a,a∈mv c→ac c a∈S.cf)→ZcL mv ac S'.cf n=ZcL mv ac S.cf n
 |0,_=>rfl
 |n+1,hn=>by
  obtain⟨c,hc,hm⟩:=hn n (by omega)
  rw[Zej (h.at hc),Zej hc,ZhV h fun j hj=>hn j (by omega)]
  congr 1
  exact y'R fun a ha=>by rw[h.idx (hm a ha)]
theorem Zj6 {mv:α→List Int} {ac:α→Int→α} {s:α} {b:Nat}: ∀{n i:Nat} {S S':Spc α},IA mv ac s S→S.ed=ZcL mv ac S.cf i→(∀j,j<i→ ∃c,S.cf[j]?=some c∧ ∀a,a∈mv c→ac c a∈S.cf)→
  w'x mv ac b n i S=some S'→S'.cf.length<i+n→IA mv ac s S'∧S'.ed=ZcL mv ac S'.cf S'.cf.length∧ ∀(j:Nat) (c:α),S'.cf[j]?=some c→ ∀a,a∈mv c→ac c a∈S'.cf
 |0,i,S,S',I,he,hd,h,hn=>by
  cases h
  cases i with
  |zero=>omega
  |succ i=>
   obtain⟨c,hc,_⟩:=hd i (by omega)
   have:=(z'b.1 hc).1
   omega
 |n+1,i,S,S',I,he,hd,h,hn=>by
  unfold w'x at h
  split at h
  ·rename_i hc
   cases h
   have hi:S.cf.length=i:=by
    have h1:=List.getElem?_eq_none_iff.1 hc
    rcases w'f i with h0|h0
    ·omega
    ·obtain⟨c,hc,_⟩:=hd (i-1) (by omega)
     have:=(z'b.1 hc).1
     omega
   refine⟨I,by rw[hi];exact he,fun j c hc a ha=>?_⟩
   obtain⟨c',hc',hm⟩:=hd j (by have:=(z'b.1 hc).1;omega)
   rw[hc]at hc'
   cases hc'
   exact hm a ha
  ·rename_i c hc
   split at h
   ·rename_i S1 h1
    obtain⟨I1,e1,m1⟩:=Zl3 I hc (fun a h=>h) h1
    have hE:=ZdN h1
    refine Zj6 I1 ?_ ?_ h (by omega)
    ·rw[e1,Zej (hE.at hc),ZhV hE hd,he]
    ·intro j hj
     rcases z'i j i with hlt|hge
     ·obtain⟨c',hc',hm⟩:=hd j hlt
      exact⟨c',hE.at hc',fun a ha=>hE.mem (hm a ha)⟩
     ·obtain rfl:j=i:=by omega
      exact⟨c,hE.at hc,m1⟩
   ·cases h
theorem Zhl {mv:α→List Int} {ac:α→Int→α} {b:Nat} {s:α} {S:Spc α} (h:Zhk mv ac b s=some S) (hb:1≤b):
  IA mv ac s S∧S.ed=ZcL mv ac S.cf S.cf.length∧ ∀(j:Nat) (c:α),S.cf[j]?=some c→ ∀a,a∈mv c→ac c a∈S.cf:=by
 have hl:=(Zg5 h hb).2.1
 unfold Zhk at h
 refine Zj6 ⟨rfl,rfl,by simp,⟨rfl,rfl,rfl⟩,fun j h0 hj=>by simp at hj;omega⟩ ?_ (fun j hj=>by omega) h (by omega)
 rfl
theorem IA.all {mv:α→List Int} {ac:α→Int→α} {s:α} {S:Spc α} (I:IA mv ac s S) {p:α→Prop} (h0:p s) (h: ∀c a,p c→a∈mv c→p (ac c a)): ∀(j:Nat) (c:α),S.cf[j]?=some c→p c:=by
 intro j
 induction j using Nat.strongRecOn with
 |_ j ih=>
  intro c hc
  rcases w'f j with rfl|h0'
  ·rw[I.first.1]at hc;cases hc;exact h0
  ·obtain⟨q,a,d,h1,_,_,h4,h5,h6⟩:=I.by_ j h0' (z'b.1 hc).1
   rw[hc]at h6
   cases h6
   exact h d a (ih q h1 d h4) h5
end
theorem z'Q {env:Nat→D} {env':List (Nat×D)} {H H':Heap} (hh:H=H') (h:Vc.sub env env'):Weak ⟨env,H⟩ ⟨z'T env',H'⟩:=hh▸Weak.sub h
theorem y'U {env:Nat→D} {env':List (Nat×D)} {x:Nat×HC} {H H':Heap} (hh:H=H') (h:Vc.sub env env'):Weak ⟨env,x::H⟩ ⟨z'T env',H'⟩:=Weak.subH (hh▸y'H _ _) h
theorem ZaD {P:Program} {n:Nat} {c:Code} {s:St} {Q:Exit→St→Prop} {t m:Nat} {g:Option (Nat×Nat)} (ht:s.env t= .gs g m) (h:gOk g m→VC P n c s Q):VC P n c s Q:=fun x a w hn hs=>
 h (by have:=hs.env t;rw[ht,Rel]at this;exact this.2) x a w hn hs
theorem ZtT (a b a' b':Int):EqS Tryz.prog 201 [.int .i64 a,.int .i64 b] [.int .i64 a',.int .i64 b'] (a == a'&&b == b'):=by
 refine⟨by kernel_rfl,fun w=>?_⟩
 have u3:=Tryz.underlying3
 have a3:=Tryz.isAgg3
 have z3:=Tryz.sizeOf3
 have hS:Tryz.prog.underlying 201=some (.struct (Tryz.prog.fieldsOf 201)):=by kernel_rfl
 have hp:Tryz.prog.stoodInHeld 201=false:=by kernel_rfl
 rw[show(10000:Nat)=9999+1 from rfl,run_equalIn_agg w 9999 201 _ _ hS hp]
 simp only[Program.fieldsOf,Tryz.underlying201]
 go_simp
 by_cases h1:a=a'<;>by_cases h2:b=b'<;>simp[h1,h2]
def x'Z:Option Nat→Int
 |some k=>k
 |none=> -1
def Zdd (m r loc:Int) (b:List En):Bool:=if m=2 then decide ((b.length:Int)<r)else if m=3 then decide (((w'Q loc b:Nat):Int)<r)else false
theorem w'7 (a b:List En):eRs (a++b)=eRs a++eRs b:=z'E ..
set_option maxRecDepth 20000
def v'f (k:Nat) (b:List En):List En:=b.take k++b.drop (k+1)
theorem ZdL {m loc:Int} {b:List En} {k:Nat} (h:z'2 m loc b=some k):k<b.length:=by
 unfold z'2 at h
 split at h
 ·exact ZiQ h
 ·split at h
  ·rename_i hc
   obtain rfl:=z'O h
   have:=hc.2.1
   rcases b with _|⟨x,r⟩
   ·exact absurd rfl this
   ·simp
  ·cases h
def x'R (m loc:Int) (b:List En):List En×En×Bool:=match z'2 m loc b with
 |none=>(b,(0,0),false)
 |some k=>(v'f k b,(b[k]?).getD (0,0),true)
def ZvJ (p:List En×En×Bool):D:= .tup [buf p.1,.agg [iD p.2.1.1,iD p.2.1.2],bD p.2.2]
theorem ZbQ {P:Program} (T:Tab P) {E:Nat→D} {H:Heap} {u a v:Tmp} {ty:TypeId} {Φ:D→Heap→Prop} {H':Heap} {b n:Nat} {ty':TypeId} {l:List D} (ha:E a= .is (.pointer (some ⟨b,0,none⟩))) (hb:w'v H b=some (.cells ty' n l))
  (hk:(T.get ty).known=true) (hz:(T.get ty).size=l.length) (hag:(T.get ty).agg=true) (hs:H'.Sublist H) (h:Φ (.tup [E u,.agg l,E v]) H'):x'v T [.tmp u,.cell a ty,.tmp v] Φ .ret ⟨E,H⟩:=
 by unfold x'v;exact⟨[E u,.agg l,E v],H',⟨_,rfl,b,ty',n,l,_,ha,x'Q hb,hk,hz,by rw[hag],_,rfl,rfl⟩,hs,h⟩
theorem lastF_at {loc:Int}: ∀{b:List En} {k:Nat} {x:En},b[k]?=some x→x.1=loc→(∀(i:Nat) (y:En),k<i→b[i]?=some y→y.1≠loc)→v'9 loc b=some x.2
 |x0::r,0,x,h,hx,hno=>by
  obtain rfl:x0=x:=by simpa using h
  have:v'9 loc r=none:=lastF_no fun i y hy=>hno (i+1) y (by omega) (by simpa using hy)
  simp[v'9,this,hx]
 |x0::r,k+1,x,h,hx,hno=>by
  have:=lastF_at (b:=r) (k:=k) (by simpa using h) hx fun i y hi hy=>hno (i+1) y (by omega) (by simpa using hy)
  simp[v'9,this]
where
 lastF_no {loc:Int}: ∀{b:List En},(∀(i:Nat) (y:En),b[i]?=some y→y.1≠loc)→v'9 loc b=none
 |[],_=>rfl
 |x0::r,hno=>by
  have h0:x0.1≠loc:=hno 0 x0 rfl
  have:=lastF_no (b:=r) fun i y hy=>hno (i+1) y (by simpa using hy)
  simp[v'9,h0,this]
def Zve (o:Option Int):D:= .tup [iD (o.getD 0),bD o.isSome]
end Go.Proofs.YthlkpnjjkgmlkaaGreat
