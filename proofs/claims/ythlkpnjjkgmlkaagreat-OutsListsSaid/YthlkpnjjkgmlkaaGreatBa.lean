/- What can be reached, in plain Lean: found one behind the other. No condition. -/
import Derived.Test.YthlkpnjjkgmlkaaGreatWb
namespace Go.Proofs.YthlkpnjjkgmlkaaGreat
set_option linter.unusedSimpArgs false
set_option linter.unusedVariables false
set_option linter.unusedSectionVars false
open Go Go.Proofs Go.Vc
attribute [local irreducible] x'c VCg VCw VCx
section
variable {α : Type} [DecidableEq α]
structure Spc (α:Type) where
 cf:List α
 pa:List Int
 ag:List Int
 ed:List (Nat×Int×Nat)
def stepA (ac:α→Int→α) (b i:Nat) (c:α) (S:Spc α) (a:Int):Option (Spc α):=
 match S.cf.idxOf? (ac c a)with
 |some k=>some {S with ed:=S.ed++[(i,a,k)]}
 |none=>match decide (S.cf.length<b)with
  |true=>some ⟨S.cf++[ac c a],S.pa++[(i:Int)],S.ag++[a],S.ed++[(i,a,S.cf.length)]⟩
  |false=>none
def w'0 (ac:α→Int→α) (b i:Nat) (c:α):List Int→Spc α→Option (Spc α)
 |[],S=>some S
 |a::l,S=>match stepA ac b i c S a with
  |some S'=>w'0 ac b i c l S'
  |none=>none
def x'U (mv:α→List Int) (ac:α→Int→α) (b:Nat):Nat→Nat→Spc α→Option (Spc α)
 |0,_,S=>some S
 |n+1,i,S=>match S.cf[i]? with
  |none=>some S
  |some c=>match w'0 ac b i c (mv c) S with
   |some S'=>x'U mv ac b n (i+1) S'
   |none=>none
theorem Zpz {ac:α→Int→α} {b i:Nat} {c:α} {S S':Spc α} {a:Int} (h:stepA ac b i c S a=some S') (hb:S.cf.length≤b):S'.cf.length≤b∧S.cf.length≤S'.cf.length:=by
 unfold stepA at h
 split at h
 ·cases h;exact⟨hb,z'f _⟩
 ·split at h
  ·rename_i hd
   have:=of_decide_eq_true hd
   cases h
   simp;omega
  ·cases h
theorem Zlq {ac:α→Int→α} {b i:Nat} {c:α}: ∀{l:List Int} {S S':Spc α},w'0 ac b i c l S=some S'→S.cf.length≤b→S'.cf.length≤b∧S.cf.length≤S'.cf.length
 |[],S,S',h,hb=>by cases h;exact⟨hb,z'f _⟩
 |a::l,S,S',h,hb=>by
  unfold w'0 at h
  split at h
  ·rename_i S1 h1
   have k1:=Zpz h1 hb
   have k2:=Zlq h k1.1
   exact⟨k2.1,by omega⟩
  ·cases h
theorem Zgp {l:List α} {x:α} {k:Nat} (h:l.idxOf? x=some k):l[k]?=some x:=by
 rw[List.idxOf?,List.findIdx?_eq_some_iff_getElem]at h
 obtain⟨hk,h1,_⟩:=h
 rw[z'b hk]
 simpa using h1
theorem Zgo {l:List α} {x:α} (h:l.idxOf? x=none):x∉l:=by
 rw[List.idxOf?,List.findIdx?_eq_none_iff]at h
 intro hm
 have:=h x hm
 simp at this
def Zar (l:List α) (x:α):Option Nat:=l.idxOf? x
theorem ZoU {l:List α} {x:α} {k:Nat} (h:Zar l x=some k):l[k]?=some x:=Zgp h
theorem ZoT {l:List α} {x:α} (h:Zar l x=none):x∉l:=Zgo h
def Ext (S S':Spc α):Prop:= ∃c p q e,S'.cf=S.cf++c∧S'.pa=S.pa++p∧S'.ag=S.ag++q∧S'.ed=S.ed++e
theorem Ext.refl (S:Spc α):Ext S S:=⟨[],[],[],[],by simp⟩
theorem Ext.trans {S S' S'':Spc α} (h:Ext S S') (k:Ext S' S''):Ext S S'':=by
 obtain⟨c,p,q,e,h1,h2,h3,h4⟩:=h
 obtain⟨c',p',q',e',k1,k2,k3,k4⟩:=k
 exact⟨c++c',p++p',q++q',e++e',by rw[k1,h1,z'6],by rw[k2,h2,z'6],by rw[k3,h3,z'6],by rw[k4,h4,z'6]⟩
theorem Ext.len {S S':Spc α} (h:Ext S S'):S.cf.length≤S'.cf.length:=by
 obtain⟨c,p,q,e,h1,_⟩:=h
 rw[h1,z'h];omega
theorem Ext.at {S S':Spc α} (h:Ext S S') {i:Nat} {c:α} (hc:S.cf[i]?=some c):S'.cf[i]?=some c:=by
 obtain⟨d,p,q,e,h1,_⟩:=h
 rw[h1,y'l (z'g.1 hc).1];exact hc
theorem ZfC {ac:α→Int→α} {b i:Nat} {c:α} {S S':Spc α} {a:Int} (h:stepA ac b i c S a=some S'):Ext S S':=by
 unfold stepA at h
 split at h
 ·cases h;exact⟨[],[],[],_,by simp,by simp,by simp,rfl⟩
 ·split at h
  ·cases h;exact⟨[_],[_],[_],[_],rfl,rfl,rfl,rfl⟩
  ·cases h
theorem Zc1 {ac:α→Int→α} {b i:Nat} {c:α}: ∀{l:List Int} {S S':Spc α},w'0 ac b i c l S=some S'→Ext S S'
 |[],S,S',h=>by cases h;exact Ext.refl _
 |a::l,S,S',h=>by
  unfold w'0 at h
  split at h
  ·rename_i S1 h1;exact(ZfC h1).trans (Zc1 h)
  ·cases h
theorem Zck {mv:α→List Int} {ac:α→Int→α} {b:Nat}: ∀{n i:Nat} {S S':Spc α},x'U mv ac b n i S=some S'→Ext S S'
 |0,i,S,S',h=>by cases h;exact Ext.refl _
 |n+1,i,S,S',h=>by
  unfold x'U at h
  split at h
  ·cases h;exact Ext.refl _
  ·split at h
   ·rename_i S1 h1;exact(Zc1 h1).trans (Zck h)
   ·cases h
theorem ZsR {ac:α→Int→α} {b b' i:Nat} {c:α} {S S':Spc α} {a:Int} (h:stepA ac b i c S a=some S') (hb:S'.cf.length≤b'):stepA ac b' i c S a=some S':=by
 unfold stepA at h⊢
 split at h
 ·exact h
 ·split at h
  ·cases h
   simp only[z'h,List.length_singleton]at hb
   rw[decide_eq_true (by omega)]
  ·cases h
theorem Zpo {ac:α→Int→α} {b b' i:Nat} {c:α}: ∀{l:List Int} {S S':Spc α},w'0 ac b i c l S=some S'→S'.cf.length≤b'→w'0 ac b' i c l S=some S'
 |[],S,S',h,_=>h
 |a::l,S,S',h,hb=>by
  unfold w'0 at h⊢
  split at h
  ·rename_i S1 h1
   have:=(Zc1 h).len
   rw[ZsR h1 (by omega)]
   exact Zpo h hb
  ·cases h
theorem ZmZ {mv:α→List Int} {ac:α→Int→α} {b b':Nat}: ∀{n n' i:Nat} {S S':Spc α},x'U mv ac b n i S=some S'→S'.cf.length≤b'→S'.cf.length<i+n→S'.cf.length<i+n'→x'U mv ac b' n' i S=some S'
 |0,n',i,S,S',h,hb,hn,hn'=>by
  cases h
  cases n' with
  |zero=>rfl
  |succ n'=>unfold x'U;rw[z'L (by omega)]
 |n+1,0,i,S,S',h,hb,hn,hn'=>by
  have:=(Zck h).len
  unfold x'U at h⊢
  rw[z'L (by omega)]at h
  exact h
 |n+1,n'+1,i,S,S',h,hb,hn,hn'=>by
  unfold x'U at h⊢
  split at h
  ·exact h
  ·rename_i c hc
   split at h
   ·rename_i S1 h1
    have:=(Zck h).len
    rw[show w'0 ac b' i c (mv c) S=some S1 from Zpo h1 (by omega)]
    exact ZmZ h hb (by omega) (by omega)
   ·cases h
theorem Zn1 {ac:α→Int→α} {b b' i:Nat} {c:α} {S S' T:Spc α} {a:Int} (h:stepA ac b i c S a=some S') (h':stepA ac b' i c S a=some T):T=S':=by
 unfold stepA at h h'
 split at h
 ·rename_i k hk;rw[hk]at h';simp only at h';cases h;cases h';rfl
 ·rename_i hk
  rw[hk]at h'
  simp only at h'
  split at h<;>split at h'<;>cases h<;>cases h'
  rfl
theorem Zji {ac:α→Int→α} {b b' i:Nat} {c:α}: ∀{l:List Int} {S S' T:Spc α},w'0 ac b i c l S=some S'→w'0 ac b' i c l S=some T→T=S'
 |[],S,S',T,h,h'=>by cases h;cases h';rfl
 |a::l,S,S',T,h,h'=>by
  unfold w'0 at h h'
  split at h
  ·rename_i S1 h1
   split at h'
   ·rename_i T1 h1'
    obtain rfl:=Zn1 h1 h1'
    exact Zji h h'
   ·cases h'
  ·cases h
theorem ZhT {mv:α→List Int} {ac:α→Int→α} {b b':Nat}: ∀{n n' i:Nat} {S S' T:Spc α},x'U mv ac b n i S=some S'→x'U mv ac b' n' i S=some T→S'.cf.length<i+n→T.cf.length<i+n'→T=S'
 |0,n',i,S,S',T,h,h',hn,hn'=>by
  cases h
  cases n' with
  |zero=>cases h';rfl
  |succ n'=>unfold x'U at h';rw[z'L (by omega)]at h';cases h';rfl
 |n+1,0,i,S,S',T,h,h',hn,hn'=>by
  cases h'
  have:=(Zck h).len
  unfold x'U at h
  rw[z'L (by omega)]at h
  cases h;rfl
 |n+1,n'+1,i,S,S',T,h,h',hn,hn'=>by
  unfold x'U at h h'
  split at h
  ·rename_i hc;rw[hc]at h';cases h;cases h';rfl
  ·rename_i c hc
   rw[hc]at h'
   simp only at h'
   split at h
   ·rename_i S1 h1
    split at h'
    ·rename_i T1 h1'
     obtain rfl:=Zji h1 h1'
     exact ZhT h h' (by omega) (by omega)
    ·cases h'
   ·cases h
theorem Zfy {mv:α→List Int} {ac:α→Int→α} {b:Nat}: ∀{n i:Nat} {S S':Spc α},x'U mv ac b n i S=some S'→S.cf.length≤b→S'.cf.length≤b
 |0,i,S,S',h,hb=>by cases h;exact hb
 |n+1,i,S,S',h,hb=>by
  unfold x'U at h
  split at h
  ·cases h;exact hb
  ·split at h
   ·rename_i S1 h1;exact Zfy h (Zlq h1 hb).1
   ·cases h
def Zgz (mv:α→List Int) (ac:α→Int→α) (b:Nat) (s:α):Option (Spc α):=x'U mv ac b (b+1) 0 ⟨[s],[-1],[-1],[]⟩
theorem ZlN {mv:α→List Int} {ac:α→Int→α} {b:Nat} {s:α} {S:Spc α} (h:Zgz mv ac b s=some S) (hb:1≤b):1≤S.cf.length∧S.cf.length≤b∧
  (∀b',S.cf.length≤b'→Zgz mv ac b' s=some S)∧(∀b',b'<S.cf.length→1≤b'→Zgz mv ac b' s=none):=by
 unfold Zgz at h⊢
 have hl:=Zfy h (by simpa using hb)
 have h1:=(Zck h).len
 refine⟨h1,hl,fun b' hb'=>ZmZ h hb' (by omega) (by omega),fun b' hb' h1'=>?_⟩
 cases hT:x'U mv ac b' (b'+1) 0 ⟨[s],[-1],[-1],[]⟩with
 |none=>rfl
 |some T=>
  have ht:=Zfy hT (by simpa using h1')
  have:=ZhT h hT (by omega) (by omega)
  subst this
  omega
theorem Ext.idx {S S':Spc α} (h:Ext S S') {x:α} (hx:x∈S.cf):S'.cf.idxOf x=S.cf.idxOf x:=by
 obtain⟨d,p,q,e,h1,_⟩:=h
 rw[h1,List.idxOf_append,if_pos hx]
theorem Ext.mem {S S':Spc α} (h:Ext S S') {x:α} (hx:x∈S.cf):x∈S'.cf:=by
 obtain⟨d,p,q,e,h1,_⟩:=h
 rw[h1];exact y'v _ hx
def ByOk (mv:α→List Int) (ac:α→Int→α) (S:Spc α) (j:Nat):Prop:=
 ∃(p:Nat) (a:Int) (c:α),p<j∧S.pa[j]?=some (p:Int)∧S.ag[j]?=some a∧S.cf[p]?=some c∧a∈mv c∧S.cf[j]?=some (ac c a)
structure IA (mv:α→List Int) (ac:α→Int→α) (s:α) (S:Spc α):Prop where
 pal:S.pa.length=S.cf.length
 agl:S.ag.length=S.cf.length
 nd:S.cf.Nodup
 first:S.cf[0]?=some s∧S.pa[0]?=some (-1)∧S.ag[0]?=some (-1)
 by_: ∀j,0<j→j<S.cf.length→ByOk mv ac S j
theorem ByOk.ext {mv:α→List Int} {ac:α→Int→α} {S S':Spc α} (h:Ext S S') (hp:S.pa.length=S.cf.length) (hg:S.ag.length=S.cf.length) {j:Nat} (k:ByOk mv ac S j):ByOk mv ac S' j:=by
 obtain⟨p,a,c,h1,h2,h3,h4,h5,h6⟩:=k
 refine⟨p,a,c,h1,?_,?_,h.at h4,h5,h.at h6⟩
 ·obtain⟨d,p,q,e,_,e2,_⟩:=h
  rw[e2,y'l (z'g.1 h2).1];exact h2
 ·obtain⟨d,p,q,e,_,_,e3,_⟩:=h
  rw[e3,y'l (z'g.1 h3).1];exact h3
theorem Zpy {mv:α→List Int} {ac:α→Int→α} {s c:α} {b i:Nat} {S S':Spc α} {a:Int} (I:IA mv ac s S) (hc:S.cf[i]?=some c) (ha:a∈mv c) (h:stepA ac b i c S a=some S'):
  IA mv ac s S'∧S'.ed=S.ed++[(i,a,S'.cf.idxOf (ac c a))]∧ac c a∈S'.cf:=by
 have hE:=ZfC h
 unfold stepA at h
 split at h
 ·rename_i k hk
  cases h
  have hm:=z'l (Zgp hk)
  refine⟨⟨I.pal,I.agl,I.nd,I.first,I.by_⟩,?_,hm⟩
  have:S.cf.idxOf (ac c a)=k:=by
   rw[List.idxOf?,List.findIdx?_eq_some_iff_findIdx_eq]at hk
   exact hk.2
  simp only[this]
 ·rename_i hk
  have hm:=Zgo hk
  split at h
  ·cases h
   have hlt:=(z'g.1 hc).1
   refine⟨⟨by simp[I.pal],by simp[I.agl],?_,?_,?_⟩,?_,by simp⟩
   ·exact y'z.2 ⟨I.nd,by simp,fun x hx y hy=>by simp at hy;rintro rfl;exact hm (hy▸hx)⟩
   ·obtain⟨f1,f2,f3⟩:=I.first
    refine⟨?_,?_,?_⟩
    ·rw[y'l (z'g.1 f1).1];exact f1
    ·rw[y'l (z'g.1 f2).1];exact f2
    ·rw[y'l (z'g.1 f3).1];exact f3
   ·intro j h0 hj
    simp only[z'h,List.length_singleton]at hj
    rcases z'j j S.cf.length with hlt'|hge
    ·exact(I.by_ j h0 hlt').ext hE I.pal I.agl
    ·obtain rfl:j=S.cf.length:=by omega
     refine⟨i,a,c,hlt,?_,?_,hE.at hc,ha,?_⟩
     ·show(S.pa++[(i:Int)])[S.cf.length]?=_
      rw[←I.pal];simp
     ·show(S.ag++[a])[S.cf.length]?=_
      rw[←I.agl];simp
     ·simp
   ·simp only
    rw[List.idxOf_append,if_neg hm]
    simp
  ·cases h
theorem Zlp {mv:α→List Int} {ac:α→Int→α} {s c:α} {b i:Nat}: ∀{l:List Int} {S S':Spc α},IA mv ac s S→S.cf[i]?=some c→(∀a,a∈l→a∈mv c)→w'0 ac b i c l S=some S'→
  IA mv ac s S'∧S'.ed=S.ed++l.map (fun a=>(i,a,S'.cf.idxOf (ac c a)))∧ ∀a,a∈l→ac c a∈S'.cf
 |[],S,S',I,hc,hl,h=>by cases h;exact⟨I,by simp,by simp⟩
 |a::l,S,S',I,hc,hl,h=>by
  unfold w'0 at h
  split at h
  ·rename_i S1 h1
   obtain⟨I1,e1,m1⟩:=Zpy I hc (hl a (by simp)) h1
   obtain⟨I2,e2,m2⟩:=Zlp I1 ((ZfC h1).at hc) (fun x hx=>hl x (by simp[hx])) h
   have hE:=Zc1 h
   refine⟨I2,?_,fun x hx=>?_⟩
   ·rw[e2,e1,z'm,z'6,hE.idx m1];rfl
   ·rcases z't.1 hx with rfl|hx
    ·exact hE.mem m1
    ·exact m2 x hx
  ·cases h
def w'7 (mv:α→List Int) (ac:α→Int→α) (cf:List α) (n:Nat):List (Nat×Int×Nat):=(List.range n).flatMap fun j=>match cf[j]? with
 |some c=>(mv c).map fun a=>(j,a,cf.idxOf (ac c a))
 |none=>[]
theorem ZdA {mv:α→List Int} {ac:α→Int→α} {cf:List α} {n:Nat} {c:α} (h:cf[n]?=some c):w'7 mv ac cf (n+1)=w'7 mv ac cf n++(mv c).map fun a=>(n,a,cf.idxOf (ac c a)):=by
 unfold w'7
 rw[y'h,List.flatMap_append]
 simp[h]
theorem Zhi {mv:α→List Int} {ac:α→Int→α} {S S':Spc α} (h:Ext S S'): ∀{n:Nat},(∀j,j<n→ ∃c,S.cf[j]?=some c∧ ∀a,a∈mv c→ac c a∈S.cf)→w'7 mv ac S'.cf n=w'7 mv ac S.cf n
 |0,_=>rfl
 |n+1,hn=>by
  obtain⟨c,hc,hm⟩:=hn n (by omega)
  rw[ZdA (h.at hc),ZdA hc,Zhi h fun j hj=>hn j (by omega)]
  congr 1
  exact y'k fun a ha=>by rw[h.idx (hm a ha)]
theorem Zjj {mv:α→List Int} {ac:α→Int→α} {s:α} {b:Nat}: ∀{n i:Nat} {S S':Spc α},IA mv ac s S→S.ed=w'7 mv ac S.cf i→(∀j,j<i→ ∃c,S.cf[j]?=some c∧ ∀a,a∈mv c→ac c a∈S.cf)→
  x'U mv ac b n i S=some S'→S'.cf.length<i+n→IA mv ac s S'∧S'.ed=w'7 mv ac S'.cf S'.cf.length∧ ∀(j:Nat) (c:α),S'.cf[j]?=some c→ ∀a,a∈mv c→ac c a∈S'.cf
 |0,i,S,S',I,he,hd,h,hn=>by
  cases h
  cases i with
  |zero=>omega
  |succ i=>
   obtain⟨c,hc,_⟩:=hd i (by omega)
   have:=(z'g.1 hc).1
   omega
 |n+1,i,S,S',I,he,hd,h,hn=>by
  unfold x'U at h
  split at h
  ·rename_i hc
   cases h
   have hi:S.cf.length=i:=by
    have h1:=List.getElem?_eq_none_iff.1 hc
    rcases x'D i with h0|h0
    ·omega
    ·obtain⟨c,hc,_⟩:=hd (i-1) (by omega)
     have:=(z'g.1 hc).1
     omega
   refine⟨I,by rw[hi];exact he,fun j c hc a ha=>?_⟩
   obtain⟨c',hc',hm⟩:=hd j (by have:=(z'g.1 hc).1;omega)
   rw[hc]at hc'
   cases hc'
   exact hm a ha
  ·rename_i c hc
   split at h
   ·rename_i S1 h1
    obtain⟨I1,e1,m1⟩:=Zlp I hc (fun a h=>h) h1
    have hE:=Zc1 h1
    refine Zjj I1 ?_ ?_ h (by omega)
    ·rw[e1,ZdA (hE.at hc),Zhi hE hd,he]
    ·intro j hj
     rcases z'j j i with hlt|hge
     ·obtain⟨c',hc',hm⟩:=hd j hlt
      exact⟨c',hE.at hc',fun a ha=>hE.mem (hm a ha)⟩
     ·obtain rfl:j=i:=by omega
      exact⟨c,hE.at hc,m1⟩
   ·cases h
theorem ZjP {mv:α→List Int} {ac:α→Int→α} {b:Nat} {s:α} {S:Spc α} (h:Zgz mv ac b s=some S) (hb:1≤b):
  IA mv ac s S∧S.ed=w'7 mv ac S.cf S.cf.length∧ ∀(j:Nat) (c:α),S.cf[j]?=some c→ ∀a,a∈mv c→ac c a∈S.cf:=by
 have hl:=(ZlN h hb).2.1
 unfold Zgz at h
 refine Zjj ⟨rfl,rfl,by simp,⟨rfl,rfl,rfl⟩,fun j h0 hj=>by simp at hj;omega⟩ ?_ (fun j hj=>by omega) h (by omega)
 rfl
theorem IA.all {mv:α→List Int} {ac:α→Int→α} {s:α} {S:Spc α} (I:IA mv ac s S) {p:α→Prop} (h0:p s) (h: ∀c a,p c→a∈mv c→p (ac c a)): ∀(j:Nat) (c:α),S.cf[j]?=some c→p c:=by
 intro j
 induction j using Nat.strongRecOn with
 |_ j ih=>
  intro c hc
  rcases x'D j with rfl|h0'
  ·rw[I.first.1]at hc;cases hc;exact h0
  ·obtain⟨q,a,d,h1,_,_,h4,h5,h6⟩:=I.by_ j h0' (z'g.1 hc).1
   rw[hc]at h6
   cases h6
   exact h d a (ih q h1 d h4) h5
end
end Go.Proofs.YthlkpnjjkgmlkaaGreat
