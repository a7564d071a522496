/- Plain law: the graph of edges has just these edges. No condition. -/
import Derived.Test.YtomcmfbpmkklmaaGreatDd
import Derived.Test.YtomcmfbpmkklmaaGreatYc
import Derived.Test.YtomcmfbpmkklmaaGreatYi
import Derived.Test.YtomcmfbpmkklmaaGreatDf
import Derived.Test.YtomcmfbpmkklmaaGreatSa
import Derived.Test.YtomcmfbpmkklmaaGreatRj
import Derived.Test.YtomcmfbpmkklmaaGreatK2
namespace Go.Proofs.YtomcmfbpmkklmaaGreat
set_option linter.unusedSimpArgs false
set_option linter.unusedVariables false
set_option maxRecDepth 20000
open Go Go.Proofs Go.Vc
def Zpg (n:Nat) (l:List Ed):Prop:= ∀e,e∈l→0≤e.1∧e.1<n∧0≤e.2.2∧e.2.2<n∧0≤e.2.1
theorem ZjJ {l:List Ed} {e:Ed}: ∀{i:Nat},e∈upE l i→e∈l∧0≤e.1∧e.1<i
 |0,h=>by simp[upE]at h
 |i+1,h=>by
  rw[Zae,y'x]at h
  rcases h with h|h
  ·have:=ZjJ h;exact⟨this.1,this.2.1,by omega⟩
  ·simp only[v'h,x'B,beq_iff_eq]at h
   exact⟨h.1,by omega,by omega⟩
theorem ZdF (n:Nat) (l:List Ed) {i:Nat} (h:i≤n):(x'M n l).st.getD i 0=((upE l i).length:Int):=by
 simp only[x'M,z'd,z'4]
 rw[List.getElem?_range (by omega)];rfl
theorem Zjp (l:List Ed) (i:Nat): ∀m, ∃X,upE l (i+m)=upE l i++X
 |0=>⟨[],by simp⟩
 |m+1=>by
  obtain⟨X,h⟩:=Zjp l i m
  exact⟨X++v'h l (i+m),by rw[←Nat.add_assoc,Zae,h,z'7]⟩
theorem Zpz (n:Nat) (l:List Ed) {i j:Nat} (hi:i<n) (hj:j<(v'h l i).length):egG (x'M n l) i ((upE l i).length+j)=(v'h l i).getD j (0,0,0):=by
 obtain⟨X,hX⟩:=Zjp l (i+1) (n-(i+1))
 rw[show i+1+(n-(i+1))=n by omega,Zae,z'7]at hX
 have hg:(upE l n)[(upE l i).length+j]?=some ((v'h l i).getD j (0,0,0)):=by
  rw[hX,v'q (by omega),Nat.add_sub_cancel_left,y'f hj,z'd,z'b hj];rfl
 have hm:(v'h l i).getD j (0,0,0)∈v'h l i:=by
  rw[z'd,z'b hj];exact List.getElem_mem hj
 have hm2:((v'h l i).getD j (0,0,0)).1=(i:Int):=by
  have:=x'B.1 hm
  exact beq_iff_eq.1 this.2
 generalize (v'h l i).getD j (0,0,0)=x at hg hm2⊢
 simp only[egG,x'M,z'd,z'4,hg,w'c,z'I]
 rw[←hm2]
theorem Zj7 (n:Nat) (l:List Ed) {i:Nat} (hi:i<n):Zez (x'M n l) i=v'h l i:=by
 have h1:=ZdF n l (i:=i) (by omega)
 have h2:=ZdF n l (i:=i+1) (by omega)
 have h3:(upE l (i+1)).length=(upE l i).length+(v'h l i).length:=by rw[Zae,z'k]
 unfold Zez ZbR
 rw[h1,h2,z'o,z'o,h3,Nat.add_sub_cancel_left]
 refine x'w fun j=>?_
 rw[z'4]
 rcases z'g j (v'h l i).length with h|h
 ·rw[List.getElem?_range' (by omega),w'c,Nat.one_mul,Zpz n l hi h,z'b h,z'd,z'b h];rfl
 ·rw[z'x (by simpa using h),z'x h];rfl
theorem Zhw {n:Nat} {l:List Ed} (h:Zpg n l):Gr (x'M n l):=by
 have hl:(x'M n l).st.length=n+1:=by simp[x'M]
 refine⟨by omega,?_,?_,by simp[x'M],?_,?_⟩
 ·rw[ZdF n l (z'6 _)];rfl
 ·rw[hl,Nat.add_sub_cancel,ZdF n l (z'v _)];simp[x'M]
 ·intro i hi
  rw[hl]at hi
  rw[ZdF n l (by omega),ZdF n l (by omega),Zae,z'k];omega
 ·intro i hi
  rw[hl,Nat.add_sub_cancel]
  have hi':i<(upE l n).length:=by simpa[x'M]using hi
  have hm:=List.getElem_mem hi'
  have:=h _ (ZjJ hm).1
  simp only[x'M,z'd,z'4,z'b hi',w'c,z'I]
  omega
theorem ZiS {n:Nat} {l:List Ed} (h:Zpg n l):v'3 (x'M n l)=n:=by
 unfold v'3
 rw[Zas.2 (Zhw h)]
 simp[x'M]
attribute [local irreducible] y'0 VCg VCw VCx
def nxt (L:List Ed) (a:Int):Int:=
 match L with
 |[]=> -1
 |e::L=>match decide (e.2.1=a)with|true=>e.2.2|false=>nxt L a
abbrev Wy:=Int×Int×Int×List Int
def isN (In:List Bool) (x:Int):Bool:=match decide (0≤x)&&decide (x<In.length)with|true=>In.getD x.toNat false|false=>false
def Zms (F:List Wy) (x:Int):Bool:=F.any fun e=>decide (e.1=x)
def Znk (In:List Bool) (x:Int) (p:List Int) (F:List Wy) (e:Ed):List Wy:=match isN In e.2.2&& !Zms F e.2.2 with|true=>F++[(e.2.2,x,e.2.1,p++[e.2.1])]|false=>F
structure IW (n:Nat) (F:List Wy):Prop where
 nd:(F.map (·.1)).Nodup
 bd: ∀e,e∈F→0≤e.1∧e.1<n
 up: ∀(j:Nat) (e:Wy),F[j]?=some e→(e.2.1= -1∧e.2.2.2=[])∨ ∃(j':Nat) (e':Wy),j'<j∧F[j']?=some e'∧e'.1=e.2.1∧e.2.2.2=e'.2.2.2++[e.2.2.1]
theorem Zl3 {F:List Wy} {x:Int}:Zms F x=true↔x∈F.map (·.1):=by
 simp only[Zms,List.any_eq_true,decide_eq_true_eq,z'y]
theorem Zi1: ∀{n:Nat} {l:List Int},l.Nodup→(∀x,x∈l→0≤x∧x<(n:Nat))→l.length≤n
 |0,[],_,_=>z'v _
 |0,x::l,_,h=>by have:=h x (z'C ..);omega
 |n+1,l,hn,h=>by
  have h1:=Zi1 (n:=n) (l:=l.filter fun x=>decide (x≠(n:Int))) (hn.filter _) fun x hx=>by
   have hx':=x'B.1 hx
   have:=h x hx'.1
   have h3:=hx'.2
   simp only[decide_eq_true_eq]at h3
   omega
  have h2:l.length≤(l.filter fun x=>decide (x≠(n:Int))).length+1:=by
   clear h1 h
   induction l with
   |nil=>exact z'6 _
   |cons y l ih=>
    obtain⟨hy,hl⟩:=x'A.1 hn
    by_cases hyn:y=(n:Int)
    ·have he:(l.filter fun x=>decide (x≠(n:Int)))=l:=w'8.2 fun x hx=>decide_eq_true fun e=>hy (by rw[hyn, ←e];exact hx)
     rw[List.filter_cons_of_neg (by simp[hyn]),he]
     exact z'v _
    ·rw[v'a (by simp[hyn])]
     have:=ih hl
     simp only[z'D]
     omega
  omega
theorem IW.len {n:Nat} {F:List Wy} (h:IW n F):F.length≤n:=by
 rw[←z'p (·.1)]
 exact Zi1 h.nd fun x hx=>by obtain⟨e,he,rfl⟩:=z'y.1 hx;exact h.bd e he
theorem IW.step {n:Nat} {F:List Wy} (h:IW n F) {In:List Bool} {i:Nat} {e:Wy} (he:F[i]?=some e) {d:Ed} (hd:0≤d.2.2∧d.2.2<n):IW n (Znk In e.1 e.2.2.2 F d):=by
 unfold Znk
 split
 ·rename_i hc
  simp only[z'h,y'C]at hc
  have hno:d.2.2∉F.map (·.1):=fun hm=>by rw[Zl3.2 hm]at hc;cases hc.2
  refine⟨?_,?_,?_⟩
  ·rw[z'F,z'z,y't]
   exact x'J.2 ⟨h.nd,by simp,fun a ha b hb=>by rw[x'g]at hb;subst hb;exact fun q=>hno (by rw[show d.2.2=a from q.symm];exact ha)⟩
  ·intro x hx
   rcases y'x.1 hx with hx|hx
   ·exact h.bd x hx
   ·rw[x'g]at hx;subst hx;exact hd
  ·intro j x hx
   rcases z'g j F.length with hj|hj
   ·rw[y'f hj]at hx
    rcases h.up j x hx with h1|⟨j',e',h1,h2,h3⟩
    ·exact .inl h1
    ·exact .inr ⟨j',e',h1,by rw[y'f (by omega)];exact h2,h3⟩
   ·rw[v'q hj]at hx
    have hi:i<F.length:=by
     rcases z'g i F.length with h|h
     ·exact h
     ·rw[z'x h]at he;cases he
    have hx':x=(d.2.2,e.1,d.2.1,e.2.2.2++[d.2.1]):=by
     cases hjj:j-F.length with
     |zero=>rw[hjj]at hx;simpa using hx.symm
     |succ k=>rw[hjj]at hx;simp at hx
    subst hx'
    exact .inr ⟨i,e,by omega,by rw[y'f hi];exact he,rfl,rfl⟩
 ·exact h
theorem IW.one {n:Nat} {a:Int} (h:0≤a∧a<n):IW n [(a, -1, -1,[])]:=by
 refine⟨by simp,fun e he=>by rw[x'g]at he;subst he;exact h,fun j e he=>?_⟩
 cases j with
 |zero=>cases he;exact .inl ⟨rfl,rfl⟩
 |succ j=>simp at he
def Zna (g:Cs) (In:List Bool):List Ed:=(ZfU g).filter fun e=>isB In e.1&&isB In e.2.2
inductive Rch (l:List Ed) (S:Int→Prop):Int→Prop where
 |base {x:Int}:S x→Rch l S x
 |step {e:Ed}:Rch l S e.1→e∈l→Rch l S e.2.2
inductive Way (l:List Ed) (a:Int):List Int→Int→Prop where
 |nil:Way l a [] a
 |snoc {w:List Int} {e:Ed}:Way l a w e.1→e∈l→Way l a (w++[e.2.1]) e.2.2
structure ZqE (g:Cs) (In:List Bool) (a b:Int) (i:Nat) (F:List Wy):Prop where
 iw:IW (v'3 g) F
 w: ∀e,e∈F→Way (Zna g In) a e.2.2.2 e.1∧isN In e.1=true
 cl: ∀(j:Nat) (e:Wy),j<i→F[j]?=some e→e.1≠b∧ ∀d,d∈Zna g In→d.1=e.1→d.2.2∈F.map (·.1)
structure RchI (l:List Ed) (S:Int→Prop) (n:Nat) (o:List Bool):Prop where
 len:o.length=n
 so: ∀i,i<n→o.getD i false=true→Rch l S (i:Int)
 base: ∀x:Int,S x→0≤x→x<n→o.getD x.toNat false=true
theorem Zg2 {o:List Bool} {i j:Nat} (hi:i<o.length):(o.set i true).getD j false=(decide (i=j)||o.getD j false):=by
 simp only[z'd,v'7]
 by_cases h:i=j
 ·subst h;simp[hi]
 ·simp[h]
theorem RchI.set {l:List Ed} {S:Int→Prop} {n:Nat} {o:List Bool} (h:RchI l S n o) {x:Int} (hx:0≤x∧x<n) (hr:Rch l S x):RchI l S n (o.set x.toNat true):=by
 have hl:x.toNat<o.length:=by rw[h.len];omega
 refine⟨by rw[y'u];exact h.len,fun i hi hd=>?_,fun y hy h0 h1=>?_⟩
 ·rw[Zg2 hl,x'O,decide_eq_true_eq]at hd
  rcases hd with hd|hd
  ·rw[show(i:Int)=x by omega];exact hr
  ·exact h.so i hi hd
 ·rw[Zg2 hl,h.base y hy h0 h1,v'Y]
theorem Zp0 (n:Nat):Zaz n [.bool false]=(List.replicate n false).map bD:=by
 show(List.replicate n [bD false]).flatten=_
 rw[v'e]
 induction n with
 |zero=>rfl
 |succ n ih=>rw[y's,z'X,ih,y's];rfl
theorem Zm0 {l:List Int} {k:Nat} (h:k<l.length) {x:Int}:x∈l.take (k+1)↔x∈l.take k∨x=l.getD k 0:=by
 rw[y'b,z'b h,z'd,z'b h]
 rw[y'x]
 simp
abbrev b0:ByteArray:=⟨#[]⟩
end Go.Proofs.YtomcmfbpmkklmaaGreat
/- Slices of one's own that begin at any place of their block: made, read, cut, appended to. No condition. -/
namespace Go.Vc
set_option linter.unusedSimpArgs false
set_option linter.unusedVariables false
open Go
end Go.Vc
/- Contracts: a way by some nodes, the program. No condition. -/
namespace Go.Proofs.YtomcmfbpmkklmaaGreat
set_option linter.unusedSimpArgs false
set_option linter.unusedVariables false
set_option maxRecDepth 20000
open Go Go.Proofs Go.Vc
attribute [local irreducible] y'0 VCg VCw VCx
end Go.Proofs.YtomcmfbpmkklmaaGreat
