/- The program's graph of sorted edges. No condition. -/
import Derived.Test.YtomcmfbpmkklmaaGreatBc
import Derived.Test.YtomcmfbpmkklmaaGreatDf
import Derived.Test.YtomcmfbpmkklmaaGreatYq
import Derived.Test.YtomcmfbpmkklmaaGreatFq
import Derived.Test.YtomcmfbpmkklmaaGreatSa
import Derived.Test.YtomcmfbpmkklmaaGreatCd
namespace Go.Proofs.YtomcmfbpmkklmaaGreat
set_option maxHeartbeats 16000000
set_option linter.unusedSimpArgs false
set_option linter.unusedVariables false
set_option maxRecDepth 20000
open Go Go.Proofs Go.Vc
def fnL (n:Nat) (f:Nat→Int):List Int:=(List.range n).map f
theorem v'V (n:Nat) (f:Nat→Int):(fnL n f).length=n:=by simp[fnL]
theorem ZdE {n:Nat} {f:Nat→Int} {i:Nat} (h:i<n):(fnL n f)[i]?=some (f i):=by simp[fnL,h]
theorem ZhM {n:Nat} {f:Nat→Int} {i:Nat} (h:i<n):((fnL n f).map iD)[i]?=some (iD (f i)):=by rw[z'4,ZdE h];rfl
theorem v'1 {n:Nat} {f g:Nat→Int} (h: ∀j,j<n→f j=g j):fnL n f=fnL n g:=by
 unfold fnL
 exact List.map_congr_left fun j hj=>h j (z'K.1 hj)
theorem ZeZ {n:Nat} {f:Nat→Int} {i:Nat} {v:Int} (h:i<n):(fnL n f).set i v=fnL n (fun j=>if j=i then v else f j):=by
 refine x'w fun j=>?_
 rcases z'g j n with hj|hj
 ·rw[ZdE hj]
  by_cases e:j=i
  ·subst e
   rw[List.getElem?_set_self (by rw[v'V];exact h),if_pos rfl]
  ·rw[v'y (fun h=>e h.symm),ZdE hj,if_neg e]
 ·rw[z'x (by rw[y'u,v'V];exact hj),z'x (by rw[v'V];exact hj)]
theorem ZhW (n:Nat):List.replicate n (0:Int)=fnL n (fun _=>0):=by
 refine x'w fun j=>?_
 rcases z'g j n with hj|hj
 ·rw[ZdE hj,List.getElem?_replicate,if_pos hj]
 ·rw[z'x (by rw[x'K];exact hj),z'x (by rw[v'V];exact hj)]
theorem Zn8 {α:Type} (l:List α) (d:α) (f:α→Int):fnL l.length (fun j=>f (l.getD j d))=l.map f:=by
 refine x'w fun j=>?_
 rcases z'g j l.length with hj|hj
 ·rw[ZdE hj,z'4,z'd,z'b hj];rfl
 ·rw[z'x (by rw[v'V];exact hj),z'x (by rw[z'p];exact hj)]
def Zcy (l:List Ed) (k i:Nat):Nat:=(l.take k).countP fun e=>e.1 == (i:Int)
theorem ZeQ {l:List Ed} {k:Nat} (hk:k<l.length) (i:Nat):Zcy l (k+1) i=Zcy l k i+if (l.getD k (0,0,0)).1=(i:Int)then 1 else 0:=by
 unfold Zcy
 rw[y'b,z'd,z'b hk,w'l,v'f,v'E,List.countP_nil,z'I]
 simp
theorem Zjl (l:List Ed) (k i:Nat):Zcy l k i≤l.length:=y'H Zag (by rw[z'A];omega)
theorem ZlV (l:List Ed) (i:Nat):Zcy l l.length i=(v'h l i).length:=by
 unfold Zcy v'h
 rw[z'Q,w'q]
def st1 (l:List Ed) (k j:Nat):Int:=if j=0 then 0 else(Zcy l k (j-1):Nat)
def st2 (l:List Ed) (i j:Nat):Int:=if j≤i then((upE l j).length:Nat)else(Zcy l l.length (j-1):Nat)
def nx1 (l:List Ed) (k j:Nat):Int:=(((upE l j).length+Zcy l k j:Nat):Int)
theorem Zqk (l:List Ed) (n:Nat):List.replicate n (0:Int)=fnL n (st1 l 0):=by
 rw[ZhW]
 exact v'1 fun j _=>by simp[st1,Zcy]
theorem Zod {l:List Ed} {n k i:Nat} (hk:k<l.length) (hi:(l.getD k (0,0,0)).1=(i:Int)) (hn:i<n):(fnL (n+1) (st1 l k)).set (i+1) (st1 l k (i+1)+1)=fnL (n+1) (st1 l (k+1)):=by
 rw[ZeZ (by omega)]
 refine v'1 fun j _=>?_
 by_cases e:j=i+1
 ·subst e
  rw[if_pos rfl]
  simp only[st1,ZeQ hk,hi,Nat.add_sub_cancel,if_pos]
  simp
 ·rw[if_neg e]
  unfold st1
  split
  ·rfl
  ·rw[ZeQ hk,hi,if_neg (by omega),w'M]
theorem Zqn (l:List Ed) (n:Nat):fnL n (st1 l l.length)=fnL n (st2 l 0):=v'1 fun j _=>by
 unfold st1 st2
 by_cases e:j=0
 ·subst e;rfl
 ·rw[if_neg e,if_neg (by omega)]
theorem ZnD {l:List Ed} {n i:Nat} (hi:i<n):(fnL (n+1) (st2 l i)).set (i+1) (st2 l i (i+1)+st2 l i i)=fnL (n+1) (st2 l (i+1)):=by
 rw[ZeZ (by omega)]
 refine v'1 fun j _=>?_
 unfold st2
 by_cases e:j=i+1
 ·subst e
  rw[if_pos rfl,if_neg (by omega),if_pos (z'v _),if_pos (z'v _),Zae,z'k,Nat.add_sub_cancel,ZlV]
  omega
 ·rw[if_neg e]
  by_cases h:j≤i
  ·rw[if_pos h,if_pos (by omega)]
  ·rw[if_neg h,if_neg (by omega)]
theorem Zng (l:List Ed) (n:Nat):fnL (n+1) (st2 l n)=(x'M n l).st:=by
 unfold x'M fnL
 exact List.map_congr_left fun j hj=>by
  have:=z'K.1 hj
  unfold st2
  rw[if_pos (by omega)]
theorem Zp4 (l:List Ed) (n:Nat):fnL (n+1) (st2 l n)=fnL (n+1) (nx1 l 0):=v'1 fun j hj=>by
 unfold st2 nx1
 rw[if_pos (by omega)]
 simp[Zcy]
theorem ZoP {l:List Ed} {n k i:Nat} (hk:k<l.length) (hi:(l.getD k (0,0,0)).1=(i:Int)) (hn:i<n):(fnL (n+1) (nx1 l k)).set i (nx1 l k i+1)=fnL (n+1) (nx1 l (k+1)):=by
 rw[ZeZ (by omega)]
 refine v'1 fun j _=>?_
 unfold nx1
 rw[ZeQ hk,hi]
 by_cases e:j=i
 ·subst e
  rw[if_pos rfl,if_pos rfl];omega
 ·rw[if_neg e,if_neg (by omega),w'M]
theorem ZpH {l:List Ed} (hs:Zbi l) (h0: ∀e,e∈l→0≤e.1) {k i:Nat} (hk:k<l.length) (hi:(l.getD k (0,0,0)).1=(i:Int)):nx1 l k i=(k:Nat):=by
 have he:l[k]?=some (l.getD k (0,0,0)):=by rw[z'd,z'b hk];rfl
 have h:=Zlo hs he
 rw[hi]at h
 unfold nx1 Zcy
 rw[ZkG hs h0,h]
def lay (l:List Ed) (f:Ed→Int) (k j:Nat):Int:=if j<k then f (l.getD j (0,0,0))else 0
theorem Zm8 (l:List Ed) (f:Ed→Int) (n:Nat):List.replicate n (0:Int)=fnL n (lay l f 0):=by
 rw[ZhW]
 exact v'1 fun j _=>by simp[lay]
theorem Zjr {l:List Ed} {f:Ed→Int} {k n:Nat} (hk:k<n):(fnL n (lay l f k)).set k (f (l.getD k (0,0,0)))=fnL n (lay l f (k+1)):=by
 rw[ZeZ hk]
 refine v'1 fun j _=>?_
 unfold lay
 by_cases e:j=k
 ·subst e
  rw[if_pos rfl,if_pos (by omega)]
 ·rw[if_neg e]
  by_cases h:j<k
  ·rw[if_pos h,if_pos (by omega)]
  ·rw[if_neg h,if_neg (by omega)]
theorem Zni (l:List Ed) (f:Ed→Int):fnL l.length (lay l f l.length)=l.map f:=by
 rw[←Zn8 l (0,0,0) f]
 exact v'1 fun j hj=>by unfold lay;rw[if_pos hj]
theorem VCd.sim {P:Program} {n:Nat} {ops:Array Oper} {E:Nat→D} {H:Heap} {Q:Exit→St→Prop} (J:(Nat→Prop)→(Nat→D)→Heap→Prop) (s e f:Nat) (hse:Nat.ble s e=true) (hef:Nat.ble e f=true) (hB:Zbj ops f=true) (hbar:Zdd ops s e=true) (hd:ops.toList.all (w'4 n)=true)
  (h0:J (fun k=>k<s) E H)
  (hst: ∀(L:Nat→Prop) (E':Nat→D) (H':Heap) (i:Nat) (o:Oper),J L E' H'→ops[i]?=some o→s≤i→i<e→ ¬L i→(∀ed∈o.after,Region.binds .any ed=true→L ed.on)→o.guard=none∧OpS P o (evD E') H' (fun d H''=>J (fun k=>k=i∨L k) (updO E' o.dst d) H''))
  (h: ∀E' H',J (fun k=>k<e) E' H'→VCd P n ops e ⟨E',H'⟩ Q):VCd P n ops s ⟨E,H⟩ Q:=by
 have hB:=ZaI hB
 have hef:e≤f:=w'J hef
 have hse:s≤e:=w'J hse
 intro x a0 w hn' hn hs hsz hl0
 have hdst: ∀k t,y'd ops k=some t→t<x.n:=fun k t hk=>hn▸Zdq (l:=ops.toList) hd k t (by simpa using hk)
 refine Zll (I:=fun listed a w=>listed.size=ops.size∧(∀k o,ops[k]?=some o→isL listed k→ ∀ed∈o.after,Region.binds .any ed=true→isL listed ed.on)∧ ∃E' H',SRel x ⟨E',H'⟩ a w∧J (isL listed) E' H') hB hef (fun i h1 h2 k h0 hk=>ZcJ hbar i h1 h2 k h0 hk) (fun l a w h=>h.1) (fun l a w h=>h.2.1) ?_ ?_ _ hn' a0 w ?_ (fun k hk=>(hl0 k).2 hk) (fun k hk=>by have:=(hl0 k).1 hk;omega) ⟨hsz,?_,E,H,hs,?_⟩
 ·rintro listed a w i ⟨h1,h2,E',H',h3,h4⟩ hr hsi hie
  obtain⟨hisz,hil,o,ho,hready⟩:=x'D h1 hr
  obtain⟨hg,hop⟩:=hst (isL listed) E' H' i o h4 ho hsi hie hil hready
  have hdi:y'd ops i=o.dst:=by simp[y'd,ho]
  have hm:isL (listed.setIfInBounds i true)=fun k=>k=i∨isL listed k:=by funext k;exact propext (w'R (by omega))
  unfold wpOp
  rw[ho]
  simp only
  rw[if_pos (by simp[Region.wanted,hg])]
  refine .inl ((hop w x.L0 a.eval h3.inv (fun y _=>h3.ev y)).upon ?_)
  rintro v w' ⟨d,H'',hJ,hv,hi',he⟩
  refine⟨by simp[h1],?_,updO E' o.dst d,H'',h3.put (fun t ht=>hdst i t (by rw[hdi,ht])) hv hi' he,by rw[hm];exact hJ⟩
  intro k ok hok hk ed hed hb
  rw[hm]at hk⊢
  rcases hk with rfl|hk
  ·rw[ho]at hok;cases hok
   exact .inr (hready ed hed hb)
  ·exact .inr (h2 k ok hok hk ed hed hb)
 ·rintro listed a w hl ⟨h1,h2,E',H',h3,h4⟩
  have hm:isL listed=fun k=>k<e:=by funext k;exact propext (hl k)
  exact h E' H' (by rw[←hm];exact h4) x a w listed hn h3 h1 hl
 ·unfold unl
  have key: ∀m,m≤ops.size→((List.range m).filter fun k=> !hn'.getD k true).length=m-s:=by
   intro m
   induction m with
   |zero=>intro _;simp
   |succ m ihm=>
    intro hm
    rw[y'p,y'r,z'k,ihm (by omega)]
    by_cases hmf:m<s
    ·have:hn'.getD m true=true:=(y'4 (by rw[hsz];omega)).2 ((hl0 m).2 hmf)
     rw[x'P,this];simp;omega
    ·have:hn'.getD m true=false:=by
      cases hq:hn'.getD m true with
      |false=>rfl
      |true=>exact absurd ((hl0 m).1 ((y'4 (by rw[hsz];omega)).1 hq)) hmf
     rw[x'P,this];simp;omega
  exact key ops.size (z'v _)
 ·intro k ok hok hk ed hed hb
  have h1:=hB.back k ok hok ed hed hb
  have h2:=(hl0 k).1 hk
  exact(hl0 _).2 (by omega)
 ·have hm:isL hn'=fun k=>k<s:=by funext k;exact propext (hl0 k)
  rw[hm];exact h0
attribute [local irreducible] y'0 VCg VCw VCx
abbrev zC (l:Nat):HC:= .cells 3 (l*1) ((List.replicate l (0:Int)).map iD)
def oB (l:Nat):Option Nat→Heap
 |none=>[]
 |some b=>[(b,zC l)]
def oG:Option Nat→Heap
 |none=>[]
 |some b=>[(b,.cells 32 3 [.gs none 0,.gs none 0,.gs none 0])]
abbrev gsZ (b l:Nat):D:= .gs (some (b,l)) l
structure J16 (E0:Nat→D) (l:Nat) (S M:D) (H0:Heap) (L:Nat→Prop) (E:Nat→D) (H:Heap) (xa xt xg:Option Nat):Prop where
 old: ∀t,t<82→t≠10→E t=E0 t
 s0:L 0→E 82=S
 s1:L 1→E 83=M
 s2:L 2→E 84=iD (l:Nat)
 s4:L 4→E 86=M
 s5:L 5→E 87=iD (l:Nat)
 a:L 3→ ∃b,xa=some b∧E 85=gsZ b l
 a': ¬L 3→xa=none
 t:L 6→ ∃b,xt=some b∧E 88=gsZ b l
 t': ¬L 6→xt=none
 g:L 8→ ∃b,xg=some b∧E 10=pD b
 g': ¬L 8→xg=none
 v:L 7→ ∃b c,xa=some b∧xt=some c∧E 89= .agg [S,gsZ b l,gsZ c l]
 hp:H.Perm (oB l xa++(oB l xt++(oG xg++H0)))
theorem Zjk: ∀(X Y:List D) (o:Nat),o+X.length=Y.length→setL Y o X=Y.take o++X
 |[],Y,o,h=>by
  simp only[z'5]at h
  rw[setL,z'r,z'V (by omega)]
 |c::X,Y,o,h=>by
  simp only[z'D]at h
  rw[setL,Zjk X (Y.set o c) (o+1) (by rw[y'u];omega),y'b,List.getElem?_set_self (by omega),List.take_set_of_le (z'v _)]
  simp
theorem ZlP (X Y:List D) (h:X.length=Y.length):setL Y 0 X=X:=by rw[Zjk X Y 0 (by omega)];rfl
theorem ZbN {E:Nat→D} {s:Nat} {d:D}:upd E s d s=d:=by simp[upd]
theorem y'R {E:Nat→D} {s t:Nat} {d:D} (h:s≠t):upd E s d t=E t:=by
 have:(s == t)=false:=by rw[beq_eq_false_iff_ne];exact h
 simp[upd,this]
theorem Zqh {P:Program} (T:Tab P) {o:Oper} {E:Nat→D} {H:Heap} {Φ:D→Heap→Prop} (h: ∀K:D→Heap→Prop,(∀d H',Φ d H'→K d H')→opC T o (evD E) H K):OpS P o (evD E) H Φ:=ZoL T (h Φ fun _ _ q=>q)
section
variable {E0 E : Nat → D} {l : Nat} {S M : D} {H0 H : Heap} {L : Nat → Prop} {xa xt xg : Option Nat}
theorem J16.mv {k s:Nat} {d:D} (j:J16 E0 l S M H0 L E H xa xt xg) (hs:(k=0∧s=82∧d=S)∨(k=1∧s=83∧d=M)∨(k=2∧s=84∧d=iD (l:Nat))∨(k=4∧s=86∧d=M)∨(k=5∧s=87∧d=iD (l:Nat))):
  J16 E0 l S M H0 (fun i=>i=k∨L i) (upd E s d) H xa xt xg:=by
 rcases hs with⟨rfl,rfl,rfl⟩|⟨rfl,rfl,rfl⟩|⟨rfl,rfl,rfl⟩|⟨rfl,rfl,rfl⟩|⟨rfl,rfl,rfl⟩
 all_goals exact
  {old:=fun t h1 h2=>(y'R (by omega)).trans (j.old t h1 h2)
   s0:=fun h=>by first|exact ZbN|exact(y'R (by decide)).trans (j.s0 (h.resolve_left (by decide)))
   s1:=fun h=>by first|exact ZbN|exact(y'R (by decide)).trans (j.s1 (h.resolve_left (by decide)))
   s2:=fun h=>by first|exact ZbN|exact(y'R (by decide)).trans (j.s2 (h.resolve_left (by decide)))
   s4:=fun h=>by first|exact ZbN|exact(y'R (by decide)).trans (j.s4 (h.resolve_left (by decide)))
   s5:=fun h=>by first|exact ZbN|exact(y'R (by decide)).trans (j.s5 (h.resolve_left (by decide)))
   a:=fun h=>let ⟨b,h1,h2⟩:=j.a (h.resolve_left (by decide));⟨b,h1,(y'R (by decide)).trans h2⟩
   a':=fun h=>j.a' fun q=>h (.inr q)
   t:=fun h=>let ⟨b,h1,h2⟩:=j.t (h.resolve_left (by decide));⟨b,h1,(y'R (by decide)).trans h2⟩
   t':=fun h=>j.t' fun q=>h (.inr q)
   g:=fun h=>let ⟨b,h1,h2⟩:=j.g (h.resolve_left (by decide));⟨b,h1,(y'R (by decide)).trans h2⟩
   g':=fun h=>j.g' fun q=>h (.inr q)
   v:=fun h=>let ⟨b,c,h1,h2,h3⟩:=j.v (h.resolve_left (by decide));⟨b,c,h1,h2,(y'R (by decide)).trans h3⟩
   hp:=j.hp}
theorem J16.mkA {b:Nat} (j:J16 E0 l S M H0 L E H xa xt xg) (h3: ¬L 3):J16 E0 l S M H0 (fun i=>i=3∨L i) (upd E 85 (gsZ b l)) ((b,zC l)::H) (some b) xt xg where
 old t h1 h2:=(y'R (by omega)).trans (j.old t h1 h2)
 s0 h:=(y'R (by decide)).trans (j.s0 (h.resolve_left (by decide)))
 s1 h:=(y'R (by decide)).trans (j.s1 (h.resolve_left (by decide)))
 s2 h:=(y'R (by decide)).trans (j.s2 (h.resolve_left (by decide)))
 s4 h:=(y'R (by decide)).trans (j.s4 (h.resolve_left (by decide)))
 s5 h:=(y'R (by decide)).trans (j.s5 (h.resolve_left (by decide)))
 a _:=⟨b,rfl,ZbN⟩
 a' h:=absurd (.inl rfl) h
 t h:=let ⟨b,h1,h2⟩:=j.t (h.resolve_left (by decide));⟨b,h1,(y'R (by decide)).trans h2⟩
 t' h:=j.t' fun q=>h (.inr q)
 g h:=let ⟨b,h1,h2⟩:=j.g (h.resolve_left (by decide));⟨b,h1,(y'R (by decide)).trans h2⟩
 g' h:=j.g' fun q=>h (.inr q)
 v h:=by
  obtain⟨b,c,q,_⟩:=j.v (h.resolve_left (by decide))
  rw[j.a' h3]at q;cases q
 hp:=by
  have:=j.hp
  rw[j.a' h3]at this
  exact this.cons _
theorem J16.mkT {b:Nat} (j:J16 E0 l S M H0 L E H xa xt xg) (h6: ¬L 6):J16 E0 l S M H0 (fun i=>i=6∨L i) (upd E 88 (gsZ b l)) ((b,zC l)::H) xa (some b) xg where
 old t h1 h2:=(y'R (by omega)).trans (j.old t h1 h2)
 s0 h:=(y'R (by decide)).trans (j.s0 (h.resolve_left (by decide)))
 s1 h:=(y'R (by decide)).trans (j.s1 (h.resolve_left (by decide)))
 s2 h:=(y'R (by decide)).trans (j.s2 (h.resolve_left (by decide)))
 s4 h:=(y'R (by decide)).trans (j.s4 (h.resolve_left (by decide)))
 s5 h:=(y'R (by decide)).trans (j.s5 (h.resolve_left (by decide)))
 a h:=let ⟨b,h1,h2⟩:=j.a (h.resolve_left (by decide));⟨b,h1,(y'R (by decide)).trans h2⟩
 a' h:=j.a' fun q=>h (.inr q)
 t _:=⟨b,rfl,ZbN⟩
 t' h:=absurd (.inl rfl) h
 g h:=let ⟨b,h1,h2⟩:=j.g (h.resolve_left (by decide));⟨b,h1,(y'R (by decide)).trans h2⟩
 g' h:=j.g' fun q=>h (.inr q)
 v h:=by
  obtain⟨b,c,_,q,_⟩:=j.v (h.resolve_left (by decide))
  rw[j.t' h6]at q;cases q
 hp:=by
  have:=j.hp
  rw[j.t' h6]at this
  exact(this.cons _).trans List.perm_middle.symm
theorem J16.mkG {b:Nat} (j:J16 E0 l S M H0 L E H xa xt xg) (h8: ¬L 8):J16 E0 l S M H0 (fun i=>i=8∨L i) (upd E 10 (pD b)) ((b,.cells 32 3 [.gs none 0,.gs none 0,.gs none 0])::H) xa xt (some b) where
 old t h1 h2:=(y'R (fun e=>h2 e.symm)).trans (j.old t h1 h2)
 s0 h:=(y'R (by decide)).trans (j.s0 (h.resolve_left (by decide)))
 s1 h:=(y'R (by decide)).trans (j.s1 (h.resolve_left (by decide)))
 s2 h:=(y'R (by decide)).trans (j.s2 (h.resolve_left (by decide)))
 s4 h:=(y'R (by decide)).trans (j.s4 (h.resolve_left (by decide)))
 s5 h:=(y'R (by decide)).trans (j.s5 (h.resolve_left (by decide)))
 a h:=let ⟨b,h1,h2⟩:=j.a (h.resolve_left (by decide));⟨b,h1,(y'R (by decide)).trans h2⟩
 a' h:=j.a' fun q=>h (.inr q)
 t h:=let ⟨b,h1,h2⟩:=j.t (h.resolve_left (by decide));⟨b,h1,(y'R (by decide)).trans h2⟩
 t' h:=j.t' fun q=>h (.inr q)
 g _:=⟨b,rfl,ZbN⟩
 g' h:=absurd (.inl rfl) h
 v h:=let ⟨b,c,h1,h2,h3⟩:=j.v (h.resolve_left (by decide));⟨b,c,h1,h2,(y'R (by decide)).trans h3⟩
 hp:=by
  have:=j.hp
  rw[j.g' h8]at this
  exact(this.cons _).trans (List.perm_middle.symm.trans (List.Perm.append_left _ List.perm_middle.symm))
theorem J16.agg {a b:Nat} (j:J16 E0 l S M H0 L E H xa xt xg) (ha:xa=some a) (hb:xt=some b):J16 E0 l S M H0 (fun i=>i=7∨L i) (upd E 89 (.agg [S,gsZ a l,gsZ b l])) H xa xt xg where
 old t h1 h2:=(y'R (by omega)).trans (j.old t h1 h2)
 s0 h:=(y'R (by decide)).trans (j.s0 (h.resolve_left (by decide)))
 s1 h:=(y'R (by decide)).trans (j.s1 (h.resolve_left (by decide)))
 s2 h:=(y'R (by decide)).trans (j.s2 (h.resolve_left (by decide)))
 s4 h:=(y'R (by decide)).trans (j.s4 (h.resolve_left (by decide)))
 s5 h:=(y'R (by decide)).trans (j.s5 (h.resolve_left (by decide)))
 a h:=let ⟨b,h1,h2⟩:=j.a (h.resolve_left (by decide));⟨b,h1,(y'R (by decide)).trans h2⟩
 a' h:=j.a' fun q=>h (.inr q)
 t h:=let ⟨b,h1,h2⟩:=j.t (h.resolve_left (by decide));⟨b,h1,(y'R (by decide)).trans h2⟩
 t' h:=j.t' fun q=>h (.inr q)
 g h:=let ⟨b,h1,h2⟩:=j.g (h.resolve_left (by decide));⟨b,h1,(y'R (by decide)).trans h2⟩
 g' h:=j.g' fun q=>h (.inr q)
 v _:=⟨a,b,ha,hb,ZbN⟩
 hp:=j.hp
end
theorem ZlD (n:Nat) (l:List Ed) (hl:l.length≤1000000) (hn:n≤100000) (hs:Zbi l) (hE: ∀e,e∈l→0≤e.1∧e.1<n∧0≤e.2.2∧e.2.2<n∧0≤e.2.1):Pure Tryz.prog 85 [iD (n:Nat),v'p l] (.tup [.agg (csC (x'M n l)),iD 0]):=by
 have h0: ∀e,e∈l→0≤e.1:=fun e he=>(hE e he).1
 have w0:IntKind.i64.wrap ((n:Int)+1)=((n+1:Nat):Int):=by rw[w64 (by omega)];omega
 refine Fun.fz ?_
 refine Fun.of T [.cell 4 32,.tmp 5] Tryz.func85 rfl Tryz.ntmps85 Tryz.results85 rfl (by kernel_rfl) ?_
 repeat' first|refine vs T rfl fun K hK=>?_;(try simp (disch:=omega) only[go_sem,Nat.reduceBEq,Nat.reduceAdd,w'7,w0,z'o]);(first|refine hK _ _ ?_;clear hK K|intro bq hbq;(try simp only[HB]at hbq);refine hK _ _ ?_;clear hK K|refine⟨?_,fun bq hbq=>?_⟩;rotate_left;(try simp only[HB]at hbq);refine hK _ _ ?_;all_goals clear hK K)|refine st rfl ?_|refine sc rfl ?_|refine nl ?_|refine gs rfl rfl ?_|with_reducible refine z's (fun hc=>?_) (fun hc=>?_)<;>(try simp only[decide_eq_true_eq,decide_eq_false_iff_not,gt_iff_lt,z'u]at hc)<;>(try(exfalso;omega))
 case refine_1=>exact⟨by omega,by omega,by omega⟩
 rename_i b4 _
 revert bq
 intro bs hbs
 refine VC.loop {k:Nat//k≤l.length} (fun p=>⟨z'M [(0,iD (n:Nat)),(1,v'p l),(4,pD b4),(6,.gs (some (bs,n+1)) (n+1)),(25,v'p l),(26,iD (l.length:Nat)),(27,iD (p.1:Nat))],[(bs,.cells 3 ((n+1)*1) ((fnL (n+1) (st1 l p.1)).map iD)),(b4,.cells 32 3 [.gs none 0,.gs none 0,.gs none 0])]⟩) (fun p=>l.length-p.1) ⟨0,z'6 _⟩ ?_ ?_
 ·refine z'G (by rw[ZdC,Zqk]) ?_
  simp[sub,upd]
 rintro⟨k,hk⟩
 dsimp only at hk⊢
 rcases z'g k l.length with hlt|hge
 ·have he:=hE _ (w'w (d:=(0,0,0)) hlt)
  obtain⟨i,hi⟩: ∃i:Nat,(l.getD k (0,0,0)).1=(i:Int):=⟨(l.getD k (0,0,0)).1.toNat,by omega⟩
  have w1:IntKind.i64.wrap ((i:Int)+1)=((i+1:Nat):Int):=by rw[w64 (by omega)];omega
  have r1:((fnL (n+1) (st1 l k)).map iD)[i+1]?=some (iD (st1 l k (i+1))):=ZhM (by omega)
  have q1:0≤st1 l k (i+1)∧st1 l k (i+1)≤1000000:=by unfold st1;rw[if_neg (by omega)];have:=Zjl l k (i+1-1);omega
  have w2:IntKind.i64.wrap (st1 l k (i+1)+1)=st1 l k (i+1)+1:=w64 (by omega)
  have hset:=Zod hlt hi (n:=n) (by omega)
  repeat' first|refine vs T rfl fun K hK=>?_;(try simp (disch:=omega) only[go_sem,Nat.reduceBEq,Nat.reduceAdd,Nat.reduceLeDiff,Zci,edR,hi,w1,w2,r1,w64,z'o,z'p,v'V,z'w]);(first|refine hK _ _ ?_;clear hK K|intro bq hbq;(try simp only[HB]at hbq);refine hK _ _ ?_;clear hK K|refine⟨?_,hK _ _ ?_⟩<;>clear hK K;focus(try omega))|refine st rfl ?_|refine sc rfl ?_|refine nl ?_|refine gs rfl rfl ?_|with_reducible refine z's (fun hc=>?_) (fun hc=>?_)<;>(try simp only[decide_eq_true_eq,decide_eq_false_iff_not,ge_iff_le,x'd,z'u]at hc)<;>(try(exfalso;omega))
  refine⟨⟨k+1,hlt⟩,y'S ?_ ?_,by dsimp only;omega⟩
  ·dsimp only
   rw[←hset,y'k,z'w]
  ·simp[sub,upd]
 obtain rfl:k=l.length:=by omega
 repeat' first|refine vs T rfl fun K hK=>?_;(try simp (disch:=omega) only[go_sem,Nat.reduceBEq]);(refine hK _ _ ?_;clear hK K)|refine st rfl ?_|refine sc rfl ?_|refine nl ?_|with_reducible refine z's (fun hc=>?_) (fun hc=>?_)<;>(try simp only[decide_eq_true_eq,decide_eq_false_iff_not,z'u]at hc)<;>(try(exfalso;omega))
 refine VC.loop {i:Nat//i≤n} (fun p=>⟨z'M [(0,iD (n:Nat)),(1,v'p l),(4,pD b4),(6,.gs (some (bs,n+1)) (n+1)),(66,iD (n:Nat)),(67,iD (p.1:Nat))],[(bs,.cells 3 ((n+1)*1) ((fnL (n+1) (st2 l p.1)).map iD)),(b4,.cells 32 3 [.gs none 0,.gs none 0,.gs none 0])]⟩) (fun p=>n-p.1) ⟨0,z'6 _⟩ ?_ ?_
 ·refine z'G (by rw[Zqn]) ?_
  simp[sub,upd]
 rintro⟨i,hi⟩
 dsimp only at hi⊢
 rcases z'g i n with hlt|hge
 ·have w1:IntKind.i64.wrap ((i:Int)+1)=((i+1:Nat):Int):=by rw[w64 (by omega)];omega
  have r1:((fnL (n+1) (st2 l i)).map iD)[i+1]?=some (iD (st2 l i (i+1))):=ZhM (by omega)
  have r2:((fnL (n+1) (st2 l i)).map iD)[i]?=some (iD (st2 l i i)):=ZhM (by omega)
  have q1: ∀j,0≤st2 l i j∧st2 l i j≤1000000:=fun j=>by
   unfold st2
   have h1:=Zik l j
   have h2:=Zjl l l.length (j-1)
   split<;>omega
  have q2:=q1 (i+1)
  have q3:=q1 i
  have w2:IntKind.i64.wrap (st2 l i (i+1)+st2 l i i)=st2 l i (i+1)+st2 l i i:=w64 (by omega)
  have hset:=ZnD hlt (l:=l)
  repeat' first|refine dr (id:=14) T 9 (by kernel_rfl) ?_|refine gn ?_|(first|apply VCg.step T rfl rfl|apply exF);focus((try simp (disch:=omega) only[go_sem,Nat.reduceBEq,w1,r1,r2,z'o,z'w]);(first|exact rfl|refine⟨?_,rfl⟩;try omega))|refine vs T rfl fun K hK=>?_;(try simp (disch:=omega) only[go_sem,Nat.reduceBEq,Nat.reduceLeDiff,w1,w2,z'o,z'p,v'V,z'w]);(first|refine hK _ _ ?_;clear hK K|refine⟨?_,hK _ _ ?_⟩<;>clear hK K;focus(try omega))|refine st rfl ?_|refine sc rfl ?_|refine nl ?_|with_reducible refine z's (fun hc=>?_) (fun hc=>?_)<;>(try simp only[decide_eq_true_eq,decide_eq_false_iff_not,z'u]at hc)<;>(try(exfalso;omega))
  refine⟨⟨i+1,hlt⟩,z'G ?_ ?_,by dsimp only;omega⟩
  ·dsimp only
   rw[←hset,y'k,z'w]
  ·simp[sub,upd]
 obtain rfl:i=n:=by omega
 repeat' first|refine VC.drawS (id:=16) (by kernel_rfl) ?_|refine vs T rfl fun K hK=>?_;(try simp (disch:=omega) only[go_sem,Nat.reduceBEq]);(refine hK _ _ ?_;clear hK K)|refine st rfl ?_|refine sc rfl ?_|refine nl ?_|with_reducible refine z's (fun hc=>?_) (fun hc=>?_)<;>(try simp only[decide_eq_true_eq,decide_eq_false_iff_not,z'u]at hc)<;>(try(exfalso;omega))
 generalize hE0:(upd _ _ _:Nat→D)=E0
 refine VCd.sim (fun L E H=> ∃xa xt xg,J16 E0 l.length (gsZ bs (i+1)) (v'p l) [(bs,.cells 3 ((i+1)*1) ((fnL (i+1) (st2 l i)).map iD)),(b4,.cells 32 3 [.gs none 0,.gs none 0,.gs none 0])] L E H xa xt xg) 0 9 9 (by kernel_rfl) (by kernel_rfl) (by kernel_rfl) (by kernel_rfl) (by kernel_rfl) ?_ ?_ ?_
 ·refine⟨none,none,none,⟨fun t _ _=>rfl,fun h=>absurd h (w'x _),fun h=>absurd h (w'x _),fun h=>absurd h (w'x _),fun h=>absurd h (w'x _),fun h=>absurd h (w'x _),fun h=>absurd h (w'x _),fun _=>rfl,fun h=>absurd h (w'x _),fun _=>rfl,fun h=>absurd h (w'x _),fun _=>rfl,fun h=>absurd h (w'x _),y'G _⟩⟩
 ·rintro L E' H' k o ⟨xa,xt,xg,j⟩ ho _ hk hL hdep
  have o6:E' 6=gsZ bs (i+1):=(j.old 6 (by decide) (by decide)).trans (by rw[←hE0];rfl)
  have o1:E' 1=v'p l:=(j.old 1 (by decide) (by decide)).trans (by rw[←hE0];rfl)
  have hk9:k=0∨k=1∨k=2∨k=3∨k=4∨k=5∨k=6∨k=7∨k=8:=by omega
  rcases hk9 with rfl|rfl|rfl|rfl|rfl|rfl|rfl|rfl|rfl
  all_goals
   simp only[Zaf,w'A,w'9,y'i]at ho
   subst ho
   refine⟨rfl,Zqh T fun K hK=>?_⟩
  ·simp (disch:=omega) only[go_sem,Nat.reduceBEq,Nat.reduceAdd,Nat.reduceMul,Nat.reduceSub,Nat.reduceLeDiff,Int.reduceToNat,o6,o1]
   exact hK _ _ ⟨xa,xt,xg,j.mv (by simp)⟩
  ·simp (disch:=omega) only[go_sem,Nat.reduceBEq,Nat.reduceAdd,Nat.reduceMul,Nat.reduceSub,Nat.reduceLeDiff,Int.reduceToNat,o6,o1]
   exact hK _ _ ⟨xa,xt,xg,j.mv (by simp)⟩
  ·have q:=j.s1 (hdep ⟨1,.data⟩ (by simp) (by decide))
   simp (disch:=omega) only[go_sem,Nat.reduceBEq,Nat.reduceAdd,Nat.reduceMul,Nat.reduceSub,Nat.reduceLeDiff,Int.reduceToNat,o6,o1,q,w'7]
   exact hK _ _ ⟨xa,xt,xg,j.mv (by simp)⟩
  ·have q:=j.s2 (hdep ⟨2,.data⟩ (by simp) (by decide))
   simp (disch:=omega) only[go_sem,Nat.reduceBEq,Nat.reduceAdd,Nat.reduceMul,Nat.reduceSub,Nat.reduceLeDiff,Int.reduceToNat,o6,o1,q,ZdC,z'o]
   exact⟨⟨by omega,by omega,by omega⟩,fun b _=>hK _ _ ⟨_,_,_,j.mkA hL⟩⟩
  ·simp (disch:=omega) only[go_sem,Nat.reduceBEq,Nat.reduceAdd,Nat.reduceMul,Nat.reduceSub,Nat.reduceLeDiff,Int.reduceToNat,o6,o1]
   exact hK _ _ ⟨xa,xt,xg,j.mv (by simp)⟩
  ·have q:=j.s4 (hdep ⟨4,.data⟩ (by simp) (by decide))
   simp (disch:=omega) only[go_sem,Nat.reduceBEq,Nat.reduceAdd,Nat.reduceMul,Nat.reduceSub,Nat.reduceLeDiff,Int.reduceToNat,o6,o1,q,w'7]
   exact hK _ _ ⟨xa,xt,xg,j.mv (by simp)⟩
  ·have q:=j.s5 (hdep ⟨5,.data⟩ (by simp) (by decide))
   simp (disch:=omega) only[go_sem,Nat.reduceBEq,Nat.reduceAdd,Nat.reduceMul,Nat.reduceSub,Nat.reduceLeDiff,Int.reduceToNat,o6,o1,q,ZdC,z'o]
   exact⟨⟨by omega,by omega,by omega⟩,fun b _=>hK _ _ ⟨_,_,_,j.mkT hL⟩⟩
  ·obtain⟨a,ha,qa⟩:=j.a (hdep ⟨3,.data⟩ (by simp) (by decide))
   obtain⟨c,hc,qc⟩:=j.t (hdep ⟨6,.data⟩ (by simp) (by decide))
   have q:=j.s0 (hdep ⟨0,.data⟩ (by simp) (by decide))
   simp (disch:=omega) only[go_sem,Nat.reduceBEq,Nat.reduceAdd,Nat.reduceMul,Nat.reduceSub,Nat.reduceLeDiff,Int.reduceToNat,o6,o1,q,qa,qc]
   exact hK _ _ ⟨_,_,_,j.agg ha hc⟩
  ·simp (disch:=omega) only[go_sem,Nat.reduceBEq,Nat.reduceAdd,Nat.reduceMul,Nat.reduceSub,Nat.reduceLeDiff,Int.reduceToNat,o6,o1]
   exact fun b _=>hK _ _ ⟨_,_,_,j.mkG hL⟩
 rintro E' H' ⟨xa,xt,xg,j⟩
 obtain⟨ba,rfl,q85⟩:=j.a (by decide)
 obtain⟨bt,rfl,q88⟩:=j.t (by decide)
 obtain⟨bg,rfl,q10⟩:=j.g (by decide)
 obtain⟨_,_,r1,r2,q89⟩:=j.v (by decide)
 cases r1
 cases r2
 have hp:=j.hp
 have old: ∀t,t<82→t≠10→E' t=E0 t:=j.old
 clear j
 refine VCd.weak (Weak.perm hp) ?_
 simp only[oB,oG,z'T,z'N]
 refine VCd.tail (f:=9) (by kernel_rfl) ?_
 simp only[y'w,y'o,List.drop_nil]
 have o0:E' 0=iD (i:Nat):=(old 0 (by decide) (by decide)).trans (by rw[←hE0];rfl)
 have o1:E' 1=v'p l:=(old 1 (by decide) (by decide)).trans (by rw[←hE0];rfl)
 have o4:E' 4=pD b4:=(old 4 (by decide) (by decide)).trans (by rw[←hE0];rfl)
 have o6:E' 6=gsZ bs (i+1):=(old 6 (by decide) (by decide)).trans (by rw[←hE0];rfl)
 refine VCo.weak (z'G (env':=[(0,iD (i:Nat)),(1,v'p l),(4,pD b4),(6,gsZ bs (i+1)),(10,pD bg),(89,.agg [gsZ bs (i+1),gsZ ba l.length,gsZ bt l.length])]) rfl (by simp[sub,o0,o1,o4,o6,q10,q89])) ?_
 clear o0 o1 o4 o6 old hp q10 q89 q85 q88 hE0 E0 E'
 refine VCo.nodup fun hn=>?_
 simp only[Heap.blocks,z'z,y't,x'A,z'L,not_or,x'H,not_false_eq_true,and_true]at hn
 obtain⟨⟨n1,n2,n3,n4⟩,⟨n5,n6,n7⟩,⟨n8,n9⟩,n10,_⟩:=hn
 refine ov ?_
 repeat' first|refine vs T rfl fun K hK=>?_;(try simp (disch:=omega) only[go_sem,Nat.reduceBEq,Nat.reduceAdd,Nat.reduceLeDiff,w'7,w0,z'o,ZdC]);(first|refine hK _ _ ?_;clear hK K|refine⟨?_,fun bq hbq=>?_⟩;rotate_left;(try simp only[HB]at hbq);refine hK _ _ ?_;all_goals clear hK K|refine Zgn T rfl ?_;(simp (disch:=omega) only[go_sem,Nat.reduceBEq,z'p,v'V,x'K]);(refine⟨?_,?_,hK _ _ ?_⟩<;>clear hK K))|refine st rfl ?_|refine nl ?_
 any_goals omega
 ·have q:Nat.min (i+1) (i+1)=i+1:=Nat.min_self _
  rw[q];omega
 revert bq
 intro bn hbn
 have hA:=Zm8 l (fun e=>e.2.1) l.length
 have hT:=Zm8 l (fun e=>e.2.2) l.length
 refine VC.loop {k:Nat//k≤l.length} (fun p=>⟨z'M [(0,iD (i:Nat)),(1,v'p l),(4,pD b4),(10,pD bg),(11,gsZ bn (i+1)),(96,v'p l),(97,iD (l.length:Nat)),(98,iD (p.1:Nat))],
  [(bn,.cells 3 ((i+1)*1) ((fnL (i+1) (nx1 l p.1)).map iD)),(ba,.cells 3 (l.length*1) ((fnL l.length (lay l (fun e=>e.2.1) p.1)).map iD)),(bt,.cells 3 (l.length*1) ((fnL l.length (lay l (fun e=>e.2.2) p.1)).map iD)),(bg,.cells 32 3 [gsZ bs (i+1),gsZ ba l.length,gsZ bt l.length]),(bs,.cells 3 ((i+1)*1) ((fnL (i+1) (st2 l i)).map iD)),(b4,.cells 32 3 [.gs none 0,.gs none 0,.gs none 0])]⟩) (fun p=>l.length-p.1) ⟨0,z'6 _⟩ ?_ ?_
 ·refine z'G ?_ ?_
  ·dsimp only
   rw[←hA, ←hT, ←Zp4]
   have q:Nat.min (i+1) (i+1)=i+1:=Nat.min_self _
   have z:((fnL (i+1) (st2 l i)).map iD).length=i+1:=by rw[z'p,v'V]
   rw[q,z'w,List.take_take,Nat.min_self,z'V (by omega),ZlP _ _ (by rw[z,z'D,z'p,x'K])]
  ·simp[sub,upd]
 rintro⟨k,hk⟩
 dsimp only at hk⊢
 rcases z'g k l.length with hlt|hge
 ·have he:=hE _ (w'w (d:=(0,0,0)) hlt)
  obtain⟨a,hi⟩: ∃i:Nat,(l.getD k (0,0,0)).1=(i:Int):=⟨(l.getD k (0,0,0)).1.toNat,by omega⟩
  have hat:=ZpH hs h0 hlt hi
  have r1:((fnL (i+1) (nx1 l k)).map iD)[a]?=some (iD (k:Nat)):=by rw[ZhM (by omega),hat]
  have w1:IntKind.i64.wrap ((k:Int)+1)=((k+1:Nat):Int):=by rw[w64 (by omega)];omega
  have hset:=ZoP hlt hi (n:=i) (by omega)
  rw[hat,show((k:Nat):Int)+1=((k+1:Nat):Int) from rfl]at hset
  have la:=Zjr (l:=l) (f:=fun e=>e.2.1) hlt
  have lt:=Zjr (l:=l) (f:=fun e=>e.2.2) hlt
  repeat' first|refine VC.drawS (id:=23) (by kernel_rfl) ?_|refine vs T rfl fun K hK=>?_;(try simp (disch:=omega) only[go_sem,Nat.reduceBEq,Nat.reduceAdd,Nat.reduceLeDiff,Zci,edR,hi,r1,z'o,z'w]);(first|refine hK _ _ ?_;clear hK K|intro bq hbq;(try simp only[HB]at hbq);refine hK _ _ ?_;clear hK K|refine⟨?_,hK _ _ ?_⟩<;>clear hK K;focus(try omega))|refine st rfl ?_|refine sc rfl ?_|refine nl ?_|with_reducible refine z's (fun hc=>?_) (fun hc=>?_)<;>(try simp only[decide_eq_true_eq,decide_eq_false_iff_not,z'u]at hc)<;>(try(exfalso;omega))
  refine VCd.groupW T ((bq,.cells 62 3 [iD (a:Nat),iD (l.getD k (0,0,0)).2.1,iD (l.getD k (0,0,0)).2.2])::(bn,.cells 3 (i+1) ((fnL (i+1) (nx1 l k)).map iD))::(ba,.cells 3 l.length (((fnL l.length (lay l (fun e=>e.2.1) k)).map iD).set k (iD (l.getD k (0,0,0)).2.1)))::(bt,.cells 3 l.length ((fnL l.length (lay l (fun e=>e.2.2) k)).map iD))::[(bg,.cells 32 3 [gsZ bs (i+1),gsZ ba l.length,gsZ bt l.length]),(bs,.cells 3 (i+1) ((fnL (i+1) (st2 l i)).map iD)),(b4,.cells 32 3 [.gs none 0,.gs none 0,.gs none 0])]) 11 12 12 rfl rfl rfl (by kernel_rfl) (by kernel_rfl) (by kernel_rfl) ?_
  repeat' first|apply VCw.step T rfl rfl (by rfl);(focus((try simp (disch:=omega) only[go_sem,Nat.reduceBEq,z'o,z'w]);(first|exact rfl|refine⟨?_,rfl⟩;try omega)));(focus(try simp (disch:=omega) only[go_sem,Nat.reduceBEq,z'o,z'w]));(focus(try omega))|refine VCw.write T rfl rfl (by rfl) ?_ ?_;focus((try simp (disch:=omega) only[go_sem,Nat.reduceBEq,z'p,v'V]);omega)|refine VCw.nil T ?_|refine VCd.tail (f:=12) (by kernel_rfl) ?_;(try simp only[y'w,y'o])|refine vs T rfl fun K hK=>?_;(try simp (disch:=omega) only[go_sem,Nat.reduceBEq,Nat.reduceLeDiff,r1,w1,z'o,z'p,v'V,z'w]);(first|refine hK _ _ ?_;clear hK K|refine⟨?_,hK _ _ ?_⟩<;>clear hK K;focus(try omega))|refine st rfl ?_|refine nl ?_|refine ov ?_
  refine⟨⟨k+1,hlt⟩,y'S ?_ ?_,by dsimp only;omega⟩
  ·dsimp only
   rw[←hset, ←la, ←lt,y'k,y'k,y'k,z'w,z'w]
  ·simp[sub,upd]
 obtain rfl:k=l.length:=by omega
 rw[Zni,Zni,Zng]
 have z1:(x'M i l).st.length=i+1:=by rw[←Zng,v'V]
 have z2:(x'M i l).ag=l.map (fun e=>e.2.1):=by rw[x'M,ZjY hs i fun e he=>⟨(hE e he).1,(hE e he).2.1⟩]
 have z3:(x'M i l).to=l.map (fun e=>e.2.2):=by rw[x'M,ZjY hs i fun e he=>⟨(hE e he).1,(hE e he).2.1⟩]
 rw[←z2, ←z3]
 have y2:(x'M i l).ag.length=l.length:=by rw[z2,z'p]
 have y3:(x'M i l).to.length=l.length:=by rw[z3,z'p]
 generalize x'M i l=g at*
 repeat' first|refine vs T rfl fun K hK=>?_;(try simp (disch:=omega) only[go_sem,Nat.reduceBEq,Nat.reduceAdd,Nat.reduceLeDiff]);(refine hK _ _ ?_;clear hK K)|refine st rfl ?_|refine sc rfl ?_|refine nl ?_|with_reducible refine z's (fun hc=>?_) (fun hc=>?_)<;>(try simp only[decide_eq_true_eq,decide_eq_false_iff_not,z'u]at hc)<;>(try(exfalso;omega))
 refine y'T T rfl (by(try simp (disch:=omega) only[hget_ne,hget_eq]);rfl) rfl rfl rfl (z'm _) ⟨_,rfl,z'E ⟨_,rfl,z'E ?_ (z'E ?_ (z'E ?_ w't))⟩ (FzL.refl _ _)⟩
 ·have q:=x'4 (e:=3) (s:=g.st) (g:=some (bs,i+1)) (H:=[(bn,HC.cells 3 ((i+1)*1) ((fnL (i+1) (nx1 l l.length)).map iD)),(ba,HC.cells 3 (l.length*1) (g.ag.map iD)),(bt,HC.cells 3 (l.length*1) (g.to.map iD)),(bg,HC.cells 32 3 [gsZ bs (i+1),gsZ ba l.length,gsZ bt l.length]),(bs,HC.cells 3 ((i+1)*1) (g.st.map iD)),(b4,HC.cells 32 3 [gsZ bs (i+1),gsZ ba l.length,gsZ bt l.length])]) (by show g.st.length≤i+1;omega) (fun b c e=>by cases e;simp)
  rw[z1]at q
  exact q
 ·have q:=x'4 (e:=3) (s:=g.ag) (g:=some (ba,l.length)) (H:=[(bn,HC.cells 3 ((i+1)*1) ((fnL (i+1) (nx1 l l.length)).map iD)),(ba,HC.cells 3 (l.length*1) (g.ag.map iD)),(bt,HC.cells 3 (l.length*1) (g.to.map iD)),(bg,HC.cells 32 3 [gsZ bs (i+1),gsZ ba l.length,gsZ bt l.length]),(bs,HC.cells 3 ((i+1)*1) (g.st.map iD)),(b4,HC.cells 32 3 [gsZ bs (i+1),gsZ ba l.length,gsZ bt l.length])]) (by show g.ag.length≤l.length;omega) (fun b c e=>by cases e;simp)
  rw[y2]at q
  exact q
 ·have q:=x'4 (e:=3) (s:=g.to) (g:=some (bt,l.length)) (H:=[(bn,HC.cells 3 ((i+1)*1) ((fnL (i+1) (nx1 l l.length)).map iD)),(ba,HC.cells 3 (l.length*1) (g.ag.map iD)),(bt,HC.cells 3 (l.length*1) (g.to.map iD)),(bg,HC.cells 32 3 [gsZ bs (i+1),gsZ ba l.length,gsZ bt l.length]),(bs,HC.cells 3 ((i+1)*1) (g.st.map iD)),(b4,HC.cells 32 3 [gsZ bs (i+1),gsZ ba l.length,gsZ bt l.length])]) (by show g.to.length≤l.length;omega) (fun b c e=>by cases e;simp)
  rw[y3]at q
  exact q
end Go.Proofs.YtomcmfbpmkklmaaGreat
