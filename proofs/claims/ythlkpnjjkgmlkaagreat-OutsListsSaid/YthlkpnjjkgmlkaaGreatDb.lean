/- Contracts: the reference's graphs. No condition. -/
import Derived.Test.YthlkpnjjkgmlkaaGreatXe
import Derived.Test.YthlkpnjjkgmlkaaGreatWc
import Derived.Test.YthlkpnjjkgmlkaaGreatYf
import Derived.Test.YthlkpnjjkgmlkaaGreatYr
import Derived.Test.YthlkpnjjkgmlkaaGreatZr
import Derived.Test.YthlkpnjjkgmlkaaGreatYi
namespace Go.Proofs.YthlkpnjjkgmlkaaGreat
set_option linter.unusedSimpArgs false
set_option linter.unusedVariables false
set_option maxRecDepth 20000
open Go Go.Proofs Go.Vc
attribute [local irreducible] x'c VCg VCw VCx
theorem ZpU (l:List Ed) (i:Nat):(l.countP fun e=>decide (0≤e.1)&&decide (e.1<(i:Int)))+(l.countP fun e=>e.1 == (i:Int))=l.countP fun e=>decide (0≤e.1)&&decide (e.1<((i+1:Nat):Int)):=by
 induction l with
 |nil=>rfl
 |cons x l ih=>
  rw[w'K,w'K,w'K, ←ih]
  have key:(if (decide (0≤x.1)&&decide (x.1<(i:Int)))=true then 1 else 0)+(if (x.1 == (i:Int))=true then 1 else 0)=(if (decide (0≤x.1)&&decide (x.1<((i+1:Nat):Int)))=true then 1 else 0):=by
   simp only[z'c,decide_eq_true_eq,beq_iff_eq]
   split<;>split<;>split<;>omega
  omega
theorem Zm7 (l:List Ed): ∀i,(upE l i).length=l.countP fun e=>decide (0≤e.1)&&decide (e.1<(i:Int))
 |0=>by
  symm
  rw[ZlH,z'2,List.countP_eq_zero]
  intro e _
  simp only[z'c,decide_eq_true_eq];omega
 |i+1=>by rw[Zg8,z'h,Zm7 l i, ←ZpU];unfold ZgY;rw[x'N (p:=fun e:Ed=>e.1 == (i:Int))]
theorem Zt3 (l:List Ed) (i:Nat):(upE l i).length≤l.length:=by rw[Zm7];exact List.countP_le_length
def fnL (n:Nat) (f:Nat→Int):List Int:=(List.range n).map f
theorem w'2 (n:Nat) (f:Nat→Int):(fnL n f).length=n:=by simp[fnL]
theorem ZdR {n:Nat} {f:Nat→Int} {i:Nat} (h:i<n):(fnL n f)[i]?=some (f i):=by simp[fnL,h]
theorem ZjA {n:Nat} {f:Nat→Int} {i:Nat} (h:i<n):((fnL n f).map iD)[i]?=some (iD (f i)):=by rw[z'J,ZdR h];rfl
theorem w'8 {n:Nat} {f g:Nat→Int} (h: ∀j,j<n→f j=g j):fnL n f=fnL n g:=by
 unfold fnL
 exact y'k fun j hj=>h j (z'Q.1 hj)
theorem ZfQ {n:Nat} {f:Nat→Int} {i:Nat} {v:Int} (h:i<n):(fnL n f).set i v=fnL n (fun j=>if j=i then v else f j):=by
 refine y'U fun j=>?_
 rcases z'j j n with hj|hj
 ·rw[ZdR hj]
  by_cases e:j=i
  ·subst e
   rw[List.getElem?_set_self (by rw[w'2];exact h),if_pos rfl]
  ·rw[x'M (fun h=>e h.symm),ZdR hj,if_neg e]
 ·rw[z'L (by rw[y't,w'2];exact hj),z'L (by rw[w'2];exact hj)]
theorem Zkc (n:Nat):List.replicate n (0:Int)=fnL n (fun _=>0):=by
 refine y'U fun j=>?_
 rcases z'j j n with hj|hj
 ·rw[ZdR hj,List.getElem?_replicate,if_pos hj]
 ·rw[z'L (by rw[y'i];exact hj),z'L (by rw[w'2];exact hj)]
theorem ZrX {α:Type} (l:List α) (d:α) (f:α→Int):fnL l.length (fun j=>f (l.getD j d))=l.map f:=by
 refine y'U fun j=>?_
 rcases z'j j l.length with hj|hj
 ·rw[ZdR hj,z'J,z'd,z'b hj];rfl
 ·rw[z'L (by rw[w'2];exact hj),z'L (by rw[z'i];exact hj)]
def Zco (l:List Ed) (k i:Nat):Nat:=(l.take k).countP fun e=>e.1 == (i:Int)
theorem Ze3 {l:List Ed} {k:Nat} (hk:k<l.length) (i:Nat):Zco l (k+1) i=Zco l k i+if (l.getD k (0,0,0)).1=(i:Int)then 1 else 0:=by
 unfold Zco
 rw[y'e,z'd,z'b hk,y'Y,List.countP_append,w'K,List.countP_nil,z'M]
 simp
theorem Zma (l:List Ed) (k i:Nat):Zco l k i≤l.length:=z'3 List.countP_le_length (by rw[z'y];omega)
theorem ZpS (l:List Ed) (i:Nat):Zco l l.length i=(ZgY l i).length:=by
 unfold Zco ZgY
 rw[z'Y,x'N]
def st1 (l:List Ed) (k j:Nat):Int:=if j=0 then 0 else(Zco l k (j-1):Nat)
def st2 (l:List Ed) (i j:Nat):Int:=if j≤i then((upE l j).length:Nat)else(Zco l l.length (j-1):Nat)
def nx1 (l:List Ed) (k j:Nat):Int:=(((upE l j).length+Zco l k j:Nat):Int)
theorem Zuo (l:List Ed) (n:Nat):List.replicate n (0:Int)=fnL n (st1 l 0):=by
 rw[Zkc]
 exact w'8 fun j _=>by simp[st1,Zco]
theorem ZsP {l:List Ed} {n k i:Nat} (hk:k<l.length) (hi:(l.getD k (0,0,0)).1=(i:Int)) (hn:i<n):(fnL (n+1) (st1 l k)).set (i+1) (st1 l k (i+1)+1)=fnL (n+1) (st1 l (k+1)):=by
 rw[ZfQ (by omega)]
 refine w'8 fun j _=>?_
 by_cases e:j=i+1
 ·subst e
  rw[if_pos rfl]
  simp only[st1,Ze3 hk,hi,Nat.add_sub_cancel,if_pos]
  simp
 ·rw[if_neg e]
  unfold st1
  split
  ·rfl
  ·rw[Ze3 hk,hi,if_neg (by omega),x'B]
theorem Zup (l:List Ed) (n:Nat):fnL n (st1 l l.length)=fnL n (st2 l 0):=w'8 fun j _=>by
 unfold st1 st2
 by_cases e:j=0
 ·subst e;rfl
 ·rw[if_neg e,if_neg (by omega)]
theorem ZsQ {l:List Ed} {n i:Nat} (hi:i<n):(fnL (n+1) (st2 l i)).set (i+1) (st2 l i (i+1)+st2 l i i)=fnL (n+1) (st2 l (i+1)):=by
 rw[ZfQ (by omega)]
 refine w'8 fun j _=>?_
 unfold st2
 by_cases e:j=i+1
 ·subst e
  rw[if_pos rfl,if_neg (by omega),if_pos (z'f _),if_pos (z'f _),Zg8,z'h,Nat.add_sub_cancel,ZpS]
  omega
 ·rw[if_neg e]
  by_cases h:j≤i
  ·rw[if_pos h,if_pos (by omega)]
  ·rw[if_neg h,if_neg (by omega)]
theorem ZrI (l:List Ed) (n:Nat):fnL (n+1) (st2 l n)=(v'J n l).st:=by
 unfold v'J fnL
 exact y'k fun j hj=>by
  have:=z'Q.1 hj
  unfold st2
  rw[if_pos (by omega)]
theorem Zuh (l:List Ed) (n:Nat):fnL (n+1) (st2 l n)=fnL (n+1) (nx1 l 0):=w'8 fun j hj=>by
 unfold st2 nx1
 rw[if_pos (by omega)]
 simp[Zco]
theorem Zsp {l:List Ed} {n k i:Nat} (hk:k<l.length) (hi:(l.getD k (0,0,0)).1=(i:Int)) (hn:i<n):(fnL (n+1) (nx1 l k)).set i (nx1 l k i+1)=fnL (n+1) (nx1 l (k+1)):=by
 rw[ZfQ (by omega)]
 refine w'8 fun j _=>?_
 unfold nx1
 rw[Ze3 hk,hi]
 by_cases e:j=i
 ·subst e
  rw[if_pos rfl,if_pos rfl];omega
 ·rw[if_neg e,if_neg (by omega),x'B]
theorem ZtH {l:List Ed} (hs:Zau l) (h0: ∀e,e∈l→0≤e.1) {k i:Nat} (hk:k<l.length) (hi:(l.getD k (0,0,0)).1=(i:Int)):nx1 l k i=(k:Nat):=by
 have he:l[k]?=some (l.getD k (0,0,0)):=by rw[z'd,z'b hk];rfl
 have h:=Zpx hs he
 rw[hi]at h
 unfold nx1 Zco
 rw[ZpE hs h0,h]
def lay (l:List Ed) (f:Ed→Int) (k j:Nat):Int:=if j<k then f (l.getD j (0,0,0))else 0
theorem Zrw (l:List Ed) (f:Ed→Int) (n:Nat):List.replicate n (0:Int)=fnL n (lay l f 0):=by
 rw[Zkc]
 exact w'8 fun j _=>by simp[lay]
theorem ZmA {l:List Ed} {f:Ed→Int} {k n:Nat} (hk:k<n):(fnL n (lay l f k)).set k (f (l.getD k (0,0,0)))=fnL n (lay l f (k+1)):=by
 rw[ZfQ hk]
 refine w'8 fun j _=>?_
 unfold lay
 by_cases e:j=k
 ·subst e
  rw[if_pos rfl,if_pos (by omega)]
 ·rw[if_neg e]
  by_cases h:j<k
  ·rw[if_pos h,if_pos (by omega)]
  ·rw[if_neg h,if_neg (by omega)]
theorem Zrx (l:List Ed) (f:Ed→Int):fnL l.length (lay l f l.length)=l.map f:=by
 rw[←ZrX l (0,0,0) f]
 exact w'8 fun j hj=>by unfold lay;rw[if_pos hj]
theorem VCx.step {P:Program} (T:Tab P) {W:Nat→Bool} {st:Nat} {H H1:Heap} {K:(Nat→D)→Prop} {m i:Nat} {E:Nat→D} {o:Oper} {l:List Oper} {d:D} {t:Tmp} (hg:o.guard=none) (ht:o.dst=some t) (hi:Nat.beq i st=false)
  (h1:opC T o (evD E) H (fun d' H'=>d'=d∧H'=H)) (h1':opC T o (evD E) H1 (fun d' H'=>d'=d∧H'=H1)) (h2:VCx T W st H H1 K m (i+1) l (upd E t d)):VCx T W st H H1 K (m+1) i (o::l) E:=by
 unfold VCx
 exact⟨d,⟨hg,fun _=>⟨v'8 T h1,.inr (v'8 T h1')⟩,fun e=>by subst e;rw[w'3]at hi;cases hi⟩,by rw[ht];exact h2⟩
theorem VCx.nil {P:Program} (T:Tab P) {W:Nat→Bool} {st:Nat} {H H1:Heap} {K:(Nat→D)→Prop} {i:Nat} {E:Nat→D} {l:List Oper} (h:K E):VCx T W st H H1 K 0 i l E:=by unfold VCx;exact h
theorem Zrk {ops:Array Oper} {st:Nat} {l:List Nat} (h:l.all (y'm ops st)=true): ∀i,l.contains i=true→y'm ops st i=true:=fun i hi=>z'o.1 h i (by simpa using hi)
abbrev OwnI (L:List Int):D→Heap→Prop:=fun d H'=> ∃x:Option (Nat×Nat),gOk x L.length∧d= .gs x L.length∧H'=shp x 3 1 (L.map iD) []
theorem OwnI.freeze {f:Nat} {args:List D} {L:List Int} (h:Fun Tryz.prog f args [] false (OwnI L)):Pure Tryz.prog f args (y'c L):=
 Fun.freeze (Zf0 _) (h.mono fun d H' ⟨x,hx,h1,h2⟩=>⟨x,3,by rw[h1,z'I],by rw[h2,ZkJ]⟩)
def nxt (L:List Ed) (a:Int):Int:=
 match L with
 |[]=> -1
 |e::L=>match decide (e.2.1=a)with|true=>e.2.2|false=>nxt L a
abbrev b0:ByteArray:=⟨#[]⟩
end Go.Proofs.YthlkpnjjkgmlkaaGreat
