/- Graphs, node by node, in plain Lean. No condition. -/
import Derived.Test.YtjlnkedmbfdofaaGreatWb
import Derived.Test.YtjlnkedmbfdofaaGreatXe
import Derived.Test.YtjlnkedmbfdofaaGreatWj
import Derived.Test.YtjlnkedmbfdofaaGreatYh
import Derived.Test.YtjlnkedmbfdofaaGreatYo
namespace Go.Proofs.YtjlnkedmbfdofaaGreat
set_option linter.unusedSimpArgs false
set_option linter.unusedVariables false
open Go Go.Proofs Go.Vc
attribute [local irreducible] z'Z VCg VCw VCx
abbrev Ed:=Int×Int×Int
def ZdI (l:List Ed) (i:Nat):List Ed:=l.filter fun e=>e.1 == (i:Int)
def upE (l:List Ed) (i:Nat):List Ed:=(List.range i).flatMap (ZdI l)
theorem Zg2 (l:List Ed):upE l 0=[]:=rfl
theorem ZdL (l:List Ed) (i:Nat):upE l (i+1)=upE l i++ZdI l i:=by
 unfold upE;rw[z'9,List.flatMap_append];simp
def w'O (l:List Ed):Prop:=l.Pairwise fun a b=>a.1≤b.1
theorem Zjh {l:List Ed} (h:w'O l) (i:Nat):(l.filter fun e=>decide (e.1<(i:Int)))++ZdI l i=l.filter fun e=>decide (e.1<((i+1:Nat):Int)):=by
 induction l with
 |nil=>rfl
 |cons e l ih=>
  have h':=List.pairwise_cons.1 h
  have ih:=ih h'.2
  unfold ZdI at ih⊢
  rcases Int.lt_trichotomy e.1 i with hlt|heq|hgt
  ·rw[y'R (by simpa using hlt),List.filter_cons_of_neg (by simp;omega),y'R (by simp;omega),y'w,ih]
  ·have hn:(l.filter fun e=>decide (e.1<(i:Int)))=[]:=by
    rw[y'C]
    intro x hx
    have:=h'.1 x hx
    simp;omega
   rw[hn,z'L]at ih
   rw[List.filter_cons_of_neg (by simp;omega),y'R (by simpa using heq),y'R (by simp;omega),hn,z'L,ih]
  ·have h1: ∀x,x∈e::l→(i:Int)<x.1:=fun x hx=>by
    rcases z'p.1 hx with rfl|hx
    ·exact hgt
    ·have:=h'.1 x hx;omega
   have a1:((e::l).filter fun e=>decide (e.1<(i:Int)))=[]:=y'C.2 fun x hx=>by have:=h1 x hx;simp;omega
   have a2:((e::l).filter fun e=>e.1 == (i:Int))=[]:=y'C.2 fun x hx=>by have:=h1 x hx;simp;omega
   have a3:((e::l).filter fun e=>decide (e.1<((i+1:Nat):Int)))=[]:=y'C.2 fun x hx=>by have:=h1 x hx;simp;omega
   rw[a1,a2,a3];rfl
theorem Zg1 {l:List Ed} (h:w'O l) (h0: ∀e,e∈l→0≤e.1): ∀i:Nat,upE l i=l.filter fun e=>decide (e.1<(i:Int))
 |0=>by
  rw[Zg2]
  symm
  rw[y'C]
  intro x hx
  have:=h0 x hx
  simp;omega
 |i+1=>by rw[ZdL,Zg1 h h0 i,Zjh h i]
theorem Zh5 {l:List Ed} (h:w'O l) (n:Nat) (h0: ∀e,e∈l→0≤e.1∧e.1<n):upE l n=l:=by
 rw[Zg1 h (fun e he=>(h0 e he).1),List.filter_eq_self]
 intro e he
 simpa using(h0 e he).2
structure Cs where
 st:List Int
 ag:List Int
 to:List Int
def w'q (n:Nat) (l:List Ed):Cs:=⟨(List.range (n+1)).map fun i=>((upE l i).length:Int),(upE l n).map (·.2.1),(upE l n).map (·.2.2)⟩
theorem Zj1 {l:List Ed} (h:w'O l) {k:Nat} {e:Ed} (he:l[k]?=some e):(l.countP fun x=>decide (x.1<e.1))+((l.take k).countP fun x=>x.1 == e.1)=k:=by
 obtain⟨hk,he'⟩:=z's.1 he
 have hs:l=l.take k++e::l.drop (k+1):=by
  rw[←he', ←List.drop_eq_getElem_cons hk,x'S]
 have hp:w'O (l.take k++e::l.drop (k+1)):=by rw[←hs];exact h
 obtain⟨p1,p2,p3⟩:=List.pairwise_append.1 hp
 have p4:=List.pairwise_cons.1 p2
 have e1:((e::l.drop (k+1)).countP fun x=>decide (x.1<e.1))=0:=by
  rw[List.countP_eq_zero]
  intro x hx
  rcases z'p.1 hx with rfl|hx
  ·simp
  ·have:=p4.1 x hx;simp;omega
 have e2:(l.countP fun x=>decide (x.1<e.1))=((l.take k).countP fun x=>decide (x.1<e.1)):=by
  conv=>lhs;rw[hs]
  rw[List.countP_append,e1,y'7]
 rw[e2]
 have key: ∀m:List Ed,(∀x,x∈m→x.1≤e.1)→(m.countP fun x=>decide (x.1<e.1))+(m.countP fun x=>x.1 == e.1)=m.length:=by
  intro m
  induction m with
  |nil=>intro _;rfl
  |cons x m ih=>
   intro hm
   have h1:=ih fun y hy=>hm y (z'n _ hy)
   have h2:=hm x (z'k ..)
   rw[x's,x's,z'A]
   rcases Int.lt_or_eq_of_le h2 with h3|h3
   ·have: ¬x.1=e.1:=by omega
    simp[h3,this];omega
   ·simp[h3];omega
 rw[key _ fun x hx=>p3 x hx _ (z'k ..),z'z]
 omega
theorem Zj3 {l:List Ed} (h:w'O l) (h0: ∀e,e∈l→0≤e.1) (i:Nat):(upE l i).length=l.countP fun e=>decide (e.1<(i:Int)):=by
 rw[Zg1 h h0,y'N]
set_option maxRecDepth 20000
theorem ZeN {α:Type} {l:List α} {i:Nat} {d:α} (h:i<l.length):l[i]?=some (l.getD i d):=by
 rw[z'e,z'l h];rfl
theorem ZjI {α:Type} (f:α→List D) (d:α) {e esz eb:Nat} {ea full:Bool} {ez:List Value} {l:List α} {k:IntKind} {n:Int} {K:D→Prop}:
  cIndexAddr (.slice e esz eb ea ez) (.sl full esz (l.map f)) (.is (.int k n)) K=((0≤n∧n<l.length)∧K (.pt (f (l.getD n.toNat d)))):=by
 simp only[cIndexAddr,z'f,y'c,eq_iff_iff]
 constructor
 ·rintro⟨h,r,h1,_,h2⟩
  have hl:n.toNat<l.length:=by omega
  rw[ZeN (d:=d) hl]at h1
  cases h1
  exact⟨h,h2⟩
 ·rintro⟨h,h1⟩
  have hl:n.toNat<l.length:=by omega
  exact⟨h,_,by rw[ZeN (d:=d) hl];rfl,trivial,h1⟩
def edR (x:Ed):List D:=[iD x.1,iD x.2.1,iD x.2.2]
def Zke (l:List Ed):List (List D):=l.map edR
abbrev Zas (l:List Ed):D:= .sl false 3 (Zke l)
theorem ZbA (l:List Ed):(Zke l).length=l.length:=z'f ..
theorem ZjH {e eb:Nat} {ea full:Bool} {ez:List Value} {l:List Ed} {k:IntKind} {n:Int} {K:D→Prop}:
  cIndexAddr (.slice e 3 eb ea ez) (.sl full 3 (Zke l)) (.is (.int k n)) K=((0≤n∧n<l.length)∧K (.pt (edR (l.getD n.toNat (0,0,0))))):=ZjI edR (0,0,0)
abbrev csC (g:Cs):List D:=[v'7 g.st,v'7 g.ag,v'7 g.to]
structure Gr (g:Cs):Prop where
 one:1≤g.st.length
 st0:g.st.getD 0 0=0
 stn:g.st.getD (g.st.length-1) 0=g.to.length
 ag:g.ag.length=g.to.length
 up: ∀i,i<g.st.length-1→g.st.getD i 0≤g.st.getD (i+1) 0
 to: ∀i,i<g.to.length→0≤g.to.getD i 0∧g.to.getD i 0<(g.st.length-1:Nat)∧0≤g.ag.getD i 0
theorem Gr.mono {g:Cs} (G:Gr g): ∀{d i:Nat},i+d≤g.st.length-1→g.st.getD i 0≤g.st.getD (i+d) 0
 |0,i,_=>Int.le_refl _
 |d+1,i,h=>Int.le_trans (G.mono (d:=d) (by omega)) (G.up (i+d) (by omega))
theorem Zgu {α:Type} {l:List α} {i:Nat} {d:α} (h:i<l.length):l.getD i d∈l:=z'F (ZeN h)
theorem Zj9 (l:List Ed) (i:Nat):(l.countP fun e=>decide (0≤e.1)&&decide (e.1<(i:Int)))+(l.countP fun e=>e.1 == (i:Int))=l.countP fun e=>decide (0≤e.1)&&decide (e.1<((i+1:Nat):Int)):=by
 induction l with
 |nil=>rfl
 |cons x l ih=>
  rw[x's,x's,x's, ←ih]
  have key:(if (decide (0≤x.1)&&decide (x.1<(i:Int)))=true then 1 else 0)+(if (x.1 == (i:Int))=true then 1 else 0)=(if (decide (0≤x.1)&&decide (x.1<((i+1:Nat):Int)))=true then 1 else 0):=by
   simp only[z'b,decide_eq_true_eq,beq_iff_eq]
   split<;>split<;>split<;>omega
  omega
theorem Zh6 (l:List Ed): ∀i,(upE l i).length=l.countP fun e=>decide (0≤e.1)&&decide (e.1<(i:Int))
 |0=>by
  symm
  rw[Zg2,x'c,List.countP_eq_zero]
  intro e _
  simp only[z'b,decide_eq_true_eq];omega
 |i+1=>by rw[ZdL,z'r,Zh6 l i, ←Zj9];unfold ZdI;rw[y'N (p:=fun e:Ed=>e.1 == (i:Int))]
theorem Znv (l:List Ed) (i:Nat):(upE l i).length≤l.length:=by rw[Zh6];exact List.countP_le_length
def fnL (n:Nat) (f:Nat→Int):List Int:=(List.range n).map f
theorem x'H (n:Nat) (f:Nat→Int):(fnL n f).length=n:=by simp[fnL]
theorem Zbi {n:Nat} {f:Nat→Int} {i:Nat} (h:i<n):(fnL n f)[i]?=some (f i):=by simp[fnL,h]
theorem ZfB {n:Nat} {f:Nat→Int} {i:Nat} (h:i<n):((fnL n f).map iD)[i]?=some (iD (f i)):=by rw[y'c,Zbi h];rfl
theorem x'J {n:Nat} {f g:Nat→Int} (h: ∀j,j<n→f j=g j):fnL n f=fnL n g:=by
 unfold fnL
 exact z'R fun j hj=>h j (z'J.1 hj)
theorem ZcP {n:Nat} {f:Nat→Int} {i:Nat} {v:Int} (h:i<n):(fnL n f).set i v=fnL n (fun j=>if j=i then v else f j):=by
 refine x'k fun j=>?_
 rcases z't j n with hj|hj
 ·rw[Zbi hj]
  by_cases e:j=i
  ·subst e
   rw[List.getElem?_set_self (by rw[x'H];exact h),if_pos rfl]
  ·rw[y'M (fun h=>e h.symm),Zbi hj,if_neg e]
 ·rw[z'X (by rw[y'V,x'H];exact hj),z'X (by rw[x'H];exact hj)]
theorem ZfZ (n:Nat):List.replicate n (0:Int)=fnL n (fun _=>0):=by
 refine x'k fun j=>?_
 rcases z't j n with hj|hj
 ·rw[Zbi hj,List.getElem?_replicate,if_pos hj]
 ·rw[z'X (by rw[x'R];exact hj),z'X (by rw[x'H];exact hj)]
theorem ZlS {α:Type} (l:List α) (d:α) (f:α→Int):fnL l.length (fun j=>f (l.getD j d))=l.map f:=by
 refine x'k fun j=>?_
 rcases z't j l.length with hj|hj
 ·rw[Zbi hj,y'c,z'e,z'l hj];rfl
 ·rw[z'X (by rw[x'H];exact hj),z'X (by rw[z'f];exact hj)]
def v'4 (l:List Ed) (k i:Nat):Nat:=(l.take k).countP fun e=>e.1 == (i:Int)
theorem Zce {l:List Ed} {k:Nat} (hk:k<l.length) (i:Nat):v'4 l (k+1) i=v'4 l k i+if (l.getD k (0,0,0)).1=(i:Int)then 1 else 0:=by
 unfold v'4
 rw[List.take_add_one,z'e,z'l hk,Option.toList_some,List.countP_append,x's,List.countP_nil,z'K]
 simp
theorem Zhp (l:List Ed) (k i:Nat):v'4 l k i≤l.length:=z'E List.countP_le_length (by rw[z'z];omega)
theorem Zj7 (l:List Ed) (i:Nat):v'4 l l.length i=(ZdI l i).length:=by
 unfold v'4 ZdI
 rw[List.take_length,y'N]
def st1 (l:List Ed) (k j:Nat):Int:=if j=0 then 0 else(v'4 l k (j-1):Nat)
def st2 (l:List Ed) (i j:Nat):Int:=if j≤i then((upE l j).length:Nat)else(v'4 l l.length (j-1):Nat)
def nx1 (l:List Ed) (k j:Nat):Int:=(((upE l j).length+v'4 l k j:Nat):Int)
theorem Zoa (l:List Ed) (n:Nat):List.replicate n (0:Int)=fnL n (st1 l 0):=by
 rw[ZfZ]
 exact x'J fun j _=>by simp[st1,v'4]
theorem Zmm {l:List Ed} {n k i:Nat} (hk:k<l.length) (hi:(l.getD k (0,0,0)).1=(i:Int)) (hn:i<n):(fnL (n+1) (st1 l k)).set (i+1) (st1 l k (i+1)+1)=fnL (n+1) (st1 l (k+1)):=by
 rw[ZcP (by omega)]
 refine x'J fun j _=>?_
 by_cases e:j=i+1
 ·subst e
  rw[if_pos rfl]
  simp only[st1,Zce hk,hi,Nat.add_sub_cancel,if_pos]
  simp
 ·rw[if_neg e]
  unfold st1
  split
  ·rfl
  ·rw[Zce hk,hi,if_neg (by omega),y'7]
theorem Zob (l:List Ed) (n:Nat):fnL n (st1 l l.length)=fnL n (st2 l 0):=x'J fun j _=>by
 unfold st1 st2
 by_cases e:j=0
 ·subst e;rfl
 ·rw[if_neg e,if_neg (by omega)]
theorem Zmn {l:List Ed} {n i:Nat} (hi:i<n):(fnL (n+1) (st2 l i)).set (i+1) (st2 l i (i+1)+st2 l i i)=fnL (n+1) (st2 l (i+1)):=by
 rw[ZcP (by omega)]
 refine x'J fun j _=>?_
 unfold st2
 by_cases e:j=i+1
 ·subst e
  rw[if_pos rfl,if_neg (by omega),if_pos (z'c _),if_pos (z'c _),ZdL,z'r,Nat.add_sub_cancel,Zj7]
  omega
 ·rw[if_neg e]
  by_cases h:j≤i
  ·rw[if_pos h,if_pos (by omega)]
  ·rw[if_neg h,if_neg (by omega)]
theorem ZlB (l:List Ed) (n:Nat):fnL (n+1) (st2 l n)=(w'q n l).st:=by
 unfold w'q fnL
 exact z'R fun j hj=>by
  have:=z'J.1 hj
  unfold st2
  rw[if_pos (by omega)]
theorem ZnY (l:List Ed) (n:Nat):fnL (n+1) (st2 l n)=fnL (n+1) (nx1 l 0):=x'J fun j hj=>by
 unfold st2 nx1
 rw[if_pos (by omega)]
 simp[v'4]
theorem Zmc {l:List Ed} {n k i:Nat} (hk:k<l.length) (hi:(l.getD k (0,0,0)).1=(i:Int)) (hn:i<n):(fnL (n+1) (nx1 l k)).set i (nx1 l k i+1)=fnL (n+1) (nx1 l (k+1)):=by
 rw[ZcP (by omega)]
 refine x'J fun j _=>?_
 unfold nx1
 rw[Zce hk,hi]
 by_cases e:j=i
 ·subst e
  rw[if_pos rfl,if_pos rfl];omega
 ·rw[if_neg e,if_neg (by omega),y'7]
theorem Zm9 {l:List Ed} (hs:w'O l) (h0: ∀e,e∈l→0≤e.1) {k i:Nat} (hk:k<l.length) (hi:(l.getD k (0,0,0)).1=(i:Int)):nx1 l k i=(k:Nat):=by
 have he:l[k]?=some (l.getD k (0,0,0)):=by rw[z'e,z'l hk];rfl
 have h:=Zj1 hs he
 rw[hi]at h
 unfold nx1 v'4
 rw[Zj3 hs h0,h]
def lay (l:List Ed) (f:Ed→Int) (k j:Nat):Int:=if j<k then f (l.getD j (0,0,0))else 0
theorem Zlt (l:List Ed) (f:Ed→Int) (n:Nat):List.replicate n (0:Int)=fnL n (lay l f 0):=by
 rw[ZfZ]
 exact x'J fun j _=>by simp[lay]
theorem ZhJ {l:List Ed} {f:Ed→Int} {k n:Nat} (hk:k<n):(fnL n (lay l f k)).set k (f (l.getD k (0,0,0)))=fnL n (lay l f (k+1)):=by
 rw[ZcP hk]
 refine x'J fun j _=>?_
 unfold lay
 by_cases e:j=k
 ·subst e
  rw[if_pos rfl,if_pos (by omega)]
 ·rw[if_neg e]
  by_cases h:j<k
  ·rw[if_pos h,if_pos (by omega)]
  ·rw[if_neg h,if_neg (by omega)]
theorem Zlu (l:List Ed) (f:Ed→Int):fnL l.length (lay l f l.length)=l.map f:=by
 rw[←ZlS l (0,0,0) f]
 exact x'J fun j hj=>by unfold lay;rw[if_pos hj]
end Go.Proofs.YtjlnkedmbfdofaaGreat
