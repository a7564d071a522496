/- Buffers, in plain Lean: what is pushed, popped, and what stands next. No condition. -/
import Derived.Test.YtjlnkedmbfdofaaGreatWa
import Derived.Test.YtjlnkedmbfdofaaGreatK2
import Derived.Laws.StructEq
namespace Go.Proofs.YtjlnkedmbfdofaaGreat
set_option linter.unusedSimpArgs false
set_option linter.unusedVariables false
open Go Go.Proofs Go.Vc
attribute [local irreducible] z'Z VCg VCw VCx
abbrev En:=Int×Int
def eR (x:En):List D:=[iD x.1,iD x.2]
def eRs (b:List En):List (List D):=b.map eR
abbrev buf (b:List En):D:= .sl false 2 (eRs b)
def iRs (l:List Int):List (List D):=l.map fun n=>[iD n]
abbrev v'7 (l:List Int):D:= .sl false 1 (iRs l)
def w'j (loc:Int):List En→Option Nat
 |[]=>none
 |x::r=>match decide (x.1=loc)with|true=>some 0|false=>(w'j loc r).map (· +1)
def w'0 (loc:Int) (b:List En):Nat:=b.countP fun x=>decide (x.1=loc)
def w'v (e:En):List En→List En
 |[]=>[e]
 |x::r=>match decide (x.1>e.1)with|true=>e::x::r|false=>x::w'v e r
def Zaf (m:Int) (e:En) (b:List En):List En:=if m=2 then b++[e]else if m=3 then w'v e b else b
def ZaY (loc:Int):List En→Option Int
 |[]=>none
 |x::r=>match ZaY loc r with
  |some n=>some n
  |none=>match decide (x.1=loc)with|true=>some x.2|false=>none
def ZcH (m:Int) (b:List En) (i:Nat):Bool:=(decide (m=2)&&decide (i=0))||(decide (m=3)&&decide (w'j ((b[i]?).getD (0,0)).1 b=some i))
def ZjE (m:Int) (b:List En) (k:Nat):List Int:=((List.range k).filter (ZcH m b)).map fun i=>((b[i]?).getD (0,0)).1
def w'u (m:Int) (b:List En):List Int:=ZjE m b b.length
def v'N (m loc:Int) (b:List En):Option Nat:=if m=3 then w'j loc b else if m=2∧b≠[]∧(loc<0∨(b.head?.map (·.1))=some loc)then some 0 else none
theorem ZlP (b:List En): ∀r,r∈eRs b→r.length=2:=by
 intro r h
 obtain⟨x,_,rfl⟩:=z'o.1 h
 rfl
theorem Zes (b:List En):(eRs b).length=b.length:=z'f ..
def Srt:List En→Prop
 |[]=>True
 |x::r=>(∀y,y∈r→x.1≤y.1)∧Srt r
def que (loc:Int) (b:List En):List En:=b.filter fun x=>decide (x.1=loc)
theorem Zb1 (e:En): ∀(b:List En) (y:En),y∈w'v e b↔y=e∨y∈b
 |[],y=>by simp[w'v]
 |x::r,y=>by
  unfold w'v
  split
  ·simp
  ·simp only[z'p,Zb1 e r y]
   constructor
   ·rintro(h|h|h)
    ·exact .inr (.inl h)
    ·exact .inl h
    ·exact .inr (.inr h)
   ·rintro(h|h|h)
    ·exact .inr (.inl h)
    ·exact .inl h
    ·exact .inr (.inr h)
theorem ZgA (e:En): ∀b:List En,(w'v e b).length=b.length+1
 |[]=>rfl
 |x::r=>by
  unfold w'v
  split
  ·simp
  ·simp[ZgA e r]
theorem ZdE (e:En): ∀b:List En,Srt b→Srt (w'v e b)
 |[],_=>⟨fun y h=>(by cases h),trivial⟩
 |x::r,⟨h1,h2⟩=>by
  unfold w'v
  split
  ·rename_i hx
   have hx':x.1>e.1:=of_decide_eq_true hx
   refine⟨fun y hy=>?_,h1,h2⟩
   rcases z'p.1 hy with rfl|hy
   ·omega
   ·have:=h1 y hy;omega
  ·rename_i hx
   have hx': ¬x.1>e.1:=of_decide_eq_false hx
   refine⟨fun y hy=>?_,ZdE e r h2⟩
   rcases(Zb1 e r y).1 hy with rfl|hy
   ·omega
   ·exact h1 y hy
theorem ZdD (e:En) (loc:Int): ∀b:List En,Srt b→que loc (w'v e b)=que loc b++que loc [e]
 |[],_=>by simp[w'v,que]
 |x::r,⟨h1,h2⟩=>by
  unfold w'v
  split
  ·rename_i hx
   have hx':x.1>e.1:=of_decide_eq_true hx
   have hno:e.1=loc→que loc (x::r)=[]:=fun he=>by
    rw[que,y'C]
    intro y hy
    have:x.1≤y.1:=by
     rcases z'p.1 hy with rfl|hy
     ·exact Int.le_refl _
     ·exact h1 y hy
    simp;omega
   by_cases he:e.1=loc
   ·rw[hno he,z'L]
    show que loc (e::x::r)=_
    have:que loc (e::x::r)=que loc [e]++que loc (x::r):=by rw[que,que,que, ←List.filter_append];rfl
    rw[this,hno he,z'x]
   ·have e1:que loc [e]=[]:=by simp[que,he]
    have e2:que loc (e::x::r)=que loc (x::r):=by simp[que,he]
    rw[e1,e2,z'x]
  ·have:que loc (x::w'v e r)=que loc [x]++que loc (w'v e r):=by rw[que,que,que, ←List.filter_append];rfl
   rw[this,ZdD e loc r h2, ←List.append_assoc]
   congr 1
   rw[que,que,que, ←List.filter_append];rfl
def SameQ (a b:List En):Prop:= ∀loc,que loc a=que loc b
theorem SameQ.nil {b:List En} (h:SameQ [] b):b=[]:=by
 cases b with
 |nil=>rfl
 |cons x r=>
  have:=h x.1
  simp[que]at this
theorem x'M (loc:Int) (a b:List En):que loc (a++b)=que loc a++que loc b:=z'G ..
theorem Ze5 {loc:Int}: ∀{b:List En},w'j loc b=none→que loc b=[]
 |[],_=>rfl
 |x::r,h=>by
  unfold w'j at h
  split at h
  ·cases h
  ·rename_i hx
   have:=Ze5 (Option.map_eq_none_iff.1 h)
   rw[que,x'r,hx]
   simpa[que]using this
theorem v'S {loc:Int}: ∀{b:List En} {i:Nat},w'j loc b=some i→ ∃x p q,b=p++x::q∧p.length=i∧x.1=loc∧que loc p=[]
 |[],i,h=>by simp[w'j]at h
 |x::r,i,h=>by
  unfold w'j at h
  split at h
  ·rename_i hx
   obtain rfl:=z'2 h
   exact⟨x,[],r,rfl,rfl,of_decide_eq_true hx,rfl⟩
  ·rename_i hx
   obtain⟨j,hj,rfl⟩:=Option.map_eq_some_iff.1 h
   obtain⟨y,p,q,rfl,h1,h2,h3⟩:=v'S hj
   exact⟨y,x::p,q,rfl,by simp[h1],h2,by rw[que,x'r,hx];simpa[que]using h3⟩
theorem Zeu {loc:Int} {b:List En} {i:Nat} (h:w'j loc b=some i):i<b.length:=by
 obtain⟨x,p,q,rfl,rfl,_⟩:=v'S h
 simp
theorem SameQ.cut {a b:List En} {loc:Int} {i j:Nat} (h:SameQ a b) (hi:w'j loc a=some i) (hj:w'j loc b=some j):a[i]?=b[j]?∧SameQ (a.take i++a.drop (i+1)) (b.take j++b.drop (j+1)):=by
 obtain⟨x,p,q,rfl,rfl,h1,h2⟩:=v'S hi
 obtain⟨y,p',q',rfl,rfl,h3,h4⟩:=v'S hj
 have hx:que loc (x::q)=x::que loc q:=by rw[que,x'r];simp[h1,que]
 have hy:que loc (y::q')=y::que loc q':=by rw[que,x'r];simp[h3,que]
 have hq:=h loc
 rw[x'M,x'M,h2,h4,hx,hy,z'L,z'L,x'D]at hq
 obtain⟨rfl,hq⟩:=hq
 refine⟨by simp,fun l=>?_⟩
 have e1:(p++x::q).take p.length++(p++x::q).drop (p.length+1)=p++q:=by simp[List.drop_append]
 have e2:(p'++x::q').take p'.length++(p'++x::q').drop (p'.length+1)=p'++q':=by simp[List.drop_append]
 rw[e1,e2,x'M,x'M]
 by_cases hl:l=loc
 ·subst hl;rw[h2,h4,hq]
 ·have hh:=h l
  have hxl: ∀q:List En,que l (x::q)=que l q:=fun q=>by rw[que,x'r];simp[h1,Ne.symm hl,que]
  rwa [x'M,x'M,hxl,hxl]at hh
def ZlR (ops:Array Oper) (j:Nat) (oj:Oper):Bool:=(List.range ops.size).all fun k=>Nat.ble k j||match ops[k]? with
 |some o=>o.after.any (fun e=>Region.binds .any e&&e.on == j)||oj.apart ops o
 |none=>true
theorem VCd.take {P:Program} {n:Nat} {ops:Array Oper} {j:Nat} {E:Nat→D} {H:Heap} {Q:Exit→St→Prop} {o:Oper} {t s:Tmp} (ho:ops[j]?=some o) (hop:o.op= .move (.tmp t)) (hd:o.dst=some s) (hg:o.guard=none) (hsn:Nat.blt s n=true)
  (haf:o.after= #[]) (hsel:Region.noSelect ops=true) (hfl:ZlR ops j o=true) (hQ: ∀c s', ¬Q (.panic c) s') (h:VCd P n ops (j+1) ⟨upd E s (E t),H⟩ Q):VCd P n ops j ⟨E,H⟩ Q:=by
 intro x a w listed hn hs hsz hl
 have hlt:j<ops.size:=(Array.getElem?_eq_some_iff.1 ho).1
 rw[show ops.size-j=(ops.size-(j+1))+1 by omega]
 have hun:listed.getD j true=false:=by
  cases hq:listed.getD j true with
  |false=>rfl
  |true=>exact absurd ((hl j).1 ((z'H (by omega)).1 hq)) (by omega)
 refine wpAny_first (v:=a.eval (.tmp t)) ho (Region.noSelect_spec hsel) (fun c a w ⟨s',h1,_⟩=>absurd h1 (hQ c s')) _ listed a w ?_ ?_ ?_ ?_
 ·intro k ok hk hkj hku hno
  have hks:k<ops.size:=(Array.getElem?_eq_some_iff.1 hk).1
  have h1:=z'h.1 hfl k (z'J.2 hks)
  simp only[hk,y'O]at h1
  rcases h1 with h1|h1|h1
  ·have:=z'i h1
   have h2:=(hl k).2 (by omega)
   have h3:=(z'H (by omega)).2 h2
   rw[hku]at h3
   cases h3
  ·obtain⟨e,he,hb⟩:=Array.any_eq_true'.1 h1
   simp only[z'b,beq_iff_eq]at hb
   exact absurd hb.2 (hno e he hb.1)
  ·exact h1
 ·exact mem_ready.2 ⟨hun,o,ho,fun e he=>by rw[haf]at he;exact absurd he (by simp)⟩
 ·refine .inl ⟨by simp[Region.wanted,hg],fun w=>?_⟩
  simp only[execOp,hop]
  rfl
 ·rw[hd]
  have hp:=hs.put (dst:=some s) (d:=E t) (v:=a.eval (.tmp t)) (fun t' ht=>by cases ht;rw[hn];exact Nat.blt_eq.mp hsn) (hs.env t) hs.inv (Evo.refl _ _)
  exact h x _ w _ hn hp (by simp[hsz]) (fun k=>by rw[y'y (by omega),hl k];omega)
theorem VCd.oneL {P:Program} (T:Tab P) {n:Nat} {ops:Array Oper} {s:Nat} {E:Nat→D} {H:Heap} {Q:Exit→St→Prop} {o:Oper} {r:List Oper} (hl:ops.toList.drop s=o::r) (hback:(o.after.all fun ed=> !Region.binds .any ed||Nat.blt ed.on s)=true) (hbar:w'B ops s (s+1)=true)
  (hg:o.guard=none) (hd:y'B n o=true) (h: ∀K:(Nat→D)→Heap→Prop,(∀E H,VCd P n ops (s+1) ⟨E,H⟩ Q→K E H)→opC T o (evD E) H (fun d H=>K (updO E o.dst d) H)):VCd P n ops s ⟨E,H⟩ Q:=by
 have ho:ops[s]?=some o:=by
  have h1:=congrArg (fun l=>l[0]?) hl
  simpa using h1
 refine VCd.one ho (fun ed he hb=>?_) hbar hg hd fun K hK=>x'L T (h K hK)
 have h1:=Array.all_eq_true_iff_forall_mem.1 hback ed he
 rw[hb]at h1
 simpa using h1
end Go.Proofs.YtjlnkedmbfdofaaGreat
