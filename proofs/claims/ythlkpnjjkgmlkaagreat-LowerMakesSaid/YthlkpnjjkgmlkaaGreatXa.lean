/- Buffers, in plain Lean: what is pushed, popped, and what stands next. No condition. -/
import Derived.Test.YthlkpnjjkgmlkaaGreatWa
import Derived.Test.YthlkpnjjkgmlkaaGreatK2
import Derived.Laws.StructEq
namespace Go.Proofs.YthlkpnjjkgmlkaaGreat
set_option linter.unusedSimpArgs false
set_option linter.unusedVariables false
open Go Go.Proofs Go.Vc
attribute [local irreducible] x'r VCg VCw VCx
abbrev En:=Int×Int
def eR (x:En):List D:=[iD x.1,iD x.2]
def eRs (b:List En):List (List D):=b.map eR
abbrev buf (b:List En):D:= .sl false 2 (eRs b)
def iRs (l:List Int):List (List D):=l.map fun n=>[iD n]
abbrev w'H (l:List Int):D:= .sl false 1 (iRs l)
def v'O (loc:Int):List En→Option Nat
 |[]=>none
 |x::r=>match decide (x.1=loc)with|true=>some 0|false=>(v'O loc r).map (· +1)
def ZaC (loc:Int) (b:List En):Nat:=b.countP fun x=>decide (x.1=loc)
def v'Z (e:En):List En→List En
 |[]=>[e]
 |x::r=>match decide (x.1>e.1)with|true=>e::x::r|false=>x::v'Z e r
def Zco (m:Int) (e:En) (b:List En):List En:=if m=2 then b++[e]else if m=3 then v'Z e b else b
def Zdg (loc:Int):List En→Option Int
 |[]=>none
 |x::r=>match Zdg loc r with
  |some n=>some n
  |none=>match decide (x.1=loc)with|true=>some x.2|false=>none
def Zfn (m:Int) (b:List En) (i:Nat):Bool:=(decide (m=2)&&decide (i=0))||(decide (m=3)&&decide (v'O ((b[i]?).getD (0,0)).1 b=some i))
def Zn3 (m:Int) (b:List En) (k:Nat):List Int:=((List.range k).filter (Zfn m b)).map fun i=>((b[i]?).getD (0,0)).1
def v'Y (m:Int) (b:List En):List Int:=Zn3 m b b.length
def ZbU (m loc:Int) (b:List En):Option Nat:=if m=3 then v'O loc b else if m=2∧b≠[]∧(loc<0∨(b.head?.map (·.1))=some loc)then some 0 else none
def Srt:List En→Prop
 |[]=>True
 |x::r=>(∀y,y∈r→x.1≤y.1)∧Srt r
def que (loc:Int) (b:List En):List En:=b.filter fun x=>decide (x.1=loc)
theorem Zez (e:En): ∀(b:List En) (y:En),y∈v'Z e b↔y=e∨y∈b
 |[],y=>by simp[v'Z]
 |x::r,y=>by
  unfold v'Z
  split
  ·simp
  ·simp only[z'v,Zez e r y]
   constructor
   ·rintro(h|h|h)
    ·exact .inr (.inl h)
    ·exact .inl h
    ·exact .inr (.inr h)
   ·rintro(h|h|h)
    ·exact .inr (.inl h)
    ·exact .inl h
    ·exact .inr (.inr h)
theorem Zkf (e:En): ∀b:List En,(v'Z e b).length=b.length+1
 |[]=>rfl
 |x::r=>by
  unfold v'Z
  split
  ·simp
  ·simp[Zkf e r]
theorem Zgz (e:En): ∀b:List En,Srt b→Srt (v'Z e b)
 |[],_=>⟨fun y h=>(by cases h),trivial⟩
 |x::r,⟨h1,h2⟩=>by
  unfold v'Z
  split
  ·rename_i hx
   have hx':x.1>e.1:=of_decide_eq_true hx
   refine⟨fun y hy=>?_,h1,h2⟩
   rcases z'v.1 hy with rfl|hy
   ·omega
   ·have:=h1 y hy;omega
  ·rename_i hx
   have hx': ¬x.1>e.1:=of_decide_eq_false hx
   refine⟨fun y hy=>?_,Zgz e r h2⟩
   rcases(Zez e r y).1 hy with rfl|hy
   ·omega
   ·exact h1 y hy
theorem Zgy (e:En) (loc:Int): ∀b:List En,Srt b→que loc (v'Z e b)=que loc b++que loc [e]
 |[],_=>by simp[v'Z,que]
 |x::r,⟨h1,h2⟩=>by
  unfold v'Z
  split
  ·rename_i hx
   have hx':x.1>e.1:=of_decide_eq_true hx
   have hno:e.1=loc→que loc (x::r)=[]:=fun he=>by
    rw[que,List.filter_eq_nil_iff]
    intro y hy
    have:x.1≤y.1:=by
     rcases z'v.1 hy with rfl|hy
     ·exact Int.le_refl _
     ·exact h1 y hy
    simp;omega
   by_cases he:e.1=loc
   ·rw[hno he,y'h]
    show que loc (e::x::r)=_
    have:que loc (e::x::r)=que loc [e]++que loc (x::r):=by rw[que,que,que, ←List.filter_append];rfl
    rw[this,hno he,z'u]
   ·have e1:que loc [e]=[]:=by simp[que,he]
    have e2:que loc (e::x::r)=que loc (x::r):=by simp[que,he]
    rw[e1,e2,z'u]
  ·have:que loc (x::v'Z e r)=que loc [x]++que loc (v'Z e r):=by rw[que,que,que, ←List.filter_append];rfl
   rw[this,Zgy e loc r h2, ←List.append_assoc]
   congr 1
   rw[que,que,que, ←List.filter_append];rfl
def SameQ (a b:List En):Prop:= ∀loc,que loc a=que loc b
theorem SameQ.nil {b:List En} (h:SameQ [] b):b=[]:=by
 cases b with
 |nil=>rfl
 |cons x r=>
  have:=h x.1
  simp[que]at this
theorem w'8 (loc:Int) (a b:List En):que loc (a++b)=que loc a++que loc b:=z'7 ..
theorem Ziw {loc:Int}: ∀{b:List En},v'O loc b=none→que loc b=[]
 |[],_=>rfl
 |x::r,h=>by
  unfold v'O at h
  split at h
  ·cases h
  ·rename_i hx
   have:=Ziw (Option.map_eq_none_iff.1 h)
   rw[que,x'z,hx]
   simpa[que]using this
theorem Zb2 {loc:Int}: ∀{b:List En} {i:Nat},v'O loc b=some i→ ∃x p q,b=p++x::q∧p.length=i∧x.1=loc∧que loc p=[]
 |[],i,h=>by simp[v'O]at h
 |x::r,i,h=>by
  unfold v'O at h
  split at h
  ·rename_i hx
   obtain rfl:=z'W h
   exact⟨x,[],r,rfl,rfl,of_decide_eq_true hx,rfl⟩
  ·rename_i hx
   obtain⟨j,hj,rfl⟩:=Option.map_eq_some_iff.1 h
   obtain⟨y,p,q,rfl,h1,h2,h3⟩:=Zb2 hj
   exact⟨y,x::p,q,rfl,by simp[h1],h2,by rw[que,x'z,hx];simpa[que]using h3⟩
theorem ZhQ {loc:Int} {b:List En} {i:Nat} (h:v'O loc b=some i):i<b.length:=by
 obtain⟨x,p,q,rfl,rfl,_⟩:=Zb2 h
 simp
theorem SameQ.cut {a b:List En} {loc:Int} {i j:Nat} (h:SameQ a b) (hi:v'O loc a=some i) (hj:v'O loc b=some j):a[i]?=b[j]?∧SameQ (a.take i++a.drop (i+1)) (b.take j++b.drop (j+1)):=by
 obtain⟨x,p,q,rfl,rfl,h1,h2⟩:=Zb2 hi
 obtain⟨y,p',q',rfl,rfl,h3,h4⟩:=Zb2 hj
 have hx:que loc (x::q)=x::que loc q:=by rw[que,x'z];simp[h1,que]
 have hy:que loc (y::q')=y::que loc q':=by rw[que,x'z];simp[h3,que]
 have hq:=h loc
 rw[w'8,w'8,h2,h4,hx,hy,y'h,y'h,v'F]at hq
 obtain⟨rfl,hq⟩:=hq
 refine⟨by simp,fun l=>?_⟩
 have e1:(p++x::q).take p.length++(p++x::q).drop (p.length+1)=p++q:=by simp[List.drop_append]
 have e2:(p'++x::q').take p'.length++(p'++x::q').drop (p'.length+1)=p'++q':=by simp[List.drop_append]
 rw[e1,e2,w'8,w'8]
 by_cases hl:l=loc
 ·subst hl;rw[h2,h4,hq]
 ·have hh:=h l
  have hxl: ∀q:List En,que l (x::q)=que l q:=fun q=>by rw[que,x'z];simp[h1,Ne.symm hl,que]
  rwa [w'8,w'8,hxl,hxl]at hh
set_option linter.unusedSectionVars false
section
variable {α : Type} [DecidableEq α]
structure Spc (α:Type) where
 cf:List α
 pa:List Int
 ag:List Int
 ed:List (Nat×Int×Nat)
def stepA (ac:α→Int→α) (b i:Nat) (c:α) (S:Spc α) (a:Int):Option (Spc α):=
 match S.cf.idxOf? (ac c a)with
 |some k=>some {S with ed:=S.ed++[(i,a,k)]}
 |none=>match decide (S.cf.length<b)with
  |true=>some ⟨S.cf++[ac c a],S.pa++[(i:Int)],S.ag++[a],S.ed++[(i,a,S.cf.length)]⟩
  |false=>none
def Ext (S S':Spc α):Prop:= ∃c p q e,S'.cf=S.cf++c∧S'.pa=S.pa++p∧S'.ag=S.ag++q∧S'.ed=S.ed++e
theorem Ext.refl (S:Spc α):Ext S S:=⟨[],[],[],[],by simp⟩
theorem Ext.trans {S S' S'':Spc α} (h:Ext S S') (k:Ext S' S''):Ext S S'':=by
 obtain⟨c,p,q,e,h1,h2,h3,h4⟩:=h
 obtain⟨c',p',q',e',k1,k2,k3,k4⟩:=k
 exact⟨c++c',p++p',q++q',e++e',by rw[k1,h1,z'M],by rw[k2,h2,z'M],by rw[k3,h3,z'M],by rw[k4,h4,z'M]⟩
theorem Ext.len {S S':Spc α} (h:Ext S S'):S.cf.length≤S'.cf.length:=by
 obtain⟨c,p,q,e,h1,_⟩:=h
 rw[h1,z'e];omega
theorem Ext.at {S S':Spc α} (h:Ext S S') {i:Nat} {c:α} (hc:S.cf[i]?=some c):S'.cf[i]?=some c:=by
 obtain⟨d,p,q,e,h1,_⟩:=h
 rw[h1,y'8 (z'z.1 hc).1];exact hc
theorem Ext.mem {S S':Spc α} (h:Ext S S') {x:α} (hx:x∈S.cf):x∈S'.cf:=by
 obtain⟨d,p,q,e,h1,_⟩:=h
 rw[h1];exact y'H _ hx
def ByOk (mv:α→List Int) (ac:α→Int→α) (S:Spc α) (j:Nat):Prop:=
 ∃(p:Nat) (a:Int) (c:α),p<j∧S.pa[j]?=some (p:Int)∧S.ag[j]?=some a∧S.cf[p]?=some c∧a∈mv c∧S.cf[j]?=some (ac c a)
structure IA (mv:α→List Int) (ac:α→Int→α) (s:α) (S:Spc α):Prop where
 pal:S.pa.length=S.cf.length
 agl:S.ag.length=S.cf.length
 nd:S.cf.Nodup
 first:S.cf[0]?=some s∧S.pa[0]?=some (-1)∧S.ag[0]?=some (-1)
 by_: ∀j,0<j→j<S.cf.length→ByOk mv ac S j
theorem ByOk.ext {mv:α→List Int} {ac:α→Int→α} {S S':Spc α} (h:Ext S S') (hp:S.pa.length=S.cf.length) (hg:S.ag.length=S.cf.length) {j:Nat} (k:ByOk mv ac S j):ByOk mv ac S' j:=by
 obtain⟨p,a,c,h1,h2,h3,h4,h5,h6⟩:=k
 refine⟨p,a,c,h1,?_,?_,h.at h4,h5,h.at h6⟩
 ·obtain⟨d,p,q,e,_,e2,_⟩:=h
  rw[e2,y'8 (z'z.1 h2).1];exact h2
 ·obtain⟨d,p,q,e,_,_,e3,_⟩:=h
  rw[e3,y'8 (z'z.1 h3).1];exact h3
theorem IA.all {mv:α→List Int} {ac:α→Int→α} {s:α} {S:Spc α} (I:IA mv ac s S) {p:α→Prop} (h0:p s) (h: ∀c a,p c→a∈mv c→p (ac c a)): ∀(j:Nat) (c:α),S.cf[j]?=some c→p c:=by
 intro j
 induction j using Nat.strongRecOn with
 |_ j ih=>
  intro c hc
  rcases x'P j with rfl|h0'
  ·rw[I.first.1]at hc;cases hc;exact h0
  ·obtain⟨q,a,d,h1,_,_,h4,h5,h6⟩:=I.by_ j h0' (z'z.1 hc).1
   rw[hc]at h6
   cases h6
   exact h d a (ih q h1 d h4) h5
end
theorem z'O {env:Nat→D} {env':List (Nat×D)} {H H':Heap} (hh:H=H') (h:Vc.sub env env'):Weak ⟨env,H⟩ ⟨z'0 env',H'⟩:=hh▸Weak.sub h
theorem y'J {env:Nat→D} {env':List (Nat×D)} {x:Nat×HC} {H H':Heap} (hh:H=H') (h:Vc.sub env env'):Weak ⟨env,x::H⟩ ⟨z'0 env',H'⟩:=Weak.subH (hh▸z'I _ _) h
def ZfQ (m r loc:Int) (b:List En):Bool:=if m=2 then decide ((b.length:Int)<r)else if m=3 then decide (((ZaC loc b:Nat):Int)<r)else false
set_option maxRecDepth 20000
def Zd5 (k:Nat) (b:List En):List En:=b.take k++b.drop (k+1)
theorem ZpQ {m loc:Int} {b:List En} {k:Nat} (h:ZbU m loc b=some k):k<b.length:=by
 unfold ZbU at h
 split at h
 ·exact ZhQ h
 ·split at h
  ·rename_i hc
   obtain rfl:=z'W h
   have:=hc.2.1
   rcases b with _|⟨x,r⟩
   ·exact absurd rfl this
   ·simp
  ·cases h
def ZcM (m loc:Int) (b:List En):List En×En×Bool:=match ZbU m loc b with
 |none=>(b,(0,0),false)
 |some k=>(Zd5 k b,(b[k]?).getD (0,0),true)
where
 lastF_no {loc:Int}: ∀{b:List En},(∀(i:Nat) (y:En),b[i]?=some y→y.1≠loc)→Zdg loc b=none
 |[],_=>rfl
 |x0::r,hno=>by
  have h0:x0.1≠loc:=hno 0 x0 rfl
  have:=lastF_no (b:=r) fun i y hy=>hno (i+1) y (by simpa using hy)
  simp[Zdg,h0,this]
theorem y'T (l:List Int):(iRs l).length=l.length:=z'i ..
theorem Ze9 (l:List Int) (i:Nat):(iRs l)[i]?=(l[i]?).map fun n=>[iD n]:=z'K ..
theorem Zh7 (l:List Int): ∀r,r∈iRs l→r.length=1:=by
 intro r h
 obtain⟨x,_,rfl⟩:=z'w.1 h
 rfl
theorem Zke (l:List Int):(iRs l).flatten=l.map iD:=by
 induction l with
 |nil=>rfl
 |cons n l ih=>rw[iRs,z'p,y'o];rw[iRs]at ih;rw[ih];rfl
theorem ZfI (a b:List Int) (ha:a.length≤1000000) (hb:b.length≤1000000):Pure Tryz.prog 38 [w'H a,w'H b] (bD (decide (a=b))):=by
 refine Fun.of T [.tmp 4] Tryz.func38 rfl Tryz.ntmps38 Tryz.results38 rfl (by kernel_rfl) ?_
 by_cases hl:a.length=b.length
 ·have hl':((a.length:Int) != (b.length:Int))=false:=by simp[hl]
  repeat' first|refine mq1 (mqt2 @y'T @hl') ?_|fail
  refine VC.loop {k:Nat//k≤a.length∧ ∀i,i<k→a[i]?=b[i]?} (fun p=>⟨z'0 [(0,w'H a),(1,w'H b),(5,iD (p.1:Nat))],[]⟩) (fun p=>a.length-p.1) ⟨0,by omega,fun i hi=>by omega⟩ ?_ ?_
  ·refine Weak.sub ?_
   simp[sub,upd]
  ·rintro⟨k,hk,hs⟩
   dsimp only
   rcases z'g k a.length with hlt|hge
   ·have hd:decide ((k:Int)<(a.length:Int))=true:=by simp;omega
    have hw:IntKind.i64.wrap ((k:Int)+1)=((k+1:Nat):Int):=by rw[w64 (by omega)];omega
    have hkb:k<b.length:=by omega
    obtain⟨x,hx⟩: ∃x,a[k]?=some x:=⟨_,z'k hlt⟩
    obtain⟨y,hy⟩: ∃y,b[k]?=some y:=⟨_,z'k hkb⟩
    have hrx:(iRs a)[k]?=some [iD x]:=by rw[Ze9,hx];rfl
    have hry:(iRs b)[k]?=some [iD y]:=by rw[Ze9,hy];rfl
    by_cases he:x=y
    ·have he':(x != y)=false:=by simp[he]
     repeat' first|refine dr (id:=6) T 8 (by kernel_rfl) ?_|apply VCg.step T rfl rfl;focus((try simp (disch:=omega) only[go_sem,Nat.reduceBEq,hrx,hry,y'T]);(first|exact rfl|refine⟨?_,rfl⟩;try omega))|refine mq1 (mqt4 @hd @hw @he' @y'T) ?_|fail
     refine⟨⟨k+1,by omega,fun i hi=>?_⟩,Weak.sub ?_,by simp only[];omega⟩
     ·rcases z'g i k with h'|h'
      ·exact hs i h'
      ·obtain rfl:i=k:=by omega
       rw[hx,hy,he]
     ·simp[sub,upd]
    ·have he':(x != y)=true:=by simpa using he
     have hab:decide (a=b)=false:=by
      rw[decide_eq_false_iff_not]
      intro h
      rw[h,hy]at hx
      exact he (z'W hx).symm
     rw[hab]
     repeat' first|refine dr (id:=6) T 8 (by kernel_rfl) ?_|apply VCg.step T rfl rfl;focus((try simp (disch:=omega) only[go_sem,Nat.reduceBEq,hrx,hry,y'T]);(first|exact rfl|refine⟨?_,rfl⟩;try omega))|refine mq1 (mqt3 @hd @he' @y'T) ?_|exact z'r T (z'a _) ⟨rfl,rfl⟩|fail
   ·have hd:decide ((k:Int)<(a.length:Int))=false:=by simp;omega
    have hab:decide (a=b)=true:=by
     rw[decide_eq_true_eq]
     apply x'V
     intro i
     rcases z'g i a.length with h'|h'
     ·exact hs i (by omega)
     ·rw[x'd h',x'd (by omega)]
    rw[hab]
    repeat' first|refine mq1 (mqt2 @hd @y'T) ?_|exact z'r T (z'a _) ⟨rfl,rfl⟩|fail
 ·have hl':((a.length:Int) != (b.length:Int))=true:=bne_iff_ne.2 (by omega)
  have hab:decide (a=b)=false:=by
   rw[decide_eq_false_iff_not]
   intro h
   exact hl (by rw[h])
  rw[hab]
  repeat' first|refine mq1 (mqt2 @y'T @hl') ?_|exact z'r T (z'a _) ⟨rfl,rfl⟩|fail
def Zmm (md lc:Int) (x:En):Bool:=decide (x.1<0)||decide (x.1≥lc)||decide (x.2<0)||decide (x.2≥md)
def Zjp (m r:Int) (b:List En) (i:Nat) (x:En):Bool:=decide (m=3)&&((decide (i>0)&&decide (((b[i-1]?).getD (0,0)).1>x.1))||decide (((ZaC x.1 b:Nat):Int)>r))
def ZgR (m r md lc:Int) (b:List En) (i:Nat):Bool:=Zmm md lc ((b[i]?).getD (0,0))||Zjp m r b i ((b[i]?).getD (0,0))
theorem Zak {H:Heap}:FzL H [] []:=rfl
theorem y'f {H:Heap} {d' d:D} {ds' ds:List D} (h:Fz H d' d) (hs:FzL H ds' ds):FzL H (d'::ds') (d::ds):=⟨d,ds,rfl,h,hs⟩
theorem ZqB {H:Heap} {f:Bool} {esz:Nat} {rows:List (List D)}:Fz H (.sl false esz rows) (.sl f esz rows):= .inr ⟨rfl,.inl ⟨f,rfl⟩⟩
theorem x'I {H:Heap} {esz:Nat}:Fz H (.sl false esz []) (.gs none 0):= .inr ⟨rfl,.inr (.inl ⟨rfl,rfl⟩)⟩
theorem HInv.none {w:World} {L0:Nat→Prop} (h:HInv w L0 []):ZeM w L0 [] [] (live [] L0):=⟨h,fun b c hm=>(by cases hm),fun b _ hl=>hl⟩
theorem Fun.argsW {P:Program} {f:FuncId} {args args':List D} {d:D} (h:Pure P f args' d) (hf:FzL [] args' args):Pure P f args d:=
 ⟨h.1,fun w L0 vs hi hr=>h.2 w L0 vs hi (RelL.fz (HInv.none hi) _ _ _ hf hr)⟩
theorem VCg.stepS {P:Program} (T:Tab P) {ops:Array Oper} {H:Heap} {K:(Nat→D)→List (Tmp×NewI)→Prop} {m:Nat} {E:Nat→D} {news:List (Tmp×NewI)} {o:Oper} {l:List Oper} {d:D} {t:Tmp}
  (hg:o.guard=none) (ht:o.dst=some t) (h1:OpS P o (evD E) H (fun d' H'=>d'=d∧H'=H)) (h2:VCg T ops H K m l (upd E t d) news):VCg T ops H K (m+1) (o::l) E news:=
 by unfold VCg;exact⟨.det d,⟨.inl hg,h1⟩,by rw[w'g,z'u,ht];exact h2⟩
def ZsM (x:En):Prop:=(0≤x.1∧x.1<4)∧(0≤x.2∧x.2<8)
def InvQ (m:Int) (is b:List En):Prop:=b.length=is.length∧(∀x,x∈b→ZsM x)∧(m=2∧b=is∨m=3∧Srt b∧SameQ is b)
theorem InvQ.zero {m:Int} (h:m=2∨m=3):InvQ m [] []:=⟨rfl,fun x h=>(by cases h),h.imp (fun h=>⟨h,rfl⟩) (fun h=>⟨h,trivial,fun _=>rfl⟩)⟩
theorem InvQ.push {m:Int} {is b:List En} {e:En} (h:InvQ m is b) (he:ZsM e):InvQ m (is++[e]) (Zco m e b):=by
 obtain⟨h1,h2,h3⟩:=h
 rcases h3 with⟨rfl,rfl⟩|⟨rfl,h4,h5⟩
 ·have hp:Zco 2 e b=b++[e]:=rfl
  rw[hp]
  refine⟨rfl,fun x hx=>?_,.inl ⟨rfl,rfl⟩⟩
  rcases z'X.1 hx with hx|hx
  ·exact h2 x hx
  ·rw[z'R]at hx;subst hx;exact he
 ·have hp:Zco 3 e b=v'Z e b:=rfl
  rw[hp]
  refine⟨by rw[Zkf,z'e,h1];rfl,fun x hx=>?_,.inr ⟨rfl,Zgz e b h4,fun loc=>?_⟩⟩
  ·rcases(Zez e b x).1 hx with rfl|hx
   ·exact he
   ·exact h2 x hx
  ·rw[Zgy e loc b h4,w'8,h5 loc]
theorem Srt.le {b:List En} (h:Srt b): ∀(i:Nat) (x y:En),b[i]?=some x→b[i+1]?=some y→x.1≤y.1:=by
 induction b with
 |nil=>intro i x y hx;simp at hx
 |cons a r ih=>
  intro i x y hx hy
  cases i with
  |zero=>
   obtain rfl:a=x:=by simpa using hx
   exact h.1 y (z'E (by simpa using hy))
  |succ i=>exact ih h.2 i x y (by simpa using hx) (by simpa using hy)
def Inv2 (m:Int) (is b:List En):Prop:=b.length=is.length∧(m=2∧b=is∨m=3∧SameQ is b)
theorem Zn4 {m:Int} {b:List En} {l:Int} (h:l∈v'Y m b): ∃i x,b[i]?=some x∧x.1=l∧Zfn m b i=true:=by
 obtain⟨i,hi,hl⟩:=z'w.1 h
 obtain⟨h1,h2⟩:=x'H.1 hi
 obtain⟨x,hx⟩: ∃x,b[i]?=some x:=⟨_,z'k (z'Q.1 h1)⟩
 exact⟨i,x,hx,by rw[←hl,hx];rfl,h2⟩
theorem Ze7 {x:En} {r:List En}:v'Y 2 (x::r)=[x.1]:=by
 unfold v'Y Zn3
 have: ∀n,(List.range (n+1)).filter (Zfn 2 (x::r))=[0]:=by
  intro n
  induction n with
  |zero=>simp[Zfn]
  |succ n ih=>
   rw[y'I,z'7,ih]
   simp[Zfn]
 rw[z'q,this]
 rfl
theorem Inv2.step {m:Int} {is b:List En} (h:Inv2 m is b) (hne:is≠[]):
  ∃l j k x,(v'Y m b)[(v'Y m b).length-1]?=some l∧0<(v'Y m b).length∧(m=2→(v'Y m b)[0]?=(is[0]?).map (·.1))∧ZbU m l b=some j∧v'O l is=some k∧b[j]?=some x∧is[k]?=some x∧Inv2 m (Zd5 k is) (Zd5 j b):=by
 obtain⟨h1,h2⟩:=h
 have lens: ∀(k j:Nat),k<is.length→j<b.length→(Zd5 j b).length=(Zd5 k is).length:=fun k j hk hj=>by simp[Zd5];omega
 rcases h2 with⟨rfl,rfl⟩|⟨rfl,hq⟩
 ·rcases b with _|⟨x,r⟩
  ·exact absurd rfl hne
  ·have hn:ZbU 2 x.1 (x::r)=some 0:=by simp[ZbU]
   have hf:v'O x.1 (x::r)=some 0:=by simp[v'O]
   exact⟨x.1,0,0,x,by rw[Ze7];rfl,by rw[Ze7];exact Nat.one_pos,fun _=>by rw[Ze7];rfl,hn,hf,rfl,rfl,rfl,.inl ⟨rfl,rfl⟩⟩
 ·rcases b with _|⟨y,r⟩
  ·exact absurd (z'3 h1.symm) hne
  ·have h0:Zfn 3 (y::r) 0=true:=by simp[Zfn,v'O]
   have hmem:y.1∈v'Y 3 (y::r):=z'w.2 ⟨0,x'H.2 ⟨z'Q.2 (by simp),h0⟩,rfl⟩
   have hpos:0<(v'Y 3 (y::r)).length:=List.length_pos_of_mem hmem
   obtain⟨l,hl⟩: ∃l,(v'Y 3 (y::r))[(v'Y 3 (y::r)).length-1]?=some l:=⟨_,z'k (by omega)⟩
   obtain⟨i,x,hx,hxl,hs⟩:=Zn4 (z'E hl)
   have hfi:v'O l (y::r)=some i:=by
    simp only[Zfn,hx,z'B,hxl]at hs
    simpa using hs
   have hk: ∃k,v'O l is=some k:=by
    cases hc:v'O l is with
    |some k=>exact⟨k,rfl⟩
    |none=>
     have:=hq l
     rw[Ziw hc]at this
     obtain⟨z,p,q,e,_,hz,_⟩:=Zb2 hfi
     rw[e,w'8]at this
     have hzq:que l (z::q)=z::que l q:=by rw[que,x'z];simp[hz,que]
     rw[hzq]at this
     simp at this
   obtain⟨k,hk⟩:=hk
   obtain⟨e1,e2⟩:=SameQ.cut hq hk hfi
   exact⟨l,i,k,x,hl,hpos,fun h=>absurd h (by decide),by simp[ZbU,hfi],hk,hx,by rw[e1,hx],lens _ _ (ZhQ hk) (ZhQ hfi),.inr ⟨rfl,e2⟩⟩
theorem Weak.trans {s s' s'':St} (h:Weak s s') (h':Weak s' s''):Weak s s'':=fun x a w hs=>h' x a w (h x a w hs)
theorem Znr {g:Option (Nat×Nat)} {e:TypeId} {esz n:Nat} {rows:List (List D)} (hg:gOk g n) (hn:rows.length=n) (hr: ∀r,r∈rows→r.length=esz):Fz (shp g e esz rows.flatten []) (.sl false esz rows) (.gs g n):=by
 subst hn
 cases g with
 |none=>
  have h0:rows=[]:=z'3 hg
  subst h0
  exact .inr ⟨rfl,.inr (.inl ⟨rfl,rfl⟩)⟩
 |some p=>
  obtain⟨b,cap⟩:=p
  exact .inr ⟨rfl,.inr (.inr ⟨b,0,rows.length,cap,.inl ⟨rfl,rfl⟩,rfl,e,_,_,z't ..,FzR.refl _ _ hr⟩)⟩
def inB (n m:Int):Bool:=decide (n≥0)&&decide (n<m)
def x'A (l:List Int) (m:Int):Bool:=l.all fun n=>inB n m
def Zex (m r md:Int):Bool:=decide (1≤m)&&decide (m≤3)&&(decide (1≤r)&&decide (r≤4)&&decide (2≤md)&&decide (md≤16))
def ZfS (m r:Int) (b:List En):Bool:=(decide (m≠1)&&(decide (m=3)||decide ((b.length:Int)≤r)))||decide ((b.length:Int)=0)
def v'r (m r md lc:Int) (b:List En):Bool:=Zex m r md&&((List.range b.length).all fun i=> !ZgR m r md lc b i)&&ZfS m r b
end Go.Proofs.YthlkpnjjkgmlkaaGreat
