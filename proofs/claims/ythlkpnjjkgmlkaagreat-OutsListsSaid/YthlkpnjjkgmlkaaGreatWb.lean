/- Buffers, in plain Lean: what is pushed, popped, and what stands next. No condition. -/
import Derived.Test.YthlkpnjjkgmlkaaGreatWa
import Derived.Test.YthlkpnjjkgmlkaaGreatK2
import Derived.Laws.StructEq
namespace Go.Proofs.YthlkpnjjkgmlkaaGreat
set_option linter.unusedSimpArgs false
set_option linter.unusedVariables false
open Go Go.Proofs Go.Vc
attribute [local irreducible] x'c VCg VCw VCx
abbrev En:=Int×Int
def eR (x:En):List D:=[iD x.1,iD x.2]
def eRs (b:List En):List (List D):=b.map eR
abbrev buf (b:List En):D:= .sl false 2 (eRs b)
def iRs (l:List Int):List (List D):=l.map fun n=>[iD n]
abbrev y'c (l:List Int):D:= .sl false 1 (iRs l)
def w'u (loc:Int):List En→Option Nat
 |[]=>none
 |x::r=>match decide (x.1=loc)with|true=>some 0|false=>(w'u loc r).map (· +1)
def x'O (loc:Int) (b:List En):Nat:=b.countP fun x=>decide (x.1=loc)
def w'T (e:En):List En→List En
 |[]=>[e]
 |x::r=>match decide (x.1>e.1)with|true=>e::x::r|false=>x::w'T e r
def w'M (m:Int) (e:En) (b:List En):List En:=if m=2 then b++[e]else if m=3 then w'T e b else b
def v'k (loc:Int):List En→Option Int
 |[]=>none
 |x::r=>match v'k loc r with
  |some n=>some n
  |none=>match decide (x.1=loc)with|true=>some x.2|false=>none
def ZfA (m:Int) (b:List En) (i:Nat):Bool:=(decide (m=2)&&decide (i=0))||(decide (m=3)&&decide (w'u ((b[i]?).getD (0,0)).1 b=some i))
def ZoQ (m:Int) (b:List En) (k:Nat):List Int:=((List.range k).filter (ZfA m b)).map fun i=>((b[i]?).getD (0,0)).1
def v'5 (m:Int) (b:List En):List Int:=ZoQ m b b.length
def w'9 (m loc:Int) (b:List En):Option Nat:=if m=3 then w'u loc b else if m=2∧b≠[]∧(loc<0∨(b.head?.map (·.1))=some loc)then some 0 else none
theorem ZfM (b:List En): ∀r,r∈eRs b→r.length=2:=by
 intro r h
 obtain⟨x,_,rfl⟩:=z'p.1 h
 rfl
theorem z'7 (b:List En):(eRs b).length=b.length:=z'i ..
theorem Zbc (b:List En) (i:Nat):(eRs b)[i]?=(b[i]?).map eR:=z'J ..
theorem v'z (b:List En):(eRs b).flatten.length=b.length*2:=by
 induction b with
 |nil=>rfl
 |cons x b ih=>simp only[eRs,z'm,z'R,z'h,z'u]at ih⊢;rw[ih];simp[eR];omega
def Srt:List En→Prop
 |[]=>True
 |x::r=>(∀y,y∈r→x.1≤y.1)∧Srt r
def que (loc:Int) (b:List En):List En:=b.filter fun x=>decide (x.1=loc)
theorem ZeE (e:En): ∀(b:List En) (y:En),y∈w'T e b↔y=e∨y∈b
 |[],y=>by simp[w'T]
 |x::r,y=>by
  unfold w'T
  split
  ·simp
  ·simp only[z't,ZeE e r y]
   constructor
   ·rintro(h|h|h)
    ·exact .inr (.inl h)
    ·exact .inl h
    ·exact .inr (.inr h)
   ·rintro(h|h|h)
    ·exact .inr (.inl h)
    ·exact .inl h
    ·exact .inr (.inr h)
theorem ZkN (e:En): ∀b:List En,(w'T e b).length=b.length+1
 |[]=>rfl
 |x::r=>by
  unfold w'T
  split
  ·simp
  ·simp[ZkN e r]
theorem ZgQ (e:En): ∀b:List En,Srt b→Srt (w'T e b)
 |[],_=>⟨fun y h=>(by cases h),trivial⟩
 |x::r,⟨h1,h2⟩=>by
  unfold w'T
  split
  ·rename_i hx
   have hx':x.1>e.1:=of_decide_eq_true hx
   refine⟨fun y hy=>?_,h1,h2⟩
   rcases z't.1 hy with rfl|hy
   ·omega
   ·have:=h1 y hy;omega
  ·rename_i hx
   have hx': ¬x.1>e.1:=of_decide_eq_false hx
   refine⟨fun y hy=>?_,ZgQ e r h2⟩
   rcases(ZeE e r y).1 hy with rfl|hy
   ·omega
   ·exact h1 y hy
theorem ZgP (e:En) (loc:Int): ∀b:List En,Srt b→que loc (w'T e b)=que loc b++que loc [e]
 |[],_=>by simp[w'T,que]
 |x::r,⟨h1,h2⟩=>by
  unfold w'T
  split
  ·rename_i hx
   have hx':x.1>e.1:=of_decide_eq_true hx
   have hno:e.1=loc→que loc (x::r)=[]:=fun he=>by
    rw[que,x'k]
    intro y hy
    have:x.1≤y.1:=by
     rcases z't.1 hy with rfl|hy
     ·exact Int.le_refl _
     ·exact h1 y hy
    simp;omega
   by_cases he:e.1=loc
   ·rw[hno he,z'H]
    show que loc (e::x::r)=_
    have:que loc (e::x::r)=que loc [e]++que loc (x::r):=by rw[que,que,que, ←z'1];rfl
    rw[this,hno he,z's]
   ·have e1:que loc [e]=[]:=by simp[que,he]
    have e2:que loc (e::x::r)=que loc (x::r):=by simp[que,he]
    rw[e1,e2,z's]
  ·have:que loc (x::w'T e r)=que loc [x]++que loc (w'T e r):=by rw[que,que,que, ←z'1];rfl
   rw[this,ZgP e loc r h2, ←z'6]
   congr 1
   rw[que,que,que, ←z'1];rfl
def SameQ (a b:List En):Prop:= ∀loc,que loc a=que loc b
theorem SameQ.nil {b:List En} (h:SameQ [] b):b=[]:=by
 cases b with
 |nil=>rfl
 |cons x r=>
  have:=h x.1
  simp[que]at this
theorem v'a (loc:Int) (a b:List En):que loc (a++b)=que loc a++que loc b:=z'1 ..
theorem ZiV {loc:Int}: ∀{b:List En},w'u loc b=none→que loc b=[]
 |[],_=>rfl
 |x::r,h=>by
  unfold w'u at h
  split at h
  ·cases h
  ·rename_i hx
   have:=ZiV (Option.map_eq_none_iff.1 h)
   rw[que,w'J,hx]
   simpa[que]using this
theorem Zcb {loc:Int}: ∀{b:List En} {i:Nat},w'u loc b=some i→ ∃x p q,b=p++x::q∧p.length=i∧x.1=loc∧que loc p=[]
 |[],i,h=>by simp[w'u]at h
 |x::r,i,h=>by
  unfold w'u at h
  split at h
  ·rename_i hx
   obtain rfl:=y'n h
   exact⟨x,[],r,rfl,rfl,of_decide_eq_true hx,rfl⟩
  ·rename_i hx
   obtain⟨j,hj,rfl⟩:=Option.map_eq_some_iff.1 h
   obtain⟨y,p,q,rfl,h1,h2,h3⟩:=Zcb hj
   exact⟨y,x::p,q,rfl,by simp[h1],h2,by rw[que,w'J,hx];simpa[que]using h3⟩
theorem Zh9 {loc:Int} {b:List En} {i:Nat} (h:w'u loc b=some i):i<b.length:=by
 obtain⟨x,p,q,rfl,rfl,_⟩:=Zcb h
 simp
theorem SameQ.cut {a b:List En} {loc:Int} {i j:Nat} (h:SameQ a b) (hi:w'u loc a=some i) (hj:w'u loc b=some j):a[i]?=b[j]?∧SameQ (a.take i++a.drop (i+1)) (b.take j++b.drop (j+1)):=by
 obtain⟨x,p,q,rfl,rfl,h1,h2⟩:=Zcb hi
 obtain⟨y,p',q',rfl,rfl,h3,h4⟩:=Zcb hj
 have hx:que loc (x::q)=x::que loc q:=by rw[que,w'J];simp[h1,que]
 have hy:que loc (y::q')=y::que loc q':=by rw[que,w'J];simp[h3,que]
 have hq:=h loc
 rw[v'a,v'a,h2,h4,hx,hy,z'H,z'H,x'A]at hq
 obtain⟨rfl,hq⟩:=hq
 refine⟨by simp,fun l=>?_⟩
 have e1:(p++x::q).take p.length++(p++x::q).drop (p.length+1)=p++q:=by simp[List.drop_append]
 have e2:(p'++x::q').take p'.length++(p'++x::q').drop (p'.length+1)=p'++q':=by simp[List.drop_append]
 rw[e1,e2,v'a,v'a]
 by_cases hl:l=loc
 ·subst hl;rw[h2,h4,hq]
 ·have hh:=h l
  have hxl: ∀q:List En,que l (x::q)=que l q:=fun q=>by rw[que,w'J];simp[h1,Ne.symm hl,que]
  rwa [v'a,v'a,hxl,hxl]at hh
def ZrW (ops:Array Oper) (j:Nat) (oj:Oper):Bool:=(List.range ops.size).all fun k=>Nat.ble k j||match ops[k]? with
 |some o=>o.after.any (fun e=>Region.binds .any e&&e.on == j)||oj.apart ops o
 |none=>true
theorem VCd.take {P:Program} {n:Nat} {ops:Array Oper} {j:Nat} {E:Nat→D} {H:Heap} {Q:Exit→St→Prop} {o:Oper} {t s:Tmp} (ho:ops[j]?=some o) (hop:o.op= .move (.tmp t)) (hd:o.dst=some s) (hg:o.guard=none) (hsn:Nat.blt s n=true)
  (haf:o.after= #[]) (hsel:Region.noSelect ops=true) (hfl:ZrW ops j o=true) (hQ: ∀c s', ¬Q (.panic c) s') (h:VCd P n ops (j+1) ⟨upd E s (E t),H⟩ Q):VCd P n ops j ⟨E,H⟩ Q:=by
 intro x a w listed hn hs hsz hl
 have hlt:j<ops.size:=(Array.getElem?_eq_some_iff.1 ho).1
 rw[show ops.size-j=(ops.size-(j+1))+1 by omega]
 have hun:listed.getD j true=false:=by
  cases hq:listed.getD j true with
  |false=>rfl
  |true=>exact absurd ((hl j).1 ((y'b (by omega)).1 hq)) (by omega)
 refine wpAny_first (v:=a.eval (.tmp t)) ho (Region.noSelect_spec hsel) (fun c a w ⟨s',h1,_⟩=>absurd h1 (hQ c s')) _ listed a w ?_ ?_ ?_ ?_
 ·intro k ok hk hkj hku hno
  have hks:k<ops.size:=(Array.getElem?_eq_some_iff.1 hk).1
  have h1:=z'o.1 hfl k (z'Q.2 hks)
  simp only[hk,y'2]at h1
  rcases h1 with h1|h1|h1
  ·have:=z'x h1
   have h2:=(hl k).2 (by omega)
   have h3:=(y'b (by omega)).2 h2
   rw[hku]at h3
   cases h3
  ·obtain⟨e,he,hb⟩:=Array.any_eq_true'.1 h1
   simp only[z'c,beq_iff_eq]at hb
   exact absurd hb.2 (hno e he hb.1)
  ·exact h1
 ·exact mem_ready.2 ⟨hun,o,ho,fun e he=>by rw[haf]at he;exact absurd he (by simp)⟩
 ·refine .inl ⟨by simp[Region.wanted,hg],fun w=>?_⟩
  simp only[execOp,hop]
  rfl
 ·rw[hd]
  have hp:=hs.put (dst:=some s) (d:=E t) (v:=a.eval (.tmp t)) (fun t' ht=>by cases ht;rw[hn];exact Nat.blt_eq.mp hsn) (hs.env t) hs.inv (Evo.refl _ _)
  exact h x _ w _ hn hp (by simp[hsz]) (fun k=>by rw[x'w (by omega),hl k];omega)
theorem VCd.oneL {P:Program} (T:Tab P) {n:Nat} {ops:Array Oper} {s:Nat} {E:Nat→D} {H:Heap} {Q:Exit→St→Prop} {o:Oper} {r:List Oper} (hl:ops.toList.drop s=o::r) (hback:(o.after.all fun ed=> !Region.binds .any ed||Nat.blt ed.on s)=true) (hbar:Zag ops s (s+1)=true)
  (hg:o.guard=none) (hd:x'z n o=true) (h: ∀K:(Nat→D)→Heap→Prop,(∀E H,VCd P n ops (s+1) ⟨E,H⟩ Q→K E H)→opC T o (evD E) H (fun d H=>K (updO E o.dst d) H)):VCd P n ops s ⟨E,H⟩ Q:=by
 have ho:ops[s]?=some o:=by
  have h1:=congrArg (fun l=>l[0]?) hl
  simpa using h1
 refine VCd.one ho (fun ed he hb=>?_) hbar hg hd fun K hK=>w'P T (h K hK)
 have h1:=Array.all_eq_true_iff_forall_mem.1 hback ed he
 rw[hb]at h1
 simpa using h1
section
variable {P : Program} {x : Ctx} {ops : Array Oper} {f st : Nat} {res : Nat → D} {H H1 : Heap} {E : Nat → D} {a0 : Act} {ws : World}
theorem ZdD {W:Nat→Bool} (hW: ∀i,W i=true→y'm ops st i=true) (hB:w's ops f) (hbl:H1.blocks=H.blocks) (hs0:SRel x ⟨E,H⟩ a0 ws) {Q:Exit→Act→World→Prop} {s e:Nat} (hef:e≤f) (bar: ∀i,e≤i→i<ops.size→ ∀k,s≤k→k<e→y'm ops i k=true)
  (hok: ∀j,s≤j→j<e→ ∃o,ops[j]?=some o∧WOk P W (x'a ops E res j) H H1 o j st (res j)) (hdst: ∀k t,z'T ops k=some t→t<x.n)
  (hfin: ∀listed a w,(∀k,isL listed k↔k<e)→GInv x ops f st res H H1 a0 ws listed a w→wpAny P .any ops Q (ops.size-e) listed a w):
  ∀(fuel:Nat) (listed:Array Bool) (a:Act) (w:World),unl listed ops.size=fuel→(∀k,k<s→isL listed k)→(∀k,isL listed k→k<e)→GInv x ops f st res H H1 a0 ws listed a w→wpAny P .any ops Q fuel listed a w:=by
 have hes:e≤ops.size:=z'3 hef hB.le
 intro fuel
 induction fuel with
 |zero=>
  intro listed a w hu hlow hup h
  have all: ∀k,k<ops.size→isL listed k:=fun k hk=>ZaW h.lsize hu hk
  have hl: ∀k,isL listed k↔k<e:=fun k=>⟨hup k,fun hk=>all k (by omega)⟩
  have he:ops.size-e=0:=by
   rcases y'A hes with h'|h'
   ·omega
   ·have:=hup e (all e h');omega
  have:=hfin listed a w hl h
  rwa [he]at this
 |succ fuel ih=>
  intro listed a w hu hlow hup h
  by_cases hall: ∀k,k<e→isL listed k
  ·have hl: ∀k,isL listed k↔k<e:=fun k=>⟨hup k,hall k⟩
   have hcount:ops.size-e=fuel+1:=by
    have key: ∀m,m≤ops.size→((List.range m).filter fun k=> !listed.getD k true).length=m-e:=by
     intro m
     induction m with
     |zero=>intro _;simp
     |succ m ihm=>
      intro hm
      rw[y'h,z'1,z'h,ihm (by omega)]
      by_cases hmf:m<e
      ·have:listed.getD m true=true:=(y'b (by rw[h.lsize];omega)).2 ((hl m).2 hmf)
       rw[y'r,this];simp;omega
      ·have:listed.getD m true=false:=by
        cases hq:listed.getD m true with
        |false=>rfl
        |true=>exact absurd ((hl m).1 ((y'b (by rw[h.lsize];omega)).1 hq)) hmf
       rw[y'r,this];simp;omega
    have:=key ops.size (z'f _)
    unfold unl at hu
    omega
   have:=hfin listed a w hl h
   rwa [hcount]at this
  ·have hex: ∃k,k<e∧ ¬isL listed k:=by
    refine z'z fun hn=>hall fun k hk=>z'z fun hkl=>hn ⟨k,hk,hkl⟩
   have least: ∀m, ∀k,k≤m→k<e→ ¬isL listed k→ ∃k',k'<e∧ ¬isL listed k'∧ ∀l,l<k'→isL listed l:=by
    intro m
    induction m with
    |zero=>intro k hk hkf hkl;exact⟨k,hkf,hkl,fun l hl=>by omega⟩
    |succ m ihm=>
     intro k hk hkf hkl
     by_cases hp: ∀l,l<k→isL listed l
     ·exact⟨k,hkf,hkl,hp⟩
     ·have: ∃l,l<k∧ ¬isL listed l:=z'z fun hn=>hp fun l hl=>z'z fun hll=>hn ⟨l,hl,hll⟩
      obtain⟨l,h1,h2⟩:=this
      exact ihm l (by omega) (by omega) h2
   obtain⟨k0,hk0f,hk0⟩:=hex
   obtain⟨k,hkf,hkl,hkp⟩:=least k0 k0 (z'f _) hk0f hk0
   have hks:k<ops.size:=z'G hkf hes
   have hready:k∈Region.ready .any ops listed:=by
    refine mem_ready.2 ⟨?_,ops[k],by simp[hks],fun ed he hb=>?_⟩
    ·cases hq:listed.getD k true with
     |false=>rfl
     |true=>exact absurd ((y'b (by rw[h.lsize];omega)).1 hq) hkl
    ·have hlt:=hB.back k ops[k] (by simp[hks]) ed he hb
     have:=hkp ed.on hlt
     unfold isL at this
     rw[z'X,this];rfl
   refine⟨fun h0=>by rw[h0]at hready;exact absurd hready y'D,fun i hi=>?_⟩
   obtain⟨h1,h2,o,ho,hr⟩:=y'L h.lsize hi
   have hie:i<e:=by
    rcases z'j i e with h'|h'
    ·exact h'
    ·exfalso
     have hsk:s≤k:=by
      rcases z'j k s with h''|h''
      ·exact absurd (hlow k h'') hkl
      ·exact h''
     have he:=bar i h' h1 k hsk hkf
     exact hkl (y'S (S:=isL listed) (fun j' ed hj' he'=>by
      obtain⟨oj,ed,q1,q2,q3,rfl⟩:=y'x.1 he'
      exact h.down j' oj q1 hj' ed q2 q3) _ i k (fun ed he'=>by
      obtain⟨oj,ed,q1,q2,q3,rfl⟩:=y'x.1 he'
      rw[ho]at q1;cases q1
      exact hr ed q2 q3) he)
   have hisz:i<listed.size:=by rw[h.lsize];exact h1
   refine wpOp_mono (fun a' w' h'=>ih _ a' w' ?_ (fun l hl=>(x'w hisz).2 (.inr (hlow l hl))) (fun k hk=>?_) h') (h.step hW hB hbl hs0 hdst hi (by omega) (hok i (by
     rcases z'j i s with h''|h''
     ·exact absurd (hlow i h'') h2
     ·exact h'') hie))
   ·have:=Za7 h.lsize h1 h2
    omega
   ·rcases(x'w hisz).1 hk with rfl|hk
    ·exact hie
    ·exact hup k hk
end
theorem VCd.groupXs {P:Program} (T:Tab P) (W:Nat→Bool) {n:Nat} {ops:Array Oper} {E:Nat→D} {H:Heap} {Q:Exit→St→Prop} (H1:Heap) (s st e f:Nat) (hbl:H1.blocks=H.blocks) (hs1:s≤st) (hst:Nat.blt st e=true) (hef:Nat.ble e f=true) (hB:w'5 ops f=true) (hbar:Zag ops s e=true) (hd:ops.toList.all (x'z n)=true)
  (hW: ∀i,W i=true→y'm ops st i=true)
  (h:VCx T W st H H1 (fun E'=>VCd P n ops e ⟨E',H1⟩ Q) (e-s) s (ops.toList.drop s) E):VCd P n ops s ⟨E,H⟩ Q:=by
 have hB:=w'n hB
 have hef:e≤f:=z'x hef
 have hst:st<e:=by simpa using hst
 intro x a0 w hn' hn hs hsz hl0
 have hE0: ∀j,j≤s→x'a ops E (fun k=>match z'T ops k with|some t=>E t|none=> .any) j=E:=by
  intro j
  induction j with
  |zero=>intro _;rfl
  |succ j ihj=>
   intro hj
   rw[x'a,ihj (by omega)]
   cases hd':z'T ops j with
   |none=>rfl
   |some t=>exact w'W rfl
 obtain⟨res,hlo,hok,hK⟩:=VCx.extract (ops:=ops) (E0:=E) (e-s) s (fun k=>match z'T ops k with|some t=>E t|none=> .any) (by rw[hE0 s (z'f _)];exact h)
 rw[show s+(e-s)=e by omega]at hK
 have hdst: ∀k t,z'T ops k=some t→t<x.n:=fun k t hk=>hn▸ZbG (l:=ops.toList) hd k t (by simpa using hk)
 have hno: ¬isL hn' st:=fun hk=>by have:=(hl0 st).1 hk;omega
 have hH0:hof H H1 st hn'=H:=by unfold hof;rw[if_neg hno]
 refine ZdD (x:=x) (res:=res) (E:=E) (H:=H) (H1:=H1) (st:=st) (a0:=a0) (ws:=w) (f:=f) (s:=s) hW hB hbl hs hef (fun i h1 h2 k h0 hk=>Zah hbar i h1 h2 k h0 hk) (fun j h0 hj=>hok j h0 (by omega)) hdst ?_ _ hn' a0 w ?_ (fun k hk=>(hl0 k).2 hk) (fun k hk=>by have:=(hl0 k).1 hk;omega) ?_
 ·intro listed a w' hl hF
  have hH1:hof H H1 st listed=H1:=by unfold hof;rw[if_pos ((hl st).2 hst)]
  have hlv:live H1 x.L0=live H x.L0:=ZcF hbl _
  refine hK x a w' listed hn ?_ hF.lsize hl
  have hevo:=hF.evo
  have hinv:=hF.inv
  rw[hH1]at hevo hinv
  refine{env:=fun t=>?_,inv:=hinv,evo:=hs.evo.trans hevo,defers:=hF.defers,size:=hF.size}
  simp only
  rw[hlv]
  by_cases hex: ∃k,k<e∧z'T ops k=some t
  ·obtain⟨k,hkf,hkt⟩:=hex
   rw[Zb7 e hkf hkt (fun j hj hne hd'=>hB.uniq k j (by omega) (by omega) hne (by rw[hkt];simp) (by rw[hd',hkt]))]
   exact hF.slots k t ((hl k).2 hkf) hkt
  ·rw[Za1 e (fun k hk hd'=>hex ⟨k,hk,hd'⟩),hF.rest t (fun k hk hd'=>hex ⟨k,(hl k).1 hk,hd'⟩)]
   have hkeep:=hevo.keeps (L0:=x.L0)
   rw[hlv]at hkeep
   exact Rel.mono hkeep _ _ (hs.env t)
 ·unfold unl
  have key: ∀m,m≤ops.size→((List.range m).filter fun k=> !hn'.getD k true).length=m-s:=by
   intro m
   induction m with
   |zero=>intro _;simp
   |succ m ihm=>
    intro hm
    rw[y'h,z'1,z'h,ihm (by omega)]
    by_cases hmf:m<s
    ·have:hn'.getD m true=true:=(y'b (by rw[hsz];omega)).2 ((hl0 m).2 hmf)
     rw[y'r,this];simp;omega
    ·have:hn'.getD m true=false:=by
      cases hq:hn'.getD m true with
      |false=>rfl
      |true=>exact absurd ((hl0 m).1 ((y'b (by rw[hsz];omega)).1 hq)) hmf
     rw[y'r,this];simp;omega
  exact key ops.size (z'f _)
 ·refine{lsize:=hsz,down:=fun k o ho hk ed he hb=>(hl0 _).2 ?_,front:=fun k hk=>?_,slots:=fun k t hk hkt=>?_,rest:=fun t _=>rfl,inv:=by rw[hH0];exact hs.inv,evo:=by rw[hH0];exact Evo.refl _ _,defers:=hs.defers,size:=hs.size}
  ·have h1:=hB.back k o ho ed he hb
   have h2:=(hl0 k).1 hk
   omega
  ·have:=(hl0 k).1 hk;omega
  ·have h2:=(hl0 k).1 hk
   rw[hlo k h2,hkt]
   exact hs.env t
end Go.Proofs.YthlkpnjjkgmlkaaGreat
