/- Bytes al a text: which texts are one. No condition. -/
import Derived.Test.YthlkpnjjkgmlkaaGreatXa
import Derived.Test.YthlkpnjjkgmlkaaGreatYd
import Derived.Test.YthlkpnjjkgmlkaaGreatZr
import Derived.Test.YthlkpnjjkgmlkaaGreatYi
import Derived.Test.YthlkpnjjkgmlkaaGreatYp
import Derived.Test.YthlkpnjjkgmlkaaGreatZh
import Derived.Test.YthlkpnjjkgmlkaaGreatLa
import Derived.Test.YthlkpnjjkgmlkaaGreatXe
namespace Go.Proofs.YthlkpnjjkgmlkaaGreat
set_option linter.unusedSimpArgs false
set_option linter.unusedVariables false
open Go Go.Proofs Go.Vc
attribute [local irreducible] x'r VCg VCw VCx
def Zq7 (ops:Array Oper) (j:Nat) (oj:Oper):Bool:=(List.range ops.size).all fun k=>Nat.ble k j||match ops[k]? with
 |some o=>o.after.any (fun e=>Region.binds .any e&&e.on == j)||oj.apart ops o
 |none=>true
theorem VCd.take {P:Program} {n:Nat} {ops:Array Oper} {j:Nat} {E:Nat→D} {H:Heap} {Q:Exit→St→Prop} {o:Oper} {t s:Tmp} (ho:ops[j]?=some o) (hop:o.op= .move (.tmp t)) (hd:o.dst=some s) (hg:o.guard=none) (hsn:Nat.blt s n=true)
  (haf:o.after= #[]) (hsel:Region.noSelect ops=true) (hfl:Zq7 ops j o=true) (hQ: ∀c s', ¬Q (.panic c) s') (h:VCd P n ops (j+1) ⟨upd E s (E t),H⟩ Q):VCd P n ops j ⟨E,H⟩ Q:=by
 intro x a w listed hn hs hsz hl
 have hlt:j<ops.size:=(Array.getElem?_eq_some_iff.1 ho).1
 rw[show ops.size-j=(ops.size-(j+1))+1 by omega]
 have hun:listed.getD j true=false:=by
  cases hq:listed.getD j true with
  |false=>rfl
  |true=>exact absurd ((hl j).1 ((y'm (by omega)).1 hq)) (by omega)
 refine wpAny_first (v:=a.eval (.tmp t)) ho (Region.noSelect_spec hsel) (fun c a w ⟨s',h1,_⟩=>absurd h1 (hQ c s')) _ listed a w ?_ ?_ ?_ ?_
 ·intro k ok hk hkj hku hno
  have hks:k<ops.size:=(Array.getElem?_eq_some_iff.1 hk).1
  have h1:=z'l.1 hfl k (z'Q.2 hks)
  simp only[hk,z'1]at h1
  rcases h1 with h1|h1|h1
  ·have:=z'F h1
   have h2:=(hl k).2 (by omega)
   have h3:=(y'm (by omega)).2 h2
   rw[hku]at h3
   cases h3
  ·obtain⟨e,he,hb⟩:=Array.any_eq_true'.1 h1
   simp only[z'd,beq_iff_eq]at hb
   exact absurd hb.2 (hno e he hb.1)
  ·exact h1
 ·exact mem_ready.2 ⟨hun,o,ho,fun e he=>by rw[haf]at he;exact absurd he (by simp)⟩
 ·refine .inl ⟨by simp[Region.wanted,hg],fun w=>?_⟩
  simp only[execOp,hop]
  rfl
 ·rw[hd]
  have hp:=hs.put (dst:=some s) (d:=E t) (v:=a.eval (.tmp t)) (fun t' ht=>by cases ht;rw[hn];exact Nat.blt_eq.mp hsn) (hs.env t) hs.inv (Evo.refl _ _)
  exact h x _ w _ hn hp (by simp[hsz]) (fun k=>by rw[x'u (by omega),hl k];omega)
theorem VCd.oneL {P:Program} (T:Tab P) {n:Nat} {ops:Array Oper} {s:Nat} {E:Nat→D} {H:Heap} {Q:Exit→St→Prop} {o:Oper} {r:List Oper} (hl:ops.toList.drop s=o::r) (hback:(o.after.all fun ed=> !Region.binds .any ed||Nat.blt ed.on s)=true) (hbar:Za5 ops s (s+1)=true)
  (hg:o.guard=none) (hd:x'K n o=true) (h: ∀K:(Nat→D)→Heap→Prop,(∀E H,VCd P n ops (s+1) ⟨E,H⟩ Q→K E H)→opC T o (evD E) H (fun d H=>K (updO E o.dst d) H)):VCd P n ops s ⟨E,H⟩ Q:=by
 have ho:ops[s]?=some o:=by
  have h1:=congrArg (fun l=>l[0]?) hl
  simpa using h1
 refine VCd.one ho (fun ed he hb=>?_) hbar hg hd fun K hK=>w'O T (h K hK)
 have h1:=Array.all_eq_true_iff_forall_mem.1 hback ed he
 rw[hb]at h1
 simpa using h1
set_option maxRecDepth 20000
theorem TI.sl {X:List ByteArray} {S:List Int} {n k:Nat} (I:TI hm0 X S n) (hl:S.length=2^k) (hk:4≤k∧k≤40) (hn:n<S.length) (ht:X.length≤1000000):ZtN X S k:=
 ⟨hl,hk,by have:=I.free;omega,fun v hv=>by
  obtain⟨p,hp,rfl⟩:=List.mem_iff_getElem.1 hv
  rcases I.val p _ (z'k hp)with h|⟨i,hi,h⟩
  ·exact .inl h
  ·exact .inr ⟨i,by have:=I.nT;omega,h⟩,ht⟩
section
variable {P : Program} {x : Ctx} {ops : Array Oper} {f st : Nat} {res : Nat → D} {H H1 : Heap} {E : Nat → D} {a0 : Act} {ws : World}
theorem Zdv {W:Nat→Bool} (hW: ∀i,W i=true→y'B ops st i=true) (hB:w'o ops f) (hbl:H1.blocks=H.blocks) (hs0:SRel x ⟨E,H⟩ a0 ws) {Q:Exit→Act→World→Prop} {s e:Nat} (hef:e≤f) (bar: ∀i,e≤i→i<ops.size→ ∀k,s≤k→k<e→y'B ops i k=true)
  (hok: ∀j,s≤j→j<e→ ∃o,ops[j]?=some o∧WOk P W (x'g ops E res j) H H1 o j st (res j)) (hdst: ∀k t,z'U ops k=some t→t<x.n)
  (hfin: ∀listed a w,(∀k,isL listed k↔k<e)→GInv x ops f st res H H1 a0 ws listed a w→wpAny P .any ops Q (ops.size-e) listed a w):
  ∀(fuel:Nat) (listed:Array Bool) (a:Act) (w:World),unl listed ops.size=fuel→(∀k,k<s→isL listed k)→(∀k,isL listed k→k<e)→GInv x ops f st res H H1 a0 ws listed a w→wpAny P .any ops Q fuel listed a w:=by
 have hes:e≤ops.size:=y'b hef hB.le
 intro fuel
 induction fuel with
 |zero=>
  intro listed a w hu hlow hup h
  have all: ∀k,k<ops.size→isL listed k:=fun k hk=>ZaM h.lsize hu hk
  have hl: ∀k,isL listed k↔k<e:=fun k=>⟨hup k,fun hk=>all k (by omega)⟩
  have he:ops.size-e=0:=by
   rcases y'K hes with h'|h'
   ·omega
   ·have:=hup e (all e h');omega
  have:=hfin listed a w hl h
  rwa [he]at this
 |succ fuel ih=>
  intro listed a w hu hlow hup h
  by_cases hall: ∀k,k<e→isL listed k
  ·have hl: ∀k,isL listed k↔k<e:=fun k=>⟨hup k,hall k⟩
   have hcount:ops.size-e=fuel+1:=by
    have key: ∀m,m≤ops.size→((List.range m).filter fun k=> !listed.getD k true).length=m-e:=by
     intro m
     induction m with
     |zero=>intro _;simp
     |succ m ihm=>
      intro hm
      rw[y'I,z'7,z'e,ihm (by omega)]
      by_cases hmf:m<e
      ·have:listed.getD m true=true:=(y'm (by rw[h.lsize];omega)).2 ((hl m).2 hmf)
       rw[y'C,this];simp;omega
      ·have:listed.getD m true=false:=by
        cases hq:listed.getD m true with
        |false=>rfl
        |true=>exact absurd ((hl m).1 ((y'm (by rw[h.lsize];omega)).1 hq)) hmf
       rw[y'C,this];simp;omega
    have:=key ops.size (z'c _)
    unfold unl at hu
    omega
   have:=hfin listed a w hl h
   rwa [hcount]at this
  ·have hex: ∃k,k<e∧ ¬isL listed k:=by
    refine z'C fun hn=>hall fun k hk=>z'C fun hkl=>hn ⟨k,hk,hkl⟩
   have least: ∀m, ∀k,k≤m→k<e→ ¬isL listed k→ ∃k',k'<e∧ ¬isL listed k'∧ ∀l,l<k'→isL listed l:=by
    intro m
    induction m with
    |zero=>intro k hk hkf hkl;exact⟨k,hkf,hkl,fun l hl=>by omega⟩
    |succ m ihm=>
     intro k hk hkf hkl
     by_cases hp: ∀l,l<k→isL listed l
     ·exact⟨k,hkf,hkl,hp⟩
     ·have: ∃l,l<k∧ ¬isL listed l:=z'C fun hn=>hp fun l hl=>z'C fun hll=>hn ⟨l,hl,hll⟩
      obtain⟨l,h1,h2⟩:=this
      exact ihm l (by omega) (by omega) h2
   obtain⟨k0,hk0f,hk0⟩:=hex
   obtain⟨k,hkf,hkl,hkp⟩:=least k0 k0 (z'c _) hk0f hk0
   have hks:k<ops.size:=z'N hkf hes
   have hready:k∈Region.ready .any ops listed:=by
    refine mem_ready.2 ⟨?_,ops[k],by simp[hks],fun ed he hb=>?_⟩
    ·cases hq:listed.getD k true with
     |false=>rfl
     |true=>exact absurd ((y'm (by rw[h.lsize];omega)).1 hq) hkl
    ·have hlt:=hB.back k ops[k] (by simp[hks]) ed he hb
     have:=hkp ed.on hlt
     unfold isL at this
     rw[z'4,this];rfl
   refine⟨fun h0=>by rw[h0]at hready;exact absurd hready y'P,fun i hi=>?_⟩
   obtain⟨h1,h2,o,ho,hr⟩:=y'Q h.lsize hi
   have hie:i<e:=by
    rcases z'g i e with h'|h'
    ·exact h'
    ·exfalso
     have hsk:s≤k:=by
      rcases z'g k s with h''|h''
      ·exact absurd (hlow k h'') hkl
      ·exact h''
     have he:=bar i h' h1 k hsk hkf
     exact hkl (y'U (S:=isL listed) (fun j' ed hj' he'=>by
      obtain⟨oj,ed,q1,q2,q3,rfl⟩:=y'z.1 he'
      exact h.down j' oj q1 hj' ed q2 q3) _ i k (fun ed he'=>by
      obtain⟨oj,ed,q1,q2,q3,rfl⟩:=y'z.1 he'
      rw[ho]at q1;cases q1
      exact hr ed q2 q3) he)
   have hisz:i<listed.size:=by rw[h.lsize];exact h1
   refine wpOp_mono (fun a' w' h'=>ih _ a' w' ?_ (fun l hl=>(x'u hisz).2 (.inr (hlow l hl))) (fun k hk=>?_) h') (h.step hW hB hbl hs0 hdst hi (by omega) (hok i (by
     rcases z'g i s with h''|h''
     ·exact absurd (hlow i h'') h2
     ·exact h'') hie))
   ·have:=Za3 h.lsize h1 h2
    omega
   ·rcases(x'u hisz).1 hk with rfl|hk
    ·exact hie
    ·exact hup k hk
end
theorem VCd.groupXs {P:Program} (T:Tab P) (W:Nat→Bool) {n:Nat} {ops:Array Oper} {E:Nat→D} {H:Heap} {Q:Exit→St→Prop} (H1:Heap) (s st e f:Nat) (hbl:H1.blocks=H.blocks) (hs1:s≤st) (hst:Nat.blt st e=true) (hef:Nat.ble e f=true) (hB:v'o ops f=true) (hbar:Za5 ops s e=true) (hd:ops.toList.all (x'K n)=true)
  (hW: ∀i,W i=true→y'B ops st i=true)
  (h:VCx T W st H H1 (fun E'=>VCd P n ops e ⟨E',H1⟩ Q) (e-s) s (ops.toList.drop s) E):VCd P n ops s ⟨E,H⟩ Q:=by
 have hB:=w's hB
 have hef:e≤f:=z'F hef
 have hst:st<e:=by simpa using hst
 intro x a0 w hn' hn hs hsz hl0
 have hE0: ∀j,j≤s→x'g ops E (fun k=>match z'U ops k with|some t=>E t|none=> .any) j=E:=by
  intro j
  induction j with
  |zero=>intro _;rfl
  |succ j ihj=>
   intro hj
   rw[x'g,ihj (by omega)]
   cases hd':z'U ops j with
   |none=>rfl
   |some t=>exact w'Z rfl
 obtain⟨res,hlo,hok,hK⟩:=VCx.extract (ops:=ops) (E0:=E) (e-s) s (fun k=>match z'U ops k with|some t=>E t|none=> .any) (by rw[hE0 s (z'c _)];exact h)
 rw[show s+(e-s)=e by omega]at hK
 have hdst: ∀k t,z'U ops k=some t→t<x.n:=fun k t hk=>hn▸Zbx (l:=ops.toList) hd k t (by simpa using hk)
 have hno: ¬isL hn' st:=fun hk=>by have:=(hl0 st).1 hk;omega
 have hH0:hof H H1 st hn'=H:=by unfold hof;rw[if_neg hno]
 refine Zdv (x:=x) (res:=res) (E:=E) (H:=H) (H1:=H1) (st:=st) (a0:=a0) (ws:=w) (f:=f) (s:=s) hW hB hbl hs hef (fun i h1 h2 k h0 hk=>Za6 hbar i h1 h2 k h0 hk) (fun j h0 hj=>hok j h0 (by omega)) hdst ?_ _ hn' a0 w ?_ (fun k hk=>(hl0 k).2 hk) (fun k hk=>by have:=(hl0 k).1 hk;omega) ?_
 ·intro listed a w' hl hF
  have hH1:hof H H1 st listed=H1:=by unfold hof;rw[if_pos ((hl st).2 hst)]
  have hlv:live H1 x.L0=live H x.L0:=ZdP hbl _
  refine hK x a w' listed hn ?_ hF.lsize hl
  have hevo:=hF.evo
  have hinv:=hF.inv
  rw[hH1]at hevo hinv
  refine{env:=fun t=>?_,inv:=hinv,evo:=hs.evo.trans hevo,defers:=hF.defers,size:=hF.size}
  simp only
  rw[hlv]
  by_cases hex: ∃k,k<e∧z'U ops k=some t
  ·obtain⟨k,hkf,hkt⟩:=hex
   rw[Zc7 e hkf hkt (fun j hj hne hd'=>hB.uniq k j (by omega) (by omega) hne (by rw[hkt];simp) (by rw[hd',hkt]))]
   exact hF.slots k t ((hl k).2 hkf) hkt
  ·rw[ZbY e (fun k hk hd'=>hex ⟨k,hk,hd'⟩),hF.rest t (fun k hk hd'=>hex ⟨k,(hl k).1 hk,hd'⟩)]
   have hkeep:=hevo.keeps (L0:=x.L0)
   rw[hlv]at hkeep
   exact Rel.mono hkeep _ _ (hs.env t)
 ·unfold unl
  have key: ∀m,m≤ops.size→((List.range m).filter fun k=> !hn'.getD k true).length=m-s:=by
   intro m
   induction m with
   |zero=>intro _;simp
   |succ m ihm=>
    intro hm
    rw[y'I,z'7,z'e,ihm (by omega)]
    by_cases hmf:m<s
    ·have:hn'.getD m true=true:=(y'm (by rw[hsz];omega)).2 ((hl0 m).2 hmf)
     rw[y'C,this];simp;omega
    ·have:hn'.getD m true=false:=by
      cases hq:hn'.getD m true with
      |false=>rfl
      |true=>exact absurd ((hl0 m).1 ((y'm (by rw[hsz];omega)).1 hq)) hmf
     rw[y'C,this];simp;omega
  exact key ops.size (z'c _)
 ·refine{lsize:=hsz,down:=fun k o ho hk ed he hb=>(hl0 _).2 ?_,front:=fun k hk=>?_,slots:=fun k t hk hkt=>?_,rest:=fun t _=>rfl,inv:=by rw[hH0];exact hs.inv,evo:=by rw[hH0];exact Evo.refl _ _,defers:=hs.defers,size:=hs.size}
  ·have h1:=hB.back k o ho ed he hb
   have h2:=(hl0 k).1 hk
   omega
  ·have:=(hl0 k).1 hk;omega
  ·have h2:=(hl0 k).1 hk
   rw[hlo k h2,hkt]
   exact hs.env t
section
variable {P : Program} {ops : Array Oper} {f : Nat}
theorem ZoA (hB:w'o ops f) {Q:Exit→Act→World→Prop} {I:Array Bool→Act→World→Prop} {s e:Nat} (hef:e≤f) (bar: ∀i,e≤i→i<ops.size→ ∀k,s≤k→k<e→y'B ops i k=true)
  (hsz: ∀listed a w,I listed a w→listed.size=ops.size) (hdown: ∀listed a w,I listed a w→ ∀k o,ops[k]?=some o→isL listed k→ ∀e∈o.after,Region.binds .any e=true→isL listed e.on)
  (hstep: ∀listed a w i,I listed a w→i∈Region.ready .any ops listed→s≤i→i<e→wpOp P ops Q i (fun a' w'=>I (listed.setIfInBounds i true) a' w') a w)
  (hfin: ∀listed a w,(∀k,isL listed k↔k<e)→I listed a w→wpAny P .any ops Q (ops.size-e) listed a w):
  ∀(fuel:Nat) (listed:Array Bool) (a:Act) (w:World),unl listed ops.size=fuel→(∀k,k<s→isL listed k)→(∀k,isL listed k→k<e)→I listed a w→wpAny P .any ops Q fuel listed a w:=by
 have hes:e≤ops.size:=y'b hef hB.le
 intro fuel
 induction fuel with
 |zero=>
  intro listed a w hu hlow hup h
  have all: ∀k,k<ops.size→isL listed k:=fun k hk=>ZaM (hsz _ _ _ h) hu hk
  have hl: ∀k,isL listed k↔k<e:=fun k=>⟨hup k,fun hk=>all k (by omega)⟩
  have he:ops.size-e=0:=by
   rcases y'K hes with h'|h'
   ·omega
   ·have:=hup e (all e h');omega
  have:=hfin listed a w hl h
  rwa [he]at this
 |succ fuel ih=>
  intro listed a w hu hlow hup h
  by_cases hall: ∀k,k<e→isL listed k
  ·have hl: ∀k,isL listed k↔k<e:=fun k=>⟨hup k,hall k⟩
   have hcount:ops.size-e=fuel+1:=by
    have key: ∀m,m≤ops.size→((List.range m).filter fun k=> !listed.getD k true).length=m-e:=by
     intro m
     induction m with
     |zero=>intro _;simp
     |succ m ihm=>
      intro hm
      rw[y'I,z'7,z'e,ihm (by omega)]
      by_cases hmf:m<e
      ·have:listed.getD m true=true:=(y'm (by rw[(hsz _ _ _ h)];omega)).2 ((hl m).2 hmf)
       rw[y'C,this];simp;omega
      ·have:listed.getD m true=false:=by
        cases hq:listed.getD m true with
        |false=>rfl
        |true=>exact absurd ((hl m).1 ((y'm (by rw[(hsz _ _ _ h)];omega)).1 hq)) hmf
       rw[y'C,this];simp;omega
    have:=key ops.size (z'c _)
    unfold unl at hu
    omega
   have:=hfin listed a w hl h
   rwa [hcount]at this
  ·have hex: ∃k,k<e∧ ¬isL listed k:=by
    refine z'C fun hn=>hall fun k hk=>z'C fun hkl=>hn ⟨k,hk,hkl⟩
   have least: ∀m, ∀k,k≤m→k<e→ ¬isL listed k→ ∃k',k'<e∧ ¬isL listed k'∧ ∀l,l<k'→isL listed l:=by
    intro m
    induction m with
    |zero=>intro k hk hkf hkl;exact⟨k,hkf,hkl,fun l hl=>by omega⟩
    |succ m ihm=>
     intro k hk hkf hkl
     by_cases hp: ∀l,l<k→isL listed l
     ·exact⟨k,hkf,hkl,hp⟩
     ·have: ∃l,l<k∧ ¬isL listed l:=z'C fun hn=>hp fun l hl=>z'C fun hll=>hn ⟨l,hl,hll⟩
      obtain⟨l,h1,h2⟩:=this
      exact ihm l (by omega) (by omega) h2
   obtain⟨k0,hk0f,hk0⟩:=hex
   obtain⟨k,hkf,hkl,hkp⟩:=least k0 k0 (z'c _) hk0f hk0
   have hks:k<ops.size:=z'N hkf hes
   have hready:k∈Region.ready .any ops listed:=by
    refine mem_ready.2 ⟨?_,ops[k],by simp[hks],fun ed he hb=>?_⟩
    ·cases hq:listed.getD k true with
     |false=>rfl
     |true=>exact absurd ((y'm (by rw[(hsz _ _ _ h)];omega)).1 hq) hkl
    ·have hlt:=hB.back k ops[k] (by simp[hks]) ed he hb
     have:=hkp ed.on hlt
     unfold isL at this
     rw[z'4,this];rfl
   refine⟨fun h0=>by rw[h0]at hready;exact absurd hready y'P,fun i hi=>?_⟩
   obtain⟨h1,h2,o,ho,hr⟩:=y'Q (hsz _ _ _ h) hi
   have hie:i<e:=by
    rcases z'g i e with h'|h'
    ·exact h'
    ·exfalso
     have hsk:s≤k:=by
      rcases z'g k s with h''|h''
      ·exact absurd (hlow k h'') hkl
      ·exact h''
     have he:=bar i h' h1 k hsk hkf
     exact hkl (y'U (S:=isL listed) (fun j' ed hj' he'=>by
      obtain⟨oj,ed,q1,q2,q3,rfl⟩:=y'z.1 he'
      exact hdown _ _ _ h j' oj q1 hj' ed q2 q3) _ i k (fun ed he'=>by
      obtain⟨oj,ed,q1,q2,q3,rfl⟩:=y'z.1 he'
      rw[ho]at q1;cases q1
      exact hr ed q2 q3) he)
   have hisz:i<listed.size:=by rw[(hsz _ _ _ h)];exact h1
   have hsi:s≤i:=by
    rcases z'g i s with h''|h''
    ·exact absurd (hlow i h'') h2
    ·exact h''
   refine wpOp_mono (fun a' w' h'=>ih _ a' w' ?_ (fun l hl=>(x'u hisz).2 (.inr (hlow l hl))) (fun k hk=>?_) h') (hstep _ _ _ i h hi hsi hie)
   ·have:=Za3 (hsz _ _ _ h) h1 h2
    omega
   ·rcases(x'u hisz).1 hk with rfl|hk
    ·exact hie
    ·exact hup k hk
end
section
variable {P : Program} {x : Ctx} {ops : Array Oper} {f : Nat} {H : Heap} {E : Nat → D} {a0 : Act} {ws : World}
theorem Zgw (H:Heap) (st:Nat) (listed:Array Bool):hof H H st listed=H:=by unfold hof;split<;>rfl
def Zsb (P:Program) (ops:Array Oper) (E:Nat→D) (s st e:Nat) (resA:Nat→D) (KB:(Nat→D)→Heap→Prop) (d:D) (H1:Heap) (resB:Nat→D):Prop:=
 (∀k,k≠st→y'B ops k st=false→resB k=resA k)∧resB st=d∧
 (∀j,s≤j→j<e→j≠st→y'B ops st j=false→ ∃o,ops[j]?=some o∧o.guard=none∧OpS P o (evD (x'g ops E resB j)) H1 (fun d' H'=>d'=resB j∧H'=H1))∧KB (x'g ops E resB e) H1
def NInv (P:Program) (x:Ctx) (ops:Array Oper) (f:Nat) (H:Heap) (E:Nat→D) (a0:Act) (ws:World) (s st e:Nat) (resA:Nat→D) (KB:(Nat→D)→Heap→Prop) (listed:Array Bool) (a:Act) (w:World):Prop:=
 (¬isL listed st∧GInv x ops f ops.size resA H H a0 ws listed a w)∨
 (isL listed st∧ ∃d H1 resB w0,Zsb P ops E s st e resA KB d H1 resB∧SRel x ⟨E,H1⟩ a0 w0∧GInv x ops f ops.size resB H1 H1 a0 w0 listed a w)
theorem NInv.step {s st e : Nat} {resA : Nat → D} {KB : (Nat → D) → Heap → Prop} (hB : w'o ops f) (hs0 : SRel x ⟨E, H⟩ a0 ws) (hef : e ≤ f) {Q : Exit → Act → World → Prop} (hdst : ∀ k t, z'U ops k = some t → t < x.n)
    (hA : ∀ j, s ≤ j → j < e → j ≠ st → y'B ops j st = false → ∃ o, ops[j]? = some o ∧ o.guard = none ∧ OpS P o (evD (x'g ops E resA j)) H (fun d' H' => d' = resA j ∧ H' = H))
    (hS : ∃ o, ops[st]? = some o ∧ o.guard = none ∧ OpS P o (evD (x'g ops E resA st)) H (fun d' H' => ∃ resB, Zsb P ops E s st e resA KB d' H' resB))
    (listed : Array Bool) (a : Act) (w : World) (i : Nat) (h : NInv P x ops f H E a0 ws s st e resA KB listed a w) (hr : i ∈ Region.ready .any ops listed) (hsi : s ≤ i) (hie : i < e) :
    wpOp P ops Q i (fun a' w' => NInv P x ops f H E a0 ws s st e resA KB (listed.setIfInBounds i true) a' w') a w := by
  rcases h with ⟨hst, h⟩ | ⟨hst, d, H1, resB, w0, hRB, hs1, h⟩
  · obtain ⟨hisz, hil, o, ho, hready⟩ := y'Q h.lsize hr
    have hisz' : i < listed.size := by rw [h.lsize]; exact hisz
    have hm : ∀ k, isL (listed.setIfInBounds i true) k ↔ k = i ∨ isL listed k := fun k => x'u hisz'
    by_cases hi : i = st
    · subst hi
      obtain ⟨o', ho', hg, hop⟩ := hS
      rw [ho] at ho'; cases ho'
      have hdi : z'U ops i = o.dst := by simp [z'U, ho]
      have hdn : ∀ t, o.dst = some t → t < x.n := fun t ht => hdst i t (by rw [hdi, ht])
      have ev := fun y hy => h.ev hB rfl hs0 ho (by omega) hil hready y hy
      have hinv := h.inv
      have hevo := h.evo
      rw [Zgw] at hinv hevo
      have notE : ∀ k, isL listed k → y'B ops k i = false := fun k hk => by
        cases hq : y'B ops k i with
        | false => rfl
        | true => exact absurd (y'U (S := isL listed) (fun j' ed hj' he' => by
            obtain ⟨oj, ed, q1, q2, q3, rfl⟩ := y'z.1 he'
            exact h.down j' oj q1 hj' ed q2 q3) _ k i (fun ed he' => by
            obtain ⟨oj, ed, q1, q2, q3, rfl⟩ := y'z.1 he'
            exact h.down k oj q1 hk ed q2 q3) hq) hst
      unfold wpOp
      rw [ho]
      simp only
      rw [if_pos (by simp [Region.wanted, hg])]
      refine .inl ((hop w x.L0 a.eval hinv ev).upon ?_)
      rintro v w' ⟨d, H1, ⟨resB, hRB⟩, hv, hi', he⟩
      have hkeep : Keeps w (live H x.L0) w' (live H1 x.L0) := he.keeps
      have hevo2 : Evo ws H w' H1 := hevo.trans he
      refine .inr ⟨(hm i).2 (.inl rfl), d, H1, resB, w', hRB, { env := fun t => Rel.mono hevo2.keeps _ _ (hs0.env t), inv := hi', evo := hs0.evo.trans hevo2, defers := hs0.defers, size := hs0.size }, ?_⟩
      refine { lsize := by simp [h.lsize], down := ?_, front := ?_, slots := ?_, rest := ?_, inv := by rw [Zgw]; exact hi', evo := by rw [Zgw]; exact Evo.refl _ _, defers := ?_, size := ?_ }
      · intro k ok hok hk e he' hb
        rw [hm] at hk ⊢
        rcases hk with rfl | hk
        · rw [ho] at hok; cases hok
          exact .inr (hready e he' hb)
        · exact .inr (h.down k ok hok hk e he' hb)
      · intro k hk
        rcases (hm k).1 hk with rfl | hk
        · omega
        · exact h.front k hk
      · intro k t hk hkt
        rcases (hm k).1 hk with rfl | hk
        · rw [hdi] at hkt
          rw [v'B h.size, if_pos ⟨hkt, hdn t hkt⟩, hRB.2.1]
          exact hv
        · have hne' : k ≠ i := fun e => hil (e ▸ hk)
          rw [v'B h.size, if_neg, hRB.1 k hne' (notE k hk)]
          · exact Rel.mono hkeep _ _ (h.slots k t hk hkt)
          · rintro ⟨h1, _⟩
            rw [← hdi] at h1
            exact hB.uniq i k (by omega) (h.front k hk) hne' (by rw [h1]; simp) (by rw [hkt, h1])
      · intro t hno
        rw [v'B h.size, if_neg]
        · exact h.rest t fun k hk => hno k ((hm k).2 (.inr hk))
        · rintro ⟨h1, _⟩
          exact hno i ((hm i).2 (.inl rfl)) (by rw [hdi, h1])
      · cases o.dst <;> exact h.defers
      · cases o.dst <;> simp [Act.put, h.size]
    · have hE : y'B ops i st = false := by
        cases hq : y'B ops i st with
        | false => rfl
        | true => exact absurd (y'U (S := isL listed) (fun j' ed hj' he' => by
            obtain ⟨oj, ed, q1, q2, q3, rfl⟩ := y'z.1 he'
            exact h.down j' oj q1 hj' ed q2 q3) _ i st (fun ed he' => by
            obtain ⟨oj, ed, q1, q2, q3, rfl⟩ := y'z.1 he'
            rw [ho] at q1; cases q1
            exact hready ed q2 q3) hq) hst
      obtain ⟨o', ho', hg, hop⟩ := hA i hsi hie hi hE
      refine wpOp_mono (fun a' w' h' => .inl ⟨fun hq => ?_, h'⟩) (h.step (W := fun _ => false) (fun _ h => by cases h) hB rfl hs0 hdst hr (by omega) ⟨o', ho', hg, fun _ => ⟨hop, .inr hop⟩, fun e => absurd hisz (by omega)⟩)
      rcases (hm st).1 hq with hq | hq
      · exact hi hq.symm
      · exact hst hq
  · obtain ⟨hisz, hil, o, ho, hready⟩ := y'Q h.lsize hr
    have hisz' : i < listed.size := by rw [h.lsize]; exact hisz
    have hm : ∀ k, isL (listed.setIfInBounds i true) k ↔ k = i ∨ isL listed k := fun k => x'u hisz'
    have hi : i ≠ st := fun e => hil (e ▸ hst)
    have hE : y'B ops st i = false := by
      cases hq : y'B ops st i with
      | false => rfl
      | true => exact absurd (y'U (S := isL listed) (fun j' ed hj' he' => by
            obtain ⟨oj, ed, q1, q2, q3, rfl⟩ := y'z.1 he'
            exact h.down j' oj q1 hj' ed q2 q3) _ st i (fun ed he' => by
            obtain ⟨oj, ed, q1, q2, q3, rfl⟩ := y'z.1 he'
            exact h.down st oj q1 hst ed q2 q3) hq) hil
    obtain ⟨o', ho', hg, hop⟩ := hRB.2.2.1 i hsi hie hi hE
    exact wpOp_mono (fun a' w' h' => .inr ⟨(hm st).2 (.inr hst), d, H1, resB, w0, hRB, hs1, h'⟩) (h.step (W := fun _ => false) (fun _ h => by cases h) hB rfl hs1 hdst hr (by omega) ⟨o', ho', hg, fun _ => ⟨hop, .inr hop⟩, fun e => absurd hisz (by omega)⟩)
end
def NW (R:Nat→Oper→(Nat→D)→D→Prop) (K:(Nat→D)→(Nat→D)→Prop):Nat→Nat→List Oper→(Nat→D)→(Nat→D)→Prop
 |0,_,_,E,r=>K E r
 |_+1,_,[],_,_=>False
 |m+1,i,o::l,E,r=> ∃d,R i o E d∧NW R K m (i+1) l (updO E o.dst d) (fun k=>if k=i then d else r k)
theorem NW.extract {R:Nat→Oper→(Nat→D)→D→Prop} {K:(Nat→D)→(Nat→D)→Prop} {ops:Array Oper} {E0:Nat→D}: ∀(m i:Nat) (res0:Nat→D),NW R K m i (ops.toList.drop i) (x'g ops E0 res0 i) res0→
  ∃res:Nat→D,(∀k,k<i→res k=res0 k)∧(∀k,i+m≤k→res k=res0 k)∧(∀j,i≤j→j<i+m→ ∃o,ops[j]?=some o∧R j o (x'g ops E0 res j) (res j))∧K (x'g ops E0 res (i+m)) res
 |0,i,res0,h=>⟨res0,fun _ _=>rfl,fun _ _=>rfl,fun j h1 h2=>by omega,h⟩
 |m+1,i,res0,h=>by
  cases hl:ops.toList.drop i with
  |nil=>rw[hl]at h;exact h.elim
  |cons o l=>
   rw[hl]at h
   obtain⟨d,h1,h2⟩:=h
   have hi:ops[i]?=some o:=by
    have:(ops.toList.drop i)[0]?=some o:=by rw[hl];rfl
    rw[y'2]at this
    simpa using this
   have hl':l=ops.toList.drop (i+1):=by
    have:ops.toList.drop (i+1)=(ops.toList.drop i).drop 1:=by rw[y'6]
    rw[this,hl];rfl
   let res1:Nat→D:=fun k=>if k=i then d else res0 k
   have e1: ∀j,j≤i→x'g ops E0 res1 j=x'g ops E0 res0 j:=by
    intro j
    induction j with
    |zero=>intro _;rfl
    |succ j ihj=>
     intro hj
     rw[x'g,x'g,ihj (by omega)]
     have:res1 j=res0 j:=by simp only[res1];rw[if_neg (by omega)]
     rw[this]
   have e2:x'g ops E0 res1 (i+1)=updO (x'g ops E0 res0 i) o.dst d:=by
    rw[x'g,e1 i (z'c _)]
    have:res1 i=d:=by simp[res1]
    rw[this]
    simp[z'U,hi]
   rw[hl', ←e2]at h2
   obtain⟨res,q1,q0,q2,q3⟩:=NW.extract m (i+1) res1 h2
   have e3: ∀j,j≤i+1→x'g ops E0 res j=x'g ops E0 res1 j:=by
    intro j
    induction j with
    |zero=>intro _;rfl
    |succ j ihj=>
     intro hj
     rw[x'g,x'g,ihj (by omega),q1 j (by omega)]
   refine⟨res,fun k hk=>?_,fun k hk=>?_,fun j hj1 hj2=>?_,?_⟩
   ·rw[q1 k (by omega)]
    simp only[res1];rw[if_neg (by omega)]
   ·rw[q0 k (by omega)]
    simp only[res1];rw[if_neg (by omega)]
   ·rcases y'K hj1 with rfl|hlt
    ·refine⟨o,hi,?_⟩
     rw[e3 _ (by omega),e1 _ (z'c _),q1 _ (by omega)]
     have:res1 i=d:=by simp[res1]
     rw[this]
     exact h1
    ·exact q2 j (by omega) (by omega)
   ·rw[show i+(m+1)=i+1+m by omega]
    exact q3
def NRA (P:Program) (ops:Array Oper) (st:Nat) (H:Heap) (Φ:D→Heap→Prop) (i:Nat) (o:Oper) (E:Nat→D) (d:D):Prop:=
 o.guard=none∧(i=st→OpS P o (evD E) H Φ)∧(i≠st→y'B ops i st=false→OpS P o (evD E) H (fun d' H'=>d'=d∧H'=H))
end Go.Proofs.YthlkpnjjkgmlkaaGreat
