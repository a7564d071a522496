/- Regions that draw: a group with one write, some operations of which are guarded. No condition. -/
import Derived.Test.YtjlnkedmbfdofaaGreatEm
namespace Go.Vc
set_option linter.unusedSimpArgs false
set_option linter.unusedVariables false
open Go
def GdG (ops:Array Oper) (E:Nat→D) (o:Oper):Prop:=o.guard=none∨ ∃j want g,o.guard=some (j,want)∧z'v ops j=some g∧E g= .is (.bool want)
def SkG (ops:Array Oper) (E:Nat→D) (o:Oper):Prop:= ∃j want g,o.guard=some (j,want)∧z'v ops j=some g∧(E g= .is (.bool (!want))∨E g= .is undef)
def Zh9 (P:Program) (ops:Array Oper) (W:Nat→Bool) (E:Nat→D) (H H1:Heap) (o:Oper) (i st:Nat) (d:D):Prop:=
 (GdG ops E o∧(i≠st→OpS P o (evD E) H (fun d' H'=>d'=d∧H'=H)∧(W i=true∨OpS P o (evD E) H1 (fun d' H'=>d'=d∧H'=H1)))∧
  (i=st→OpS P o (evD E) H (fun d' H'=>(o.dst=none∨d'=d)∧H'=H1)))∨(i≠st∧SkG ops E o∧d= .is undef)
section
variable {P : Program} {x : Ctx} {ops : Array Oper} {f st : Nat} {res : Nat → D} {H H1 : Heap} {E : Nat → D} {a0 : Act} {ws : World}
theorem GInv.evL (hB:y'2 ops f) (hbl:H1.blocks=H.blocks) (hs0:SRel x ⟨E,H⟩ a0 ws) {listed:Array Bool} {a:Act} {w:World} (h:GInv x ops f st res H H1 a0 ws listed a w)
  {i:Nat} {o:Oper} (ho:ops[i]?=some o) (hif:i<f) (hil: ¬isL listed i) (hready: ∀e∈o.after,Region.binds .any e=true→isL listed e.on) (t:Tmp) (ht:t∈w'H ops i):
  Rel w (live H x.L0) (z'Y ops E res i t) (a.tmps.getD t undef):=by
 have hkeep:Keeps ws (live H x.L0) w (live H x.L0):=fun b hb hn=>by
  have:=h.evo.keeps (L0:=x.L0) b hb hn
  rw[x'O hbl]at this
  exact this
 have hdown: ∀j e,isL listed j→e∈w'F ops j→isL listed e:=fun j e hj he=>by
  obtain⟨oj,ed,h1,h2,h3,rfl⟩:=z'P.1 he
  exact h.down j oj h1 hj ed h2 h3
 have edge: ∀k,z'N ops i k=true→isL listed k:=fun k hk=>
  z'4 hdown _ i k (fun e he=>by
   obtain⟨oj,ed,h1,h2,h3,rfl⟩:=z'P.1 he
   rw[ho]at h1;cases h1
   exact hready ed h2 h3) hk
 have edgeBack: ∀k,isL listed k→z'N ops k i=true→False:=fun k hk he=>
  hil (z'4 hdown _ k i (fun e he=>hdown k e hk he) he)
 show Rel w (live H x.L0) (z'Y ops E res i t) (a.tmps.getD t undef)
 by_cases hex: ∃k,k<i∧z'v ops k=some t
 ·obtain⟨k,hki,hkt⟩:=hex
  have hkl:isL listed k:=by
   have hksz:k<ops.size:=z'm (Nat.lt_trans hki hif) hB.le
   rcases hB.reads i hif t ht k hksz (by omega) hkt with⟨_,h1⟩|⟨h1,_⟩
   ·exact edge k h1
   ·omega
  rw[w'r (E:=E) (res:=res) i hki hkt (fun l hl hne hd=>hB.uniq k l (by omega) (by omega) hne (by rw[hkt];simp) (by rw[hd,hkt]))]
  exact h.slots k t hkl hkt
 ·rw[x'0 (E:=E) (res:=res) (t:=t) i (fun k hk hd=>hex ⟨k,hk,hd⟩),h.rest t ?_]
  ·exact Rel.mono hkeep _ _ (hs0.env t)
  ·intro k hkl hkt
   have hksz:k<ops.size:=z'm (h.front k hkl) hB.le
   have hne:k≠i:=fun e=>hil (e▸hkl)
   have hki: ¬k<i:=fun hlt=>hex ⟨k,hlt,hkt⟩
   rcases hB.reads i hif t ht k hksz hne hkt with⟨h1,_⟩|⟨_,h1⟩
   ·omega
   ·rcases h1 with h1|h1
    ·have:=h.front k hkl;omega
    ·exact edgeBack k hkl h1
theorem GInv.stepG {W:Nat→Bool} (hW: ∀i,W i=true→z'N ops st i=true) (hB:y'2 ops f) (hbl:H1.blocks=H.blocks) (hs0:SRel x ⟨E,H⟩ a0 ws) {Q:Exit→Act→World→Prop} {listed:Array Bool} {a:Act} {w:World} (h:GInv x ops f st res H H1 a0 ws listed a w)
  (hdst: ∀k t,z'v ops k=some t→t<x.n) {i:Nat} (hr:i∈Region.ready .any ops listed) (hif:i<f) (hok: ∃o,ops[i]?=some o∧Zh9 P ops W (z'Y ops E res i) H H1 o i st (res i)):
  wpOp P ops Q i (fun a' w'=>GInv x ops f st res H H1 a0 ws (listed.setIfInBounds i true) a' w') a w:=by
 obtain⟨hisz,hil,o,ho,hready⟩:=z'8 h.lsize hr
 obtain⟨o',ho',hokW⟩:=hok
 rw[ho]at ho';cases ho'
 have hisz':i<listed.size:=by rw[h.lsize];exact hisz
 have hm: ∀k,isL (listed.setIfInBounds i true) k↔k=i∨isL listed k:=fun k=>y'y hisz'
 have hdi:z'v ops i=o.dst:=by simp[z'v,ho]
 have hdn: ∀t,o.dst=some t→t<x.n:=fun t ht=>hdst i t (by rw[hdi,ht])
 have ev:=fun y hy=>h.ev hB hbl hs0 ho hif hil hready y hy
 have gat: ∀j want g v,o.guard=some (j,want)→z'v ops j=some g→z'Y ops E res i g= .is v→a.tmps[g]?=some v:=by
  intro j want g v hg hj he
  have hlk:g∈w'H ops i:=by
   unfold w'H
   rw[ho]
   simp only[Oper.looksAt,hg]
   refine y's _ ?_
   have:(ops[j]?).bind (·.dst)=some g:=hj
   rw[this];simp
  have h1:=h.evL hB hbl hs0 ho hif hil hready g hlk
  rw[he]at h1
  have hlt:g<a.tmps.size:=by rw[h.size];exact hdst j g hj
  have h3:a.tmps.getD g undef=v:=h1
  simp[Array.getD,hlt]at h3
  simp[hlt,h3]
 have fin: ∀(v:Value) (w':World) (G:Heap),Evo w (hof H H1 st listed) w' G→HInv w' x.L0 G→G=hof H H1 st (listed.setIfInBounds i true)→(∀t,o.dst=some t→Rel w' (live H x.L0) (res i) v)→
   GInv x ops f st res H H1 a0 ws (listed.setIfInBounds i true) (a.put o.dst v) w':=by
  intro v w' G he hi' hG hv
  subst hG
  have hkeep:Keeps w (live H x.L0) w' (live H x.L0):=by
   have:=he.keeps (L0:=x.L0)
   rw[x'O hbl,x'O hbl]at this
   exact this
  refine{lsize:=by simp[h.lsize],down:=?_,front:=?_,slots:=?_,rest:=?_,inv:=hi',evo:=h.evo.trans he,defers:=?_,size:=?_}
  ·intro k ok hok hk e he' hb
   rw[hm]at hk⊢
   rcases hk with rfl|hk
   ·rw[ho]at hok;cases hok
    exact .inr (hready e he' hb)
   ·exact .inr (h.down k ok hok hk e he' hb)
  ·intro k hk
   rcases(hm k).1 hk with rfl|hk
   ·exact hif
   ·exact h.front k hk
  ·intro k t hk hkt
   rcases(hm k).1 hk with rfl|hk
   ·rw[hdi]at hkt
    rw[x'o h.size,if_pos ⟨hkt,hdn t hkt⟩]
    exact hv t hkt
   ·have hne':k≠i:=fun e=>hil (e▸hk)
    rw[x'o h.size,if_neg]
    ·exact Rel.mono hkeep _ _ (h.slots k t hk hkt)
    ·rintro⟨h1,_⟩
     rw[←hdi]at h1
     exact hB.uniq i k hif (h.front k hk) hne' (by rw[h1];simp) (by rw[hkt,h1])
  ·intro t hno
   rw[x'o h.size,if_neg]
   ·exact h.rest t fun k hk=>hno k ((hm k).2 (.inr hk))
   ·rintro⟨h1,_⟩
    exact hno i ((hm i).2 (.inl rfl)) (by rw[hdi,h1])
  ·cases o.dst<;>exact h.defers
  ·cases o.dst<;>simp[Act.put,h.size]
 unfold wpOp
 rw[ho]
 simp only
 rcases hokW with⟨hg,hne,heq⟩|⟨e,hg,hd⟩
 case inr=>
  have hwant:Region.wanted o (yielded ops a.tmps)=false:=by
   obtain⟨j,want,g,hg,hj,he⟩:=hg
   have hj':(ops[j]?).bind (·.dst)=some g:=hj
   rcases he with he|he
   ·have h2:=gat j want g _ hg hj he
    have hy:yielded ops a.tmps j=some (!want):=by simp[yielded,hj',h2]
    simp only[Region.wanted,hg,hy]
    cases want<;>rfl
   ·have h2:=gat j want g _ hg hj he
    have hy:yielded ops a.tmps j=none:=by simp[yielded,hj',h2,undef]
    simp only[Region.wanted,hg,hy]
    rfl
  have hS:hof H H1 st (listed.setIfInBounds i true)=hof H H1 st listed:=by
   unfold hof
   by_cases hl:isL listed st
   ·rw[if_pos hl,if_pos ((hm st).2 (.inr hl))]
   ·rw[if_neg hl,if_neg (fun h'=>by rcases(hm st).1 h' with h'|h';exact e h'.symm;exact hl h')]
  rw[if_neg (by rw[hwant];exact Bool.false_ne_true)]
  exact fin undef w _ (Evo.refl _ _) h.inv hS.symm (fun t ht=>by rw[hd];rfl)
 have hwant:Region.wanted o (yielded ops a.tmps)=true:=by
  rcases hg with hg|⟨j,want,g,hg,hj,he⟩
  ·simp[Region.wanted,hg]
  ·have hj':(ops[j]?).bind (·.dst)=some g:=hj
   have h2:=gat j want g _ hg hj he
   have hy:yielded ops a.tmps j=some want:=by simp[yielded,hj',h2]
   simp[Region.wanted,hg,hy]
 rw[if_pos hwant]
 refine .inl ?_
 by_cases e:i=st
 ·have hop:=heq e
  have hH:hof H H1 st listed=H:=by unfold hof;rw[if_neg (by rw[←e];exact hil)]
  have hH1:hof H H1 st (listed.setIfInBounds i true)=H1:=by unfold hof;rw[if_pos (by rw[←e];exact(hm i).2 (.inl rfl))]
  have hi:=h.inv
  rw[hH]at hi
  refine(hop w x.L0 a.eval hi ev).upon ?_
  rintro v w' ⟨d',H',⟨hd0,rfl⟩,hv,hi',he⟩
  refine fin v w' _ (by rw[hH];exact he) hi' hH1.symm (fun t ht=>?_)
  rcases hd0 with h0|rfl
  ·rw[h0]at ht;cases ht
  ·rw[w'9 hbl]at hv;exact hv
 ·have hS:hof H H1 st (listed.setIfInBounds i true)=hof H H1 st listed:=by
   unfold hof
   by_cases hl:isL listed st
   ·rw[if_pos hl,if_pos ((hm st).2 (.inr hl))]
   ·rw[if_neg hl,if_neg (fun h'=>by rcases(hm st).1 h' with h'|h';exact e h'.symm;exact hl h')]
  obtain⟨o1,o2⟩:=hne e
  have hop:OpS P o (evD (z'Y ops E res i)) (hof H H1 st listed) (fun d' H'=>d'=res i∧H'=hof H H1 st listed):=by
   unfold hof
   split
   ·rename_i hls
    rcases o2 with hwi|o2
    ·exact absurd (z'4 (S:=isL listed) (fun j' e hj' he'=>by
      obtain⟨oj,ed,q1,q2,q3,rfl⟩:=z'P.1 he'
      exact h.down j' oj q1 hj' ed q2 q3) _ st i (fun e he=>by
      obtain⟨oj,ed,q1,q2,q3,rfl⟩:=z'P.1 he
      exact h.down st oj q1 hls ed q2 q3) (hW i hwi)) hil
    ·exact o2
   ·exact o1
  refine(hop w x.L0 a.eval h.inv (fun y hy=>by rw[x'O hbl];exact ev y hy)).upon ?_
  rintro v w' ⟨d',H',⟨rfl,rfl⟩,hv,hi',he⟩
  rw[x'O hbl]at hv
  exact fin v w' _ he hi' hS.symm (fun t ht=>hv)
theorem Zgv {W:Nat→Bool} (hW: ∀i,W i=true→z'N ops st i=true) (hB:y'2 ops f) (hbl:H1.blocks=H.blocks) (hs0:SRel x ⟨E,H⟩ a0 ws) {Q:Exit→Act→World→Prop} {s e:Nat} (hef:e≤f) (bar: ∀i,e≤i→i<ops.size→ ∀k,s≤k→k<e→z'N ops i k=true)
  (hok: ∀j,s≤j→j<e→ ∃o,ops[j]?=some o∧Zh9 P ops W (z'Y ops E res j) H H1 o j st (res j)) (hdst: ∀k t,z'v ops k=some t→t<x.n)
  (hfin: ∀listed a w,(∀k,isL listed k↔k<e)→GInv x ops f st res H H1 a0 ws listed a w→wpAny P .any ops Q (ops.size-e) listed a w):
  ∀(fuel:Nat) (listed:Array Bool) (a:Act) (w:World),unl listed ops.size=fuel→(∀k,k<s→isL listed k)→(∀k,isL listed k→k<e)→GInv x ops f st res H H1 a0 ws listed a w→wpAny P .any ops Q fuel listed a w:=by
 have hes:e≤ops.size:=z'E hef hB.le
 intro fuel
 induction fuel with
 |zero=>
  intro listed a w hu hlow hup h
  have all: ∀k,k<ops.size→isL listed k:=fun k hk=>w'6 h.lsize hu hk
  have hl: ∀k,isL listed k↔k<e:=fun k=>⟨hup k,fun hk=>all k (by omega)⟩
  have he:ops.size-e=0:=by
   rcases z'1 hes with h'|h'
   ·omega
   ·have:=hup e (all e h');omega
  have:=hfin listed a w hl h
  rwa [he]at this
 |succ fuel ih=>
  intro listed a w hu hlow hup h
  by_cases hall: ∀k,k<e→isL listed k
  ·have hl: ∀k,isL listed k↔k<e:=fun k=>⟨hup k,hall k⟩
   have hcount:ops.size-e=fuel+1:=by
    have key: ∀m,m≤ops.size→((List.range m).filter fun k=> !listed.getD k true).length=m-e:=by
     intro m
     induction m with
     |zero=>intro _;simp
     |succ m ihm=>
      intro hm
      rw[z'9,z'G,z'r,ihm (by omega)]
      by_cases hmf:m<e
      ·have:listed.getD m true=true:=(z'H (by rw[h.lsize];omega)).2 ((hl m).2 hmf)
       rw[z'S,this];simp;omega
      ·have:listed.getD m true=false:=by
        cases hq:listed.getD m true with
        |false=>rfl
        |true=>exact absurd ((hl m).1 ((z'H (by rw[h.lsize];omega)).1 hq)) hmf
       rw[z'S,this];simp;omega
    have:=key ops.size (z'c _)
    unfold unl at hu
    omega
   have:=hfin listed a w hl h
   rwa [hcount]at this
  ·have hex: ∃k,k<e∧ ¬isL listed k:=by
    refine z'j fun hn=>hall fun k hk=>z'j fun hkl=>hn ⟨k,hk,hkl⟩
   have least: ∀m, ∀k,k≤m→k<e→ ¬isL listed k→ ∃k',k'<e∧ ¬isL listed k'∧ ∀l,l<k'→isL listed l:=by
    intro m
    induction m with
    |zero=>intro k hk hkf hkl;exact⟨k,hkf,hkl,fun l hl=>by omega⟩
    |succ m ihm=>
     intro k hk hkf hkl
     by_cases hp: ∀l,l<k→isL listed l
     ·exact⟨k,hkf,hkl,hp⟩
     ·have: ∃l,l<k∧ ¬isL listed l:=z'j fun hn=>hp fun l hl=>z'j fun hll=>hn ⟨l,hl,hll⟩
      obtain⟨l,h1,h2⟩:=this
      exact ihm l (by omega) (by omega) h2
   obtain⟨k0,hk0f,hk0⟩:=hex
   obtain⟨k,hkf,hkl,hkp⟩:=least k0 k0 (z'c _) hk0f hk0
   have hks:k<ops.size:=z'm hkf hes
   have hready:k∈Region.ready .any ops listed:=by
    refine mem_ready.2 ⟨?_,ops[k],by simp[hks],fun ed he hb=>?_⟩
    ·cases hq:listed.getD k true with
     |false=>rfl
     |true=>exact absurd ((z'H (by rw[h.lsize];omega)).1 hq) hkl
    ·have hlt:=hB.back k ops[k] (by simp[hks]) ed he hb
     have:=hkp ed.on hlt
     unfold isL at this
     rw[z'w,this];rfl
   refine⟨fun h0=>by rw[h0]at hready;exact absurd hready z'I,fun i hi=>?_⟩
   obtain⟨h1,h2,o,ho,hr⟩:=z'8 h.lsize hi
   have hie:i<e:=by
    rcases z't i e with h'|h'
    ·exact h'
    ·exfalso
     have hsk:s≤k:=by
      rcases z't k s with h''|h''
      ·exact absurd (hlow k h'') hkl
      ·exact h''
     have he:=bar i h' h1 k hsk hkf
     exact hkl (z'4 (S:=isL listed) (fun j' ed hj' he'=>by
      obtain⟨oj,ed,q1,q2,q3,rfl⟩:=z'P.1 he'
      exact h.down j' oj q1 hj' ed q2 q3) _ i k (fun ed he'=>by
      obtain⟨oj,ed,q1,q2,q3,rfl⟩:=z'P.1 he'
      rw[ho]at q1;cases q1
      exact hr ed q2 q3) he)
   have hisz:i<listed.size:=by rw[h.lsize];exact h1
   refine wpOp_mono (fun a' w' h'=>ih _ a' w' ?_ (fun l hl=>(y'y hisz).2 (.inr (hlow l hl))) (fun k hk=>?_) h') (h.stepG hW hB hbl hs0 hdst hi (by omega) (hok i (by
     rcases z't i s with h''|h''
     ·exact absurd (hlow i h'') h2
     ·exact h'') hie))
   ·have:=v'b h.lsize h1 h2
    omega
   ·rcases(y'y hisz).1 hk with rfl|hk
    ·exact hie
    ·exact hup k hk
end
def VCxG {P:Program} (T:Tab P) (ops:Array Oper) (W:Nat→Bool) (st:Nat) (H H1:Heap) (K:(Nat→D)→Prop):Nat→Nat→List Oper→(Nat→D)→Prop
 |0,_,_,E=>K E
 |_+1,_,[],_=>False
 |m+1,i,o::l,E=> ∃d,Zh9 P ops W E H H1 o i st d∧VCxG T ops W st H H1 K m (i+1) l (updO E o.dst d)
theorem VCxG.extract {P:Program} {T:Tab P} {W:Nat→Bool} {ops:Array Oper} {st:Nat} {H H1:Heap} {K:(Nat→D)→Prop} {E0:Nat→D}: ∀(m i:Nat) (res0:Nat→D),VCxG T ops W st H H1 K m i (ops.toList.drop i) (z'Y ops E0 res0 i)→
  ∃res:Nat→D,(∀k,k<i→res k=res0 k)∧(∀j,i≤j→j<i+m→ ∃o,ops[j]?=some o∧Zh9 P ops W (z'Y ops E0 res j) H H1 o j st (res j))∧K (z'Y ops E0 res (i+m))
 |0,i,res0,h=>⟨res0,fun _ _=>rfl,fun j h1 h2=>by omega,h⟩
 |m+1,i,res0,h=>by
  cases hl:ops.toList.drop i with
  |nil=>rw[hl]at h;exact h.elim
  |cons o l=>
   rw[hl]at h
   obtain⟨d,h1,h2⟩:=h
   have hi:ops[i]?=some o:=by
    have:(ops.toList.drop i)[0]?=some o:=by rw[hl];rfl
    rw[z'7]at this
    simpa using this
   have hl':l=ops.toList.drop (i+1):=by
    have:ops.toList.drop (i+1)=(ops.toList.drop i).drop 1:=by rw[y'5]
    rw[this,hl];rfl
   let res1:Nat→D:=fun k=>if k=i then d else res0 k
   have e1: ∀j,j≤i→z'Y ops E0 res1 j=z'Y ops E0 res0 j:=by
    intro j
    induction j with
    |zero=>intro _;rfl
    |succ j ihj=>
     intro hj
     rw[z'Y,z'Y,ihj (by omega)]
     have:res1 j=res0 j:=by simp only[res1];rw[if_neg (by omega)]
     rw[this]
   have e2:z'Y ops E0 res1 (i+1)=updO (z'Y ops E0 res0 i) o.dst d:=by
    rw[z'Y,e1 i (z'c _)]
    have:res1 i=d:=by simp[res1]
    rw[this]
    simp[z'v,hi]
   rw[hl', ←e2]at h2
   obtain⟨res,q1,q2,q3⟩:=VCxG.extract m (i+1) res1 h2
   have e3: ∀j,j≤i+1→z'Y ops E0 res j=z'Y ops E0 res1 j:=by
    intro j
    induction j with
    |zero=>intro _;rfl
    |succ j ihj=>
     intro hj
     rw[z'Y,z'Y,ihj (by omega),q1 j (by omega)]
   refine⟨res,fun k hk=>?_,fun j hj1 hj2=>?_,?_⟩
   ·rw[q1 k (by omega)]
    simp only[res1];rw[if_neg (by omega)]
   ·rcases z'1 hj1 with rfl|hlt
    ·refine⟨o,hi,?_⟩
     rw[e3 _ (by omega),e1 _ (z'c _),q1 _ (by omega)]
     have:res1 i=d:=by simp[res1]
     rw[this]
     exact h1
    ·exact q2 j (by omega) (by omega)
   ·rw[show i+(m+1)=i+1+m by omega]
    exact q3
theorem VCd.groupXsG {P:Program} (T:Tab P) (W:Nat→Bool) {n:Nat} {ops:Array Oper} {E:Nat→D} {H:Heap} {Q:Exit→St→Prop} (H1:Heap) (s st e f:Nat) (hbl:H1.blocks=H.blocks) (hs1:s≤st) (hst:Nat.blt st e=true) (hef:Nat.ble e f=true) (hB:x'I ops f=true) (hbar:w'B ops s e=true) (hd:ops.toList.all (y'B n)=true)
  (hW: ∀i,W i=true→z'N ops st i=true)
  (h:VCxG T ops W st H H1 (fun E'=>VCd P n ops e ⟨E',H1⟩ Q) (e-s) s (ops.toList.drop s) E):VCd P n ops s ⟨E,H⟩ Q:=by
 have hB:=x'f hB
 have hef:e≤f:=z'i hef
 have hst:st<e:=by simpa using hst
 intro x a0 w hn' hn hs hsz hl0
 have hE0: ∀j,j≤s→z'Y ops E (fun k=>match z'v ops k with|some t=>E t|none=> .any) j=E:=by
  intro j
  induction j with
  |zero=>intro _;rfl
  |succ j ihj=>
   intro hj
   rw[z'Y,ihj (by omega)]
   cases hd':z'v ops j with
   |none=>rfl
   |some t=>exact x'A rfl
 obtain⟨res,hlo,hok,hK⟩:=VCxG.extract (ops:=ops) (E0:=E) (e-s) s (fun k=>match z'v ops k with|some t=>E t|none=> .any) (by rw[hE0 s (z'c _)];exact h)
 rw[show s+(e-s)=e by omega]at hK
 have hdst: ∀k t,z'v ops k=some t→t<x.n:=fun k t hk=>hn▸v'w (l:=ops.toList) hd k t (by simpa using hk)
 have hno: ¬isL hn' st:=fun hk=>by have:=(hl0 st).1 hk;omega
 have hH0:hof H H1 st hn'=H:=by unfold hof;rw[if_neg hno]
 refine Zgv (x:=x) (res:=res) (E:=E) (H:=H) (H1:=H1) (st:=st) (a0:=a0) (ws:=w) (f:=f) (s:=s) hW hB hbl hs hef (fun i h1 h2 k h0 hk=>w'C hbar i h1 h2 k h0 hk) (fun j h0 hj=>hok j h0 (by omega)) hdst ?_ _ hn' a0 w ?_ (fun k hk=>(hl0 k).2 hk) (fun k hk=>by have:=(hl0 k).1 hk;omega) ?_
 ·intro listed a w' hl hF
  have hH1:hof H H1 st listed=H1:=by unfold hof;rw[if_pos ((hl st).2 hst)]
  have hlv:live H1 x.L0=live H x.L0:=w'9 hbl _
  refine hK x a w' listed hn ?_ hF.lsize hl
  have hevo:=hF.evo
  have hinv:=hF.inv
  rw[hH1]at hevo hinv
  refine{env:=fun t=>?_,inv:=hinv,evo:=hs.evo.trans hevo,defers:=hF.defers,size:=hF.size}
  simp only
  rw[hlv]
  by_cases hex: ∃k,k<e∧z'v ops k=some t
  ·obtain⟨k,hkf,hkt⟩:=hex
   rw[w'r e hkf hkt (fun j hj hne hd'=>hB.uniq k j (by omega) (by omega) hne (by rw[hkt];simp) (by rw[hd',hkt]))]
   exact hF.slots k t ((hl k).2 hkf) hkt
  ·rw[x'0 e (fun k hk hd'=>hex ⟨k,hk,hd'⟩),hF.rest t (fun k hk hd'=>hex ⟨k,(hl k).1 hk,hd'⟩)]
   have hkeep:=hevo.keeps (L0:=x.L0)
   rw[hlv]at hkeep
   exact Rel.mono hkeep _ _ (hs.env t)
 ·unfold unl
  have key: ∀m,m≤ops.size→((List.range m).filter fun k=> !hn'.getD k true).length=m-s:=by
   intro m
   induction m with
   |zero=>intro _;simp
   |succ m ihm=>
    intro hm
    rw[z'9,z'G,z'r,ihm (by omega)]
    by_cases hmf:m<s
    ·have:hn'.getD m true=true:=(z'H (by rw[hsz];omega)).2 ((hl0 m).2 hmf)
     rw[z'S,this];simp;omega
    ·have:hn'.getD m true=false:=by
      cases hq:hn'.getD m true with
      |false=>rfl
      |true=>exact absurd ((hl0 m).1 ((z'H (by rw[hsz];omega)).1 hq)) hmf
     rw[z'S,this];simp;omega
  exact key ops.size (z'c _)
 ·refine{lsize:=hsz,down:=fun k o ho hk ed he hb=>(hl0 _).2 ?_,front:=fun k hk=>?_,slots:=fun k t hk hkt=>?_,rest:=fun t _=>rfl,inv:=by rw[hH0];exact hs.inv,evo:=by rw[hH0];exact Evo.refl _ _,defers:=hs.defers,size:=hs.size}
  ·have h1:=hB.back k o ho ed he hb
   have h2:=(hl0 k).1 hk
   omega
  ·have:=(hl0 k).1 hk;omega
  ·have h2:=(hl0 k).1 hk
   rw[hlo k h2,hkt]
   exact hs.env t
end Go.Vc
