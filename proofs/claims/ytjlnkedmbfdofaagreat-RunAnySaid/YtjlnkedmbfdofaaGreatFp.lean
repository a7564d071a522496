/- A region that draws: a group with one write, from any place on. No condition. -/
import Derived.Test.YtjlnkedmbfdofaaGreatWb
namespace Go.Proofs.YtjlnkedmbfdofaaGreat
set_option linter.unusedSimpArgs false
set_option linter.unusedVariables false
open Go Go.Proofs Go.Vc
section
variable {P : Program} {x : Ctx} {ops : Array Oper} {f st : Nat} {res : Nat → D} {H H1 : Heap} {E : Nat → D} {a0 : Act} {ws : World}
theorem Za8 {W:Nat→Bool} (hW: ∀i,W i=true→z'N ops st i=true) (hB:y'2 ops f) (hbl:H1.blocks=H.blocks) (hs0:SRel x ⟨E,H⟩ a0 ws) {Q:Exit→Act→World→Prop} {s e:Nat} (hef:e≤f) (bar: ∀i,e≤i→i<ops.size→ ∀k,s≤k→k<e→z'N ops i k=true)
  (hok: ∀j,s≤j→j<e→ ∃o,ops[j]?=some o∧WOk P W (z'Y ops E res j) H H1 o j st (res j)) (hdst: ∀k t,z'v ops k=some t→t<x.n)
  (hfin: ∀listed a w,(∀k,isL listed k↔k<e)→GInv x ops f st res H H1 a0 ws listed a w→wpAny P .any ops Q (ops.size-e) listed a w):
  ∀(fuel:Nat) (listed:Array Bool) (a:Act) (w:World),unl listed ops.size=fuel→(∀k,k<s→isL listed k)→(∀k,isL listed k→k<e)→GInv x ops f st res H H1 a0 ws listed a w→wpAny P .any ops Q fuel listed a w:=by
 have hes:e≤ops.size:=z'E hef hB.le
 intro fuel
 induction fuel with
 |zero=>
  intro listed a w hu hlow hup h
  have all: ∀k,k<ops.size→isL listed k:=fun k hk=>w'6 h.lsize hu hk
  have hl: ∀k,isL listed k↔k<e:=fun k=>⟨hup k,fun hk=>all k (by omega)⟩
  have he:ops.size-e=0:=by
   rcases z'1 hes with h'|h'
   ·omega
   ·have:=hup e (all e h');omega
  have:=hfin listed a w hl h
  rwa [he]at this
 |succ fuel ih=>
  intro listed a w hu hlow hup h
  by_cases hall: ∀k,k<e→isL listed k
  ·have hl: ∀k,isL listed k↔k<e:=fun k=>⟨hup k,hall k⟩
   have hcount:ops.size-e=fuel+1:=by
    have key: ∀m,m≤ops.size→((List.range m).filter fun k=> !listed.getD k true).length=m-e:=by
     intro m
     induction m with
     |zero=>intro _;simp
     |succ m ihm=>
      intro hm
      rw[z'9,z'G,z'r,ihm (by omega)]
      by_cases hmf:m<e
      ·have:listed.getD m true=true:=(z'H (by rw[h.lsize];omega)).2 ((hl m).2 hmf)
       rw[z'S,this];simp;omega
      ·have:listed.getD m true=false:=by
        cases hq:listed.getD m true with
        |false=>rfl
        |true=>exact absurd ((hl m).1 ((z'H (by rw[h.lsize];omega)).1 hq)) hmf
       rw[z'S,this];simp;omega
    have:=key ops.size (z'c _)
    unfold unl at hu
    omega
   have:=hfin listed a w hl h
   rwa [hcount]at this
  ·have hex: ∃k,k<e∧ ¬isL listed k:=by
    refine z'j fun hn=>hall fun k hk=>z'j fun hkl=>hn ⟨k,hk,hkl⟩
   have least: ∀m, ∀k,k≤m→k<e→ ¬isL listed k→ ∃k',k'<e∧ ¬isL listed k'∧ ∀l,l<k'→isL listed l:=by
    intro m
    induction m with
    |zero=>intro k hk hkf hkl;exact⟨k,hkf,hkl,fun l hl=>by omega⟩
    |succ m ihm=>
     intro k hk hkf hkl
     by_cases hp: ∀l,l<k→isL listed l
     ·exact⟨k,hkf,hkl,hp⟩
     ·have: ∃l,l<k∧ ¬isL listed l:=z'j fun hn=>hp fun l hl=>z'j fun hll=>hn ⟨l,hl,hll⟩
      obtain⟨l,h1,h2⟩:=this
      exact ihm l (by omega) (by omega) h2
   obtain⟨k0,hk0f,hk0⟩:=hex
   obtain⟨k,hkf,hkl,hkp⟩:=least k0 k0 (z'c _) hk0f hk0
   have hks:k<ops.size:=z'm hkf hes
   have hready:k∈Region.ready .any ops listed:=by
    refine mem_ready.2 ⟨?_,ops[k],by simp[hks],fun ed he hb=>?_⟩
    ·cases hq:listed.getD k true with
     |false=>rfl
     |true=>exact absurd ((z'H (by rw[h.lsize];omega)).1 hq) hkl
    ·have hlt:=hB.back k ops[k] (by simp[hks]) ed he hb
     have:=hkp ed.on hlt
     unfold isL at this
     rw[z'w,this];rfl
   refine⟨fun h0=>by rw[h0]at hready;exact absurd hready z'I,fun i hi=>?_⟩
   obtain⟨h1,h2,o,ho,hr⟩:=z'8 h.lsize hi
   have hie:i<e:=by
    rcases z't i e with h'|h'
    ·exact h'
    ·exfalso
     have hsk:s≤k:=by
      rcases z't k s with h''|h''
      ·exact absurd (hlow k h'') hkl
      ·exact h''
     have he:=bar i h' h1 k hsk hkf
     exact hkl (z'4 (S:=isL listed) (fun j' ed hj' he'=>by
      obtain⟨oj,ed,q1,q2,q3,rfl⟩:=z'P.1 he'
      exact h.down j' oj q1 hj' ed q2 q3) _ i k (fun ed he'=>by
      obtain⟨oj,ed,q1,q2,q3,rfl⟩:=z'P.1 he'
      rw[ho]at q1;cases q1
      exact hr ed q2 q3) he)
   have hisz:i<listed.size:=by rw[h.lsize];exact h1
   refine wpOp_mono (fun a' w' h'=>ih _ a' w' ?_ (fun l hl=>(y'y hisz).2 (.inr (hlow l hl))) (fun k hk=>?_) h') (h.step hW hB hbl hs0 hdst hi (by omega) (hok i (by
     rcases z't i s with h''|h''
     ·exact absurd (hlow i h'') h2
     ·exact h'') hie))
   ·have:=v'b h.lsize h1 h2
    omega
   ·rcases(y'y hisz).1 hk with rfl|hk
    ·exact hie
    ·exact hup k hk
end
theorem VCd.groupXs {P:Program} (T:Tab P) (W:Nat→Bool) {n:Nat} {ops:Array Oper} {E:Nat→D} {H:Heap} {Q:Exit→St→Prop} (H1:Heap) (s st e f:Nat) (hbl:H1.blocks=H.blocks) (hs1:s≤st) (hst:Nat.blt st e=true) (hef:Nat.ble e f=true) (hB:x'I ops f=true) (hbar:w'B ops s e=true) (hd:ops.toList.all (y'B n)=true)
  (hW: ∀i,W i=true→z'N ops st i=true)
  (h:VCx T W st H H1 (fun E'=>VCd P n ops e ⟨E',H1⟩ Q) (e-s) s (ops.toList.drop s) E):VCd P n ops s ⟨E,H⟩ Q:=by
 have hB:=x'f hB
 have hef:e≤f:=z'i hef
 have hst:st<e:=by simpa using hst
 intro x a0 w hn' hn hs hsz hl0
 have hE0: ∀j,j≤s→z'Y ops E (fun k=>match z'v ops k with|some t=>E t|none=> .any) j=E:=by
  intro j
  induction j with
  |zero=>intro _;rfl
  |succ j ihj=>
   intro hj
   rw[z'Y,ihj (by omega)]
   cases hd':z'v ops j with
   |none=>rfl
   |some t=>exact x'A rfl
 obtain⟨res,hlo,hok,hK⟩:=VCx.extract (ops:=ops) (E0:=E) (e-s) s (fun k=>match z'v ops k with|some t=>E t|none=> .any) (by rw[hE0 s (z'c _)];exact h)
 rw[show s+(e-s)=e by omega]at hK
 have hdst: ∀k t,z'v ops k=some t→t<x.n:=fun k t hk=>hn▸v'w (l:=ops.toList) hd k t (by simpa using hk)
 have hno: ¬isL hn' st:=fun hk=>by have:=(hl0 st).1 hk;omega
 have hH0:hof H H1 st hn'=H:=by unfold hof;rw[if_neg hno]
 refine Za8 (x:=x) (res:=res) (E:=E) (H:=H) (H1:=H1) (st:=st) (a0:=a0) (ws:=w) (f:=f) (s:=s) hW hB hbl hs hef (fun i h1 h2 k h0 hk=>w'C hbar i h1 h2 k h0 hk) (fun j h0 hj=>hok j h0 (by omega)) hdst ?_ _ hn' a0 w ?_ (fun k hk=>(hl0 k).2 hk) (fun k hk=>by have:=(hl0 k).1 hk;omega) ?_
 ·intro listed a w' hl hF
  have hH1:hof H H1 st listed=H1:=by unfold hof;rw[if_pos ((hl st).2 hst)]
  have hlv:live H1 x.L0=live H x.L0:=w'9 hbl _
  refine hK x a w' listed hn ?_ hF.lsize hl
  have hevo:=hF.evo
  have hinv:=hF.inv
  rw[hH1]at hevo hinv
  refine{env:=fun t=>?_,inv:=hinv,evo:=hs.evo.trans hevo,defers:=hF.defers,size:=hF.size}
  simp only
  rw[hlv]
  by_cases hex: ∃k,k<e∧z'v ops k=some t
  ·obtain⟨k,hkf,hkt⟩:=hex
   rw[w'r e hkf hkt (fun j hj hne hd'=>hB.uniq k j (by omega) (by omega) hne (by rw[hkt];simp) (by rw[hd',hkt]))]
   exact hF.slots k t ((hl k).2 hkf) hkt
  ·rw[x'0 e (fun k hk hd'=>hex ⟨k,hk,hd'⟩),hF.rest t (fun k hk hd'=>hex ⟨k,(hl k).1 hk,hd'⟩)]
   have hkeep:=hevo.keeps (L0:=x.L0)
   rw[hlv]at hkeep
   exact Rel.mono hkeep _ _ (hs.env t)
 ·unfold unl
  have key: ∀m,m≤ops.size→((List.range m).filter fun k=> !hn'.getD k true).length=m-s:=by
   intro m
   induction m with
   |zero=>intro _;simp
   |succ m ihm=>
    intro hm
    rw[z'9,z'G,z'r,ihm (by omega)]
    by_cases hmf:m<s
    ·have:hn'.getD m true=true:=(z'H (by rw[hsz];omega)).2 ((hl0 m).2 hmf)
     rw[z'S,this];simp;omega
    ·have:hn'.getD m true=false:=by
      cases hq:hn'.getD m true with
      |false=>rfl
      |true=>exact absurd ((hl0 m).1 ((z'H (by rw[hsz];omega)).1 hq)) hmf
     rw[z'S,this];simp;omega
  exact key ops.size (z'c _)
 ·refine{lsize:=hsz,down:=fun k o ho hk ed he hb=>(hl0 _).2 ?_,front:=fun k hk=>?_,slots:=fun k t hk hkt=>?_,rest:=fun t _=>rfl,inv:=by rw[hH0];exact hs.inv,evo:=by rw[hH0];exact Evo.refl _ _,defers:=hs.defers,size:=hs.size}
  ·have h1:=hB.back k o ho ed he hb
   have h2:=(hl0 k).1 hk
   omega
  ·have:=(hl0 k).1 hk;omega
  ·have h2:=(hl0 k).1 hk
   rw[hlo k h2,hkt]
   exact hs.env t
end Go.Proofs.YtjlnkedmbfdofaaGreat
