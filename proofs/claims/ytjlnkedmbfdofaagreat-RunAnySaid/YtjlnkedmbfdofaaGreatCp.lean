/- A region that draws: operations in any order, by what holds as they come. No condition. -/
import Derived.Test.YtjlnkedmbfdofaaGreatFq
namespace Go.Proofs.YtjlnkedmbfdofaaGreat
set_option linter.unusedSimpArgs false
set_option linter.unusedVariables false
open Go Go.Proofs Go.Vc
theorem VCd.sim {P:Program} {n:Nat} {ops:Array Oper} {E:Nat→D} {H:Heap} {Q:Exit→St→Prop} (J:(Nat→Prop)→(Nat→D)→Heap→Prop) (s e f:Nat) (hse:Nat.ble s e=true) (hef:Nat.ble e f=true) (hB:x'I ops f=true) (hbar:w'B ops s e=true) (hd:ops.toList.all (y'B n)=true)
  (h0:J (fun k=>k<s) E H)
  (hst: ∀(L:Nat→Prop) (E':Nat→D) (H':Heap) (i:Nat) (o:Oper),J L E' H'→ops[i]?=some o→s≤i→i<e→ ¬L i→(∀ed∈o.after,Region.binds .any ed=true→L ed.on)→o.guard=none∧OpS P o (evD E') H' (fun d H''=>J (fun k=>k=i∨L k) (updO E' o.dst d) H''))
  (h: ∀E' H',J (fun k=>k<e) E' H'→VCd P n ops e ⟨E',H'⟩ Q):VCd P n ops s ⟨E,H⟩ Q:=by
 have hB:=x'f hB
 have hef:e≤f:=z'i hef
 have hse:s≤e:=z'i hse
 intro x a0 w hn' hn hs hsz hl0
 have hdst: ∀k t,z'v ops k=some t→t<x.n:=fun k t hk=>hn▸v'w (l:=ops.toList) hd k t (by simpa using hk)
 refine Zj0 (I:=fun listed a w=>listed.size=ops.size∧(∀k o,ops[k]?=some o→isL listed k→ ∀ed∈o.after,Region.binds .any ed=true→isL listed ed.on)∧ ∃E' H',SRel x ⟨E',H'⟩ a w∧J (isL listed) E' H') hB hef (fun i h1 h2 k h0 hk=>w'C hbar i h1 h2 k h0 hk) (fun l a w h=>h.1) (fun l a w h=>h.2.1) ?_ ?_ _ hn' a0 w ?_ (fun k hk=>(hl0 k).2 hk) (fun k hk=>by have:=(hl0 k).1 hk;omega) ⟨hsz,?_,E,H,hs,?_⟩
 ·rintro listed a w i ⟨h1,h2,E',H',h3,h4⟩ hr hsi hie
  obtain⟨hisz,hil,o,ho,hready⟩:=z'8 h1 hr
  obtain⟨hg,hop⟩:=hst (isL listed) E' H' i o h4 ho hsi hie hil hready
  have hdi:z'v ops i=o.dst:=by simp[z'v,ho]
  have hm:isL (listed.setIfInBounds i true)=fun k=>k=i∨isL listed k:=by funext k;exact propext (y'y (by omega))
  unfold wpOp
  rw[ho]
  simp only
  rw[if_pos (by simp[Region.wanted,hg])]
  refine .inl ((hop w x.L0 a.eval h3.inv (fun y _=>h3.ev y)).upon ?_)
  rintro v w' ⟨d,H'',hJ,hv,hi',he⟩
  refine⟨by simp[h1],?_,updO E' o.dst d,H'',h3.put (fun t ht=>hdst i t (by rw[hdi,ht])) hv hi' he,by rw[hm];exact hJ⟩
  intro k ok hok hk ed hed hb
  rw[hm]at hk⊢
  rcases hk with rfl|hk
  ·rw[ho]at hok;cases hok
   exact .inr (hready ed hed hb)
  ·exact .inr (h2 k ok hok hk ed hed hb)
 ·rintro listed a w hl ⟨h1,h2,E',H',h3,h4⟩
  have hm:isL listed=fun k=>k<e:=by funext k;exact propext (hl k)
  exact h E' H' (by rw[←hm];exact h4) x a w listed hn h3 h1 hl
 ·unfold unl
  have key: ∀m,m≤ops.size→((List.range m).filter fun k=> !hn'.getD k true).length=m-s:=by
   intro m
   induction m with
   |zero=>intro _;simp
   |succ m ihm=>
    intro hm
    rw[z'9,z'G,z'r,ihm (by omega)]
    by_cases hmf:m<s
    ·have:hn'.getD m true=true:=(z'H (by rw[hsz];omega)).2 ((hl0 m).2 hmf)
     rw[z'S,this];simp;omega
    ·have:hn'.getD m true=false:=by
      cases hq:hn'.getD m true with
      |false=>rfl
      |true=>exact absurd ((hl0 m).1 ((z'H (by rw[hsz];omega)).1 hq)) hmf
     rw[z'S,this];simp;omega
  exact key ops.size (z'c _)
 ·intro k ok hok hk ed hed hb
  have h1:=hB.back k ok hok ed hed hb
  have h2:=(hl0 k).1 hk
  exact(hl0 _).2 (by omega)
 ·have hm:isL hn'=fun k=>k<s:=by funext k;exact propext (hl0 k)
  rw[hm];exact h0
end Go.Proofs.YtjlnkedmbfdofaaGreat
