/- A region that draws its order, in which some moves may float: they are carried out first. No condition. -/
import Derived.Test.YtjlnkedmbfdofaaGreatK2
namespace Go.Vc
set_option linter.unusedSimpArgs false
set_option linter.unusedVariables false
open Go
def ZfX:Op→Bool
 | .move _| .assign _| .extract .. =>true
 |_=>false
theorem Zji {P:Program} {o:Oper} {ε:Operand→Value} (hf:ZfX o.op=true):(∃v, ∀w,(execOp ε o).run P w= .ok (.value v) w)∨(∀w, ∃s,(execOp ε o).run P w= .halt (.stuck s) w):=by
 unfold ZfX at hf
 split at hf
 ·rename_i x ho;exact .inl ⟨ε x,fun w=>by simp only[execOp,ho];rfl⟩
 ·rename_i x ho;exact .inl ⟨ε x,fun w=>by simp only[execOp,ho];rfl⟩
 ·rename_i t i ho
  cases ht:ε t with
  |tuple vs=>
   cases hi:vs[i]? with
   |some v=>exact .inl ⟨v,fun w=>by simp only[execOp,ho,ht,Instr.extract,hi];rfl⟩
   |none=>exact .inr fun w=>⟨_,by simp only[execOp,ho,ht,Instr.extract,hi];rfl⟩
  |_=>exact .inr fun w=>⟨_,by simp only[execOp,ho,ht,Instr.extract];rfl⟩
 ·cases hf
def Zbh (ops:Array Oper) (k:Nat):Bool:=match ops[k]? with
 |some ok=>(match ok.guard with|none=>ZfX ok.op|some _=>false)&&(List.range ops.size).all fun j=>Nat.beq j k||match ops[j]? with
   |some oj=>oj.after.any (fun e=>Region.binds .any e&&e.on == k)||ok.apart ops oj||ok.after.any (fun e=>Region.binds .any e&&e.on == j)
   |none=>true
 |none=>false
section
variable {P : Program} {x : Ctx} {ops : Array Oper} {f : Nat} {res : Nat → FRes} {H : Heap} {E : Nat → D} {a0 : Act} {ws : World}
theorem Zin (hB:y'2 ops f) (hs0:SRel x ⟨E,H⟩ a0 ws) {Q:Exit→Act→World→Prop} (hQ: ∀c a w, ¬Q (.panic c) a w) (hsel:Region.noSelect ops=true) (hdst: ∀k t,z'v ops k=some t→t<x.n) {blk:Nat→List Nat} {listed:Array Bool} {a:Act} {w:World}
  (h:FInv x ops f res H a0 ws blk listed a w) {k fuel:Nat} (hk:Zbh ops k=true) (hr:k∈Region.ready .any ops listed) (hkf:k<f) (hok: ∃o,ops[k]?=some o∧FOk P ops (y'p ops 0 E res k) H o (res k))
  (ih: ∀blk' a',FInv x ops f res H a0 ws blk' (listed.setIfInBounds k true) a' w→wpAny P .any ops Q fuel (listed.setIfInBounds k true) a' w):wpAny P .any ops Q (fuel+1) listed a w:=by
 obtain⟨hks,hkl,o,ho,hready⟩:=z'8 h.lsize hr
 unfold Zbh at hk
 rw[ho]at hk
 simp only[z'b]at hk
 obtain⟨hk1,hk2⟩:=hk
 split at hk1
 case h_2=>cases hk1
 rename_i hg
 have hstep:=h.step hB hs0 (Q:=fun _ _ _=>False) hdst hr hkf hok
 unfold wpOp at hstep
 rw[ho]at hstep
 simp only at hstep
 rw[if_pos (by simp[Region.wanted,hg])]at hstep
 have hstep:o.wp P a w (fun a' w'=> ∃blk',FInv x ops f res H a0 ws blk' (listed.setIfInBounds k true) a' w') (fun _ _ _=>False):=by
  rcases hstep with h1|⟨_,_,_,h1⟩
  ·exact h1
  ·exact h1.elim
 unfold Oper.wp at hstep
 rcases Zji (P:=P) (ε:=a.eval) hk1 with⟨v,hv⟩|hst
 ·rw[hv w]at hstep
  obtain⟨blk',hF⟩:=hstep
  refine wpAny_first (v:=v) ho (Region.noSelect_spec hsel) (fun c a w h'=>absurd h' (hQ c _ _)) fuel listed a w ?_ hr (.inl ⟨by simp[Region.wanted,hg],hv⟩) (ih blk' _ hF)
  intro j oj hj hjk hju hno
  have hjs:j<ops.size:=(Array.getElem?_eq_some_iff.1 hj).1
  have h1:=z'h.1 hk2 j (z'J.2 hjs)
  simp only[hj,y'O]at h1
  rcases h1 with h1|⟨h1|h1⟩|h1
  ·exact absurd (z'd h1) hjk
  ·obtain⟨e,he,hb⟩:=Array.any_eq_true'.1 h1
   simp only[z'b,beq_iff_eq]at hb
   exact absurd hb.2 (hno e he hb.1)
  ·rename_i h1;exact h1
  ·obtain⟨e,he,hb⟩:=Array.any_eq_true'.1 h1
   simp only[z'b,beq_iff_eq]at hb
   have:=hready e he hb.1
   rw[hb.2]at this
   have h3:=(z'H (by rw[h.lsize];exact hjs)).2 this
   rw[hju]at h3;cases h3
 ·obtain⟨s,hs⟩:=hst w
  rw[hs]at hstep
  exact hstep.elim
theorem ZiG (hB:y'2 ops f) (hs0:SRel x ⟨E,H⟩ a0 ws) {Q:Exit→Act→World→Prop} (hQ: ∀c a w, ¬Q (.panic c) a w) (hsel:Region.noSelect ops=true) {fl:Nat→Bool} {s e:Nat} (hef:e≤f)
  (bar: ∀i,e≤i→i<ops.size→ ∀k,s≤k→k<e→fl k=false→z'N ops i k=true) (hfl: ∀k,s≤k→k<e→fl k=true→Zbh ops k=true)
  (hok: ∀j,s≤j→j<e→ ∃o,ops[j]?=some o∧FOk P ops (y'p ops 0 E res j) H o (res j)) (hdst: ∀k t,z'v ops k=some t→t<x.n)
  (hfin: ∀blk listed a w,(∀k,isL listed k↔k<e)→FInv x ops f res H a0 ws blk listed a w→wpAny P .any ops Q (ops.size-e) listed a w):
  ∀(fuel:Nat) (blk:Nat→List Nat) (listed:Array Bool) (a:Act) (w:World),unl listed ops.size=fuel→(∀k,k<s→isL listed k)→(∀k,isL listed k→k<e)→FInv x ops f res H a0 ws blk listed a w→wpAny P .any ops Q fuel listed a w:=by
 have hes:e≤ops.size:=z'E hef hB.le
 intro fuel
 induction fuel with
 |zero=>
  intro blk listed a w hu hlow hup h
  have all: ∀k,k<ops.size→isL listed k:=fun k hk=>w'6 h.lsize hu hk
  have hl: ∀k,isL listed k↔k<e:=fun k=>⟨hup k,fun hk=>all k (by omega)⟩
  have he:ops.size-e=0:=by
   rcases z'1 hes with h'|h'
   ·omega
   ·have:=hup e (all e h');omega
  have:=hfin blk listed a w hl h
  rwa [he]at this
 |succ fuel ih=>
  intro blk listed a w hu hlow hup h
  by_cases hall: ∀k,k<e→isL listed k
  ·have hl: ∀k,isL listed k↔k<e:=fun k=>⟨hup k,hall k⟩
   have hcount:ops.size-e=fuel+1:=by
    have key: ∀m,m≤ops.size→((List.range m).filter fun k=> !listed.getD k true).length=m-e:=by
     intro m
     induction m with
     |zero=>intro _;simp
     |succ m ihm=>
      intro hm
      rw[z'9,z'G,z'r,ihm (by omega)]
      by_cases hmf:m<e
      ·have:listed.getD m true=true:=(z'H (by rw[h.lsize];omega)).2 ((hl m).2 hmf)
       rw[z'S,this];simp;omega
      ·have:listed.getD m true=false:=by
        cases hq:listed.getD m true with
        |false=>rfl
        |true=>exact absurd ((hl m).1 ((z'H (by rw[h.lsize];omega)).1 hq)) hmf
       rw[z'S,this];simp;omega
    have:=key ops.size (z'c _)
    unfold unl at hu
    omega
   have:=hfin blk listed a w hl h
   rwa [hcount]at this
  ·have hex: ∃k,k<e∧ ¬isL listed k:=by
    refine z'j fun hn=>hall fun k hk=>z'j fun hkl=>hn ⟨k,hk,hkl⟩
   have least: ∀m, ∀k,k≤m→k<e→ ¬isL listed k→ ∃k',k'<e∧ ¬isL listed k'∧ ∀l,l<k'→isL listed l:=by
    intro m
    induction m with
    |zero=>intro k hk hkf hkl;exact⟨k,hkf,hkl,fun l hl=>by omega⟩
    |succ m ihm=>
     intro k hk hkf hkl
     by_cases hp: ∀l,l<k→isL listed l
     ·exact⟨k,hkf,hkl,hp⟩
     ·have: ∃l,l<k∧ ¬isL listed l:=z'j fun hn=>hp fun l hl=>z'j fun hll=>hn ⟨l,hl,hll⟩
      obtain⟨l,h1,h2⟩:=this
      exact ihm l (by omega) (by omega) h2
   obtain⟨k0,hk0f,hk0⟩:=hex
   obtain⟨k,hkf,hkl,hkp⟩:=least k0 k0 (z'c _) hk0f hk0
   have hks:k<ops.size:=z'm hkf hes
   have hready:k∈Region.ready .any ops listed:=by
    refine mem_ready.2 ⟨?_,ops[k],by simp[hks],fun ed he hb=>?_⟩
    ·cases hq:listed.getD k true with
     |false=>rfl
     |true=>exact absurd ((z'H (by rw[h.lsize];omega)).1 hq) hkl
    ·have hlt:=hB.back k ops[k] (by simp[hks]) ed he hb
     have:=hkp ed.on hlt
     unfold isL at this
     rw[z'w,this];rfl
   have hsk: ∀k, ¬isL listed k→s≤k:=fun k hn=>by
    rcases z't k s with h'|h'
    ·exact absurd (hlow k h') hn
    ·exact h'
   by_cases hall2: ∀k,k<e→fl k=false→isL listed k
   ·have hfk:fl k=true:=by
     cases hq:fl k with
     |true=>rfl
     |false=>exact absurd (hall2 k hkf hq) hkl
    have hisz:k<listed.size:=by rw[h.lsize];exact hks
    refine Zin hB hs0 hQ hsel hdst h (hfl k (hsk k hkl) hkf hfk) hready (by omega) (hok k (hsk k hkl) hkf) fun blk' a' hF=>ih blk' _ a' w ?_ (fun l hl=>(y'y hisz).2 (.inr (hlow l hl))) (fun l hl=>?_) hF
    ·have:=v'b h.lsize hks hkl
     omega
    ·rcases(y'y hisz).1 hl with rfl|hl
     ·exact hkf
     ·exact hup l hl
   ·obtain⟨q,hqe,hqf,hql⟩: ∃q,q<e∧fl q=false∧ ¬isL listed q:=z'j fun hn=>hall2 fun q h1 h2=>z'j fun h3=>hn ⟨q,h1,h2,h3⟩
    refine⟨fun h0=>by rw[h0]at hready;exact absurd hready z'I,fun i hi=>?_⟩
    obtain⟨h1,h2,o,ho,hr⟩:=z'8 h.lsize hi
    have hie:i<e:=by
     rcases z't i e with h'|h'
     ·exact h'
     ·exfalso
      have he:=bar i h' h1 q (hsk q hql) hqe hqf
      exact hql (z'4 (S:=isL listed) (fun j' ed hj' he'=>by
       obtain⟨oj,ed,q1,q2,q3,rfl⟩:=z'P.1 he'
       exact h.down j' oj q1 hj' ed q2 q3) _ i q (fun ed he'=>by
       obtain⟨oj,ed,q1,q2,q3,rfl⟩:=z'P.1 he'
       rw[ho]at q1;cases q1
       exact hr ed q2 q3) he)
    have hisz:i<listed.size:=by rw[h.lsize];exact h1
    refine wpOp_mono (fun a' w' ⟨blk',h'⟩=>ih blk' _ a' w' ?_ (fun l hl=>(y'y hisz).2 (.inr (hlow l hl))) (fun k hk=>?_) h') (h.step hB hs0 hdst hi (by omega) (hok i (hsk i h2) hie))
    ·have:=v'b h.lsize h1 h2
     omega
    ·rcases(y'y hisz).1 hk with rfl|hk
     ·exact hie
     ·exact hup k hk
end
def Zai (ops:Array Oper) (e k:Nat):Bool:=(List.range ops.size).any fun i=>Nat.ble e i&& !z'N ops i k
end Go.Vc
