/- A region that draws its order, in which one new variable is written. No condition. -/
import Derived.Test.YthlkpnjjkgmlkaaGreatWa
namespace Go.Vc
set_option linter.unusedSimpArgs false
set_option linter.unusedVariables false
open Go
def VCp (F:Nat→(Nat→D)→Oper→FRes→Prop) (K:(Nat→D)→List (Tmp×NewI)→Prop):Nat→Nat→List Oper→(Nat→D)→List (Tmp×NewI)→Prop
 |0,_,_,E,news=>K E news
 |_+1,_,[],_,_=>False
 |m+1,i,o::l,E,news=> ∃r,F i E o r∧VCp F K m (i+1) l (updO E o.dst r.d) (news++ZcL r o.dst)
theorem VCp.extract {F:Nat→(Nat→D)→Oper→FRes→Prop} {K:(Nat→D)→List (Tmp×NewI)→Prop} {ops:Array Oper}: ∀(m i:Nat) (l:List Oper) (E:Nat→D) (news:List (Tmp×NewI)),l=ops.toList.drop i→VCp F K m i l E news→
  ∃res:Nat→FRes,(∀j,j<m→ ∃o,ops[i+j]?=some o∧F (i+j) (y'G ops i E res j) o (res (i+j)))∧K (y'G ops i E res m) (news++w'n ops res i m)
 |0,i,l,E,news,_,h=>⟨fun _=> .skip,fun j hj=>by omega,by rw[w'n,z'u];exact h⟩
 |m+1,i,[],E,news,_,h=>h.elim
 |m+1,i,o::l,E,news,hl,h=>by
  obtain⟨r,hok,h2⟩:=h
  have ho:ops[i]?=some o:=by
   have:(ops.toList.drop i)[0]?=some o:=by rw[←hl];rfl
   rw[y'2]at this
   simpa using this
  have hl2:l=ops.toList.drop (i+1):=by
   have:ops.toList.drop (i+1)=(ops.toList.drop i).drop 1:=by rw[y'6]
   rw[this, ←hl];rfl
  obtain⟨res',h3,h4⟩:=VCp.extract m (i+1) l _ _ hl2 h2
  let res:Nat→FRes:=fun k=>if k=i then r else res' k
  have hri:res i=r:=by simp[res]
  have hr: ∀k,i+1≤k→res' k=res k:=fun k hk=>by simp only[res];rw[if_neg (by omega)]
  have hd:z'U ops i=o.dst:=by simp[z'U,ho]
  have hen: ∀j,y'G ops i E res (j+1)=y'G ops (i+1) (updO E o.dst r.d) res' j:=fun j=>by
   rw[Zea,hri,hd,Za9 (fun k hk=>(hr k hk).symm)]
  refine⟨res,fun j hj=>?_,?_⟩
  ·cases j with
   |zero=>exact⟨o,ho,by rw[x'W,hri];exact hok⟩
   |succ j=>
    obtain⟨o',h5,h6⟩:=h3 j (by omega)
    rw[show i+(j+1)=i+1+j by omega]
    refine⟨o',h5,?_⟩
    rw[hen, ←hr _ (by omega)]
    exact h6
  ·rw[hen,w'n,Zan m (i+1) (fun k hk=>(hr k hk).symm)]
   rw[Zbk,hri,hd, ←List.append_assoc]
   exact h4
theorem ZjG {ops:Array Oper} {E:Nat→D} {R0 R1:Nat→FRes} (h: ∀k,(R0 k).d=(R1 k).d) {i:Nat}: ∀j,y'G ops i E R0 j=y'G ops i E R1 j
 |0=>rfl
 |j+1=>by rw[y'G,y'G,ZjG h j,h]
section
variable {P : Program} {x : Ctx} {ops : Array Oper} {f : Nat} {H : Heap} {E : Nat → D} {a0 : Act} {ws : World}
theorem Zne {R0 R1:Nat→FRes} (hB:w'o ops f) (hs0:SRel x ⟨E,H⟩ a0 ws) {Q:Exit→Act→World→Prop} {blk:Nat→List Nat} {listed:Array Bool} {a:Act} {w:World} (h:FInv x ops f R0 H a0 ws blk listed a w)
  {kk st:Nat} {s:Tmp} {ty:TypeId} {z z':List D} (hz:z'.length=z.length) (hkf:kk<f) (hkd:z'U ops kk=some s) (hR:R0 kk= .new (.cells ty z)) (hR1:R1 kk= .new (.cells ty z')) (heq: ∀k,k≠kk→R1 k=R0 k)
  (hRs:R0 st= .det (.is undef)) (hr:st∈Region.ready .any ops listed) (hsf:st<f) {o:Oper} (ho:ops[st]?=some o) (hg:o.guard=none) (hd:o.dst=none) (hks:y'B ops st kk=true)
  (hop: ∀b,b∉H.blocks→OpS P o (evD (upd (y'G ops 0 E R0 st) s (.is (.pointer (some ⟨b,0,none⟩))))) ((b,.cells ty z.length z)::H) (fun d' H'=>d'= .is undef∧H'=(b,.cells ty z.length z')::H)):
  wpOp P ops Q st (fun a' w'=> ∃blk',FInv x ops f R1 H a0 ws blk' (listed.setIfInBounds st true) a' w') a w:=by
 obtain⟨hisz,hil,o',ho',hready⟩:=y'Q h.lsize hr
 rw[ho]at ho';cases ho'
 have hisz':st<listed.size:=by rw[h.lsize];exact hisz
 have hm: ∀k,isL (listed.setIfInBounds st true) k↔k=st∨isL listed k:=fun k=>x'u hisz'
 have hd0:z'U ops st=none:=by simp[z'U,ho,hd]
 have hdown: ∀j e,isL listed j→e∈v'L ops j→isL listed e:=fun j e hj he=>by
  obtain⟨oj,ed,h1,h2,h3,rfl⟩:=y'z.1 he
  exact h.down j oj h1 hj ed h2 h3
 have hkl:isL listed kk:=y'U hdown _ st kk (fun e he=>by
  obtain⟨oj,ed,h1,h2,h3,rfl⟩:=y'z.1 he
  rw[ho]at h1;cases h1
  exact hready ed h2 h3) hks
 have hsl:=h.slots kk s hkl hkd
 rw[hR]at hsl
 obtain⟨d,Hk,hsay,hbk,hnd,hv,hrel⟩:=hsl
 obtain⟨b,rfl,rfl⟩:=hsay
 have hbb:b∈blk kk:=by rw[←hbk];simp[Heap.blocks]
 have hbk1: ∀b2,b2∈blk kk→b2=b:=fun b2 h2=>by rw[←hbk]at h2;simpa[Heap.blocks]using h2
 have hbL:L1 x.L0 R0 blk listed b:= .inr ⟨kk,_,hkl,hR,hbb⟩
 have hbH:b∉H.blocks:=fun hm=>h.inv.apart b hm hbL
 have hbw:=h.blks kk _ hkl hR b hbb
 let LL:Nat→Prop:=fun b2=>L1 x.L0 R0 blk listed b2∧b2≠b
 have hsame: ∀(c:HC) b2,live ((b,c)::H) LL b2↔live H (L1 x.L0 R0 blk listed) b2:=fun c b2=>by
  simp only[live,LL,Heap.blocks,z'p,z'v]
  constructor
  ·rintro(⟨h1,_⟩|rfl|h1)
   ·exact .inl h1
   ·exact .inl hbL
   ·exact .inr h1
  ·rintro(h1|h1)
   ·by_cases e:b2=b
    ·exact .inr (.inl e)
    ·exact .inl ⟨h1,e⟩
   ·exact .inr (.inr h1)
 have kk1:Keeps w (live H (L1 x.L0 R0 blk listed)) w (live ((b,.cells ty z.length z)::H) LL):=Keeps.less fun b2 _ hb=>(hsame _ b2).1 hb
 have hi1:HInv w LL ((b,.cells ty z.length z)::H):=
  {rel:=fun b2 c hm2=>by
    rcases z'v.1 hm2 with hm2|hm2
    ·cases hm2
     exact(hrel b _ (z't ..)).mono kk1 rfl
    ·exact(h.inv.rel b2 c hm2).mono kk1 rfl
   nodup:=by
    simp only[Heap.blocks,z'p,y'O]
    exact⟨hbH,h.inv.nodup⟩
   apart:=fun b2 hb2 hL=>by
    simp only[Heap.blocks,z'p,z'v]at hb2
    rcases hb2 with hb2|hb2
    ·exact hL.2 hb2
    ·exact h.inv.apart b2 hb2 hL.1
   old:=fun b2 hL=>h.inv.old b2 hL.1}
 have ev: ∀y,y∈o.op.operands→Rel w (live ((b,.cells ty z.length z)::H) LL) (evD (upd (y'G ops 0 E R0 st) s (.is (.pointer (some ⟨b,0,none⟩)))) y) (a.eval y):=fun y hy=>by
  have e:=Rel.mono kk1 _ _ (h.ev hB hs0 ho hsf hil hready y hy)
  cases y with
  |tmp t=>
   by_cases es:s=t
   ·subst es
    have:evD (upd (y'G ops 0 E R0 st) s (.is (.pointer (some ⟨b,0,none⟩)))) (.tmp s)= .is (.pointer (some ⟨b,0,none⟩)):=by simp[evD,upd]
    rw[this]
    exact Rel.mono kk1 _ _ hv
   ·have hst:(s == t)=false:=by simpa using es
    have:evD (upd (y'G ops 0 E R0 st) s (.is (.pointer (some ⟨b,0,none⟩)))) (.tmp t)=evD (y'G ops 0 E R0 st) (.tmp t):=by simp[evD,upd,hst]
    rw[this]
    exact e
  |const v=>exact e
  |global g=>exact e
  |func g=>exact e
 unfold wpOp
 rw[ho]
 simp only
 have hwant:Region.wanted o (yielded ops a.tmps)=true:=by simp[Region.wanted,hg]
 rw[if_pos hwant]
 refine .inl ?_
 refine(hop b hbH w LL a.eval hi1 ev).upon ?_
 rintro v w' ⟨d',H',⟨rfl,rfl⟩,hv',hi',he⟩
 refine⟨blk,?_⟩
 have hput:a.put o.dst v=a:=by rw[hd];rfl
 rw[hput]
 have hnew: ∀k n,isL (listed.setIfInBounds st true) k→R1 k= .new n→isL listed k∧ ∃n0,R0 k= .new n0:=fun k n hk hk1=>by
  by_cases e:k=kk
  ·subst e;exact⟨hkl,_,hR⟩
  ·rw[heq k e]at hk1
   rcases(hm k).1 hk with rfl|hk
   ·rw[hRs]at hk1;cases hk1
   ·exact⟨hk,n,hk1⟩
 have hL1: ∀b2,L1 x.L0 R1 blk (listed.setIfInBounds st true) b2↔L1 x.L0 R0 blk listed b2:=fun b2=>by
  constructor
  ·rintro(h1|⟨k,n,h1,h2,h3⟩)
   ·exact .inl h1
   ·obtain⟨q1,n0,q2⟩:=hnew k n h1 h2
    exact .inr ⟨k,n0,q1,q2,h3⟩
  ·rintro(h1|⟨k,n,h1,h2,h3⟩)
   ·exact .inl h1
   ·by_cases e:k=kk
    ·subst e;exact .inr ⟨k,_,(hm k).2 (.inr h1),hR1,h3⟩
    ·exact .inr ⟨k,n,(hm k).2 (.inr h1),by rw[heq k e];exact h2,h3⟩
 have hs2: ∀b2,live H (L1 x.L0 R1 blk (listed.setIfInBounds st true)) b2↔live ((b,.cells ty z.length z')::H) LL b2:=fun b2=>by
  rw[hsame]
  simp only[live,hL1]
 have kk2:Keeps w' (live ((b,.cells ty z.length z')::H) LL) w' (live H (L1 x.L0 R1 blk (listed.setIfInBounds st true))):=Keeps.less fun b2 _ hb=>(hs2 b2).1 hb
 have hkeep:Keeps w (live H (L1 x.L0 R0 blk listed)) w' (live H (L1 x.L0 R1 blk (listed.setIfInBounds st true))):=fun b2 hb2 hn=>by
  obtain⟨q1,q2⟩:=he.keeps (L0:=LL) b2 hb2 (fun hl=>hn ((hsame _ b2).1 hl))
  exact⟨q1,fun hl=>q2 ((hs2 b2).1 hl)⟩
 have hold: ∀k n,isL listed k→k≠kk→R0 k= .new n→ ∀b2,b2∈blk k→w'.heap[b2]?=w.heap[b2]?:=fun k n hk hkn hr2 b2 hb2=>by
  refine he.block b2 (h.blks k n hk hr2 b2 hb2).2 fun hmm=>?_
  simp only[Heap.blocks,z'p,z'v]at hmm
  rcases hmm with rfl|hmm
  ·exact hkn (h.inj k kk n _ hk hkl hr2 hR b2 hb2 hbb)
  ·exact h.inv.apart b2 hmm (.inr ⟨k,n,hk,hr2,hb2⟩)
 refine{lsize:=by simp[h.lsize],down:=?_,front:=?_,slots:=?_,blks:=?_,inj:=?_,rest:=?_,inv:=?_,evo:=?_,defers:=h.defers,size:=h.size}
 ·intro k ok hok hk e he2 hb
  rw[hm]at hk⊢
  rcases hk with rfl|hk
  ·rw[ho]at hok;cases hok
   exact .inr (hready e he2 hb)
  ·exact .inr (h.down k ok hok hk e he2 hb)
 ·intro k hk
  rcases(hm k).1 hk with rfl|hk
  ·exact hsf
  ·exact h.front k hk
 ·intro k t hk hkt
  rcases(hm k).1 hk with rfl|hk
  ·rw[hd0]at hkt;cases hkt
  by_cases hkk:k=kk
  ·subst hkk
   rw[hkd]at hkt;cases hkt
   rw[hR1]
   refine⟨.is (.pointer (some ⟨b,0,none⟩)),[(b,.cells ty z'.length z')],⟨b,rfl,rfl⟩,hbk,by simp[Heap.blocks],hv,fun b2 c hbc=>?_⟩
   rcases z'v.1 hbc with hbc|hbc
   ·cases hbc
    rw[hz]
    exact(hi'.rel b _ (z't ..)).mono kk2 rfl
   ·cases hbc
  ·rw[heq k hkk]
   have hsl:=h.slots k t hk hkt
   cases hr2:R0 k with
   |det d=>rw[hr2]at hsl;exact Rel.mono hkeep _ _ hsl
   |skip=>rw[hr2]at hsl;exact hsl
   |new n=>
    rw[hr2]at hsl
    obtain⟨d,Hk,h1,h2,h3,h4,h5⟩:=hsl
    refine⟨d,Hk,h1,h2,h3,Rel.mono hkeep _ _ h4,fun b2 c hbc=>(h5 b2 c hbc).mono hkeep (hold k n hk hkk hr2 b2 ?_)⟩
    rw[←h2]
    exact z'w.2 ⟨(b2,c),hbc,rfl⟩
 ·intro k n hk hr2 b2 hb2
  obtain⟨q1,n0,q2⟩:=hnew k n hk hr2
  have:=h.blks k n0 q1 q2 b2 hb2
  exact⟨this.1,z'N this.2 he.size⟩
 ·intro k l n n' hk hl hrk hrl b2 hbk2 hbl
  obtain⟨q1,n0,q2⟩:=hnew k n hk hrk
  obtain⟨q3,n1,q4⟩:=hnew l n' hl hrl
  exact h.inj k l n0 n1 q1 q3 q2 q4 b2 hbk2 hbl
 ·intro t hno
  exact h.rest t fun k hk=>hno k ((hm k).2 (.inr hk))
 ·exact
   {rel:=fun b2 c hmb=>(hi'.rel b2 c (z'o _ hmb)).mono kk2 rfl
    nodup:=h.inv.nodup
    apart:=fun b2 hb2 hl=>h.inv.apart b2 hb2 ((hL1 b2).1 hl)
    old:=fun b2 hl=>z'N (h.inv.old b2 ((hL1 b2).1 hl)) he.size}
 ·refine⟨he.os.trans h.evo.os,he.tape.trans h.evo.tape,he.output.trans h.evo.output,y'b h.evo.size he.size,fun b2 hb2 hn=>?_,fun b2 hb2=> .inl hb2⟩
  rw[he.block b2 (z'N hb2 h.evo.size) (fun hmm=>?_)]
  ·exact h.evo.block b2 hb2 hn
  ·simp only[Heap.blocks,z'p,z'v]at hmm
   rcases hmm with rfl|hmm
   ·omega
   ·exact hn hmm
theorem Zmx {R0 R1:Nat→FRes} (hB:w'o ops f) (hs0:SRel x ⟨E,H⟩ a0 ws) {Q:Exit→Act→World→Prop} {kk st:Nat} (hstf:st<f) (hks:y'B ops st kk=true)
  (hok0: ∀j,j<f→j≠st→ ∃o,ops[j]?=some o∧FOk P ops (y'G ops 0 E R0 j) H o (R0 j)) (hok1: ∀j,j<f→j≠st→j≠kk→ ∃o,ops[j]?=some o∧FOk P ops (y'G ops 0 E R1 j) H o (R1 j))
  (hst: ∀(blk:Nat→List Nat) (listed:Array Bool) (a:Act) (w:World),FInv x ops f R0 H a0 ws blk listed a w→st∈Region.ready .any ops listed→wpOp P ops Q st (fun a' w'=> ∃blk',FInv x ops f R1 H a0 ws blk' (listed.setIfInBounds st true) a' w') a w)
  (hdst: ∀k t,z'U ops k=some t→t<x.n) (hfin: ∀blk listed a w,(∀k,isL listed k↔k<f)→FInv x ops f R1 H a0 ws blk listed a w→wpList P ops Q (ops.toList.drop f) a w):
  ∀(fuel:Nat) (blk:Nat→List Nat) (listed:Array Bool) (a:Act) (w:World),unl listed ops.size=fuel→
   (∃R,FInv x ops f R H a0 ws blk listed a w∧(isL listed st→R=R1)∧(¬isL listed st→R=R0))→wpAny P .any ops Q fuel listed a w:=by
 have hkst: ∀(blk:Nat→List Nat) (listed:Array Bool) (a:Act) (w:World) (R:Nat→FRes),isL listed st→FInv x ops f R H a0 ws blk listed a w→isL listed kk:=fun blk listed a w R hl h=>by
  have hdown: ∀j e,isL listed j→e∈v'L ops j→isL listed e:=fun j e hj he=>by
   obtain⟨oj,ed,h1,h2,h3,rfl⟩:=y'z.1 he
   exact h.down j oj h1 hj ed h2 h3
  exact y'U hdown _ st kk (fun e he=>hdown st e hl he) hks
 intro fuel
 induction fuel with
 |zero=>
  intro blk listed a w hu hM
  obtain⟨R,h,hR1,hR0⟩:=hM
  have all: ∀k,k<ops.size→isL listed k:=fun k hk=>ZaM h.lsize hu hk
  have hfs:f=ops.size:=by
   rcases y'K hB.le with h'|h'
   ·exact h'
   ·have:=h.front f (all f h');omega
  obtain rfl:=hR1 (all st (by omega))
  exact ZbL hB 0 f listed a w (by omega) (z'c _) h.lsize (fun k=>⟨h.front k,fun hk=>all k (by omega)⟩) (hfin blk listed a w (fun k=>⟨h.front k,fun hk=>all k (by omega)⟩) h)
 |succ fuel ih=>
  intro blk listed a w hu hM
  obtain⟨R,h,hR1,hR0⟩:=hM
  by_cases hall: ∀k,k<f→isL listed k
  ·have hl: ∀k,isL listed k↔k<f:=fun k=>⟨h.front k,hall k⟩
   have hcount:f+(fuel+1)=ops.size:=by
    have key: ∀m,m≤ops.size→((List.range m).filter fun k=> !listed.getD k true).length=m-f:=by
     intro m
     induction m with
     |zero=>intro _;simp
     |succ m ihm=>
      intro hm
      rw[y'I,z'7,z'e,ihm (by omega)]
      by_cases hmf:m<f
      ·have:listed.getD m true=true:=(y'm (by rw[h.lsize];omega)).2 ((hl m).2 hmf)
       rw[y'C,this];simp;omega
      ·have:listed.getD m true=false:=by
        cases hq:listed.getD m true with
        |false=>rfl
        |true=>exact absurd ((hl m).1 ((y'm (by rw[h.lsize];omega)).1 hq)) hmf
       rw[y'C,this];simp;omega
    have:=key ops.size (z'c _)
    unfold unl at hu
    have:=hB.le
    omega
   obtain rfl:=hR1 (hall st hstf)
   exact ZbL hB (fuel+1) f listed a w hcount (z'c _) h.lsize hl (hfin blk listed a w hl h)
  ·-- the least one that is not listed
   have hex: ∃k,k<f∧ ¬isL listed k:=by
    refine z'C fun hn=>hall fun k hk=>z'C fun hkl=>hn ⟨k,hk,hkl⟩
   have least: ∀m, ∀k,k≤m→k<f→ ¬isL listed k→ ∃k',k'<f∧ ¬isL listed k'∧ ∀l,l<k'→isL listed l:=by
    intro m
    induction m with
    |zero=>intro k hk hkf hkl;exact⟨k,hkf,hkl,fun l hl=>by omega⟩
    |succ m ihm=>
     intro k hk hkf hkl
     by_cases hp: ∀l,l<k→isL listed l
     ·exact⟨k,hkf,hkl,hp⟩
     ·have: ∃l,l<k∧ ¬isL listed l:=z'C fun hn=>hp fun l hl=>z'C fun hll=>hn ⟨l,hl,hll⟩
      obtain⟨l,h1,h2⟩:=this
      exact ihm l (by omega) (by omega) h2
   obtain⟨k0,hk0f,hk0⟩:=hex
   obtain⟨k,hkf,hkl,hkp⟩:=least k0 k0 (z'c _) hk0f hk0
   have hks:k<ops.size:=z'N hkf hB.le
   have hready:k∈Region.ready .any ops listed:=by
    refine mem_ready.2 ⟨?_,ops[k],by simp[hks],fun e he hb=>?_⟩
    ·cases hq:listed.getD k true with
     |false=>rfl
     |true=>exact absurd ((y'm (by rw[h.lsize];omega)).1 hq) hkl
    ·have hlt:=hB.back k ops[k] (by simp[hks]) e he hb
     have:=hkp e.on hlt
     unfold isL at this
     rw[z'4,this];rfl
   refine⟨fun h0=>by rw[h0]at hready;exact absurd hready y'P,fun i hi=>?_⟩
   have hif:i<f:=by
    rcases z'g i f with h'|h'
    ·exact h'
    ·exfalso
     obtain⟨h1,h2,o,ho,hr⟩:=y'Q h.lsize hi
     have he:=hB.tail i h1 h' k (by omega)
     exact hkl (y'U (S:=isL listed) (fun j' e hj' he'=>by
      obtain⟨oj,ed,q1,q2,q3,rfl⟩:=y'z.1 he'
      exact h.down j' oj q1 hj' ed q2 q3) _ i k (fun e he'=>by
      obtain⟨oj,ed,q1,q2,q3,rfl⟩:=y'z.1 he'
      rw[ho]at q1;cases q1
      exact hr ed q2 q3) he)
   obtain⟨h1,h2,_⟩:=y'Q h.lsize hi
   have hu2:unl (listed.setIfInBounds i true) ops.size=fuel:=by
    have:=Za3 h.lsize h1 h2
    omega
   have hisz:i<listed.size:=by rw[h.lsize];exact h1
   by_cases his:i=st
   ·subst his
    obtain rfl:=hR0 h2
    refine wpOp_mono (fun a' w' ⟨blk',h'⟩=>ih blk' _ a' w' hu2 ⟨R1,h',fun _=>rfl,fun hn=>absurd ((x'u hisz).2 (.inl rfl)) hn⟩) (hst blk listed a w h hi)
   ·have hiff:isL (listed.setIfInBounds i true) st↔isL listed st:=by
     rw[x'u hisz]
     exact⟨fun h'=>h'.resolve_left (fun e=>his e.symm),.inr⟩
    have hokR: ∃o,ops[i]?=some o∧FOk P ops (y'G ops 0 E R i) H o (R i):=by
     by_cases hsl:isL listed st
     ·obtain rfl:=hR1 hsl
      exact hok1 i hif his (fun e=>h2 (by rw[e];exact hkst blk listed a w _ hsl h))
     ·obtain rfl:=hR0 hsl
      exact hok0 i hif his
    exact wpOp_mono (fun a' w' ⟨blk',h'⟩=>ih blk' _ a' w' hu2 ⟨R,h',fun hl=>hR1 (hiff.1 hl),fun hn=>hR0 fun hl=>hn (hiff.2 hl)⟩) (h.step hB hs0 hdst hi hif hokR)
end
def MF (P:Program) (T:Tab P) (ops:Array Oper) (H:Heap) (kk st:Nat) (s:Tmp) (ty:TypeId) (z':List D) (i:Nat) (E:Nat→D) (o:Oper) (r:FRes):Prop:=
 match Nat.beq i kk,Nat.beq i st with
 |true,_=>r= .new (.cells ty z')∧o.guard=none∧o.op= .alloc ty∧o.dst=some s∧(T.get ty).known=true∧((T.get ty).zero.map constD).all oneD=true
 |false,true=>r= .det (.is undef)∧o.guard=none∧o.dst=none∧z'.length=((T.get ty).zero.map constD).length∧
   ∀b,b∉H.blocks→OpS P o (evD (upd E s (.is (.pointer (some ⟨b,0,none⟩))))) ((b,.cells ty ((T.get ty).zero.map constD).length ((T.get ty).zero.map constD))::H) (fun d' H'=>d'= .is undef∧H'=(b,.cells ty ((T.get ty).zero.map constD).length z')::H)
 |false,false=>FOk P ops E H o r
theorem Zfd {a b:Nat} (h: ¬a=b):Nat.beq a b=false:=by
 cases hb:Nat.beq a b with
 |false=>rfl
 |true=>exact absurd (z's hb) h
theorem VC.drawM {P : Program} (T : Tab P) {n id : Nat} {l : List Oper} {E : Nat → D} {H : Heap} {Q : Exit → St → Prop} (f kk st : Nat) {s : Tmp} {ty : TypeId} (hkf : Nat.blt kk f = true) (hsf : Nat.blt st f = true) (hne : Nat.beq st kk = false) (hks : y'B l.toArray st kk = true)
    (hB : v'o l.toArray f = true) (hm : P.follows .mixedOrders = true) (hd : l.all (x'K n) = true) (z' : List D)
    (h : VCp (MF P T l.toArray H kk st s ty z') (fun E' news => x'2 news E' H fun E'' H'' => VCo P n l.toArray (l.drop f) ⟨E'', H''⟩ Q) f 0 l E []) : VC P n (.region id l.toArray true) ⟨E, H⟩ Q := by
  intro x a0 w hn hs
  have hB := w's hB
  have hs1 := hs.drew
  have hkf : kk < f := Nat.blt_eq.mp hkf
  have hsf : st < f := Nat.blt_eq.mp hsf
  have hne : ¬ st = kk := Nat.ne_of_beq_eq_false hne
  refine wp_region_any hm ?_
  obtain ⟨res, hok, hK⟩ := VCp.extract (ops := l.toArray) f 0 l E [] rfl h
  let z : List D := (T.get ty).zero.map constD
  let R0 : Nat → FRes := fun k => if k = kk then .new (.cells ty z) else res k
  have hR0 : R0 kk = .new (.cells ty z) := by simp [R0]
  have heq : ∀ k, k ≠ kk → res k = R0 k := fun k hk => by simp only [R0]; rw [if_neg hk]
  obtain ⟨ok, hok1k, hokk⟩ := hok kk hkf
  rw [z'5] at hok1k hokk
  unfold MF at hokk
  rw [show Nat.beq kk kk = true from w'6 kk] at hokk
  obtain ⟨hR1, hgk, hopk, hdk, hkn, hzo⟩ := hokk
  have hkd : z'U l.toArray kk = some s := by simp only [z'U, hok1k, w'J, hdk]
  have hdd : ∀ k, (R0 k).d = (res k).d := fun k => by
    by_cases e : k = kk
    · subst e; rw [hR0, hR1]; rfl
    · rw [heq k e]
  obtain ⟨o, host, hst0⟩ := hok st hsf
  rw [z'5] at host hst0
  unfold MF at hst0
  rw [Zfd hne, show Nat.beq st st = true from w'6 st] at hst0
  obtain ⟨hRs1, hgst, hdst0, hz, hop⟩ := hst0
  have hRs0 : R0 st = .det (.is undef) := by rw [← heq st hne]; exact hRs1
  rw [← ZjG hdd] at hop
  have hok1 : ∀ j, j < f → j ≠ st → j ≠ kk → ∃ o, l.toArray[j]? = some o ∧ FOk P l.toArray (y'G l.toArray 0 E res j) H o (res j) := fun j hj h1 h2 => by
    obtain ⟨o, q1, q2⟩ := hok j hj
    rw [z'5] at q1 q2
    unfold MF at q2
    rw [Zfd h2, Zfd h1] at q2
    exact ⟨o, q1, q2⟩
  have hok0 : ∀ j, j < f → j ≠ st → ∃ o, l.toArray[j]? = some o ∧ FOk P l.toArray (y'G l.toArray 0 E R0 j) H o (R0 j) := fun j hj h1 => by
    by_cases h2 : j = kk
    · subst h2
      exact ⟨ok, hok1k, by rw [hR0]; exact ⟨.inl hgk, ⟨s, hdk⟩, Zfg T hopk hkn hzo⟩⟩
    · obtain ⟨o, q1, q2⟩ := hok1 j hj h1 h2
      exact ⟨o, q1, by rw [ZjG hdd, ← heq j h2]; exact q2⟩
  have hdst : ∀ k t, z'U l.toArray k = some t → t < x.n := fun k t hk => hn ▸ Zbx hd k t hk
  have hnd : ∀ j n, j < f → res j = .new n → ∃ t, z'U l.toArray j = some t := by
    intro j n hj hr
    by_cases e : j = kk
    · subst e; exact ⟨s, hkd⟩
    by_cases e2 : j = st
    · subst e2; rw [hRs1] at hr; cases hr
    obtain ⟨o, ho, hf⟩ := hok1 j hj e2 e
    rw [hr] at hf
    obtain ⟨_, ⟨t, ht⟩, _⟩ := hf
    exact ⟨t, by simp only [z'U, ho, w'J, ht]⟩
  have hnone : ∀ k, ¬ isL (Array.replicate l.toArray.size false) k := by
    intro k hk
    unfold isL at hk
    rw [w'M] at hk
    split at hk <;> cases hk
  have hL0 : L1 x.L0 R0 (fun _ => []) (Array.replicate l.toArray.size false) = x.L0 := by
    funext b
    refine propext ⟨?_, .inl⟩
    rintro (h1 | ⟨k, n, h1, _⟩)
    · exact h1
    · exact absurd h1 (hnone k)
  have hunl : unl (Array.replicate l.toArray.size false) l.toArray.size = l.toArray.size := by
    unfold unl
    rw [List.filter_eq_self.2]
    · simp
    · intro k hk
      have := z'Q.1 hk
      simpa [Array.getD] using this
  refine Zmx (x := x) (R0 := R0) (R1 := res) (E := E) (H := H) (a0 := a0) (ws := w.drew) hB hs1 hsf hks hok0 hok1 (fun blk listed a w h hr => Zne hB hs1 h hz hkf hkd hR0 hR1 heq hRs0 hr hsf host hgst hdst0 hks hop) hdst ?_ _ (fun _ => []) _ a0 w.drew hunl ?_
  · intro blk listed a w' hl hF
    have h0 : [] ++ w'n l.toArray res 0 f = w'n l.toArray res 0 f := y'h _
    rw [h0] at hK
    have hsameL : Za4 x.L0 res blk f 0 = L1 x.L0 res blk listed := by
      funext b
      refine propext ⟨?_, ?_⟩
      · rintro (h1 | ⟨k, n, h1, h2, h3, h4⟩)
        · exact .inl h1
        · exact .inr ⟨k, n, (hl k).2 h2, h3, h4⟩
      · rintro (h1 | ⟨k, n, h1, h3, h4⟩)
        · exact .inl h1
        · exact .inr ⟨k, n, z'm _, (hl k).1 h1, h3, h4⟩
    have henv : ∀ t, Rel w' (live H (L1 x.L0 res blk listed)) (y'G l.toArray 0 E res f t) (a.tmps.getD t undef) := by
      intro t
      by_cases hex : ∃ k, k < f ∧ z'U l.toArray k = some t
      · obtain ⟨k, hkf, hkt⟩ := hex
        rw [ZaT f hkf hkt (fun j hj hne hd' => hB.uniq k j hkf hj hne (by rw [hkt]; simp) (by rw [hd', hkt]))]
        have hsl := hF.slots k t ((hl k).2 hkf) hkt
        cases hr : res k with
        | det d => rw [hr] at hsl; exact hsl
        | skip => rw [hr] at hsl; exact hsl
        | new n => trivial
      · rw [v'W f (fun k hk hd' => hex ⟨k, hk, hd'⟩), hF.rest t (fun k hk hd' => hex ⟨k, (hl k).1 hk, hd'⟩)]
        exact Rel.mono hF.keeps _ _ (hs1.env t)
    obtain ⟨E2, H2, hV, hS⟩ := Zct hs1 hF hl hnd f 0 _ H (by omega) hK henv (by rw [hsameL]; exact hF.inv) (fun b => by rw [hsameL]) hF.evo
    exact hV x a w' hn hS
  · refine ⟨R0, ?_, fun hk => absurd hk (hnone _), fun _ => rfl⟩
    refine { lsize := by simp, down := fun k o _ hk => absurd hk (hnone k), front := fun k hk => absurd hk (hnone k), slots := fun k t hk => absurd hk (hnone k), blks := fun k n hk => absurd hk (hnone k),
             inj := fun k l' n n' hk => absurd hk (hnone k), rest := fun t _ => rfl, inv := by rw [hL0]; exact hs1.inv, evo := Evo.refl _ _, defers := hs1.defers, size := hs1.size }
section
variable {P : Program} (T : Tab P) {ops : Array Oper} {H : Heap} {K : (Nat → D) → List (Tmp × NewI) → Prop} {m i kk st : Nat} {s : Tmp} {ty : TypeId} {z' : List D} {E : Nat → D} {news : List (Tmp × NewI)} {o : Oper} {l : List Oper}
theorem VCm.nil (h:K E news):VCp (MF P T ops H kk st s ty z') K 0 i l E news:=h
theorem VCm.step {d:D} {t:Tmp} (h1:Nat.beq i kk=false) (h2:Nat.beq i st=false) (hg:o.guard=none) (ht:o.dst=some t) (hc:opC T o (evD E) H (fun d' H'=>d'=d∧H'=H)) (hn:VCp (MF P T ops H kk st s ty z') K m (i+1) l (upd E t d) news):
  VCp (MF P T ops H kk st s ty z') K (m+1) i (o::l) E news:=
 ⟨.det d,by unfold MF;rw[h1,h2];exact⟨.inl hg,Zap T hc⟩,by rw[w'g,z'u,ht];exact hn⟩
theorem VCm.alloc (h1:Nat.beq i kk=true) (hg:o.guard=none) (hop:o.op= .alloc ty) (hd:o.dst=some s) (hk:(T.get ty).known=true) (hz:((T.get ty).zero.map constD).all oneD=true) (hn:VCp (MF P T ops H kk st s ty z') K m (i+1) l (upd E s .any) (news++[(s,.cells ty z')])):
  VCp (MF P T ops H kk st s ty z') K (m+1) i (o::l) E news:=
 ⟨.new (.cells ty z'),by unfold MF;rw[h1];exact⟨rfl,hg,hop,hd,hk,hz⟩,by rw[hd];exact hn⟩
theorem VCm.store (h1:Nat.beq i kk=false) (h2:Nat.beq i st=true) (hg:o.guard=none) (hd:o.dst=none)
  (hc: ∀b,b∉H.blocks→opC T o (evD (upd E s (.is (.pointer (some ⟨b,0,none⟩))))) ((b,.cells ty ((T.get ty).zero.map constD).length ((T.get ty).zero.map constD))::H) (fun d' H'=>d'= .is undef∧H'=(b,.cells ty ((T.get ty).zero.map constD).length z')::H))
  (hz:z'.length=((T.get ty).zero.map constD).length) (hn:VCp (MF P T ops H kk st s ty z') K m (i+1) l E news):
  VCp (MF P T ops H kk st s ty z') K (m+1) i (o::l) E news:=
 ⟨.det (.is undef),by unfold MF;rw[h1,h2];exact⟨rfl,hg,hd,hz,fun b hb=>let ⟨_,q1,q2⟩:=w'O T (hc b hb);q1.mono q2⟩,by rw[w'g,z'u,hd];exact hn⟩
end
end Go.Vc
