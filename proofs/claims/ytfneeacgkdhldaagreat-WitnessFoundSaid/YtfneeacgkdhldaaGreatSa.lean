/- A region that draws its order, in which one new variable is written. No condition. -/
import Derived.Test.YtfneeacgkdhldaaGreatWa
import Derived.Test.YtfneeacgkdhldaaGreatRt
import Derived.Test.YtfneeacgkdhldaaGreatXg
import Derived.Test.YtfneeacgkdhldaaGreatRj
namespace Go.Vc
set_option maxHeartbeats 16000000
set_option linter.unusedSimpArgs false
set_option linter.unusedVariables false
open Go
def VCp (F:Nat→(Nat→D)→Oper→FRes→Prop) (K:(Nat→D)→List (Tmp×NewI)→Prop):Nat→Nat→List Oper→(Nat→D)→List (Tmp×NewI)→Prop
 |0,_,_,E,news=>K E news
 |_+1,_,[],_,_=>False
 |m+1,i,o::l,E,news=> ∃r,F i E o r∧VCp F K m (i+1) l (updO E o.dst r.d) (news++Zcp r o.dst)
theorem VCp.extract {F:Nat→(Nat→D)→Oper→FRes→Prop} {K:(Nat→D)→List (Tmp×NewI)→Prop} {ops:Array Oper}: ∀(m i:Nat) (l:List Oper) (E:Nat→D) (news:List (Tmp×NewI)),l=ops.toList.drop i→VCp F K m i l E news→
  ∃res:Nat→FRes,(∀j,j<m→ ∃o,ops[i+j]?=some o∧F (i+j) (y'8 ops i E res j) o (res (i+j)))∧K (y'8 ops i E res m) (news++v'a ops res i m)
 |0,i,l,E,news,_,h=>⟨fun _=> .skip,fun j hj=>by omega,by rw[v'a,z'x];exact h⟩
 |m+1,i,[],E,news,_,h=>h.elim
 |m+1,i,o::l,E,news,hl,h=>by
  obtain⟨r,hok,h2⟩:=h
  have ho:ops[i]?=some o:=by
   have:(ops.toList.drop i)[0]?=some o:=by rw[←hl];rfl
   rw[x'f]at this
   simpa using this
  have hl2:l=ops.toList.drop (i+1):=by
   have:ops.toList.drop (i+1)=(ops.toList.drop i).drop 1:=by rw[w't]
   rw[this, ←hl];rfl
  obtain⟨res',h3,h4⟩:=VCp.extract m (i+1) l _ _ hl2 h2
  let res:Nat→FRes:=fun k=>if k=i then r else res' k
  have hri:res i=r:=by simp[res]
  have hr: ∀k,i+1≤k→res' k=res k:=fun k hk=>by simp only[res];rw[if_neg (by omega)]
  have hd:y'd ops i=o.dst:=by simp[y'd,ho]
  have hen: ∀j,y'8 ops i E res (j+1)=y'8 ops (i+1) (updO E o.dst r.d) res' j:=fun j=>by
   rw[Zdu,hri,hd,Zb6 (fun k hk=>(hr k hk).symm)]
  refine⟨res,fun j hj=>?_,?_⟩
  ·cases j with
   |zero=>exact⟨o,ho,by rw[v'g,hri];exact hok⟩
   |succ j=>
    obtain⟨o',h5,h6⟩:=h3 j (by omega)
    rw[show i+(j+1)=i+1+j by omega]
    refine⟨o',h5,?_⟩
    rw[hen, ←hr _ (by omega)]
    exact h6
  ·rw[hen,v'a,ZbL m (i+1) (fun k hk=>(hr k hk).symm)]
   rw[Zbn,hri,hd, ←y'u]
   exact h4
theorem Zhy {ops:Array Oper} {E:Nat→D} {R0 R1:Nat→FRes} (h: ∀k,(R0 k).d=(R1 k).d) {i:Nat}: ∀j,y'8 ops i E R0 j=y'8 ops i E R1 j
 |0=>rfl
 |j+1=>by rw[y'8,y'8,Zhy h j,h]
section
variable {P : Program} {x : Ctx} {ops : Array Oper} {f : Nat} {H : Heap} {E : Nat → D} {a0 : Act} {ws : World}
theorem Zj6 {R0 R1:Nat→FRes} (hB:v'F ops f) (hs0:SRel x ⟨E,H⟩ a0 ws) {Q:Exit→Act→World→Prop} {blk:Nat→List Nat} {listed:Array Bool} {a:Act} {w:World} (h:FInv x ops f R0 H a0 ws blk listed a w)
  {kk st:Nat} {s:Tmp} {ty:TypeId} {z z':List D} (hz:z'.length=z.length) (hkf:kk<f) (hkd:y'd ops kk=some s) (hR:R0 kk= .new (.cells ty z)) (hR1:R1 kk= .new (.cells ty z')) (heq: ∀k,k≠kk→R1 k=R0 k)
  (hRs:R0 st= .det (.is undef)) (hr:st∈Region.ready .any ops listed) (hsf:st<f) {o:Oper} (ho:ops[st]?=some o) (hg:o.guard=none) (hd:o.dst=none) (hks:x'r ops st kk=true)
  (hop: ∀b,b∉H.blocks→OpS P o (evD (upd (y'8 ops 0 E R0 st) s (.is (.pointer (some ⟨b,0,none⟩))))) ((b,.cells ty z.length z)::H) (fun d' H'=>d'= .is undef∧H'=(b,.cells ty z.length z')::H)):
  wpOp P ops Q st (fun a' w'=> ∃blk',FInv x ops f R1 H a0 ws blk' (listed.setIfInBounds st true) a' w') a w:=by
 obtain⟨hisz,hil,o',ho',hready⟩:=x'U h.lsize hr
 rw[ho]at ho';cases ho'
 have hisz':st<listed.size:=by rw[h.lsize];exact hisz
 have hm: ∀k,isL (listed.setIfInBounds st true) k↔k=st∨isL listed k:=fun k=>w'8 hisz'
 have hd0:y'd ops st=none:=by simp[y'd,ho,hd]
 have hdown: ∀j e,isL listed j→e∈Zai ops j→isL listed e:=fun j e hj he=>by
  obtain⟨oj,ed,h1,h2,h3,rfl⟩:=y'6.1 he
  exact h.down j oj h1 hj ed h2 h3
 have hkl:isL listed kk:=x'D hdown _ st kk (fun e he=>by
  obtain⟨oj,ed,h1,h2,h3,rfl⟩:=y'6.1 he
  rw[ho]at h1;cases h1
  exact hready ed h2 h3) hks
 have hsl:=h.slots kk s hkl hkd
 rw[hR]at hsl
 obtain⟨d,Hk,hsay,hbk,hnd,hv,hrel⟩:=hsl
 obtain⟨b,rfl,rfl⟩:=hsay
 have hbb:b∈blk kk:=by rw[←hbk];simp[Heap.blocks]
 have hbk1: ∀b2,b2∈blk kk→b2=b:=fun b2 h2=>by rw[←hbk]at h2;simpa[Heap.blocks]using h2
 have hbL:L1 x.L0 R0 blk listed b:= .inr ⟨kk,_,hkl,hR,hbb⟩
 have hbH:b∉H.blocks:=fun hm=>h.inv.apart b hm hbL
 have hbw:=h.blks kk _ hkl hR b hbb
 let LL:Nat→Prop:=fun b2=>L1 x.L0 R0 blk listed b2∧b2≠b
 have hsame: ∀(c:HC) b2,live ((b,c)::H) LL b2↔live H (L1 x.L0 R0 blk listed) b2:=fun c b2=>by
  simp only[live,LL,Heap.blocks,z'B,z'P]
  constructor
  ·rintro(⟨h1,_⟩|rfl|h1)
   ·exact .inl h1
   ·exact .inl hbL
   ·exact .inr h1
  ·rintro(h1|h1)
   ·by_cases e:b2=b
    ·exact .inr (.inl e)
    ·exact .inl ⟨h1,e⟩
   ·exact .inr (.inr h1)
 have kk1:Keeps w (live H (L1 x.L0 R0 blk listed)) w (live ((b,.cells ty z.length z)::H) LL):=Keeps.less fun b2 _ hb=>(hsame _ b2).1 hb
 have hi1:HInv w LL ((b,.cells ty z.length z)::H):=
  {rel:=fun b2 c hm2=>by
    rcases z'P.1 hm2 with hm2|hm2
    ·cases hm2
     exact(hrel b _ (z'D ..)).mono kk1 rfl
    ·exact(h.inv.rel b2 c hm2).mono kk1 rfl
   nodup:=by
    simp only[Heap.blocks,z'B,x'z]
    exact⟨hbH,h.inv.nodup⟩
   apart:=fun b2 hb2 hL=>by
    simp only[Heap.blocks,z'B,z'P]at hb2
    rcases hb2 with hb2|hb2
    ·exact hL.2 hb2
    ·exact h.inv.apart b2 hb2 hL.1
   old:=fun b2 hL=>h.inv.old b2 hL.1}
 have ev: ∀y,y∈o.op.operands→Rel w (live ((b,.cells ty z.length z)::H) LL) (evD (upd (y'8 ops 0 E R0 st) s (.is (.pointer (some ⟨b,0,none⟩)))) y) (a.eval y):=fun y hy=>by
  have e:=Rel.mono kk1 _ _ (h.ev hB hs0 ho hsf hil hready y hy)
  cases y with
  |tmp t=>
   by_cases es:s=t
   ·subst es
    have:evD (upd (y'8 ops 0 E R0 st) s (.is (.pointer (some ⟨b,0,none⟩)))) (.tmp s)= .is (.pointer (some ⟨b,0,none⟩)):=by simp[evD,upd]
    rw[this]
    exact Rel.mono kk1 _ _ hv
   ·have hst:(s == t)=false:=by simpa using es
    have:evD (upd (y'8 ops 0 E R0 st) s (.is (.pointer (some ⟨b,0,none⟩)))) (.tmp t)=evD (y'8 ops 0 E R0 st) (.tmp t):=by simp[evD,upd,hst]
    rw[this]
    exact e
  |const v=>exact e
  |global g=>exact e
  |func g=>exact e
 unfold wpOp
 rw[ho]
 simp only
 have hwant:Region.wanted o (yielded ops a.tmps)=true:=by simp[Region.wanted,hg]
 rw[if_pos hwant]
 refine .inl ?_
 refine(hop b hbH w LL a.eval hi1 ev).upon ?_
 rintro v w' ⟨d',H',⟨rfl,rfl⟩,hv',hi',he⟩
 refine⟨blk,?_⟩
 have hput:a.put o.dst v=a:=by rw[hd];rfl
 rw[hput]
 have hnew: ∀k n,isL (listed.setIfInBounds st true) k→R1 k= .new n→isL listed k∧ ∃n0,R0 k= .new n0:=fun k n hk hk1=>by
  by_cases e:k=kk
  ·subst e;exact⟨hkl,_,hR⟩
  ·rw[heq k e]at hk1
   rcases(hm k).1 hk with rfl|hk
   ·rw[hRs]at hk1;cases hk1
   ·exact⟨hk,n,hk1⟩
 have hL1: ∀b2,L1 x.L0 R1 blk (listed.setIfInBounds st true) b2↔L1 x.L0 R0 blk listed b2:=fun b2=>by
  constructor
  ·rintro(h1|⟨k,n,h1,h2,h3⟩)
   ·exact .inl h1
   ·obtain⟨q1,n0,q2⟩:=hnew k n h1 h2
    exact .inr ⟨k,n0,q1,q2,h3⟩
  ·rintro(h1|⟨k,n,h1,h2,h3⟩)
   ·exact .inl h1
   ·by_cases e:k=kk
    ·subst e;exact .inr ⟨k,_,(hm k).2 (.inr h1),hR1,h3⟩
    ·exact .inr ⟨k,n,(hm k).2 (.inr h1),by rw[heq k e];exact h2,h3⟩
 have hs2: ∀b2,live H (L1 x.L0 R1 blk (listed.setIfInBounds st true)) b2↔live ((b,.cells ty z.length z')::H) LL b2:=fun b2=>by
  rw[hsame]
  simp only[live,hL1]
 have kk2:Keeps w' (live ((b,.cells ty z.length z')::H) LL) w' (live H (L1 x.L0 R1 blk (listed.setIfInBounds st true))):=Keeps.less fun b2 _ hb=>(hs2 b2).1 hb
 have hkeep:Keeps w (live H (L1 x.L0 R0 blk listed)) w' (live H (L1 x.L0 R1 blk (listed.setIfInBounds st true))):=fun b2 hb2 hn=>by
  obtain⟨q1,q2⟩:=he.keeps (L0:=LL) b2 hb2 (fun hl=>hn ((hsame _ b2).1 hl))
  exact⟨q1,fun hl=>q2 ((hs2 b2).1 hl)⟩
 have hold: ∀k n,isL listed k→k≠kk→R0 k= .new n→ ∀b2,b2∈blk k→w'.heap[b2]?=w.heap[b2]?:=fun k n hk hkn hr2 b2 hb2=>by
  refine he.block b2 (h.blks k n hk hr2 b2 hb2).2 fun hmm=>?_
  simp only[Heap.blocks,z'B,z'P]at hmm
  rcases hmm with rfl|hmm
  ·exact hkn (h.inj k kk n _ hk hkl hr2 hR b2 hb2 hbb)
  ·exact h.inv.apart b2 hmm (.inr ⟨k,n,hk,hr2,hb2⟩)
 refine{lsize:=by simp[h.lsize],down:=?_,front:=?_,slots:=?_,blks:=?_,inj:=?_,rest:=?_,inv:=?_,evo:=?_,defers:=h.defers,size:=h.size}
 ·intro k ok hok hk e he2 hb
  rw[hm]at hk⊢
  rcases hk with rfl|hk
  ·rw[ho]at hok;cases hok
   exact .inr (hready e he2 hb)
  ·exact .inr (h.down k ok hok hk e he2 hb)
 ·intro k hk
  rcases(hm k).1 hk with rfl|hk
  ·exact hsf
  ·exact h.front k hk
 ·intro k t hk hkt
  rcases(hm k).1 hk with rfl|hk
  ·rw[hd0]at hkt;cases hkt
  by_cases hkk:k=kk
  ·subst hkk
   rw[hkd]at hkt;cases hkt
   rw[hR1]
   refine⟨.is (.pointer (some ⟨b,0,none⟩)),[(b,.cells ty z'.length z')],⟨b,rfl,rfl⟩,hbk,by simp[Heap.blocks],hv,fun b2 c hbc=>?_⟩
   rcases z'P.1 hbc with hbc|hbc
   ·cases hbc
    rw[hz]
    exact(hi'.rel b _ (z'D ..)).mono kk2 rfl
   ·cases hbc
  ·rw[heq k hkk]
   have hsl:=h.slots k t hk hkt
   cases hr2:R0 k with
   |det d=>rw[hr2]at hsl;exact Rel.mono hkeep _ _ hsl
   |skip=>rw[hr2]at hsl;exact hsl
   |new n=>
    rw[hr2]at hsl
    obtain⟨d,Hk,h1,h2,h3,h4,h5⟩:=hsl
    refine⟨d,Hk,h1,h2,h3,Rel.mono hkeep _ _ h4,fun b2 c hbc=>(h5 b2 c hbc).mono hkeep (hold k n hk hkk hr2 b2 ?_)⟩
    rw[←h2]
    exact z'y.2 ⟨(b2,c),hbc,rfl⟩
 ·intro k n hk hr2 b2 hb2
  obtain⟨q1,n0,q2⟩:=hnew k n hk hr2
  have:=h.blks k n0 q1 q2 b2 hb2
  exact⟨this.1,y'h this.2 he.size⟩
 ·intro k l n n' hk hl hrk hrl b2 hbk2 hbl
  obtain⟨q1,n0,q2⟩:=hnew k n hk hrk
  obtain⟨q3,n1,q4⟩:=hnew l n' hl hrl
  exact h.inj k l n0 n1 q1 q3 q2 q4 b2 hbk2 hbl
 ·intro t hno
  exact h.rest t fun k hk=>hno k ((hm k).2 (.inr hk))
 ·exact
   {rel:=fun b2 c hmb=>(hi'.rel b2 c (z'd _ hmb)).mono kk2 rfl
    nodup:=h.inv.nodup
    apart:=fun b2 hb2 hl=>h.inv.apart b2 hb2 ((hL1 b2).1 hl)
    old:=fun b2 hl=>y'h (h.inv.old b2 ((hL1 b2).1 hl)) he.size}
 ·refine⟨he.os.trans h.evo.os,he.tape.trans h.evo.tape,he.output.trans h.evo.output,y'z h.evo.size he.size,fun b2 hb2 hn=>?_,fun b2 hb2=> .inl hb2⟩
  rw[he.block b2 (y'h hb2 h.evo.size) (fun hmm=>?_)]
  ·exact h.evo.block b2 hb2 hn
  ·simp only[Heap.blocks,z'B,z'P]at hmm
   rcases hmm with rfl|hmm
   ·omega
   ·exact hn hmm
theorem ZjQ {R0 R1:Nat→FRes} (hB:v'F ops f) (hs0:SRel x ⟨E,H⟩ a0 ws) {Q:Exit→Act→World→Prop} {kk st:Nat} (hstf:st<f) (hks:x'r ops st kk=true)
  (hok0: ∀j,j<f→j≠st→ ∃o,ops[j]?=some o∧FOk P ops (y'8 ops 0 E R0 j) H o (R0 j)) (hok1: ∀j,j<f→j≠st→j≠kk→ ∃o,ops[j]?=some o∧FOk P ops (y'8 ops 0 E R1 j) H o (R1 j))
  (hst: ∀(blk:Nat→List Nat) (listed:Array Bool) (a:Act) (w:World),FInv x ops f R0 H a0 ws blk listed a w→st∈Region.ready .any ops listed→wpOp P ops Q st (fun a' w'=> ∃blk',FInv x ops f R1 H a0 ws blk' (listed.setIfInBounds st true) a' w') a w)
  (hdst: ∀k t,y'd ops k=some t→t<x.n) (hfin: ∀blk listed a w,(∀k,isL listed k↔k<f)→FInv x ops f R1 H a0 ws blk listed a w→wpList P ops Q (ops.toList.drop f) a w):
  ∀(fuel:Nat) (blk:Nat→List Nat) (listed:Array Bool) (a:Act) (w:World),unl listed ops.size=fuel→
   (∃R,FInv x ops f R H a0 ws blk listed a w∧(isL listed st→R=R1)∧(¬isL listed st→R=R0))→wpAny P .any ops Q fuel listed a w:=by
 have hkst: ∀(blk:Nat→List Nat) (listed:Array Bool) (a:Act) (w:World) (R:Nat→FRes),isL listed st→FInv x ops f R H a0 ws blk listed a w→isL listed kk:=fun blk listed a w R hl h=>by
  have hdown: ∀j e,isL listed j→e∈Zai ops j→isL listed e:=fun j e hj he=>by
   obtain⟨oj,ed,h1,h2,h3,rfl⟩:=y'6.1 he
   exact h.down j oj h1 hj ed h2 h3
  exact x'D hdown _ st kk (fun e he=>hdown st e hl he) hks
 intro fuel
 induction fuel with
 |zero=>
  intro blk listed a w hu hM
  obtain⟨R,h,hR1,hR0⟩:=hM
  have all: ∀k,k<ops.size→isL listed k:=fun k hk=>ZdP h.lsize hu hk
  have hfs:f=ops.size:=by
   rcases x'd hB.le with h'|h'
   ·exact h'
   ·have:=h.front f (all f h');omega
  obtain rfl:=hR1 (all st (by omega))
  exact ZbG hB 0 f listed a w (by omega) (z'w _) h.lsize (fun k=>⟨h.front k,fun hk=>all k (by omega)⟩) (hfin blk listed a w (fun k=>⟨h.front k,fun hk=>all k (by omega)⟩) h)
 |succ fuel ih=>
  intro blk listed a w hu hM
  obtain⟨R,h,hR1,hR0⟩:=hM
  by_cases hall: ∀k,k<f→isL listed k
  ·have hl: ∀k,isL listed k↔k<f:=fun k=>⟨h.front k,hall k⟩
   have hcount:f+(fuel+1)=ops.size:=by
    have key: ∀m,m≤ops.size→((List.range m).filter fun k=> !listed.getD k true).length=m-f:=by
     intro m
     induction m with
     |zero=>intro _;simp
     |succ m ihm=>
      intro hm
      rw[y'l,y'D,z'o,ihm (by omega)]
      by_cases hmf:m<f
      ·have:listed.getD m true=true:=(x'I (by rw[h.lsize];omega)).2 ((hl m).2 hmf)
       rw[w'f,this];simp;omega
      ·have:listed.getD m true=false:=by
        cases hq:listed.getD m true with
        |false=>rfl
        |true=>exact absurd ((hl m).1 ((x'I (by rw[h.lsize];omega)).1 hq)) hmf
       rw[w'f,this];simp;omega
    have:=key ops.size (z'w _)
    unfold unl at hu
    have:=hB.le
    omega
   obtain rfl:=hR1 (hall st hstf)
   exact ZbG hB (fuel+1) f listed a w hcount (z'w _) h.lsize hl (hfin blk listed a w hl h)
  ·-- the least one that is not listed
   have hex: ∃k,k<f∧ ¬isL listed k:=by
    refine z'8 fun hn=>hall fun k hk=>z'8 fun hkl=>hn ⟨k,hk,hkl⟩
   have least: ∀m, ∀k,k≤m→k<f→ ¬isL listed k→ ∃k',k'<f∧ ¬isL listed k'∧ ∀l,l<k'→isL listed l:=by
    intro m
    induction m with
    |zero=>intro k hk hkf hkl;exact⟨k,hkf,hkl,fun l hl=>by omega⟩
    |succ m ihm=>
     intro k hk hkf hkl
     by_cases hp: ∀l,l<k→isL listed l
     ·exact⟨k,hkf,hkl,hp⟩
     ·have: ∃l,l<k∧ ¬isL listed l:=z'8 fun hn=>hp fun l hl=>z'8 fun hll=>hn ⟨l,hl,hll⟩
      obtain⟨l,h1,h2⟩:=this
      exact ihm l (by omega) (by omega) h2
   obtain⟨k0,hk0f,hk0⟩:=hex
   obtain⟨k,hkf,hkl,hkp⟩:=least k0 k0 (z'w _) hk0f hk0
   have hks:k<ops.size:=y'h hkf hB.le
   have hready:k∈Region.ready .any ops listed:=by
    refine mem_ready.2 ⟨?_,ops[k],by simp[hks],fun e he hb=>?_⟩
    ·cases hq:listed.getD k true with
     |false=>rfl
     |true=>exact absurd ((x'I (by rw[h.lsize];omega)).1 hq) hkl
    ·have hlt:=hB.back k ops[k] (by simp[hks]) e he hb
     have:=hkp e.on hlt
     unfold isL at this
     rw[y's,this];rfl
   refine⟨fun h0=>by rw[h0]at hready;exact absurd hready x'3,fun i hi=>?_⟩
   have hif:i<f:=by
    rcases z'g i f with h'|h'
    ·exact h'
    ·exfalso
     obtain⟨h1,h2,o,ho,hr⟩:=x'U h.lsize hi
     have he:=hB.tail i h1 h' k (by omega)
     exact hkl (x'D (S:=isL listed) (fun j' e hj' he'=>by
      obtain⟨oj,ed,q1,q2,q3,rfl⟩:=y'6.1 he'
      exact h.down j' oj q1 hj' ed q2 q3) _ i k (fun e he'=>by
      obtain⟨oj,ed,q1,q2,q3,rfl⟩:=y'6.1 he'
      rw[ho]at q1;cases q1
      exact hr ed q2 q3) he)
   obtain⟨h1,h2,_⟩:=x'U h.lsize hi
   have hu2:unl (listed.setIfInBounds i true) ops.size=fuel:=by
    have:=ZeG h.lsize h1 h2
    omega
   have hisz:i<listed.size:=by rw[h.lsize];exact h1
   by_cases his:i=st
   ·subst his
    obtain rfl:=hR0 h2
    refine wpOp_mono (fun a' w' ⟨blk',h'⟩=>ih blk' _ a' w' hu2 ⟨R1,h',fun _=>rfl,fun hn=>absurd ((w'8 hisz).2 (.inl rfl)) hn⟩) (hst blk listed a w h hi)
   ·have hiff:isL (listed.setIfInBounds i true) st↔isL listed st:=by
     rw[w'8 hisz]
     exact⟨fun h'=>h'.resolve_left (fun e=>his e.symm),.inr⟩
    have hokR: ∃o,ops[i]?=some o∧FOk P ops (y'8 ops 0 E R i) H o (R i):=by
     by_cases hsl:isL listed st
     ·obtain rfl:=hR1 hsl
      exact hok1 i hif his (fun e=>h2 (by rw[e];exact hkst blk listed a w _ hsl h))
     ·obtain rfl:=hR0 hsl
      exact hok0 i hif his
    exact wpOp_mono (fun a' w' ⟨blk',h'⟩=>ih blk' _ a' w' hu2 ⟨R,h',fun hl=>hR1 (hiff.1 hl),fun hn=>hR0 fun hl=>hn (hiff.2 hl)⟩) (h.step hB hs0 hdst hi hif hokR)
end
def MF (P:Program) (T:Tab P) (ops:Array Oper) (H:Heap) (kk st:Nat) (s:Tmp) (ty:TypeId) (z':List D) (i:Nat) (E:Nat→D) (o:Oper) (r:FRes):Prop:=
 match Nat.beq i kk,Nat.beq i st with
 |true,_=>r= .new (.cells ty z')∧o.guard=none∧o.op= .alloc ty∧o.dst=some s∧(T.get ty).known=true∧((T.get ty).zero.map constD).all oneD=true
 |false,true=>r= .det (.is undef)∧o.guard=none∧o.dst=none∧z'.length=((T.get ty).zero.map constD).length∧
   ∀b,b∉H.blocks→OpS P o (evD (upd E s (.is (.pointer (some ⟨b,0,none⟩))))) ((b,.cells ty ((T.get ty).zero.map constD).length ((T.get ty).zero.map constD))::H) (fun d' H'=>d'= .is undef∧H'=(b,.cells ty ((T.get ty).zero.map constD).length z')::H)
 |false,false=>FOk P ops E H o r
theorem Zeb {a b:Nat} (h: ¬a=b):Nat.beq a b=false:=by
 cases hb:Nat.beq a b with
 |false=>rfl
 |true=>exact absurd (x'q hb) h
theorem VC.drawM {P : Program} (T : Tab P) {n id : Nat} {l : List Oper} {E : Nat → D} {H : Heap} {Q : Exit → St → Prop} (f kk st : Nat) {s : Tmp} {ty : TypeId} (hkf : Nat.blt kk f = true) (hsf : Nat.blt st f = true) (hne : Nat.beq st kk = false) (hks : x'r l.toArray st kk = true)
    (hB : Zbi l.toArray f = true) (hm : P.follows .mixedOrders = true) (hd : l.all (w'V n) = true) (z' : List D)
    (h : VCp (MF P T l.toArray H kk st s ty z') (fun E' news => y'4 news E' H fun E'' H'' => VCo P n l.toArray (l.drop f) ⟨E'', H''⟩ Q) f 0 l E []) : VC P n (.region id l.toArray true) ⟨E, H⟩ Q := by
  intro x a0 w hn hs
  have hB := ZaV hB
  have hs1 := hs.drew
  have hkf : kk < f := Nat.blt_eq.mp hkf
  have hsf : st < f := Nat.blt_eq.mp hsf
  have hne : ¬ st = kk := Nat.ne_of_beq_eq_false hne
  refine wp_region_any hm ?_
  obtain ⟨res, hok, hK⟩ := VCp.extract (ops := l.toArray) f 0 l E [] rfl h
  let z : List D := (T.get ty).zero.map constD
  let R0 : Nat → FRes := fun k => if k = kk then .new (.cells ty z) else res k
  have hR0 : R0 kk = .new (.cells ty z) := by simp [R0]
  have heq : ∀ k, k ≠ kk → res k = R0 k := fun k hk => by simp only [R0]; rw [if_neg hk]
  obtain ⟨ok, hok1k, hokk⟩ := hok kk hkf
  rw [y'y] at hok1k hokk
  unfold MF at hokk
  rw [show Nat.beq kk kk = true from Nat.beq_refl kk] at hokk
  obtain ⟨hR1, hgk, hopk, hdk, hkn, hzo⟩ := hokk
  have hkd : y'd l.toArray kk = some s := by simp only [y'd, hok1k, w'q, hdk]
  have hdd : ∀ k, (R0 k).d = (res k).d := fun k => by
    by_cases e : k = kk
    · subst e; rw [hR0, hR1]; rfl
    · rw [heq k e]
  obtain ⟨o, host, hst0⟩ := hok st hsf
  rw [y'y] at host hst0
  unfold MF at hst0
  rw [Zeb hne, show Nat.beq st st = true from Nat.beq_refl st] at hst0
  obtain ⟨hRs1, hgst, hdst0, hz, hop⟩ := hst0
  have hRs0 : R0 st = .det (.is undef) := by rw [← heq st hne]; exact hRs1
  rw [← Zhy hdd] at hop
  have hok1 : ∀ j, j < f → j ≠ st → j ≠ kk → ∃ o, l.toArray[j]? = some o ∧ FOk P l.toArray (y'8 l.toArray 0 E res j) H o (res j) := fun j hj h1 h2 => by
    obtain ⟨o, q1, q2⟩ := hok j hj
    rw [y'y] at q1 q2
    unfold MF at q2
    rw [Zeb h2, Zeb h1] at q2
    exact ⟨o, q1, q2⟩
  have hok0 : ∀ j, j < f → j ≠ st → ∃ o, l.toArray[j]? = some o ∧ FOk P l.toArray (y'8 l.toArray 0 E R0 j) H o (R0 j) := fun j hj h1 => by
    by_cases h2 : j = kk
    · subst h2
      exact ⟨ok, hok1k, by rw [hR0]; exact ⟨.inl hgk, ⟨s, hdk⟩, Zed T hopk hkn hzo⟩⟩
    · obtain ⟨o, q1, q2⟩ := hok1 j hj h1 h2
      exact ⟨o, q1, by rw [Zhy hdd, ← heq j h2]; exact q2⟩
  have hdst : ∀ k t, y'd l.toArray k = some t → t < x.n := fun k t hk => hn ▸ Zeu hd k t hk
  have hnd : ∀ j n, j < f → res j = .new n → ∃ t, y'd l.toArray j = some t := by
    intro j n hj hr
    by_cases e : j = kk
    · subst e; exact ⟨s, hkd⟩
    by_cases e2 : j = st
    · subst e2; rw [hRs1] at hr; cases hr
    obtain ⟨o, ho, hf⟩ := hok1 j hj e2 e
    rw [hr] at hf
    obtain ⟨_, ⟨t, ht⟩, _⟩ := hf
    exact ⟨t, by simp only [y'd, ho, w'q, ht]⟩
  have hnone : ∀ k, ¬ isL (Array.replicate l.toArray.size false) k := by
    intro k hk
    unfold isL at hk
    rw [v'p] at hk
    split at hk <;> cases hk
  have hL0 : L1 x.L0 R0 (fun _ => []) (Array.replicate l.toArray.size false) = x.L0 := by
    funext b
    refine propext ⟨?_, .inl⟩
    rintro (h1 | ⟨k, n, h1, _⟩)
    · exact h1
    · exact absurd h1 (hnone k)
  have hunl : unl (Array.replicate l.toArray.size false) l.toArray.size = l.toArray.size := by
    unfold unl
    rw [v'o.2]
    · simp
    · intro k hk
      have := z'G.1 hk
      simpa [Array.getD] using this
  refine ZjQ (x := x) (R0 := R0) (R1 := res) (E := E) (H := H) (a0 := a0) (ws := w.drew) hB hs1 hsf hks hok0 hok1 (fun blk listed a w h hr => Zj6 hB hs1 h hz hkf hkd hR0 hR1 heq hRs0 hr hsf host hgst hdst0 hks hop) hdst ?_ _ (fun _ => []) _ a0 w.drew hunl ?_
  · intro blk listed a w' hl hF
    have h0 : [] ++ v'a l.toArray res 0 f = v'a l.toArray res 0 f := z'T _
    rw [h0] at hK
    have hsameL : Zbx x.L0 res blk f 0 = L1 x.L0 res blk listed := by
      funext b
      refine propext ⟨?_, ?_⟩
      · rintro (h1 | ⟨k, n, h1, h2, h3, h4⟩)
        · exact .inl h1
        · exact .inr ⟨k, n, (hl k).2 h2, h3, h4⟩
      · rintro (h1 | ⟨k, n, h1, h3, h4⟩)
        · exact .inl h1
        · exact .inr ⟨k, n, z'M _, (hl k).1 h1, h3, h4⟩
    have henv : ∀ t, Rel w' (live H (L1 x.L0 res blk listed)) (y'8 l.toArray 0 E res f t) (a.tmps.getD t undef) := by
      intro t
      by_cases hex : ∃ k, k < f ∧ y'd l.toArray k = some t
      · obtain ⟨k, hkf, hkt⟩ := hex
        rw [ZbS f hkf hkt (fun j hj hne hd' => hB.uniq k j hkf hj hne (by rw [hkt]; simp) (by rw [hd', hkt]))]
        have hsl := hF.slots k t ((hl k).2 hkf) hkt
        cases hr : res k with
        | det d => rw [hr] at hsl; exact hsl
        | skip => rw [hr] at hsl; exact hsl
        | new n => trivial
      · rw [Zbc f (fun k hk hd' => hex ⟨k, hk, hd'⟩), hF.rest t (fun k hk hd' => hex ⟨k, (hl k).1 hk, hd'⟩)]
        exact Rel.mono hF.keeps _ _ (hs1.env t)
    obtain ⟨E2, H2, hV, hS⟩ := Zda hs1 hF hl hnd f 0 _ H (by omega) hK henv (by rw [hsameL]; exact hF.inv) (fun b => by rw [hsameL]) hF.evo
    exact hV x a w' hn hS
  · refine ⟨R0, ?_, fun hk => absurd hk (hnone _), fun _ => rfl⟩
    refine { lsize := by simp, down := fun k o _ hk => absurd hk (hnone k), front := fun k hk => absurd hk (hnone k), slots := fun k t hk => absurd hk (hnone k), blks := fun k n hk => absurd hk (hnone k),
             inj := fun k l' n n' hk => absurd hk (hnone k), rest := fun t _ => rfl, inv := by rw [hL0]; exact hs1.inv, evo := Evo.refl _ _, defers := hs1.defers, size := hs1.size }
section
variable {P : Program} (T : Tab P) {ops : Array Oper} {H : Heap} {K : (Nat → D) → List (Tmp × NewI) → Prop} {m i kk st : Nat} {s : Tmp} {ty : TypeId} {z' : List D} {E : Nat → D} {news : List (Tmp × NewI)} {o : Oper} {l : List Oper}
theorem VCm.nil (h:K E news):VCp (MF P T ops H kk st s ty z') K 0 i l E news:=h
theorem VCm.step {d:D} {t:Tmp} (h1:Nat.beq i kk=false) (h2:Nat.beq i st=false) (hg:o.guard=none) (ht:o.dst=some t) (hc:opC T o (evD E) H (fun d' H'=>d'=d∧H'=H)) (hn:VCp (MF P T ops H kk st s ty z') K m (i+1) l (upd E t d) news):
  VCp (MF P T ops H kk st s ty z') K (m+1) i (o::l) E news:=
 ⟨.det d,by unfold MF;rw[h1,h2];exact⟨.inl hg,ZaW T hc⟩,by rw[v'K,z'x,ht];exact hn⟩
theorem VCm.alloc (h1:Nat.beq i kk=true) (hg:o.guard=none) (hop:o.op= .alloc ty) (hd:o.dst=some s) (hk:(T.get ty).known=true) (hz:((T.get ty).zero.map constD).all oneD=true) (hn:VCp (MF P T ops H kk st s ty z') K m (i+1) l (upd E s .any) (news++[(s,.cells ty z')])):
  VCp (MF P T ops H kk st s ty z') K (m+1) i (o::l) E news:=
 ⟨.new (.cells ty z'),by unfold MF;rw[h1];exact⟨rfl,hg,hop,hd,hk,hz⟩,by rw[hd];exact hn⟩
theorem VCm.store (h1:Nat.beq i kk=false) (h2:Nat.beq i st=true) (hg:o.guard=none) (hd:o.dst=none)
  (hc: ∀b,b∉H.blocks→opC T o (evD (upd E s (.is (.pointer (some ⟨b,0,none⟩))))) ((b,.cells ty ((T.get ty).zero.map constD).length ((T.get ty).zero.map constD))::H) (fun d' H'=>d'= .is undef∧H'=(b,.cells ty ((T.get ty).zero.map constD).length z')::H))
  (hz:z'.length=((T.get ty).zero.map constD).length) (hn:VCp (MF P T ops H kk st s ty z') K m (i+1) l E news):
  VCp (MF P T ops H kk st s ty z') K (m+1) i (o::l) E news:=
 ⟨.det (.is undef),by unfold MF;rw[h1,h2];exact⟨rfl,hg,hd,hz,fun b hb=>let ⟨_,q1,q2⟩:=v'9 T (hc b hb);q1.mono q2⟩,by rw[v'K,z'x,hd];exact hn⟩
end
end Go.Vc
/- Contracts: where a program begins, and where a path leads. No condition. -/
namespace Go.Proofs.YtfneeacgkdhldaaGreat
set_option maxHeartbeats 16000000
set_option linter.unusedSimpArgs false
set_option linter.unusedVariables false
set_option maxRecDepth 20000
open Go Go.Proofs Go.Vc
attribute [local irreducible] y'5 VCg VCw VCx
theorem ZbE {P:Program} (T:Tab P) {E:Nat→D} {H:Heap} {u a v:Tmp} {ty:TypeId} {Φ:D→Heap→Prop} {H':Heap} {b n:Nat} {ty':TypeId} {l:List D} (ha:E a= .is (.pointer (some ⟨b,0,none⟩))) (hb:w'U H b=some (.cells ty' n l))
  (hk:(T.get ty).known=true) (hz:(T.get ty).size=l.length) (hag:(T.get ty).agg=true) (hs:H'.Sublist H) (h:Φ (.tup [.agg l,E u,E v]) H'):y'5 T [.cell a ty,.tmp u,.tmp v] Φ .ret ⟨E,H⟩:=
 by unfold y'5;exact⟨[.agg l,E u,E v],H',⟨b,ty',n,l,_,ha,w'I hb,hk,hz,by rw[hag],_,rfl,_,rfl,rfl⟩,hs,h⟩
theorem ZlN (n:Nat):ZaF n [.slice none 0 0]=List.replicate n (D.gs none 0):=by
 show(List.replicate n [D.gs none 0]).flatten=_
 induction n with
 |zero=>rfl
 |succ n ih=>rw[y'F,z'0,ih,y'F];rfl
theorem Zms {o:Oper} {E:Operand→D} {H:Heap} {l c:Operand} {n:Nat} (ho:o.op= .makeSlice 49 l c) (hl:E l=iD (n:Nat)) (hc:E c=iD (n:Nat)) (hn:n≤1000000):
  OpS Tryz.prog o E H (fun d' H'=>d'= .sl false 1 (y'Y (List.replicate n []))∧H'=H):=by
 have hcm:cMake (kdT (T.get 49)) (E l) (E c) H (fun d H'=> ∃k,d= .gs (some (k,n)) n∧H'=(k,.cells 117 (n*1) (List.replicate n (D.gs none 0)))::H):=by
  rw[hl,hc]
  show cMake (.slice 117 1 24 false [.slice none 0 0]) _ _ _ _
  refine⟨⟨by omega,rfl,by rw[z'f];omega,by omega,rfl⟩,fun k hk=>⟨k,by rw[z'f],?_⟩⟩
  rw[z'f,ZlN]
 obtain⟨Φ,h1,h2⟩:=ZfO T (E:=E) (H:=H) (K:=fun d H'=> ∃k,d= .gs (some (k,n)) n∧H'=(k,.cells 117 (n*1) (List.replicate n (D.gs none 0)))::H) ho hcm
 refine OpS.freeze (OpS.mono h1 h2) fun d H' ⟨k,q1,q2⟩=>⟨[(k,.cells 117 (n*1) (List.replicate n (D.gs none 0)))],q2,?_⟩
 rw[q1]
 have:=v'G (g:=some (k,n)) (n:=n) (e:=117) (l:=List.replicate n (D.gs none 0)) (H:=[(k,.cells 117 (n*1) (List.replicate n (D.gs none 0)))]) (by rw[z'Z];simp) (by exact z'w n) (fun b cap hb=>by cases hb;exact z'D ..) (Zf6 n)
 exact this
def cf0:Cf:=⟨[],[],[],[]⟩
def v'1 (u:Un):Cf:=match y't u with|true=>x'l u|false=>cf0
def v'2 (u:Un):Int:=match y't u with|true=>0|false=>8
theorem ZkK {H:Heap} {d' d:D} (h:Fz H d' d):Fz H (.tup [.agg (cfC cf0),d']) (.tup [.agg [.gs none 0,.gs none 0,.gs none 0,.gs none 0],d]):=
 ⟨_,rfl,z't ⟨_,rfl,z't y'q (z't y'q (z't y'q (z't y'q x'T)))⟩ (z't h x'T)⟩
theorem Zkw (u:Un) (hu:OkU u):Pure Tryz.prog 92 [.agg (unC u)] (.tup [.agg (cfC (v'1 u)),iD (v'2 u)]):=by
 have k1:=hu.ini
 have k2:=hu.reg
 have cu:=ZgS u hu
 refine Fun.fz ?_
 refine Fun.of T [.cell 2 51,.tmp 3] Tryz.func92 rfl Tryz.ntmps92 Tryz.results92 rfl (by kernel_rfl) ?_
 cases hU:y't u with
 |false=>
  rw[hU]at cu
  rw[show v'1 u=cf0 by simp[v'1,hU],show v'2 u=8 by simp[v'2,hU]]
  repeat' first|refine vb (t:=25) rfl rfl rfl rfl ?_|refine vs T rfl fun K hK=>?_;(try simp (disch:=omega) only[go_sem,Nat.reduceBEq,Nat.reduceAdd,Nat.reduceLeDiff,z'r]);(first|refine hK _ _ ?_;clear hK K|intro bq hbq;(try simp only[HB]at hbq);refine hK _ _ ?_;clear hK K|refine Op1.callp rfl rfl (cu) rfl ?_;refine hK _ _ ?_;clear hK K)|refine st rfl ?_|refine sc rfl ?_|refine nl ?_
  exact x'g T rfl hget_eq rfl rfl rfl (z'a _) (ZkK (Fz.refl _ _))
 |true=>
 rw[hU]at cu
 rw[show v'1 u=x'l u by simp[v'1,hU],show v'2 u=0 by simp[v'2,hU]]
 have co:=Zmy u.init (by omega)
 repeat' first|refine vb (t:=25) rfl rfl rfl rfl ?_|refine VCg.stepS T rfl rfl (Zms rfl rfl rfl (by omega)) ?_|refine VCg.stepS T rfl rfl (Zfe rfl rfl rfl (by omega)) ?_|refine dr (id:=4) T 9 (by kernel_rfl) ?_|refine VCg.nil T ?_;simp only[y'4,WB,Nat.reduceAdd,T51];try(refine fun(bq:Nat) hbq=>?_;(try simp only[HB]at hbq))|apply VCg.step T rfl rfl;focus((try simp (disch:=omega) only[go_sem,Nat.reduceBEq,Nat.reduceAdd]);(first|exact rfl|refine Op1.callp rfl rfl (co) rfl ?_;exact⟨rfl,rfl⟩))|refine VCg.alloc T rfl rfl rfl rfl rfl ?_|refine vs T rfl fun K hK=>?_;(try simp (disch:=omega) only[go_sem,Nat.reduceBEq,Nat.reduceAdd,Nat.reduceLeDiff,z'k,z'l]);(first|refine hK _ _ ?_;clear hK K|intro bq hbq;(try simp only[HB]at hbq);refine hK _ _ ?_;clear hK K|refine Op1.callp rfl rfl (cu) rfl ?_;refine hK _ _ ?_;clear hK K)|refine st rfl ?_|refine sc rfl ?_|refine nl ?_
 rename_i b2 hb2
 have n1: ¬bq=b2:=hbq
 refine VC.loop {p:Nat×G//p.1≤u.regs.length∧gOk p.2 p.1} (fun p=>⟨z'J [(1,.pt (unC u)),(2,pD b2),(5,pD bq),(24,z'C u.regs),(25,iD (u.regs.length:Nat)),(26,iD (p.1.1:Nat))],(bq,.cells 51 4 [z'C (List.replicate u.regs.length 0),.gs p.1.2 p.1.1,z'C u.init,.sl false 1 (y'Y (List.replicate u.regs.length []))])::(b2,.cells 51 4 [.gs none 0,.gs none 0,.gs none 0,.gs none 0])::shp p.1.2 22 1 ((u.regs.take p.1.1).map Zbb) []⟩) (fun p=>u.regs.length-p.1.1) ⟨(0,none),by dsimp only;omega,rfl⟩ ?_ ?_
 ·refine Weak.sub ?_
  simp[sub,upd]
 rintro⟨⟨t,g⟩,ht,hg⟩
 dsimp only at ht hg⊢
 rcases z'g t u.regs.length with hlt|hge
 ·have hd:decide ((t:Int)<(u.regs.length:Int))=true:=by simp;omega
  have hw:IntKind.i64.wrap ((t:Int)+1)=((t+1:Nat):Int):=by rw[w64 (by omega)];omega
  obtain⟨n,hn⟩: ∃n,u.regs[t]?=some n:=⟨_,z'b hlt⟩
  have hn6:=ZdO hU hn
  obtain⟨k,rfl⟩: ∃k:Nat,n=(k:Int):=⟨n.toNat,by omega⟩
  have rn:(iRs u.regs)[t]?=some [iD (k:Nat)]:=by rw[y'Q,hn];rfl
  have hc2:((u.regs.take t).map Zbb).length=t*1:=by rw[z's,z'F];omega
  have z2:(u.regs.take (t+1)).map Zbb=(u.regs.take t).map Zbb++[z'C (List.replicate k 0)]:=by
   rw[y'A,hn]
   simp[Zbb]
  repeat' first|refine VCg.stepS T rfl rfl (Zfe rfl rfl rfl (by omega)) ?_|refine dr (id:=8) T 5 (by kernel_rfl) ?_|refine gn ?_|apply VCg.step T rfl rfl;focus((try simp (disch:=omega) only[go_sem,Nat.reduceBEq,Nat.reduceMul,Nat.reduceLeDiff]);(exact rfl))|refine vs T rfl fun K hK=>?_;(try simp (disch:=omega) only[go_sem,Nat.reduceBEq,Nat.reduceAdd,Nat.reduceLeDiff,hd,hw,rn,z'k]);(first|refine hK _ _ ?_;clear hK K|refine⟨_,_,_,_,(by repeat (first|exact Sp.here|apply Sp.cons)),?_,(by exact⟨rfl,rfl⟩),⟨by decide,?_⟩,fun g' hg'=>hK _ _ ?_⟩<;>clear hK K|refine⟨?_,hK _ _ ?_⟩<;>clear hK K;focus(try omega))|refine st rfl ?_|refine sc rfl ?_|refine nl ?_
  all_goals first|exact hc2|omega|skip
  refine⟨⟨(t+1,g'),by dsimp only;omega,hg'⟩,z'v ?_ ?_,by dsimp only;omega⟩
  ·dsimp only
   rw[z2]
  ·simp[sub,upd]
 ·have hd:decide ((t:Int)<(u.regs.length:Int))=false:=by simp;omega
  obtain rfl:t=u.regs.length:=by omega
  rw[z'X]
  repeat' first|refine vs T rfl fun K hK=>?_;(try simp (disch:=omega) only[go_sem,Nat.reduceBEq,Nat.reduceAdd,Nat.reduceLeDiff,hd]);(refine hK _ _ ?_;clear hK K)|refine st rfl ?_|refine sc rfl ?_|refine nl ?_
  refine x'g T rfl (by(try simp (disch:=omega) only[hget_ne,hget_eq]);rfl) rfl rfl rfl (z'p _) ?_
  refine⟨_,rfl,z't ⟨_,rfl,?_⟩ (FzL.refl _ _)⟩
  refine z't (Fz.refl _ _) (z't ?_ (FzL.refl _ _))
  exact v'G (e:=22) (l:=u.regs.map Zbb) (by rw[y'm];simp[x'l]) hg (fun b cap hb=>z'd _ (z'd _ (by rw[hb];exact x'x))) (ZeY u.regs)
def goF (u:Un) (m r:Int):Cf→List Int→Nat→Cf×Nat×Int
 |c,[],k=>(c,k,0)
 |c,a::p,k=>match enM u c m r a with
  |true=>goF u m r (actM u c m r a) p (k+1)
  |false=>(c,k,16)
def Zb3 (m r:Int):Bool:=decide (1≤m)&&decide (m≤3)&&(decide (1≤r)&&decide (r≤4))
def x'5 (u:Un) (m r:Int) (p:List Int):Cf×Nat×Int:=match y't u,Zb3 m r with
 |false,_=>(cf0,0,8)
 |true,false=>(cf0,0,1)
 |true,true=>goF u m r (x'l u) p 0
abbrev Zqp (x:Cf×Nat×Int):D:= .tup [.agg (cfC x.1),iD (x.2.1:Nat),iD x.2.2]
theorem ZnL {u:Un} {m r:Int} {c:Cf} {p:List Int} {k:Nat} {a:Int} (h:p[k]?=some a) (he:enM u c m r a=true):goF u m r c (p.drop k) k=goF u m r (actM u c m r a) (p.drop (k+1)) (k+1):=by
 obtain⟨hk,rfl⟩:=z'c.1 h
 rw[y'0 hk]
 simp only[goF,he]
theorem Zpf {u:Un} {m r:Int} {c:Cf} {p:List Int} {k:Nat} {a:Int} (h:p[k]?=some a) (he:enM u c m r a=false):goF u m r c (p.drop k) k=(c,k,16):=by
 obtain⟨hk,rfl⟩:=z'c.1 h
 rw[y'0 hk]
 simp only[goF,he]
theorem ZnK {u:Un} {m r:Int} {c:Cf} {p:List Int} {k:Nat} (h:k=p.length):goF u m r c (p.drop k) k=(c,k,0):=by
 rw[h,List.drop_length]
 rfl
theorem Zc9 {H:Heap} {a b:D}:Fz H (.tup [.agg (cfC cf0),a,b]) (.tup [.agg [.gs none 0,.gs none 0,.gs none 0,.gs none 0],a,b]):=
 ⟨_,rfl,z't ⟨_,rfl,z't y'q (z't y'q (z't y'q (z't y'q x'T)))⟩ (FzL.refl _ _)⟩
theorem Zn4 {m r:Int} (h:m<1∨m>3∨r<1∨r>4):Zb3 m r=false:=by
 cases hk:Zb3 m r with
 |false=>rfl
 |true=>simp only[Zb3,z'i,decide_eq_true_eq]at hk;omega
theorem Zlk (u:Un) (hu:OkU u) (m r:Int) (p:List Int) (hp:p.length≤1000000):Pure Tryz.prog 55 [.agg (unC u),iD m,iD r,z'C p] (Zqp (x'5 u m r p)):=by
 have cs:=Zkw u hu
 refine Fun.fz ?_
 refine Fun.of T [.cell 8 51,.tmp 9,.tmp 10] Tryz.func55 rfl Tryz.ntmps55 Tryz.results55 rfl (by kernel_rfl) ?_
 cases hU:y't u with
 |false=>
  have cs:Pure Tryz.prog 92 [.agg (unC u)] (.tup [.agg (cfC cf0),iD 8]):=by rwa [show v'1 u=cf0 by simp[v'1,hU],show v'2 u=8 by simp[v'2,hU]]at cs
  rw[show x'5 u m r p=(cf0,0,8) by simp[x'5,hU]]
  repeat' first|refine vb (t:=25) rfl rfl rfl rfl ?_|refine vs T rfl fun K hK=>?_;(try simp (disch:=omega) only[go_sem,Nat.reduceBEq,Nat.reduceAdd,Nat.reduceLeDiff]);(first|refine hK _ _ ?_;clear hK K|intro bq hbq;(try simp only[HB]at hbq);refine hK _ _ ?_;clear hK K|refine Op1.callp rfl rfl (cs) rfl ?_;refine hK _ _ ?_;clear hK K)|refine st rfl ?_|refine sc rfl ?_|refine nl ?_
  rename_i b8 hb8
  have n1: ¬bq=b8:=hbq
  exact ZbE T rfl (by(try simp (disch:=omega) only[hget_ne,hget_eq]);rfl) rfl rfl rfl (z'a _) Zc9
 |true=>
 have cs:Pure Tryz.prog 92 [.agg (unC u)] (.tup [.agg (cfC (x'l u)),iD 0]):=by rwa [show v'1 u=x'l u by simp[v'1,hU],show v'2 u=0 by simp[v'2,hU]]at cs
 have bad:(m<1∨m>3∨r<1∨r>4)→x'5 u m r p=(cf0,0,1):=fun h=>by simp[x'5,hU,Zn4 h]
 by_cases h1:m<1
 ·have e1:decide (m<1)=true:=by simpa using h1
  rw[bad (by omega)]
  repeat' first|refine vb (t:=25) rfl rfl rfl rfl ?_|refine vs T rfl fun K hK=>?_;(try simp (disch:=omega) only[go_sem,Nat.reduceBEq,Nat.reduceAdd,Nat.reduceLeDiff,e1]);(first|refine hK _ _ ?_;clear hK K|intro bq hbq;(try simp only[HB]at hbq);refine hK _ _ ?_;clear hK K|refine Op1.callp rfl rfl (cs) rfl ?_;refine hK _ _ ?_;clear hK K)|refine st rfl ?_|refine sc rfl ?_|refine nl ?_|refine gs rfl rfl ?_
  rename_i b8 hb8
  have n1: ¬bq=b8:=hbq
  exact ZbE T rfl (by(try simp (disch:=omega) only[hget_ne,hget_eq]);rfl) rfl rfl rfl (z'a _) Zc9
 have e1:decide (m<1)=false:=by simpa using h1
 by_cases h2:m>3
 ·have e2:decide (m>3)=true:=by simpa using h2
  rw[bad (by omega)]
  repeat' first|refine vb (t:=25) rfl rfl rfl rfl ?_|refine vs T rfl fun K hK=>?_;(try simp (disch:=omega) only[go_sem,Nat.reduceBEq,Nat.reduceAdd,Nat.reduceLeDiff,e1,e2]);(first|refine hK _ _ ?_;clear hK K|intro bq hbq;(try simp only[HB]at hbq);refine hK _ _ ?_;clear hK K|refine Op1.callp rfl rfl (cs) rfl ?_;refine hK _ _ ?_;clear hK K)|refine st rfl ?_|refine sc rfl ?_|refine nl ?_|refine gs rfl rfl ?_
  rename_i b8 hb8
  have n1: ¬bq=b8:=hbq
  exact ZbE T rfl (by(try simp (disch:=omega) only[hget_ne,hget_eq]);rfl) rfl rfl rfl (z'a _) Zc9
 have e2:decide (m>3)=false:=by simpa using h2
 by_cases h3:r<1
 ·have e3:decide (r<1)=true:=by simpa using h3
  rw[bad (by omega)]
  repeat' first|refine vb (t:=25) rfl rfl rfl rfl ?_|refine vs T rfl fun K hK=>?_;(try simp (disch:=omega) only[go_sem,Nat.reduceBEq,Nat.reduceAdd,Nat.reduceLeDiff,e1,e2,e3]);(first|refine hK _ _ ?_;clear hK K|intro bq hbq;(try simp only[HB]at hbq);refine hK _ _ ?_;clear hK K|refine Op1.callp rfl rfl (cs) rfl ?_;refine hK _ _ ?_;clear hK K)|refine st rfl ?_|refine sc rfl ?_|refine nl ?_|refine gs rfl rfl ?_
  rename_i b8 hb8
  have n1: ¬bq=b8:=hbq
  exact ZbE T rfl (by(try simp (disch:=omega) only[hget_ne,hget_eq]);rfl) rfl rfl rfl (z'a _) Zc9
 have e3:decide (r<1)=false:=by simpa using h3
 by_cases h4:r>4
 ·have e4:decide (r>4)=true:=by simpa using h4
  rw[bad (by omega)]
  repeat' first|refine vb (t:=25) rfl rfl rfl rfl ?_|refine vs T rfl fun K hK=>?_;(try simp (disch:=omega) only[go_sem,Nat.reduceBEq,Nat.reduceAdd,Nat.reduceLeDiff,e1,e2,e3,e4]);(first|refine hK _ _ ?_;clear hK K|intro bq hbq;(try simp only[HB]at hbq);refine hK _ _ ?_;clear hK K|refine Op1.callp rfl rfl (cs) rfl ?_;refine hK _ _ ?_;clear hK K)|refine st rfl ?_|refine sc rfl ?_|refine nl ?_|refine gs rfl rfl ?_
  rename_i b8 hb8
  have n1: ¬bq=b8:=hbq
  exact ZbE T rfl (by(try simp (disch:=omega) only[hget_ne,hget_eq]);rfl) rfl rfl rfl (z'a _) Zc9
 have e4:decide (r>4)=false:=by simpa using h4
 have hok:Zb3 m r=true:=by simp only[Zb3,z'i,decide_eq_true_eq];omega
 rw[show x'5 u m r p=goF u m r (x'l u) (p.drop 0) 0 by simp[x'5,hU,hok]]
 have h0:=ZbP hu hU (m:=m) (r:=r) (by omega) (by omega)
 generalize x'l u=s0 at*
 repeat' first|refine vb (t:=25) rfl rfl rfl rfl ?_|refine vs T rfl fun K hK=>?_;(try simp (disch:=omega) only[go_sem,Nat.reduceBEq,Nat.reduceAdd,Nat.reduceLeDiff,e1,e2,e3,e4,z'k]);(first|refine hK _ _ ?_;clear hK K|intro bq hbq;(try simp only[HB]at hbq);refine hK _ _ ?_;clear hK K|refine Op1.callp rfl rfl (cs) rfl ?_;refine hK _ _ ?_;clear hK K)|refine st rfl ?_|refine sc rfl ?_|refine nl ?_|refine gs rfl rfl ?_
 rename_i b8 hb8
 have n1: ¬bq=b8:=hbq
 clear bad cs hb8 hbq
 refine VC.loop {x:Nat×Cf//x.1≤p.length∧goF u m r s0 (p.drop 0) 0=goF u m r x.2 (p.drop x.1) x.1∧Rt u x.2 m r} (fun x=>⟨z'J [(1,iD m),(2,iD r),(3,z'C p),(4,.pt (unC u)),(8,pD b8),(11,pD bq),(42,z'C p),(43,iD (p.length:Nat)),(44,iD (x.1.1:Nat))],[(bq,.cells 51 4 (cfC x.1.2)),(b8,.cells 51 4 [.gs none 0,.gs none 0,.gs none 0,.gs none 0])]⟩) (fun x=>p.length-x.1.1) ⟨(0,s0),by dsimp only;omega,rfl,h0⟩ ?_ ?_
 ·refine Weak.sub ?_
  simp[sub,upd]
 rintro⟨⟨k,c⟩,hk,hg,h⟩
 dsimp only at hk hg h⊢
 rw[hg]
 rcases z'g k p.length with hlt|hge
 case inr=>
  have hd:decide ((k:Int)<(p.length:Int))=false:=by simp;omega
  have hkp:k=p.length:=by omega
  rw[ZnK hkp,hkp]
  rw[hkp]at hd
  repeat' first|refine vs T rfl fun K hK=>?_;(try simp (disch:=omega) only[go_sem,Nat.reduceBEq,Nat.reduceAdd,Nat.reduceLeDiff,hd,z'k]);(refine hK _ _ ?_;clear hK K)|refine st rfl ?_|refine sc rfl ?_|refine nl ?_
  exact ZbE T rfl (by(try simp (disch:=omega) only[hget_ne,hget_eq]);rfl) rfl rfl rfl (z'a _) (Fz.refl _ _)
 have hd:decide ((k:Int)<(p.length:Int))=true:=by simp;omega
 have hw:IntKind.i64.wrap ((k:Int)+1)=((k+1:Nat):Int):=by rw[w64 (by omega)];omega
 obtain⟨a,ha⟩: ∃a,p[k]?=some a:=⟨_,z'b hlt⟩
 have ra:(iRs p)[k]?=some [iD a]:=by rw[y'Q,ha];rfl
 have ca:=ZiJ h a
 have hA:=h.actM a
 cases hE:enM u c m r a with
 |false=>
  rw[hE]at ca
  rw[Zpf ha hE]
  repeat' first|refine vs T rfl fun K hK=>?_;(try simp (disch:=omega) only[go_sem,Nat.reduceBEq,Nat.reduceAdd,Nat.reduceLeDiff,hd,ra,z'k,z'r]);(first|refine hK _ _ ?_;clear hK K|intro bq hbq;(try simp only[HB]at hbq);refine hK _ _ ?_;clear hK K|refine⟨?_,hK _ _ ?_⟩<;>clear hK K;focus(try omega)|refine Op1.callp rfl rfl (ca) rfl ?_;refine hK _ _ ?_;clear hK K)|refine st rfl ?_|refine sc rfl ?_|refine nl ?_
  have n2: ¬bq=b8:=by simp_all
  exact ZbE T rfl (by(try simp (disch:=omega) only[hget_ne,hget_eq]);rfl) rfl rfl rfl (z'a _) (Fz.refl _ _)
 |true=>
  rw[hE]at ca
  rw[←hg]
  have hg2:=hg.trans (ZnL ha hE)
  generalize actM u c m r a=d at*
  repeat' first|refine vs T rfl fun K hK=>?_;(try simp (disch:=omega) only[go_sem,Nat.reduceBEq,Nat.reduceAdd,Nat.reduceLeDiff,hd,hw,ra,z'k,z'l]);(first|refine hK _ _ ?_;clear hK K|intro bq hbq;(try simp only[HB]at hbq);refine hK _ _ ?_;clear hK K|refine⟨?_,hK _ _ ?_⟩<;>clear hK K;focus(try omega)|refine Op1.callp rfl rfl (ca) rfl ?_;refine hK _ _ ?_;clear hK K)|refine st rfl ?_|refine sc rfl ?_|refine nl ?_
  refine⟨⟨(k+1,d),by dsimp only;omega,hg2,hA⟩,Weak.subH (z'5 _ _) ?_,by dsimp only;omega⟩
  simp[sub,upd]
abbrev ruC (u:Un) (m r:Int) (c:Cf):List D:=
 [iD u.md,z'C u.init,z'C u.regs,.sl false 1 (x'9 u.code),iD m,iD r,z'C c.pc,.sl false 1 (y'V c.regs),z'C c.mem,.sl false 1 (y'Y c.bufs)]
abbrev rW (b:Nat) (u:Un) (m r:Int) (c:Cf):Heap:=[(b,.cells 83 10 (ruC u m r c))]
theorem Zce (u:Un) (hu:OkU u) (m r:Int) (p:List Int) (hp:p.length≤1000000):Fun Tryz.prog 30 [.agg (unC u),iD m,iD r,z'C p] [] false
  (fun d H'=> ∃b:Nat,True∧d= .tup [pD b,bD ((x'5 u m r p).2.2 == 0)]∧H'=rW b u m r (x'5 u m r p).1):=by
 have c1:=Zlk u hu m r p hp
 generalize x'5 u m r p=x at*
 obtain⟨c,k,e⟩:=x
 dsimp only at c1⊢
 refine Fun.of T [.tmp 8,.tmp 9] Tryz.func30 rfl Tryz.ntmps30 Tryz.results30 rfl (by kernel_rfl) ?_
 repeat' first|refine vb (t:=25) rfl rfl rfl rfl ?_|refine vs T rfl fun K hK=>?_;(try simp (disch:=omega) only[go_sem,Nat.reduceBEq,Nat.reduceAdd,Nat.reduceLeDiff]);(first|refine hK _ _ ?_;clear hK K|intro bq hbq;(try simp only[HB]at hbq);refine hK _ _ ?_;clear hK K|refine Op1.callp rfl rfl (c1) rfl ?_;refine hK _ _ ?_;clear hK K)|refine st rfl ?_|refine nl ?_
 rename_i b0 hb0
 exact y'9 T (List.Sublist.cons_cons _ (z'a _)) ⟨bq,trivial,rfl,rfl⟩
section
variable {u : Un} {c : Cf} {m r : Int} (b : Nat)
theorem ZmW (h:Rt u c m r) (a:Int):Fun Tryz.prog 58 [pD b,iD a] (rW b u m r c) false (fun d H'=>d=bD (enM u c m r a)∧H'=rW b u m r c):=by
 have c1:=Zo8 h a
 refine Fun.of T [.tmp 4] Tryz.func58 rfl Tryz.ntmps58 Tryz.results58 rfl (by kernel_rfl) ?_
 repeat' first|refine dr (id:=1) T 17 (by kernel_rfl) ?_|refine gn ?_|apply VCg.step T rfl rfl;focus((try simp (disch:=omega) only[go_sem,Nat.reduceBEq,Nat.reduceAdd,Nat.reduceLeDiff]);(exact rfl))|refine vs T rfl fun K hK=>?_;(try simp (disch:=omega) only[go_sem,Nat.reduceBEq]);(first|refine hK _ _ ?_;clear hK K|refine Op1.callp rfl rfl (c1) rfl ?_;refine hK _ _ ?_;clear hK K)|refine st rfl ?_|refine nl ?_
 exact z'n T (z'p _) ⟨rfl,rfl⟩
theorem ZgZ (h:Rt u c m r) (a:Int):Fun Tryz.prog 37 [pD b,iD a] (rW b u m r c) false (fun d H'=>d=bD (enM u c m r a)∧H'=rW b u m r (actM u c m r a)):=by
 have c1:=ZiJ h a
 generalize actM u c m r a=d at*
 refine Fun.of T [.tmp 4] Tryz.func37 rfl Tryz.ntmps37 Tryz.results37 rfl (by kernel_rfl) ?_
 repeat' first|apply VC.drawM (id:=1) T 23 21 22 (s:=5) (ty:=51) rfl rfl rfl (by kernel_rfl) (by kernel_rfl) (by kernel_rfl) (by kernel_rfl)|refine VCm.nil T ?_;simp only[y'4,WB,Nat.reduceAdd];try(refine fun(bq:Nat) hbq=>?_;(try simp only[HB]at hbq))|apply VCm.step T (by rfl) (by rfl) rfl rfl;focus((try simp (disch:=omega) only[go_sem,Nat.reduceBEq,Nat.reduceAdd,Nat.reduceLeDiff]);(first|exact rfl|refine Op1.callp rfl rfl (c1) rfl ?_;exact⟨rfl,rfl⟩))|apply VCm.alloc T;(case h1=>rfl);(case hg=>rfl);(case hop=>rfl);(case hd=>rfl);(case hk=>rfl);(case hz=>rfl)|apply VCm.store T;(case h1=>rfl);(case h2=>rfl);(case hg=>rfl);(case hd=>rfl);(case hc=>(intro b hb;(try simp (disch:=omega) only[go_sem,Nat.reduceBEq,Nat.reduceAdd,Nat.reduceLeDiff]);exact rfl));(case hz=>(rfl))|refine vs T rfl fun K hK=>?_;(try simp (disch:=omega) only[go_sem,Nat.reduceBEq,Nat.reduceAdd,Nat.reduceLeDiff]);(refine hK _ _ ?_;clear hK K)|refine st rfl ?_|refine nl ?_|refine ov ?_
 exact z'n T (z'5 _ _) ⟨rfl,rfl⟩
end
end Go.Proofs.YtfneeacgkdhldaaGreat
/- Calls through method values. No condition. -/
namespace Go.Vc
set_option maxHeartbeats 16000000
set_option linter.unusedSimpArgs false
set_option linter.unusedVariables false
open Go
theorem Op1.enterH {P:Program} {o:Oper} {E:Operand→D} {f:FuncId} {args:List D} {H Hp Hr:Heap} {fr:Bool} {Φ:D→Heap→Prop} {K:D→Heap→Prop} (h:Fun P f args Hp fr Φ) (hp:H.Perm (Hp++Hr))
  (hrun: ∀(w:World) (L:Nat→Prop) (ε:Operand→Value),(∀fn,P.funcs[f]?=some fn→fn.body.isSome=true→(fn.name == "runtime.NumGoroutine")=false→ ∀(xs:Array Value) (w:World),(callFunc f xs).run P w= .ok (.enter f xs) w)→
   (∀y,y∈o.op.operands→Rel w L (E y) (ε y))→ ∃vs:List Value,(execOp ε o).run P w= .ok (.enter f vs.toArray) w∧RelL w L args vs)
  (hk: ∀d H',Φ d H'→K d (H'++Hr)):Op1 P o E H K:=by
 refine Op1.perm hp ?_
 refine⟨fun d H'=> ∃Hp',Φ d Hp'∧H'=Hp'++Hr,?_,fun d H' ⟨Hp',h1,h2⟩=>h2▸hk d Hp' h1⟩
 intro w L0 ε hi hx
 obtain⟨⟨fn,hf,hbody,hname⟩,h⟩:=h
 obtain⟨vs,hr0,hargs⟩:=hrun w _ ε (fun fn hf hb hn xs w=>ZaA hf hb hn xs w) hx
 rw[hr0]
 have hmem: ∀b,b∈(Hp++Hr).blocks↔b∈Hp.blocks∨b∈Hr.blocks:=fun b=>by simp[Heap.blocks]
 let L1:Nat→Prop:=fun b=>L0 b∨b∈Hr.blocks
 have hlt: ∀b,b∈(Hp++Hr).blocks→b<w.heap.size:=fun b hb=>hi.lt hb
 have hnd:Hp.blocks.Nodup∧Hr.blocks.Nodup∧ ∀b,b∈Hp.blocks→b∉Hr.blocks:=by
  have:=hi.nodup
  simp only[Heap.blocks,z'E]at this
  obtain⟨h1,h2,h3⟩:=x'a.1 this
  exact⟨h1,h2,fun b hp hr=>h3 b hp b hr rfl⟩
 have same: ∀b,live Hp L1 b↔live (Hp++Hr) L0 b:=fun b=>by
  simp only[live,L1,hmem]
  constructor
  ·rintro((h|h)|h)
   ·exact .inl h
   ·exact .inr (.inr h)
   ·exact .inr (.inl h)
  ·rintro(h|h|h)
   ·exact .inl (.inl h)
   ·exact .inr h
   ·exact .inl (.inr h)
 have hk1:Keeps w (live (Hp++Hr) L0) w (live Hp L1):=Keeps.less fun b _ hl=>(same b).1 hl
 have hi1:HInv w L1 Hp:=
  {rel:=fun b c hm=>(hi.rel b c (y'B _ hm)).mono hk1 rfl
   nodup:=hnd.1
   apart:=fun b hb hl=>by
    rcases hl with hl|hl
    ·exact hi.apart b ((hmem b).2 (.inl hb)) hl
    ·exact hnd.2.2 b hb hl
   old:=fun b hl=>by
    rcases hl with hl|hl
    ·exact hi.old b hl
    ·exact hlt b ((hmem b).2 (.inr hl))}
 refine(h w L1 _ hi1 (RelL.mono hk1 _ _ hargs)).mono ?_
 rintro e w' ⟨v,rfl,d,Hp',hΦ,hrel,hi',he⟩
 have hmem': ∀b,b∈(Hp'++Hr).blocks↔b∈Hp'.blocks∨b∈Hr.blocks:=fun b=>by simp[Heap.blocks]
 have hevo:Evo w (Hp++Hr) w' (Hp'++Hr):=
  ⟨he.os,he.tape,he.output,he.size,fun b hb hn=>he.block b hb (fun h=>hn ((hmem b).2 (.inl h))),fun b hb=>by
   rcases(hmem' b).1 hb with h|h
   ·exact(he.fresh b h).imp (fun h=>(hmem b).2 (.inl h)) id
   ·exact .inl ((hmem b).2 (.inr h))⟩
 refine⟨v,rfl,d,Hp'++Hr,⟨Hp',hΦ,rfl⟩,?_,?_,hevo⟩
 ·refine Rel.mono (Keeps.less fun b _ hl=>?_) _ _ hrel
  rcases hl with hl|hl
  ·exact .inl (.inl (.inl hl))
  ·rcases(hmem' b).1 hl with hl|hl
   ·exact .inr hl
   ·exact .inl (.inl (.inr hl))
 ·exact
   {rel:=fun b c hm=>by
     rcases y'g.1 hm with hm|hm
     ·refine(hi'.rel b c hm).mono (Keeps.less fun b _ hl=>?_) rfl
      rcases hl with hl|hl
      ·exact .inl (.inl hl)
      ·rcases(hmem' b).1 hl with hl|hl
       ·exact .inr hl
       ·exact .inl (.inr hl)
     ·have hbr:b∈Hr.blocks:=z'y.2 ⟨(b,c),hm,rfl⟩
      exact(hi.rel b c (y'7 _ hm)).mono hevo.keeps (he.block b (hlt b ((hmem b).2 (.inr hbr))) (fun h=>hnd.2.2 b h hbr))
    nodup:=by
     simp only[Heap.blocks,z'E]
     refine x'a.2 ⟨hi'.nodup,hnd.2.1,fun a ha b hb hab=>?_⟩
     subst hab
     rcases he.fresh a ha with h|h
     ·exact hnd.2.2 a h hb
     ·have:=hlt a ((hmem a).2 (.inr hb));omega
    apart:=fun b hb hl=>by
     rcases(hmem' b).1 hb with h|h
     ·exact hi'.apart b h (.inl hl)
     ·exact hi.apart b ((hmem b).2 (.inr h)) hl
    old:=fun b hl=>y'h (hi.old b hl) he.size}
theorem Op1.callB {P:Program} {o:Oper} {E:Operand→D} {f:FuncId} {xf:Operand} {xs:Array Operand} {tys:Array TypeId} {bs:Array Value} {args:List D} {H Hp Hr:Heap} {fr:Bool} {Φ:D→Heap→Prop} {K:D→Heap→Prop}
  (ho:o.op= .call ⟨.value xf,xs,tys⟩) (hE:E xf= .is (.func (.func f) bs #[])) (ha:bs.toList.map D.is++xs.toList.map E=args) (h:Fun P f args Hp fr Φ)
  (hp:H.Perm (Hp++Hr)) (hk: ∀d H',Φ d H'→K d (H'++Hr)):Op1 P o E H K:=by
 subst ha
 have hF:=h.1
 obtain⟨fn,hf,hb,hn⟩:=hF
 refine Op1.enterH h hp (fun w L ε hc hx=>?_) hk
 have hff:ε xf= .func (.func f) bs #[]:=by
  have:=hx xf (by simp[ho,Op.operands,Call.operands])
  rw[hE]at this;exact this
 refine⟨bs.toList++xs.toList.map ε,?_,?_⟩
 ·have e:(bs.toList++xs.toList.map ε).toArray=bs++xs.map ε:=by
   apply Array.ext'
   simp
  rw[e, ←hc fn hf hb hn (bs++xs.map ε) w]
  simp[execOp,ho,resolve,Deferred.ofValue,hff,Go.invoke,go_sem]
 ·refine RelL.append _ _ _ _ (ZeB _ _ _) ?_
  have: ∀l:List Operand,(∀x∈l,x∈xs.toList)→RelL w L (l.map E) (l.map ε):=by
   intro l
   induction l with
   |nil=>intro _;rfl
   |cons x l ih=>
    intro hl
    refine⟨ε x,l.map ε,rfl,hx x ?_,ih fun y hy=>hl y (z'd _ hy)⟩
    have:=hl x (z'D ..)
    simp only[ho,Op.operands,Call.operands]
    exact Array.mem_append.2 (.inr (x'7.1 this))
  exact this _ fun _ h=>h
theorem Zle {P:Program} {o:Oper} {E:Operand→D} {H:Heap} {K:D→Heap→Prop} {fn:Fn} {c:Operand} {u:Value} (ho:o.op= .makeFunc fn #[c] #[]) (hc:E c= .is u)
  (hk:K (.is (.func fn #[u] #[])) H):Op1 P o E H K:=by
 refine Op1.value (d:= .is (.func fn #[u] #[])) (fun w L0 ε hi hx=>⟨.func fn #[u] #[],?_,rfl⟩) hk
 have h1:=hx c (by simp[ho,Op.operands])
 rw[hc]at h1
 have h1':ε c=u:=h1
 simp only[execOp,ho,Instr.makeFunc]
 have e2:Array.map ε #[c]= #[u]:=by simp[h1']
 have e3:Array.map ε #[]= #[]:=by simp
 rw[e2,e3]
 rfl
end Go.Vc
/- Contracts: what is seen on a circle. No condition. -/
namespace Go.Proofs.YtfneeacgkdhldaaGreat
set_option maxHeartbeats 16000000
set_option linter.unusedSimpArgs false
set_option linter.unusedVariables false
set_option maxRecDepth 20000
open Go Go.Proofs Go.Vc
attribute [local irreducible] y'5 VCg VCw VCx
def v'n (en:Nat→Bool) (on:List Int) (k:Nat):List Int:=on.mapIdx fun a n=>match decide (a<k),en a with|true,true=>n+1|_,_=>n
theorem v'J (en:Nat→Bool) (on:List Int) (k:Nat):(v'n en on k).length=on.length:=List.length_mapIdx
theorem ZjY (en:Nat→Bool) (on:List Int):v'n en on 0=on:=by
 apply List.ext_getElem (v'J _ _ _)
 intro i h1 h2
 simp[v'n]
theorem Zmj (en:Nat→Bool) {on:List Int} {k:Nat} {n:Int} (h:on[k]?=some n):(v'n en on k)[k]?=some n:=by
 simp[v'n,h]
theorem Zmk {en:Nat→Bool} {on:List Int} {k:Nat} (h:en k=false):v'n en on (k+1)=v'n en on k:=by
 apply List.ext_getElem (by rw[v'J,v'J])
 intro i h1 h2
 simp only[v'n,List.getElem_mapIdx]
 by_cases e:i=k
 ·subst e;simp[h]
 ·rw[show decide (i<k+1)=decide (i<k) by rw[decide_eq_decide];omega]
theorem Zk2 {en:Nat→Bool} {on:List Int} {k:Nat} {n:Int} (hn:on[k]?=some n) (h:en k=true):v'n en on (k+1)=(v'n en on k).set k (n+1):=by
 obtain⟨hk,rfl⟩:=z'c.1 hn
 apply List.ext_getElem (by rw[y'U,v'J,v'J])
 intro i h1 h2
 rw[List.getElem_set]
 simp only[v'n,List.getElem_mapIdx]
 by_cases e:k=i
 ·subst e;simp[h]
 ·rw[if_neg e,show decide (i<k+1)=decide (i<k) by rw[decide_eq_decide];omega]
abbrev seW (bs:Nat) (go ga:G) (on ac:List Int) (H:Heap):Heap:=(bs,.cells 108 2 [.gs go on.length,.gs ga ac.length])::shp go 3 1 (on.map iD) (shp ga 3 1 (ac.map iD) H)
abbrev enV (br:Nat):Value:= .func (.func 58) #[.pointer (some ⟨br,0,none⟩)] #[]
theorem ZnZ {u:Un} {c:Cf} {m r:Int} (h:Rt u c m r) (bs br:Nat) (go ga:G) (on ac:List Int) (hgo:gOk go on.length) (hon:on.length≤1000) (hn: ∀n,n∈on→0≤n∧n≤1000000):
  Fun Tryz.prog 57 [pD bs,.is (enV br)] (seW bs go ga on ac (rW br u m r c)) false (fun d H'=>d= .tup []∧H'=seW bs go ga (v'n (fun a=>enM u c m r (a:Nat)) on on.length) ac (rW br u m r c)):=by
 refine Fun.of T [] Tryz.func57 rfl Tryz.ntmps57 Tryz.results57 rfl (by kernel_rfl) ?_
 rcases go with _|⟨bo,co⟩
 ·have h0:on.length=0:=hgo
  have h1:on=[]:=List.length_eq_zero_iff.1 h0
  subst h1
  have hd:decide ((0:Int)<0)=false:=rfl
  show VC _ _ _ ⟨_,(bs,.cells 108 2 [.gs none 0,.gs ga ac.length])::shp ga 3 1 (ac.map iD) (rW br u m r c)⟩ _
  repeat' first|refine vs T rfl fun K hK=>?_;(try simp (disch:=omega) only[go_sem,Nat.reduceBEq]);(refine hK _ _ ?_;clear hK K)|refine st rfl ?_|refine nl ?_
  refine VC.loop Unit (fun _=>⟨z'J [(9,iD 0),(10,iD 0)],(bs,.cells 108 2 [.gs none 0,.gs ga ac.length])::shp ga 3 1 (ac.map iD) (rW br u m r c)⟩) (fun _=>0) () ?_ ?_
  ·refine Weak.sub ?_
   simp[sub,upd]
  intro _
  repeat' first|refine vs T rfl fun K hK=>?_;(try simp (disch:=omega) only[go_sem,Nat.reduceBEq,hd]);(refine hK _ _ ?_;clear hK K)|refine st rfl ?_|refine sc rfl ?_|refine nl ?_
  exact ZaP T rfl (z'p _) ⟨rfl,rfl⟩
 refine VC.nodup fun hnd=>?_
 have n1: ¬bs=bo:=fun h=>by subst h;simp[Heap.blocks,z'1]at hnd
 show VC _ _ _ ⟨_,(bs,.cells 108 2 [.gs (some (bo,co)) on.length,.gs ga ac.length])::(bo,.cells 3 (co*1) (on.map iD))::shp ga 3 1 (ac.map iD) (rW br u m r c)⟩ _
 repeat' first|refine vs T rfl fun K hK=>?_;(try simp (disch:=omega) only[go_sem,Nat.reduceBEq]);(refine hK _ _ ?_;clear hK K)|refine st rfl ?_|refine nl ?_
 refine VC.loop {k:Nat//k≤on.length} (fun p=>⟨z'J [(0,pD bs),(1,.is (enV br)),(8,.gs (some (bo,co)) on.length),(9,iD (on.length:Nat)),(10,iD (p.1:Nat))],(bs,.cells 108 2 [.gs (some (bo,co)) on.length,.gs ga ac.length])::(bo,.cells 3 (co*1) ((v'n (fun a=>enM u c m r (a:Nat)) on p.1).map iD))::shp ga 3 1 (ac.map iD) (rW br u m r c)⟩) (fun p=>on.length-p.1) ⟨0,by omega⟩ ?_ ?_
 ·rw[ZjY]
  refine Weak.sub ?_
  simp[sub,upd]
 rintro⟨k,hk⟩
 dsimp only
 have hlen:=v'J (fun a=>enM u c m r (a:Nat)) on k
 rcases z'g k on.length with hlt|hge
 case inr=>
  obtain rfl:k=on.length:=by omega
  have hd:decide ((on.length:Int)<(on.length:Int))=false:=by simp
  repeat' first|refine vs T rfl fun K hK=>?_;(try simp (disch:=omega) only[go_sem,Nat.reduceBEq,hd]);(refine hK _ _ ?_;clear hK K)|refine st rfl ?_|refine sc rfl ?_|refine nl ?_
  exact ZaP T rfl (z'p _) ⟨rfl,by simp only[seW,v'J,z'1]⟩
 have hd:decide ((k:Int)<(on.length:Int))=true:=by simp;omega
 have hw:IntKind.i64.wrap ((k:Int)+1)=((k+1:Nat):Int):=by rw[w64 (by omega)];omega
 obtain⟨n,hkn⟩: ∃n,on[k]?=some n:=⟨_,z'b hlt⟩
 have hn0:=hn n (z'h hkn)
 have hw2:IntKind.i64.wrap (n+1)=n+1:=w64 (by omega)
 have hL:=Zmj (fun a=>enM u c m r (a:Nat)) hkn
 have hL1:(v'n (fun a=>enM u c m r (a:Nat)) on k)[k*1]?=some n:=by rw[z'u];exact hL
 repeat' first|refine vs T rfl fun K hK=>?_;(try simp (disch:=omega) only[go_sem,Nat.reduceBEq,hd]);(first|refine hK _ _ ?_;clear hK K|skip)|refine st rfl ?_|refine sc rfl ?_|refine nl ?_
 refine Op1.callB (Hp:=rW br u m r c) (Hr:=(bs,.cells 108 2 [.gs (some (bo,co)) on.length,.gs ga ac.length])::(bo,.cells 3 (co*1) ((v'n (fun a=>enM u c m r (a:Nat)) on k).map iD))::shp ga 3 1 (ac.map iD) []) rfl rfl rfl (ZmW br h (k:Nat)) (y'b fun a=>by simp only[y'f,z'V,z'6,y'a];omega) (fun d' H' hd'=>?_)
 obtain⟨rfl,rfl⟩:=hd'
 refine hK _ _ ?_
 clear hK K
 try simp only[updO]
 refine vo ?_
 refine VCo.weak (Weak.perm (H':=(bs,.cells 108 2 [.gs (some (bo,co)) on.length,.gs ga ac.length])::(bo,.cells 3 (co*1) ((v'n (fun a=>enM u c m r (a:Nat)) on k).map iD))::shp ga 3 1 (ac.map iD) (rW br u m r c)) (y'b fun a=>by simp only[y'f,z'V,z'6,y'a];omega)) ?_
 cases hE:enM u c m r (k:Nat)with
 |false=>
  repeat' first|refine vs T rfl fun K hK=>?_;(try simp (disch:=omega) only[go_sem,Nat.reduceBEq,hw]);(refine hK _ _ ?_;clear hK K)|refine st rfl ?_|refine sc rfl ?_|refine nl ?_|refine ov ?_
  refine⟨⟨k+1,by omega⟩,?_,by dsimp only;omega⟩
  dsimp only
  rw[Zmk (en:=fun a=>enM u c m r (a:Nat)) hE]
  refine Weak.sub ?_
  simp[sub,upd]
 |true=>
  repeat' first|refine vs T rfl fun K hK=>?_;(try simp (disch:=omega) only[go_sem,Nat.reduceBEq,hw,hw2,hL1,hlen]);(first|refine hK _ _ ?_;clear hK K|refine⟨?_,hK _ _ ?_⟩<;>clear hK K;focus(try omega))|refine st rfl ?_|refine sc rfl ?_|refine nl ?_|refine ov ?_
  refine⟨⟨k+1,by omega⟩,?_,by dsimp only;omega⟩
  dsimp only
  rw[Zk2 (en:=fun a=>enM u c m r (a:Nat)) hkn hE]
  refine Weak.trans (Weak.perm (H':=(bs,.cells 108 2 [.gs (some (bo,co)) on.length,.gs ga ac.length])::(bo,.cells 3 (co*1) (((v'n (fun a=>enM u c m r (a:Nat)) on k).set k (n+1)).map iD))::shp ga 3 1 (ac.map iD) (rW br u m r c)) (y'b fun a=>by simp only[y'n,z'u,y'f,z'V,z'6,y'a])) (Weak.sub ?_)
  simp[sub,upd]
def ZaM (mode stops:Int) (on ac:List Int) (a:Nat):Bool:=(ac.getD a 0 == 0)&&(((mode == 1)&&(on.getD a 0 == stops))||((mode == 2)&&decide (on.getD a 0>0)))
def Zc1 (mode stops:Int) (on ac:List Int):Int:=match (List.range on.length).find? (ZaM mode stops on ac)with|some a=>(a:Nat)|none=> -1
theorem ZoN {mode stops:Int} {on ac:List Int} {k:Nat} (hk:k<on.length) (h:ZaM mode stops on ac k=true) (hs: ∀i,i<k→ZaM mode stops on ac i=false):Zc1 mode stops on ac=(k:Nat):=by
 have:(List.range on.length).find? (ZaM mode stops on ac)=some k:=by
  rw[List.find?_range_eq_some]
  exact⟨h,z'G.2 hk,fun j hj=>by simp[hs j hj]⟩
 rw[Zc1,this]
theorem Zgs {mode stops:Int} {on ac:List Int} (hs: ∀i,i<on.length→ZaM mode stops on ac i=false):Zc1 mode stops on ac= -1:=by
 have:(List.range on.length).find? (ZaM mode stops on ac)=none:=by
  rw[List.find?_eq_none]
  intro x hx
  simp[hs x (z'G.1 hx)]
 rw[Zc1,this]
theorem Zg4 (bs:Nat) (go ga:G) (on ac:List Int) (hgo:gOk go on.length) (hga:gOk ga ac.length) (hl:ac.length=on.length) (hon:on.length≤1000) (mode stops:Int):
  Fun Tryz.prog 33 [pD bs,iD mode,iD stops] (seW bs go ga on ac []) false (fun d H'=>d=iD (Zc1 mode stops on ac)∧H'=seW bs go ga on ac []):=by
 refine Fun.of T [.tmp 6] Tryz.func33 rfl Tryz.ntmps33 Tryz.results33 rfl (by kernel_rfl) ?_
 rcases y'3 on.length with h0|hpos
 ·have hd:decide ((0:Int)<0)=false:=rfl
  rw[Zgs fun i hi=>by omega]
  rw[show seW bs go ga on ac []=(bs,.cells 108 2 [.gs go on.length,.gs ga ac.length])::shp go 3 1 (on.map iD) (shp ga 3 1 (ac.map iD) []) from rfl,h0]
  repeat' first|refine vs T rfl fun K hK=>?_;(try simp (disch:=omega) only[go_sem,Nat.reduceBEq,Nat.reduceAdd]);(refine hK _ _ ?_;clear hK K)|refine st rfl ?_|refine nl ?_
  refine VC.loop Unit (fun _=>⟨z'J [(15,iD 0),(16,iD 0)],(bs,.cells 108 2 [.gs go 0,.gs ga ac.length])::shp go 3 1 (on.map iD) (shp ga 3 1 (ac.map iD) [])⟩) (fun _=>0) () ?_ ?_
  ·refine Weak.sub ?_
   simp[sub,upd]
  intro _
  repeat' first|refine vs T rfl fun K hK=>?_;(try simp (disch:=omega) only[go_sem,Nat.reduceBEq,hd]);(refine hK _ _ ?_;clear hK K)|refine st rfl ?_|refine sc rfl ?_|refine nl ?_
  exact z'n T (z'p _) ⟨rfl,rfl⟩
 rcases go with _|⟨bo,co⟩
 ·have:on.length=0:=hgo
  omega
 rcases ga with _|⟨ba,ca⟩
 ·have:ac.length=0:=hga
  omega
 refine VC.nodup fun hnd=>?_
 have n1: ¬bs=bo:=fun h=>by subst h;simp[Heap.blocks,z'1]at hnd
 have n2: ¬bs=ba:=fun h=>by subst h;simp[Heap.blocks,z'1]at hnd
 have n3: ¬bo=ba:=fun h=>by subst h;simp[Heap.blocks,z'1]at hnd
 show VC _ _ _ ⟨_,(bs,.cells 108 2 [.gs (some (bo,co)) on.length,.gs (some (ba,ca)) ac.length])::(bo,.cells 3 (co*1) (on.map iD))::(ba,.cells 3 (ca*1) (ac.map iD))::[]⟩ _
 repeat' first|refine vs T rfl fun K hK=>?_;(try simp (disch:=omega) only[go_sem,Nat.reduceBEq,Nat.reduceAdd]);(refine hK _ _ ?_;clear hK K)|refine st rfl ?_|refine nl ?_
 refine VC.loop {k:Nat//k≤on.length∧ ∀i,i<k→ZaM mode stops on ac i=false} (fun p=>⟨z'J [(0,pD bs),(1,iD mode),(2,iD stops),(14,.gs (some (bo,co)) on.length),(15,iD (on.length:Nat)),(16,iD (p.1:Nat))],(bs,.cells 108 2 [.gs (some (bo,co)) on.length,.gs (some (ba,ca)) ac.length])::(bo,.cells 3 (co*1) (on.map iD))::(ba,.cells 3 (ca*1) (ac.map iD))::[]⟩) (fun p=>on.length-p.1) ⟨0,by omega,fun i hi=>by omega⟩ ?_ ?_
 ·refine Weak.sub ?_
  simp[sub,upd]
 rintro⟨k,hk,hs⟩
 dsimp only
 rcases z'g k on.length with hlt|hge
 case inr=>
  have hd:decide ((k:Int)<(on.length:Int))=false:=by simp;omega
  rw[Zgs fun i hi=>hs i (by omega)]
  repeat' first|refine vs T rfl fun K hK=>?_;(try simp (disch:=omega) only[go_sem,Nat.reduceBEq,hd]);(refine hK _ _ ?_;clear hK K)|refine st rfl ?_|refine sc rfl ?_|refine nl ?_
  exact z'n T (z'p _) ⟨rfl,rfl⟩
 have hd:decide ((k:Int)<(on.length:Int))=true:=by simp;omega
 have hw:IntKind.i64.wrap ((k:Int)+1)=((k+1:Nat):Int):=by rw[w64 (by omega)];omega
 obtain⟨n,hn⟩: ∃n,on[k]?=some n:=⟨_,z'b hlt⟩
 obtain⟨a,ha⟩: ∃n,ac[k]?=some n:=⟨_,z'b (by omega)⟩
 have hn1:on[k*1]?=some n:=by rw[z'u];exact hn
 have ha1:ac[k*1]?=some a:=by rw[z'u];exact ha
 have hB:ZaM mode stops on ac k=((a == 0)&&(((mode == 1)&&(n == stops))||((mode == 2)&&decide (n>0)))):=by
  simp[ZaM,z'e,hn,ha]
 have hstop:ZaM mode stops on ac k=true→Zc1 mode stops on ac=(k:Nat):=fun h=>ZoN hlt h hs
 have hgo1:ZaM mode stops on ac k=false→ ∀i,i<k+1→ZaM mode stops on ac i=false:=fun h i hi=>by
  rcases z'g i k with h'|h'
  ·exact hs i h'
  ·obtain rfl:i=k:=by omega
   exact h
 rw[hB]at hstop hgo1
 have hm:((mode == 1)=true∧(mode == 2)=false)∨((mode == 1)=false∧(mode == 2)=true)∨((mode == 1)=false∧(mode == 2)=false):=by
  by_cases q1:mode=1
  ·subst q1;exact .inl ⟨rfl,rfl⟩
  ·by_cases q2:mode=2
   ·subst q2;exact .inr (.inl ⟨rfl,rfl⟩)
   ·exact .inr (.inr ⟨by simpa using q1,by simpa using q2⟩)
 rcases hm with⟨h1,h2⟩|⟨h1,h2⟩|⟨h1,h2⟩
 all_goals rw[h1,h2]at hstop hgo1
 ·cases h5:a == 0
  all_goals cases h3:n == stops
  all_goals rw[h3,h5]at hstop hgo1
  all_goals try rw[hstop rfl]
  all_goals repeat' first|refine vs T rfl fun K hK=>?_;(try simp (disch:=omega) only[go_sem,Nat.reduceBEq,hd,hw,hn1,ha1,hl,h1,h2,h3,h5]);(first|refine hK _ _ ?_;clear hK K|refine⟨?_,hK _ _ ?_⟩<;>clear hK K;focus(try omega))|refine st rfl ?_|refine sc rfl ?_|refine nl ?_|refine gs rfl rfl ?_|refine gu rfl rfl ?_
  rotate_left 3
  ·exact z'n T (z'p _) ⟨rfl,by simp only[seW,hl,z'1]⟩
  all_goals(refine⟨⟨k+1,by omega,hgo1 rfl⟩,z'v (by rw[hl]) ?_,by dsimp only;omega⟩;simp[sub,upd])
 ·cases h5:a == 0
  all_goals cases h4:decide (n>0)
  all_goals rw[h4,h5]at hstop hgo1
  all_goals try rw[hstop rfl]
  all_goals repeat' first|refine vs T rfl fun K hK=>?_;(try simp (disch:=omega) only[go_sem,Nat.reduceBEq,hd,hw,hn1,ha1,hl,h1,h2,h4,h5]);(first|refine hK _ _ ?_;clear hK K|refine⟨?_,hK _ _ ?_⟩<;>clear hK K;focus(try omega))|refine st rfl ?_|refine sc rfl ?_|refine nl ?_|refine gs rfl rfl ?_|refine gu rfl rfl ?_
  rotate_left 3
  ·exact z'n T (z'p _) ⟨rfl,by simp only[seW,hl,z'1]⟩
  all_goals(refine⟨⟨k+1,by omega,hgo1 rfl⟩,z'v (by rw[hl]) ?_,by dsimp only;omega⟩;simp[sub,upd])
 ·cases h5:a == 0
  all_goals rw[h5]at hstop hgo1
  all_goals repeat' first|refine vs T rfl fun K hK=>?_;(try simp (disch:=omega) only[go_sem,Nat.reduceBEq,hd,hw,hn1,ha1,hl,h1,h2,h5]);(first|refine hK _ _ ?_;clear hK K|refine⟨?_,hK _ _ ?_⟩<;>clear hK K;focus(try omega))|refine st rfl ?_|refine sc rfl ?_|refine nl ?_|refine gs rfl rfl ?_|refine gu rfl rfl ?_
  all_goals(refine⟨⟨k+1,by omega,hgo1 rfl⟩,z'v (by rw[hl]) ?_,by dsimp only;omega⟩;simp[sub,upd])
def cyC (u:Un) (m r:Int) (c:Cf) (p:List Int) (k:Nat):Cf:=(p.take k).foldl (fun c a=>actM u c m r a) c
def v'm (u:Un) (m r:Int) (c:Cf) (p:List Int) (k a:Nat):Nat:=(List.range k).countP fun i=>enM u (cyC u m r c p i) m r (a:Nat)
def v'R (u:Un) (m r:Int) (c:Cf) (p:List Int) (k:Nat):Bool:=(List.range k).all fun i=>enM u (cyC u m r c p i) m r (p.getD i 0)
def v'4 (p:List Int) (k a:Nat):Nat:=(p.take k).count (a:Int)
def x'6 (n:Nat) (f:Nat→Nat):List Int:=(List.range n).map fun a=>((f a:Nat):Int)
theorem w'y (n:Nat) (f:Nat→Nat):(x'6 n f).length=n:=by simp[x'6]
theorem Zjp {n a:Nat} (f:Nat→Nat) (h:a<n):(x'6 n f)[a]?=some ((f a:Nat):Int):=by simp[x'6,h]
theorem ZlE (n:Nat):x'6 n (fun _=>0)=List.replicate n 0:=by
 apply List.ext_getElem (by simp[x'6])
 intro i h1 h2
 simp[x'6]
theorem Zj7 {n:Nat} {f g:Nat→Nat} (h: ∀a,a<n→f a=g a):x'6 n f=x'6 n g:=by
 apply List.map_congr_left
 intro a ha
 rw[h a (z'G.1 ha)]
theorem Zl5 (u:Un) (m r:Int) (c:Cf) (p:List Int):cyC u m r c p 0=c:=by simp[cyC]
theorem Zhu {u:Un} {m r:Int} {c:Cf} {p:List Int} {k:Nat} {a:Int} (h:p[k]?=some a):cyC u m r c p (k+1)=actM u (cyC u m r c p k) m r a:=by
 simp[cyC,y'A,h]
theorem ZkB (u:Un) (m r:Int) (c:Cf) (p:List Int):v'm u m r c p 0=fun _=>0:=by funext a;simp[v'm]
theorem ZkA (u:Un) (m r:Int) (c:Cf) (p:List Int) (k a:Nat):v'm u m r c p (k+1) a=v'm u m r c p k a+(enM u (cyC u m r c p k) m r (a:Nat)).toNat:=by
 simp only[v'm,y'l,w'W,List.countP_singleton]
 cases enM u (cyC u m r c p k) m r (a:Nat)<;>rfl
theorem ZnB (u:Un) (m r:Int) (c:Cf) (p:List Int) (k a:Nat):v'm u m r c p k a≤k:=by
 have:=w'w (p:=fun i=>enM u (cyC u m r c p i) m r (a:Nat)) (l:=List.range k)
 rwa [List.length_range]at this
theorem Zky (p:List Int):v'4 p 0=fun _=>0:=by funext a;simp[v'4]
theorem Zkx {p:List Int} {k:Nat} {x:Int} (h:p[k]?=some x) (a:Nat):v'4 p (k+1) a=v'4 p k a+(x == (a:Int)).toNat:=by
 simp only[v'4,y'A,h,Option.toList_some,List.count_append,List.count_singleton]
 cases x == (a:Int)<;>rfl
theorem ZnA (p:List Int) (k a:Nat):v'4 p k a≤k:=by
 have h1:=List.count_le_length (a:=(a:Int)) (l:=p.take k)
 rw[z'F]at h1
 unfold v'4
 omega
theorem Zgz {u:Un} {m r:Int} {c:Cf} {p:List Int} {k:Nat} {a:Int} (h:p[k]?=some a):v'R u m r c p (k+1)=(v'R u m r c p k&&enM u (cyC u m r c p k) m r a):=by
 simp[v'R,y'l,z'e,h]
theorem ZiT {u:Un} {m r:Int} {c:Cf} {p:List Int} {k:Nat} {a:Int} (h:p[k]?=some a) (he:enM u (cyC u m r c p k) m r a=false):v'R u m r c p p.length=false:=by
 obtain⟨hk, -⟩:=z'c.1 h
 cases hc:v'R u m r c p p.length with
 |false=>rfl
 |true=>
  have:=z'I.1 hc k (z'G.2 hk)
  simp[z'e,h,he]at this
theorem Rt.cy {u:Un} {m r:Int} {c:Cf} (h:Rt u c m r) (p:List Int) (k:Nat):Rt u (cyC u m r c p k) m r:=by
 unfold cyC
 generalize p.take k=l
 induction l generalizing c with
 |nil=>exact h
 |cons a l ih=>exact ih (h.actM a)
theorem Zm1 (en:Nat→Bool) (n:Nat) (f:Nat→Nat):v'n en (x'6 n f) (x'6 n f).length=x'6 n (fun a=>f a+(en a).toNat):=by
 apply List.ext_getElem (by rw[v'J,w'y,w'y])
 intro i h1 h2
 rw[v'J,w'y]at h1
 simp only[v'n,x'6,List.getElem_mapIdx,List.getElem_map,List.getElem_range,z's,List.length_range,h1,decide_true]
 cases en i<;>simp
theorem ZoL {n a:Nat} {f g:Nat→Nat} (h1: ∀b,g b=f b+((a:Int) == (b:Int)).toNat):(x'6 n f).set a ((f a:Int)+1)=x'6 n g:=by
 apply List.ext_getElem (by rw[y'U,w'y,w'y])
 intro i h3 h4
 rw[List.getElem_set]
 simp only[x'6,List.getElem_map,List.getElem_range,h1]
 by_cases e:a=i
 ·subst e;simp
 ·have:((a:Int) == (i:Int))=false:=by rw[beq_eq_false_iff_ne];omega
  rw[if_neg e,this];rfl
theorem Zo7 {u:Un} {c:Cf} {m r a:Int} (h:enM u c m r a=true):0≤a∧a.toNat<(y'C u m).length:=by
 unfold enM at h
 cases hO:Zao u m a with
 |none=>rw[hO]at h;cases h
 |some ag=>
  unfold Zao at hO
  split at hO
  ·rename_i h0
   simp only[decide_eq_true_eq]at h0
   exact⟨h0,(z'c.1 hO).1⟩
  ·cases hO
theorem Zmt {o:Oper} {E:Operand→D} {H:Heap} {l c:Operand} {n:Nat} (ho:o.op= .makeSlice 22 l c) (hl:E l=iD (n:Nat)) (hc:E c=iD (n:Nat)) (hn:n≤1000000):
  Op1 Tryz.prog o E H (fun d H'=> ∃Hk,(∃b:Nat,d= .gs (some (b,n)) n∧Hk=[(b,.cells 3 (n*1) ((List.replicate n 0).map iD))])∧H'=Hk++H):=by
 refine ZfO T ho ?_
 rw[hl,hc]
 show cMake (.slice 3 1 8 false [.int .i64 0]) _ _ _ _
 refine⟨⟨by omega,rfl,by rw[z'f];omega,by omega,rfl⟩,fun k hk=>?_⟩
 rw[z'f]
 refine⟨[_],⟨k,rfl,rfl⟩,?_⟩
 have:ZaF n [.int .i64 0]=(List.replicate n (0:Int)).map iD:=by
  show(List.replicate n [iD 0]).flatten=_
  rw[v'z]
  clear hn hl hc
  induction n with
  |zero=>rfl
  |succ n ih=>rw[y'F,z'0,ih,y'F];rfl
 rw[this]
 rfl
theorem Zic {u:Un} {c:Cf} {m r:Int} (h:Rt u c m r) (br:Nat) (p:List Int) (hp:p.length≤500000):
  Fun Tryz.prog 31 [pD br,z'C p] (rW br u m r c) false (fun d H'=>
   (v'R u m r c p p.length=true∧ ∃bs bo ba:Nat,d= .tup [pD bs,bD true]∧
    H'=seW bs (some (bo,(y'C u m).length)) (some (ba,(y'C u m).length)) (x'6 (y'C u m).length (v'm u m r c p p.length)) (x'6 (y'C u m).length (v'4 p p.length)) (rW br u m r (cyC u m r c p p.length)))∨
   (v'R u m r c p p.length=false∧ ∃c',d= .tup [.is (.pointer none),bD false]∧H'=rW br u m r c')):=by
 have c1:=ZjF u h.okU m
 have hN:=v'd u m
 have hz:=ZlE (y'C u m).length
 have hen: ∀{c a},enM u c m r a=true→0≤a∧a.toNat<(y'C u m).length:=fun h=>Zo7 h
 generalize hn:(y'C u m).length=n at*
 refine Fun.of T [.tmp 4,.tmp 5] Tryz.func31 rfl Tryz.ntmps31 Tryz.results31 rfl (by kernel_rfl) ?_
 repeat' first|refine VCg.own T rfl rfl (Zmt rfl rfl rfl (by omega)) ?_|refine dr (id:=1) T 8 (by kernel_rfl) ?_|refine dr (id:=2) T 4 (by kernel_rfl) ?_|refine gn ?_|refine VCg.nil T ?_;simp only[y'4,WB]|apply VCg.step T rfl rfl;focus((try simp (disch:=omega) only[go_sem,Nat.reduceBEq,Nat.reduceAdd,Nat.reduceLeDiff]);(exact rfl))|refine vs T rfl fun K hK=>?_;(try simp (disch:=omega) only[go_sem,Nat.reduceBEq]);(first|refine hK _ _ ?_;clear hK K|refine Op1.callp rfl rfl (c1) rfl ?_;refine hK _ _ ?_;clear hK K)|refine st rfl ?_|refine nl ?_
 rintro d1 H1 ⟨bo,rfl,rfl⟩ n1 d2 H2 ⟨ba,rfl,rfl⟩ n2
 have n3: ¬bo=br:=by simpa[Heap.blocks]using n1
 have n4: ¬ba=bo∧ ¬ba=br:=by simpa[Heap.blocks]using n2
 repeat' first|refine vs T rfl fun K hK=>?_;(try simp (disch:=omega) only[go_sem,Nat.reduceBEq,Nat.reduceAdd]);(first|refine hK _ _ ?_;clear hK K|intro bq hbq;(try simp only[HB]at hbq);refine hK _ _ ?_;clear hK K)|refine st rfl ?_|refine nl ?_
 refine VC.loop {k:Nat//k≤p.length∧v'R u m r c p k=true} (fun x=>⟨z'J [(0,pD br),(7,pD bq),(25,z'C p),(26,iD (p.length:Nat)),(27,iD (x.1:Nat))],seW bq (some (bo,n)) (some (ba,n)) (x'6 n (v'm u m r c p x.1)) (x'6 n (v'4 p x.1)) (rW br u m r (cyC u m r c p x.1))⟩) (fun x=>p.length-x.1) ⟨0,by omega,rfl⟩ ?_ ?_
 ·dsimp only
  rw[ZkB,Zky,Zl5,hz]
  refine Weak.trans (Weak.perm (H':=seW bq (some (bo,n)) (some (ba,n)) (List.replicate n 0) (List.replicate n 0) (rW br u m r c)) (y'b fun a=>by simp only[seW,y'Z,y'f,z'V,z'6,y'a,z'1];omega)) (Weak.sub ?_)
  simp[sub,upd,z'k]
 rintro⟨k,hk,hok⟩
 dsimp only
 have hR:=h.cy p k
 rcases z'g k p.length with hlt|hge
 case inr=>
  have hkp:k=p.length:=by omega
  subst hkp
  have hd:decide ((p.length:Int)<(p.length:Int))=false:=by simp
  repeat' first|refine vs T rfl fun K hK=>?_;(try simp (disch:=omega) only[go_sem,Nat.reduceBEq,hd]);(refine hK _ _ ?_;clear hK K)|refine st rfl ?_|refine sc rfl ?_|refine nl ?_
  exact y'9 T (z'p _) (.inl ⟨hok,bq,bo,ba,rfl,rfl⟩)
 have hd:decide ((k:Int)<(p.length:Int))=true:=by simp;omega
 have hw:IntKind.i64.wrap ((k:Int)+1)=((k+1:Nat):Int):=by rw[w64 (by omega)];omega
 obtain⟨x,hx⟩: ∃x,p[k]?=some x:=⟨_,z'b hlt⟩
 have rx:(iRs p)[k]?=some [iD x]:=by rw[y'Q,hx];rfl
 have hcy:=Zhu (u:=u) (m:=m) (r:=r) (c:=c) hx
 have hoks:=Zgz (u:=u) (m:=m) (r:=r) (c:=c) hx
 have hno:=ZiT (u:=u) (m:=m) (r:=r) (c:=c) hx
 rw[hok,z'W]at hoks
 have hon:=ZkA u m r c p k
 have hac:=Zkx hx
 have hle:=ZnB u m r c p k
 have hla:=ZnA p k
 have hrow:x'6 n (fun a=>v'm u m r c p k a+(enM u (cyC u m r c p k) m r (a:Nat)).toNat)=x'6 n (v'm u m r c p (k+1)):=Zj7 fun a _=>(hon a).symm
 generalize cyC u m r c p k=ck at*
 generalize v'm u m r c p k=fo at*
 generalize v'4 p k=fa at*
 have hlo:=w'y n fo
 have hla1:=w'y n fa
 repeat' first|refine vs T rfl fun K hK=>?_;(try simp (disch:=omega) only[go_sem,Nat.reduceBEq,hd,rx,z'k]);(first|refine hK _ _ ?_;clear hK K|refine⟨?_,hK _ _ ?_⟩<;>clear hK K;focus(try omega)|skip)|refine st rfl ?_|refine sc rfl ?_|refine nl ?_
 refine Zle rfl rfl ?_
 refine hK _ _ ?_
 clear hK K
 try simp only[updO]
 repeat' first|refine vs T rfl fun K hK=>?_;(try simp (disch:=omega) only[go_sem])|fail
 have hb: ∀x,x∈x'6 n fo→0≤x∧x≤1000000:=by
  intro x hx
  obtain⟨a, -,rfl⟩:=z'y.1 hx
  have:=hle a
  omega
 have cl:=ZnZ hR bq br (some (bo,n)) (some (ba,n)) (x'6 n fo) (x'6 n fa) (by rw[hlo];exact z'w _) (by omega) hb
 rw[Zm1,hrow]at cl
 refine Op1.callG (caps:= #[]) (Hr:=[]) rfl rfl rfl cl (by rw[z'x]) (fun d' H' hd'=>?_)
 obtain⟨rfl,rfl⟩:=hd'
 refine hK _ _ ?_
 clear hK K
 try simp only[updO,z'x]
 repeat' first|refine vs T rfl fun K hK=>?_;(try simp (disch:=omega) only[go_sem,Nat.reduceBEq]);(first|refine hK _ _ ?_;clear hK K|skip)|refine st rfl ?_|refine nl ?_
 have ca:=ZgZ br hR x
 refine Op1.callG (caps:= #[]) (Hr:=seW bq (some (bo,n)) (some (ba,n)) (x'6 n (v'm u m r c p (k+1))) (x'6 n fa) []) rfl rfl rfl ca (y'b fun a=>by simp only[seW,y'f,z'V,z'6,y'a,z'1]<;>omega) (fun d' H' hd'=>?_)
 obtain⟨rfl,rfl⟩:=hd'
 refine hK _ _ ?_
 clear hK K
 try simp only[updO]
 rw[←hcy]
 have hcy1:=hcy
 generalize hck1:cyC u m r c p (k+1)=ck1 at hcy
 cases hE:enM u ck m r x with
 |false=>
  repeat' first|refine vs T rfl fun K hK=>?_;(try simp (disch:=omega) only[go_sem,Nat.reduceBEq,z'r]);(refine hK _ _ ?_;clear hK K)|refine st rfl ?_|refine sc rfl ?_|refine nl ?_
  exact y'9 T (List.sublist_append_left _ _) (.inr ⟨hno hE,ck1,rfl,rfl⟩)
 |true=>
  rw[hE]at hoks
  obtain⟨hx0,hxn⟩:=hen hE
  obtain⟨y,rfl⟩: ∃y:Nat,x=(y:Int):=⟨x.toNat,by omega⟩
  rw[z'f]at hxn
  have hs:=ZoL (n:=n) (a:=y) hac
  have ht:=Zjp fa hxn
  have hly:=hla y
  have hw2:IntKind.i64.wrap ((fa y:Int)+1)=(fa y:Int)+1:=w64 (by omega)
  have ht1:(x'6 n fa)[y*1]?=some ((fa y:Nat):Int):=by rw[z'u];exact ht
  have q1: ¬bq=bo:=hbq.2.1
  have q2: ¬bq=ba:=hbq.1
  have q3: ¬bo=ba:=fun h=>n4.1 h.symm
  refine vo ?_
  refine VCo.weak (Weak.perm (H':=(bq,.cells 108 2 [.gs (some (bo,n)) n,.gs (some (ba,n)) n])::(bo,.cells 3 (n*1) ((x'6 n (v'm u m r c p (k+1))).map iD))::(ba,.cells 3 (n*1) ((x'6 n fa).map iD))::rW br u m r ck1) (y'b fun a=>by simp only[seW,w'y,y'f,z'V,z'6,y'a,z'1];omega)) ?_
  repeat' first|refine vs T rfl fun K hK=>?_;(try simp (disch:=omega) only[go_sem,Nat.reduceBEq,hw,hw2,ht1,hla1,z'l]);(first|refine hK _ _ ?_;clear hK K|refine⟨?_,hK _ _ ?_⟩<;>clear hK K;focus(try omega))|refine st rfl ?_|refine sc rfl ?_|refine nl ?_|refine ov ?_
  refine⟨⟨k+1,by omega,hoks⟩,?_,by dsimp only;omega⟩
  dsimp only
  rw[hck1, ←hs]
  refine Weak.trans (Weak.perm (H':=seW bq (some (bo,n)) (some (ba,n)) (x'6 n (v'm u m r c p (k+1))) ((x'6 n fa).set y ((fa y:Int)+1)) (rW br u m r ck1)) (y'b fun a=>by simp only[seW,w'y,y'U,y'n,z'u,y'f,z'V,z'6,y'a,z'1])) (Weak.sub ?_)
  simp[sub,upd]
end Go.Proofs.YtfneeacgkdhldaaGreat
/- Calls of functions that take blocks of one's own, wherever they stand. No condition. -/
namespace Go.Vc
set_option maxHeartbeats 16000000
set_option linter.unusedSimpArgs false
set_option linter.unusedVariables false
open Go
inductive Pick:Heap→Heap→Heap→Prop where
 |nil {H:Heap}:Pick [] H H
 |take {x:Nat×HC} {Hp H Hr:Heap}:Pick Hp H Hr→Pick (x::Hp) (x::H) Hr
 |skip {x:Nat×HC} {Hp H Hr:Heap}:Pick Hp H Hr→Pick Hp (x::H) (x::Hr)
theorem Pick.perm {Hp H Hr:Heap} (h:Pick Hp H Hr):H.Perm (Hp++Hr):=by
 induction h with
 |nil=>exact y'K _
 |take _ ih=>exact List.Perm.cons _ ih
 |skip _ ih=>exact(List.Perm.cons _ ih).trans List.perm_middle.symm
theorem Op1.callV {P:Program} {o:Oper} {E:Operand→D} {f:FuncId} {xf:Operand} {xs:Array Operand} {tys:Array TypeId} {args:List D} {H Hp Hr:Heap} {fr:Bool} {dv:D} {hv:Heap} {K:D→Heap→Prop}
  (ho:o.op= .call ⟨.value xf,xs,tys⟩) (hE:E xf= .is (.func (.func f) #[] #[])) (h:Fun P f args Hp fr (fun d H'=>d=dv∧H'=hv)) (ha:xs.toList.map E=args) (hp:Pick Hp H Hr)
  (hk:K dv (hv++Hr)):Op1 P o E H K:=
 Op1.callG (caps:= #[]) ho hE (by simp only[Array.toList_empty,x'y,z'x];exact ha) h hp.perm (fun d H' ⟨h1,h2⟩=>by subst h1;subst h2;exact hk)
theorem Op1.callX {P:Program} {o:Oper} {E:Operand→D} {f:FuncId} {xf:Operand} {xs:Array Operand} {tys:Array TypeId} {args:List D} {H Hp Hr:Heap} {fr:Bool} {α:Type} {S:α→Prop} {dF:α→D} {hF:α→Heap} {K:D→Heap→Prop}
  (ho:o.op= .call ⟨.value xf,xs,tys⟩) (hE:E xf= .is (.func (.func f) #[] #[])) (h:Fun P f args Hp fr (fun d H'=> ∃x:α,S x∧d=dF x∧H'=hF x)) (ha:xs.toList.map E=args) (hp:Pick Hp H Hr)
  (hk: ∀x,S x→K (dF x) (hF x++Hr)):Op1 P o E H K:=
 Op1.cally ho hE h ha hp.perm hk
theorem VCo.nodup {P:Program} {n:Nat} {ops:Array Oper} {l:List Oper} {s:St} {Q:Exit→St→Prop} (h:s.heap.blocks.Nodup→VCo P n ops l s Q):VCo P n ops l s Q:=fun x a w hn hs=>h hs.inv.nodup x a w hn hs
theorem Fun.lendF {P:Program} {f:FuncId} {args args':List D} {Hp:Heap} {d0:D} (h:Fun P f args [] false (fun d H'=>d=d0∧H'=[])) (ha:FzL Hp args args'):
  Fun P f args' Hp false (fun d H'=>d=d0∧H'=[]):=by
 refine⟨h.1,fun w L0 vs hi hr=>?_⟩
 have hlet:ZeZ w L0 Hp Hp (live [] L0):=⟨hi,fun b c hm=>⟨hm,fun hl=>by
  rcases hl with hl|hl
  ·exact hi.apart b (z'y.2 ⟨_,hm,rfl⟩) hl
  ·cases hl⟩,fun b _ hl=>by
  rcases hl with hl|hl
  ·exact .inl hl
  ·cases hl⟩
 have hi0:HInv w L0 []:=⟨fun b c hm=>(by cases hm),List.nodup_nil,fun b hb=>(by cases hb),hi.old⟩
 refine(h.2 w L0 vs hi0 (RelL.fz hlet _ _ _ ha hr)).mono ?_
 rintro e w' ⟨v,rfl,d,H',⟨rfl,rfl⟩,h3,h4,h5⟩
 refine⟨v,rfl,d,[],⟨rfl,rfl⟩,?_,h4,⟨h5.os,h5.tape,h5.output,h5.size,fun b hb _=>h5.block b hb (by simp[Heap.blocks]),fun b hb=>by simp[Heap.blocks]at hb⟩⟩
 refine Rel.mono (Keeps.less fun b _ hl=>?_) _ _ h3
 rcases hl with(hl|hl)|hl
 ·exact .inl (.inl hl)
 ·cases hl.1
 ·simp[Heap.blocks]at hl
end Go.Vc
/- Contracts: where a path leads, as the reference says. No condition. -/
namespace Go.Proofs.YtfneeacgkdhldaaGreat
set_option maxHeartbeats 16000000
set_option linter.unusedSimpArgs false
set_option linter.unusedVariables false
set_option maxRecDepth 20000
open Go Go.Proofs Go.Vc
attribute [local irreducible] y'5 VCg VCw VCx
theorem Zeh (u:Un) (hu:OkU u):Pure Tryz.prog 19 [.agg (unC u)] (.tup [.agg (cfC (v'1 u)),iD (v'2 u)]):=by
 cases hU:y't u with
 |true=>
  rw[show v'1 u=x'l u by simp[v'1,hU],show v'2 u=0 by simp[v'2,hU]]
  exact ZmZ u hu hU
 |false=>
 have cu:=ZdF u hu
 rw[hU]at cu
 rw[show v'1 u=cf0 by simp[v'1,hU],show v'2 u=8 by simp[v'2,hU]]
 refine Fun.fz ?_
 refine Fun.of T [.cell 2 51,.tmp 3] Tryz.func19 rfl Tryz.ntmps19 Tryz.results19 rfl (by kernel_rfl) ?_
 repeat' first|refine vb (t:=25) rfl rfl rfl rfl ?_|refine vs T rfl fun K hK=>?_;(try simp (disch:=omega) only[go_sem,Nat.reduceBEq,Nat.reduceAdd,Nat.reduceLeDiff,z'r]);(first|refine hK _ _ ?_;clear hK K|intro bq hbq;(try simp only[HB]at hbq);refine hK _ _ ?_;clear hK K|refine Op1.callp rfl rfl (cu) rfl ?_;refine hK _ _ ?_;clear hK K)|refine st rfl ?_|refine sc rfl ?_|refine nl ?_
 exact x'g T rfl hget_eq rfl rfl rfl (z'a _) (ZkK (Fz.refl _ _))
theorem Zfz {α:Type} [DecidableEq α] {l m:List α} {i:Nat} {x y:α} (hx:l[i]?=some x) (hy:m[i]?=some y) (h:x≠y):decide (l=m)=false:=decide_eq_false (Zfd hx hy h)
theorem Zet {α:Type} [DecidableEq α] {l m:List α} (h:l.length≠m.length):decide (l=m)=false:=decide_eq_false fun e=>h (by rw[e])
theorem Zd3 (a b:List Int) (ha:a.length≤1000000) (hb:b.length≤1000000):Pure Tryz.prog 59 [z'C a,z'C b] (bD (decide (a=b))):=by
 refine Fun.of T [.tmp 4] Tryz.func59 rfl Tryz.ntmps59 Tryz.results59 rfl (by kernel_rfl) ?_
 by_cases hl:a.length=b.length
 case neg=>
  have hl':((a.length:Int) != (b.length:Int))=true:=bne_iff_ne.2 (by omega)
  rw[Zet hl]
  repeat' first|refine vs T rfl fun K hK=>?_;(try simp (disch:=omega) only[go_sem,Nat.reduceBEq,z'k,hl']);(refine hK _ _ ?_;clear hK K)|refine st rfl ?_|refine sc rfl ?_|refine nl ?_|exact z'n T (z'a _) ⟨rfl,rfl⟩
 have hl':((a.length:Int) != (b.length:Int))=false:=by simp[hl]
 repeat' first|refine vs T rfl fun K hK=>?_;(try simp (disch:=omega) only[go_sem,Nat.reduceBEq,z'k,hl']);(refine hK _ _ ?_;clear hK K)|refine st rfl ?_|refine sc rfl ?_|refine nl ?_
 refine VC.loop {k:Nat//k≤a.length∧ ∀i,i<k→a[i]?=b[i]?} (fun p=>⟨z'J [(0,z'C a),(1,z'C b),(12,iD (a.length:Nat)),(13,iD (p.1:Nat))],[]⟩) (fun p=>a.length-p.1) ⟨0,by omega,fun i hi=>by omega⟩ ?_ ?_
 ·refine Weak.sub ?_
  simp[sub,upd]
 rintro⟨k,hk,hs⟩
 dsimp only
 rcases z'g k a.length with hlt|hge
 case inr=>
  have hd:decide ((k:Int)<(a.length:Int))=false:=by simp;omega
  rw[decide_eq_true (Zc8 hl fun i hi=>hs i (by omega))]
  repeat' first|refine vs T rfl fun K hK=>?_;(try simp (disch:=omega) only[go_sem,Nat.reduceBEq,hd]);(refine hK _ _ ?_;clear hK K)|refine st rfl ?_|refine sc rfl ?_|refine nl ?_|exact z'n T (z'a _) ⟨rfl,rfl⟩
 have hd:decide ((k:Int)<(a.length:Int))=true:=by simp;omega
 have hw:IntKind.i64.wrap ((k:Int)+1)=((k+1:Nat):Int):=by rw[w64 (by omega)];omega
 have hkb:k<b.length:=by omega
 obtain⟨x,hx⟩: ∃x,a[k]?=some x:=⟨_,z'b hlt⟩
 obtain⟨y,hy⟩: ∃y,b[k]?=some y:=⟨_,z'b hkb⟩
 have hrx:(iRs a)[k]?=some [iD x]:=by rw[y'Q,hx];rfl
 have hry:(iRs b)[k]?=some [iD y]:=by rw[y'Q,hy];rfl
 by_cases he:x=y
 ·have he':(x != y)=false:=by simp[he]
  repeat' first|refine dr (id:=6) T 8 (by kernel_rfl) ?_|refine gn ?_|apply VCg.step T rfl rfl;focus((try simp (disch:=omega) only[go_sem,Nat.reduceBEq,hrx,hry,z'k]);(first|exact rfl|refine⟨?_,rfl⟩;try omega))|refine vs T rfl fun K hK=>?_;(try simp (disch:=omega) only[go_sem,Nat.reduceBEq,hd,hw,he']);(refine hK _ _ ?_;clear hK K)|refine st rfl ?_|refine sc rfl ?_|refine nl ?_
  refine⟨⟨k+1,by omega,ZbF hs hx (by rw[hy,he])⟩,Weak.sub ?_,by simp only[];omega⟩
  simp[sub,upd]
 ·have he':(x != y)=true:=by simpa using he
  rw[Zfz hx hy he]
  repeat' first|refine dr (id:=6) T 8 (by kernel_rfl) ?_|refine gn ?_|apply VCg.step T rfl rfl;focus((try simp (disch:=omega) only[go_sem,Nat.reduceBEq,hrx,hry,z'k]);(first|exact rfl|refine⟨?_,rfl⟩;try omega))|refine vs T rfl fun K hK=>?_;(try simp (disch:=omega) only[go_sem,Nat.reduceBEq,hd,he']);(refine hK _ _ ?_;clear hK K)|refine st rfl ?_|refine sc rfl ?_|refine nl ?_|exact z'n T (z'a _) ⟨rfl,rfl⟩
theorem Zkv (a b:List En) (ha:a.length≤1000000) (hb:b.length≤1000000):Pure Tryz.prog 95 [buf a,buf b] (bD (decide (a=b))):=by
 refine Fun.of T [.tmp 4] Tryz.func95 rfl Tryz.ntmps95 Tryz.results95 rfl (by kernel_rfl) ?_
 by_cases hl:a.length=b.length
 case neg=>
  have hl':((a.length:Int) != (b.length:Int))=true:=bne_iff_ne.2 (by omega)
  rw[Zet hl]
  repeat' first|refine vs T rfl fun K hK=>?_;(try simp (disch:=omega) only[go_sem,Nat.reduceBEq,z'A,hl']);(refine hK _ _ ?_;clear hK K)|refine st rfl ?_|refine sc rfl ?_|refine nl ?_|exact z'n T (z'a _) ⟨rfl,rfl⟩
 have hl':((a.length:Int) != (b.length:Int))=false:=by simp[hl]
 repeat' first|refine vs T rfl fun K hK=>?_;(try simp (disch:=omega) only[go_sem,Nat.reduceBEq,z'A,hl']);(refine hK _ _ ?_;clear hK K)|refine st rfl ?_|refine sc rfl ?_|refine nl ?_
 refine VC.loop {k:Nat//k≤a.length∧ ∀i,i<k→a[i]?=b[i]?} (fun p=>⟨z'J [(0,buf a),(1,buf b),(12,iD (a.length:Nat)),(13,iD (p.1:Nat))],[]⟩) (fun p=>a.length-p.1) ⟨0,by omega,fun i hi=>by omega⟩ ?_ ?_
 ·refine Weak.sub ?_
  simp[sub,upd]
 rintro⟨k,hk,hs⟩
 dsimp only
 rcases z'g k a.length with hlt|hge
 case inr=>
  have hd:decide ((k:Int)<(a.length:Int))=false:=by simp;omega
  rw[decide_eq_true (Zc8 hl fun i hi=>hs i (by omega))]
  repeat' first|refine vs T rfl fun K hK=>?_;(try simp (disch:=omega) only[go_sem,Nat.reduceBEq,hd]);(refine hK _ _ ?_;clear hK K)|refine st rfl ?_|refine sc rfl ?_|refine nl ?_|exact z'n T (z'a _) ⟨rfl,rfl⟩
 have hd:decide ((k:Int)<(a.length:Int))=true:=by simp;omega
 have hw:IntKind.i64.wrap ((k:Int)+1)=((k+1:Nat):Int):=by rw[w64 (by omega)];omega
 have hkb:k<b.length:=by omega
 obtain⟨x,hx⟩: ∃x,a[k]?=some x:=⟨_,z'b hlt⟩
 obtain⟨y,hy⟩: ∃y,b[k]?=some y:=⟨_,z'b hkb⟩
 have hrx:(eRs a)[k]?=some [iD x.1,iD x.2]:=by rw[w'o,hx];rfl
 have hry:(eRs b)[k]?=some [iD y.1,iD y.2]:=by rw[w'o,hy];rfl
 by_cases he:x=y
 ·have hs1:=ZbF hs hx (by rw[hy,he])
  subst he
  repeat' first|refine dr (id:=6) T 8 (by kernel_rfl) ?_|refine gn ?_|apply VCg.step T rfl rfl;focus((try simp (disch:=omega) only[go_sem,Nat.reduceBEq,Nat.reduceAdd,Nat.reduceLeDiff,hrx,hry,z'A,beq_self_eq_true]);(first|exact rfl|refine⟨?_,rfl⟩;try omega))|refine vs T rfl fun K hK=>?_;(try simp (disch:=omega) only[go_sem,Nat.reduceBEq,hd,hw,beq_self_eq_true,z'l]);(first|refine hK _ _ ?_;clear hK K|refine Op1.eqS rfl (ZjP _ _ _ _) rfl rfl rfl ?_;refine hK _ _ ?_;clear hK K)|refine st rfl ?_|refine sc rfl ?_|refine nl ?_|with_reducible refine gf ?_ ?_;focus(simp (disch:=omega) only[go_sem,beq_self_eq_true,z'l];done)
  refine⟨⟨k+1,by omega,hs1⟩,Weak.sub ?_,by simp only[];omega⟩
  simp[sub,upd]
 ·have hne:(x.1 == y.1&&x.2 == y.2)=false:=by
   rw[Bool.eq_false_iff]
   simp only[z'i,beq_iff_eq,ne_eq]
   exact fun h=>he (Prod.ext h.1 h.2)
  rw[Zfz hx hy he]
  repeat' first|refine dr (id:=6) T 8 (by kernel_rfl) ?_|refine gn ?_|apply VCg.step T rfl rfl;focus((try simp (disch:=omega) only[go_sem,Nat.reduceBEq,Nat.reduceAdd,Nat.reduceLeDiff,hrx,hry,z'A]);(first|exact rfl|refine⟨?_,rfl⟩;try omega))|refine vs T rfl fun K hK=>?_;(try simp (disch:=omega) only[go_sem,Nat.reduceBEq,hd,hne,z'r]);(first|refine hK _ _ ?_;clear hK K|refine Op1.eqS rfl (ZjP _ _ _ _) rfl rfl rfl ?_;refine hK _ _ ?_;clear hK K)|refine st rfl ?_|refine sc rfl ?_|refine nl ?_|exact z'n T (z'a _) ⟨rfl,rfl⟩|with_reducible refine gt ?_ ?_;focus(simp (disch:=omega) only[go_sem,hne,z'r];done)
theorem ZlW (a b:List (List Int)) (ha:a.length≤1000000) (hb:b.length≤1000000) (ra: ∀r,r∈a→r.length≤1000000) (rb: ∀r,r∈b→r.length≤1000000):
  Pure Tryz.prog 60 [.sl false 1 (y'V a),.sl false 1 (y'V b)] (bD (decide (a=b))):=by
 refine Fun.of T [.tmp 4] Tryz.func60 rfl Tryz.ntmps60 Tryz.results60 rfl (by kernel_rfl) ?_
 by_cases hl:a.length=b.length
 case neg=>
  have hl':((a.length:Int) != (b.length:Int))=true:=bne_iff_ne.2 (by omega)
  rw[Zet hl]
  repeat' first|refine vs T rfl fun K hK=>?_;(try simp (disch:=omega) only[go_sem,Nat.reduceBEq,y'm,hl']);(refine hK _ _ ?_;clear hK K)|refine st rfl ?_|refine sc rfl ?_|refine nl ?_|exact z'n T (z'a _) ⟨rfl,rfl⟩
 have hl':((a.length:Int) != (b.length:Int))=false:=by simp[hl]
 repeat' first|refine vs T rfl fun K hK=>?_;(try simp (disch:=omega) only[go_sem,Nat.reduceBEq,y'm,hl']);(refine hK _ _ ?_;clear hK K)|refine st rfl ?_|refine sc rfl ?_|refine nl ?_
 refine VC.loop {k:Nat//k≤a.length∧ ∀i,i<k→a[i]?=b[i]?} (fun p=>⟨z'J [(0,.sl false 1 (y'V a)),(1,.sl false 1 (y'V b)),(12,iD (a.length:Nat)),(13,iD (p.1:Nat))],[]⟩) (fun p=>a.length-p.1) ⟨0,by omega,fun i hi=>by omega⟩ ?_ ?_
 ·refine Weak.sub ?_
  simp[sub,upd]
 rintro⟨k,hk,hs⟩
 dsimp only
 rcases z'g k a.length with hlt|hge
 case inr=>
  have hd:decide ((k:Int)<(a.length:Int))=false:=by simp;omega
  rw[decide_eq_true (Zc8 hl fun i hi=>hs i (by omega))]
  repeat' first|refine vs T rfl fun K hK=>?_;(try simp (disch:=omega) only[go_sem,Nat.reduceBEq,hd]);(refine hK _ _ ?_;clear hK K)|refine st rfl ?_|refine sc rfl ?_|refine nl ?_|exact z'n T (z'a _) ⟨rfl,rfl⟩
 have hd:decide ((k:Int)<(a.length:Int))=true:=by simp;omega
 have hw:IntKind.i64.wrap ((k:Int)+1)=((k+1:Nat):Int):=by rw[w64 (by omega)];omega
 have hkb:k<b.length:=by omega
 obtain⟨x,hx⟩: ∃x,a[k]?=some x:=⟨_,z'b hlt⟩
 obtain⟨y,hy⟩: ∃y,b[k]?=some y:=⟨_,z'b hkb⟩
 have hrx:(y'V a)[k]?=some [z'C x]:=by rw[w'Z,hx];rfl
 have hry:(y'V b)[k]?=some [z'C y]:=by rw[w'Z,hy];rfl
 have c1:=Zd3 x y (ra x (z'h hx)) (rb y (z'h hy))
 by_cases he:x=y
 ·rw[decide_eq_true he]at c1
  repeat' first|refine dr (id:=6) T 8 (by kernel_rfl) ?_|refine gn ?_|apply VCg.step T rfl rfl;focus((try simp (disch:=omega) only[go_sem,Nat.reduceBEq,hrx,hry,y'm]);(first|exact rfl|refine⟨?_,rfl⟩;try omega))|refine vs T rfl fun K hK=>?_;(try simp (disch:=omega) only[go_sem,Nat.reduceBEq,hd,hw,z'l]);(first|refine hK _ _ ?_;clear hK K|refine Op1.callp rfl rfl (c1) rfl ?_;refine hK _ _ ?_;clear hK K)|refine st rfl ?_|refine sc rfl ?_|refine nl ?_
  refine⟨⟨k+1,by omega,ZbF hs hx (by rw[hy,he])⟩,Weak.sub ?_,by simp only[];omega⟩
  simp[sub,upd]
 ·rw[decide_eq_false he]at c1
  rw[Zfz hx hy he]
  repeat' first|refine dr (id:=6) T 8 (by kernel_rfl) ?_|refine gn ?_|apply VCg.step T rfl rfl;focus((try simp (disch:=omega) only[go_sem,Nat.reduceBEq,hrx,hry,y'm]);(first|exact rfl|refine⟨?_,rfl⟩;try omega))|refine vs T rfl fun K hK=>?_;(try simp (disch:=omega) only[go_sem,Nat.reduceBEq,hd,z'r]);(first|refine hK _ _ ?_;clear hK K|refine Op1.callp rfl rfl (c1) rfl ?_;refine hK _ _ ?_;clear hK K)|refine st rfl ?_|refine sc rfl ?_|refine nl ?_|exact z'n T (z'a _) ⟨rfl,rfl⟩
theorem ZlV (a b:List (List En)) (ha:a.length≤1000000) (hb:b.length≤1000000) (ra: ∀r,r∈a→r.length≤1000000) (rb: ∀r,r∈b→r.length≤1000000):
  Pure Tryz.prog 61 [.sl false 1 (y'Y a),.sl false 1 (y'Y b)] (bD (decide (a=b))):=by
 refine Fun.of T [.tmp 4] Tryz.func61 rfl Tryz.ntmps61 Tryz.results61 rfl (by kernel_rfl) ?_
 by_cases hl:a.length=b.length
 case neg=>
  have hl':((a.length:Int) != (b.length:Int))=true:=bne_iff_ne.2 (by omega)
  rw[Zet hl]
  repeat' first|refine vs T rfl fun K hK=>?_;(try simp (disch:=omega) only[go_sem,Nat.reduceBEq,z'Z,hl']);(refine hK _ _ ?_;clear hK K)|refine st rfl ?_|refine sc rfl ?_|refine nl ?_|exact z'n T (z'a _) ⟨rfl,rfl⟩
 have hl':((a.length:Int) != (b.length:Int))=false:=by simp[hl]
 repeat' first|refine vs T rfl fun K hK=>?_;(try simp (disch:=omega) only[go_sem,Nat.reduceBEq,z'Z,hl']);(refine hK _ _ ?_;clear hK K)|refine st rfl ?_|refine sc rfl ?_|refine nl ?_
 refine VC.loop {k:Nat//k≤a.length∧ ∀i,i<k→a[i]?=b[i]?} (fun p=>⟨z'J [(0,.sl false 1 (y'Y a)),(1,.sl false 1 (y'Y b)),(12,iD (a.length:Nat)),(13,iD (p.1:Nat))],[]⟩) (fun p=>a.length-p.1) ⟨0,by omega,fun i hi=>by omega⟩ ?_ ?_
 ·refine Weak.sub ?_
  simp[sub,upd]
 rintro⟨k,hk,hs⟩
 dsimp only
 rcases z'g k a.length with hlt|hge
 case inr=>
  have hd:decide ((k:Int)<(a.length:Int))=false:=by simp;omega
  rw[decide_eq_true (Zc8 hl fun i hi=>hs i (by omega))]
  repeat' first|refine vs T rfl fun K hK=>?_;(try simp (disch:=omega) only[go_sem,Nat.reduceBEq,hd]);(refine hK _ _ ?_;clear hK K)|refine st rfl ?_|refine sc rfl ?_|refine nl ?_|exact z'n T (z'a _) ⟨rfl,rfl⟩
 have hd:decide ((k:Int)<(a.length:Int))=true:=by simp;omega
 have hw:IntKind.i64.wrap ((k:Int)+1)=((k+1:Nat):Int):=by rw[w64 (by omega)];omega
 have hkb:k<b.length:=by omega
 obtain⟨x,hx⟩: ∃x,a[k]?=some x:=⟨_,z'b hlt⟩
 obtain⟨y,hy⟩: ∃y,b[k]?=some y:=⟨_,z'b hkb⟩
 have hrx:(y'Y a)[k]?=some [buf x]:=by rw[x'b,hx];rfl
 have hry:(y'Y b)[k]?=some [buf y]:=by rw[x'b,hy];rfl
 have c1:=Zkv x y (ra x (z'h hx)) (rb y (z'h hy))
 by_cases he:x=y
 ·rw[decide_eq_true he]at c1
  repeat' first|refine dr (id:=6) T 8 (by kernel_rfl) ?_|refine gn ?_|apply VCg.step T rfl rfl;focus((try simp (disch:=omega) only[go_sem,Nat.reduceBEq,hrx,hry,z'Z]);(first|exact rfl|refine⟨?_,rfl⟩;try omega))|refine vs T rfl fun K hK=>?_;(try simp (disch:=omega) only[go_sem,Nat.reduceBEq,hd,hw,z'l]);(first|refine hK _ _ ?_;clear hK K|refine Op1.callp rfl rfl (c1) rfl ?_;refine hK _ _ ?_;clear hK K)|refine st rfl ?_|refine sc rfl ?_|refine nl ?_
  refine⟨⟨k+1,by omega,ZbF hs hx (by rw[hy,he])⟩,Weak.sub ?_,by simp only[];omega⟩
  simp[sub,upd]
 ·rw[decide_eq_false he]at c1
  rw[Zfz hx hy he]
  repeat' first|refine dr (id:=6) T 8 (by kernel_rfl) ?_|refine gn ?_|apply VCg.step T rfl rfl;focus((try simp (disch:=omega) only[go_sem,Nat.reduceBEq,hrx,hry,z'Z]);(first|exact rfl|refine⟨?_,rfl⟩;try omega))|refine vs T rfl fun K hK=>?_;(try simp (disch:=omega) only[go_sem,Nat.reduceBEq,hd,z'r]);(first|refine hK _ _ ?_;clear hK K|refine Op1.callp rfl rfl (c1) rfl ?_;refine hK _ _ ?_;clear hK K)|refine st rfl ?_|refine sc rfl ?_|refine nl ?_|exact z'n T (z'a _) ⟨rfl,rfl⟩
theorem Ze3 (a b:Cf) (ha:OkC a) (hb:OkC b):Pure Tryz.prog 32 [.agg (cfC a),.agg (cfC b)] (bD (x'K a b)):=by
 have c1:=Zd3 a.pc b.pc (by have:=ha.pc;omega) (by have:=hb.pc;omega)
 have c2:=Zd3 a.mem b.mem (by have:=ha.mem;omega) (by have:=hb.mem;omega)
 have c3:=ZlW a.regs b.regs (by have:=ha.regs;omega) (by have:=hb.regs;omega) (fun r h=>by have:=ha.row r h;omega) (fun r h=>by have:=hb.row r h;omega)
 have c4:=ZlV a.bufs b.bufs (by have:=ha.bufs;omega) (by have:=hb.bufs;omega) (fun r h=>by have:=ha.buf r h;omega) (fun r h=>by have:=hb.buf r h;omega)
 refine Fun.of T [.tmp 4] Tryz.func32 rfl Tryz.ntmps32 Tryz.results32 rfl (by kernel_rfl) ?_
 cases h1:decide (a.pc=b.pc)
 ·rw[h1]at c1
  rw[show x'K a b=false by simp only[x'K,h1,y'p]]
  repeat' first|refine vb rfl rfl rfl rfl ?_|refine vs T rfl fun K hK=>?_;(try simp (disch:=omega) only[go_sem,Nat.reduceBEq]);(first|refine hK _ _ ?_;clear hK K|refine Op1.callp rfl rfl (c1) rfl ?_;refine hK _ _ ?_;clear hK K)|refine st rfl ?_|refine nl ?_|refine gs rfl rfl ?_|exact z'n T (z'a _) ⟨rfl,rfl⟩
 rw[h1]at c1
 cases h2:decide (a.mem=b.mem)
 ·rw[h2]at c2
  rw[show x'K a b=false by simp only[x'K,h1,h2,y'p,z'W]]
  repeat' first|refine vb rfl rfl rfl rfl ?_|refine vs T rfl fun K hK=>?_;(try simp (disch:=omega) only[go_sem,Nat.reduceBEq]);(first|refine hK _ _ ?_;clear hK K|refine Op1.callp rfl rfl (c1) rfl ?_;refine hK _ _ ?_;clear hK K|refine Op1.callp rfl rfl (c2) rfl ?_;refine hK _ _ ?_;clear hK K)|refine st rfl ?_|refine nl ?_|refine gs rfl rfl ?_|exact z'n T (z'a _) ⟨rfl,rfl⟩
 rw[h2]at c2
 cases h3:decide (a.regs=b.regs)
 ·rw[h3]at c3
  rw[show x'K a b=false by simp only[x'K,h1,h2,h3,y'p,z'W]]
  repeat' first|refine vb rfl rfl rfl rfl ?_|refine vs T rfl fun K hK=>?_;(try simp (disch:=omega) only[go_sem,Nat.reduceBEq]);(first|refine hK _ _ ?_;clear hK K|refine Op1.callp rfl rfl (c1) rfl ?_;refine hK _ _ ?_;clear hK K|refine Op1.callp rfl rfl (c2) rfl ?_;refine hK _ _ ?_;clear hK K|refine Op1.callp rfl rfl (c3) rfl ?_;refine hK _ _ ?_;clear hK K)|refine st rfl ?_|refine nl ?_|refine gs rfl rfl ?_|exact z'n T (z'a _) ⟨rfl,rfl⟩
 rw[h3]at c3
 rw[show x'K a b=decide (a.bufs=b.bufs) by simp only[x'K,h1,h2,h3,z'W]]
 generalize decide (a.bufs=b.bufs)=x at c4
 repeat' first|refine vb rfl rfl rfl rfl ?_|refine vs T rfl fun K hK=>?_;(try simp (disch:=omega) only[go_sem,Nat.reduceBEq]);(first|refine hK _ _ ?_;clear hK K|refine Op1.callp rfl rfl (c1) rfl ?_;refine hK _ _ ?_;clear hK K|refine Op1.callp rfl rfl (c2) rfl ?_;refine hK _ _ ?_;clear hK K|refine Op1.callp rfl rfl (c3) rfl ?_;refine hK _ _ ?_;clear hK K|refine Op1.callp rfl rfl (c4) rfl ?_;refine hK _ _ ?_;clear hK K)|refine st rfl ?_|refine nl ?_|refine gs rfl rfl ?_|exact z'n T (z'a _) ⟨rfl,rfl⟩
theorem ZkN {u:Un} {m r:Int}: ∀(p:List Int) (c:Cf) (k:Nat),Rt u c m r→Rt u (goF u m r c p k).1 m r
 |[],c,k,h=>h
 |a::p,c,k,h=>by
  unfold goF
  cases enM u c m r a with
  |true=>exact ZkN p _ _ (h.actM a)
  |false=>exact h
theorem Zdc {u:Un} (hu:OkU u) {m r:Int} {p:List Int} (h:((x'5 u m r p).2.2 == 0)=true):Rt u (x'5 u m r p).1 m r:=by
 cases hU:y't u with
 |false=>simp[x'5,hU]at h
 |true=>
  cases hM:Zb3 m r with
  |false=>simp[x'5,hU,hM]at h
  |true=>
   rw[show x'5 u m r p=goF u m r (x'l u) p 0 by simp[x'5,hU,hM]]
   simp only[Zb3,z'i,decide_eq_true_eq]at hM
   exact ZkN _ _ _ (ZbP hu hU (by omega) (by omega))
def ZeH (u:Un) (m r:Int) (p:List Int):Bool:=((x'5 u m r p).2.2 == 0)&&Zdr u (x'5 u m r p).1 m r
def Zkb (u:Un) (m r:Int) (p:List Int):Bool:=((x'5 u m r p).2.2 == 0)&&v't u (x'5 u m r p).1
theorem Zfp (u:Un) (hu:OkU u) (m r:Int) (p:List Int) (hp:p.length≤1000000):Pure Tryz.prog 13 [.agg (unC u),iD m,iD r,z'C p] (bD (ZeH u m r p)):=by
 have cb:=Zce u hu m r p hp
 have hR:=Zdc hu (m:=m) (r:=r) (p:=p)
 unfold ZeH
 generalize x'5 u m r p=x at*
 obtain⟨c,k,e⟩:=x
 dsimp only at cb hR⊢
 refine Fun.of T [.tmp 8] Tryz.func13 rfl Tryz.ntmps13 Tryz.results13 rfl (by kernel_rfl) ?_
 cases he:e == 0
 ·rw[he]at cb
  rw[y'p]
  repeat' first|refine vb (t:=25) rfl rfl rfl rfl ?_|refine dr (id:=2) T 9 (by kernel_rfl) ?_|refine gn ?_|(apply VCg.step T rfl rfl);focus((try simp (disch:=omega) only[go_sem,Nat.reduceBEq]);(exact rfl))|refine VCg.gstep T rfl rfl rfl rfl ?_;try simp only[GB]|refine vs T rfl fun K hK=>?_;(try simp (disch:=omega) only[go_sem,Nat.reduceBEq,Nat.reduceAdd,Nat.reduceLeDiff]);(first|refine hK _ _ ?_;clear hK K|refine Op1.callx rfl rfl (cb) rfl (fun q hq=>?_);refine hK _ _ ?_;clear hK K)|refine st rfl ?_|refine nl ?_|refine gs rfl rfl ?_|exact z'n T (z'a _) ⟨rfl,rfl⟩
 ·rw[he]at cb
  have cd:=ZnD (hR he)
  rw[z'W]
  generalize Zdr u c m r=y at*
  repeat' first|refine vb (t:=25) rfl rfl rfl rfl ?_|refine dr (id:=2) T 9 (by kernel_rfl) ?_|refine gn ?_|(first|apply VCg.step T rfl rfl|apply exF);focus((try simp (disch:=omega) only[go_sem,Nat.reduceBEq,Nat.reduceAdd,Nat.reduceLeDiff]);(exact rfl))|refine VCg.gstep T rfl rfl rfl rfl ?_;try simp only[GB]|refine vs T rfl fun K hK=>?_;(try simp (disch:=omega) only[go_sem,Nat.reduceBEq,Nat.reduceAdd,Nat.reduceLeDiff]);(first|refine hK _ _ ?_;clear hK K|refine Op1.callp rfl rfl (cd) rfl ?_;refine hK _ _ ?_;clear hK K|refine Op1.callx rfl rfl (cb) rfl (fun q hq=>?_);refine hK _ _ ?_;clear hK K)|refine st rfl ?_|refine nl ?_|refine gs rfl rfl ?_|exact z'n T (z'a _) ⟨rfl,rfl⟩
theorem Zjx (u:Un) (hu:OkU u) (m r:Int) (p:List Int) (hp:p.length≤1000000):Pure Tryz.prog 17 [.agg (unC u),iD m,iD r,z'C p] (bD (Zkb u m r p)):=by
 have cb:=Zce u hu m r p hp
 have hR:=Zdc hu (m:=m) (r:=r) (p:=p)
 unfold Zkb
 generalize x'5 u m r p=x at*
 obtain⟨c,k,e⟩:=x
 dsimp only at cb hR⊢
 refine Fun.of T [.tmp 8] Tryz.func17 rfl Tryz.ntmps17 Tryz.results17 rfl (by kernel_rfl) ?_
 cases he:e == 0
 ·rw[he]at cb
  rw[y'p]
  repeat' first|refine vb (t:=25) rfl rfl rfl rfl ?_|refine dr (id:=2) T 7 (by kernel_rfl) ?_|refine gn ?_|(apply VCg.step T rfl rfl);focus((try simp (disch:=omega) only[go_sem,Nat.reduceBEq]);(exact rfl))|refine VCg.gstep T rfl rfl rfl rfl ?_;try simp only[GB]|refine vs T rfl fun K hK=>?_;(try simp (disch:=omega) only[go_sem,Nat.reduceBEq,Nat.reduceAdd,Nat.reduceLeDiff]);(first|refine hK _ _ ?_;clear hK K|refine Op1.callx rfl rfl (cb) rfl (fun q hq=>?_);refine hK _ _ ?_;clear hK K)|refine st rfl ?_|refine nl ?_|refine gs rfl rfl ?_|exact z'n T (z'a _) ⟨rfl,rfl⟩
 ·rw[he]at cb
  have h:=hR he
  have cd:=ZhA u c (by have:=h.okU.cod;omega) (by have:=h.okC.bufs;omega)
  rw[z'W]
  generalize v't u c=y at*
  repeat' first|refine vb (t:=25) rfl rfl rfl rfl ?_|refine dr (id:=2) T 7 (by kernel_rfl) ?_|refine gn ?_|(first|apply VCg.step T rfl rfl|apply exF);focus((try simp (disch:=omega) only[go_sem,Nat.reduceBEq,Nat.reduceAdd,Nat.reduceLeDiff]);(exact rfl))|refine VCg.gstep T rfl rfl rfl rfl ?_;try simp only[GB]|refine vs T rfl fun K hK=>?_;(try simp (disch:=omega) only[go_sem,Nat.reduceBEq,Nat.reduceAdd,Nat.reduceLeDiff]);(first|refine hK _ _ ?_;clear hK K|refine Op1.callp rfl rfl (cd) rfl ?_;refine hK _ _ ?_;clear hK K|refine Op1.callx rfl rfl (cb) rfl (fun q hq=>?_);refine hK _ _ ?_;clear hK K)|refine st rfl ?_|refine nl ?_|refine gs rfl rfl ?_|exact z'n T (z'a _) ⟨rfl,rfl⟩
section
variable {u : Un} {c : Cf} {m r : Int}
theorem ZgV (h:Rt u c m r) (br:Nat) (p:List Int) (hp:p.length≤500000) (hk:v'R u m r c p p.length=true):
  Fun Tryz.prog 31 [pD br,z'C p] (rW br u m r c) false (fun d H'=> ∃x:Nat×Nat×Nat,True∧d= .tup [pD x.1,bD true]∧
   H'=seW x.1 (some (x.2.1,(y'C u m).length)) (some (x.2.2,(y'C u m).length)) (x'6 (y'C u m).length (v'm u m r c p p.length)) (x'6 (y'C u m).length (v'4 p p.length)) (rW br u m r (cyC u m r c p p.length))):=
 Fun.mono (Zic h br p hp) fun d H' hd=>by
  rcases hd with⟨-,bs,bo,ba,h1,h2⟩|⟨h1, -⟩
  ·exact⟨(bs,bo,ba),trivial,h1,h2⟩
  ·rw[hk]at h1;cases h1
theorem Zib (h:Rt u c m r) (br:Nat) (p:List Int) (hp:p.length≤500000) (hk:v'R u m r c p p.length=false):
  Fun Tryz.prog 31 [pD br,z'C p] (rW br u m r c) false (fun d H'=> ∃x:Cf,True∧d= .tup [.is (.pointer none),bD false]∧H'=rW br u m r x):=
 Fun.mono (Zic h br p hp) fun d H' hd=>by
  rcases hd with⟨h1, -⟩|⟨-,c',h1,h2⟩
  ·rw[hk]at h1;cases h1
  ·exact⟨c',trivial,h1,h2⟩
end
def cyU (u:Un) (m r md:Int) (q:List Int) (c:Cf):Int:=Zc1 md (q.length:Nat) (x'6 (y'C u m).length (v'm u m r c q q.length)) (x'6 (y'C u m).length (v'4 q q.length))
def Zkc (u:Un) (m r md:Int) (p w:List Int):Int:=match ((x'5 u m r p).2.2 == 0)&&v'R u m r (x'5 u m r p).1 w w.length with|true=>cyU u m r md w (x'5 u m r p).1|false=> -1
theorem Zjy (u:Un) (hu:OkU u) (m r md:Int) (p w:List Int) (hp:p.length≤1000000) (hw:w.length≤500000):Pure Tryz.prog 16 [.agg (unC u),iD m,iD r,iD md,z'C p,z'C w] (iD (Zkc u m r md p w)):=by
 have cb:=Zce u hu m r p hp
 have hR:=Zdc hu (m:=m) (r:=r) (p:=p)
 unfold Zkc
 generalize x'5 u m r p=x at*
 obtain⟨c,k,e⟩:=x
 dsimp only at cb hR⊢
 refine Fun.of T [.tmp 12] Tryz.func16 rfl Tryz.ntmps16 Tryz.results16 rfl (by kernel_rfl) ?_
 cases he:e == 0
 ·rw[he]at cb
  rw[y'p]
  repeat' first|refine vb (t:=25) rfl rfl rfl rfl ?_|refine vs T rfl fun K hK=>?_;(try simp (disch:=omega) only[go_sem,Nat.reduceBEq,Nat.reduceAdd,Nat.reduceLeDiff,z'r]);(first|refine hK _ _ ?_;clear hK K|refine Op1.callx rfl rfl (cb) rfl (fun q hq=>?_);refine hK _ _ ?_;clear hK K)|refine st rfl ?_|refine sc rfl ?_|refine nl ?_|exact z'n T (z'a _) ⟨rfl,rfl⟩
 rw[he]at cb
 have h:=hR he
 rw[z'W]
 cases hk:v'R u m r c w w.length
 ·have cr:=fun br=>Zib h br w hw hk
  repeat' first|refine vb (t:=25) rfl rfl rfl rfl ?_|refine vs T rfl fun K hK=>?_;(try simp (disch:=omega) only[go_sem,Nat.reduceBEq,Nat.reduceAdd,Nat.reduceLeDiff,z'l,z'r]);(first|refine hK _ _ ?_;clear hK K|refine Op1.callx rfl rfl (cb) rfl (fun q hq=>?_);refine hK _ _ ?_;clear hK K|refine Op1.callX rfl rfl (cr _) rfl (by repeat (first|exact Pick.nil|apply Pick.take)) (fun q hq=>?_);refine hK _ _ ?_;clear hK K;(try simp only[z'x]))|refine st rfl ?_|refine sc rfl ?_|refine nl ?_|exact z'n T (z'a _) ⟨rfl,rfl⟩
 have cr:=fun br=>ZgV h br w hw hk
 have hN:=v'd u m
 dsimp only
 unfold cyU
 have hl1:=w'y (y'C u m).length (v'm u m r c w w.length)
 have hl2:=w'y (y'C u m).length (v'4 w w.length)
 generalize (y'C u m).length=n at*
 generalize x'6 n (v'm u m r c w w.length)=on at*
 generalize x'6 n (v'4 w w.length)=ac at*
 generalize cyC u m r c w w.length=c2 at*
 subst hl1
 have cu:=fun bs bo ba=>Zg4 bs (some (bo,on.length)) (some (ba,on.length)) on ac (z'w _) (by rw[hl2];exact z'w _) hl2 (by omega) md (w.length:Nat)
 repeat' first|refine vb (t:=25) rfl rfl rfl rfl ?_|refine vs T rfl fun K hK=>?_;(try simp (disch:=omega) only[go_sem,Nat.reduceBEq,Nat.reduceAdd,Nat.reduceLeDiff,z'l,z'k]);(first|refine hK _ _ ?_;clear hK K|refine Op1.callx rfl rfl (cb) rfl (fun q hq=>?_);refine hK _ _ ?_;clear hK K|refine Op1.callX rfl rfl (cr _) rfl (by repeat (first|exact Pick.nil|apply Pick.take)) (fun q hq=>?_);refine hK _ _ ?_;clear hK K;(try simp only[z'x])|refine Op1.callV rfl rfl (cu _ _ _) rfl (by repeat (first|exact Pick.nil|apply Pick.take)) ?_;refine hK _ _ ?_;clear hK K;(try simp only[y'i]))|refine st rfl ?_|refine sc rfl ?_|refine nl ?_|exact z'n T (z'a _) ⟨rfl,rfl⟩
theorem Zij {a b:Cf} (h:x'K a b=true):b=a:=by
 simp only[x'K,z'i,decide_eq_true_eq]at h
 obtain⟨h1,h2,h3,h4⟩:=h
 cases a;cases b
 simp_all
def Zcu (u:Un) (m r:Int) (w:List Int) (c:Cf):Bool:=v'R u m r c w w.length&&x'K c (cyC u m r c w w.length)
def Zis (u:Un) (m r:Int) (p w:List Int) (t:Int):Bool:=((x'5 u m r p).2.2 == 0)&&(!decide (t<0)&&(!decide (t>1000)&&(decide (t=0)||Zcu u m r w (x'5 u m r p).1)))
theorem Zgv (u:Un) (hu:OkU u) (m r:Int) (p w:List Int) (t:Int) (hp:p.length≤1000000) (hw:w.length≤1000):Pure Tryz.prog 18 [.agg (unC u),iD m,iD r,z'C p,z'C w,iD t] (bD (Zis u m r p w t)):=by
 have cb:=Zce u hu m r p hp
 have hR:=Zdc hu (m:=m) (r:=r) (p:=p)
 unfold Zis
 generalize x'5 u m r p=x at*
 obtain⟨c,k,e⟩:=x
 dsimp only at cb hR⊢
 refine Fun.of T [.tmp 12] Tryz.func18 rfl Tryz.ntmps18 Tryz.results18 rfl (by kernel_rfl) ?_
 cases he:e == 0
 ·rw[he]at cb
  rw[y'p]
  repeat' first|refine vb (t:=25) rfl rfl rfl rfl ?_|refine vs T rfl fun K hK=>?_;(try simp (disch:=omega) only[go_sem,Nat.reduceBEq,Nat.reduceAdd,Nat.reduceLeDiff,z'r]);(first|refine hK _ _ ?_;clear hK K|refine Op1.callx rfl rfl (cb) rfl (fun q hq=>?_);refine hK _ _ ?_;clear hK K)|refine st rfl ?_|refine sc rfl ?_|refine nl ?_|refine gs rfl rfl ?_|exact z'n T (z'a _) ⟨rfl,rfl⟩
 rw[he]at cb
 have h:=hR he
 rw[z'W]
 cases h0:decide (t<0)
 case true=>
  rw[z'l,y'p]
  repeat' first|refine vb (t:=25) rfl rfl rfl rfl ?_|refine vs T rfl fun K hK=>?_;(try simp (disch:=omega) only[go_sem,Nat.reduceBEq,Nat.reduceAdd,Nat.reduceLeDiff,h0,z'l]);(first|refine hK _ _ ?_;clear hK K|refine Op1.callx rfl rfl (cb) rfl (fun q hq=>?_);refine hK _ _ ?_;clear hK K)|refine st rfl ?_|refine sc rfl ?_|refine nl ?_|refine gs rfl rfl ?_|exact z'n T (z'a _) ⟨rfl,rfl⟩
 rw[z'r,z'W]
 cases h1:decide (t>1000)
 case true=>
  rw[z'l,y'p]
  repeat' first|refine vb (t:=25) rfl rfl rfl rfl ?_|refine vs T rfl fun K hK=>?_;(try simp (disch:=omega) only[go_sem,Nat.reduceBEq,Nat.reduceAdd,Nat.reduceLeDiff,h0,h1,z'l]);(first|refine hK _ _ ?_;clear hK K|refine Op1.callx rfl rfl (cb) rfl (fun q hq=>?_);refine hK _ _ ?_;clear hK K)|refine st rfl ?_|refine sc rfl ?_|refine nl ?_|refine gs rfl rfl ?_|exact z'n T (z'a _) ⟨rfl,rfl⟩
 rw[z'r,z'W]
 have hC:=Ze3 c (cyC u m r c w w.length) h.okC (h.cy w _).okC
 repeat' first|refine vb (t:=25) rfl rfl rfl rfl ?_|refine vs T rfl fun K hK=>?_;(try simp (disch:=omega) only[go_sem,Nat.reduceBEq,Nat.reduceAdd,Nat.reduceLeDiff,h0,h1,z'l]);(first|refine hK _ _ ?_;clear hK K|intro bq hbq;(try simp only[HB]at hbq);refine hK _ _ ?_;clear hK K|refine Op1.callx rfl rfl (cb) rfl (fun q hq=>?_);refine hK _ _ ?_;clear hK K)|refine st rfl ?_|refine sc rfl ?_|refine nl ?_|refine gs rfl rfl ?_
 clear cb
 simp only[decide_eq_false_iff_not,z'm,gt_iff_lt]at h0 h1
 obtain⟨n,rfl⟩: ∃n:Nat,t=(n:Int):=⟨t.toNat,by omega⟩
 have n1: ¬q=bq:=fun h=>hbq h.symm
 have hyes:Zcu u m r w c=true→((decide ((n:Int)=0))||Zcu u m r w c)=true:=fun h=>by rw[h,Bool.or_true]
 have hno:n≠0→Zcu u m r w c=false→((decide ((n:Int)=0))||Zcu u m r w c)=false:=fun h0 h=>by rw[h,Bool.or_false,decide_eq_false_iff_not];omega
 refine VC.loop {k:Nat//k≤n∧(0<k→Zcu u m r w c=true)} (fun x=>⟨z'J [(4,z'C w),(13,pD q),(15,pD bq),(40,iD (n:Nat)),(41,iD (x.1:Nat))],[(q,.cells 83 10 (ruC u m r c)),(bq,.cells 51 4 [z'C c.pc,.sl false 1 (y'V c.regs),z'C c.mem,.sl false 1 (y'Y c.bufs)])]⟩) (fun x=>n-x.1) ⟨0,by omega,fun h=>by omega⟩ ?_ ?_
 ·refine Weak.trans (Weak.perm (H':=[(q,.cells 83 10 (ruC u m r c)),(bq,.cells 51 4 [z'C c.pc,.sl false 1 (y'V c.regs),z'C c.mem,.sl false 1 (y'Y c.bufs)])]) (y'b fun a=>by simp only[y'f,z'V,z'6,y'a]<;>omega)) (Weak.sub ?_)
  simp[sub,upd]
 rintro⟨k,hk,hb⟩
 dsimp only
 rcases z'g k n with hlt|hge
 case inr=>
  have hd:decide ((k:Int)<(n:Int))=false:=by simp;omega
  have:(decide ((n:Int)=0)||Zcu u m r w c)=true:=by
   by_cases h:n=0
   ·simp[h]
   ·exact hyes (hb (by omega))
  rw[this]
  repeat' first|refine vs T rfl fun K hK=>?_;(try simp (disch:=omega) only[go_sem,Nat.reduceBEq,hd]);(refine hK _ _ ?_;clear hK K)|refine st rfl ?_|refine sc rfl ?_|refine nl ?_|exact z'n T (z'a _) ⟨rfl,rfl⟩
 have hd:decide ((k:Int)<(n:Int))=true:=by simp;omega
 have hw1:IntKind.i64.wrap ((k:Int)+1)=((k+1:Nat):Int):=by rw[w64 (by omega)];omega
 replace hno:=hno (by omega)
 generalize (decide ((n:Int)=0)||Zcu u m r w c)=R at*
 repeat' first|refine vs T rfl fun K hK=>?_;(try simp (disch:=omega) only[go_sem,Nat.reduceBEq,hd]);(refine hK _ _ ?_;clear hK K)|refine st rfl ?_|refine sc rfl ?_|refine nl ?_
 refine VC.loop {j:Nat//j≤w.length∧v'R u m r c w j=true} (fun x=>⟨z'J [(13,pD q),(15,pD bq),(40,iD (n:Nat)),(41,iD (k:Nat)),(4,z'C w),(43,z'C w),(44,iD (w.length:Nat)),(45,iD (x.1:Nat))],[(q,.cells 83 10 (ruC u m r (cyC u m r c w x.1))),(bq,.cells 51 4 [z'C c.pc,.sl false 1 (y'V c.regs),z'C c.mem,.sl false 1 (y'Y c.bufs)])]⟩) (fun x=>w.length-x.1) ⟨0,by omega,rfl⟩ ?_ ?_
 ·refine Weak.sub ?_
  simp[sub,upd,z'k]
 rintro⟨j,hj,hok⟩
 dsimp only
 rcases z'g j w.length with hjl|hge
 case inr=>
  have hjp:j=w.length:=by omega
  subst hjp
  have hd:decide ((w.length:Int)<(w.length:Int))=false:=by simp
  have hrun:Zcu u m r w c=x'K c (cyC u m r c w w.length):=by rw[Zcu,hok,z'W]
  cases hS:x'K c (cyC u m r c w w.length)with
  |false=>
   rw[hS]at hC hrun
   rw[hno hrun]
   generalize cyC u m r c w w.length=c2 at*
   repeat' first|refine dr (id:=13) T 5 (by kernel_rfl) ?_|refine gn ?_|(apply VCg.step T rfl rfl);focus((try simp (disch:=omega) only[go_sem,Nat.reduceBEq,Nat.reduceAdd,Nat.reduceLeDiff]);(exact rfl))|refine vs T rfl fun K hK=>?_;(try simp (disch:=omega) only[go_sem,Nat.reduceBEq,hd,z'r]);(first|refine hK _ _ ?_;clear hK K|refine Op1.callp rfl rfl (hC) rfl ?_;refine hK _ _ ?_;clear hK K)|refine st rfl ?_|refine sc rfl ?_|refine nl ?_|exact z'n T (z'a _) ⟨rfl,rfl⟩
  |true=>
   rw[hS]at hC hrun
   have he2:=Zij hS
   rw[he2]at hC⊢
   repeat' first|refine dr (id:=13) T 5 (by kernel_rfl) ?_|refine gn ?_|(first|apply VCg.step T rfl rfl|apply exF);focus((try simp (disch:=omega) only[go_sem,Nat.reduceBEq,Nat.reduceAdd,Nat.reduceLeDiff]);(exact rfl))|refine vs T rfl fun K hK=>?_;(try simp (disch:=omega) only[go_sem,Nat.reduceBEq,hd,hw1,z'l]);(first|refine hK _ _ ?_;clear hK K|refine Op1.callp rfl rfl (hC) rfl ?_;refine hK _ _ ?_;clear hK K)|refine st rfl ?_|refine sc rfl ?_|refine nl ?_
   refine⟨⟨k+1,by omega,fun _=>hrun⟩,Weak.sub ?_,by dsimp only;omega⟩
   simp[sub,upd]
 have hd2:decide ((j:Int)<(w.length:Int))=true:=by simp;omega
 have hw2:IntKind.i64.wrap ((j:Int)+1)=((j+1:Nat):Int):=by rw[w64 (by omega)];omega
 obtain⟨a,ha⟩: ∃a,w[j]?=some a:=⟨_,z'b hjl⟩
 have ra:(iRs w)[j]?=some [iD a]:=by rw[y'Q,ha];rfl
 have hR2:=h.cy w j
 have hcy:=Zhu (u:=u) (m:=m) (r:=r) (c:=c) ha
 have hoks:=Zgz (u:=u) (m:=m) (r:=r) (c:=c) ha
 have hcn:=ZiT (u:=u) (m:=m) (r:=r) (c:=c) ha
 rw[hok,z'W]at hoks
 generalize cyC u m r c w j=c1 at*
 have ca:=ZgZ q hR2 a
 rw[←hcy]at ca
 cases hE:enM u c1 m r a with
 |false=>
  rw[hE]at ca
  rw[hno (by rw[Zcu,hcn hE,y'p])]
  generalize cyC u m r c w (j+1)=c2 at*
  repeat' first|refine vs T rfl fun K hK=>?_;(try simp (disch:=omega) only[go_sem,Nat.reduceBEq,hd2,ra,z'k,z'r]);(first|refine hK _ _ ?_;clear hK K|refine⟨?_,hK _ _ ?_⟩<;>clear hK K;focus(try omega)|refine Op1.callV rfl rfl (ca) rfl (by repeat (first|exact Pick.nil|apply Pick.take)) ?_;refine hK _ _ ?_;clear hK K;(try simp only[y'i,z'T]))|refine st rfl ?_|refine sc rfl ?_|refine nl ?_|exact z'n T (z'a _) ⟨rfl,rfl⟩
 |true=>
  rw[hE]at ca hoks
  generalize hc2:cyC u m r c w (j+1)=c2 at*
  repeat' first|refine vs T rfl fun K hK=>?_;(try simp (disch:=omega) only[go_sem,Nat.reduceBEq,hd2,hw2,ra,z'k,z'l]);(first|refine hK _ _ ?_;clear hK K|refine⟨?_,hK _ _ ?_⟩<;>clear hK K;focus(try omega)|refine Op1.callV rfl rfl (ca) rfl (by repeat (first|exact Pick.nil|apply Pick.take)) ?_;refine hK _ _ ?_;clear hK K;(try simp only[y'i,z'T]))|refine st rfl ?_|refine sc rfl ?_|refine nl ?_
  refine⟨⟨j+1,by omega,hoks⟩,?_,by dsimp only;omega⟩
  dsimp only
  rw[hc2]
  refine Weak.sub ?_
  simp[sub,upd]
def Zmh (u:Un) (m r md:Int) (w:List Int) (c:Cf):Bool:=v'R u m r c w w.length&&(x'K c (cyC u m r c w w.length)&&(cyU u m r md w c == -1))
def Zc3 (u:Un) (m r md:Int) (p w:List Int):Bool:=((x'5 u m r p).2.2 == 0)&&(!decide (w.length=0)&&((md == 1||md == 2)&&Zmh u m r md w (x'5 u m r p).1))
theorem ZeJ (u:Un) (hu:OkU u) (m r md:Int) (p w:List Int) (hp:p.length≤1000000) (hw:w.length≤500000):Pure Tryz.prog 11 [.agg (unC u),iD m,iD r,iD md,z'C p,z'C w] (bD (Zc3 u m r md p w)):=by
 have cb:=Zce u hu m r p hp
 have hR:=Zdc hu (m:=m) (r:=r) (p:=p)
 unfold Zc3
 generalize x'5 u m r p=x at*
 obtain⟨c,k,e⟩:=x
 dsimp only at cb hR⊢
 refine Fun.of T [.tmp 12] Tryz.func11 rfl Tryz.ntmps11 Tryz.results11 rfl (by kernel_rfl) ?_
 cases he:e == 0
 ·rw[he]at cb
  rw[y'p]
  repeat' first|refine vb (t:=25) rfl rfl rfl rfl ?_|refine vs T rfl fun K hK=>?_;(try simp (disch:=omega) only[go_sem,Nat.reduceBEq,Nat.reduceAdd,Nat.reduceLeDiff,z'r]);(first|refine hK _ _ ?_;clear hK K|refine Op1.callx rfl rfl (cb) rfl (fun q hq=>?_);refine hK _ _ ?_;clear hK K)|refine st rfl ?_|refine sc rfl ?_|refine nl ?_|refine gs rfl rfl ?_|refine gu rfl rfl ?_|exact z'n T (z'a _) ⟨rfl,rfl⟩
 rw[he]at cb
 have h:=hR he
 rw[z'W]
 by_cases h0:w.length=0
 ·have e0:((w.length:Int) == 0)=true:=by simp[h0]
  rw[show decide (w.length=0)=true by simp[h0],z'l,y'p]
  repeat' first|refine vb (t:=25) rfl rfl rfl rfl ?_|refine vs T rfl fun K hK=>?_;(try simp (disch:=omega) only[go_sem,Nat.reduceBEq,Nat.reduceAdd,Nat.reduceLeDiff,e0,z'k,z'l]);(first|refine hK _ _ ?_;clear hK K|refine Op1.callx rfl rfl (cb) rfl (fun q hq=>?_);refine hK _ _ ?_;clear hK K)|refine st rfl ?_|refine sc rfl ?_|refine nl ?_|refine gs rfl rfl ?_|refine gu rfl rfl ?_|exact z'n T (z'a _) ⟨rfl,rfl⟩
 have e0:((w.length:Int) == 0)=false:=by simp[h0]
 rw[show decide (w.length=0)=false by simp[h0],z'r,z'W]
 have hm:((md != 1)=true∧(md != 2)=true∧(md == 1||md == 2)=false)∨((md != 1)=false∧(md == 1||md == 2)=true)∨((md != 1)=true∧(md != 2)=false∧(md == 1||md == 2)=true):=by
  by_cases q1:md=1
  ·subst q1;exact .inr (.inl ⟨rfl,rfl⟩)
  ·by_cases q2:md=2
   ·subst q2;exact .inr (.inr ⟨rfl,rfl,rfl⟩)
   ·exact .inl ⟨by simpa using q1,by simpa using q2,by simp[q1,q2]⟩
 rcases hm with⟨e1,e2,e3⟩|hm
 ·rw[e3,y'p]
  repeat' first|refine vb (t:=25) rfl rfl rfl rfl ?_|refine vs T rfl fun K hK=>?_;(try simp (disch:=omega) only[go_sem,Nat.reduceBEq,Nat.reduceAdd,Nat.reduceLeDiff,e0,e1,e2,z'k,z'l]);(first|refine hK _ _ ?_;clear hK K|refine Op1.callx rfl rfl (cb) rfl (fun q hq=>?_);refine hK _ _ ?_;clear hK K)|refine st rfl ?_|refine sc rfl ?_|refine nl ?_|refine gs rfl rfl ?_|exact z'n T (z'a _) ⟨rfl,rfl⟩
 have e3:(md == 1||md == 2)=true:=by rcases hm with h|h;exact h.2;exact h.2.2
 have hm':(md != 1)=false∨((md != 1)=true∧(md != 2)=false):=by rcases hm with h|h;exact .inl h.1;exact .inr ⟨h.1,h.2.1⟩
 clear hm
 rw[e3,z'W]
 clear e3
 unfold Zmh
 cases hk:v'R u m r c w w.length
 ·have cr:=fun br=>Zib h br w hw hk
  rw[y'p]
  rcases hm' with e1|⟨e1,e2⟩
  ·repeat' first|refine vb (t:=25) rfl rfl rfl rfl ?_|refine dr (id:=6) T 14 (by kernel_rfl) ?_|refine gn ?_|(apply VCg.step T rfl rfl);focus((try simp (disch:=omega) only[go_sem,Nat.reduceBEq]);(exact rfl))|refine VCg.gstep T rfl rfl rfl rfl ?_;try simp only[GB]|refine vs T rfl fun K hK=>?_;(try simp (disch:=omega) only[go_sem,Nat.reduceBEq,Nat.reduceAdd,Nat.reduceLeDiff,e0,e1,z'k,z'l]);(first|refine hK _ _ ?_;clear hK K|intro bq hbq;(try simp only[HB]at hbq);refine hK _ _ ?_;clear hK K|refine Op1.callx rfl rfl (cb) rfl (fun q hq=>?_);refine hK _ _ ?_;clear hK K|refine Op1.callX rfl rfl (cr _) rfl (by repeat (first|exact Pick.nil|apply Pick.take|apply Pick.skip)) (fun q hq=>?_);refine hK _ _ ?_;clear hK K;(try simp only[y'i,z'T]))|refine st rfl ?_|refine sc rfl ?_|refine nl ?_|refine gs rfl rfl ?_|exact z'n T (z'a _) ⟨rfl,rfl⟩
  ·repeat' first|refine vb (t:=25) rfl rfl rfl rfl ?_|refine dr (id:=6) T 14 (by kernel_rfl) ?_|refine gn ?_|(apply VCg.step T rfl rfl);focus((try simp (disch:=omega) only[go_sem,Nat.reduceBEq]);(exact rfl))|refine VCg.gstep T rfl rfl rfl rfl ?_;try simp only[GB]|refine vs T rfl fun K hK=>?_;(try simp (disch:=omega) only[go_sem,Nat.reduceBEq,Nat.reduceAdd,Nat.reduceLeDiff,e0,e1,e2,z'k,z'l]);(first|refine hK _ _ ?_;clear hK K|intro bq hbq;(try simp only[HB]at hbq);refine hK _ _ ?_;clear hK K|refine Op1.callx rfl rfl (cb) rfl (fun q hq=>?_);refine hK _ _ ?_;clear hK K|refine Op1.callX rfl rfl (cr _) rfl (by repeat (first|exact Pick.nil|apply Pick.take|apply Pick.skip)) (fun q hq=>?_);refine hK _ _ ?_;clear hK K;(try simp only[y'i,z'T]))|refine st rfl ?_|refine sc rfl ?_|refine nl ?_|refine gs rfl rfl ?_|exact z'n T (z'a _) ⟨rfl,rfl⟩
 have cr:=fun br=>ZgV h br w hw hk
 have hN:=v'd u m
 have cs:=Ze3 c (cyC u m r c w w.length) h.okC (h.cy w _).okC
 rw[z'W]
 unfold cyU
 have hl1:=w'y (y'C u m).length (v'm u m r c w w.length)
 have hl2:=w'y (y'C u m).length (v'4 w w.length)
 generalize (y'C u m).length=n at*
 generalize x'6 n (v'm u m r c w w.length)=on at*
 generalize x'6 n (v'4 w w.length)=ac at*
 generalize cyC u m r c w w.length=c2 at*
 subst hl1
 have cu:=fun bs bo ba=>Zg4 bs (some (bo,on.length)) (some (ba,on.length)) on ac (z'w _) (by rw[hl2];exact z'w _) hl2 (by omega) md (w.length:Nat)
 generalize Zc1 md (w.length:Nat) on ac=un at*
 rcases hm' with e1|⟨e1,e2⟩
 ·repeat' first|refine vb (t:=25) rfl rfl rfl rfl ?_|refine vs T rfl fun K hK=>?_;(try simp (disch:=omega) only[go_sem,Nat.reduceBEq,Nat.reduceAdd,Nat.reduceLeDiff,e0,e1,z'k,z'l]);(first|refine hK _ _ ?_;clear hK K|intro bq hbq;(try simp only[HB]at hbq);refine hK _ _ ?_;clear hK K|refine Op1.callx rfl rfl (cb) rfl (fun q hq=>?_);refine hK _ _ ?_;clear hK K|skip)|refine st rfl ?_|refine sc rfl ?_|refine nl ?_|refine gs rfl rfl ?_
  refine Op1.callX rfl rfl (cr _) rfl (by repeat (first|exact Pick.nil|apply Pick.take|apply Pick.skip)) (fun x hx=>?_)
  obtain⟨bs,bo,ba⟩:=x
  dsimp only
  refine hK _ _ ?_
  clear hK K
  try simp only[updO]
  refine vo ?_
  refine VCo.weak (Weak.perm (H':=(bs,.cells 108 2 [.gs (some (bo,on.length)) on.length,.gs (some (ba,on.length)) ac.length])::(bo,.cells 3 (on.length*1) (on.map iD))::(ba,.cells 3 (on.length*1) (ac.map iD))::(q,.cells 83 10 (ruC u m r c2))::[(bq,.cells 51 4 [z'C c.pc,.sl false 1 (y'V c.regs),z'C c.mem,.sl false 1 (y'Y c.bufs)])]) (y'b fun a=>by simp only[seW,y'f,z'V,z'6,y'a,z'1]<;>omega)) ?_
  refine VCo.nodup fun hnd=>?_
  simp only[Heap.blocks,z'B,x'y,x'z,z'P,not_or,x'3,not_false_eq_true,and_true]at hnd
  obtain⟨⟨n1,n2,n3,n4⟩,⟨n5,n6,n7⟩,⟨n8,n9⟩,n10⟩:=hnd
  cases hS:x'K c c2
  ·rw[hS]at cs
   rw[y'p]
   repeat' first|refine dr (id:=6) T 14 (by kernel_rfl) ?_|refine gn ?_|(first|apply VCg.step T rfl rfl|apply exF);focus((try simp (disch:=omega) only[go_sem,Nat.reduceBEq,Nat.reduceAdd,Nat.reduceLeDiff]);(first|exact rfl|refine Op1.callp rfl rfl (cs) rfl ?_;exact⟨rfl,rfl⟩))|refine VCg.gstep T rfl rfl rfl rfl ?_;try simp only[GB]|refine vs T rfl fun K hK=>?_;(try simp (disch:=omega) only[go_sem,Nat.reduceBEq]);(refine hK _ _ ?_;clear hK K)|refine st rfl ?_|refine nl ?_|refine gs rfl rfl ?_|refine ov ?_|exact z'n T (z'a _) ⟨rfl,rfl⟩
  ·rw[hS]at cs
   rw[z'W]
   repeat' first|refine dr (id:=6) T 14 (by kernel_rfl) ?_|refine gn ?_|(first|apply VCg.step T rfl rfl|apply exF);focus((try simp (disch:=omega) only[go_sem,Nat.reduceBEq,Nat.reduceAdd,Nat.reduceLeDiff,z'k]);(first|exact rfl|refine Op1.callp rfl rfl (cs) rfl ?_;exact⟨rfl,rfl⟩))|refine VCg.gstep T rfl rfl rfl rfl ?_;try simp only[GB]|refine vs T rfl fun K hK=>?_;(try simp (disch:=omega) only[go_sem,Nat.reduceBEq]);(first|refine hK _ _ ?_;clear hK K|refine Op1.callV rfl rfl (cu _ _ _) rfl (by repeat (first|exact Pick.nil|apply Pick.take)) ?_;refine hK _ _ ?_;clear hK K;(try simp only[y'i]))|refine st rfl ?_|refine nl ?_|refine gs rfl rfl ?_|refine ov ?_|exact z'n T (z'a _) ⟨rfl,rfl⟩
 ·repeat' first|refine vb (t:=25) rfl rfl rfl rfl ?_|refine vs T rfl fun K hK=>?_;(try simp (disch:=omega) only[go_sem,Nat.reduceBEq,Nat.reduceAdd,Nat.reduceLeDiff,e0,e1,e2,z'k,z'l]);(first|refine hK _ _ ?_;clear hK K|intro bq hbq;(try simp only[HB]at hbq);refine hK _ _ ?_;clear hK K|refine Op1.callx rfl rfl (cb) rfl (fun q hq=>?_);refine hK _ _ ?_;clear hK K|skip)|refine st rfl ?_|refine sc rfl ?_|refine nl ?_|refine gs rfl rfl ?_
  refine Op1.callX rfl rfl (cr _) rfl (by repeat (first|exact Pick.nil|apply Pick.take|apply Pick.skip)) (fun x hx=>?_)
  obtain⟨bs,bo,ba⟩:=x
  dsimp only
  refine hK _ _ ?_
  clear hK K
  try simp only[updO]
  refine vo ?_
  refine VCo.weak (Weak.perm (H':=(bs,.cells 108 2 [.gs (some (bo,on.length)) on.length,.gs (some (ba,on.length)) ac.length])::(bo,.cells 3 (on.length*1) (on.map iD))::(ba,.cells 3 (on.length*1) (ac.map iD))::(q,.cells 83 10 (ruC u m r c2))::[(bq,.cells 51 4 [z'C c.pc,.sl false 1 (y'V c.regs),z'C c.mem,.sl false 1 (y'Y c.bufs)])]) (y'b fun a=>by simp only[seW,y'f,z'V,z'6,y'a,z'1]<;>omega)) ?_
  refine VCo.nodup fun hnd=>?_
  simp only[Heap.blocks,z'B,x'y,x'z,z'P,not_or,x'3,not_false_eq_true,and_true]at hnd
  obtain⟨⟨n1,n2,n3,n4⟩,⟨n5,n6,n7⟩,⟨n8,n9⟩,n10⟩:=hnd
  cases hS:x'K c c2
  ·rw[hS]at cs
   rw[y'p]
   repeat' first|refine dr (id:=6) T 14 (by kernel_rfl) ?_|refine gn ?_|(first|apply VCg.step T rfl rfl|apply exF);focus((try simp (disch:=omega) only[go_sem,Nat.reduceBEq,Nat.reduceAdd,Nat.reduceLeDiff]);(first|exact rfl|refine Op1.callp rfl rfl (cs) rfl ?_;exact⟨rfl,rfl⟩))|refine VCg.gstep T rfl rfl rfl rfl ?_;try simp only[GB]|refine vs T rfl fun K hK=>?_;(try simp (disch:=omega) only[go_sem,Nat.reduceBEq]);(refine hK _ _ ?_;clear hK K)|refine st rfl ?_|refine nl ?_|refine gs rfl rfl ?_|refine ov ?_|exact z'n T (z'a _) ⟨rfl,rfl⟩
  ·rw[hS]at cs
   rw[z'W]
   repeat' first|refine dr (id:=6) T 14 (by kernel_rfl) ?_|refine gn ?_|(first|apply VCg.step T rfl rfl|apply exF);focus((try simp (disch:=omega) only[go_sem,Nat.reduceBEq,Nat.reduceAdd,Nat.reduceLeDiff,z'k]);(first|exact rfl|refine Op1.callp rfl rfl (cs) rfl ?_;exact⟨rfl,rfl⟩))|refine VCg.gstep T rfl rfl rfl rfl ?_;try simp only[GB]|refine vs T rfl fun K hK=>?_;(try simp (disch:=omega) only[go_sem,Nat.reduceBEq]);(first|refine hK _ _ ?_;clear hK K|refine Op1.callV rfl rfl (cu _ _ _) rfl (by repeat (first|exact Pick.nil|apply Pick.take)) ?_;refine hK _ _ ?_;clear hK K;(try simp only[y'i]))|refine st rfl ?_|refine nl ?_|refine gs rfl rfl ?_|refine ov ?_|exact z'n T (z'a _) ⟨rfl,rfl⟩
end Go.Proofs.YtfneeacgkdhldaaGreat
