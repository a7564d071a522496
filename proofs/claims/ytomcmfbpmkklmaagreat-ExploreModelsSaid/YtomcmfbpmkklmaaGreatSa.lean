/- Calls of functions that take blocks of one's own, wherever they stand. No condition. -/
import Derived.Test.YtomcmfbpmkklmaaGreatWa
import Derived.Test.YtomcmfbpmkklmaaGreatRt
import Derived.Test.YtomcmfbpmkklmaaGreatXg
import Derived.Test.YtomcmfbpmkklmaaGreatRj
namespace Go.Vc
set_option maxHeartbeats 16000000
set_option linter.unusedSimpArgs false
set_option linter.unusedVariables false
open Go
inductive Pick:Heap→Heap→Heap→Prop where
 |nil {H:Heap}:Pick [] H H
 |take {x:Nat×HC} {Hp H Hr:Heap}:Pick Hp H Hr→Pick (x::Hp) (x::H) Hr
 |skip {x:Nat×HC} {Hp H Hr:Heap}:Pick Hp H Hr→Pick Hp (x::H) (x::Hr)
theorem Pick.perm {Hp H Hr:Heap} (h:Pick Hp H Hr):H.Perm (Hp++Hr):=by
 induction h with
 |nil=>exact y'G _
 |take _ ih=>exact List.Perm.cons _ ih
 |skip _ ih=>exact(List.Perm.cons _ ih).trans List.perm_middle.symm
theorem Op1.callV {P:Program} {o:Oper} {E:Operand→D} {f:FuncId} {xf:Operand} {xs:Array Operand} {tys:Array TypeId} {args:List D} {H Hp Hr:Heap} {fr:Bool} {dv:D} {hv:Heap} {K:D→Heap→Prop}
  (ho:o.op= .call ⟨.value xf,xs,tys⟩) (hE:E xf= .is (.func (.func f) #[] #[])) (h:Fun P f args Hp fr (fun d H'=>d=dv∧H'=hv)) (ha:xs.toList.map E=args) (hp:Pick Hp H Hr)
  (hk:K dv (hv++Hr)):Op1 P o E H K:=
 Op1.callG (caps:= #[]) ho hE (by simp only[Array.toList_empty,y't,z'r];exact ha) h hp.perm (fun d H' ⟨h1,h2⟩=>by subst h1;subst h2;exact hk)
theorem VCo.nodup {P:Program} {n:Nat} {ops:Array Oper} {l:List Oper} {s:St} {Q:Exit→St→Prop} (h:s.heap.blocks.Nodup→VCo P n ops l s Q):VCo P n ops l s Q:=fun x a w hn hs=>h hs.inv.nodup x a w hn hs
theorem Fun.lendF {P:Program} {f:FuncId} {args args':List D} {Hp:Heap} {d0:D} (h:Fun P f args [] false (fun d H'=>d=d0∧H'=[])) (ha:FzL Hp args args'):
  Fun P f args' Hp false (fun d H'=>d=d0∧H'=[]):=by
 refine⟨h.1,fun w L0 vs hi hr=>?_⟩
 have hlet:ZeW w L0 Hp Hp (live [] L0):=⟨hi,fun b c hm=>⟨hm,fun hl=>by
  rcases hl with hl|hl
  ·exact hi.apart b (z'y.2 ⟨_,hm,rfl⟩) hl
  ·cases hl⟩,fun b _ hl=>by
  rcases hl with hl|hl
  ·exact .inl hl
  ·cases hl⟩
 have hi0:HInv w L0 []:=⟨fun b c hm=>(by cases hm),v'5,fun b hb=>(by cases hb),hi.old⟩
 refine(h.2 w L0 vs hi0 (RelL.fz hlet _ _ _ ha hr)).mono ?_
 rintro e w' ⟨v,rfl,d,H',⟨rfl,rfl⟩,h3,h4,h5⟩
 refine⟨v,rfl,d,[],⟨rfl,rfl⟩,?_,h4,⟨h5.os,h5.tape,h5.output,h5.size,fun b hb _=>h5.block b hb (by simp[Heap.blocks]),fun b hb=>by simp[Heap.blocks]at hb⟩⟩
 refine Rel.mono (Keeps.less fun b _ hl=>?_) _ _ h3
 rcases hl with(hl|hl)|hl
 ·exact .inl (.inl hl)
 ·cases hl.1
 ·simp[Heap.blocks]at hl
def VCp (F:Nat→(Nat→D)→Oper→FRes→Prop) (K:(Nat→D)→List (Tmp×NewI)→Prop):Nat→Nat→List Oper→(Nat→D)→List (Tmp×NewI)→Prop
 |0,_,_,E,news=>K E news
 |_+1,_,[],_,_=>False
 |m+1,i,o::l,E,news=> ∃r,F i E o r∧VCp F K m (i+1) l (updO E o.dst r.d) (news++ZcU r o.dst)
theorem VCp.extract {F:Nat→(Nat→D)→Oper→FRes→Prop} {K:(Nat→D)→List (Tmp×NewI)→Prop} {ops:Array Oper}: ∀(m i:Nat) (l:List Oper) (E:Nat→D) (news:List (Tmp×NewI)),l=ops.toList.drop i→VCp F K m i l E news→
  ∃res:Nat→FRes,(∀j,j<m→ ∃o,ops[i+j]?=some o∧F (i+j) (x'a ops i E res j) o (res (i+j)))∧K (x'a ops i E res m) (news++v'v ops res i m)
 |0,i,l,E,news,_,h=>⟨fun _=> .skip,fun j hj=>by omega,by rw[v'v,z'r];exact h⟩
 |m+1,i,[],E,news,_,h=>h.elim
 |m+1,i,o::l,E,news,hl,h=>by
  obtain⟨r,hok,h2⟩:=h
  have ho:ops[i]?=some o:=by
   have:(ops.toList.drop i)[0]?=some o:=by rw[←hl];rfl
   rw[x'i]at this
   simpa using this
  have hl2:l=ops.toList.drop (i+1):=by
   have:ops.toList.drop (i+1)=(ops.toList.drop i).drop 1:=by rw[w'H]
   rw[this, ←hl];rfl
  obtain⟨res',h3,h4⟩:=VCp.extract m (i+1) l _ _ hl2 h2
  let res:Nat→FRes:=fun k=>if k=i then r else res' k
  have hri:res i=r:=by simp[res]
  have hr: ∀k,i+1≤k→res' k=res k:=fun k hk=>by simp only[res];rw[if_neg (by omega)]
  have hd:y'd ops i=o.dst:=by simp[y'd,ho]
  have hen: ∀j,x'a ops i E res (j+1)=x'a ops (i+1) (updO E o.dst r.d) res' j:=fun j=>by
   rw[ZdL,hri,hd,ZcD (fun k hk=>(hr k hk).symm)]
  refine⟨res,fun j hj=>?_,?_⟩
  ·cases j with
   |zero=>exact⟨o,ho,by rw[w'M,hri];exact hok⟩
   |succ j=>
    obtain⟨o',h5,h6⟩:=h3 j (by omega)
    rw[show i+(j+1)=i+1+j by omega]
    refine⟨o',h5,?_⟩
    rw[hen, ←hr _ (by omega)]
    exact h6
  ·rw[hen,v'v,Zcb m (i+1) (fun k hk=>(hr k hk).symm)]
   rw[ZbD,hri,hd, ←z'7]
   exact h4
theorem ZhP {ops:Array Oper} {E:Nat→D} {R0 R1:Nat→FRes} (h: ∀k,(R0 k).d=(R1 k).d) {i:Nat}: ∀j,x'a ops i E R0 j=x'a ops i E R1 j
 |0=>rfl
 |j+1=>by rw[x'a,x'a,ZhP h j,h]
section
variable {P : Program} {x : Ctx} {ops : Array Oper} {f : Nat} {H : Heap} {E : Nat → D} {a0 : Act} {ws : World}
theorem Zky {R0 R1:Nat→FRes} (hB:v'L ops f) (hs0:SRel x ⟨E,H⟩ a0 ws) {Q:Exit→Act→World→Prop} {blk:Nat→List Nat} {listed:Array Bool} {a:Act} {w:World} (h:FInv x ops f R0 H a0 ws blk listed a w)
  {kk st:Nat} {s:Tmp} {ty:TypeId} {z z':List D} (hz:z'.length=z.length) (hkf:kk<f) (hkd:y'd ops kk=some s) (hR:R0 kk= .new (.cells ty z)) (hR1:R1 kk= .new (.cells ty z')) (heq: ∀k,k≠kk→R1 k=R0 k)
  (hRs:R0 st= .det (.is undef)) (hr:st∈Region.ready .any ops listed) (hsf:st<f) {o:Oper} (ho:ops[st]?=some o) (hg:o.guard=none) (hd:o.dst=none) (hks:y'9 ops st kk=true)
  (hop: ∀b,b∉H.blocks→OpS P o (evD (upd (x'a ops 0 E R0 st) s (.is (.pointer (some ⟨b,0,none⟩))))) ((b,.cells ty z.length z)::H) (fun d' H'=>d'= .is undef∧H'=(b,.cells ty z.length z')::H)):
  wpOp P ops Q st (fun a' w'=> ∃blk',FInv x ops f R1 H a0 ws blk' (listed.setIfInBounds st true) a' w') a w:=by
 obtain⟨hisz,hil,o',ho',hready⟩:=x'D h.lsize hr
 rw[ho]at ho';cases ho'
 have hisz':st<listed.size:=by rw[h.lsize];exact hisz
 have hm: ∀k,isL (listed.setIfInBounds st true) k↔k=st∨isL listed k:=fun k=>w'R hisz'
 have hd0:y'd ops st=none:=by simp[y'd,ho,hd]
 have hdown: ∀j e,isL listed j→e∈ZaK ops j→isL listed e:=fun j e hj he=>by
  obtain⟨oj,ed,h1,h2,h3,rfl⟩:=y'V.1 he
  exact h.down j oj h1 hj ed h2 h3
 have hkl:isL listed kk:=x'v hdown _ st kk (fun e he=>by
  obtain⟨oj,ed,h1,h2,h3,rfl⟩:=y'V.1 he
  rw[ho]at h1;cases h1
  exact hready ed h2 h3) hks
 have hsl:=h.slots kk s hkl hkd
 rw[hR]at hsl
 obtain⟨d,Hk,hsay,hbk,hnd,hv,hrel⟩:=hsl
 obtain⟨b,rfl,rfl⟩:=hsay
 have hbb:b∈blk kk:=by rw[←hbk];simp[Heap.blocks]
 have hbk1: ∀b2,b2∈blk kk→b2=b:=fun b2 h2=>by rw[←hbk]at h2;simpa[Heap.blocks]using h2
 have hbL:L1 x.L0 R0 blk listed b:= .inr ⟨kk,_,hkl,hR,hbb⟩
 have hbH:b∉H.blocks:=fun hm=>h.inv.apart b hm hbL
 have hbw:=h.blks kk _ hkl hR b hbb
 let LL:Nat→Prop:=fun b2=>L1 x.L0 R0 blk listed b2∧b2≠b
 have hsame: ∀(c:HC) b2,live ((b,c)::H) LL b2↔live H (L1 x.L0 R0 blk listed) b2:=fun c b2=>by
  simp only[live,LL,Heap.blocks,z'z,z'L]
  constructor
  ·rintro(⟨h1,_⟩|rfl|h1)
   ·exact .inl h1
   ·exact .inl hbL
   ·exact .inr h1
  ·rintro(h1|h1)
   ·by_cases e:b2=b
    ·exact .inr (.inl e)
    ·exact .inl ⟨h1,e⟩
   ·exact .inr (.inr h1)
 have kk1:Keeps w (live H (L1 x.L0 R0 blk listed)) w (live ((b,.cells ty z.length z)::H) LL):=Keeps.less fun b2 _ hb=>(hsame _ b2).1 hb
 have hi1:HInv w LL ((b,.cells ty z.length z)::H):=
  {rel:=fun b2 c hm2=>by
    rcases z'L.1 hm2 with hm2|hm2
    ·cases hm2
     exact(hrel b _ (z'C ..)).mono kk1 rfl
    ·exact(h.inv.rel b2 c hm2).mono kk1 rfl
   nodup:=by
    simp only[Heap.blocks,z'z,x'A]
    exact⟨hbH,h.inv.nodup⟩
   apart:=fun b2 hb2 hL=>by
    simp only[Heap.blocks,z'z,z'L]at hb2
    rcases hb2 with hb2|hb2
    ·exact hL.2 hb2
    ·exact h.inv.apart b2 hb2 hL.1
   old:=fun b2 hL=>h.inv.old b2 hL.1}
 have ev: ∀y,y∈o.op.operands→Rel w (live ((b,.cells ty z.length z)::H) LL) (evD (upd (x'a ops 0 E R0 st) s (.is (.pointer (some ⟨b,0,none⟩)))) y) (a.eval y):=fun y hy=>by
  have e:=Rel.mono kk1 _ _ (h.ev hB hs0 ho hsf hil hready y hy)
  cases y with
  |tmp t=>
   by_cases es:s=t
   ·subst es
    have:evD (upd (x'a ops 0 E R0 st) s (.is (.pointer (some ⟨b,0,none⟩)))) (.tmp s)= .is (.pointer (some ⟨b,0,none⟩)):=by simp[evD,upd]
    rw[this]
    exact Rel.mono kk1 _ _ hv
   ·have hst:(s == t)=false:=by simpa using es
    have:evD (upd (x'a ops 0 E R0 st) s (.is (.pointer (some ⟨b,0,none⟩)))) (.tmp t)=evD (x'a ops 0 E R0 st) (.tmp t):=by simp[evD,upd,hst]
    rw[this]
    exact e
  |const v=>exact e
  |global g=>exact e
  |func g=>exact e
 unfold wpOp
 rw[ho]
 simp only
 have hwant:Region.wanted o (yielded ops a.tmps)=true:=by simp[Region.wanted,hg]
 rw[if_pos hwant]
 refine .inl ?_
 refine(hop b hbH w LL a.eval hi1 ev).upon ?_
 rintro v w' ⟨d',H',⟨rfl,rfl⟩,hv',hi',he⟩
 refine⟨blk,?_⟩
 have hput:a.put o.dst v=a:=by rw[hd];rfl
 rw[hput]
 have hnew: ∀k n,isL (listed.setIfInBounds st true) k→R1 k= .new n→isL listed k∧ ∃n0,R0 k= .new n0:=fun k n hk hk1=>by
  by_cases e:k=kk
  ·subst e;exact⟨hkl,_,hR⟩
  ·rw[heq k e]at hk1
   rcases(hm k).1 hk with rfl|hk
   ·rw[hRs]at hk1;cases hk1
   ·exact⟨hk,n,hk1⟩
 have hL1: ∀b2,L1 x.L0 R1 blk (listed.setIfInBounds st true) b2↔L1 x.L0 R0 blk listed b2:=fun b2=>by
  constructor
  ·rintro(h1|⟨k,n,h1,h2,h3⟩)
   ·exact .inl h1
   ·obtain⟨q1,n0,q2⟩:=hnew k n h1 h2
    exact .inr ⟨k,n0,q1,q2,h3⟩
  ·rintro(h1|⟨k,n,h1,h2,h3⟩)
   ·exact .inl h1
   ·by_cases e:k=kk
    ·subst e;exact .inr ⟨k,_,(hm k).2 (.inr h1),hR1,h3⟩
    ·exact .inr ⟨k,n,(hm k).2 (.inr h1),by rw[heq k e];exact h2,h3⟩
 have hs2: ∀b2,live H (L1 x.L0 R1 blk (listed.setIfInBounds st true)) b2↔live ((b,.cells ty z.length z')::H) LL b2:=fun b2=>by
  rw[hsame]
  simp only[live,hL1]
 have kk2:Keeps w' (live ((b,.cells ty z.length z')::H) LL) w' (live H (L1 x.L0 R1 blk (listed.setIfInBounds st true))):=Keeps.less fun b2 _ hb=>(hs2 b2).1 hb
 have hkeep:Keeps w (live H (L1 x.L0 R0 blk listed)) w' (live H (L1 x.L0 R1 blk (listed.setIfInBounds st true))):=fun b2 hb2 hn=>by
  obtain⟨q1,q2⟩:=he.keeps (L0:=LL) b2 hb2 (fun hl=>hn ((hsame _ b2).1 hl))
  exact⟨q1,fun hl=>q2 ((hs2 b2).1 hl)⟩
 have hold: ∀k n,isL listed k→k≠kk→R0 k= .new n→ ∀b2,b2∈blk k→w'.heap[b2]?=w.heap[b2]?:=fun k n hk hkn hr2 b2 hb2=>by
  refine he.block b2 (h.blks k n hk hr2 b2 hb2).2 fun hmm=>?_
  simp only[Heap.blocks,z'z,z'L]at hmm
  rcases hmm with rfl|hmm
  ·exact hkn (h.inj k kk n _ hk hkl hr2 hR b2 hb2 hbb)
  ·exact h.inv.apart b2 hmm (.inr ⟨k,n,hk,hr2,hb2⟩)
 refine{lsize:=by simp[h.lsize],down:=?_,front:=?_,slots:=?_,blks:=?_,inj:=?_,rest:=?_,inv:=?_,evo:=?_,defers:=h.defers,size:=h.size}
 ·intro k ok hok hk e he2 hb
  rw[hm]at hk⊢
  rcases hk with rfl|hk
  ·rw[ho]at hok;cases hok
   exact .inr (hready e he2 hb)
  ·exact .inr (h.down k ok hok hk e he2 hb)
 ·intro k hk
  rcases(hm k).1 hk with rfl|hk
  ·exact hsf
  ·exact h.front k hk
 ·intro k t hk hkt
  rcases(hm k).1 hk with rfl|hk
  ·rw[hd0]at hkt;cases hkt
  by_cases hkk:k=kk
  ·subst hkk
   rw[hkd]at hkt;cases hkt
   rw[hR1]
   refine⟨.is (.pointer (some ⟨b,0,none⟩)),[(b,.cells ty z'.length z')],⟨b,rfl,rfl⟩,hbk,by simp[Heap.blocks],hv,fun b2 c hbc=>?_⟩
   rcases z'L.1 hbc with hbc|hbc
   ·cases hbc
    rw[hz]
    exact(hi'.rel b _ (z'C ..)).mono kk2 rfl
   ·cases hbc
  ·rw[heq k hkk]
   have hsl:=h.slots k t hk hkt
   cases hr2:R0 k with
   |det d=>rw[hr2]at hsl;exact Rel.mono hkeep _ _ hsl
   |skip=>rw[hr2]at hsl;exact hsl
   |new n=>
    rw[hr2]at hsl
    obtain⟨d,Hk,h1,h2,h3,h4,h5⟩:=hsl
    refine⟨d,Hk,h1,h2,h3,Rel.mono hkeep _ _ h4,fun b2 c hbc=>(h5 b2 c hbc).mono hkeep (hold k n hk hkk hr2 b2 ?_)⟩
    rw[←h2]
    exact z'y.2 ⟨(b2,c),hbc,rfl⟩
 ·intro k n hk hr2 b2 hb2
  obtain⟨q1,n0,q2⟩:=hnew k n hk hr2
  have:=h.blks k n0 q1 q2 b2 hb2
  exact⟨this.1,y'h this.2 he.size⟩
 ·intro k l n n' hk hl hrk hrl b2 hbk2 hbl
  obtain⟨q1,n0,q2⟩:=hnew k n hk hrk
  obtain⟨q3,n1,q4⟩:=hnew l n' hl hrl
  exact h.inj k l n0 n1 q1 q3 q2 q4 b2 hbk2 hbl
 ·intro t hno
  exact h.rest t fun k hk=>hno k ((hm k).2 (.inr hk))
 ·exact
   {rel:=fun b2 c hmb=>(hi'.rel b2 c (z'e _ hmb)).mono kk2 rfl
    nodup:=h.inv.nodup
    apart:=fun b2 hb2 hl=>h.inv.apart b2 hb2 ((hL1 b2).1 hl)
    old:=fun b2 hl=>y'h (h.inv.old b2 ((hL1 b2).1 hl)) he.size}
 ·refine⟨he.os.trans h.evo.os,he.tape.trans h.evo.tape,he.output.trans h.evo.output,y'H h.evo.size he.size,fun b2 hb2 hn=>?_,fun b2 hb2=> .inl hb2⟩
  rw[he.block b2 (y'h hb2 h.evo.size) (fun hmm=>?_)]
  ·exact h.evo.block b2 hb2 hn
  ·simp only[Heap.blocks,z'z,z'L]at hmm
   rcases hmm with rfl|hmm
   ·omega
   ·exact hn hmm
theorem Zkq {R0 R1:Nat→FRes} (hB:v'L ops f) (hs0:SRel x ⟨E,H⟩ a0 ws) {Q:Exit→Act→World→Prop} {kk st:Nat} (hstf:st<f) (hks:y'9 ops st kk=true)
  (hok0: ∀j,j<f→j≠st→ ∃o,ops[j]?=some o∧FOk P ops (x'a ops 0 E R0 j) H o (R0 j)) (hok1: ∀j,j<f→j≠st→j≠kk→ ∃o,ops[j]?=some o∧FOk P ops (x'a ops 0 E R1 j) H o (R1 j))
  (hst: ∀(blk:Nat→List Nat) (listed:Array Bool) (a:Act) (w:World),FInv x ops f R0 H a0 ws blk listed a w→st∈Region.ready .any ops listed→wpOp P ops Q st (fun a' w'=> ∃blk',FInv x ops f R1 H a0 ws blk' (listed.setIfInBounds st true) a' w') a w)
  (hdst: ∀k t,y'd ops k=some t→t<x.n) (hfin: ∀blk listed a w,(∀k,isL listed k↔k<f)→FInv x ops f R1 H a0 ws blk listed a w→wpList P ops Q (ops.toList.drop f) a w):
  ∀(fuel:Nat) (blk:Nat→List Nat) (listed:Array Bool) (a:Act) (w:World),unl listed ops.size=fuel→
   (∃R,FInv x ops f R H a0 ws blk listed a w∧(isL listed st→R=R1)∧(¬isL listed st→R=R0))→wpAny P .any ops Q fuel listed a w:=by
 have hkst: ∀(blk:Nat→List Nat) (listed:Array Bool) (a:Act) (w:World) (R:Nat→FRes),isL listed st→FInv x ops f R H a0 ws blk listed a w→isL listed kk:=fun blk listed a w R hl h=>by
  have hdown: ∀j e,isL listed j→e∈ZaK ops j→isL listed e:=fun j e hj he=>by
   obtain⟨oj,ed,h1,h2,h3,rfl⟩:=y'V.1 he
   exact h.down j oj h1 hj ed h2 h3
  exact x'v hdown _ st kk (fun e he=>hdown st e hl he) hks
 intro fuel
 induction fuel with
 |zero=>
  intro blk listed a w hu hM
  obtain⟨R,h,hR1,hR0⟩:=hM
  have all: ∀k,k<ops.size→isL listed k:=fun k hk=>ZcY h.lsize hu hk
  have hfs:f=ops.size:=by
   rcases y'2 hB.le with h'|h'
   ·exact h'
   ·have:=h.front f (all f h');omega
  obtain rfl:=hR1 (all st (by omega))
  exact Zb1 hB 0 f listed a w (by omega) (z'v _) h.lsize (fun k=>⟨h.front k,fun hk=>all k (by omega)⟩) (hfin blk listed a w (fun k=>⟨h.front k,fun hk=>all k (by omega)⟩) h)
 |succ fuel ih=>
  intro blk listed a w hu hM
  obtain⟨R,h,hR1,hR0⟩:=hM
  by_cases hall: ∀k,k<f→isL listed k
  ·have hl: ∀k,isL listed k↔k<f:=fun k=>⟨h.front k,hall k⟩
   have hcount:f+(fuel+1)=ops.size:=by
    have key: ∀m,m≤ops.size→((List.range m).filter fun k=> !listed.getD k true).length=m-f:=by
     intro m
     induction m with
     |zero=>intro _;simp
     |succ m ihm=>
      intro hm
      rw[y'p,y'r,z'k,ihm (by omega)]
      by_cases hmf:m<f
      ·have:listed.getD m true=true:=(y'4 (by rw[h.lsize];omega)).2 ((hl m).2 hmf)
       rw[x'P,this];simp;omega
      ·have:listed.getD m true=false:=by
        cases hq:listed.getD m true with
        |false=>rfl
        |true=>exact absurd ((hl m).1 ((y'4 (by rw[h.lsize];omega)).1 hq)) hmf
       rw[x'P,this];simp;omega
    have:=key ops.size (z'v _)
    unfold unl at hu
    have:=hB.le
    omega
   obtain rfl:=hR1 (hall st hstf)
   exact Zb1 hB (fuel+1) f listed a w hcount (z'v _) h.lsize hl (hfin blk listed a w hl h)
  ·-- the least one that is not listed
   have hex: ∃k,k<f∧ ¬isL listed k:=by
    refine z'Z fun hn=>hall fun k hk=>z'Z fun hkl=>hn ⟨k,hk,hkl⟩
   have least: ∀m, ∀k,k≤m→k<f→ ¬isL listed k→ ∃k',k'<f∧ ¬isL listed k'∧ ∀l,l<k'→isL listed l:=by
    intro m
    induction m with
    |zero=>intro k hk hkf hkl;exact⟨k,hkf,hkl,fun l hl=>by omega⟩
    |succ m ihm=>
     intro k hk hkf hkl
     by_cases hp: ∀l,l<k→isL listed l
     ·exact⟨k,hkf,hkl,hp⟩
     ·have: ∃l,l<k∧ ¬isL listed l:=z'Z fun hn=>hp fun l hl=>z'Z fun hll=>hn ⟨l,hl,hll⟩
      obtain⟨l,h1,h2⟩:=this
      exact ihm l (by omega) (by omega) h2
   obtain⟨k0,hk0f,hk0⟩:=hex
   obtain⟨k,hkf,hkl,hkp⟩:=least k0 k0 (z'v _) hk0f hk0
   have hks:k<ops.size:=y'h hkf hB.le
   have hready:k∈Region.ready .any ops listed:=by
    refine mem_ready.2 ⟨?_,ops[k],by simp[hks],fun e he hb=>?_⟩
    ·cases hq:listed.getD k true with
     |false=>rfl
     |true=>exact absurd ((y'4 (by rw[h.lsize];omega)).1 hq) hkl
    ·have hlt:=hB.back k ops[k] (by simp[hks]) e he hb
     have:=hkp e.on hlt
     unfold isL at this
     rw[y'j,this];rfl
   refine⟨fun h0=>by rw[h0]at hready;exact absurd hready x'H,fun i hi=>?_⟩
   have hif:i<f:=by
    rcases z'g i f with h'|h'
    ·exact h'
    ·exfalso
     obtain⟨h1,h2,o,ho,hr⟩:=x'D h.lsize hi
     have he:=hB.tail i h1 h' k (by omega)
     exact hkl (x'v (S:=isL listed) (fun j' e hj' he'=>by
      obtain⟨oj,ed,q1,q2,q3,rfl⟩:=y'V.1 he'
      exact h.down j' oj q1 hj' ed q2 q3) _ i k (fun e he'=>by
      obtain⟨oj,ed,q1,q2,q3,rfl⟩:=y'V.1 he'
      rw[ho]at q1;cases q1
      exact hr ed q2 q3) he)
   obtain⟨h1,h2,_⟩:=x'D h.lsize hi
   have hu2:unl (listed.setIfInBounds i true) ops.size=fuel:=by
    have:=ZdG h.lsize h1 h2
    omega
   have hisz:i<listed.size:=by rw[h.lsize];exact h1
   by_cases his:i=st
   ·subst his
    obtain rfl:=hR0 h2
    refine wpOp_mono (fun a' w' ⟨blk',h'⟩=>ih blk' _ a' w' hu2 ⟨R1,h',fun _=>rfl,fun hn=>absurd ((w'R hisz).2 (.inl rfl)) hn⟩) (hst blk listed a w h hi)
   ·have hiff:isL (listed.setIfInBounds i true) st↔isL listed st:=by
     rw[w'R hisz]
     exact⟨fun h'=>h'.resolve_left (fun e=>his e.symm),.inr⟩
    have hokR: ∃o,ops[i]?=some o∧FOk P ops (x'a ops 0 E R i) H o (R i):=by
     by_cases hsl:isL listed st
     ·obtain rfl:=hR1 hsl
      exact hok1 i hif his (fun e=>h2 (by rw[e];exact hkst blk listed a w _ hsl h))
     ·obtain rfl:=hR0 hsl
      exact hok0 i hif his
    exact wpOp_mono (fun a' w' ⟨blk',h'⟩=>ih blk' _ a' w' hu2 ⟨R,h',fun hl=>hR1 (hiff.1 hl),fun hn=>hR0 fun hl=>hn (hiff.2 hl)⟩) (h.step hB hs0 hdst hi hif hokR)
end
def MF (P:Program) (T:Tab P) (ops:Array Oper) (H:Heap) (kk st:Nat) (s:Tmp) (ty:TypeId) (z':List D) (i:Nat) (E:Nat→D) (o:Oper) (r:FRes):Prop:=
 match Nat.beq i kk,Nat.beq i st with
 |true,_=>r= .new (.cells ty z')∧o.guard=none∧o.op= .alloc ty∧o.dst=some s∧(T.get ty).known=true∧((T.get ty).zero.map constD).all oneD=true
 |false,true=>r= .det (.is undef)∧o.guard=none∧o.dst=none∧z'.length=((T.get ty).zero.map constD).length∧
   ∀b,b∉H.blocks→OpS P o (evD (upd E s (.is (.pointer (some ⟨b,0,none⟩))))) ((b,.cells ty ((T.get ty).zero.map constD).length ((T.get ty).zero.map constD))::H) (fun d' H'=>d'= .is undef∧H'=(b,.cells ty ((T.get ty).zero.map constD).length z')::H)
 |false,false=>FOk P ops E H o r
theorem ZeD {a b:Nat} (h: ¬a=b):Nat.beq a b=false:=by
 cases hb:Nat.beq a b with
 |false=>rfl
 |true=>exact absurd (x's hb) h
theorem VC.drawM {P : Program} (T : Tab P) {n id : Nat} {l : List Oper} {E : Nat → D} {H : Heap} {Q : Exit → St → Prop} (f kk st : Nat) {s : Tmp} {ty : TypeId} (hkf : Nat.blt kk f = true) (hsf : Nat.blt st f = true) (hne : Nat.beq st kk = false) (hks : y'9 l.toArray st kk = true)
    (hB : Zbj l.toArray f = true) (hm : P.follows .mixedOrders = true) (hd : l.all (w'4 n) = true) (z' : List D)
    (h : VCp (MF P T l.toArray H kk st s ty z') (fun E' news => w'b news E' H fun E'' H'' => VCo P n l.toArray (l.drop f) ⟨E'', H''⟩ Q) f 0 l E []) : VC P n (.region id l.toArray true) ⟨E, H⟩ Q := by
  intro x a0 w hn hs
  have hB := ZaI hB
  have hs1 := hs.drew
  have hkf : kk < f := Nat.blt_eq.mp hkf
  have hsf : st < f := Nat.blt_eq.mp hsf
  have hne : ¬ st = kk := Nat.ne_of_beq_eq_false hne
  refine wp_region_any hm ?_
  obtain ⟨res, hok, hK⟩ := VCp.extract (ops := l.toArray) f 0 l E [] rfl h
  let z : List D := (T.get ty).zero.map constD
  let R0 : Nat → FRes := fun k => if k = kk then .new (.cells ty z) else res k
  have hR0 : R0 kk = .new (.cells ty z) := by simp [R0]
  have heq : ∀ k, k ≠ kk → res k = R0 k := fun k hk => by simp only [R0]; rw [if_neg hk]
  obtain ⟨ok, hok1k, hokk⟩ := hok kk hkf
  rw [y'q] at hok1k hokk
  unfold MF at hokk
  rw [show Nat.beq kk kk = true from ZaD kk] at hokk
  obtain ⟨hR1, hgk, hopk, hdk, hkn, hzo⟩ := hokk
  have hkd : y'd l.toArray kk = some s := by simp only [y'd, hok1k, x'U, hdk]
  have hdd : ∀ k, (R0 k).d = (res k).d := fun k => by
    by_cases e : k = kk
    · subst e; rw [hR0, hR1]; rfl
    · rw [heq k e]
  obtain ⟨o, host, hst0⟩ := hok st hsf
  rw [y'q] at host hst0
  unfold MF at hst0
  rw [ZeD hne, show Nat.beq st st = true from ZaD st] at hst0
  obtain ⟨hRs1, hgst, hdst0, hz, hop⟩ := hst0
  have hRs0 : R0 st = .det (.is undef) := by rw [← heq st hne]; exact hRs1
  rw [← ZhP hdd] at hop
  have hok1 : ∀ j, j < f → j ≠ st → j ≠ kk → ∃ o, l.toArray[j]? = some o ∧ FOk P l.toArray (x'a l.toArray 0 E res j) H o (res j) := fun j hj h1 h2 => by
    obtain ⟨o, q1, q2⟩ := hok j hj
    rw [y'q] at q1 q2
    unfold MF at q2
    rw [ZeD h2, ZeD h1] at q2
    exact ⟨o, q1, q2⟩
  have hok0 : ∀ j, j < f → j ≠ st → ∃ o, l.toArray[j]? = some o ∧ FOk P l.toArray (x'a l.toArray 0 E R0 j) H o (R0 j) := fun j hj h1 => by
    by_cases h2 : j = kk
    · subst h2
      exact ⟨ok, hok1k, by rw [hR0]; exact ⟨.inl hgk, ⟨s, hdk⟩, ZeA T hopk hkn hzo⟩⟩
    · obtain ⟨o, q1, q2⟩ := hok1 j hj h1 h2
      exact ⟨o, q1, by rw [ZhP hdd, ← heq j h2]; exact q2⟩
  have hdst : ∀ k t, y'd l.toArray k = some t → t < x.n := fun k t hk => hn ▸ Zdq hd k t hk
  have hnd : ∀ j n, j < f → res j = .new n → ∃ t, y'd l.toArray j = some t := by
    intro j n hj hr
    by_cases e : j = kk
    · subst e; exact ⟨s, hkd⟩
    by_cases e2 : j = st
    · subst e2; rw [hRs1] at hr; cases hr
    obtain ⟨o, ho, hf⟩ := hok1 j hj e2 e
    rw [hr] at hf
    obtain ⟨_, ⟨t, ht⟩, _⟩ := hf
    exact ⟨t, by simp only [y'd, ho, x'U, ht]⟩
  have hnone : ∀ k, ¬ isL (Array.replicate l.toArray.size false) k := by
    intro k hk
    unfold isL at hk
    rw [v'G] at hk
    split at hk <;> cases hk
  have hL0 : L1 x.L0 R0 (fun _ => []) (Array.replicate l.toArray.size false) = x.L0 := by
    funext b
    refine propext ⟨?_, .inl⟩
    rintro (h1 | ⟨k, n, h1, _⟩)
    · exact h1
    · exact absurd h1 (hnone k)
  have hunl : unl (Array.replicate l.toArray.size false) l.toArray.size = l.toArray.size := by
    unfold unl
    rw [w'8.2]
    · simp
    · intro k hk
      have := z'K.1 hk
      simpa [Array.getD] using this
  refine Zkq (x := x) (R0 := R0) (R1 := res) (E := E) (H := H) (a0 := a0) (ws := w.drew) hB hs1 hsf hks hok0 hok1 (fun blk listed a w h hr => Zky hB hs1 h hz hkf hkd hR0 hR1 heq hRs0 hr hsf host hgst hdst0 hks hop) hdst ?_ _ (fun _ => []) _ a0 w.drew hunl ?_
  · intro blk listed a w' hl hF
    have h0 : [] ++ v'v l.toArray res 0 f = v'v l.toArray res 0 f := z'N _
    rw [h0] at hK
    have hsameL : ZbZ x.L0 res blk f 0 = L1 x.L0 res blk listed := by
      funext b
      refine propext ⟨?_, ?_⟩
      · rintro (h1 | ⟨k, n, h1, h2, h3, h4⟩)
        · exact .inl h1
        · exact .inr ⟨k, n, (hl k).2 h2, h3, h4⟩
      · rintro (h1 | ⟨k, n, h1, h3, h4⟩)
        · exact .inl h1
        · exact .inr ⟨k, n, z'6 _, (hl k).1 h1, h3, h4⟩
    have henv : ∀ t, Rel w' (live H (L1 x.L0 res blk listed)) (x'a l.toArray 0 E res f t) (a.tmps.getD t undef) := by
      intro t
      by_cases hex : ∃ k, k < f ∧ y'd l.toArray k = some t
      · obtain ⟨k, hkf, hkt⟩ := hex
        rw [Zcr f hkf hkt (fun j hj hne hd' => hB.uniq k j hkf hj hne (by rw [hkt]; simp) (by rw [hd', hkt]))]
        have hsl := hF.slots k t ((hl k).2 hkf) hkt
        cases hr : res k with
        | det d => rw [hr] at hsl; exact hsl
        | skip => rw [hr] at hsl; exact hsl
        | new n => trivial
      · rw [ZbA f (fun k hk hd' => hex ⟨k, hk, hd'⟩), hF.rest t (fun k hk hd' => hex ⟨k, (hl k).1 hk, hd'⟩)]
        exact Rel.mono hF.keeps _ _ (hs1.env t)
    obtain ⟨E2, H2, hV, hS⟩ := Zdr hs1 hF hl hnd f 0 _ H (by omega) hK henv (by rw [hsameL]; exact hF.inv) (fun b => by rw [hsameL]) hF.evo
    exact hV x a w' hn hS
  · refine ⟨R0, ?_, fun hk => absurd hk (hnone _), fun _ => rfl⟩
    refine { lsize := by simp, down := fun k o _ hk => absurd hk (hnone k), front := fun k hk => absurd hk (hnone k), slots := fun k t hk => absurd hk (hnone k), blks := fun k n hk => absurd hk (hnone k),
             inj := fun k l' n n' hk => absurd hk (hnone k), rest := fun t _ => rfl, inv := by rw [hL0]; exact hs1.inv, evo := Evo.refl _ _, defers := hs1.defers, size := hs1.size }
section
variable {P : Program} (T : Tab P) {ops : Array Oper} {H : Heap} {K : (Nat → D) → List (Tmp × NewI) → Prop} {m i kk st : Nat} {s : Tmp} {ty : TypeId} {z' : List D} {E : Nat → D} {news : List (Tmp × NewI)} {o : Oper} {l : List Oper}
theorem VCm.nil (h:K E news):VCp (MF P T ops H kk st s ty z') K 0 i l E news:=h
theorem VCm.step {d:D} {t:Tmp} (h1:Nat.beq i kk=false) (h2:Nat.beq i st=false) (hg:o.guard=none) (ht:o.dst=some t) (hc:opC T o (evD E) H (fun d' H'=>d'=d∧H'=H)) (hn:VCp (MF P T ops H kk st s ty z') K m (i+1) l (upd E t d) news):
  VCp (MF P T ops H kk st s ty z') K (m+1) i (o::l) E news:=
 ⟨.det d,by unfold MF;rw[h1,h2];exact⟨.inl hg,ZaZ T hc⟩,by rw[v'2,z'r,ht];exact hn⟩
theorem VCm.alloc (h1:Nat.beq i kk=true) (hg:o.guard=none) (hop:o.op= .alloc ty) (hd:o.dst=some s) (hk:(T.get ty).known=true) (hz:((T.get ty).zero.map constD).all oneD=true) (hn:VCp (MF P T ops H kk st s ty z') K m (i+1) l (upd E s .any) (news++[(s,.cells ty z')])):
  VCp (MF P T ops H kk st s ty z') K (m+1) i (o::l) E news:=
 ⟨.new (.cells ty z'),by unfold MF;rw[h1];exact⟨rfl,hg,hop,hd,hk,hz⟩,by rw[hd];exact hn⟩
theorem VCm.store (h1:Nat.beq i kk=false) (h2:Nat.beq i st=true) (hg:o.guard=none) (hd:o.dst=none)
  (hc: ∀b,b∉H.blocks→opC T o (evD (upd E s (.is (.pointer (some ⟨b,0,none⟩))))) ((b,.cells ty ((T.get ty).zero.map constD).length ((T.get ty).zero.map constD))::H) (fun d' H'=>d'= .is undef∧H'=(b,.cells ty ((T.get ty).zero.map constD).length z')::H))
  (hz:z'.length=((T.get ty).zero.map constD).length) (hn:VCp (MF P T ops H kk st s ty z') K m (i+1) l E news):
  VCp (MF P T ops H kk st s ty z') K (m+1) i (o::l) E news:=
 ⟨.det (.is undef),by unfold MF;rw[h1,h2];exact⟨rfl,hg,hd,hz,fun b hb=>let ⟨_,q1,q2⟩:=v'H T (hc b hb);q1.mono q2⟩,by rw[v'2,z'r,hd];exact hn⟩
end
end Go.Vc
/- Contracts: where a program begins, and where a path leads. No condition. -/
namespace Go.Proofs.YtomcmfbpmkklmaaGreat
set_option maxHeartbeats 16000000
set_option linter.unusedSimpArgs false
set_option linter.unusedVariables false
set_option maxRecDepth 20000
open Go Go.Proofs Go.Vc
attribute [local irreducible] y'0 VCg VCw VCx
theorem ZkJ (n:Nat):Zaz n [.slice none 0 0]=List.replicate n (D.gs none 0):=by
 show(List.replicate n [D.gs none 0]).flatten=_
 induction n with
 |zero=>rfl
 |succ n ih=>rw[y's,z'X,ih,y's];rfl
theorem ZmC {o:Oper} {E:Operand→D} {H:Heap} {l c:Operand} {n:Nat} (ho:o.op= .makeSlice 41 l c) (hl:E l=iD (n:Nat)) (hc:E c=iD (n:Nat)) (hn:n≤1000000):
  OpS Tryz.prog o E H (fun d' H'=>d'= .sl false 1 (y'U (List.replicate n []))∧H'=H):=by
 have hcm:cMake (kdT (T.get 41)) (E l) (E c) H (fun d H'=> ∃k,d= .gs (some (k,n)) n∧H'=(k,.cells 98 (n*1) (List.replicate n (D.gs none 0)))::H):=by
  rw[hl,hc]
  show cMake (.slice 98 1 24 false [.slice none 0 0]) _ _ _ _
  refine⟨⟨by omega,rfl,by rw[z'o];omega,by omega,rfl⟩,fun k hk=>⟨k,by rw[z'o],?_⟩⟩
  rw[z'o,ZkJ]
 obtain⟨Φ,h1,h2⟩:=Zil T (E:=E) (H:=H) (K:=fun d H'=> ∃k,d= .gs (some (k,n)) n∧H'=(k,.cells 98 (n*1) (List.replicate n (D.gs none 0)))::H) ho hcm
 refine OpS.freeze (OpS.mono h1 h2) fun d H' ⟨k,q1,q2⟩=>⟨[(k,.cells 98 (n*1) (List.replicate n (D.gs none 0)))],q2,?_⟩
 rw[q1]
 have:=ZaS (g:=some (k,n)) (n:=n) (e:=98) (l:=List.replicate n (D.gs none 0)) (H:=[(k,.cells 98 (n*1) (List.replicate n (D.gs none 0)))]) (by rw[z'J];simp) (by exact z'v n) (fun b cap hb=>by cases hb;exact z'C ..) (ZgT n)
 exact this
def cf0:Cf:=⟨[],[],[],[]⟩
def v'U (u:Un):Cf:=match z'8 u with|true=>y'E u|false=>cf0
def v'T (u:Un):Int:=match z'8 u with|true=>0|false=>8
theorem ZkV {H:Heap} {d' d:D} (h:Fz H d' d):Fz H (.tup [.agg (cfC cf0),d']) (.tup [.agg [.gs none 0,.gs none 0,.gs none 0,.gs none 0],d]):=
 ⟨_,rfl,z'E ⟨_,rfl,z'E y'v (z'E y'v (z'E y'v (z'E y'v w't)))⟩ (z'E h w't)⟩
theorem ZeK (u:Un) (hu:OkU u):Pure Tryz.prog 63 [.agg (unC u)] (.tup [.agg (cfC (v'U u)),iD (v'T u)]):=by
 have k1:=hu.ini
 have k2:=hu.reg
 have cu:=ZeJ u hu
 refine Fun.fz ?_
 refine Fun.of T [.cell 2 43,.tmp 3] Tryz.func63 rfl Tryz.ntmps63 Tryz.results63 rfl (by kernel_rfl) ?_
 cases hU:z'8 u with
 |false=>
  rw[hU]at cu
  rw[show v'U u=cf0 by simp[v'U,hU],show v'T u=8 by simp[v'T,hU]]
  repeat' first|refine vb (t:=25) rfl rfl rfl rfl ?_|refine vs T rfl fun K hK=>?_;(try simp (disch:=omega) only[go_sem,Nat.reduceBEq,Nat.reduceAdd,Nat.reduceLeDiff,z'q]);(first|refine hK _ _ ?_;clear hK K|intro bq hbq;(try simp only[HB]at hbq);refine hK _ _ ?_;clear hK K|refine Op1.callp rfl rfl (cu) rfl ?_;refine hK _ _ ?_;clear hK K)|refine st rfl ?_|refine sc rfl ?_|refine nl ?_
  exact y'T T rfl hget_eq rfl rfl rfl (z'a _) (ZkV (Fz.refl _ _))
 |true=>
 rw[hU]at cu
 rw[show v'U u=y'E u by simp[v'U,hU],show v'T u=0 by simp[v'T,hU]]
 have co:=Zl6 u.init (by omega)
 repeat' first|refine vb (t:=25) rfl rfl rfl rfl ?_|refine VCg.stepS T rfl rfl (ZmC rfl rfl rfl (by omega)) ?_|refine VCg.stepS T rfl rfl (ZfX rfl rfl rfl (by omega)) ?_|refine dr (id:=4) T 9 (by kernel_rfl) ?_|refine VCg.nil T ?_;simp only[w'b,WB,Nat.reduceAdd,T43];try(refine fun(bq:Nat) hbq=>?_;(try simp only[HB]at hbq))|apply VCg.step T rfl rfl;focus((try simp (disch:=omega) only[go_sem,Nat.reduceBEq,Nat.reduceAdd]);(first|exact rfl|refine Op1.callp rfl rfl (co) rfl ?_;exact⟨rfl,rfl⟩))|refine VCg.alloc T rfl rfl rfl rfl rfl ?_|refine vs T rfl fun K hK=>?_;(try simp (disch:=omega) only[go_sem,Nat.reduceBEq,Nat.reduceAdd,Nat.reduceLeDiff,z'l,z'i]);(first|refine hK _ _ ?_;clear hK K|intro bq hbq;(try simp only[HB]at hbq);refine hK _ _ ?_;clear hK K|refine Op1.callp rfl rfl (cu) rfl ?_;refine hK _ _ ?_;clear hK K)|refine st rfl ?_|refine sc rfl ?_|refine nl ?_
 rename_i b2 hb2
 have n1: ¬bq=b2:=hbq
 refine VC.loop {p:Nat×G//p.1≤u.regs.length∧gOk p.2 p.1} (fun p=>⟨z'M [(1,.pt (unC u)),(2,pD b2),(5,pD bq),(24,z'S u.regs),(25,iD (u.regs.length:Nat)),(26,iD (p.1.1:Nat))],(bq,.cells 43 4 [z'S (List.replicate u.regs.length 0),.gs p.1.2 p.1.1,z'S u.init,.sl false 1 (y'U (List.replicate u.regs.length []))])::(b2,.cells 43 4 [.gs none 0,.gs none 0,.gs none 0,.gs none 0])::shp p.1.2 22 1 ((u.regs.take p.1.1).map Zbu) []⟩) (fun p=>u.regs.length-p.1.1) ⟨(0,none),by dsimp only;omega,rfl⟩ ?_ ?_
 ·refine Weak.sub ?_
  simp[sub,upd]
 rintro⟨⟨t,g⟩,ht,hg⟩
 dsimp only at ht hg⊢
 rcases z'g t u.regs.length with hlt|hge
 ·have hd:decide ((t:Int)<(u.regs.length:Int))=true:=by simp;omega
  have hw:IntKind.i64.wrap ((t:Int)+1)=((t+1:Nat):Int):=by rw[w64 (by omega)];omega
  obtain⟨n,hn⟩: ∃n,u.regs[t]?=some n:=⟨_,z'b hlt⟩
  have hn6:=Zec hU hn
  obtain⟨k,rfl⟩: ∃k:Nat,n=(k:Int):=⟨n.toNat,by omega⟩
  have rn:(iRs u.regs)[t]?=some [iD (k:Nat)]:=by rw[y'y,hn];rfl
  have hc2:((u.regs.take t).map Zbu).length=t*1:=by rw[z'p,z'A];omega
  have z2:(u.regs.take (t+1)).map Zbu=(u.regs.take t).map Zbu++[z'S (List.replicate k 0)]:=by
   rw[y'b,hn]
   simp[Zbu]
  repeat' first|refine VCg.stepS T rfl rfl (ZfX rfl rfl rfl (by omega)) ?_|refine dr (id:=8) T 5 (by kernel_rfl) ?_|refine gn ?_|apply VCg.step T rfl rfl;focus((try simp (disch:=omega) only[go_sem,Nat.reduceBEq,Nat.reduceMul,Nat.reduceLeDiff]);(exact rfl))|refine vs T rfl fun K hK=>?_;(try simp (disch:=omega) only[go_sem,Nat.reduceBEq,Nat.reduceAdd,Nat.reduceLeDiff,hd,hw,rn,z'l]);(first|refine hK _ _ ?_;clear hK K|refine⟨_,_,_,_,(by repeat (first|exact Sp.here|apply Sp.cons)),?_,(by exact⟨rfl,rfl⟩),⟨by decide,?_⟩,fun g' hg'=>hK _ _ ?_⟩<;>clear hK K|refine⟨?_,hK _ _ ?_⟩<;>clear hK K;focus(try omega))|refine st rfl ?_|refine sc rfl ?_|refine nl ?_
  all_goals first|exact hc2|omega|skip
  refine⟨⟨(t+1,g'),by dsimp only;omega,hg'⟩,z'G ?_ ?_,by dsimp only;omega⟩
  ·dsimp only
   rw[z2]
  ·simp[sub,upd]
 ·have hd:decide ((t:Int)<(u.regs.length:Int))=false:=by simp;omega
  obtain rfl:t=u.regs.length:=by omega
  rw[z'Q]
  repeat' first|refine vs T rfl fun K hK=>?_;(try simp (disch:=omega) only[go_sem,Nat.reduceBEq,Nat.reduceAdd,Nat.reduceLeDiff,hd]);(refine hK _ _ ?_;clear hK K)|refine st rfl ?_|refine sc rfl ?_|refine nl ?_
  refine y'T T rfl (by(try simp (disch:=omega) only[hget_ne,hget_eq]);rfl) rfl rfl rfl (z'm _) ?_
  refine⟨_,rfl,z'E ⟨_,rfl,?_⟩ (FzL.refl _ _)⟩
  refine z'E (Fz.refl _ _) (z'E ?_ (FzL.refl _ _))
  exact ZaS (e:=22) (l:=u.regs.map Zbu) (by rw[z'W];simp[y'E]) hg (fun b cap hb=>z'e _ (z'e _ (by rw[hb];exact x'k))) (ZfW u.regs)
theorem Zep (u:Un) (hu:OkU u):Pure Tryz.prog 61 [.agg (unC u)] (.tup [.agg (cfC (v'U u)),iD (v'T u)]):=by
 cases hU:z'8 u with
 |true=>
  rw[show v'U u=y'E u by simp[v'U,hU],show v'T u=0 by simp[v'T,hU]]
  exact ZlO u hu hU
 |false=>
 have cu:=ZcF u hu
 rw[hU]at cu
 rw[show v'U u=cf0 by simp[v'U,hU],show v'T u=8 by simp[v'T,hU]]
 refine Fun.fz ?_
 refine Fun.of T [.cell 2 43,.tmp 3] Tryz.func61 rfl Tryz.ntmps61 Tryz.results61 rfl (by kernel_rfl) ?_
 repeat' first|refine vb (t:=25) rfl rfl rfl rfl ?_|refine vs T rfl fun K hK=>?_;(try simp (disch:=omega) only[go_sem,Nat.reduceBEq,Nat.reduceAdd,Nat.reduceLeDiff,z'q]);(first|refine hK _ _ ?_;clear hK K|intro bq hbq;(try simp only[HB]at hbq);refine hK _ _ ?_;clear hK K|refine Op1.callp rfl rfl (cu) rfl ?_;refine hK _ _ ?_;clear hK K)|refine st rfl ?_|refine sc rfl ?_|refine nl ?_
 exact y'T T rfl hget_eq rfl rfl rfl (z'a _) (ZkV (Fz.refl _ _))
section
variable {u : Un} {c : Cf} {m r : Int} (b : Nat)
end
end Go.Proofs.YtomcmfbpmkklmaaGreat
/- Calls through method values. No condition. -/
namespace Go.Vc
set_option maxHeartbeats 16000000
set_option linter.unusedSimpArgs false
set_option linter.unusedVariables false
open Go
end Go.Vc
/- Contracts: what is seen on a circle. No condition. -/
namespace Go.Proofs.YtomcmfbpmkklmaaGreat
set_option maxHeartbeats 16000000
set_option linter.unusedSimpArgs false
set_option linter.unusedVariables false
set_option maxRecDepth 20000
open Go Go.Proofs Go.Vc
attribute [local irreducible] y'0 VCg VCw VCx
theorem Zgk {α:Type} [DecidableEq α] {l m:List α} {i:Nat} {x y:α} (hx:l[i]?=some x) (hy:m[i]?=some y) (h:x≠y):decide (l=m)=false:=decide_eq_false (ZfY hx hy h)
theorem Ze9 {α:Type} [DecidableEq α] {l m:List α} (h:l.length≠m.length):decide (l=m)=false:=decide_eq_false fun e=>h (by rw[e])
theorem Zet (a b:List Int) (ha:a.length≤1000000) (hb:b.length≤1000000):Pure Tryz.prog 127 [z'S a,z'S b] (bD (decide (a=b))):=by
 refine Fun.of T [.tmp 4] Tryz.func127 rfl Tryz.ntmps127 Tryz.results127 rfl (by kernel_rfl) ?_
 by_cases hl:a.length=b.length
 case neg=>
  have hl':((a.length:Int) != (b.length:Int))=true:=bne_iff_ne.2 (by omega)
  rw[Ze9 hl]
  repeat' first|refine vs T rfl fun K hK=>?_;(try simp (disch:=omega) only[go_sem,Nat.reduceBEq,z'l,hl']);(refine hK _ _ ?_;clear hK K)|refine st rfl ?_|refine sc rfl ?_|refine nl ?_|exact z'j T (z'a _) ⟨rfl,rfl⟩
 have hl':((a.length:Int) != (b.length:Int))=false:=by simp[hl]
 repeat' first|refine vs T rfl fun K hK=>?_;(try simp (disch:=omega) only[go_sem,Nat.reduceBEq,z'l,hl']);(refine hK _ _ ?_;clear hK K)|refine st rfl ?_|refine sc rfl ?_|refine nl ?_
 refine VC.loop {k:Nat//k≤a.length∧ ∀i,i<k→a[i]?=b[i]?} (fun p=>⟨z'M [(0,z'S a),(1,z'S b),(12,iD (a.length:Nat)),(13,iD (p.1:Nat))],[]⟩) (fun p=>a.length-p.1) ⟨0,by omega,fun i hi=>by omega⟩ ?_ ?_
 ·refine Weak.sub ?_
  simp[sub,upd]
 rintro⟨k,hk,hs⟩
 dsimp only
 rcases z'g k a.length with hlt|hge
 case inr=>
  have hd:decide ((k:Int)<(a.length:Int))=false:=by simp;omega
  rw[decide_eq_true (Zdz hl fun i hi=>hs i (by omega))]
  repeat' first|refine vs T rfl fun K hK=>?_;(try simp (disch:=omega) only[go_sem,Nat.reduceBEq,hd]);(refine hK _ _ ?_;clear hK K)|refine st rfl ?_|refine sc rfl ?_|refine nl ?_|exact z'j T (z'a _) ⟨rfl,rfl⟩
 have hd:decide ((k:Int)<(a.length:Int))=true:=by simp;omega
 have hw:IntKind.i64.wrap ((k:Int)+1)=((k+1:Nat):Int):=by rw[w64 (by omega)];omega
 have hkb:k<b.length:=by omega
 obtain⟨x,hx⟩: ∃x,a[k]?=some x:=⟨_,z'b hlt⟩
 obtain⟨y,hy⟩: ∃y,b[k]?=some y:=⟨_,z'b hkb⟩
 have hrx:(iRs a)[k]?=some [iD x]:=by rw[y'y,hx];rfl
 have hry:(iRs b)[k]?=some [iD y]:=by rw[y'y,hy];rfl
 by_cases he:x=y
 ·have he':(x != y)=false:=by simp[he]
  repeat' first|refine dr (id:=6) T 8 (by kernel_rfl) ?_|refine gn ?_|apply VCg.step T rfl rfl;focus((try simp (disch:=omega) only[go_sem,Nat.reduceBEq,hrx,hry,z'l]);(first|exact rfl|refine⟨?_,rfl⟩;try omega))|refine vs T rfl fun K hK=>?_;(try simp (disch:=omega) only[go_sem,Nat.reduceBEq,hd,hw,he']);(refine hK _ _ ?_;clear hK K)|refine st rfl ?_|refine sc rfl ?_|refine nl ?_
  refine⟨⟨k+1,by omega,Zca hs hx (by rw[hy,he])⟩,Weak.sub ?_,by simp only[];omega⟩
  simp[sub,upd]
 ·have he':(x != y)=true:=by simpa using he
  rw[Zgk hx hy he]
  repeat' first|refine dr (id:=6) T 8 (by kernel_rfl) ?_|refine gn ?_|apply VCg.step T rfl rfl;focus((try simp (disch:=omega) only[go_sem,Nat.reduceBEq,hrx,hry,z'l]);(first|exact rfl|refine⟨?_,rfl⟩;try omega))|refine vs T rfl fun K hK=>?_;(try simp (disch:=omega) only[go_sem,Nat.reduceBEq,hd,he']);(refine hK _ _ ?_;clear hK K)|refine st rfl ?_|refine sc rfl ?_|refine nl ?_|exact z'j T (z'a _) ⟨rfl,rfl⟩
theorem ZkH (a b:List En) (ha:a.length≤1000000) (hb:b.length≤1000000):Pure Tryz.prog 159 [buf a,buf b] (bD (decide (a=b))):=by
 refine Fun.of T [.tmp 4] Tryz.func159 rfl Tryz.ntmps159 Tryz.results159 rfl (by kernel_rfl) ?_
 by_cases hl:a.length=b.length
 case neg=>
  have hl':((a.length:Int) != (b.length:Int))=true:=bne_iff_ne.2 (by omega)
  rw[Ze9 hl]
  repeat' first|refine vs T rfl fun K hK=>?_;(try simp (disch:=omega) only[go_sem,Nat.reduceBEq,z't,hl']);(refine hK _ _ ?_;clear hK K)|refine st rfl ?_|refine sc rfl ?_|refine nl ?_|exact z'j T (z'a _) ⟨rfl,rfl⟩
 have hl':((a.length:Int) != (b.length:Int))=false:=by simp[hl]
 repeat' first|refine vs T rfl fun K hK=>?_;(try simp (disch:=omega) only[go_sem,Nat.reduceBEq,z't,hl']);(refine hK _ _ ?_;clear hK K)|refine st rfl ?_|refine sc rfl ?_|refine nl ?_
 refine VC.loop {k:Nat//k≤a.length∧ ∀i,i<k→a[i]?=b[i]?} (fun p=>⟨z'M [(0,buf a),(1,buf b),(12,iD (a.length:Nat)),(13,iD (p.1:Nat))],[]⟩) (fun p=>a.length-p.1) ⟨0,by omega,fun i hi=>by omega⟩ ?_ ?_
 ·refine Weak.sub ?_
  simp[sub,upd]
 rintro⟨k,hk,hs⟩
 dsimp only
 rcases z'g k a.length with hlt|hge
 case inr=>
  have hd:decide ((k:Int)<(a.length:Int))=false:=by simp;omega
  rw[decide_eq_true (Zdz hl fun i hi=>hs i (by omega))]
  repeat' first|refine vs T rfl fun K hK=>?_;(try simp (disch:=omega) only[go_sem,Nat.reduceBEq,hd]);(refine hK _ _ ?_;clear hK K)|refine st rfl ?_|refine sc rfl ?_|refine nl ?_|exact z'j T (z'a _) ⟨rfl,rfl⟩
 have hd:decide ((k:Int)<(a.length:Int))=true:=by simp;omega
 have hw:IntKind.i64.wrap ((k:Int)+1)=((k+1:Nat):Int):=by rw[w64 (by omega)];omega
 have hkb:k<b.length:=by omega
 obtain⟨x,hx⟩: ∃x,a[k]?=some x:=⟨_,z'b hlt⟩
 obtain⟨y,hy⟩: ∃y,b[k]?=some y:=⟨_,z'b hkb⟩
 have hrx:(eRs a)[k]?=some [iD x.1,iD x.2]:=by rw[x'5,hx];rfl
 have hry:(eRs b)[k]?=some [iD y.1,iD y.2]:=by rw[x'5,hy];rfl
 by_cases he:x=y
 ·have hs1:=Zca hs hx (by rw[hy,he])
  subst he
  repeat' first|refine dr (id:=6) T 8 (by kernel_rfl) ?_|refine gn ?_|apply VCg.step T rfl rfl;focus((try simp (disch:=omega) only[go_sem,Nat.reduceBEq,Nat.reduceAdd,Nat.reduceLeDiff,hrx,hry,z't,beq_self_eq_true]);(first|exact rfl|refine⟨?_,rfl⟩;try omega))|refine vs T rfl fun K hK=>?_;(try simp (disch:=omega) only[go_sem,Nat.reduceBEq,hd,hw,beq_self_eq_true,z'i]);(first|refine hK _ _ ?_;clear hK K|refine Op1.eqS rfl (Zkb _ _ _ _) rfl rfl rfl ?_;refine hK _ _ ?_;clear hK K)|refine st rfl ?_|refine sc rfl ?_|refine nl ?_|with_reducible refine gf ?_ ?_;focus(simp (disch:=omega) only[go_sem,beq_self_eq_true,z'i];done)
  refine⟨⟨k+1,by omega,hs1⟩,Weak.sub ?_,by simp only[];omega⟩
  simp[sub,upd]
 ·have hne:(x.1 == y.1&&x.2 == y.2)=false:=by
   rw[Bool.eq_false_iff]
   simp only[z'h,beq_iff_eq,ne_eq]
   exact fun h=>he (Prod.ext h.1 h.2)
  rw[Zgk hx hy he]
  repeat' first|refine dr (id:=6) T 8 (by kernel_rfl) ?_|refine gn ?_|apply VCg.step T rfl rfl;focus((try simp (disch:=omega) only[go_sem,Nat.reduceBEq,Nat.reduceAdd,Nat.reduceLeDiff,hrx,hry,z't]);(first|exact rfl|refine⟨?_,rfl⟩;try omega))|refine vs T rfl fun K hK=>?_;(try simp (disch:=omega) only[go_sem,Nat.reduceBEq,hd,hne,z'q]);(first|refine hK _ _ ?_;clear hK K|refine Op1.eqS rfl (Zkb _ _ _ _) rfl rfl rfl ?_;refine hK _ _ ?_;clear hK K)|refine st rfl ?_|refine sc rfl ?_|refine nl ?_|exact z'j T (z'a _) ⟨rfl,rfl⟩|with_reducible refine gt ?_ ?_;focus(simp (disch:=omega) only[go_sem,hne,z'q];done)
theorem Zl9 (a b:List (List Int)) (ha:a.length≤1000000) (hb:b.length≤1000000) (ra: ∀r,r∈a→r.length≤1000000) (rb: ∀r,r∈b→r.length≤1000000):
  Pure Tryz.prog 128 [.sl false 1 (x'j a),.sl false 1 (x'j b)] (bD (decide (a=b))):=by
 refine Fun.of T [.tmp 4] Tryz.func128 rfl Tryz.ntmps128 Tryz.results128 rfl (by kernel_rfl) ?_
 by_cases hl:a.length=b.length
 case neg=>
  have hl':((a.length:Int) != (b.length:Int))=true:=bne_iff_ne.2 (by omega)
  rw[Ze9 hl]
  repeat' first|refine vs T rfl fun K hK=>?_;(try simp (disch:=omega) only[go_sem,Nat.reduceBEq,z'W,hl']);(refine hK _ _ ?_;clear hK K)|refine st rfl ?_|refine sc rfl ?_|refine nl ?_|exact z'j T (z'a _) ⟨rfl,rfl⟩
 have hl':((a.length:Int) != (b.length:Int))=false:=by simp[hl]
 repeat' first|refine vs T rfl fun K hK=>?_;(try simp (disch:=omega) only[go_sem,Nat.reduceBEq,z'W,hl']);(refine hK _ _ ?_;clear hK K)|refine st rfl ?_|refine sc rfl ?_|refine nl ?_
 refine VC.loop {k:Nat//k≤a.length∧ ∀i,i<k→a[i]?=b[i]?} (fun p=>⟨z'M [(0,.sl false 1 (x'j a)),(1,.sl false 1 (x'j b)),(12,iD (a.length:Nat)),(13,iD (p.1:Nat))],[]⟩) (fun p=>a.length-p.1) ⟨0,by omega,fun i hi=>by omega⟩ ?_ ?_
 ·refine Weak.sub ?_
  simp[sub,upd]
 rintro⟨k,hk,hs⟩
 dsimp only
 rcases z'g k a.length with hlt|hge
 case inr=>
  have hd:decide ((k:Int)<(a.length:Int))=false:=by simp;omega
  rw[decide_eq_true (Zdz hl fun i hi=>hs i (by omega))]
  repeat' first|refine vs T rfl fun K hK=>?_;(try simp (disch:=omega) only[go_sem,Nat.reduceBEq,hd]);(refine hK _ _ ?_;clear hK K)|refine st rfl ?_|refine sc rfl ?_|refine nl ?_|exact z'j T (z'a _) ⟨rfl,rfl⟩
 have hd:decide ((k:Int)<(a.length:Int))=true:=by simp;omega
 have hw:IntKind.i64.wrap ((k:Int)+1)=((k+1:Nat):Int):=by rw[w64 (by omega)];omega
 have hkb:k<b.length:=by omega
 obtain⟨x,hx⟩: ∃x,a[k]?=some x:=⟨_,z'b hlt⟩
 obtain⟨y,hy⟩: ∃y,b[k]?=some y:=⟨_,z'b hkb⟩
 have hrx:(x'j a)[k]?=some [z'S x]:=by rw[w'j,hx];rfl
 have hry:(x'j b)[k]?=some [z'S y]:=by rw[w'j,hy];rfl
 have c1:=Zet x y (ra x (z'f hx)) (rb y (z'f hy))
 by_cases he:x=y
 ·rw[decide_eq_true he]at c1
  repeat' first|refine dr (id:=6) T 8 (by kernel_rfl) ?_|refine gn ?_|apply VCg.step T rfl rfl;focus((try simp (disch:=omega) only[go_sem,Nat.reduceBEq,hrx,hry,z'W]);(first|exact rfl|refine⟨?_,rfl⟩;try omega))|refine vs T rfl fun K hK=>?_;(try simp (disch:=omega) only[go_sem,Nat.reduceBEq,hd,hw,z'i]);(first|refine hK _ _ ?_;clear hK K|refine Op1.callp rfl rfl (c1) rfl ?_;refine hK _ _ ?_;clear hK K)|refine st rfl ?_|refine sc rfl ?_|refine nl ?_
  refine⟨⟨k+1,by omega,Zca hs hx (by rw[hy,he])⟩,Weak.sub ?_,by simp only[];omega⟩
  simp[sub,upd]
 ·rw[decide_eq_false he]at c1
  rw[Zgk hx hy he]
  repeat' first|refine dr (id:=6) T 8 (by kernel_rfl) ?_|refine gn ?_|apply VCg.step T rfl rfl;focus((try simp (disch:=omega) only[go_sem,Nat.reduceBEq,hrx,hry,z'W]);(first|exact rfl|refine⟨?_,rfl⟩;try omega))|refine vs T rfl fun K hK=>?_;(try simp (disch:=omega) only[go_sem,Nat.reduceBEq,hd,z'q]);(first|refine hK _ _ ?_;clear hK K|refine Op1.callp rfl rfl (c1) rfl ?_;refine hK _ _ ?_;clear hK K)|refine st rfl ?_|refine sc rfl ?_|refine nl ?_|exact z'j T (z'a _) ⟨rfl,rfl⟩
theorem Zmg (a b:List (List En)) (ha:a.length≤1000000) (hb:b.length≤1000000) (ra: ∀r,r∈a→r.length≤1000000) (rb: ∀r,r∈b→r.length≤1000000):
  Pure Tryz.prog 129 [.sl false 1 (y'U a),.sl false 1 (y'U b)] (bD (decide (a=b))):=by
 refine Fun.of T [.tmp 4] Tryz.func129 rfl Tryz.ntmps129 Tryz.results129 rfl (by kernel_rfl) ?_
 by_cases hl:a.length=b.length
 case neg=>
  have hl':((a.length:Int) != (b.length:Int))=true:=bne_iff_ne.2 (by omega)
  rw[Ze9 hl]
  repeat' first|refine vs T rfl fun K hK=>?_;(try simp (disch:=omega) only[go_sem,Nat.reduceBEq,z'J,hl']);(refine hK _ _ ?_;clear hK K)|refine st rfl ?_|refine sc rfl ?_|refine nl ?_|exact z'j T (z'a _) ⟨rfl,rfl⟩
 have hl':((a.length:Int) != (b.length:Int))=false:=by simp[hl]
 repeat' first|refine vs T rfl fun K hK=>?_;(try simp (disch:=omega) only[go_sem,Nat.reduceBEq,z'J,hl']);(refine hK _ _ ?_;clear hK K)|refine st rfl ?_|refine sc rfl ?_|refine nl ?_
 refine VC.loop {k:Nat//k≤a.length∧ ∀i,i<k→a[i]?=b[i]?} (fun p=>⟨z'M [(0,.sl false 1 (y'U a)),(1,.sl false 1 (y'U b)),(12,iD (a.length:Nat)),(13,iD (p.1:Nat))],[]⟩) (fun p=>a.length-p.1) ⟨0,by omega,fun i hi=>by omega⟩ ?_ ?_
 ·refine Weak.sub ?_
  simp[sub,upd]
 rintro⟨k,hk,hs⟩
 dsimp only
 rcases z'g k a.length with hlt|hge
 case inr=>
  have hd:decide ((k:Int)<(a.length:Int))=false:=by simp;omega
  rw[decide_eq_true (Zdz hl fun i hi=>hs i (by omega))]
  repeat' first|refine vs T rfl fun K hK=>?_;(try simp (disch:=omega) only[go_sem,Nat.reduceBEq,hd]);(refine hK _ _ ?_;clear hK K)|refine st rfl ?_|refine sc rfl ?_|refine nl ?_|exact z'j T (z'a _) ⟨rfl,rfl⟩
 have hd:decide ((k:Int)<(a.length:Int))=true:=by simp;omega
 have hw:IntKind.i64.wrap ((k:Int)+1)=((k+1:Nat):Int):=by rw[w64 (by omega)];omega
 have hkb:k<b.length:=by omega
 obtain⟨x,hx⟩: ∃x,a[k]?=some x:=⟨_,z'b hlt⟩
 obtain⟨y,hy⟩: ∃y,b[k]?=some y:=⟨_,z'b hkb⟩
 have hrx:(y'U a)[k]?=some [buf x]:=by rw[y'P,hx];rfl
 have hry:(y'U b)[k]?=some [buf y]:=by rw[y'P,hy];rfl
 have c1:=ZkH x y (ra x (z'f hx)) (rb y (z'f hy))
 by_cases he:x=y
 ·rw[decide_eq_true he]at c1
  repeat' first|refine dr (id:=6) T 8 (by kernel_rfl) ?_|refine gn ?_|apply VCg.step T rfl rfl;focus((try simp (disch:=omega) only[go_sem,Nat.reduceBEq,hrx,hry,z'J]);(first|exact rfl|refine⟨?_,rfl⟩;try omega))|refine vs T rfl fun K hK=>?_;(try simp (disch:=omega) only[go_sem,Nat.reduceBEq,hd,hw,z'i]);(first|refine hK _ _ ?_;clear hK K|refine Op1.callp rfl rfl (c1) rfl ?_;refine hK _ _ ?_;clear hK K)|refine st rfl ?_|refine sc rfl ?_|refine nl ?_
  refine⟨⟨k+1,by omega,Zca hs hx (by rw[hy,he])⟩,Weak.sub ?_,by simp only[];omega⟩
  simp[sub,upd]
 ·rw[decide_eq_false he]at c1
  rw[Zgk hx hy he]
  repeat' first|refine dr (id:=6) T 8 (by kernel_rfl) ?_|refine gn ?_|apply VCg.step T rfl rfl;focus((try simp (disch:=omega) only[go_sem,Nat.reduceBEq,hrx,hry,z'J]);(first|exact rfl|refine⟨?_,rfl⟩;try omega))|refine vs T rfl fun K hK=>?_;(try simp (disch:=omega) only[go_sem,Nat.reduceBEq,hd,z'q]);(first|refine hK _ _ ?_;clear hK K|refine Op1.callp rfl rfl (c1) rfl ?_;refine hK _ _ ?_;clear hK K)|refine st rfl ?_|refine sc rfl ?_|refine nl ?_|exact z'j T (z'a _) ⟨rfl,rfl⟩
theorem ZiF (a b:Cf) (ha:OkC a) (hb:OkC b):Pure Tryz.prog 90 [.agg (cfC a),.agg (cfC b)] (bD (x'3 a b)):=by
 have c1:=Zet a.pc b.pc (by have:=ha.pc;omega) (by have:=hb.pc;omega)
 have c2:=Zet a.mem b.mem (by have:=ha.mem;omega) (by have:=hb.mem;omega)
 have c3:=Zl9 a.regs b.regs (by have:=ha.regs;omega) (by have:=hb.regs;omega) (fun r h=>by have:=ha.row r h;omega) (fun r h=>by have:=hb.row r h;omega)
 have c4:=Zmg a.bufs b.bufs (by have:=ha.bufs;omega) (by have:=hb.bufs;omega) (fun r h=>by have:=ha.buf r h;omega) (fun r h=>by have:=hb.buf r h;omega)
 refine Fun.of T [.tmp 4] Tryz.func90 rfl Tryz.ntmps90 Tryz.results90 rfl (by kernel_rfl) ?_
 cases h1:decide (a.pc=b.pc)
 ·rw[h1]at c1
  rw[show x'3 a b=false by simp only[x'3,h1,x'z]]
  repeat' first|refine vb rfl rfl rfl rfl ?_|refine vs T rfl fun K hK=>?_;(try simp (disch:=omega) only[go_sem,Nat.reduceBEq]);(first|refine hK _ _ ?_;clear hK K|refine Op1.callp rfl rfl (c1) rfl ?_;refine hK _ _ ?_;clear hK K)|refine st rfl ?_|refine nl ?_|refine gs rfl rfl ?_|exact z'j T (z'a _) ⟨rfl,rfl⟩
 rw[h1]at c1
 cases h2:decide (a.mem=b.mem)
 ·rw[h2]at c2
  rw[show x'3 a b=false by simp only[x'3,h1,h2,x'z,y'Z]]
  repeat' first|refine vb rfl rfl rfl rfl ?_|refine vs T rfl fun K hK=>?_;(try simp (disch:=omega) only[go_sem,Nat.reduceBEq]);(first|refine hK _ _ ?_;clear hK K|refine Op1.callp rfl rfl (c1) rfl ?_;refine hK _ _ ?_;clear hK K|refine Op1.callp rfl rfl (c2) rfl ?_;refine hK _ _ ?_;clear hK K)|refine st rfl ?_|refine nl ?_|refine gs rfl rfl ?_|exact z'j T (z'a _) ⟨rfl,rfl⟩
 rw[h2]at c2
 cases h3:decide (a.regs=b.regs)
 ·rw[h3]at c3
  rw[show x'3 a b=false by simp only[x'3,h1,h2,h3,x'z,y'Z]]
  repeat' first|refine vb rfl rfl rfl rfl ?_|refine vs T rfl fun K hK=>?_;(try simp (disch:=omega) only[go_sem,Nat.reduceBEq]);(first|refine hK _ _ ?_;clear hK K|refine Op1.callp rfl rfl (c1) rfl ?_;refine hK _ _ ?_;clear hK K|refine Op1.callp rfl rfl (c2) rfl ?_;refine hK _ _ ?_;clear hK K|refine Op1.callp rfl rfl (c3) rfl ?_;refine hK _ _ ?_;clear hK K)|refine st rfl ?_|refine nl ?_|refine gs rfl rfl ?_|exact z'j T (z'a _) ⟨rfl,rfl⟩
 rw[h3]at c3
 rw[show x'3 a b=decide (a.bufs=b.bufs) by simp only[x'3,h1,h2,h3,y'Z]]
 generalize decide (a.bufs=b.bufs)=x at c4
 repeat' first|refine vb rfl rfl rfl rfl ?_|refine vs T rfl fun K hK=>?_;(try simp (disch:=omega) only[go_sem,Nat.reduceBEq]);(first|refine hK _ _ ?_;clear hK K|refine Op1.callp rfl rfl (c1) rfl ?_;refine hK _ _ ?_;clear hK K|refine Op1.callp rfl rfl (c2) rfl ?_;refine hK _ _ ?_;clear hK K|refine Op1.callp rfl rfl (c3) rfl ?_;refine hK _ _ ?_;clear hK K|refine Op1.callp rfl rfl (c4) rfl ?_;refine hK _ _ ?_;clear hK K)|refine st rfl ?_|refine nl ?_|refine gs rfl rfl ?_|exact z'j T (z'a _) ⟨rfl,rfl⟩
section
variable {u : Un} {c : Cf} {m r : Int}
end
theorem Zmr {a b:Cf} (h:x'3 a b=true):b=a:=by
 simp only[x'3,z'h,decide_eq_true_eq]at h
 obtain⟨h1,h2,h3,h4⟩:=h
 cases a;cases b
 simp_all
end Go.Proofs.YtomcmfbpmkklmaaGreat
