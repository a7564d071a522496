/- Contracts: whether a case is right, and light; what is so of a right one. No condition. -/
import Derived.Test.YthlkpnjjkgmlkaaGreatYp
import Derived.Test.YthlkpnjjkgmlkaaGreatXe
import Derived.Test.YthlkpnjjkgmlkaaGreatK2
import Derived.Test.YthlkpnjjkgmlkaaGreatRows
import Derived.Test.YthlkpnjjkgmlkaaGreatK1
import Derived.ProofKit
import Derived.OpenShut
import Derived.Lib.SmallJoins
import Derived.Test.YthlkpnjjkgmlkaaGreatLa
namespace Go.Proofs.YthlkpnjjkgmlkaaGreat
set_option linter.unusedSimpArgs false
set_option linter.unusedVariables false
set_option maxRecDepth 20000
open Go Go.Proofs Go.Vc
theorem ZiR {m r md lc:Int} {b:List En} (h:v'r m r md lc b=true) {e:En} (he:e∈b):0≤e.1∧e.1<lc∧0≤e.2∧e.2<md:=by
 simp only[v'r,z'd,z'l]at h
 obtain⟨i,hi⟩:=y'u he
 have:=h.1.2 i (z'Q.2 (z'z.1 hi).1)
 simp only[ZgR,Zmm,hi,z'B,z'y,Bool.or_eq_false_iff,decide_eq_false_iff_not]at this
 omega
structure Rt (u:Un) (c:Cf) (m r:Int):Prop where
 okU:OkU u
 okC:OkC c
 rt:w'i u c m r=true
section
variable {u : Un} {c : Cf} {m r : Int}
theorem Rt.head (h:Rt u c m r):Zhf u c=true:=by
 have:=h.rt;simp only[w'i,z'd]at this;exact this.1.1
theorem Rt.unit (h:Rt u c m r):x'Q u=true:=by
 have:=h.head;simp only[Zhf,z'd]at this;exact this.1.1.1.1.1
theorem Rt.lens (h:Rt u c m r):c.pc.length=u.regs.length∧c.regs.length=u.regs.length∧c.bufs.length=u.regs.length∧c.mem.length=u.init.length∧x'A c.mem u.md=true:=by
 have:=h.head;simp only[Zhf,z'd,decide_eq_true_eq]at this
 exact⟨this.1.1.1.1.2,this.1.1.1.2,this.1.1.2,this.1.2,this.2⟩
theorem Rt.uhead (h:Rt u c m r):(2≤u.md∧u.md≤16)∧x'A u.init u.md=true∧u.init.length≤6∧(1≤u.regs.length∧u.regs.length≤4)∧u.code.length=u.regs.length:=by
 have:=h.unit;simp only[x'Q,Zau,z'd,decide_eq_true_eq]at this
 exact⟨⟨this.1.1.1.1.1.1.1,this.1.1.1.1.1.1.2⟩,this.1.1.1.1.1.2,this.1.1.1.1.2,⟨this.1.1.1.2,this.1.1.2⟩,this.1.2⟩
theorem Rt.thr (h:Rt u c m r) {t:Nat} (ht:t<u.regs.length):ZgN u c m r t=true:=by
 have:=h.rt;simp only[w'i,z'd,z'l]at this
 exact this.1.2 t (z'Q.2 ht)
theorem Rt.tail (h:Rt u c m r):v'r m r u.md u.init.length []=true:=by
 have:=h.rt;simp only[w'i,z'd]at this;exact this.2
theorem Rt.row (h:Rt u c m r) {t:Nat} (ht:t<u.regs.length):ZcO (u.regs.getD t 0) u.init.length (u.code.getD t [])=true:=by
 have:=h.unit;simp only[x'Q,z'd,z'l]at this
 exact this.2 t (z'Q.2 ht)
theorem Rt.gate (h:Rt u c m r):(1≤m∧m≤3)∧(1≤r∧r≤4):=by
 have:=h.tail;simp only[v'r,Zex,z'd,decide_eq_true_eq]at this
 omega
theorem Rt.locs (h:Rt u c m r):Zsa c:=by
 intro b hb e he
 obtain⟨i,hi⟩:=y'u hb
 have hl:=h.lens
 have hil:i<c.bufs.length:=(z'z.1 hi).1
 have ht:=h.thr (t:=i) (by omega)
 simp only[ZgN,z'd,z'f,hi,z'B]at ht
 have:=ZiR ht.2 he
 omega
end
theorem Zs6 {md:Int} (hm:2≤md) {own mem:List Int} {all:List (List Int)} {l:List Opc} (h:Znn l md own all mem=true): ∀k,k≤l.length→ ∃s,RunI md own all mem l k s:=by
 simp only[Znn,v'j,z'd,z'l]at h
 intro k
 induction k with
 |zero=>intro _;exact⟨[],RunI.zero (by simp_all)⟩
 |succ k ih=>
  intro hk
  obtain⟨s,hs⟩:=ih (by omega)
  obtain⟨x,hx⟩: ∃x,l[k]?=some x:=⟨_,z'k (by omega)⟩
  exact⟨_,(hs.next hm hx (by simp_all[z'E hx]) (by simp_all) (by simp_all) (by simp_all)).2⟩
theorem Zmk {md:Int} (hm:2≤md) (own mem:List Int) (all:List (List Int)) (l:List Opc):0≤Zno l md own all mem∧Zno l md own all mem<md:=by
 unfold Zno
 cases hv:Znn l md own all mem with
 |false=>exact⟨Int.le_refl _,show(0:Int)<md by omega⟩
 |true=>
  obtain⟨s,hs⟩:=Zs6 hm hv l.length (z'c _)
  have hr:=hs.run
  rw[List.drop_length]at hr
  simp only
  rw[←hr]
  exact v'S hs.inm (by omega) 0
structure Zr9 (u:Un) (c:Cf) (i:Nat) (x:Ins) (row:List Int) (b:List En) (p:Nat):Prop where
 thr:Thr u c i x row b
 pc:c.pc[i]?=some (p:Int)
 pl:p≤100000
 fit:Fit u (setP c i ((p+1:Nat):Int)) i x row b
 kind: ∃rw n,u.code[i]?=some rw∧u.regs[i]?=some n∧rw[p]?=some x∧(row.length:Int)=n∧(x.op=22∨w'w x n u.init.length rw.length=true∧p+1<rw.length)
theorem OkC.setP {c:Cf} (h:OkC c) (i:Nat) (n:Int):OkC (setP c i n):=⟨by simpa[Go.Proofs.YthlkpnjjkgmlkaaGreat.setP]using h.pc,h.mem,h.regs,h.row,h.bufs,h.buf⟩
theorem Zt1:ndF 2=some ⟨true,false,true,false,false,false⟩:=rfl
theorem ZsD:ndF 3=some ⟨true,true,false,false,false,false⟩:=rfl
theorem Zt2:ndF 4=some ⟨false,true,true,false,false,false⟩:=rfl
theorem ZsE:ndF 5=some ⟨true,true,true,true,false,false⟩:=rfl
theorem ZsF:ndF 6=some ⟨true,true,true,false,false,false⟩:=rfl
theorem ZsG:ndF 7=some ⟨true,true,true,false,false,false⟩:=rfl
theorem Zt3:ndF 9=some ⟨false,true,true,false,true,false⟩:=rfl
theorem ZtE:ndF 20=some ⟨false,false,false,false,false,true⟩:=rfl
theorem ZtF:ndF 21=some ⟨false,false,true,false,false,true⟩:=rfl
theorem ZrF {x:Ins} {n l k:Int} (h:w'w x n l k=true) (ho:x.op=2∨x.op=3∨x.op=5∨x.op=6∨x.op=7):0≤x.reg∧x.reg<n:=by
 unfold w'w at h
 rcases ho with ho|ho|ho|ho|ho
 ·rw[ho,Zt1]at h;simp only[x'a,z'd]at h;exact x'O.1 h.1.1.1.1.1
 ·rw[ho,ZsD]at h;simp only[x'a,z'd]at h;exact x'O.1 h.1.1.1.1.1
 ·rw[ho,ZsE]at h;simp only[x'a,z'd]at h;exact x'O.1 h.1.1.1.1.1
 ·rw[ho,ZsF]at h;simp only[x'a,z'd]at h;exact x'O.1 h.1.1.1.1.1
 ·rw[ho,ZsG]at h;simp only[x'a,z'd]at h;exact x'O.1 h.1.1.1.1.1
theorem ZlW {x:Ins} {n l k:Int} (h:w'w x n l k=true) (ho:x.op=3∨x.op=4∨x.op=5∨x.op=6∨x.op=7∨x.op=9):0≤x.loc∧x.loc<l:=by
 unfold w'w at h
 rcases ho with ho|ho|ho|ho|ho|ho
 ·rw[ho,ZsD]at h;simp only[x'a,z'd]at h;exact x'O.1 h.1.1.1.1.2
 ·rw[ho,Zt2]at h;simp only[x'a,z'd]at h;exact x'O.1 h.1.1.1.1.2
 ·rw[ho,ZsE]at h;simp only[x'a,z'd]at h;exact x'O.1 h.1.1.1.1.2
 ·rw[ho,ZsF]at h;simp only[x'a,z'd]at h;exact x'O.1 h.1.1.1.1.2
 ·rw[ho,ZsG]at h;simp only[x'a,z'd]at h;exact x'O.1 h.1.1.1.1.2
 ·rw[ho,Zt3]at h;simp only[x'a,z'd]at h;exact x'O.1 h.1.1.1.1.2
theorem Zoj {x:Ins} {n l k:Int} (h:w'w x n l k=true) (ho:x.op=20∨x.op=21):0≤x.to∧x.to<k:=by
 unfold w'w at h
 rcases ho with ho|ho
 ·rw[ho,ZtE]at h;simp only[x'a,z'd]at h;exact x'O.1 h.1.1.1.2
 ·rw[ho,ZtF]at h;simp only[x'a,z'd]at h;exact x'O.1 h.1.1.1.2
theorem Rt.at {u:Un} {c:Cf} {m r:Int} (h:Rt u c m r) {i:Nat} (hi:i<c.pc.length): ∃x row b p,Zr9 u c i x row b p:=by
 have hl:=h.lens
 have hu:=h.uhead
 have hir:i<u.regs.length:=by omega
 obtain⟨n,hn⟩: ∃n,u.regs[i]?=some n:=⟨_,z'k hir⟩
 obtain⟨rw,hrw⟩: ∃r,u.code[i]?=some r:=⟨_,z'k (by omega)⟩
 obtain⟨p,hp⟩: ∃p,c.pc[i]?=some p:=⟨_,z'k hi⟩
 obtain⟨row,hro⟩: ∃p,c.regs[i]?=some p:=⟨_,z'k (by omega)⟩
 obtain⟨b,hb⟩: ∃p,c.bufs[i]?=some p:=⟨_,z'k (by omega)⟩
 have ht:=h.thr hir
 simp only[ZgN,z'd,decide_eq_true_eq,z'f,hn,hrw,hp,hro,hb,z'B]at ht
 obtain⟨⟨⟨⟨h0,h1⟩,h2⟩,h3⟩,h4⟩:=ht
 obtain⟨q,rfl⟩: ∃q:Nat,p=(q:Int):=⟨p.toNat,by omega⟩
 obtain⟨x,hx⟩: ∃x,rw[q]?=some x:=⟨_,z'k (by omega)⟩
 have hrow:=h.row hir
 simp only[ZcO,z'd,decide_eq_true_eq,z'f,hn,hrw,z'B,z'l]at hrow
 obtain⟨⟨⟨⟨⟨w0,w1⟩,w2⟩,w3⟩,w4⟩,w5⟩:=hrow
 have hrl:=h.okU.row rw (z'E hrw)
 have hins:=h.okU.ins rw (z'E hrw) x (z'E hx)
 have hk:x.op=22∨w'w x n u.init.length rw.length=true∧q+1<rw.length:=by
  rcases z'g (q+1) rw.length with hlt|hge
  ·refine .inr ⟨?_,hlt⟩
   have:=w5 q (z'Q.2 (by omega))
   rwa [hx,z'B]at this
  ·left
   have:rw.length-1=q:=by omega
   rw[this,hx,z'B]at w4
   simp only[Zd7,z'd,decide_eq_true_eq]at w4
   exact w4.1
 have hval: ∀l,0≤v'8 u row l∧v'8 u row l<u.md:=fun l=>Zmk (by omega) _ _ _ _
 refine⟨x,row,b,q,⟨⟨⟨rw,q,hp,hrw,by omega,by rw[z'b];exact hx⟩⟩,hro,hb,hins.1,hins.2⟩,hp,by omega,?_,rw,n,hrw,hn,hx,h2,hk⟩
 exact{
  okc:=h.okC.setP i _
  pc:=by simpa[setP]using hi
  reg:=hro
  buf:=hb
  e:=hins.1
  f:=hins.2
  r:=fun ho=>by
   rcases hk with hk|⟨hk,_⟩
   ·omega
   ·have:=ZrF hk ho;omega
  l:=fun ho=>by
   rcases hk with hk|⟨hk,_⟩
   ·omega
   ·have:=ZlW hk (by omega)
    show _∧_<(c.mem.length:Int)
    omega
  m:=fun n hn=>by
   have:=z'l.1 (show c.mem.all (fun n=>inB n u.md)=true from hl.2.2.2.2) n hn
   have:=x'O.1 this
   omega
  v:=by have:=hval x.e;omega
  md:=by omega}
theorem Zp4 {m loc:Int} {b:List En}:(ZcM m loc b).1.length≤b.length:=by
 unfold ZcM
 cases ZbU m loc b with
 |none=>simp
 |some k=>simp[Zd5];omega
theorem OkC.flush {c:Cf} (h:OkC c) (m t loc:Int):OkC (ZeQ c m t loc):=by
 unfold ZeQ
 cases hb:ZgW c m t loc with
 |false=>exact h
 |true=>
  refine⟨h.pc,by simpa[ZcV,Zfo]using h.mem,h.regs,h.row,by simpa[ZcV,Zfo]using h.bufs,fun b hb=>?_⟩
  simp only[ZcV,Zfo]at hb
  rcases List.mem_or_eq_of_mem_set hb with h'|rfl
  ·exact h.buf b h'
  ·refine y'b Zp4 ?_
   rw[z'f]
   cases he:c.bufs[t.toNat]? with
   |none=>simp
   |some x=>exact h.buf x (z'E he)
open Go Go.Proofs Go.Vc Go.ChangeShapes Go.WideShapes Go.ChangeAt Go.RowKit Go.Joins
theorem ZsS:ownKnob Tryz.prog.godebug=none:=by kernel_rfl
theorem Zio {P:Program} {f:FuncId} {args:List D} (h:Pure P f args (bD true)) (w:World) (vs:List Value) (hr:RelL w (live [] (fun _=>False)) args vs):
  Calls P f vs.toArray w fun e w'=>e= .returned (.bool true)∧Below w.heap.size w w':=by
 refine(h.2 w (fun _=>False) vs ⟨fun b c hm=>(by cases hm),w'F,fun b hb=>(by cases hb),fun b hb=>hb.elim⟩ hr).mono ?_
 rintro e w' ⟨v,he,d,H',⟨rfl,rfl⟩,h1,h2,h3⟩
 have hv:v= .bool true:=h1
 subst hv
 exact⟨he,h3.os,h3.tape,h3.output,h3.size,fun k hk=>h3.block k hk (by simp[Heap.blocks])⟩
theorem ZaK {α:Type} (f:α→List D) (Q:List D→Prop) (h: ∀r,Q r→ ∃x,r=f x): ∀(rows:List (List D)),(∀r,r∈rows→Q r)→ ∃b:List α,rows=b.map f
 |[],_=>⟨[],rfl⟩
 |r::rs,hr=>by
  obtain⟨b,rfl⟩:=ZaK f Q h rs fun r hr'=>hr r (z'o _ hr')
  obtain⟨x,rfl⟩:=h r (hr r (z't ..))
  exact⟨x::b,rfl⟩
def ltB (n:Int):Bool:=(decide (n≥97)&&decide (n≤122))||((decide (n≥65)&&decide (n≤90))||decide (n=95))
def dgB (n:Int):Bool:=decide (n≥48)&&decide (n≤57)
def kws:List ByteArray:=[⟨#[109,111,100]⟩,⟨#[108,111,99]⟩,⟨#[116,104,114,101,97,100]⟩,⟨#[114,101,103]⟩,⟨#[115,107,105,112]⟩,⟨#[115,101,116]⟩,⟨#[108,111,97,100]⟩,⟨#[115,116,111,114,101]⟩,⟨#[99,97,115]⟩,⟨#[102,97,100,100]⟩,⟨#[120,99,104,103]⟩,⟨#[102,101,110,99,101]⟩,⟨#[97,119,97,105,116]⟩,⟨#[105,102]⟩,⟨#[101,108,115,101]⟩,⟨#[119,104,105,108,101]⟩,⟨#[108,111,111,112]⟩,⟨#[98,114,101,97,107]⟩,⟨#[102,111,114,97,108,108]⟩,⟨#[101,120,105,115,116,115]⟩,⟨#[97,108,119,97,121,115]⟩]
def kwB (s:ByteArray):Bool:=kws.any fun x=>decide (x=s)
def byT (s:ByteArray) (k:Nat):Int:=((s.data.toList.getD k 0).toNat:Int)
def nmB (s:ByteArray):Bool:=decide (1≤s.size)&&(decide (s.size≤16)&&(ltB (byT s 0)&&(!kwB s&&((List.range s.size).all fun k=>ltB (byT s k)||dgB (byT s k)))))
def isE (s:ByteArray):Bool:=decide (s=e0)
def ndB (x:Nod):Bool:=decide (0≤x.pl)&&(
 if x.op=1 then decide (0≤x.n)&&(decide (x.n≤9999)&&(isE x.nm&&isE x.inn))
 else if x.op=2∨x.op=3 then decide (x.n=0)&&(nmB x.nm&&isE x.inn)
 else if x.op=4 then decide (x.n=0)&&(nmB x.nm&&nmB x.inn)
 else decide (x.n=0)&&(isE x.nm&&isE x.inn))
def exB (l:List Nod):Bool:=decide (l.length≤200)&&(decide (l.length≠0)&&(decide (v'U l 0=l.length)&&(l.all ndB&&decide (x'G l l.length 0≤30))))
def Zbf (x:Nod):Bool:=decide (x.op=2)||(decide (x.op=3)||decide (x.op=4))
def y'R (l:List Nod):List Nod:=l.filter Zbf
def plB (l:List Nod):Bool:=((y'R l).all fun x=>decide (x.op=2))&&exB l
def w'q (k:Int):Option ByteArray:=
 if k=1 then some ⟨#[]⟩else
 if k=2 then some ⟨#[114,101]⟩else
 if k=3 then some ⟨#[114,108]⟩else
 if k=4 then some ⟨#[108,101]⟩else
 if k=5 then some ⟨#[114,108,101,102]⟩else
 if k=6 then some ⟨#[114,108,101]⟩else
 if k=7 then some ⟨#[114,108,101]⟩else
 if k=8 then some ⟨#[]⟩else
 if k=9 then some ⟨#[108,101,110]⟩else
 if k=10 then some ⟨#[101,98,120]⟩else
 if k=11 then some ⟨#[101,98]⟩else
 if k=12 then some ⟨#[98]⟩else
 if k=13 then some ⟨#[]⟩else
 none
def x'0 (x:Sm):Bool:=match w'q x.kind with
 |none=>false
 |some p=>decide (0≤x.pl)&&((z'S p 114 == nmB x.reg)&&((z'S p 114||isE x.reg)&&((z'S p 108 == nmB x.loc)&&((z'S p 108||isE x.loc)&&
  ((match z'S p 101 with|true=>plB x.e|false=>decide (x.e.length=0))&&((match z'S p 102 with|true=>plB x.f|false=>decide (x.f.length=0))&&
  ((z'S p 110|| !x.ne)&&((z'S p 98||decide (x.body=0))&&(z'S p 120||decide (x.els=0))))))))))
def smB (l:List Sm):Bool:=decide (l.length≤200)&&(wh l 0 l.length&&(l.all x'0&&decide (sdF l l.length 0 l.length≤30)))
def in4 (n:Int):Bool:=decide (n≥0)&&decide (n≤9999)
def Za7 (l:List Nod):Bool:=((y'R l).all fun x=> !decide (x.op=2))&&exB l
def lvB (v:Lv):Bool:=nmB v.nm&&(in4 v.n&&decide (0≤v.pl))
def tdB (t:Td):Bool:=nmB t.nm&&(smB t.body&&(decide (0≤t.pl)&&t.regs.all nmB))
def cmB (c:Cm):Bool:=decide (1≤c.kind)&&(decide (c.kind≤3)&&(Za7 c.e&&decide (0≤c.pl)))
def pgB (p:Pg):Bool:=in4 p.md&&(p.locs.all lvB&&(p.ths.all tdB&&p.cms.all cmB))
def lcN (p:Pg):List ByteArray:=p.locs.map (·.nm)
def thN (p:Pg):List ByteArray:=p.ths.map (·.nm)
theorem Zkm {p:Pg} {i:Nat}:(lcN p).getD i e0=(p.locs.getD i lv0).nm:=by
 unfold lcN
 rw[z'f,z'f,z'K]
 cases p.locs[i]?<;>rfl
theorem ZoK {p:Pg} {i:Nat}:(thN p).getD i e0=(p.ths.getD i td0).nm:=by
 unfold thN
 rw[z'f,z'f,z'K]
 cases p.ths[i]?<;>rfl
def lcE (p:Pg) (i:Nat):Int×Int:=
 if 6≤i then(12,(p.locs.getD i lv0).pl)else if ixF (lcN p) (p.locs.getD i lv0).nm<i then(10,(p.locs.getD i lv0).pl)else if (p.locs.getD i lv0).n≥p.md then(11,(p.locs.getD i lv0).pl)else(0,0)
def ZgF (p:Pg):Int×Int:=y'A p.locs.length (lcE p)
def ndE (p:Pg) (regs:List ByteArray) (x:Nod):Int×Int:=
 if x.op=2∧ixF regs x.nm<0 then(9,x.pl)else if x.op=1∧x.n≥p.md then(11,x.pl)else(0,0)
def v'D (p:Pg) (regs:List ByteArray) (l:List Nod):Int×Int:=y'A l.length fun i=>ndE p regs (l.getD i z'J)
def lpB (l:List Sm) (k:Nat):Bool:=(List.range k).any fun i=>(decide ((l.getD i sm0).kind=11)||decide ((l.getD i sm0).kind=12))&&decide ((k:Int)≤i+(l.getD i sm0).body)
def z'D (a b:Int×Int):Int×Int:=if a.1=0 then b else a
def smE (p:Pg) (t:Td) (i:Nat):Int×Int:=
 if (t.body.getD i sm0).kind=13∧lpB t.body i=false then(13,(t.body.getD i sm0).pl)
 else if (isE (t.body.getD i sm0).reg=false∧ixF t.regs (t.body.getD i sm0).reg<0)∨(isE (t.body.getD i sm0).loc=false∧ixF (lcN p) (t.body.getD i sm0).loc<0)then(9,(t.body.getD i sm0).pl)
 else z'D (v'D p t.regs (t.body.getD i sm0).e) (v'D p t.regs (t.body.getD i sm0).f)
def bdE (p:Pg) (t:Td):Int×Int:=y'A t.body.length (smE p t)
def rgB (p:Pg) (t:Td) (k:Nat):Bool:=decide (ixF t.regs (t.regs.getD k e0)<k)||decide (ixF (lcN p) (t.regs.getD k e0)≥0)
def tdE (p:Pg) (i:Nat):Int×Int:=
 if 4≤i then(12,(p.ths.getD i td0).pl)else if ixF (thN p) (p.ths.getD i td0).nm<i then(10,(p.ths.getD i td0).pl)else if 6<(p.ths.getD i td0).regs.length then(12,(p.ths.getD i td0).pl)
 else if (List.range (p.ths.getD i td0).regs.length).any (rgB p (p.ths.getD i td0))=true then(10,(p.ths.getD i td0).pl)else bdE p (p.ths.getD i td0)
def Zbs (p:Pg):Int×Int:=if p.ths.length=0 then(12,0)else y'A p.ths.length (tdE p)
def cnE (p:Pg) (x:Nod):Int×Int:=
 if x.op=3∧ixF (lcN p) x.nm<0 then(9,x.pl)
 else if x.op=4∧(ixF (thN p) x.inn<0∨ixF (p.ths.getD (ixF (thN p) x.inn).toNat td0).regs x.nm<0)then(9,x.pl)
 else if x.op=1∧x.n≥p.md then(11,x.pl)else(0,0)
def cmE (p:Pg) (i:Nat):Int×Int:=
 if 8≤i then(12,(p.cms.getD i cm0).pl)else y'A (p.cms.getD i cm0).e.length fun k=>cnE p ((p.cms.getD i cm0).e.getD k z'J)
def Zgl (p:Pg):Int×Int:=y'A p.cms.length (cmE p)
def y'3 (p:Pg):Int×Int:=
 if pgB p=false then(8,0)else if p.md<2∨p.md>16 then(11,0)else z'D (ZgF p) (z'D (Zbs p) (Zgl p))
def OkE (l:List Nod):Prop:=l.length≤1000
def OkS (l:List Sm):Prop:=l.length≤1000∧ ∀x,x∈l→OkE x.e∧OkE x.f
structure v'm (p:Pg):Prop where
 locs:p.locs.length≤1000
 ths:p.ths.length≤1000
 cms:p.cms.length≤1000
 td: ∀t,t∈p.ths→t.regs.length≤1000∧OkS t.body
 cm: ∀c,c∈p.cms→OkE c.e
def mdF (l:List Nod) (lv:List Opc):Nat→Nat→List Opc
 |0,_=>[]
 |f+1,i=>if (l.getD i z'J).op≤4 then[lv.getD i (0,0,0)]
  else if (l.getD i z'J).op=5 then mdF l lv f (i+1)++[((l.getD i z'J).op,0,0)]
  else mdF l lv f (i+1)++(mdF l lv f (i+1+(y'5 (l.drop (i+1)) 1).getD 0)++[((l.getD i z'J).op,0,0)])
def lfT (regs:List ByteArray) (x:Nod):Option Opc:=
 if x.op=1 then some (1,x.n,0)else if x.op=2 then(if ixF regs x.nm<0 then none else some (2,ixF regs x.nm,0))else if x.op=3∨x.op=4 then none else some (0,0,0)
def mkE (lf:Nod→Option Opc) (l:List Nod):List Opc×Bool:=if exB l=true∧(l.all fun x=>(lf x).isSome)=true then(mdF l (l.map fun x=>(lf x).getD (0,0,0)) l.length 0,true)else([],false)
def cdT (l:List Nod) (regs:List ByteArray):List Opc:=(mkE (lfT regs) l).1
def sz1 (x:Sm):Nat:=if x.kind=1 then 0 else if x.kind=10 then(if 0<x.els then 2 else 1)else if x.kind=11 then 2 else 1
def szF (l:List Sm) (a b:Nat):Nat:=((List.range' a (b-a)).map fun i=>sz1 (l.getD i sm0)).sum
def Zsu:Ins:=⟨0,0,0,[],[],false,0⟩
def w'1 (regs locs:List ByteArray) (x:Sm):Ins:=⟨x.kind,if isE x.reg=true then 0 else ixF regs x.reg,if isE x.loc=true then 0 else ixF locs x.loc,cdT x.e regs,cdT x.f regs,x.ne,0⟩
def jpI (n:Int):Ins:=⟨20,0,0,[],[],false,n⟩
def brI (e:List Opc) (n:Int):Ins:=⟨21,0,0,e,[],false,n⟩
def rw1 (g:Nat→Nat→Nat→Int→List Ins) (l:List Sm) (regs locs:List ByteArray) (a h:Nat) (out:Int):List Ins:=
 if (l.getD a sm0).kind=1 then[]else if (l.getD a sm0).kind=13 then[jpI out]
 else if (l.getD a sm0).kind=10 then(if (l.getD a sm0).els=0 then brI (cdT (l.getD a sm0).e regs) (h+1+szF l (a+1) (mdS (l.getD a sm0) a):Nat)::g (a+1) (mdS (l.getD a sm0) a) (h+1) out
  else(brI (cdT (l.getD a sm0).e regs) (h+2+szF l (a+1) (mdS (l.getD a sm0) a):Nat)::g (a+1) (mdS (l.getD a sm0) a) (h+1) out)++
   (jpI (h+2+szF l (a+1) (mdS (l.getD a sm0) a)+szF l (mdS (l.getD a sm0) a) (eeS (l.getD a sm0) a):Nat)::g (mdS (l.getD a sm0) a) (eeS (l.getD a sm0) a) (h+2+szF l (a+1) (mdS (l.getD a sm0) a)) out))
 else if (l.getD a sm0).kind=11 then brI (cdT (l.getD a sm0).e regs) (h+2+szF l (a+1) (mdS (l.getD a sm0) a):Nat)::(g (a+1) (mdS (l.getD a sm0) a) (h+1) (h+2+szF l (a+1) (mdS (l.getD a sm0) a):Nat)++[jpI h])
 else if (l.getD a sm0).kind=12 then g (a+1) (mdS (l.getD a sm0) a) h (h+1+szF l (a+1) (mdS (l.getD a sm0) a):Nat)++[jpI h]
 else[w'1 regs locs (l.getD a sm0)]
def rwF (l:List Sm) (regs locs:List ByteArray):Nat→Nat→Nat→Nat→Int→List Ins
 |0,_,_,_,_=>[]
 |f+1,a,b,h,out=>if b≤a then[]else rw1 (rwF l regs locs f) l regs locs a h out++rwF l regs locs f (eeS (l.getD a sm0) a) b (h+(rw1 (rwF l regs locs f) l regs locs a h out).length) out
def thI (l:List Sm) (regs locs:List ByteArray):List Ins:=rwF l regs locs l.length 0 l.length 0 0++[⟨22,0,0,[],[],false,0⟩]
def mkU (p:Pg):Un:=if (y'3 p).1=0 then⟨p.md,p.locs.map (·.n),p.ths.map (fun t=>(t.regs.length:Int)),p.ths.map fun t=>thI t.body t.regs (lcN p)⟩else⟨0,[],[],[]⟩
end Go.Proofs.YthlkpnjjkgmlkaaGreat
